/- ArenaHolds: `changed`, its last kinds. No condition. -/
import Derived.Test.YtomgfdfgildkbaaDoorAh7G
namespace Go.Proofs.YtomgfdfgildkbaaDoor
open Go.RowKit Go.BigFrame
set_option linter.unusedVariables false
set_option maxRecDepth 100000 in
set_option maxHeartbeats 8000000 in
theorem changed5 (a wb B : Nat) (A : Ar) (Ls : Int → List It) (v : Value) (Q : List Gt) (o : Dt) (w : World) (tb : Tab w) (hA : ArAt w a wb A) (ok : A.Ok) (hT : ThsAt w B wb v Q) (hH : Holds A Ls Q) (hn : Q.length ≤ 1000) (h0 : 0 < Q.length) (bd : o.Bd) (hk : o.kind = 5) :
    Calls Tryd.prog 57 #[.pointer (some ⟨a, 0, none⟩), v, o.val] w fun e w' => e = .returned (.bool true) ∧ Left w w' a wb B v Q := by
  obtain ⟨o0, o1, o2, o3, o4, o5, ⟨x0, x1, x2, x3, x4, x5, x6⟩⟩ := o
  simp only at hk
  subst hk
  obtain ⟨bn, bc, bw, bs⟩ := bd
  simp only at bn bc bw bs
  obtain ⟨g, cap, rfl⟩ := hT.form h0
  have MO := Lib.hid (fun (W : World) => mod_anyA o2 Q.length W h0 (by omega) bn.1 bn.2)
  have MC := Lib.hid (fun (W : World) => mod_anyA o4 Q.length W h0 (by omega) bc.1 bc.2)
  have far := hT.far hA
  have la := lt_of_heap hA.st
  have lwb := lt_of_heap hA.ws
  have lg := (hT.lt g (mem_tfp.2 (.inl rfl))).2
  have ng : g ∉ [a, wb] := by have := far g (mem_tfp.2 (.inl rfl)); simp [this]
  have nq : w.heap.size ∉ [a, wb] := by simp; omega
  have FAR := Lib.hid far
  clear far
  unfold Dt.val Dt.cells
  simp only
  have hO := heap_one w (.cells #[.int .i64 5, .int .i64 o1, .int .i64 o2, .int .i64 o3, .int .i64 o4, .int .u64 o5, .int .u64 x0, .int .i64 x1, .int .i64 x2, .int .i64 x3, .int .i64 x4, .int .i64 x5, .bool x6] 69)
  have b0 := (Below.refl w.heap.size w).alloc (Nat.le_refl _) (.cells #[.int .i64 5, .int .i64 o1, .int .i64 o2, .int .i64 o3, .int .i64 o4, .int .u64 o5, .int .u64 x0, .int .i64 x1, .int .i64 x2, .int .i64 x3, .int .i64 x4, .int .i64 x5, .bool x6] 69)
  go_enter Tryd.func57, Tryd.ntmps57
  go_upto_region 1 with fail
  generalize w.alloc (.cells #[.int .i64 5, .int .i64 o1, .int .i64 o2, .int .i64 o3, .int .i64 o4, .int .u64 o5, .int .u64 x0, .int .i64 x1, .int .i64 x2, .int .i64 x3, .int .i64 x4, .int .i64 x5, .bool x6] 69) = w1 at *
  have hA1 := hA.below b0
  have tb1 := tb.below b0
  have hT1 := hT.below b0
  have O1 := Only.of_below (S := [a, wb]) b0
  obtain ⟨cO, fO⟩ := hcell hO
  have hql : (Q.length : Int) < 1001 := by omega
  go_wp2_with fail
  refine (MO.out _).mono ?_
  rintro e w' ⟨⟨k, hk, rfl⟩, rfl⟩
  have k0 : (0 : Int) ≤ (k : Int) := Int.natCast_nonneg _
  have k1 : (k : Int) < (Q.length : Int) := by omega
  have zc := fun j (hj : j < 11) => hT1.cell (i := k) hk hj
  have hm := getD_mem hk
  have li := hH.lies ok hm
  have HS := fun (i : Int) (i0 : 0 ≤ i) (i1 : i < (Q.getD k gt0).hd.raws) => hH.setRaw ok hk i0 i1 (v := o5)
  have TS := fun (W : World) (h : ThsAt W B wb (.slice (some ⟨g, 0, none⟩) Q.length cap) Q) (i : Nat) => h.setR hk i o5
  have TF := fun (i : Nat) => tfp_set (v := .slice (some ⟨g, 0, none⟩) Q.length cap) (Q := Q) (k := k) (q := { Q.getD k gt0 with rs := (Q.getD k gt0).rs.set i o5 }) rfl rfl
  have MB : (Q.getD k gt0).rb ∈ tfp (.slice (some ⟨g, 0, none⟩) Q.length cap) Q := mem_tfp.2 (.inr (.inr ⟨_, hm, rfl⟩))
  have BC := fun (W : World) (h : ThsAt W B wb (.slice (some ⟨g, 0, none⟩) Q.length cap) Q) => h.br _ hm
  generalize hqe : Q.getD k gt0 = q at *
  have HQ := Lib.hid hqe
  clear hqe
  obtain ⟨qat, qsp, ⟨y0, y1, y2, y3, y4, y5, y6⟩, ps, rs, pb, rb⟩ := q
  simp only at HS TF TS MB BC
  have i1 := li.obj
  have i2 := li.hd
  have hnum := li.nr
  simp only at i1 i2 hnum
  have zz : w1.cell? ⟨g, k * 11, none⟩ = some (.int .i64 qat) := zc 0 (by decide)
  have zl : w1.cell? ⟨g, k * 11 + 10, none⟩ = some (.slice (some ⟨rb, 0, none⟩) rs.length rs.length) := zc 10 (by decide)
  clear zc li
  have SHc := fun (W : World) (hb : ArAt W a wb A) (tb : Tab W) => setRaw_any a wb A qat o3 o5 W tb hb ok
  have eo : A.rawOk qat o3 = decide (0 ≤ o3 ∧ o3 < y3) := by
    unfold Ar.rawOk
    rw [i1, i2]; simp
  rw [eo] at SHc
  have OKS := Lib.hid eo
  have HN := Lib.hid hnum
  have HS' := Lib.hid HS
  have TS' := Lib.hid TS
  have TF' := Lib.hid TF
  have BC' := Lib.hid BC
  have ok3 := Lib.hid (fun (i : Int) => ok.setRawA qat i o5 bw)
  have ob : w1.cell? ⟨w.heap.size, 3, none⟩ = some (.int .i64 o3) := by rw [cO]; rfl
  have ow : w1.cell? ⟨w.heap.size, 5, none⟩ = some (.int .u64 o5) := by rw [cO]; rfl
  clear HS TS TF eo i1 i2 hnum BC MC MO
  by_cases hin : 0 ≤ o3 ∧ o3 < y3
  · rw [decide_eq_true hin] at SHc
    obtain ⟨in0, in1⟩ := hin
    obtain ⟨i, rfl⟩ := Int.eq_ofNat_of_zero_le in0
    have lpi : i < rs.length := by have := HN.out; omega
    obtain ⟨Ls', hH3⟩ := HS'.out (i : Int) in0 in1
    rw [Int.toNat_natCast] at hH3
    have ok4 := ok3.out (i : Int)
    have dg : decide (0 ≤ (i : Int)) = true := by simp
    have dl : decide (i < rs.length) = true := by simpa using lpi
    have il : (i : Int) < (rs.length : Int) := by omega
    have C1 := Lib.hid (fun (W : World) (hb : Below w1.heap.size w1 W) => (SHc W (hA1.below hb) (tb1.below hb)).mono (R' := fun e w' => e = .returned (.bool true) ∧ ArAt w' a wb (A.setRaw qat i o5) ∧ Only [a, wb] w1 w') fun e w' ⟨h1, h2, h3⟩ => ⟨h1, h2, (Only.of_below hb).trans h3⟩)
    have KE := Lib.hid (fun (W : World) (hO : Only [a, wb] w1 W) => (⟨hO.cellA ng zz, hO.cellA nq ob, hO.cellA nq ow, hO.cellA ng zl, hO⟩ : W.cell? ⟨g, k * 11, none⟩ = some (.int .i64 qat) ∧ W.cell? ⟨w.heap.size, 3, none⟩ = some (.int .i64 i) ∧ W.cell? ⟨w.heap.size, 5, none⟩ = some (.int .u64 o5) ∧ W.cell? ⟨g, k * 11 + 10, none⟩ = some (.slice (some ⟨rb, 0, none⟩) rs.length rs.length) ∧ Only [a, wb] w1 W))
    have FIN := Lib.hid (fun (W : World) (hA9 : ArAt W a wb (A.setRaw qat i o5)) (hO9 : Only [a, wb] w1 W) => (by
      have hT9 := hT1.only hA1 hO9
      have hT8 := TS'.out W hT9 i
      have mg : rb ∈ a :: wb :: tfp (.slice (some ⟨g, 0, none⟩) Q.length cap) Q := List.mem_cons_of_mem _ (List.mem_cons_of_mem _ MB)
      have r0 := mono2 (v := .slice (some ⟨g, 0, none⟩) Q.length cap) (Q := Q) (O1.trans hO9)
      refine ⟨_, Ls', _, ?_, ok4, hH3, hT8, by simp, TF'.out _, r0.setCell (p := ⟨rb, i, none⟩) mg _⟩
      exact ⟨(block_set_ne (FAR.out rb MB).1.symm).trans hA9.st, (block_set_ne (FAR.out rb MB).2.symm).trans hA9.ws, hA9.ne⟩ : Left w (W.setCell ⟨rb, i, none⟩ (.int .u64 o5)) a wb B (.slice (some ⟨g, 0, none⟩) Q.length cap) Q))
    have PCL := Lib.hid (fun (W : World) (hO9 : Only [a, wb] w1 W) => (hcell (BC'.out W (hT1.only hA1 hO9))))
    clear SHc hH3 ok4 in0 in1
    go_upto_region 19 with fail
    go_region_held3 (fun W => W.cell? ⟨g, k * 11, none⟩ = some (.int .i64 qat) ∧ W.cell? ⟨w.heap.size, 3, none⟩ = some (.int .i64 i) ∧ W.cell? ⟨w.heap.size, 5, none⟩ = some (.int .u64 o5) ∧ W.cell? ⟨g, k * 11 + 10, none⟩ = some (.slice (some ⟨rb, 0, none⟩) rs.length rs.length) ∧ Only [a, wb] w1 W) ((refine KE.out _ ?_; repeat (first | (with_reducible assumption) | (with_reducible exact Only.refl _ _) | (with_reducible refine Only.drew ?_)))) (first | (go_at_call 95; refine (C1.out _ ?_).mono ?_; (first | exact (Below.refl _ _).drew | exact (Below.refl _ _)); rintro e w' ⟨rfl, hA9, hO9⟩))
    all_goals
      obtain ⟨j0, j1, j3, j2, j4⟩ := KE.out _ hO9
      obtain ⟨pc0, pf0⟩ := PCL.out _ hO9
      have pci := pc0 i
      have pfi := pf0 i
      rw [u64s_get lpi] at pci
      generalize rs.getD i 0 = pv at *
      clear pc0 pf0
      go_upto_region 20 with fail
      go_region_held3 (fun W => W.cell? ⟨g, k * 11, none⟩ = some (.int .i64 qat) ∧ W.cell? ⟨w.heap.size, 3, none⟩ = some (.int .i64 i) ∧ W.cell? ⟨w.heap.size, 5, none⟩ = some (.int .u64 o5) ∧ W.cell? ⟨g, k * 11 + 10, none⟩ = some (.slice (some ⟨rb, 0, none⟩) rs.length rs.length) ∧ Only [a, wb] w1 W) ((refine KE.out _ ?_; repeat (first | (with_reducible assumption) | (with_reducible exact Only.refl _ _) | (with_reducible refine Only.drew ?_)))) (fail)
      all_goals
        go_upto_region 23 with fail
        go_big_region
        all_goals
          go_wp2_with fail
          go_ret
          (first | exact ⟨rfl, FIN.out _ hA9 hO9⟩ | exact ⟨rfl, FIN.out _ hA9.drew hO9.drew⟩ | exact ⟨rfl, (FIN.out _ hA9.drew hO9.drew).drew⟩ | exact ⟨rfl, (FIN.out _ hA9.drew.drew hO9.drew.drew)⟩)
  · rw [decide_eq_false hin] at SHc
    have es : A.setRaw qat o3 o5 = A := by unfold Ar.setRaw; rw [OKS.out, decide_eq_false hin]; rfl
    rw [es] at SHc
    have C1 := Lib.hid (fun (W : World) (hb : Below w1.heap.size w1 W) => (SHc W (hA1.below hb) (tb1.below hb)).mono (R' := fun e w' => e = .returned (.bool false) ∧ ArAt w' a wb A ∧ Only [a, wb] w1 w') fun e w' ⟨h1, h2, h3⟩ => ⟨h1, h2, (Only.of_below hb).trans h3⟩)
    have KE := Lib.hid (fun (W : World) (hO : Only [a, wb] w1 W) => (⟨hO.cellA ng zz, hO.cellA nq ob, hO.cellA nq ow, hO.cellA ng zl, hO⟩ : W.cell? ⟨g, k * 11, none⟩ = some (.int .i64 qat) ∧ W.cell? ⟨w.heap.size, 3, none⟩ = some (.int .i64 o3) ∧ W.cell? ⟨w.heap.size, 5, none⟩ = some (.int .u64 o5) ∧ W.cell? ⟨g, k * 11 + 10, none⟩ = some (.slice (some ⟨rb, 0, none⟩) rs.length rs.length) ∧ Only [a, wb] w1 W))
    clear SHc es
    by_cases hneg : 0 ≤ o3
    · obtain ⟨i, rfl⟩ := Int.eq_ofNat_of_zero_le hneg
      have dg : decide (0 ≤ (i : Int)) = true := by simp
      have dl : decide (i < rs.length) = false := by rw [decide_eq_false_iff_not]; have := HN.out; omega
      have il : (rs.length : Int) ≤ (i : Int) := by have := HN.out; omega
      clear hin
      go_upto_region 19 with fail
      go_region_held3 (fun W => W.cell? ⟨g, k * 11, none⟩ = some (.int .i64 qat) ∧ W.cell? ⟨w.heap.size, 3, none⟩ = some (.int .i64 i) ∧ W.cell? ⟨w.heap.size, 5, none⟩ = some (.int .u64 o5) ∧ W.cell? ⟨g, k * 11 + 10, none⟩ = some (.slice (some ⟨rb, 0, none⟩) rs.length rs.length) ∧ Only [a, wb] w1 W) ((refine KE.out _ ?_; repeat (first | (with_reducible assumption) | (with_reducible exact Only.refl _ _) | (with_reducible refine Only.drew ?_)))) (first | (go_at_call 95; refine (C1.out _ ?_).mono ?_; (first | exact (Below.refl _ _).drew | exact (Below.refl _ _)); rintro e w' ⟨rfl, hA9, hO9⟩))
      all_goals
        obtain ⟨j0, j1, j3, j2, j4⟩ := KE.out _ hO9
        go_upto_region 20 with fail
        go_region_held3 (fun W => W.cell? ⟨g, k * 11, none⟩ = some (.int .i64 qat) ∧ W.cell? ⟨w.heap.size, 3, none⟩ = some (.int .i64 i) ∧ W.cell? ⟨w.heap.size, 5, none⟩ = some (.int .u64 o5) ∧ W.cell? ⟨g, k * 11 + 10, none⟩ = some (.slice (some ⟨rb, 0, none⟩) rs.length rs.length) ∧ Only [a, wb] w1 W) ((refine KE.out _ ?_; repeat (first | (with_reducible assumption) | (with_reducible exact Only.refl _ _) | (with_reducible refine Only.drew ?_)))) (fail)
        all_goals
          go_wp2_with fail
          go_ret
          (first | exact ⟨rfl, Left.same hA ok hH hT hA9 (O1.trans hO9)⟩ | exact ⟨rfl, Left.same hA ok hH hT hA9.drew (O1.trans hO9.drew)⟩ | exact ⟨rfl, Left.same hA ok hH hT (hA9.drewN _) (O1.trans (hO9.drewN _))⟩)
    · have dg : decide (0 ≤ o3) = false := by simpa using hneg
      clear hin
      go_upto_region 19 with fail
      go_region_held3 (fun W => W.cell? ⟨g, k * 11, none⟩ = some (.int .i64 qat) ∧ W.cell? ⟨w.heap.size, 3, none⟩ = some (.int .i64 o3) ∧ W.cell? ⟨w.heap.size, 5, none⟩ = some (.int .u64 o5) ∧ W.cell? ⟨g, k * 11 + 10, none⟩ = some (.slice (some ⟨rb, 0, none⟩) rs.length rs.length) ∧ Only [a, wb] w1 W) ((refine KE.out _ ?_; repeat (first | (with_reducible assumption) | (with_reducible exact Only.refl _ _) | (with_reducible refine Only.drew ?_)))) (first | (go_at_call 95; refine (C1.out _ ?_).mono ?_; (first | exact (Below.refl _ _).drew | exact (Below.refl _ _)); rintro e w' ⟨rfl, hA9, hO9⟩))
      all_goals
        obtain ⟨j0, j1, j3, j2, j4⟩ := KE.out _ hO9
        go_upto_region 20 with fail
        go_quiet (fail)
        all_goals
          go_wp2_with fail
          go_ret
          (first | exact ⟨rfl, Left.same hA ok hH hT hA9 (O1.trans hO9)⟩ | exact ⟨rfl, Left.same hA ok hH hT hA9.drew (O1.trans hO9.drew)⟩ | exact ⟨rfl, Left.same hA ok hH hT (hA9.drewN _) (O1.trans (hO9.drewN _))⟩)
set_option maxRecDepth 100000 in
set_option maxHeartbeats 8000000 in
theorem changedN (a wb B : Nat) (A : Ar) (Ls : Int → List It) (v : Value) (Q : List Gt) (o : Dt) (w : World) (tb : Tab w) (hA : ArAt w a wb A) (ok : A.Ok) (hT : ThsAt w B wb v Q) (hH : Holds A Ls Q) (hn : Q.length ≤ 1000) (h0 : 0 < Q.length) (bd : o.Bd) (h3 : o.kind ≠ 3) (h4 : o.kind ≠ 4) (h5 : o.kind ≠ 5) :
    Calls Tryd.prog 57 #[.pointer (some ⟨a, 0, none⟩), v, o.val] w fun e w' => e = .returned (.bool true) ∧ Left w w' a wb B v Q := by
  obtain ⟨o0, o1, o2, o3, o4, o5, ⟨x0, x1, x2, x3, x4, x5, x6⟩⟩ := o
  simp only at h3 h4 h5
  have d3 : (o0 == 3) = false := by simpa using h3
  have d4 : (o0 == 4) = false := by simpa using h4
  have d5 : (o0 == 5) = false := by simpa using h5
  obtain ⟨bn, bc, bw, bs⟩ := bd
  simp only at bn bc bw bs
  obtain ⟨g, cap, rfl⟩ := hT.form h0
  have MO := Lib.hid (fun (W : World) => mod_anyA o2 Q.length W h0 (by omega) bn.1 bn.2)
  unfold Dt.val Dt.cells
  simp only
  have hO := heap_one w (.cells #[.int .i64 o0, .int .i64 o1, .int .i64 o2, .int .i64 o3, .int .i64 o4, .int .u64 o5, .int .u64 x0, .int .i64 x1, .int .i64 x2, .int .i64 x3, .int .i64 x4, .int .i64 x5, .bool x6] 69)
  have b0 := (Below.refl w.heap.size w).alloc (Nat.le_refl _) (.cells #[.int .i64 o0, .int .i64 o1, .int .i64 o2, .int .i64 o3, .int .i64 o4, .int .u64 o5, .int .u64 x0, .int .i64 x1, .int .i64 x2, .int .i64 x3, .int .i64 x4, .int .i64 x5, .bool x6] 69)
  clear h3 h4 h5
  go_enter Tryd.func57, Tryd.ntmps57
  go_upto_region 1 with fail
  generalize w.alloc (.cells #[.int .i64 o0, .int .i64 o1, .int .i64 o2, .int .i64 o3, .int .i64 o4, .int .u64 o5, .int .u64 x0, .int .i64 x1, .int .i64 x2, .int .i64 x3, .int .i64 x4, .int .i64 x5, .bool x6] 69) = w1 at *
  obtain ⟨cO, fO⟩ := hcell hO
  have hql : (Q.length : Int) < 1001 := by omega
  go_wp2_with fail
  refine (MO.out _).mono ?_
  rintro e w' ⟨⟨k, hk, rfl⟩, rfl⟩
  have k0 : (0 : Int) ≤ (k : Int) := Int.natCast_nonneg _
  have k1 : (k : Int) < (Q.length : Int) := by omega
  go_wp2_with fail
  go_ret
  exact ⟨rfl, Left.same hA ok hH hT (hA.below b0) (Only.of_below b0)⟩
theorem changed_any (a wb B : Nat) (A : Ar) (Ls : Int → List It) (v : Value) (Q : List Gt) (o : Dt) (w : World) (tb : Tab w) (hA : ArAt w a wb A) (ok : A.Ok) (hT : ThsAt w B wb v Q) (hH : Holds A Ls Q) (hn : Q.length ≤ 1000) (h0 : 0 < Q.length) (bd : o.Bd) :
    Calls Tryd.prog 57 #[.pointer (some ⟨a, 0, none⟩), v, o.val] w fun e w' => e = .returned (.bool true) ∧ Left w w' a wb B v Q := by
  by_cases h3 : o.kind = 3
  · exact changed3 a wb B A Ls v Q o w tb hA ok hT hH hn h0 bd h3
  by_cases h4 : o.kind = 4
  · exact changed4 a wb B A Ls v Q o w tb hA ok hT hH hn h0 bd h4
  by_cases h5 : o.kind = 5
  · exact changed5 a wb B A Ls v Q o w tb hA ok hT hH hn h0 bd h5
  exact changedN a wb B A Ls v Q o w tb hA ok hT hH hn h0 bd h3 h4 h5
end Go.Proofs.YtomgfdfgildkbaaDoor
