/- ArenaHolds: `changed`: one thing of the list is written anew, in the arena and in the list. No condition. -/
import Derived.Test.YtomgfdfgildkbaaDoorAh6G
import Derived.Test.YtomgfdfgildkbaaDoorAh3G
import Derived.Deep.RegionHeld3
import Derived.BigRegion
import Derived.Deep.QuietTactic
import Derived.BigQuiet
namespace Go.Proofs.YtomgfdfgildkbaaDoor
open Go.RowKit Go.BigFrame
set_option linter.unusedVariables false
theorem Ar.Ok.setHeadA {A : Ar} (ok : A.Ok) (i : Int) {g : Hd} (hs : 0 ≤ g.ser ∧ g.ser < 18446744073709551616) : (A.setHead i g).Ok := by
  unfold Ar.setHead
  split
  · rename_i h
    unfold Ar.setHeadOk at h
    simp only [Bool.and_eq_true, decide_eq_true_eq] at h
    have eb := enc_bd ((chk_iff _).1 h.1.1.2)
    exact Ar.Ok.put (Ar.Ok.put ok i.toNat (v := enc g) ⟨eb.1, by omega⟩) (i + 1).toNat hs
  · exact ok
theorem Ar.Ok.setPtrA {A : Ar} (ok : A.Ok) (i j v : Int) : (A.setPtr i j v).Ok := by
  unfold Ar.setPtr
  split
  · rename_i h
    unfold Ar.setPtrOk at h
    simp only [Bool.and_eq_true, decide_eq_true_eq] at h
    have l := ok.len
    obtain ⟨e0, e1, s0, s1, t0, t1⟩ := Cfg.bd ok.cv
    unfold Cfg.size at l
    exact Ar.Ok.put ok (i + 2 + j).toNat (v := v) ⟨h.2.1, by omega⟩
  · exact ok
theorem Ar.Ok.setRawA {A : Ar} (ok : A.Ok) (i j v : Int) (hv : 0 ≤ v ∧ v < 18446744073709551616) : (A.setRaw i j v).Ok := by
  unfold Ar.setRaw
  split
  · exact Ar.Ok.put ok (i + 2 + (A.hd i).ptrs + j).toNat hv
  · exact ok
theorem Only.cellA {S : List Nat} {w w' : World} (h : Only S w w') {b o : Nat} {v : Value} (hb : b ∉ S) (hc : w.cell? ⟨b, o, none⟩ = some v) : w'.cell? ⟨b, o, none⟩ = some v :=
  (World.cell?_of_block (a := ⟨b, o, none⟩) (h.block b (World.block_lt_of_cell? w ⟨b, o, none⟩ hc) hb)).trans hc
/-- The bounds of a thing to do. -/
structure Dt.Bd (o : Dt) : Prop where
  n : -9223372036854775808 ≤ o.n ∧ o.n < 9223372036854775808
  c : -9223372036854775808 ≤ o.c ∧ o.c < 9223372036854775808
  w : 0 ≤ o.w ∧ o.w < 18446744073709551616
  s : 0 ≤ o.hd.ser ∧ o.hd.ser < 18446744073709551616
/-- What a change leaves. -/
def Left (w w' : World) (a wb B : Nat) (v : Value) (Q : List Gt) : Prop := ∃ A' Ls' Q', ArAt w' a wb A' ∧ A'.Ok ∧ Holds A' Ls' Q' ∧ ThsAt w' B wb v Q' ∧ Q'.length = Q.length ∧ tfp v Q' = tfp v Q ∧ Only (a :: wb :: tfp v Q) w w'
theorem Left.same {w w' : World} {a wb B : Nat} {A : Ar} {Ls : Int → List It} {v : Value} {Q : List Gt} (hA : ArAt w a wb A) (ok : A.Ok) (hH : Holds A Ls Q) (hT : ThsAt w B wb v Q) (hA' : ArAt w' a wb A) (ho : Only [a, wb] w w') : Left w w' a wb B v Q :=
  ⟨A, Ls, Q, hA', ok, hH, hT.only hA ho, rfl, rfl, ho.mono fun k hk => by simp at hk; rcases hk with rfl | rfl <;> simp⟩
theorem Left.drew {w w' : World} {a wb B : Nat} {v : Value} {Q : List Gt} (h : Left w w' a wb B v Q) : Left w w'.drew a wb B v Q := by
  obtain ⟨A', Ls', Q', h1, h2, h3, h4, h5, h6, h7⟩ := h
  exact ⟨A', Ls', Q', h1.drew, h2, h3, h4.keep (fun _ _ => rfl), h5, h6, h7.drew⟩
theorem mono2 {a wb : Nat} {v : Value} {Q : List Gt} {w w' : World} (ho : Only [a, wb] w w') : Only (a :: wb :: tfp v Q) w w' := ho.mono fun k hk => by simp at hk; rcases hk with rfl | rfl <;> simp

set_option maxRecDepth 100000 in
set_option maxHeartbeats 8000000 in
theorem changed3 (a wb B : Nat) (A : Ar) (Ls : Int → List It) (v : Value) (Q : List Gt) (o : Dt) (w : World) (tb : Tab w) (hA : ArAt w a wb A) (ok : A.Ok) (hT : ThsAt w B wb v Q) (hH : Holds A Ls Q) (hn : Q.length ≤ 1000) (h0 : 0 < Q.length) (bd : o.Bd) (hk : o.kind = 3) :
    Calls Tryd.prog 57 #[.pointer (some ⟨a, 0, none⟩), v, o.val] w fun e w' => e = .returned (.bool true) ∧ Left w w' a wb B v Q := by
  obtain ⟨o0, o1, o2, o3, o4, o5, ⟨x0, x1, x2, x3, x4, x5, x6⟩⟩ := o
  simp only at hk
  subst hk
  obtain ⟨bn, bc, bw, bs⟩ := bd
  simp only at bn bc bw bs
  obtain ⟨g, cap, rfl⟩ := hT.form h0
  have MO := Lib.hid (fun (W : World) => mod_anyA o2 Q.length W h0 (by omega) bn.1 bn.2)
  have MC := Lib.hid (fun (W : World) => mod_anyA o4 Q.length W h0 (by omega) bc.1 bc.2)
  have far := hT.far hA
  have la := lt_of_heap hA.st
  have lwb := lt_of_heap hA.ws
  have lg := (hT.lt g (mem_tfp.2 (.inl rfl))).2
  have ng : g ∉ [a, wb] := by have := far g (mem_tfp.2 (.inl rfl)); simp [this]
  have nq : w.heap.size ∉ [a, wb] := by simp; omega
  have FAR := Lib.hid far
  clear far
  unfold Dt.val Dt.cells
  simp only
  have hO := heap_one w (.cells #[.int .i64 3, .int .i64 o1, .int .i64 o2, .int .i64 o3, .int .i64 o4, .int .u64 o5, .int .u64 x0, .int .i64 x1, .int .i64 x2, .int .i64 x3, .int .i64 x4, .int .i64 x5, .bool x6] 69)
  have b0 := (Below.refl w.heap.size w).alloc (Nat.le_refl _) (.cells #[.int .i64 3, .int .i64 o1, .int .i64 o2, .int .i64 o3, .int .i64 o4, .int .u64 o5, .int .u64 x0, .int .i64 x1, .int .i64 x2, .int .i64 x3, .int .i64 x4, .int .i64 x5, .bool x6] 69)
  go_enter Tryd.func57, Tryd.ntmps57
  go_upto_region 1 with fail
  generalize w.alloc (.cells #[.int .i64 3, .int .i64 o1, .int .i64 o2, .int .i64 o3, .int .i64 o4, .int .u64 o5, .int .u64 x0, .int .i64 x1, .int .i64 x2, .int .i64 x3, .int .i64 x4, .int .i64 x5, .bool x6] 69) = w1 at *
  have hA1 := hA.below b0
  have tb1 := tb.below b0
  have hT1 := hT.below b0
  have O1 := Only.of_below (S := [a, wb]) b0
  obtain ⟨cO, fO⟩ := hcell hO
  have hql : (Q.length : Int) < 1001 := by omega
  go_wp2_with fail
  refine (MO.out _).mono ?_
  rintro e w' ⟨⟨k, hk, rfl⟩, rfl⟩
  have k0 : (0 : Int) ≤ (k : Int) := Int.natCast_nonneg _
  have k1 : (k : Int) < (Q.length : Int) := by omega
  have zc := fun j (hj : j < 11) => hT1.cell (i := k) hk hj
  have hm := getD_mem hk
  have li := hH.lies ok hm
  have HS := fun (g : Hd) (f : Fine g) (hp : g.ptrs = (Q.getD k gt0).hd.ptrs) (hr : g.raws = (Q.getD k gt0).hd.raws) => hH.setHead ok hk f hp hr
  have TS := fun (W : World) (h : ThsAt W B wb (.slice (some ⟨g, 0, none⟩) Q.length cap) Q) (x : Hd) => h.setH hk x
  have TF := fun (x : Hd) => tfp_set (v := .slice (some ⟨g, 0, none⟩) Q.length cap) (Q := Q) (k := k) (q := { Q.getD k gt0 with hd := x }) rfl rfl
  generalize hqe : Q.getD k gt0 = q at *
  have HQ := Lib.hid hqe
  clear hqe
  obtain ⟨qat, qsp, ⟨y0, y1, y2, y3, y4, y5, y6⟩, ps, rs, pb, rb⟩ := q
  simp only at HS TF TS
  have i1 := li.obj
  have i2 := li.hd
  simp only at i1 i2
  have z0 : w1.cell? ⟨g, k * 11, none⟩ = some (.int .i64 qat) := zc 0 (by decide)
  have z4 : w1.cell? ⟨g, k * 11 + 2 + 2, none⟩ = some (.int .i64 y2) := zc 4 (by decide)
  have z4b : w1.cell? ⟨g, k * 11 + 4, none⟩ = some (.int .i64 y2) := zc 4 (by decide)
  have z5b : w1.cell? ⟨g, k * 11 + 5, none⟩ = some (.int .i64 y3) := zc 5 (by decide)
  have lg1 : g < w1.heap.size := by have := b0.size; omega
  have z5 : w1.cell? ⟨g, k * 11 + 2 + 3, none⟩ = some (.int .i64 y3) := zc 5 (by decide)
  clear zc li
  have SHc := fun (W : World) (hb : ArAt W a wb A) (tb : Tab W) => setHead_any a wb A qat ⟨x0, x1, y2, y3, x4, x5, x6⟩ W tb hb ok
  have eo : A.setHeadOk qat ⟨x0, x1, y2, y3, x4, x5, x6⟩ = decide (chk ⟨x0, x1, y2, y3, x4, x5, x6⟩ = 0) := by
    unfold Ar.setHeadOk
    rw [i1, i2]; simp
  rw [eo] at SHc
  unfold Hd.val at SHc
  simp only at SHc
  have HS' := Lib.hid HS
  have TS' := Lib.hid TS
  have TF' := Lib.hid TF
  have eo' := Lib.hid eo
  have SH' := Lib.hid SHc
  clear HS TS TF eo SHc i1 i2
  go_upto_region 8 with fail
  have HS := HS'.out
  have TS := TS'.out
  have TF := TF'.out
  have SHc := SH'.out
  have eo := eo'.out
  have hH2 := heap_one w1 (.cells #[.int .u64 x0, .int .i64 x1, .int .i64 y2, .int .i64 y3, .int .i64 x4, .int .i64 x5, .bool x6] 24)
  have q2 := (Below.refl w1.heap.size w1).alloc (Nat.le_refl _) (.cells #[.int .u64 x0, .int .i64 x1, .int .i64 y2, .int .i64 y3, .int .i64 x4, .int .i64 x5, .bool x6] 24)
  generalize w1.alloc (.cells #[.int .u64 x0, .int .i64 x1, .int .i64 y2, .int .i64 y3, .int .i64 x4, .int .i64 x5, .bool x6] 24) = w2 at *
  have hA2 := hA1.below q2
  have tb2 := tb1.below q2
  have hT2 := hT1.below q2
  have O2 := O1.trans (Only.of_below q2)
  have zz := (q2.cell (p := ⟨g, k * 11, none⟩) (by have := lt_of_heap hO; simp only; omega)).trans z0
  obtain ⟨cH, fH⟩ := hcell hH2
  have nh : w1.heap.size ∉ [a, wb] := by have := lt_of_heap hO; simp; omega
  have h0 : w2.cell? ⟨w1.heap.size, 0, none⟩ = some (.int .u64 x0) := by rw [cH]; rfl
  have h1 : w2.cell? ⟨w1.heap.size, 1, none⟩ = some (.int .i64 x1) := by rw [cH]; rfl
  have h2 : w2.cell? ⟨w1.heap.size, 2, none⟩ = some (.int .i64 y2) := by rw [cH]; rfl
  have h3 : w2.cell? ⟨w1.heap.size, 3, none⟩ = some (.int .i64 y3) := by rw [cH]; rfl
  have h4 : w2.cell? ⟨w1.heap.size, 4, none⟩ = some (.int .i64 x4) := by rw [cH]; rfl
  have h5 : w2.cell? ⟨w1.heap.size, 5, none⟩ = some (.int .i64 x5) := by rw [cH]; rfl
  have h6 : w2.cell? ⟨w1.heap.size, 6, none⟩ = some (.bool x6) := by rw [cH]; rfl
  clear z0 z4 z5 z4b z5b cH fH cO fO hO
  have ok3 := ok.setHeadA qat (g := ⟨x0, x1, y2, y3, x4, x5, x6⟩) bs
  have OKS := Lib.hid eo
  clear eo
  have KE := Lib.hid (fun (W : World) (hO : Only [a, wb] w2 W) => (⟨hO.cellA ng zz, hO.cellA nh h0, hO.cellA nh h1, hO.cellA nh h2, hO.cellA nh h3, hO.cellA nh h4, hO.cellA nh h5, hO.cellA nh h6, hO⟩ : W.cell? ⟨g, k * 11, none⟩ = some (.int .i64 qat) ∧ W.cell? ⟨w1.heap.size, 0, none⟩ = some (.int .u64 x0) ∧ W.cell? ⟨w1.heap.size, 1, none⟩ = some (.int .i64 x1) ∧ W.cell? ⟨w1.heap.size, 2, none⟩ = some (.int .i64 y2) ∧ W.cell? ⟨w1.heap.size, 3, none⟩ = some (.int .i64 y3) ∧ W.cell? ⟨w1.heap.size, 4, none⟩ = some (.int .i64 x4) ∧ W.cell? ⟨w1.heap.size, 5, none⟩ = some (.int .i64 x5) ∧ W.cell? ⟨w1.heap.size, 6, none⟩ = some (.bool x6) ∧ Only [a, wb] w2 W))
  have hx1 : w1.heap.size < w2.heap.size := lt_of_heap hH2
  have q2s := q2.size
  by_cases hc : chk ⟨x0, x1, y2, y3, x4, x5, x6⟩ = 0
  · rw [decide_eq_true hc] at SHc
    have fi := (chk_iff _).1 hc
    obtain ⟨Ls', hH3⟩ := HS _ fi rfl rfl
    have C1 := Lib.hid (fun (W : World) (hb : Below w2.heap.size w2 W) => (SHc W (hA2.below hb) (tb2.below hb)).mono (R' := fun e w' => e = .returned (.bool true) ∧ ArAt w' a wb (A.setHead qat ⟨x0, x1, y2, y3, x4, x5, x6⟩) ∧ Only [a, wb] w2 w') fun e w' ⟨h1, h2, h3⟩ => ⟨h1, h2, (Only.of_below hb).trans h3⟩)
    have FIN := Lib.hid (fun (W : World) (hA9 : ArAt W a wb (A.setHead qat ⟨x0, x1, y2, y3, x4, x5, x6⟩)) (hO9 : Only [a, wb] w2 W) => (by
      have hT9 := hT2.only hA2 hO9
      have hT8 := TS W hT9 ⟨x0, x1, y2, y3, x4, x5, x6⟩
      refine ⟨_, Ls', _, ?_, ok3, hH3, hT8, by simp, TF _, ?_⟩
      · exact ⟨(setHdC_far (FAR.out g (mem_tfp.2 (.inl rfl))).1.symm).trans hA9.st, (setHdC_far (FAR.out g (mem_tfp.2 (.inl rfl))).2.symm).trans hA9.ws, hA9.ne⟩
      · have mg : g ∈ a :: wb :: tfp (.slice (some ⟨g, 0, none⟩) Q.length cap) Q := by simp [mem_tfp, Value.ownBlock]
        have r0 := mono2 (v := .slice (some ⟨g, 0, none⟩) Q.length cap) (Q := Q) (O2.trans hO9)
        exact ((((((r0.setCell (p := ⟨g, _, none⟩) mg _).setCell (p := ⟨g, _, none⟩) mg _).setCell (p := ⟨g, _, none⟩) mg _).setCell (p := ⟨g, _, none⟩) mg _).setCell (p := ⟨g, _, none⟩) mg _).setCell (p := ⟨g, _, none⟩) mg _).setCell (p := ⟨g, _, none⟩) mg _ : Left w (setHdC W g (k * 11 + 2) ⟨x0, x1, y2, y3, x4, x5, x6⟩) a wb B (.slice (some ⟨g, 0, none⟩) Q.length cap) Q))
    have fg := fun (W : World) (hO9 : Only [a, wb] w2 W) => (hT2.only hA2 hO9).row.frozenAt
    have FG := Lib.hid fg
    have zcs := fun (W : World) (hO9 : Only [a, wb] w2 W) (j : Nat) (hj : j < 11) => (hT2.only hA2 hO9).cell (i := k) hk hj
    rw [HQ.out] at zcs
    have ZC := Lib.hid zcs
    clear SHc HS TS TF fi hc fg hH3 ok3 zcs
    go_region_held3 (fun W => W.cell? ⟨g, k * 11, none⟩ = some (.int .i64 qat) ∧ W.cell? ⟨w1.heap.size, 0, none⟩ = some (.int .u64 x0) ∧ W.cell? ⟨w1.heap.size, 1, none⟩ = some (.int .i64 x1) ∧ W.cell? ⟨w1.heap.size, 2, none⟩ = some (.int .i64 y2) ∧ W.cell? ⟨w1.heap.size, 3, none⟩ = some (.int .i64 y3) ∧ W.cell? ⟨w1.heap.size, 4, none⟩ = some (.int .i64 x4) ∧ W.cell? ⟨w1.heap.size, 5, none⟩ = some (.int .i64 x5) ∧ W.cell? ⟨w1.heap.size, 6, none⟩ = some (.bool x6) ∧ Only [a, wb] w2 W) ((refine KE.out _ ?_; repeat (first | (with_reducible assumption) | (with_reducible exact Only.refl _ _) | (with_reducible refine Only.drew ?_)))) (first | (go_at_call 93; refine (C1.out _ ?_).mono ?_; (first | exact (Below.refl _ _).drew | exact (Below.refl _ _)); rintro e w' ⟨rfl, hA9, hO9⟩))
    all_goals
      obtain ⟨j0, j1, j2, j3, j4, j5, j6, j7, j8⟩ := KE.out _ hO9
      have f9 := FG.out _ hO9
      have u2 : w'.cell? ⟨g, k * 11 + 2, none⟩ = _ := ZC.out _ hO9 2 (by decide)
      have u3 : w'.cell? ⟨g, k * 11 + 2 + 1, none⟩ = _ := ZC.out _ hO9 3 (by decide)
      have u4 : w'.cell? ⟨g, k * 11 + 2 + 2, none⟩ = _ := ZC.out _ hO9 4 (by decide)
      have u5 : w'.cell? ⟨g, k * 11 + 2 + 3, none⟩ = _ := ZC.out _ hO9 5 (by decide)
      have u6 : w'.cell? ⟨g, k * 11 + 2 + 4, none⟩ = _ := ZC.out _ hO9 6 (by decide)
      have u7 : w'.cell? ⟨g, k * 11 + 2 + 5, none⟩ = _ := ZC.out _ hO9 7 (by decide)
      have u8 : w'.cell? ⟨g, k * 11 + 2 + 6, none⟩ = _ := ZC.out _ hO9 8 (by decide)
      have v3 : w'.cell? ⟨g, k * 11 + 3, none⟩ = _ := ZC.out _ hO9 3 (by decide)
      have v4 : w'.cell? ⟨g, k * 11 + 4, none⟩ = _ := ZC.out _ hO9 4 (by decide)
      have v5 : w'.cell? ⟨g, k * 11 + 5, none⟩ = _ := ZC.out _ hO9 5 (by decide)
      have v6 : w'.cell? ⟨g, k * 11 + 6, none⟩ = _ := ZC.out _ hO9 6 (by decide)
      have v7 : w'.cell? ⟨g, k * 11 + 7, none⟩ = _ := ZC.out _ hO9 7 (by decide)
      have v8 : w'.cell? ⟨g, k * 11 + 8, none⟩ = _ := ZC.out _ hO9 8 (by decide)
      simp only [Gt.cells, hdL, List.cons_append, List.nil_append, List.getElem?_cons_zero, List.getElem?_cons_succ] at u2 u3 u4 u5 u6 u7 u8 v3 v4 v5 v6 v7 v8
      have fin := Lib.hid (FIN.out _ hA9 hO9)
      clear FIN hA9 hO9 OKS
      unfold setHdC at fin
      simp only at fin
      go_upto_region 10 with fail
      go_wp2_with fail
      go_ret
      exact ⟨rfl, fin.out⟩
  · rw [decide_eq_false hc] at SHc
    have es : A.setHead qat ⟨x0, x1, y2, y3, x4, x5, x6⟩ = A := by unfold Ar.setHead; rw [OKS.out, decide_eq_false hc]; rfl
    rw [es] at SHc
    have C1 := Lib.hid (fun (W : World) (hb : Below w2.heap.size w2 W) => (SHc W (hA2.below hb) (tb2.below hb)).mono (R' := fun e w' => e = .returned (.bool false) ∧ ArAt w' a wb A ∧ Only [a, wb] w2 w') fun e w' ⟨h1, h2, h3⟩ => ⟨h1, h2, (Only.of_below hb).trans h3⟩)
    clear SHc HS TS TF es ok3 hc
    go_region_held3 (fun W => W.cell? ⟨g, k * 11, none⟩ = some (.int .i64 qat) ∧ W.cell? ⟨w1.heap.size, 0, none⟩ = some (.int .u64 x0) ∧ W.cell? ⟨w1.heap.size, 1, none⟩ = some (.int .i64 x1) ∧ W.cell? ⟨w1.heap.size, 2, none⟩ = some (.int .i64 y2) ∧ W.cell? ⟨w1.heap.size, 3, none⟩ = some (.int .i64 y3) ∧ W.cell? ⟨w1.heap.size, 4, none⟩ = some (.int .i64 x4) ∧ W.cell? ⟨w1.heap.size, 5, none⟩ = some (.int .i64 x5) ∧ W.cell? ⟨w1.heap.size, 6, none⟩ = some (.bool x6) ∧ Only [a, wb] w2 W) ((refine KE.out _ ?_; repeat (first | (with_reducible assumption) | (with_reducible exact Only.refl _ _) | (with_reducible refine Only.drew ?_)))) (first | (go_at_call 93; refine (C1.out _ ?_).mono ?_; (first | exact (Below.refl _ _).drew | exact (Below.refl _ _)); rintro e w' ⟨rfl, hA9, hO9⟩))
    all_goals
      go_wp2_with fail
      go_ret
      exact ⟨rfl, Left.same hA ok hH hT hA9 (O2.trans hO9)⟩
set_option maxRecDepth 100000 in
set_option maxHeartbeats 8000000 in
theorem changed4 (a wb B : Nat) (A : Ar) (Ls : Int → List It) (v : Value) (Q : List Gt) (o : Dt) (w : World) (tb : Tab w) (hA : ArAt w a wb A) (ok : A.Ok) (hT : ThsAt w B wb v Q) (hH : Holds A Ls Q) (hn : Q.length ≤ 1000) (h0 : 0 < Q.length) (bd : o.Bd) (hk : o.kind = 4) :
    Calls Tryd.prog 57 #[.pointer (some ⟨a, 0, none⟩), v, o.val] w fun e w' => e = .returned (.bool true) ∧ Left w w' a wb B v Q := by
  obtain ⟨o0, o1, o2, o3, o4, o5, ⟨x0, x1, x2, x3, x4, x5, x6⟩⟩ := o
  simp only at hk
  subst hk
  obtain ⟨bn, bc, bw, bs⟩ := bd
  simp only at bn bc bw bs
  obtain ⟨g, cap, rfl⟩ := hT.form h0
  have MO := Lib.hid (fun (W : World) => mod_anyA o2 Q.length W h0 (by omega) bn.1 bn.2)
  have MC := Lib.hid (fun (W : World) => mod_anyA o4 Q.length W h0 (by omega) bc.1 bc.2)
  have far := hT.far hA
  have la := lt_of_heap hA.st
  have lwb := lt_of_heap hA.ws
  have lg := (hT.lt g (mem_tfp.2 (.inl rfl))).2
  have ng : g ∉ [a, wb] := by have := far g (mem_tfp.2 (.inl rfl)); simp [this]
  have nq : w.heap.size ∉ [a, wb] := by simp; omega
  have FAR := Lib.hid far
  clear far
  unfold Dt.val Dt.cells
  simp only
  have hO := heap_one w (.cells #[.int .i64 4, .int .i64 o1, .int .i64 o2, .int .i64 o3, .int .i64 o4, .int .u64 o5, .int .u64 x0, .int .i64 x1, .int .i64 x2, .int .i64 x3, .int .i64 x4, .int .i64 x5, .bool x6] 69)
  have b0 := (Below.refl w.heap.size w).alloc (Nat.le_refl _) (.cells #[.int .i64 4, .int .i64 o1, .int .i64 o2, .int .i64 o3, .int .i64 o4, .int .u64 o5, .int .u64 x0, .int .i64 x1, .int .i64 x2, .int .i64 x3, .int .i64 x4, .int .i64 x5, .bool x6] 69)
  go_enter Tryd.func57, Tryd.ntmps57
  go_upto_region 1 with fail
  generalize w.alloc (.cells #[.int .i64 4, .int .i64 o1, .int .i64 o2, .int .i64 o3, .int .i64 o4, .int .u64 o5, .int .u64 x0, .int .i64 x1, .int .i64 x2, .int .i64 x3, .int .i64 x4, .int .i64 x5, .bool x6] 69) = w1 at *
  have hA1 := hA.below b0
  have tb1 := tb.below b0
  have hT1 := hT.below b0
  have O1 := Only.of_below (S := [a, wb]) b0
  obtain ⟨cO, fO⟩ := hcell hO
  have hql : (Q.length : Int) < 1001 := by omega
  go_wp2_with fail
  refine (MO.out _).mono ?_
  rintro e w' ⟨⟨k, hk, rfl⟩, rfl⟩
  have k0 : (0 : Int) ≤ (k : Int) := Int.natCast_nonneg _
  have k1 : (k : Int) < (Q.length : Int) := by omega
  have zc := fun j (hj : j < 11) => hT1.cell (i := k) hk hj
  have hm := getD_mem hk
  have li := hH.lies ok hm
  go_wp2_with fail
  refine (MC.out _).mono ?_
  rintro e w' ⟨⟨m, hm2, rfl⟩, rfl⟩
  have lm := hH.lies ok (getD_mem hm2)
  have to0 := lm.lo
  have to1 := lm.hi
  have m0 : (0 : Int) ≤ (m : Int) := Int.natCast_nonneg _
  have m1 : (m : Int) < (Q.length : Int) := by omega
  have zm : w1.cell? ⟨g, m * 11, none⟩ = some (.int .i64 (Q.getD m gt0).at_) := hT1.cell (i := m) hm2 (j := 0) (by decide)
  clear lm
  generalize (Q.getD m gt0).at_ = tv at *
  have HS := fun (i : Int) (i0 : 0 ≤ i) (i1 : i < (Q.getD k gt0).hd.ptrs) => hH.setPtr ok hk i0 i1 (v := tv) (by omega) to1
  have TS := fun (W : World) (h : ThsAt W B wb (.slice (some ⟨g, 0, none⟩) Q.length cap) Q) (i : Nat) => h.setP hk i tv
  have TF := fun (i : Nat) => tfp_set (v := .slice (some ⟨g, 0, none⟩) Q.length cap) (Q := Q) (k := k) (q := { Q.getD k gt0 with ps := (Q.getD k gt0).ps.set i tv }) rfl rfl
  have MB : (Q.getD k gt0).pb ∈ tfp (.slice (some ⟨g, 0, none⟩) Q.length cap) Q := mem_tfp.2 (.inr (.inl ⟨_, hm, rfl⟩))
  have BC := fun (W : World) (h : ThsAt W B wb (.slice (some ⟨g, 0, none⟩) Q.length cap) Q) => h.bp _ hm
  generalize hqe : Q.getD k gt0 = q at *
  have HQ := Lib.hid hqe
  clear hqe
  obtain ⟨qat, qsp, ⟨y0, y1, y2, y3, y4, y5, y6⟩, ps, rs, pb, rb⟩ := q
  simp only at HS TF TS MB BC
  have i1 := li.obj
  have i2 := li.hd
  have hnum := li.np
  simp only at i1 i2 hnum
  have zz : w1.cell? ⟨g, k * 11, none⟩ = some (.int .i64 qat) := zc 0 (by decide)
  have zl : w1.cell? ⟨g, k * 11 + 9, none⟩ = some (.slice (some ⟨pb, 0, none⟩) ps.length ps.length) := zc 9 (by decide)
  clear zc li
  have SHc := fun (W : World) (hb : ArAt W a wb A) (tb : Tab W) => setPtr_any a wb A qat o3 tv W tb hb ok
  have eo : A.setPtrOk qat o3 tv = decide (0 ≤ o3 ∧ o3 < y2) := by
    unfold Ar.setPtrOk
    rw [i1, i2, decide_eq_true (show 0 ≤ tv ∧ tv < (A.words.length : Int) by omega)]; simp
  rw [eo] at SHc
  have OKS := Lib.hid eo
  have HN := Lib.hid hnum
  have HS' := Lib.hid HS
  have TS' := Lib.hid TS
  have TF' := Lib.hid TF
  have BC' := Lib.hid BC
  have ok3 := Lib.hid (fun (i : Int) => ok.setPtrA qat i tv)
  have ob : w1.cell? ⟨w.heap.size, 3, none⟩ = some (.int .i64 o3) := by rw [cO]; rfl
  have ow : w1.cell? ⟨w.heap.size, 5, none⟩ = some (.int .u64 o5) := by rw [cO]; rfl
  clear HS TS TF eo i1 i2 hnum BC MC MO
  by_cases hin : 0 ≤ o3 ∧ o3 < y2
  · rw [decide_eq_true hin] at SHc
    obtain ⟨in0, in1⟩ := hin
    obtain ⟨i, rfl⟩ := Int.eq_ofNat_of_zero_le in0
    have lpi : i < ps.length := by have := HN.out; omega
    obtain ⟨Ls', hH3⟩ := HS'.out (i : Int) in0 in1
    rw [Int.toNat_natCast] at hH3
    have ok4 := ok3.out (i : Int)
    have dg : decide (0 ≤ (i : Int)) = true := by simp
    have dl : decide (i < ps.length) = true := by simpa using lpi
    have il : (i : Int) < (ps.length : Int) := by omega
    have C1 := Lib.hid (fun (W : World) (hb : Below w1.heap.size w1 W) => (SHc W (hA1.below hb) (tb1.below hb)).mono (R' := fun e w' => e = .returned (.bool true) ∧ ArAt w' a wb (A.setPtr qat i tv) ∧ Only [a, wb] w1 w') fun e w' ⟨h1, h2, h3⟩ => ⟨h1, h2, (Only.of_below hb).trans h3⟩)
    have KE := Lib.hid (fun (W : World) (hO : Only [a, wb] w1 W) => (⟨hO.cellA ng zz, hO.cellA nq ob, hO.cellA ng zl, hO⟩ : W.cell? ⟨g, k * 11, none⟩ = some (.int .i64 qat) ∧ W.cell? ⟨w.heap.size, 3, none⟩ = some (.int .i64 i) ∧ W.cell? ⟨g, k * 11 + 9, none⟩ = some (.slice (some ⟨pb, 0, none⟩) ps.length ps.length) ∧ Only [a, wb] w1 W))
    have FIN := Lib.hid (fun (W : World) (hA9 : ArAt W a wb (A.setPtr qat i tv)) (hO9 : Only [a, wb] w1 W) => (by
      have hT9 := hT1.only hA1 hO9
      have hT8 := TS'.out W hT9 i
      have mg : pb ∈ a :: wb :: tfp (.slice (some ⟨g, 0, none⟩) Q.length cap) Q := List.mem_cons_of_mem _ (List.mem_cons_of_mem _ MB)
      have r0 := mono2 (v := .slice (some ⟨g, 0, none⟩) Q.length cap) (Q := Q) (O1.trans hO9)
      refine ⟨_, Ls', _, ?_, ok4, hH3, hT8, by simp, TF'.out _, r0.setCell (p := ⟨pb, i, none⟩) mg _⟩
      exact ⟨(block_set_ne (FAR.out pb MB).1.symm).trans hA9.st, (block_set_ne (FAR.out pb MB).2.symm).trans hA9.ws, hA9.ne⟩ : Left w (W.setCell ⟨pb, i, none⟩ (.int .i64 tv)) a wb B (.slice (some ⟨g, 0, none⟩) Q.length cap) Q))
    have PCL := Lib.hid (fun (W : World) (hO9 : Only [a, wb] w1 W) => (hcell (BC'.out W (hT1.only hA1 hO9))))
    clear SHc hH3 ok4 in0 in1
    go_upto_region 13 with fail
    go_region_held3 (fun W => W.cell? ⟨g, k * 11, none⟩ = some (.int .i64 qat) ∧ W.cell? ⟨w.heap.size, 3, none⟩ = some (.int .i64 i) ∧ W.cell? ⟨g, k * 11 + 9, none⟩ = some (.slice (some ⟨pb, 0, none⟩) ps.length ps.length) ∧ Only [a, wb] w1 W) ((refine KE.out _ ?_; repeat (first | (with_reducible assumption) | (with_reducible exact Only.refl _ _) | (with_reducible refine Only.drew ?_)))) (first | (go_at_call 94; refine (C1.out _ ?_).mono ?_; (first | exact (Below.refl _ _).drew | exact (Below.refl _ _)); rintro e w' ⟨rfl, hA9, hO9⟩))
    all_goals
      obtain ⟨j0, j1, j2, j4⟩ := KE.out _ hO9
      obtain ⟨pc0, pf0⟩ := PCL.out _ hO9
      have pci := pc0 i
      have pfi := pf0 i
      rw [i64s_get lpi] at pci
      generalize ps.getD i 0 = pv at *
      clear pc0 pf0
      go_upto_region 14 with fail
      go_region_held3 (fun W => W.cell? ⟨g, k * 11, none⟩ = some (.int .i64 qat) ∧ W.cell? ⟨w.heap.size, 3, none⟩ = some (.int .i64 i) ∧ W.cell? ⟨g, k * 11 + 9, none⟩ = some (.slice (some ⟨pb, 0, none⟩) ps.length ps.length) ∧ Only [a, wb] w1 W) ((refine KE.out _ ?_; repeat (first | (with_reducible assumption) | (with_reducible exact Only.refl _ _) | (with_reducible refine Only.drew ?_)))) (fail)
      all_goals
        go_upto_region 17 with fail
        go_big_region
        all_goals
          go_wp2_with fail
          go_ret
          (first | exact ⟨rfl, FIN.out _ hA9 hO9⟩ | exact ⟨rfl, FIN.out _ hA9.drew hO9.drew⟩ | exact ⟨rfl, (FIN.out _ hA9.drew hO9.drew).drew⟩ | exact ⟨rfl, (FIN.out _ hA9.drew.drew hO9.drew.drew)⟩)
  · rw [decide_eq_false hin] at SHc
    have es : A.setPtr qat o3 tv = A := by unfold Ar.setPtr; rw [OKS.out, decide_eq_false hin]; rfl
    rw [es] at SHc
    have C1 := Lib.hid (fun (W : World) (hb : Below w1.heap.size w1 W) => (SHc W (hA1.below hb) (tb1.below hb)).mono (R' := fun e w' => e = .returned (.bool false) ∧ ArAt w' a wb A ∧ Only [a, wb] w1 w') fun e w' ⟨h1, h2, h3⟩ => ⟨h1, h2, (Only.of_below hb).trans h3⟩)
    have KE := Lib.hid (fun (W : World) (hO : Only [a, wb] w1 W) => (⟨hO.cellA ng zz, hO.cellA nq ob, hO.cellA ng zl, hO⟩ : W.cell? ⟨g, k * 11, none⟩ = some (.int .i64 qat) ∧ W.cell? ⟨w.heap.size, 3, none⟩ = some (.int .i64 o3) ∧ W.cell? ⟨g, k * 11 + 9, none⟩ = some (.slice (some ⟨pb, 0, none⟩) ps.length ps.length) ∧ Only [a, wb] w1 W))
    clear SHc es
    by_cases hneg : 0 ≤ o3
    · obtain ⟨i, rfl⟩ := Int.eq_ofNat_of_zero_le hneg
      have dg : decide (0 ≤ (i : Int)) = true := by simp
      have dl : decide (i < ps.length) = false := by rw [decide_eq_false_iff_not]; have := HN.out; omega
      have il : (ps.length : Int) ≤ (i : Int) := by have := HN.out; omega
      clear hin
      go_upto_region 13 with fail
      go_region_held3 (fun W => W.cell? ⟨g, k * 11, none⟩ = some (.int .i64 qat) ∧ W.cell? ⟨w.heap.size, 3, none⟩ = some (.int .i64 i) ∧ W.cell? ⟨g, k * 11 + 9, none⟩ = some (.slice (some ⟨pb, 0, none⟩) ps.length ps.length) ∧ Only [a, wb] w1 W) ((refine KE.out _ ?_; repeat (first | (with_reducible assumption) | (with_reducible exact Only.refl _ _) | (with_reducible refine Only.drew ?_)))) (first | (go_at_call 94; refine (C1.out _ ?_).mono ?_; (first | exact (Below.refl _ _).drew | exact (Below.refl _ _)); rintro e w' ⟨rfl, hA9, hO9⟩))
      all_goals
        obtain ⟨j0, j1, j2, j4⟩ := KE.out _ hO9
        go_upto_region 14 with fail
        go_region_held3 (fun W => W.cell? ⟨g, k * 11, none⟩ = some (.int .i64 qat) ∧ W.cell? ⟨w.heap.size, 3, none⟩ = some (.int .i64 i) ∧ W.cell? ⟨g, k * 11 + 9, none⟩ = some (.slice (some ⟨pb, 0, none⟩) ps.length ps.length) ∧ Only [a, wb] w1 W) ((refine KE.out _ ?_; repeat (first | (with_reducible assumption) | (with_reducible exact Only.refl _ _) | (with_reducible refine Only.drew ?_)))) (fail)
        all_goals
          go_wp2_with fail
          go_ret
          (first | exact ⟨rfl, Left.same hA ok hH hT hA9 (O1.trans hO9)⟩ | exact ⟨rfl, Left.same hA ok hH hT hA9.drew (O1.trans hO9.drew)⟩ | exact ⟨rfl, Left.same hA ok hH hT (hA9.drewN _) (O1.trans (hO9.drewN _))⟩)
    · have dg : decide (0 ≤ o3) = false := by simpa using hneg
      clear hin
      go_upto_region 13 with fail
      go_region_held3 (fun W => W.cell? ⟨g, k * 11, none⟩ = some (.int .i64 qat) ∧ W.cell? ⟨w.heap.size, 3, none⟩ = some (.int .i64 o3) ∧ W.cell? ⟨g, k * 11 + 9, none⟩ = some (.slice (some ⟨pb, 0, none⟩) ps.length ps.length) ∧ Only [a, wb] w1 W) ((refine KE.out _ ?_; repeat (first | (with_reducible assumption) | (with_reducible exact Only.refl _ _) | (with_reducible refine Only.drew ?_)))) (first | (go_at_call 94; refine (C1.out _ ?_).mono ?_; (first | exact (Below.refl _ _).drew | exact (Below.refl _ _)); rintro e w' ⟨rfl, hA9, hO9⟩))
      all_goals
        obtain ⟨j0, j1, j2, j4⟩ := KE.out _ hO9
        go_upto_region 14 with fail
        go_quiet (fail)
        all_goals
          go_wp2_with fail
          go_ret
          (first | exact ⟨rfl, Left.same hA ok hH hT hA9 (O1.trans hO9)⟩ | exact ⟨rfl, Left.same hA ok hH hT hA9.drew (O1.trans hO9.drew)⟩ | exact ⟨rfl, Left.same hA ok hH hT (hA9.drewN _) (O1.trans (hO9.drewN _))⟩)
end Go.Proofs.YtomgfdfgildkbaaDoor
