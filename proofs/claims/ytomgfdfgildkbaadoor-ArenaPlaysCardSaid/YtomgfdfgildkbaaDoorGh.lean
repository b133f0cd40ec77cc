/- Merged texts: Bo1, Bo2, Bo3, Bo4, Bo5, Bo6. -/
import Derived.Test.YtomgfdfgildkbaaDoorGf
import Derived.Test.YtomgfdfgildkbaaDoorGg
/- middenlaw3's both: the program's arena and the document's beside one another: space. -/

namespace Go.Proofs.YtomgfdfgildkbaaDoor
open Go.RowKit Go.BigFrame

structure BothAt (w : World) (x a wb r : Nat) (c : Int → Nat) (A : Ar) (wv av : Value) : Prop where
  hx : w.heap[x]? = some (.cells #[.pointer (some ⟨a, 0, none⟩), .pointer (some ⟨r, 0, none⟩), wv, av] 85 (0, 0))
  hA : ArAt w a wb A
  hR : RfAt w r c A
  ok : A.Ok
theorem BothAt.below {w w' : World} {x a wb r : Nat} {c : Int → Nat} {A : Ar} {wv av : Value} (h : BothAt w x a wb r c A wv av) (hb : Below w.heap.size w w') : BothAt w' x a wb r c A wv av :=
  ⟨(hb.block _ (lt_of_heap h.hx)).trans h.hx, h.hA.below hb, h.hR.below hb, h.ok⟩
set_option maxRecDepth 100000 in
set_option maxHeartbeats 4000000 in
theorem bspace_any (x a wb r : Nat) (c : Int → Nat) (A : Ar) (wv av : Value) (s : Int) (w : World) (h : BothAt w x a wb r c A wv av) : Calls Tryd.prog 102 #[.pointer (some ⟨x, 0, none⟩), .int .i64 s] w fun e w' => e = .returned (.bool true) ∧ Below w.heap.size w w' := by
  have B1 := Lib.hid (fun (W : World) (hb : Below w.heap.size w W) => (bounds_any a wb A s W (h.hA.below hb)).mono (R' := fun e w' => e = .returned (.tuple #[.int .i64 (A.first s), .int .i64 (A.behind s)]) ∧ Below w.heap.size w w') fun e w' ⟨h1, h2⟩ => ⟨h1, hb.trans (h2.mono hb.size)⟩)
  have B2 := Lib.hid (fun (W : World) (hb : Below w.heap.size w W) => (rbounds_any r c A s W (h.hR.below hb) h.ok).mono (R' := fun e w' => e = .returned (.tuple #[.int .i64 (A.first s), .int .i64 (A.behind s)]) ∧ Below w.heap.size w w') fun e w' ⟨h1, m, h2⟩ => ⟨h1, by rw [h2]; exact below_drewN hb m⟩)
  have T1 := Lib.hid (fun (W : World) (hb : Below w.heap.size w W) => (top_any a wb A s W (h.hA.below hb)).mono (R' := fun e w' => e = .returned (.int .i64 (A.top s)) ∧ Below w.heap.size w w') fun e w' ⟨h1, h2⟩ => ⟨h1, hb.trans (h2.mono hb.size)⟩)
  have T2 := Lib.hid (fun (W : World) (hb : Below w.heap.size w W) => (rtop_any r c A s W (h.hR.below hb) h.ok).mono (R' := fun e w' => e = .returned (.int .i64 (A.top s)) ∧ Below w.heap.size w w') fun e w' ⟨h1, m, h2⟩ => ⟨h1, by rw [h2]; exact below_drewN hb m⟩)
  have F1 := Lib.hid (fun (W : World) (hb : Below w.heap.size w W) => (free_any a wb A s W (h.hA.below hb) h.ok).mono (R' := fun e w' => e = .returned (.int .i64 (A.free s)) ∧ Below w.heap.size w w') fun e w' ⟨h1, h2⟩ => ⟨h1, hb.trans (h2.mono hb.size)⟩)
  have F2 := Lib.hid (fun (W : World) (hb : Below w.heap.size w W) => (rfree_any r c A s W (h.hR.below hb) h.ok).mono (R' := fun e w' => e = .returned (.int .i64 (A.free s)) ∧ Below w.heap.size w w') fun e w' ⟨h1, m, h2⟩ => ⟨h1, by rw [h2]; exact below_drewN hb m⟩)
  have HX := Lib.hid (fun (W : World) (hb : Below w.heap.size w W) => (hcell ((hb.block _ (lt_of_heap h.hx)).trans h.hx)).1)
  clear h
  generalize A.first s = fi at *
  generalize A.behind s = be at *
  generalize A.top s = tp at *
  generalize A.free s = fr at *
  have c0 := HX.out _ (Below.refl _ w)
  go_enter Tryd.func102, Tryd.ntmps102
  go_wp2_with fail
  refine (B1.out _ (Below.refl _ w)).mono ?_
  rintro e w1 ⟨rfl, b1⟩
  have c1 := HX.out _ b1
  clear c0
  go_wp2_with fail
  refine (B2.out _ b1).mono ?_
  rintro e w2 ⟨rfl, b2⟩
  have c2 := HX.out _ b2
  clear c1
  go_wp2_with fail
  refine (T1.out _ b2).mono ?_
  rintro e w3 ⟨rfl, b3⟩
  have c3 := HX.out _ b3
  clear c2
  go_wp2_with fail
  refine (F1.out _ b3).mono ?_
  rintro e w4 ⟨rfl, b4⟩
  have c4 := HX.out _ b4
  clear c3
  go_wp2_with fail
  refine (T2.out _ b4).mono ?_
  rintro e w5 ⟨rfl, b5⟩
  have c5 := HX.out _ b5
  clear c4
  go_wp2_with fail
  refine (F2.out _ b5).mono ?_
  rintro e w6 ⟨rfl, b6⟩
  go_wp2_with fail
  go_ret
  exact ⟨rfl, b6⟩
end Go.Proofs.YtomgfdfgildkbaaDoor
/- What a taker holds that stops, in plain words. -/

namespace Go.Proofs.YtomgfdfgildkbaaDoor
open Go.RowKit Go.BigFrame

def cutN (k stop : Int) (n : Nat) : Nat := if k < stop then min (stop - k).toNat n else n
theorem over_take {l : List (Int × Hd)} : ∀ {T : Tk}, T.done = false → (((T.at_.length : Int) < T.stop ∧ T.stop ≤ T.most) ∨ (T.at_.length : Int) + l.length ≤ T.most) →
    (T.over l).at_ = T.at_ ++ (l.take (cutN T.at_.length T.stop l.length)).map (·.1) ∧ (T.over l).hd = T.hd ++ (l.take (cutN T.at_.length T.stop l.length)).map (·.2) := by
  induction l with
  | nil => intro T _ _; simp [Tk.over]
  | cons x l ih =>
    intro T hd hH
    have ht : T.take x.1 x.2 = { T with at_ := T.at_ ++ [x.1], hd := T.hd ++ [x.2], done := decide ((T.at_.length : Int) + 1 = T.stop) || decide (T.most < (T.at_.length : Int) + 1) } := by unfold Tk.take; rw [hd]; rfl
    have hl : ((x :: l).length : Int) = l.length + 1 := by simp
    by_cases h1 : (T.at_.length : Int) + 1 = T.stop
    · have e : T.over (x :: l) = T.take x.1 x.2 := by
        show (if (T.take x.1 x.2).done then T.take x.1 x.2 else _) = _
        rw [ht]; simp [h1]
      have hc : cutN T.at_.length T.stop (x :: l).length = 1 := by unfold cutN; rw [if_pos (by omega)]; simp only [List.length_cons]; omega
      rw [e, hc, ht]
      simp
    · have h2 : ¬ T.most < (T.at_.length : Int) + 1 := by omega
      have hd' : (T.take x.1 x.2).done = false := by rw [ht]; simp [h1]; omega
      have e : T.over (x :: l) = (T.take x.1 x.2).over l := by
        show (if (T.take x.1 x.2).done then T.take x.1 x.2 else (T.take x.1 x.2).over l) = _
        rw [hd']; rfl
      have hlen : ((T.take x.1 x.2).at_.length : Int) = T.at_.length + 1 := by rw [ht]; simp
      have hst : (T.take x.1 x.2).stop = T.stop ∧ (T.take x.1 x.2).most = T.most := by rw [ht]; exact ⟨rfl, rfl⟩
      obtain ⟨g1, g2⟩ := ih hd' (by rw [hlen, hst.1, hst.2]; omega)
      have hc : cutN T.at_.length T.stop (x :: l).length = cutN (T.take x.1 x.2).at_.length (T.take x.1 x.2).stop l.length + 1 := by
        rw [hlen, hst.1]
        unfold cutN
        simp only [List.length_cons]
        by_cases q : (T.at_.length : Int) < T.stop
        · rw [if_pos q, if_pos (by omega)]; omega
        · rw [if_neg q, if_neg (by omega)]
      rw [e, g1, g2, hc, ht]
      simp
/-- How many addresses the law looks at. -/
def lookN (stop : Int) (n : Nat) : Nat := if 0 < stop ∧ stop < n then stop.toNat else n
theorem lookN_le (stop : Int) (n : Nat) : lookN stop n ≤ n := by unfold lookN; split <;> omega
theorem over_look (l : List (Int × Hd)) (stop : Int) : ((Tk.new stop ((lookN stop l.length : Int) + 1)).over l).at_ = (l.take (lookN stop l.length)).map (·.1) ∧ ((Tk.new stop ((lookN stop l.length : Int) + 1)).over l).hd = (l.take (lookN stop l.length)).map (·.2) := by
  have h := over_take (l := l) (T := Tk.new stop ((lookN stop l.length : Int) + 1)) rfl (by
    show (((0 : Nat) : Int) < stop ∧ stop ≤ (lookN stop l.length : Int) + 1) ∨ ((0 : Nat) : Int) + l.length ≤ (lookN stop l.length : Int) + 1
    unfold lookN
    split <;> omega)
  have hc : l.take (cutN ((Tk.new stop ((lookN stop l.length : Int) + 1)).at_.length) (Tk.new stop ((lookN stop l.length : Int) + 1)).stop l.length) = l.take (lookN stop l.length) := by
    congr 1
    show cutN ((0 : Nat) : Int) stop l.length = _
    unfold cutN lookN
    split <;> split <;> omega
  rw [hc] at h
  simpa [Tk.new] using h
theorem objs_hd (A : Ar) (s : Int) : ∀ p ∈ A.objs s, p.2 = A.hd p.1 := by
  have key : ∀ n i, (A.top s - i).toNat = n → ∀ x ∈ A.things s i, x.obj = true → x.hd = A.hd x.at_ := by
    intro n
    induction n using Nat.strongRecOn with
    | ind n ih =>
      intro i hi x hx hobj
      have hth : ∀ y, y = A.th s i → y.obj = true → y.hd = A.hd y.at_ := fun y e ho => by
        subst e
        unfold Ar.th at ho ⊢
        split at ho
        · rename_i q; rw [if_pos q]
        · simp at ho
      by_cases h : i < A.top s
      · by_cases h2 : 0 < (A.th s i).words
        · rw [A.things_on h h2] at hx
          rcases List.mem_cons.1 hx with e | e
          · exact hth x e hobj
          · exact ih _ (by omega) _ rfl x e hobj
        · rw [A.things_bad h h2] at hx
          simp at hx
          exact hth x hx hobj
      · rw [A.things_end h] at hx; simp at hx
  intro p hp
  unfold Ar.objs at hp
  split at hp
  · unfold objsOf at hp
    obtain ⟨x, hx, rfl⟩ := List.mem_map.1 hp
    obtain ⟨h1, h2⟩ := List.mem_filter.1 hx
    exact key _ _ rfl x h1 h2
  · simp at hp
end Go.Proofs.YtomgfdfgildkbaaDoor
/- middenlaw3's both: walk. -/

namespace Go.Proofs.YtomgfdfgildkbaaDoor
open Go.RowKit Go.BigFrame

theorem row_cap {w : World} {B : Nat} {e : TypeId} {sz : Nat} {p : Option Addr} {n n' cap : Nat} {xs : List Value} (h : w.ownsRow B e sz (.slice p n' cap) n xs) : n ≤ cap := by
  rcases h.2 with ⟨h1, rfl⟩ | ⟨g, cap', cur, hv, _, _, h3, _⟩
  · exact Nat.zero_le _
  · cases hv; exact h3
set_option maxRecDepth 100000 in
set_option maxHeartbeats 8000000 in
theorem bwalk_any (x a wb r : Nat) (c : Int → Nat) (A : Ar) (wv av : Value) (s stop : Int) (w : World) (tb : Tab w) (h : BothAt w x a wb r c A wv av) (hst : -9223372036854775808 ≤ stop ∧ stop < 9223372036854775808) : Calls Tryd.prog 111 #[.pointer (some ⟨x, 0, none⟩), .int .i64 s, .int .i64 stop] w fun e w' => e = .returned (.bool true) ∧ Below w.heap.size w w' := by
  have RW := Lib.hid (rwalk_any r c A s w h.hR h.ok)
  have h262 := A.objs_len h.ok s
  have OB := Lib.hid (fun (W : World) (hb : Below w.heap.size w W) => objects_any a wb A s stop ((lookN stop (A.objs s).length : Int) + 1) W (tb.below hb) (h.hA.below hb) h.ok)
  obtain ⟨ov1, ov2⟩ := over_look (A.objs s) stop
  have RH := Lib.hid (fun (i : Int) (W : World) (hb : Below w.heap.size w W) => rhead_any r c A i W (h.hR.below hb) h.ok)
  have OH := Lib.hid (objs_hd A s)
  have HX := Lib.hid (fun (W : World) (hb : Below w.heap.size w W) => (hcell ((hb.block _ (lt_of_heap h.hx)).trans h.hx)).1)
  have SHE := Lib.hid (fun (h : Hd) (W : World) => (sameHead_any h h W).mono (R' := fun e w' => e = .returned (.bool true) ∧ Below W.heap.size W w') fun e w' ⟨h1, h2⟩ => ⟨by rw [h1, hdEq_iff.2 rfl], h2⟩)
  have mle := lookN_le stop (A.objs s).length
  have lxw := lt_of_heap h.hx
  clear tb h
  generalize A.objs s = L at *
  generalize hT1 : (Tk.new stop ((lookN stop L.length : Int) + 1)).over L = T1 at *
  clear hT1
  have hlen1 : T1.at_.length = lookN stop L.length := by rw [ov1, List.length_map, List.length_take]; omega
  have hlen2 : T1.hd.length = lookN stop L.length := by rw [ov2, List.length_map, List.length_take]; omega
  have hln0 : lookN stop L.length = if 0 < stop ∧ stop < (L.length : Int) then stop.toNat else L.length := rfl
  have HLN := Lib.hid hln0
  clear hln0
  have c0 := HX.out _ (Below.refl _ w)
  go_enter Tryd.func111, Tryd.ntmps111
  go_wp2_with fail
  refine RW.out.mono ?_
  rintro e w1 ⟨v, rfl, hrow, b1⟩
  obtain ⟨p, cap, rfl⟩ := row_form hrow
  have hcap := row_cap hrow
  clear c0 RW
  go_upto_region 2 with fail
  go_cut [30] from 14 (fun sl wx => sl = .bool (decide (0 < stop ∧ stop < (L.length : Int))) ∧ wx = w1)
  case first =>
    by_cases q1 : 0 < stop
    · have d1 : decide (0 < stop) = true := by simpa using q1
      by_cases q2 : stop < (L.length : Int)
      · have d2 : decide (stop < (L.length : Int)) = true := by simpa using q2
        have hq := Lib.hid (decide_eq_true (show 0 < stop ∧ stop < (L.length : Int) from ⟨q1, q2⟩))
        go_wp2_with fail
        go_meet
        exact ⟨by rw [hq.out], rfl⟩
      · have d2 : decide (stop < (L.length : Int)) = false := by simpa using q2
        have hq := Lib.hid (decide_eq_false (show ¬ (0 < stop ∧ stop < (L.length : Int)) from fun q => q2 q.2))
        go_wp2_with fail
        go_meet
        exact ⟨by rw [hq.out], rfl⟩
    · have d1 : decide (0 < stop) = false := by simpa using q1
      have hq := Lib.hid (decide_eq_false (show ¬ (0 < stop ∧ stop < (L.length : Int)) from fun q => q1 q.1))
      go_wp2_with fail
      go_meet
      exact ⟨by rw [hq.out], rfl⟩
  obtain ⟨rfl, rfl⟩ := hcut
  have HLN2 : lookN stop L.length = if decide (0 < stop ∧ stop < (L.length : Int)) = true then stop.toNat else L.length := by rw [HLN.out]; simp only [decide_eq_true_eq]
  have HK : decide (0 < stop ∧ stop < (L.length : Int)) = true → (0 : Int) ≤ stop ∧ stop ≤ (cap : Int) := fun q => by have := of_decide_eq_true q; omega
  have HLN3 := Lib.hid HLN2
  clear HLN2 HLN
  generalize decide (0 < stop ∧ stop < (L.length : Int)) = bq at *
  go_upto_if 30 with fail
  go_cut [7] from 14 (fun sl wx => sl = .slice p (lookN stop L.length) cap ∧ wx = wc)
  case first =>
    cases bq with
    | true =>
      obtain ⟨k0, k1⟩ := HK rfl
      clear HK
      go_wp2_with fail
      go_meet
      exact ⟨by rw [HLN3.out]; rfl, rfl⟩
    | false =>
      clear HK
      go_wp2_with fail
      go_meet
      exact ⟨by rw [HLN3.out]; rfl, rfl⟩
  case rest =>
    obtain ⟨rfl, rfl⟩ := hcut
    have hgetL : ∀ k, k < lookN stop L.length → T1.at_.getD k 0 = (L.getD k (0, nohd)).1 ∧ T1.hd.getD k nohd = (L.getD k (0, nohd)).2 ∧ k < L.length := fun k hk => by
      rw [ov1, ov2]
      simp only [List.getD_eq_getElem?_getD, List.getElem?_map, List.getElem?_take, hk, if_true]
      rw [List.getElem?_eq_getElem (show k < L.length by omega)]
      exact ⟨rfl, rfl, by omega⟩
    have GL := Lib.hid hgetL
    have OV := Lib.hid (⟨ov1, ov2⟩ : _ ∧ _)
    clear hgetL ov1 ov2
    generalize lookN stop L.length = m at *
    have c1 := HX.out _ b1
    have OB1 := Lib.hid (OB.out _ b1)
    clear OB
    go_wp2_with fail
    refine OB1.out.mono ?_
    rintro e w2 ⟨t, v1, v2, rfl, hT, hq⟩
    have b2 := b1.trans (hq.mono b1.size)
    have hrow2 := ownsRow_heap (w' := w2) hrow (fun k hk => hq.block k (hrow.lt k hk).2)
    obtain ⟨p1, n1, rfl⟩ := row_form hT.r1
    obtain ⟨p2, n2, rfl⟩ := row_form hT.r2
    have tc0 := hT.c0
    rw [hlen1] at tc0
    clear hq hrow OB1 c1 b1
    go_wp2_with fail
    go_loopw [11] (fun iv wx => ∃ k : Nat, k ≤ m ∧ iv = .int .i64 k ∧ Below w2.heap.size w2 wx) (fun iv _ => m - (intOf iv).toNat)
    case atStart => exact ⟨0, Nat.zero_le _, rfl, Below.refl _ _⟩
    case round =>
      obtain ⟨k, hk, rfl, hbr⟩ := hrel
      by_cases hlt : k < m
      · obtain ⟨gl1, gl2, gl3⟩ := GL.out k hlt
        have hTr := hT.below hbr
        have br := b2.trans (hbr.mono b2.size)
        have hrowr := ownsRow_heap (w' := wr) hrow2 (fun k hk => hbr.block k (hrow2.lt k hk).2)
        obtain ⟨g1, cp1, e1, -, -⟩ := hTr.r1.form (by omega)
        obtain ⟨g2, cp2, e2, -, -⟩ := hTr.r2.form (by omega)
        obtain ⟨g3, cp3, e3, -, -⟩ := hrowr.form (by omega)
        cases e1
        cases e2
        cases e3
        have c1 := HX.out _ br
        have d0 := hTr.c0
        have d1 := hTr.c1
        rw [hlen1] at d0
        rw [hlen2] at d1
        have a1 := row_int hTr.r1 (i := k) (by omega)
        have q2 := fun j (hj : j < 7) => row_hd hTr.r2 (i := k) (by omega) hj rfl
        have a3 : wr.cell? ⟨g3, k, none⟩ = some (.int .i64 (L.getD k (0, nohd)).1) := by
          rw [hrowr.cellAt k (by omega)]
          simp only [List.getElem?_map, List.getD_eq_getElem?_getD]
          rw [List.getElem?_eq_getElem gl3]; rfl
        have ohd : (L.getD k (0, nohd)).2 = A.hd (L.getD k (0, nohd)).1 := OH.out _ (by rw [List.getD_eq_getElem?_getD, List.getElem?_eq_getElem gl3]; exact List.getElem_mem gl3)
        rw [gl1] at a1
        rw [gl2, ohd] at q2
        have RHk := Lib.hid (fun (W : World) (hb : Below wr.heap.size wr W) => (RH.out (L.getD k (0, nohd)).1 W (br.trans (hb.mono br.size))))
        clear gl1 gl2 ohd hTr hrowr hT hrow2
        generalize (L.getD k (0, nohd)).1 = ak at *
        generalize A.hd ak = h9 at *
        generalize A.isObj ak = io at *
        obtain ⟨x0, x1, x2, x3, x4, x5, x6⟩ := h9
        have q20 : wr.cell? ⟨g2, k * 7, none⟩ = some (.int .u64 x0) := q2 0 (by decide)
        have q21 : wr.cell? ⟨g2, k * 7 + 1, none⟩ = some (.int .i64 x1) := q2 1 (by decide)
        have q22 : wr.cell? ⟨g2, k * 7 + 2, none⟩ = some (.int .i64 x2) := q2 2 (by decide)
        have q23 : wr.cell? ⟨g2, k * 7 + 3, none⟩ = some (.int .i64 x3) := q2 3 (by decide)
        have q24 : wr.cell? ⟨g2, k * 7 + 4, none⟩ = some (.int .i64 x4) := q2 4 (by decide)
        have q25 : wr.cell? ⟨g2, k * 7 + 5, none⟩ = some (.int .i64 x5) := q2 5 (by decide)
        have q26 : wr.cell? ⟨g2, k * 7 + 6, none⟩ = some (.bool x6) := q2 6 (by decide)
        have k0 : (0 : Int) ≤ (k : Int) := Int.natCast_nonneg _
        have k1 : (k : Int) < (m : Int) := by omega
        have cx1 : wr.cell? ⟨x, 1, none⟩ = some (.pointer (some ⟨r, 0, none⟩)) := by rw [c1]; rfl
        clear q2 c1
        unfold Hd.val at RHk
        simp only at RHk
        have KE1 := Lib.hid (fun (W : World) (hb : Below wr.heap.size wr W) => (⟨(hb.cell (p := ⟨x, 1, none⟩) (World.block_lt_of_cell? wr ⟨x, 1, none⟩ cx1)).trans cx1, (hb.cell (p := ⟨g3, k, none⟩) (World.block_lt_of_cell? wr ⟨g3, k, none⟩ a3)).trans a3, hb⟩ : W.cell? ⟨x, 1, none⟩ = some (.pointer (some ⟨r, 0, none⟩)) ∧ W.cell? ⟨g3, k, none⟩ = some (.int .i64 ak) ∧ Below wr.heap.size wr W))
        go_upto_region 10 with fail
        go_cut [12, 13] from 59 to 100 (fun pq _ wx => ∃ q, pq = .pointer (some ⟨q, 0, none⟩) ∧ wx.heap[q]? = some (Obj.cells #[.int .u64 x0, .int .i64 x1, .int .i64 x2, .int .i64 x3, .int .i64 x4, .int .i64 x5, .bool x6] 24 (0, 0)) ∧ Below wr.heap.size wr wx)
        case first =>
          have hA0 := ((Below.refl wr.heap.size wr).alloc (Nat.le_refl _) (.cells #[.int .u64 0, .int .i64 0, .int .i64 0, .int .i64 0, .int .i64 0, .int .i64 0, .bool false] 24)).drew
          have hH0 : (wr.alloc (.cells #[.int .u64 0, .int .i64 0, .int .i64 0, .int .i64 0, .int .i64 0, .int .i64 0, .bool false] 24)).drew.heap[wr.heap.size]? = some (Obj.cells #[.int .u64 0, .int .i64 0, .int .i64 0, .int .i64 0, .int .i64 0, .int .i64 0, .bool false] 24 (0, 0)) := heap_one wr (.cells #[.int .u64 0, .int .i64 0, .int .i64 0, .int .i64 0, .int .i64 0, .int .i64 0, .bool false] 24)
          go_region_held3 (fun W => W.cell? ⟨x, 1, none⟩ = some (.pointer (some ⟨r, 0, none⟩)) ∧ W.cell? ⟨g3, k, none⟩ = some (.int .i64 ak) ∧ Below wr.heap.size wr W) ((refine KE1.out _ ?_; repeat (first | (with_reducible assumption) | (with_reducible exact Below.refl _ _) | (with_reducible refine Below.drew ?_) | (with_reducible refine Below.setCell ?_ ?_ _) | (with_reducible refine Below.alloc ?_ ?_ _) | exact Nat.le_refl _ | exact hb9.size))) ((go_at_call 108; refine (RHk.out _ ?_).mono ?_; first | (exact hA0; rintro e w' ⟨rfl, hq9⟩; have hb9 := hA0.trans (hq9.mono hA0.size); have hH9 := (hq9.block _ (lt_of_heap hH0)).trans hH0; obtain ⟨cH9, fH9⟩ := hcell hH9) | (exact (Below.refl _ _).drew; rintro e w' ⟨rfl, hq9⟩; have hb9 : Below wr.heap.size wr w' := (Below.refl _ _).drew.trans hq9)))
          · have f1 := heap_one w' (.cells #[.int .u64 x0, .int .i64 x1, .int .i64 x2, .int .i64 x3, .int .i64 x4, .int .i64 x5, .bool x6] 24)
            have f2 := hb9.alloc hb9.size (.cells #[.int .u64 x0, .int .i64 x1, .int .i64 x2, .int .i64 x3, .int .i64 x4, .int .i64 x5, .bool x6] 24)
            generalize w'.alloc (.cells #[.int .u64 x0, .int .i64 x1, .int .i64 x2, .int .i64 x3, .int .i64 x4, .int .i64 x5, .bool x6] 24) = WZ at *
            generalize w'.heap.size = nq at *
            go_wp2_with fail
            go_meet
            exact ⟨_, rfl, f1, f2⟩
          · have f1 := set7 hH9 (.int .u64 x0) (.int .i64 x1) (.int .i64 x2) (.int .i64 x3) (.int .i64 x4) (.int .i64 x5) (.bool x6)
            have f2 := set7_below (.int .u64 x0) (.int .i64 x1) (.int .i64 x2) (.int .i64 x3) (.int .i64 x4) (.int .i64 x5) (.bool x6) hb9 (Nat.le_refl _)
            generalize (((((((w'.setCell ⟨wr.heap.size, 0, none⟩ (.int .u64 x0)).setCell ⟨wr.heap.size, 1, none⟩ (.int .i64 x1)).setCell ⟨wr.heap.size, 2, none⟩ (.int .i64 x2)).setCell ⟨wr.heap.size, 3, none⟩ (.int .i64 x3)).setCell ⟨wr.heap.size, 4, none⟩ (.int .i64 x4)).setCell ⟨wr.heap.size, 5, none⟩ (.int .i64 x5)).setCell ⟨wr.heap.size, 6, none⟩ (.bool x6)) = WZ at *
            go_wp2_with fail
            go_meet
            exact ⟨_, rfl, f1, f2⟩
        case rest =>
          obtain ⟨q, rfl, hq, hbq⟩ := hcut
          have d0 := (hbq.cell (p := ⟨t, 0, none⟩) (World.block_lt_of_cell? wr ⟨t, 0, none⟩ d0)).trans d0
          have d1 := (hbq.cell (p := ⟨t, 1, none⟩) (World.block_lt_of_cell? wr ⟨t, 1, none⟩ d1)).trans d1
          have a1 := (hbq.cell (p := ⟨g1, k, none⟩) (World.block_lt_of_cell? wr ⟨g1, k, none⟩ a1)).trans a1
          have a3 := (hbq.cell (p := ⟨g3, k, none⟩) (World.block_lt_of_cell? wr ⟨g3, k, none⟩ a3)).trans a3
          have q20 := (hbq.cell (p := ⟨g2, k * 7, none⟩) (World.block_lt_of_cell? wr ⟨g2, k * 7, none⟩ q20)).trans q20
          have q21 := (hbq.cell (p := ⟨g2, k * 7 + 1, none⟩) (World.block_lt_of_cell? wr ⟨g2, k * 7 + 1, none⟩ q21)).trans q21
          have q22 := (hbq.cell (p := ⟨g2, k * 7 + 2, none⟩) (World.block_lt_of_cell? wr ⟨g2, k * 7 + 2, none⟩ q22)).trans q22
          have q23 := (hbq.cell (p := ⟨g2, k * 7 + 3, none⟩) (World.block_lt_of_cell? wr ⟨g2, k * 7 + 3, none⟩ q23)).trans q23
          have q24 := (hbq.cell (p := ⟨g2, k * 7 + 4, none⟩) (World.block_lt_of_cell? wr ⟨g2, k * 7 + 4, none⟩ q24)).trans q24
          have q25 := (hbq.cell (p := ⟨g2, k * 7 + 5, none⟩) (World.block_lt_of_cell? wr ⟨g2, k * 7 + 5, none⟩ q25)).trans q25
          have q26 := (hbq.cell (p := ⟨g2, k * 7 + 6, none⟩) (World.block_lt_of_cell? wr ⟨g2, k * 7 + 6, none⟩ q26)).trans q26
          have p0 : wc.cell? ⟨q, 0, none⟩ = some (.int .u64 x0) := by rw [(hcell hq).1]; rfl
          have p1 : wc.cell? ⟨q, 1, none⟩ = some (.int .i64 x1) := by rw [(hcell hq).1]; rfl
          have p2 : wc.cell? ⟨q, 2, none⟩ = some (.int .i64 x2) := by rw [(hcell hq).1]; rfl
          have p3 : wc.cell? ⟨q, 3, none⟩ = some (.int .i64 x3) := by rw [(hcell hq).1]; rfl
          have p4 : wc.cell? ⟨q, 4, none⟩ = some (.int .i64 x4) := by rw [(hcell hq).1]; rfl
          have p5 : wc.cell? ⟨q, 5, none⟩ = some (.int .i64 x5) := by rw [(hcell hq).1]; rfl
          have p6 : wc.cell? ⟨q, 6, none⟩ = some (.bool x6) := by rw [(hcell hq).1]; rfl
          clear KE1 RHk hq
          have KE2 := Lib.hid (fun (W : World) (hb : Below wc.heap.size wc W) => (⟨(hb.cell (p := ⟨t, 0, none⟩) (World.block_lt_of_cell? wc ⟨t, 0, none⟩ d0)).trans d0, (hb.cell (p := ⟨t, 1, none⟩) (World.block_lt_of_cell? wc ⟨t, 1, none⟩ d1)).trans d1, (hb.cell (p := ⟨g1, k, none⟩) (World.block_lt_of_cell? wc ⟨g1, k, none⟩ a1)).trans a1, (hb.cell (p := ⟨g3, k, none⟩) (World.block_lt_of_cell? wc ⟨g3, k, none⟩ a3)).trans a3, (hb.cell (p := ⟨g2, k * 7, none⟩) (World.block_lt_of_cell? wc ⟨g2, k * 7, none⟩ q20)).trans q20, (hb.cell (p := ⟨g2, k * 7 + 1, none⟩) (World.block_lt_of_cell? wc ⟨g2, k * 7 + 1, none⟩ q21)).trans q21, (hb.cell (p := ⟨g2, k * 7 + 2, none⟩) (World.block_lt_of_cell? wc ⟨g2, k * 7 + 2, none⟩ q22)).trans q22, (hb.cell (p := ⟨g2, k * 7 + 3, none⟩) (World.block_lt_of_cell? wc ⟨g2, k * 7 + 3, none⟩ q23)).trans q23, (hb.cell (p := ⟨g2, k * 7 + 4, none⟩) (World.block_lt_of_cell? wc ⟨g2, k * 7 + 4, none⟩ q24)).trans q24, (hb.cell (p := ⟨g2, k * 7 + 5, none⟩) (World.block_lt_of_cell? wc ⟨g2, k * 7 + 5, none⟩ q25)).trans q25, (hb.cell (p := ⟨g2, k * 7 + 6, none⟩) (World.block_lt_of_cell? wc ⟨g2, k * 7 + 6, none⟩ q26)).trans q26, (hb.cell (p := ⟨q, 0, none⟩) (World.block_lt_of_cell? wc ⟨q, 0, none⟩ p0)).trans p0, (hb.cell (p := ⟨q, 1, none⟩) (World.block_lt_of_cell? wc ⟨q, 1, none⟩ p1)).trans p1, (hb.cell (p := ⟨q, 2, none⟩) (World.block_lt_of_cell? wc ⟨q, 2, none⟩ p2)).trans p2, (hb.cell (p := ⟨q, 3, none⟩) (World.block_lt_of_cell? wc ⟨q, 3, none⟩ p3)).trans p3, (hb.cell (p := ⟨q, 4, none⟩) (World.block_lt_of_cell? wc ⟨q, 4, none⟩ p4)).trans p4, (hb.cell (p := ⟨q, 5, none⟩) (World.block_lt_of_cell? wc ⟨q, 5, none⟩ p5)).trans p5, (hb.cell (p := ⟨q, 6, none⟩) (World.block_lt_of_cell? wc ⟨q, 6, none⟩ p6)).trans p6, hb⟩ : W.cell? ⟨t, 0, none⟩ = some (.slice (some ⟨g1, 0, none⟩) m n1) ∧ W.cell? ⟨t, 1, none⟩ = some (.slice (some ⟨g2, 0, none⟩) m n2) ∧ W.cell? ⟨g1, k, none⟩ = some (.int .i64 ak) ∧ W.cell? ⟨g3, k, none⟩ = some (.int .i64 ak) ∧ W.cell? ⟨g2, k * 7, none⟩ = some (.int .u64 x0) ∧ W.cell? ⟨g2, k * 7 + 1, none⟩ = some (.int .i64 x1) ∧ W.cell? ⟨g2, k * 7 + 2, none⟩ = some (.int .i64 x2) ∧ W.cell? ⟨g2, k * 7 + 3, none⟩ = some (.int .i64 x3) ∧ W.cell? ⟨g2, k * 7 + 4, none⟩ = some (.int .i64 x4) ∧ W.cell? ⟨g2, k * 7 + 5, none⟩ = some (.int .i64 x5) ∧ W.cell? ⟨g2, k * 7 + 6, none⟩ = some (.bool x6) ∧ W.cell? ⟨q, 0, none⟩ = some (.int .u64 x0) ∧ W.cell? ⟨q, 1, none⟩ = some (.int .i64 x1) ∧ W.cell? ⟨q, 2, none⟩ = some (.int .i64 x2) ∧ W.cell? ⟨q, 3, none⟩ = some (.int .i64 x3) ∧ W.cell? ⟨q, 4, none⟩ = some (.int .i64 x4) ∧ W.cell? ⟨q, 5, none⟩ = some (.int .i64 x5) ∧ W.cell? ⟨q, 6, none⟩ = some (.bool x6) ∧ Below wc.heap.size wc W))
          have SHW := Lib.hid (fun (W : World) (hb : Below wc.heap.size wc W) => (SHE.out ⟨x0, x1, x2, x3, x4, x5, x6⟩ W).mono (R' := fun e w' => e = .returned (.bool true) ∧ Below wc.heap.size wc w') fun e w' ⟨h1, h2⟩ => ⟨h1, hb.trans (h2.mono hb.size)⟩)
          unfold Hd.val at SHW
          simp only at SHW
          clear SHE
          go_upto_region 11 with fail
          go_region_held3 (fun W => W.cell? ⟨t, 0, none⟩ = some (.slice (some ⟨g1, 0, none⟩) m n1) ∧ W.cell? ⟨t, 1, none⟩ = some (.slice (some ⟨g2, 0, none⟩) m n2) ∧ W.cell? ⟨g1, k, none⟩ = some (.int .i64 ak) ∧ W.cell? ⟨g3, k, none⟩ = some (.int .i64 ak) ∧ W.cell? ⟨g2, k * 7, none⟩ = some (.int .u64 x0) ∧ W.cell? ⟨g2, k * 7 + 1, none⟩ = some (.int .i64 x1) ∧ W.cell? ⟨g2, k * 7 + 2, none⟩ = some (.int .i64 x2) ∧ W.cell? ⟨g2, k * 7 + 3, none⟩ = some (.int .i64 x3) ∧ W.cell? ⟨g2, k * 7 + 4, none⟩ = some (.int .i64 x4) ∧ W.cell? ⟨g2, k * 7 + 5, none⟩ = some (.int .i64 x5) ∧ W.cell? ⟨g2, k * 7 + 6, none⟩ = some (.bool x6) ∧ W.cell? ⟨q, 0, none⟩ = some (.int .u64 x0) ∧ W.cell? ⟨q, 1, none⟩ = some (.int .i64 x1) ∧ W.cell? ⟨q, 2, none⟩ = some (.int .i64 x2) ∧ W.cell? ⟨q, 3, none⟩ = some (.int .i64 x3) ∧ W.cell? ⟨q, 4, none⟩ = some (.int .i64 x4) ∧ W.cell? ⟨q, 5, none⟩ = some (.int .i64 x5) ∧ W.cell? ⟨q, 6, none⟩ = some (.bool x6) ∧ Below wc.heap.size wc W) ((refine KE2.out _ ?_; repeat (first | (with_reducible assumption) | (with_reducible exact Below.refl _ _) | (with_reducible refine Below.drew ?_)))) (first | (go_at_call 96; refine (SHW.out _ ?_).mono ?_; (first | assumption | exact (Below.refl _ _).drew | exact (Below.refl _ _)); rintro e w' ⟨rfl, hb9⟩))
          all_goals
            go_wp2_with fail
            exact ⟨⟨k + 1, by omega, by go_num, hbr.trans ((hbq.trans (hb9.mono hbq.size)).mono hbr.size)⟩, by simp [intOf]; omega⟩
      · obtain rfl : k = m := by omega
        go_wp2_with fail
        go_ret
        exact ⟨rfl, b2.trans (hbr.mono b2.size)⟩
end Go.Proofs.YtomgfdfgildkbaaDoor
/- The program's Check: every walk's first fault. -/

namespace Go.Proofs.YtomgfdfgildkbaaDoor
open Go.RowKit Go.BigFrame
attribute [local go_sem] Oper.semAt_some

theorem things_ge (A : Ar) (s : Int) : ∀ n i, (A.top s - i).toNat = n → ∀ x ∈ A.things s i, i ≤ x.at_ := by
  intro n
  induction n using Nat.strongRecOn with
  | ind n ih =>
    intro i hi x hx
    by_cases h : i < A.top s
    · by_cases h2 : 0 < (A.th s i).words
      · rw [A.things_on h h2] at hx
        rcases List.mem_cons.1 hx with e | e
        · rw [e, A.th_at]; omega
        · have := ih _ (by omega) (i + (A.th s i).words) rfl x e
          omega
      · rw [A.things_bad h h2] at hx
        simp at hx
        rw [hx, A.th_at]; omega
    · rw [A.things_end h] at hx; simp at hx
theorem all_pos (A : Ar) (ok : A.Ok) (s : Int) : ∀ x ∈ A.all s, 0 < x.at_ := by
  intro x hx
  unfold Ar.all at hx
  split at hx
  · rename_i h
    have := things_ge A s _ _ rfl x hx
    have : 1 ≤ A.first s := by
      obtain ⟨e0, e1, s0, s1, t0, t1⟩ := Cfg.bd ok.cv
      rcases sp_cases h with rfl | rfl | rfl | rfl <;> simp [Ar.first] <;> omega
    omega
  · simp at hx
theorem badOf_none {l : List Th} (h : ∀ x ∈ l, x.words ≠ 0) : badOf l = 0 := by
  have := badOf_app (m := []) h
  simpa [badOf] using this
theorem badOf_at {l pre : List Th} {x : Th} (h : ∀ x ∈ pre, x.words ≠ 0) (hx : x.words = 0) (hp : pre ++ [x] <+: l) : badOf l = x.at_ := by
  obtain ⟨q, rfl⟩ := hp
  rw [List.append_assoc, badOf_app h]
  show (if x.words = 0 then x.at_ else _) = _
  rw [if_pos hx]
def markOf (D : Nat) : Deferred := { target := .collected D, args := #[] }
theorem leave_marks {F : Fence} {n : Nat} {P : Program} {fn : Func} {tmps : Array Value} {R : Ending → World → Prop} : ∀ (Ds : List Nat) (W : World), Ds.Pairwise (· ≠ ·) → (∀ D ∈ Ds, W.heap[D]? = some (.deferred (some []))) →
    (∀ W', W'.os = W.os → W'.tape = W.tape → W'.output = W.output → W'.heap.size = W.heap.size → (∀ k, k ∉ Ds → W'.heap[k]? = W.heap[k]?) → ∃ v, (results fn tmps).run P W' = .ok v W' ∧ R (.returned v) W') →
    LeavesInM F n P fn tmps R (Ds.map markOf) .returning W := by
  intro Ds
  induction Ds with
  | nil => intro W _ _ hf; exact hf W rfl rfl rfl rfl fun _ _ => rfl
  | cons D Ds ih =>
    intro W hp hD hf
    obtain ⟨hp1, hp2⟩ := List.pairwise_cons.1 hp
    refine ⟨by simp, .inl ⟨D, _, rfl, run_takeDeferred (hD D (by simp)), ih _ hp2 (fun E hE => ?_) ?_⟩⟩
    · rw [World.putObj_heap_other (Ne.symm (hp1 E hE))]; exact hD E (by simp [hE])
    · intro W' h1 h2 h3 h4 h5
      refine hf W' h1 h2 h3 (by rw [h4]; simp [World.putObj]) fun k hk => ?_
      have : k ≠ D ∧ k ∉ Ds := by simpa using hk
      rw [h5 k this.2, World.putObj_heap_other this.1]
set_option maxRecDepth 100000 in
set_option maxHeartbeats 4000000 in
theorem acheck_any (b wb : Nat) (A : Ar) (w : World) (tb : Tab w) (h : ArAt w b wb A) (ok : A.Ok) : Calls Tryd.prog 99 #[.pointer (some ⟨b, 0, none⟩)] w fun e w' => e = .returned (.tuple #[.int .i64 (chkFrom A 1).1, .int .i64 (chkFrom A 1).2]) ∧ Below w.heap.size w w' := by
  have WM := Lib.hid (fun s w => walk_mk b s w)
  have C1 := Lib.hid (fun s => @chkFrom_end A s)
  have C2 := Lib.hid (fun s => @chkFrom_bad A s)
  have C3 := Lib.hid (fun s => @chkFrom_on A s)
  have AP := Lib.hid (all_pos A ok)
  have hr0 : chkFrom A 0 = chkFrom A 1 := chkFrom_on A (by decide) (by rw [show A.all 0 = [] from if_neg (by decide)]; decide)
  generalize chkFrom A 1 = r at *
  have HR := Lib.hid hr0
  clear hr0
  have lb := lt_of_heap h.st
  have lwb := lt_of_heap h.ws
  have ln := World.block_lt_of_cell? w _ tb.n0
  have lw := World.block_lt_of_cell? w _ tb.w0
  obtain ⟨n, hn⟩ : ∃ n : Nat, n = 7 := ⟨_, rfl⟩
  clear hn
  refine (callsIn_wide (n := n)).1 ?_
  refine callsIn_of_wp_marks Tryd.func99 rfl trivial ?_ rfl
  simp only [Tryd.ntmps99, List.size_toArray, List.length_cons, List.length_nil, Nat.reduceAdd, Nat.reduceSub, Array.replicate_succ, Array.replicate_zero, List.push_toArray, List.append_toArray, List.nil_append, List.cons_append]
  gi_wp2_with fail
  have e1 := heap_two w (.cells #[.int .i64 0] 3) (.cells #[.int .i64 0] 25)
  have hb1 : Below w.heap.size w ((w.alloc (.cells #[.int .i64 0] 3)).alloc (.cells #[.int .i64 0] 25)) := ((Below.refl _ w).alloc (Nat.le_refl _) _).alloc (by simp) _
  generalize (w.alloc (.cells #[.int .i64 0] 3)).alloc (.cells #[.int .i64 0] 25) = w0 at *
  refine wpIn_loop (fun a W => ∃ (k : Int) (Ds : List Nat) (u1 u4 u5 u7 u8 u9 u10 u11 u12 u13 u14 u15 u16 u17 u18 : Value), a = { tmps := #[.pointer (some ⟨b, 0, none⟩), u1, .pointer (some ⟨w.heap.size, 0, none⟩), .pointer (some ⟨w.heap.size + 1, 0, none⟩), u4, u5, .int .i64 k, u7, u8, u9, u10, u11, u12, u13, u14, u15, u16, u17, u18], defers := Ds.map markOf } ∧ 0 ≤ k ∧ k ≤ 5 ∧ chkFrom A k = r ∧ Below w.heap.size w W ∧ W.heap[w.heap.size]? = some (.cells #[.int .i64 0] 3 (0, 0)) ∧ W.heap[w.heap.size + 1]? = some (.cells #[.int .i64 0] 25 (0, 0)) ∧ Ds.Pairwise (· ≠ ·) ∧ ∀ D ∈ Ds, w.heap.size + 1 < D ∧ D < W.heap.size ∧ W.heap[D]? = some (.deferred (some []))) (fun a _ => (5 - intOf (a.tmps.getD 6 undef)).toNat) ?_ ?_
  · exact ⟨0, [], _, _, _, _, _, _, _, _, _, _, _, _, _, _, _, rfl, by decide, by decide, HR.out, hb1, e1.1, e1.2, .nil, fun _ h => by simp at h⟩
  · clear e1 hb1 w0
    rintro a W ⟨k, Ds, u1, u4, u5, u7, u8, u9, u10, u11, u12, u13, u14, u15, u16, u17, u18, rfl, k0, k5, hc, hb, g1, g2, hp, hD⟩
    by_cases hlt : k < 5
    · have d0 : decide (k < 5) = true := by simpa using hlt
      have hk0 := Lib.hid (chkFrom_bad A hlt)
      have hk1 := Lib.hid (chkFrom_on A hlt)
      gi_wp2_with fail
      refine ⟨trivial, (fun h => by cases h), (callsIn_wide.2 (WM.out k W)).mono ?_⟩
      rintro e W0 ⟨rfl, hW0⟩
      have b1 := heap_two W (.cells #[.pointer (some ⟨b, 0, none⟩)] 47) (.cells #[.int .i64 k] 3)
      have hbW : Below W.heap.size W W0 := by rw [hW0]; exact ((Below.refl _ W).alloc (Nat.le_refl _) _).alloc (by simp) _
      have hz : W0.heap.size = W.heap.size + 2 := by rw [hW0]; simp
      rw [← hW0] at b1
      obtain ⟨b1, b2⟩ := b1
      clear hW0 WM
      obtain ⟨c1, d1⟩ := hcell b1
      obtain ⟨c2, d2⟩ := hcell b2
      have hb0 := hb.trans (hbW.mono hb.size)
      have hbs := hb.size
      have g10 := (hbW.block _ (lt_of_heap g1)).trans g1
      have g20 := (hbW.block _ (lt_of_heap g2)).trans g2
      have hD0 : ∀ D ∈ Ds, w.heap.size + 1 < D ∧ D < W.heap.size ∧ W0.heap[D]? = some (.deferred (some [])) := fun D h => ⟨(hD D h).1, (hD D h).2.1, (hbW.block _ (hD D h).2.1).trans (hD D h).2.2⟩
      have lg1 := lt_of_heap g1
      have lg2 := lt_of_heap g2
      clear g1 g2 hD hbW
      obtain ⟨S, hS⟩ : ∃ S : List Nat, S = [b, wb, 1, 0, W.heap.size, W.heap.size + 1, w.heap.size, w.heap.size + 1] ++ Ds := ⟨_, rfl⟩
      have hSl : ∀ j ∈ S, j < W0.heap.size := fun j hj => by
        rw [hS] at hj
        simp only [List.cons_append, List.nil_append, List.mem_cons] at hj
        rcases hj with h | h | h | h | h | h | h | h | h
        · omega
        · omega
        · omega
        · omega
        · omega
        · omega
        · omega
        · omega
        · have := (hD0 j h).2.1; omega
      have IN : ∀ j, j ∈ [b, wb, 1, 0, W.heap.size, W.heap.size + 1, w.heap.size, w.heap.size + 1] → j ∈ S := fun j hj => by rw [hS]; exact List.mem_append_left _ hj
      have IND : ∀ j, j ∈ Ds → j ∈ S := fun j hj => by rw [hS]; exact List.mem_append_right _ hj
      clear hS
      gi_wp2_with fail
      refine range_gives (gf := 163) (lb := #[.pointer (some ⟨W.heap.size + 1, 0, none⟩), .pointer (some ⟨W.heap.size, 0, none⟩)]) (S := S) (xs := A.all k) rfl (enters_of Tryd.func163 (by kernel_rfl) rfl)
        (walk1_gives b wb (W.heap.size + 1) W.heap.size A k _ (IN _ (by simp)) (IN _ (by simp)) (IN _ (by simp)) (IN _ (by simp)) (IN _ (by simp)) (IN _ (by simp)) ok W0 (tb.below hb0) (h.below hb0) (by rw [c2]; rfl) (by rw [c1]; rfl)) hSl (fun _ => rfl)
        (fun pre W' => (∀ x ∈ pre, x.words ≠ 0) ∧ Below w.heap.size w W' ∧ KeptT S W0 W')
        (fun c pre W' => c = .ret ∧ (∃ pre' x, pre = pre' ++ [x] ∧ (∀ y ∈ pre', y.words ≠ 0) ∧ x.words = 0 ∧ W'.heap[w.heap.size]? = some (.cells #[.int .i64 x.at_] 3 (0, 0)) ∧ W'.heap[w.heap.size + 1]? = some (.cells #[.int .i64 31] 25 (0, 0))) ∧ (∀ D ∈ Ds, W'.heap[D]? = some (.deferred (some []))) ∧ Below w.heap.size w W')
        ?own1 ?own2 ⟨fun _ h => by simp at h, hb0, .refl _ _⟩
        (fun x a' W' => ∃ Bx, W0.heap.size ≤ Bx ∧ W'.heap[Bx]? = some (.cells x.cells 193 (0, 0)) ∧ a' = { tmps := #[.pointer (some ⟨b, 0, none⟩), u1, .pointer (some ⟨w.heap.size, 0, none⟩), .pointer (some ⟨w.heap.size + 1, 0, none⟩), .int .i64 k, .pointer (some ⟨Bx, 0, none⟩), .int .i64 k, .bool true, .int .i64 k, .pointer (some ⟨b, 0, none⟩), .int .i64 k, .func (.func 163) #[] #[.pointer (some ⟨W.heap.size + 1, 0, none⟩), .pointer (some ⟨W.heap.size, 0, none⟩)], x.val, u13, u14, u15, u16, u17, u18], defers := [] })
        ?ownA ?assign ?body ?done ?stop
      case own1 =>
        refine OwnFrom.and (fun pre X Y row hs hg hr => hs) (OwnFrom.and (fun pre X Y row hs hg hr => ?_) (keptT_own (Nat.le_refl _) hSl))
        exact Below.grown hs hg hs.size fun j e => by have := (hr j e).1; have := hb0.size; omega
      case own2 =>
        intro c pre X Y row hs hg hr
        obtain ⟨h1, ⟨p', x, h2, h3, h4, h5, h6⟩, h7, h8⟩ := hs
        have hkp : ∀ j o, X.heap[j]? = some o → j < W0.heap.size → Y.heap[j]? = some o := fun j o hj hl => (hg.block j (lt_of_heap hj) (fun e => by have := (hr j e.symm).1; omega)).trans hj
        refine ⟨h1, ⟨p', x, h2, h3, h4, hkp _ _ h5 (by omega), hkp _ _ h6 (by omega)⟩, fun D hD => hkp _ _ (h7 D hD) (by have := (hD0 D hD).2.1; omega), ?_⟩
        exact Below.grown h8 hg h8.size fun j e => by have := (hr j e).1; have := hb0.size; omega
      case ownA =>
        intro x a' _ X Y row hs hg hr
        obtain ⟨Bx, h1, h2, h3⟩ := hs
        refine ⟨Bx, h1, (hg.block Bx (lt_of_heap h2) (fun e => ?_)).trans h2, h3⟩
        obtain ⟨o, ho, hc⟩ := (hr Bx e.symm).2
        rw [h2] at ho; cases ho; cases hc
      case assign =>
        rintro m l pre ⟨xa, xw, ⟨x0, x1, x2, x3, x4, x5, x6⟩, xo⟩ W' K ⟨hpw, hbw, hk⟩ hpre hK
        simp only [Th.val, Th.cells]
        gi_wp2
        have hb1 : ∀ X, Below W'.heap.size W' (W'.alloc X) := fun X => (Below.refl _ W').alloc (Nat.le_refl _) X
        have hsz := hk.size
        exact hK _ _ ((KeepsOthers.alloc _ _).from _) (.below (hb1 _)) ⟨hpw, hbw.trans ((hb1 _).mono hbw.size), hk.trans (.below (hb1 _))⟩ ⟨W'.heap.size, hsz, heap_one W' _, rfl⟩
      case body =>
        rintro m l pre x a' W' hl ⟨r', hr'⟩ ⟨hpw, hbw, hk⟩ ⟨Bx, hBx, hX, rfl⟩ hpre
        have e1 := (hk.blk _ (IN w.heap.size (by simp)) (by omega)).trans g10
        have e2 := (hk.blk _ (IN (w.heap.size + 1) (by simp)) (by omega)).trans g20
        have hD1 : ∀ D ∈ Ds, W'.heap[D]? = some (.deferred (some [])) := fun D hD => (hk.blk _ (IND D hD) (by have := (hD0 D hD).2.1; omega)).trans (hD0 D hD).2.2
        by_cases q : x.words = 0
        · have dq : decide (x.words = 0) = true := by simpa using q
          have PX := Lib.hid (⟨x, rfl, hpw, q, rfl⟩ : ∃ y, y = x ∧ (∀ z ∈ pre, z.words ≠ 0) ∧ x.words = 0 ∧ y = x)
          obtain ⟨xa, xw, ⟨x0, x1, x2, x3, x4, x5, x6⟩, xo⟩ := x
          unfold Th.cells at hX
          simp only at hX dq q
          obtain ⟨cX, fX⟩ := hcell hX
          obtain ⟨cE1, fE1⟩ := hcell e1
          obtain ⟨cE2, fE2⟩ := hcell e2
          gi_wp2_with fail
          have f1 := block_set e1 0 (.int .i64 xa)
          have f2 : (W'.setCell ⟨w.heap.size, 0, none⟩ (.int .i64 xa)).heap[w.heap.size + 1]? = _ := (block_set_ne (by simp)).trans e2
          have f3 : ((W'.setCell ⟨w.heap.size, 0, none⟩ (.int .i64 xa)).setCell ⟨w.heap.size + 1, 0, none⟩ (.int .i64 31)).heap[w.heap.size]? = _ := (block_set_ne (by simp)).trans f1
          have f4 := block_set f2 0 (.int .i64 31)
          obtain ⟨y, hy1, hy2, hy3, hy4⟩ := PX.out
          refine ⟨((KeepsOthers.setCell _ _ _).trans (KeepsOthers.setCell _ _ _)).from _, rfl, ⟨pre, _, rfl, hpw, rfl, f3, f4⟩, fun D hD => ?_, ?_⟩
          · have := (hD0 D hD).1
            rw [block_set_ne (by show D ≠ w.heap.size + 1; omega), block_set_ne (by show D ≠ w.heap.size; omega)]
            exact hD1 D hD
          · exact Below.setCell (Below.setCell hbw (Nat.le_refl _) _) (Nat.le_succ _) _
        · have dq : decide (x.words = 0) = false := by simpa using q
          have PX := Lib.hid (show ∀ z ∈ pre ++ [x], z.words ≠ 0 from fun z hz => by
            rcases List.mem_append.1 hz with h | h
            · exact hpw z h
            · rw [List.mem_singleton.1 h]; exact q)
          obtain ⟨xa, xw, ⟨x0, x1, x2, x3, x4, x5, x6⟩, xo⟩ := x
          unfold Th.cells at hX
          simp only at hX dq q
          obtain ⟨cX, fX⟩ := hcell hX
          gi_wp2_with fail
          exact ⟨KeepsFrom.refl _ _, .refl _ _, PX.out, hbw, hk⟩
      case done =>
        rintro D W' hD ⟨hpw, hbw, hk⟩ hK
        gi_wp2
        have e1 := (hk.blk _ (IN w.heap.size (by simp)) (by omega)).trans g10
        have e2 := (hk.blk _ (IN (w.heap.size + 1) (by simp)) (by omega)).trans g20
        refine ⟨⟨k + 1, D :: Ds, _, _, _, _, _, _, _, _, _, _, _, _, _, _, _, rfl, by omega, by omega, ?_, hbw, e1, e2, ?_, ?_⟩, ?_⟩
        · rw [← hk1.out (by rw [badOf_none hpw]; decide)]; exact hc
        · exact List.pairwise_cons.2 ⟨fun E hE => by have := (hD0 E hE).2.1; omega, hp⟩
        · intro E hE
          rcases List.mem_cons.1 hE with rfl | h
          · exact ⟨by omega, lt_of_heap hK, hK⟩
          · have h1 := hD0 E h
            exact ⟨h1.1, by have := hk.size; omega, (hk.blk _ (IND E h) (by omega)).trans h1.2.2⟩
        · simp [intOf]; omega
      case stop =>
        rintro D c pre W' hD hpre ⟨rfl, ⟨p', x, rfl, hpw, hx, e1, e2⟩, hDs, hbw⟩ hK
        gi_wp2
        have l1 := lt_of_heap hK
        refine leave_marks (D :: Ds) W' (List.pairwise_cons.2 ⟨fun E hE => by have := (hD0 E hE).2.1; omega, hp⟩) (fun E hE => ?_) ?_
        · rcases List.mem_cons.1 hE with rfl | hE
          · exact hK
          · exact hDs E hE
        · intro W1 o1 o2 o3 hsz hsm
          have i1 := (hsm w.heap.size (fun hE => by
            rcases List.mem_cons.1 hE with hE | hE
            · omega
            · have := (hD0 _ hE).1; omega)).trans e1
          have i2 := (hsm (w.heap.size + 1) (fun hE => by
            rcases List.mem_cons.1 hE with hE | hE
            · omega
            · have := (hD0 _ hE).1; omega)).trans e2
          have hbd := badOf_at hpw hx hpre
          have hps := AP.out k x (hpre.subset (by simp))
          have hr1 := hk0.out (by omega)
          rw [hc, hbd] at hr1
          obtain ⟨cE1, fE1⟩ := hcell i1
          obtain ⟨cE2, fE2⟩ := hcell i2
          refine ⟨.tuple #[.int .i64 x.at_, .int .i64 31], by simp [results, Tryd.results99, go_sem, cE1, cE2], by rw [hr1], ⟨o1.trans hbw.os, o2.trans hbw.tape, o3.trans hbw.output, by rw [hsz]; exact hbw.size, fun j hj => ?_⟩⟩
          rw [hsm j (fun hE => by
            rcases List.mem_cons.1 hE with hE | hE
            · omega
            · have := (hD0 _ hE).1; omega)]
          exact hbw.block j hj
    · have d0 : decide (k < 5) = false := by simpa using hlt
      have hk2 := Lib.hid (chkFrom_end A hlt)
      obtain ⟨cE1, fE1⟩ := hcell g1
      obtain ⟨cE2, fE2⟩ := hcell g2
      gi_wp2_with fail
      have f1 := block_set g1 0 (.int .i64 0)
      have f2 : (W.setCell ⟨w.heap.size, 0, none⟩ (.int .i64 0)).heap[w.heap.size + 1]? = _ := (block_set_ne (by simp)).trans g2
      have f3 : ((W.setCell ⟨w.heap.size, 0, none⟩ (.int .i64 0)).setCell ⟨w.heap.size + 1, 0, none⟩ (.int .i64 0)).heap[w.heap.size]? = _ := (block_set_ne (by simp)).trans f1
      have f4 := block_set f2 0 (.int .i64 0)
      have hbw : Below w.heap.size w ((W.setCell ⟨w.heap.size, 0, none⟩ (.int .i64 0)).setCell ⟨w.heap.size + 1, 0, none⟩ (.int .i64 0)) := Below.setCell (Below.setCell hb (Nat.le_refl _) _) (Nat.le_succ _) _
      have hDs : ∀ D ∈ Ds, ((W.setCell ⟨w.heap.size, 0, none⟩ (.int .i64 0)).setCell ⟨w.heap.size + 1, 0, none⟩ (.int .i64 0)).heap[D]? = some (.deferred (some [])) := fun D h => by
        have := (hD D h).1
        rw [block_set_ne (by show D ≠ w.heap.size + 1; omega), block_set_ne (by show D ≠ w.heap.size; omega)]
        exact (hD D h).2.2
      generalize (W.setCell ⟨w.heap.size, 0, none⟩ (.int .i64 0)).setCell ⟨w.heap.size + 1, 0, none⟩ (.int .i64 0) = W' at *
      refine leave_marks Ds W' hp hDs ?_
      intro W1 o1 o2 o3 hsz hsm
      have i1 := (hsm w.heap.size (fun hE => by have := (hD _ hE).1; omega)).trans f3
      have i2 := (hsm (w.heap.size + 1) (fun hE => by have := (hD _ hE).1; omega)).trans f4
      have hr1 := hk2.out
      rw [hc] at hr1
      clear cE1 fE1 cE2 fE2
      obtain ⟨cE1, fE1⟩ := hcell i1
      obtain ⟨cE2, fE2⟩ := hcell i2
      refine ⟨.tuple #[.int .i64 0, .int .i64 0], by simp [results, Tryd.results99, go_sem, cE1, cE2], by rw [hr1], ⟨o1.trans hbw.os, o2.trans hbw.tape, o3.trans hbw.output, by rw [hsz]; exact hbw.size, fun j hj => ?_⟩⟩
      rw [hsm j (fun hE => by have := (hD _ hE).1; omega)]
      exact hbw.block j hj
end Go.Proofs.YtomgfdfgildkbaaDoor
/- middenlaw3's both: the steps that read. -/



namespace Go.Proofs.YtomgfdfgildkbaaDoor
open Go.RowKit Go.BigFrame

/-- A step over the arenas. -/
structure St where
  kind : Int
  which : Int
  s : Int
  a : Int
  b : Int
  c : Int
  w : Int
  hd : Hd
def St.cells (o : St) : Array Value := #[.int .i64 o.kind, .int .i64 o.which, .int .i64 o.s, .int .i64 o.a, .int .i64 o.b, .int .i64 o.c, .int .u64 o.w, .int .u64 o.hd.ser, .int .i64 o.hd.kind, .int .i64 o.hd.ptrs, .int .i64 o.hd.raws, .int .i64 o.hd.age, .int .i64 o.hd.site, .bool o.hd.held]
def St.val (o : St) : Value := .agg o.cells

set_option maxRecDepth 100000 in
set_option maxHeartbeats 4000000 in
theorem step11_any (x a wb r : Nat) (c : Int → Nat) (A : Ar) (wv av : Value) (o : St) (w : World) (h : BothAt w x a wb r c A wv av) (hk : o.kind = 11) : Calls Tryd.prog 60 #[.pointer (some ⟨x, 0, none⟩), o.val] w fun e w' => e = .returned (.bool true) ∧ Below w.heap.size w w' := by
  obtain ⟨o0, o1, o2, o3, o4, o5, o6, ⟨x0, x1, x2, x3, x4, x5, x6⟩⟩ := o
  simp only at hk
  subst hk
  have C1 := Lib.hid (fun (W : World) (hb : Below w.heap.size w W) => Bl hb (bspace_any x a wb r c A wv av o2 W (h.below hb)))
  have HX := Lib.hid (fun (W : World) (hb : Below w.heap.size w W) => (hcell ((hb.block _ (lt_of_heap h.hx)).trans h.hx)).1)
  clear h
  unfold St.val St.cells
  simp only
  have hO := heap_one w (.cells #[.int .i64 11, .int .i64 o1, .int .i64 o2, .int .i64 o3, .int .i64 o4, .int .i64 o5, .int .u64 o6, .int .u64 x0, .int .i64 x1, .int .i64 x2, .int .i64 x3, .int .i64 x4, .int .i64 x5, .bool x6] 81)
  have hb := (Below.refl w.heap.size w).alloc (Nat.le_refl _) (.cells #[.int .i64 11, .int .i64 o1, .int .i64 o2, .int .i64 o3, .int .i64 o4, .int .i64 o5, .int .u64 o6, .int .u64 x0, .int .i64 x1, .int .i64 x2, .int .i64 x3, .int .i64 x4, .int .i64 x5, .bool x6] 81)
  go_enter Tryd.func60, Tryd.ntmps60
  go_upto_region 1 with fail
  generalize w.alloc (.cells #[.int .i64 11, .int .i64 o1, .int .i64 o2, .int .i64 o3, .int .i64 o4, .int .i64 o5, .int .u64 o6, .int .u64 x0, .int .i64 x1, .int .i64 x2, .int .i64 x3, .int .i64 x4, .int .i64 x5, .bool x6] 81) = w1 at *
  generalize hqe : w.heap.size = q at *
  have HQ := Lib.hid hqe
  clear hqe
  obtain ⟨cO, fO⟩ := hcell hO
  have c0 := HX.out _ hb
  have b0 := hb
  clear hb
  go_wp2_with fail
  refine (C1.out _ b0).mono ?_
  rintro e y0 ⟨rfl, b1⟩
  have c1 := HX.out _ b1
  clear c0
  go_wp2_with fail
  go_ret
  exact ⟨rfl, by rw [HQ.out]; exact b1⟩
set_option maxRecDepth 100000 in
set_option maxHeartbeats 4000000 in
theorem step12_any (x a wb r : Nat) (c : Int → Nat) (A : Ar) (wv av : Value) (o : St) (w : World) (h : BothAt w x a wb r c A wv av) (hk : o.kind = 12) : Calls Tryd.prog 60 #[.pointer (some ⟨x, 0, none⟩), o.val] w fun e w' => e = .returned (.bool true) ∧ Below w.heap.size w w' := by
  obtain ⟨o0, o1, o2, o3, o4, o5, o6, ⟨x0, x1, x2, x3, x4, x5, x6⟩⟩ := o
  simp only at hk
  subst hk
  have C1 := Lib.hid (fun (W : World) (hb : Below w.heap.size w W) => Bq hb (from_any a wb A W (h.hA.below hb)))
  have C2 := Lib.hid (fun (W : World) (hb : Below w.heap.size w W) => Bq hb (to_any a wb A W (h.hA.below hb) h.ok))
  have C3 := Lib.hid (fun (W : World) (hb : Below w.heap.size w W) => Bq hb (rfrom_any r c A W (h.hR.below hb)))
  have C4 := Lib.hid (fun (W : World) (hb : Below w.heap.size w W) => Bq hb (rto_any r c A W (h.hR.below hb) h.ok))
  have HX := Lib.hid (fun (W : World) (hb : Below w.heap.size w W) => (hcell ((hb.block _ (lt_of_heap h.hx)).trans h.hx)).1)
  clear h
  unfold St.val St.cells
  simp only
  generalize A.frm = v1 at *
  generalize A.to = v2 at *
  have hO := heap_one w (.cells #[.int .i64 12, .int .i64 o1, .int .i64 o2, .int .i64 o3, .int .i64 o4, .int .i64 o5, .int .u64 o6, .int .u64 x0, .int .i64 x1, .int .i64 x2, .int .i64 x3, .int .i64 x4, .int .i64 x5, .bool x6] 81)
  have hb := (Below.refl w.heap.size w).alloc (Nat.le_refl _) (.cells #[.int .i64 12, .int .i64 o1, .int .i64 o2, .int .i64 o3, .int .i64 o4, .int .i64 o5, .int .u64 o6, .int .u64 x0, .int .i64 x1, .int .i64 x2, .int .i64 x3, .int .i64 x4, .int .i64 x5, .bool x6] 81)
  go_enter Tryd.func60, Tryd.ntmps60
  go_upto_region 1 with fail
  generalize w.alloc (.cells #[.int .i64 12, .int .i64 o1, .int .i64 o2, .int .i64 o3, .int .i64 o4, .int .i64 o5, .int .u64 o6, .int .u64 x0, .int .i64 x1, .int .i64 x2, .int .i64 x3, .int .i64 x4, .int .i64 x5, .bool x6] 81) = w1 at *
  generalize hqe : w.heap.size = q at *
  have HQ := Lib.hid hqe
  clear hqe
  obtain ⟨cO, fO⟩ := hcell hO
  have c0 := HX.out _ hb
  have b0 := hb
  clear hb
  go_wp2_with fail
  refine (C1.out _ b0).mono ?_
  rintro e y0 ⟨rfl, b1⟩
  have c1 := HX.out _ b1
  clear c0
  go_wp2_with fail
  refine (C2.out _ b1).mono ?_
  rintro e y1 ⟨rfl, b2⟩
  have c2 := HX.out _ b2
  clear c1
  go_wp2_with fail
  refine (C3.out _ b2).mono ?_
  rintro e y2 ⟨rfl, b3⟩
  have c3 := HX.out _ b3
  clear c2
  go_wp2_with fail
  refine (C4.out _ b3).mono ?_
  rintro e y3 ⟨rfl, b4⟩
  have c4 := HX.out _ b4
  clear c3
  go_wp2_with fail
  go_ret
  exact ⟨rfl, by rw [HQ.out]; exact b4⟩
set_option maxRecDepth 100000 in
set_option maxHeartbeats 4000000 in
theorem step17_any (x a wb r : Nat) (c : Int → Nat) (A : Ar) (wv av : Value) (o : St) (w : World) (tb : Tab w) (h : BothAt w x a wb r c A wv av) (hk : o.kind = 17) (hc5 : -9223372036854775808 ≤ o.c ∧ o.c < 9223372036854775808) : Calls Tryd.prog 60 #[.pointer (some ⟨x, 0, none⟩), o.val] w fun e w' => e = .returned (.bool true) ∧ Below w.heap.size w w' := by
  obtain ⟨o0, o1, o2, o3, o4, o5, o6, ⟨x0, x1, x2, x3, x4, x5, x6⟩⟩ := o
  simp only at hk
  subst hk
  have C1 := Lib.hid (fun (W : World) (hb : Below w.heap.size w W) => Bl hb (bwalk_any x a wb r c A wv av o2 o5 W (tb.below hb) (h.below hb) hc5))
  have HX := Lib.hid (fun (W : World) (hb : Below w.heap.size w W) => (hcell ((hb.block _ (lt_of_heap h.hx)).trans h.hx)).1)
  clear h tb
  unfold St.val St.cells
  simp only
  have hO := heap_one w (.cells #[.int .i64 17, .int .i64 o1, .int .i64 o2, .int .i64 o3, .int .i64 o4, .int .i64 o5, .int .u64 o6, .int .u64 x0, .int .i64 x1, .int .i64 x2, .int .i64 x3, .int .i64 x4, .int .i64 x5, .bool x6] 81)
  have hb := (Below.refl w.heap.size w).alloc (Nat.le_refl _) (.cells #[.int .i64 17, .int .i64 o1, .int .i64 o2, .int .i64 o3, .int .i64 o4, .int .i64 o5, .int .u64 o6, .int .u64 x0, .int .i64 x1, .int .i64 x2, .int .i64 x3, .int .i64 x4, .int .i64 x5, .bool x6] 81)
  go_enter Tryd.func60, Tryd.ntmps60
  go_upto_region 1 with fail
  generalize w.alloc (.cells #[.int .i64 17, .int .i64 o1, .int .i64 o2, .int .i64 o3, .int .i64 o4, .int .i64 o5, .int .u64 o6, .int .u64 x0, .int .i64 x1, .int .i64 x2, .int .i64 x3, .int .i64 x4, .int .i64 x5, .bool x6] 81) = w1 at *
  generalize hqe : w.heap.size = q at *
  have HQ := Lib.hid hqe
  clear hqe
  obtain ⟨cO, fO⟩ := hcell hO
  have c0 := HX.out _ hb
  have b0 := hb
  clear hb
  go_wp2_with fail
  refine (C1.out _ b0).mono ?_
  rintro e y0 ⟨rfl, b1⟩
  have c1 := HX.out _ b1
  clear c0
  go_wp2_with fail
  go_ret
  exact ⟨rfl, by rw [HQ.out]; exact b1⟩
set_option maxRecDepth 100000 in
set_option maxHeartbeats 4000000 in
theorem step18_any (x a wb r : Nat) (c : Int → Nat) (A : Ar) (wv av : Value) (o : St) (w : World) (tb : Tab w) (h : BothAt w x a wb r c A wv av) (hk : o.kind = 18) : Calls Tryd.prog 60 #[.pointer (some ⟨x, 0, none⟩), o.val] w fun e w' => e = .returned (.bool true) ∧ Below w.heap.size w w' := by
  obtain ⟨o0, o1, o2, o3, o4, o5, o6, ⟨x0, x1, x2, x3, x4, x5, x6⟩⟩ := o
  simp only at hk
  subst hk
  have C1 := Lib.hid (fun (W : World) (hb : Below w.heap.size w W) => Bl hb (acheck_any a wb A W (tb.below hb) (h.hA.below hb) h.ok))
  have C2 := Lib.hid (fun (W : World) (hb : Below w.heap.size w W) => Bl hb (rcheckA_any r c A W (h.hR.below hb) h.ok))
  have HX := Lib.hid (fun (W : World) (hb : Below w.heap.size w W) => (hcell ((hb.block _ (lt_of_heap h.hx)).trans h.hx)).1)
  clear h tb
  unfold St.val St.cells
  simp only
  generalize (chkFrom A 1).1 = v1 at *
  generalize (chkFrom A 1).2 = v2 at *
  have hO := heap_one w (.cells #[.int .i64 18, .int .i64 o1, .int .i64 o2, .int .i64 o3, .int .i64 o4, .int .i64 o5, .int .u64 o6, .int .u64 x0, .int .i64 x1, .int .i64 x2, .int .i64 x3, .int .i64 x4, .int .i64 x5, .bool x6] 81)
  have hb := (Below.refl w.heap.size w).alloc (Nat.le_refl _) (.cells #[.int .i64 18, .int .i64 o1, .int .i64 o2, .int .i64 o3, .int .i64 o4, .int .i64 o5, .int .u64 o6, .int .u64 x0, .int .i64 x1, .int .i64 x2, .int .i64 x3, .int .i64 x4, .int .i64 x5, .bool x6] 81)
  go_enter Tryd.func60, Tryd.ntmps60
  go_upto_region 1 with fail
  generalize w.alloc (.cells #[.int .i64 18, .int .i64 o1, .int .i64 o2, .int .i64 o3, .int .i64 o4, .int .i64 o5, .int .u64 o6, .int .u64 x0, .int .i64 x1, .int .i64 x2, .int .i64 x3, .int .i64 x4, .int .i64 x5, .bool x6] 81) = w1 at *
  generalize hqe : w.heap.size = q at *
  have HQ := Lib.hid hqe
  clear hqe
  obtain ⟨cO, fO⟩ := hcell hO
  have c0 := HX.out _ hb
  have b0 := hb
  clear hb
  go_wp2_with fail
  refine (C1.out _ b0).mono ?_
  rintro e y0 ⟨rfl, b1⟩
  have c1 := HX.out _ b1
  clear c0
  go_wp2_with fail
  refine (C2.out _ b1).mono ?_
  rintro e y1 ⟨rfl, b2⟩
  have c2 := HX.out _ b2
  clear c1
  go_wp2_with fail
  go_ret
  exact ⟨rfl, by rw [HQ.out]; exact b2⟩
set_option maxRecDepth 100000 in
set_option maxHeartbeats 4000000 in
theorem step10_any (x a wb r : Nat) (c : Int → Nat) (A : Ar) (wv av : Value) (o : St) (w : World) (h : BothAt w x a wb r c A wv av) (hk : o.kind = 10) : Calls Tryd.prog 60 #[.pointer (some ⟨x, 0, none⟩), o.val] w fun e w' => e = .returned (.bool true) ∧ Below w.heap.size w w' := by
  obtain ⟨o0, o1, o2, o3, o4, o5, o6, ⟨x0, x1, x2, x3, x4, x5, x6⟩⟩ := o
  simp only at hk
  subst hk
  have C1' := Lib.hid (fun (w1 : World) (b0w : Below w.heap.size w w1) (W : World) (hb : Below w1.heap.size w1 W) => Bq hb (by have bz := b0w.trans (hb.mono b0w.size); exact (word_any a wb A o3 W (h.hA.below bz))))
  have C2' := Lib.hid (fun (w1 : World) (b0w : Below w.heap.size w w1) (W : World) (hb : Below w1.heap.size w1 W) => Bm hb (by have bz := b0w.trans (hb.mono b0w.size); exact (rword_any r c A o3 W (h.hR.below bz) h.ok)))
  have HX := Lib.hid (fun (W : World) (hb : Below w.heap.size w W) => (hcell ((hb.block _ (lt_of_heap h.hx)).trans h.hx)).1)
  clear h
  unfold St.val St.cells
  simp only
  generalize A.word o3 = v at *
  have hO := heap_one w (.cells #[.int .i64 10, .int .i64 o1, .int .i64 o2, .int .i64 o3, .int .i64 o4, .int .i64 o5, .int .u64 o6, .int .u64 x0, .int .i64 x1, .int .i64 x2, .int .i64 x3, .int .i64 x4, .int .i64 x5, .bool x6] 81)
  have b0w := (Below.refl w.heap.size w).alloc (Nat.le_refl _) (.cells #[.int .i64 10, .int .i64 o1, .int .i64 o2, .int .i64 o3, .int .i64 o4, .int .i64 o5, .int .u64 o6, .int .u64 x0, .int .i64 x1, .int .i64 x2, .int .i64 x3, .int .i64 x4, .int .i64 x5, .bool x6] 81)
  go_enter Tryd.func60, Tryd.ntmps60
  go_upto_region 1 with fail
  generalize w.alloc (.cells #[.int .i64 10, .int .i64 o1, .int .i64 o2, .int .i64 o3, .int .i64 o4, .int .i64 o5, .int .u64 o6, .int .u64 x0, .int .i64 x1, .int .i64 x2, .int .i64 x3, .int .i64 x4, .int .i64 x5, .bool x6] 81) = w1 at *
  generalize hqe : w.heap.size = q at *
  have HQ := Lib.hid hqe
  clear hqe
  obtain ⟨cO, fO⟩ := hcell hO
  have cX := HX.out _ b0w
  have cx0 : w1.cell? ⟨x, 0, none⟩ = some (.pointer (some ⟨a, 0, none⟩)) := by rw [cX]; rfl
  have cx1 : w1.cell? ⟨x, 1, none⟩ = some (.pointer (some ⟨r, 0, none⟩)) := by rw [cX]; rfl
  have co2 : w1.cell? ⟨q, 2, none⟩ = some (.int .i64 o2) := by rw [cO]; rfl
  have co3 : w1.cell? ⟨q, 3, none⟩ = some (.int .i64 o3) := by rw [cO]; rfl
  have co4 : w1.cell? ⟨q, 4, none⟩ = some (.int .i64 o4) := by rw [cO]; rfl
  have co5 : w1.cell? ⟨q, 5, none⟩ = some (.int .i64 o5) := by rw [cO]; rfl
  have C1 := Lib.hid (C1'.out w1 b0w)
  clear C1'
  have C2 := Lib.hid (C2'.out w1 b0w)
  clear C2'
  have KE := Lib.hid (fun (W : World) (hb : Below w1.heap.size w1 W) => (⟨(hb.cell (p := ⟨x, 0, none⟩) (World.block_lt_of_cell? w1 ⟨x, 0, none⟩ cx0)).trans cx0, (hb.cell (p := ⟨x, 1, none⟩) (World.block_lt_of_cell? w1 ⟨x, 1, none⟩ cx1)).trans cx1, (hb.cell (p := ⟨q, 2, none⟩) (World.block_lt_of_cell? w1 ⟨q, 2, none⟩ co2)).trans co2, (hb.cell (p := ⟨q, 3, none⟩) (World.block_lt_of_cell? w1 ⟨q, 3, none⟩ co3)).trans co3, (hb.cell (p := ⟨q, 4, none⟩) (World.block_lt_of_cell? w1 ⟨q, 4, none⟩ co4)).trans co4, (hb.cell (p := ⟨q, 5, none⟩) (World.block_lt_of_cell? w1 ⟨q, 5, none⟩ co5)).trans co5, hb⟩ : W.cell? ⟨x, 0, none⟩ = some (.pointer (some ⟨a, 0, none⟩)) ∧ W.cell? ⟨x, 1, none⟩ = some (.pointer (some ⟨r, 0, none⟩)) ∧ W.cell? ⟨q, 2, none⟩ = some (.int .i64 o2) ∧ W.cell? ⟨q, 3, none⟩ = some (.int .i64 o3) ∧ W.cell? ⟨q, 4, none⟩ = some (.int .i64 o4) ∧ W.cell? ⟨q, 5, none⟩ = some (.int .i64 o5) ∧ Below w1.heap.size w1 W))
  have BF := Lib.hid (fun (W : World) (hb : Below w1.heap.size w1 W) => b0w.trans (hb.mono (by have := b0w.size; have := HQ.out; omega)))
  clear HX b0w cX
  go_upto_region 4 with fail
  go_region_held3 (fun W => W.cell? ⟨x, 0, none⟩ = some (.pointer (some ⟨a, 0, none⟩)) ∧ W.cell? ⟨x, 1, none⟩ = some (.pointer (some ⟨r, 0, none⟩)) ∧ W.cell? ⟨q, 2, none⟩ = some (.int .i64 o2) ∧ W.cell? ⟨q, 3, none⟩ = some (.int .i64 o3) ∧ W.cell? ⟨q, 4, none⟩ = some (.int .i64 o4) ∧ W.cell? ⟨q, 5, none⟩ = some (.int .i64 o5) ∧ Below w1.heap.size w1 W) ((refine KE.out _ ?_; repeat (first | (with_reducible assumption) | (with_reducible exact Below.refl _ _) | (with_reducible refine Below.drew ?_)))) (first | (go_at_call 49; refine (C1.out _ ?_).mono ?_; (first | assumption | exact (Below.refl _ _).drew | exact (Below.refl _ _) | (with_reducible refine Below.drew ?_; assumption)); rintro e w' ⟨rfl, hb9⟩))
  all_goals
    go_upto_region 5 with fail
    go_region_held3 (fun W => W.cell? ⟨x, 0, none⟩ = some (.pointer (some ⟨a, 0, none⟩)) ∧ W.cell? ⟨x, 1, none⟩ = some (.pointer (some ⟨r, 0, none⟩)) ∧ W.cell? ⟨q, 2, none⟩ = some (.int .i64 o2) ∧ W.cell? ⟨q, 3, none⟩ = some (.int .i64 o3) ∧ W.cell? ⟨q, 4, none⟩ = some (.int .i64 o4) ∧ W.cell? ⟨q, 5, none⟩ = some (.int .i64 o5) ∧ Below w1.heap.size w1 W) ((refine KE.out _ ?_; repeat (first | (with_reducible assumption) | (with_reducible exact Below.refl _ _) | (with_reducible refine Below.drew ?_)))) (first | (go_at_call 101; refine (C2.out _ ?_).mono ?_; (first | assumption | exact (Below.refl _ _).drew | exact (Below.refl _ _) | (with_reducible refine Below.drew ?_; assumption)); rintro e w' ⟨rfl, hb9⟩))
    all_goals
      go_wp2_with fail
      go_ret
      exact ⟨rfl, by rw [HQ.out]; exact BF.out _ (by assumption)⟩
set_option maxRecDepth 100000 in
set_option maxHeartbeats 4000000 in
theorem step13_any (x a wb r : Nat) (c : Int → Nat) (A : Ar) (wv av : Value) (o : St) (w : World) (h : BothAt w x a wb r c A wv av) (hk : o.kind = 13) : Calls Tryd.prog 60 #[.pointer (some ⟨x, 0, none⟩), o.val] w fun e w' => e = .returned (.bool true) ∧ Below w.heap.size w w' := by
  obtain ⟨o0, o1, o2, o3, o4, o5, o6, ⟨x0, x1, x2, x3, x4, x5, x6⟩⟩ := o
  simp only at hk
  subst hk
  have C1' := Lib.hid (fun (w1 : World) (b0w : Below w.heap.size w w1) (W : World) (hb : Below w1.heap.size w1 W) => Bq hb (by have bz := b0w.trans (hb.mono b0w.size); exact (space_any a wb A o3 W (h.hA.below bz) h.ok)))
  have C2' := Lib.hid (fun (w1 : World) (b0w : Below w.heap.size w w1) (W : World) (hb : Below w1.heap.size w1 W) => Bq hb (by have bz := b0w.trans (hb.mono b0w.size); exact (young_any a wb A o3 W (h.hA.below bz) h.ok)))
  have C3' := Lib.hid (fun (w1 : World) (b0w : Below w.heap.size w w1) (W : World) (hb : Below w1.heap.size w1 W) => Bm hb (by have bz := b0w.trans (hb.mono b0w.size); exact (rspaceOf_any r c A o3 W (h.hR.below bz) h.ok)))
  have C4' := Lib.hid (fun (w1 : World) (b0w : Below w.heap.size w w1) (W : World) (hb : Below w1.heap.size w1 W) => Bm hb (by have bz := b0w.trans (hb.mono b0w.size); exact (ryoung_any r c A o3 W (h.hR.below bz) h.ok)))
  have HX := Lib.hid (fun (W : World) (hb : Below w.heap.size w W) => (hcell ((hb.block _ (lt_of_heap h.hx)).trans h.hx)).1)
  clear h
  unfold St.val St.cells
  simp only
  generalize A.space o3 = v1 at *
  generalize A.young o3 = v2 at *
  have hO := heap_one w (.cells #[.int .i64 13, .int .i64 o1, .int .i64 o2, .int .i64 o3, .int .i64 o4, .int .i64 o5, .int .u64 o6, .int .u64 x0, .int .i64 x1, .int .i64 x2, .int .i64 x3, .int .i64 x4, .int .i64 x5, .bool x6] 81)
  have b0w := (Below.refl w.heap.size w).alloc (Nat.le_refl _) (.cells #[.int .i64 13, .int .i64 o1, .int .i64 o2, .int .i64 o3, .int .i64 o4, .int .i64 o5, .int .u64 o6, .int .u64 x0, .int .i64 x1, .int .i64 x2, .int .i64 x3, .int .i64 x4, .int .i64 x5, .bool x6] 81)
  go_enter Tryd.func60, Tryd.ntmps60
  go_upto_region 1 with fail
  generalize w.alloc (.cells #[.int .i64 13, .int .i64 o1, .int .i64 o2, .int .i64 o3, .int .i64 o4, .int .i64 o5, .int .u64 o6, .int .u64 x0, .int .i64 x1, .int .i64 x2, .int .i64 x3, .int .i64 x4, .int .i64 x5, .bool x6] 81) = w1 at *
  generalize hqe : w.heap.size = q at *
  have HQ := Lib.hid hqe
  clear hqe
  obtain ⟨cO, fO⟩ := hcell hO
  have cX := HX.out _ b0w
  have cx0 : w1.cell? ⟨x, 0, none⟩ = some (.pointer (some ⟨a, 0, none⟩)) := by rw [cX]; rfl
  have cx1 : w1.cell? ⟨x, 1, none⟩ = some (.pointer (some ⟨r, 0, none⟩)) := by rw [cX]; rfl
  have co2 : w1.cell? ⟨q, 2, none⟩ = some (.int .i64 o2) := by rw [cO]; rfl
  have co3 : w1.cell? ⟨q, 3, none⟩ = some (.int .i64 o3) := by rw [cO]; rfl
  have co4 : w1.cell? ⟨q, 4, none⟩ = some (.int .i64 o4) := by rw [cO]; rfl
  have co5 : w1.cell? ⟨q, 5, none⟩ = some (.int .i64 o5) := by rw [cO]; rfl
  have C1 := Lib.hid (C1'.out w1 b0w)
  clear C1'
  have C2 := Lib.hid (C2'.out w1 b0w)
  clear C2'
  have C3 := Lib.hid (C3'.out w1 b0w)
  clear C3'
  have C4 := Lib.hid (C4'.out w1 b0w)
  clear C4'
  have KE := Lib.hid (fun (W : World) (hb : Below w1.heap.size w1 W) => (⟨(hb.cell (p := ⟨x, 0, none⟩) (World.block_lt_of_cell? w1 ⟨x, 0, none⟩ cx0)).trans cx0, (hb.cell (p := ⟨x, 1, none⟩) (World.block_lt_of_cell? w1 ⟨x, 1, none⟩ cx1)).trans cx1, (hb.cell (p := ⟨q, 2, none⟩) (World.block_lt_of_cell? w1 ⟨q, 2, none⟩ co2)).trans co2, (hb.cell (p := ⟨q, 3, none⟩) (World.block_lt_of_cell? w1 ⟨q, 3, none⟩ co3)).trans co3, (hb.cell (p := ⟨q, 4, none⟩) (World.block_lt_of_cell? w1 ⟨q, 4, none⟩ co4)).trans co4, (hb.cell (p := ⟨q, 5, none⟩) (World.block_lt_of_cell? w1 ⟨q, 5, none⟩ co5)).trans co5, hb⟩ : W.cell? ⟨x, 0, none⟩ = some (.pointer (some ⟨a, 0, none⟩)) ∧ W.cell? ⟨x, 1, none⟩ = some (.pointer (some ⟨r, 0, none⟩)) ∧ W.cell? ⟨q, 2, none⟩ = some (.int .i64 o2) ∧ W.cell? ⟨q, 3, none⟩ = some (.int .i64 o3) ∧ W.cell? ⟨q, 4, none⟩ = some (.int .i64 o4) ∧ W.cell? ⟨q, 5, none⟩ = some (.int .i64 o5) ∧ Below w1.heap.size w1 W))
  have BF := Lib.hid (fun (W : World) (hb : Below w1.heap.size w1 W) => b0w.trans (hb.mono (by have := b0w.size; have := HQ.out; omega)))
  clear HX b0w cX
  go_upto_region 13 with fail
  go_region_held3 (fun W => W.cell? ⟨x, 0, none⟩ = some (.pointer (some ⟨a, 0, none⟩)) ∧ W.cell? ⟨x, 1, none⟩ = some (.pointer (some ⟨r, 0, none⟩)) ∧ W.cell? ⟨q, 2, none⟩ = some (.int .i64 o2) ∧ W.cell? ⟨q, 3, none⟩ = some (.int .i64 o3) ∧ W.cell? ⟨q, 4, none⟩ = some (.int .i64 o4) ∧ W.cell? ⟨q, 5, none⟩ = some (.int .i64 o5) ∧ Below w1.heap.size w1 W) ((refine KE.out _ ?_; repeat (first | (with_reducible assumption) | (with_reducible exact Below.refl _ _) | (with_reducible refine Below.drew ?_)))) (first | (go_at_call 44; refine (C1.out _ ?_).mono ?_; (first | assumption | exact (Below.refl _ _).drew | exact (Below.refl _ _) | (with_reducible refine Below.drew ?_; assumption)); rintro e w' ⟨rfl, hb9⟩))
  all_goals
    go_upto_region 14 with fail
    go_region_held3 (fun W => W.cell? ⟨x, 0, none⟩ = some (.pointer (some ⟨a, 0, none⟩)) ∧ W.cell? ⟨x, 1, none⟩ = some (.pointer (some ⟨r, 0, none⟩)) ∧ W.cell? ⟨q, 2, none⟩ = some (.int .i64 o2) ∧ W.cell? ⟨q, 3, none⟩ = some (.int .i64 o3) ∧ W.cell? ⟨q, 4, none⟩ = some (.int .i64 o4) ∧ W.cell? ⟨q, 5, none⟩ = some (.int .i64 o5) ∧ Below w1.heap.size w1 W) ((refine KE.out _ ?_; repeat (first | (with_reducible assumption) | (with_reducible exact Below.refl _ _) | (with_reducible refine Below.drew ?_)))) (first | (go_at_call 46; refine (C2.out _ ?_).mono ?_; (first | assumption | exact (Below.refl _ _).drew | exact (Below.refl _ _) | (with_reducible refine Below.drew ?_; assumption)); rintro e w' ⟨rfl, hb9⟩))
    all_goals
      go_upto_region 15 with fail
      go_region_held3 (fun W => W.cell? ⟨x, 0, none⟩ = some (.pointer (some ⟨a, 0, none⟩)) ∧ W.cell? ⟨x, 1, none⟩ = some (.pointer (some ⟨r, 0, none⟩)) ∧ W.cell? ⟨q, 2, none⟩ = some (.int .i64 o2) ∧ W.cell? ⟨q, 3, none⟩ = some (.int .i64 o3) ∧ W.cell? ⟨q, 4, none⟩ = some (.int .i64 o4) ∧ W.cell? ⟨q, 5, none⟩ = some (.int .i64 o5) ∧ Below w1.heap.size w1 W) ((refine KE.out _ ?_; repeat (first | (with_reducible assumption) | (with_reducible exact Below.refl _ _) | (with_reducible refine Below.drew ?_)))) (first | (go_at_call 105; refine (C3.out _ ?_).mono ?_; (first | assumption | exact (Below.refl _ _).drew | exact (Below.refl _ _) | (with_reducible refine Below.drew ?_; assumption)); rintro e w' ⟨rfl, hb9⟩) | (go_at_call 106; refine (C4.out _ ?_).mono ?_; (first | assumption | exact (Below.refl _ _).drew | exact (Below.refl _ _) | (with_reducible refine Below.drew ?_; assumption)); rintro e w' ⟨rfl, hb9⟩))
      all_goals
        go_wp2_with fail
        go_ret
        exact ⟨rfl, by rw [HQ.out]; exact BF.out _ (by assumption)⟩
set_option maxRecDepth 100000 in
set_option maxHeartbeats 4000000 in
theorem step15_any (x a wb r : Nat) (c : Int → Nat) (A : Ar) (wv av : Value) (o : St) (w : World) (tb : Tab w) (h : BothAt w x a wb r c A wv av) (hk : o.kind = 15) : Calls Tryd.prog 60 #[.pointer (some ⟨x, 0, none⟩), o.val] w fun e w' => e = .returned (.bool true) ∧ Below w.heap.size w w' := by
  obtain ⟨o0, o1, o2, o3, o4, o5, o6, ⟨x0, x1, x2, x3, x4, x5, x6⟩⟩ := o
  simp only at hk
  subst hk
  have C1' := Lib.hid (fun (w1 : World) (b0w : Below w.heap.size w w1) (W : World) (hb : Below w1.heap.size w1 W) => Bl hb (by have bz := b0w.trans (hb.mono b0w.size); exact (ptr_any a wb A o3 o4 W (tb.below bz) (h.hA.below bz) h.ok)))
  have C2' := Lib.hid (fun (w1 : World) (b0w : Below w.heap.size w w1) (W : World) (hb : Below w1.heap.size w1 W) => Bl hb (by have bz := b0w.trans (hb.mono b0w.size); exact (rptr_any r c A o3 o4 W (h.hR.below bz) h.ok)))
  have HX := Lib.hid (fun (W : World) (hb : Below w.heap.size w W) => (hcell ((hb.block _ (lt_of_heap h.hx)).trans h.hx)).1)
  clear h tb
  unfold St.val St.cells
  simp only
  generalize A.ptr o3 o4 = v at *
  generalize A.ptrOk o3 o4 = u at *
  have hO := heap_one w (.cells #[.int .i64 15, .int .i64 o1, .int .i64 o2, .int .i64 o3, .int .i64 o4, .int .i64 o5, .int .u64 o6, .int .u64 x0, .int .i64 x1, .int .i64 x2, .int .i64 x3, .int .i64 x4, .int .i64 x5, .bool x6] 81)
  have b0w := (Below.refl w.heap.size w).alloc (Nat.le_refl _) (.cells #[.int .i64 15, .int .i64 o1, .int .i64 o2, .int .i64 o3, .int .i64 o4, .int .i64 o5, .int .u64 o6, .int .u64 x0, .int .i64 x1, .int .i64 x2, .int .i64 x3, .int .i64 x4, .int .i64 x5, .bool x6] 81)
  go_enter Tryd.func60, Tryd.ntmps60
  go_upto_region 1 with fail
  generalize w.alloc (.cells #[.int .i64 15, .int .i64 o1, .int .i64 o2, .int .i64 o3, .int .i64 o4, .int .i64 o5, .int .u64 o6, .int .u64 x0, .int .i64 x1, .int .i64 x2, .int .i64 x3, .int .i64 x4, .int .i64 x5, .bool x6] 81) = w1 at *
  generalize hqe : w.heap.size = q at *
  have HQ := Lib.hid hqe
  clear hqe
  obtain ⟨cO, fO⟩ := hcell hO
  have cX := HX.out _ b0w
  have cx0 : w1.cell? ⟨x, 0, none⟩ = some (.pointer (some ⟨a, 0, none⟩)) := by rw [cX]; rfl
  have cx1 : w1.cell? ⟨x, 1, none⟩ = some (.pointer (some ⟨r, 0, none⟩)) := by rw [cX]; rfl
  have co2 : w1.cell? ⟨q, 2, none⟩ = some (.int .i64 o2) := by rw [cO]; rfl
  have co3 : w1.cell? ⟨q, 3, none⟩ = some (.int .i64 o3) := by rw [cO]; rfl
  have co4 : w1.cell? ⟨q, 4, none⟩ = some (.int .i64 o4) := by rw [cO]; rfl
  have co5 : w1.cell? ⟨q, 5, none⟩ = some (.int .i64 o5) := by rw [cO]; rfl
  have C1 := Lib.hid (C1'.out w1 b0w)
  clear C1'
  have C2 := Lib.hid (C2'.out w1 b0w)
  clear C2'
  have KE := Lib.hid (fun (W : World) (hb : Below w1.heap.size w1 W) => (⟨(hb.cell (p := ⟨x, 0, none⟩) (World.block_lt_of_cell? w1 ⟨x, 0, none⟩ cx0)).trans cx0, (hb.cell (p := ⟨x, 1, none⟩) (World.block_lt_of_cell? w1 ⟨x, 1, none⟩ cx1)).trans cx1, (hb.cell (p := ⟨q, 2, none⟩) (World.block_lt_of_cell? w1 ⟨q, 2, none⟩ co2)).trans co2, (hb.cell (p := ⟨q, 3, none⟩) (World.block_lt_of_cell? w1 ⟨q, 3, none⟩ co3)).trans co3, (hb.cell (p := ⟨q, 4, none⟩) (World.block_lt_of_cell? w1 ⟨q, 4, none⟩ co4)).trans co4, (hb.cell (p := ⟨q, 5, none⟩) (World.block_lt_of_cell? w1 ⟨q, 5, none⟩ co5)).trans co5, hb⟩ : W.cell? ⟨x, 0, none⟩ = some (.pointer (some ⟨a, 0, none⟩)) ∧ W.cell? ⟨x, 1, none⟩ = some (.pointer (some ⟨r, 0, none⟩)) ∧ W.cell? ⟨q, 2, none⟩ = some (.int .i64 o2) ∧ W.cell? ⟨q, 3, none⟩ = some (.int .i64 o3) ∧ W.cell? ⟨q, 4, none⟩ = some (.int .i64 o4) ∧ W.cell? ⟨q, 5, none⟩ = some (.int .i64 o5) ∧ Below w1.heap.size w1 W))
  have BF := Lib.hid (fun (W : World) (hb : Below w1.heap.size w1 W) => b0w.trans (hb.mono (by have := b0w.size; have := HQ.out; omega)))
  clear HX b0w cX
  go_upto_region 21 with fail
  go_region_held3 (fun W => W.cell? ⟨x, 0, none⟩ = some (.pointer (some ⟨a, 0, none⟩)) ∧ W.cell? ⟨x, 1, none⟩ = some (.pointer (some ⟨r, 0, none⟩)) ∧ W.cell? ⟨q, 2, none⟩ = some (.int .i64 o2) ∧ W.cell? ⟨q, 3, none⟩ = some (.int .i64 o3) ∧ W.cell? ⟨q, 4, none⟩ = some (.int .i64 o4) ∧ W.cell? ⟨q, 5, none⟩ = some (.int .i64 o5) ∧ Below w1.heap.size w1 W) ((refine KE.out _ ?_; repeat (first | (with_reducible assumption) | (with_reducible exact Below.refl _ _) | (with_reducible refine Below.drew ?_)))) (first | (go_at_call 97; refine (C1.out _ ?_).mono ?_; (first | assumption | exact (Below.refl _ _).drew | exact (Below.refl _ _) | (with_reducible refine Below.drew ?_; assumption)); rintro e w' ⟨rfl, hb9⟩))
  all_goals
    go_upto_region 22 with fail
    go_region_held3 (fun W => W.cell? ⟨x, 0, none⟩ = some (.pointer (some ⟨a, 0, none⟩)) ∧ W.cell? ⟨x, 1, none⟩ = some (.pointer (some ⟨r, 0, none⟩)) ∧ W.cell? ⟨q, 2, none⟩ = some (.int .i64 o2) ∧ W.cell? ⟨q, 3, none⟩ = some (.int .i64 o3) ∧ W.cell? ⟨q, 4, none⟩ = some (.int .i64 o4) ∧ W.cell? ⟨q, 5, none⟩ = some (.int .i64 o5) ∧ Below w1.heap.size w1 W) ((refine KE.out _ ?_; repeat (first | (with_reducible assumption) | (with_reducible exact Below.refl _ _) | (with_reducible refine Below.drew ?_)))) (first | (go_at_call 109; refine (C2.out _ ?_).mono ?_; (first | assumption | exact (Below.refl _ _).drew | exact (Below.refl _ _) | (with_reducible refine Below.drew ?_; assumption)); rintro e w' ⟨rfl, hb9⟩))
    all_goals
      go_wp2_with fail
      go_ret
      exact ⟨rfl, by rw [HQ.out]; exact BF.out _ (by assumption)⟩
set_option maxRecDepth 100000 in
set_option maxHeartbeats 4000000 in
theorem step16_any (x a wb r : Nat) (c : Int → Nat) (A : Ar) (wv av : Value) (o : St) (w : World) (tb : Tab w) (h : BothAt w x a wb r c A wv av) (hk : o.kind = 16) : Calls Tryd.prog 60 #[.pointer (some ⟨x, 0, none⟩), o.val] w fun e w' => e = .returned (.bool true) ∧ Below w.heap.size w w' := by
  obtain ⟨o0, o1, o2, o3, o4, o5, o6, ⟨x0, x1, x2, x3, x4, x5, x6⟩⟩ := o
  simp only at hk
  subst hk
  have C1' := Lib.hid (fun (w1 : World) (b0w : Below w.heap.size w w1) (W : World) (hb : Below w1.heap.size w1 W) => Bl hb (by have bz := b0w.trans (hb.mono b0w.size); exact (raw_any a wb A o3 o4 W (tb.below bz) (h.hA.below bz) h.ok)))
  have C2' := Lib.hid (fun (w1 : World) (b0w : Below w.heap.size w w1) (W : World) (hb : Below w1.heap.size w1 W) => Bl hb (by have bz := b0w.trans (hb.mono b0w.size); exact (rraw_any r c A o3 o4 W (h.hR.below bz) h.ok)))
  have HX := Lib.hid (fun (W : World) (hb : Below w.heap.size w W) => (hcell ((hb.block _ (lt_of_heap h.hx)).trans h.hx)).1)
  clear h tb
  unfold St.val St.cells
  simp only
  generalize A.raw o3 o4 = v at *
  generalize A.rawOk o3 o4 = u at *
  have hO := heap_one w (.cells #[.int .i64 16, .int .i64 o1, .int .i64 o2, .int .i64 o3, .int .i64 o4, .int .i64 o5, .int .u64 o6, .int .u64 x0, .int .i64 x1, .int .i64 x2, .int .i64 x3, .int .i64 x4, .int .i64 x5, .bool x6] 81)
  have b0w := (Below.refl w.heap.size w).alloc (Nat.le_refl _) (.cells #[.int .i64 16, .int .i64 o1, .int .i64 o2, .int .i64 o3, .int .i64 o4, .int .i64 o5, .int .u64 o6, .int .u64 x0, .int .i64 x1, .int .i64 x2, .int .i64 x3, .int .i64 x4, .int .i64 x5, .bool x6] 81)
  go_enter Tryd.func60, Tryd.ntmps60
  go_upto_region 1 with fail
  generalize w.alloc (.cells #[.int .i64 16, .int .i64 o1, .int .i64 o2, .int .i64 o3, .int .i64 o4, .int .i64 o5, .int .u64 o6, .int .u64 x0, .int .i64 x1, .int .i64 x2, .int .i64 x3, .int .i64 x4, .int .i64 x5, .bool x6] 81) = w1 at *
  generalize hqe : w.heap.size = q at *
  have HQ := Lib.hid hqe
  clear hqe
  obtain ⟨cO, fO⟩ := hcell hO
  have cX := HX.out _ b0w
  have cx0 : w1.cell? ⟨x, 0, none⟩ = some (.pointer (some ⟨a, 0, none⟩)) := by rw [cX]; rfl
  have cx1 : w1.cell? ⟨x, 1, none⟩ = some (.pointer (some ⟨r, 0, none⟩)) := by rw [cX]; rfl
  have co2 : w1.cell? ⟨q, 2, none⟩ = some (.int .i64 o2) := by rw [cO]; rfl
  have co3 : w1.cell? ⟨q, 3, none⟩ = some (.int .i64 o3) := by rw [cO]; rfl
  have co4 : w1.cell? ⟨q, 4, none⟩ = some (.int .i64 o4) := by rw [cO]; rfl
  have co5 : w1.cell? ⟨q, 5, none⟩ = some (.int .i64 o5) := by rw [cO]; rfl
  have C1 := Lib.hid (C1'.out w1 b0w)
  clear C1'
  have C2 := Lib.hid (C2'.out w1 b0w)
  clear C2'
  have KE := Lib.hid (fun (W : World) (hb : Below w1.heap.size w1 W) => (⟨(hb.cell (p := ⟨x, 0, none⟩) (World.block_lt_of_cell? w1 ⟨x, 0, none⟩ cx0)).trans cx0, (hb.cell (p := ⟨x, 1, none⟩) (World.block_lt_of_cell? w1 ⟨x, 1, none⟩ cx1)).trans cx1, (hb.cell (p := ⟨q, 2, none⟩) (World.block_lt_of_cell? w1 ⟨q, 2, none⟩ co2)).trans co2, (hb.cell (p := ⟨q, 3, none⟩) (World.block_lt_of_cell? w1 ⟨q, 3, none⟩ co3)).trans co3, (hb.cell (p := ⟨q, 4, none⟩) (World.block_lt_of_cell? w1 ⟨q, 4, none⟩ co4)).trans co4, (hb.cell (p := ⟨q, 5, none⟩) (World.block_lt_of_cell? w1 ⟨q, 5, none⟩ co5)).trans co5, hb⟩ : W.cell? ⟨x, 0, none⟩ = some (.pointer (some ⟨a, 0, none⟩)) ∧ W.cell? ⟨x, 1, none⟩ = some (.pointer (some ⟨r, 0, none⟩)) ∧ W.cell? ⟨q, 2, none⟩ = some (.int .i64 o2) ∧ W.cell? ⟨q, 3, none⟩ = some (.int .i64 o3) ∧ W.cell? ⟨q, 4, none⟩ = some (.int .i64 o4) ∧ W.cell? ⟨q, 5, none⟩ = some (.int .i64 o5) ∧ Below w1.heap.size w1 W))
  have BF := Lib.hid (fun (W : World) (hb : Below w1.heap.size w1 W) => b0w.trans (hb.mono (by have := b0w.size; have := HQ.out; omega)))
  clear HX b0w cX
  go_upto_region 25 with fail
  go_region_held3 (fun W => W.cell? ⟨x, 0, none⟩ = some (.pointer (some ⟨a, 0, none⟩)) ∧ W.cell? ⟨x, 1, none⟩ = some (.pointer (some ⟨r, 0, none⟩)) ∧ W.cell? ⟨q, 2, none⟩ = some (.int .i64 o2) ∧ W.cell? ⟨q, 3, none⟩ = some (.int .i64 o3) ∧ W.cell? ⟨q, 4, none⟩ = some (.int .i64 o4) ∧ W.cell? ⟨q, 5, none⟩ = some (.int .i64 o5) ∧ Below w1.heap.size w1 W) ((refine KE.out _ ?_; repeat (first | (with_reducible assumption) | (with_reducible exact Below.refl _ _) | (with_reducible refine Below.drew ?_)))) (first | (go_at_call 98; refine (C1.out _ ?_).mono ?_; (first | assumption | exact (Below.refl _ _).drew | exact (Below.refl _ _) | (with_reducible refine Below.drew ?_; assumption)); rintro e w' ⟨rfl, hb9⟩))
  all_goals
    go_upto_region 26 with fail
    go_region_held3 (fun W => W.cell? ⟨x, 0, none⟩ = some (.pointer (some ⟨a, 0, none⟩)) ∧ W.cell? ⟨x, 1, none⟩ = some (.pointer (some ⟨r, 0, none⟩)) ∧ W.cell? ⟨q, 2, none⟩ = some (.int .i64 o2) ∧ W.cell? ⟨q, 3, none⟩ = some (.int .i64 o3) ∧ W.cell? ⟨q, 4, none⟩ = some (.int .i64 o4) ∧ W.cell? ⟨q, 5, none⟩ = some (.int .i64 o5) ∧ Below w1.heap.size w1 W) ((refine KE.out _ ?_; repeat (first | (with_reducible assumption) | (with_reducible exact Below.refl _ _) | (with_reducible refine Below.drew ?_)))) (first | (go_at_call 110; refine (C2.out _ ?_).mono ?_; (first | assumption | exact (Below.refl _ _).drew | exact (Below.refl _ _) | (with_reducible refine Below.drew ?_; assumption)); rintro e w' ⟨rfl, hb9⟩))
    all_goals
      go_wp2_with fail
      go_ret
      exact ⟨rfl, by rw [HQ.out]; exact BF.out _ (by assumption)⟩
end Go.Proofs.YtomgfdfgildkbaaDoor
/- middenlaw3's both: the steps Config and Head; begin. -/

namespace Go.Proofs.YtomgfdfgildkbaaDoor
open Go.RowKit Go.BigFrame

set_option maxRecDepth 100000 in
set_option maxHeartbeats 4000000 in
theorem sameConfig_any (c0 c1 c2 c3 c4 c5 c6 c7 c8 c9 c10 c11 c12 c13 : Int) (w : World) : Calls Tryd.prog 114 #[.agg #[.int .i64 c0, .int .i64 c1, .int .i64 c2, .int .i64 c3, .int .i64 c4, .int .i64 c5, .int .i64 c6, .int .i64 c7, .int .i64 c8, .int .i64 c9, .int .i64 c10, .int .i64 c11, .int .i64 c12, .int .i64 c13], .agg #[.int .i64 c0, .int .i64 c1, .int .i64 c2, .int .i64 c3, .int .i64 c4, .int .i64 c5, .int .i64 c6, .int .i64 c7, .int .i64 c8, .int .i64 c9, .int .i64 c10, .int .i64 c11, .int .i64 c12, .int .i64 c13]] w fun e w' => e = .returned (.bool true) ∧ Below w.heap.size w w' := by
  go_enter Tryd.func114, Tryd.ntmps114
  go_wp2
  go_ret
  exact ⟨rfl, ((Below.refl _ _).alloc (Nat.le_refl _) _).alloc (by simp) _⟩

set_option maxRecDepth 100000 in
set_option maxHeartbeats 4000000 in
theorem step19_any (x a wb r : Nat) (c : Int → Nat) (A : Ar) (wv av : Value) (o : St) (w : World) (h : BothAt w x a wb r c A wv av) (hk : o.kind = 19) : Calls Tryd.prog 60 #[.pointer (some ⟨x, 0, none⟩), o.val] w fun e w' => e = .returned (.bool true) ∧ Below w.heap.size w w' := by
  obtain ⟨o0, o1, o2, o3, o4, o5, o6, ⟨x0, x1, x2, x3, x4, x5, x6⟩⟩ := o
  simp only at hk
  subst hk
  have C1 := Lib.hid (fun (W : World) (hb : Below w.heap.size w W) => Bl hb (config_any a wb A W (h.hA.below hb)))
  have HX := Lib.hid (fun (W : World) (hb : Below w.heap.size w W) => (hcell ((hb.block _ (lt_of_heap h.hx)).trans h.hx)).1)
  have HR := Lib.hid (fun (W : World) (hb : Below w.heap.size w W) => (hcell (h.hR.below hb).st).1)
  have lx := lt_of_heap h.hx
  have lr := lt_of_heap h.hR.st
  clear h
  unfold rfCells at HR
  obtain ⟨⟨c0, c1, c2, c3, c4, c5, c6, c7, c8, c9, c10, c11, c12, c13⟩, ws, t1, t2, t3, t4, fm⟩ := A
  unfold Cfg.val Cfg.cells at C1
  simp only at C1 HR
  unfold St.val St.cells
  simp only
  have hO := heap_one w (.cells #[.int .i64 19, .int .i64 o1, .int .i64 o2, .int .i64 o3, .int .i64 o4, .int .i64 o5, .int .u64 o6, .int .u64 x0, .int .i64 x1, .int .i64 x2, .int .i64 x3, .int .i64 x4, .int .i64 x5, .bool x6] 81)
  have hb := (Below.refl w.heap.size w).alloc (Nat.le_refl _) (.cells #[.int .i64 19, .int .i64 o1, .int .i64 o2, .int .i64 o3, .int .i64 o4, .int .i64 o5, .int .u64 o6, .int .u64 x0, .int .i64 x1, .int .i64 x2, .int .i64 x3, .int .i64 x4, .int .i64 x5, .bool x6] 81)
  go_enter Tryd.func60, Tryd.ntmps60
  go_upto_region 1 with fail
  generalize w.alloc (.cells #[.int .i64 19, .int .i64 o1, .int .i64 o2, .int .i64 o3, .int .i64 o4, .int .i64 o5, .int .u64 o6, .int .u64 x0, .int .i64 x1, .int .i64 x2, .int .i64 x3, .int .i64 x4, .int .i64 x5, .bool x6] 81) = w1 at *
  obtain ⟨cO, fO⟩ := hcell hO
  have cx1 := HX.out _ hb
  go_wp2_with fail
  refine (C1.out _ hb).mono ?_
  rintro e w2 ⟨rfl, b2⟩
  clear cO fO hO cx1 hb C1
  go_upto_region 36 with fail
  have hP := heap_one w2 (.cells #[.int .i64 c0, .int .i64 c1, .int .i64 c2, .int .i64 c3, .int .i64 c4, .int .i64 c5, .int .i64 c6, .int .i64 c7, .int .i64 c8, .int .i64 c9, .int .i64 c10, .int .i64 c11, .int .i64 c12, .int .i64 c13] 45)
  have b3 := b2.alloc b2.size (.cells #[.int .i64 c0, .int .i64 c1, .int .i64 c2, .int .i64 c3, .int .i64 c4, .int .i64 c5, .int .i64 c6, .int .i64 c7, .int .i64 c8, .int .i64 c9, .int .i64 c10, .int .i64 c11, .int .i64 c12, .int .i64 c13] 45)
  have lw2 := b2.size
  generalize w2.alloc (.cells #[.int .i64 c0, .int .i64 c1, .int .i64 c2, .int .i64 c3, .int .i64 c4, .int .i64 c5, .int .i64 c6, .int .i64 c7, .int .i64 c8, .int .i64 c9, .int .i64 c10, .int .i64 c11, .int .i64 c12, .int .i64 c13] 45) = w3 at *
  generalize w2.heap.size = p at *
  have SX := Lib.hid (fun (W : World) (hb : Below w3.heap.size w3 W) => (⟨(hcell ((hb.block _ (lt_of_heap hP)).trans hP)).1, HX.out W (b3.trans (hb.mono b3.size)), HR.out W (b3.trans (hb.mono b3.size)), hb⟩ : _ ∧ _ ∧ _ ∧ _))
  have SC2 := Lib.hid (fun (W : World) (hb : Below w3.heap.size w3 W) => Bl hb (sameConfig_any c0 c1 c2 c3 c4 c5 c6 c7 c8 c9 c10 c11 c12 c13 W))
  clear HX HR hP
  go_region_held3 (fun W => (∀ o, W.cell? ⟨p, o, none⟩ = (#[.int .i64 c0, .int .i64 c1, .int .i64 c2, .int .i64 c3, .int .i64 c4, .int .i64 c5, .int .i64 c6, .int .i64 c7, .int .i64 c8, .int .i64 c9, .int .i64 c10, .int .i64 c11, .int .i64 c12, .int .i64 c13] : Array Value)[o]?) ∧ (∀ o, W.cell? ⟨x, o, none⟩ = (#[.pointer (some ⟨a, 0, none⟩), .pointer (some ⟨r, 0, none⟩), wv, av] : Array Value)[o]?) ∧ (∀ o, W.cell? ⟨r, o, none⟩ = (#[.int .i64 c0, .int .i64 c1, .int .i64 c2, .int .i64 c3, .int .i64 c4, .int .i64 c5, .int .i64 c6, .int .i64 c7, .int .i64 c8, .int .i64 c9, .int .i64 c10, .int .i64 c11, .int .i64 c12, .int .i64 c13, .slice none 0 0, .slice (some ⟨c 1, 0, none⟩) (szOf ⟨c0, c1, c2, c3, c4, c5, c6, c7, c8, c9, c10, c11, c12, c13⟩ 1).toNat (szOf ⟨c0, c1, c2, c3, c4, c5, c6, c7, c8, c9, c10, c11, c12, c13⟩ 1).toNat, .slice (some ⟨c 2, 0, none⟩) (szOf ⟨c0, c1, c2, c3, c4, c5, c6, c7, c8, c9, c10, c11, c12, c13⟩ 2).toNat (szOf ⟨c0, c1, c2, c3, c4, c5, c6, c7, c8, c9, c10, c11, c12, c13⟩ 2).toNat, .slice (some ⟨c 3, 0, none⟩) (szOf ⟨c0, c1, c2, c3, c4, c5, c6, c7, c8, c9, c10, c11, c12, c13⟩ 3).toNat (szOf ⟨c0, c1, c2, c3, c4, c5, c6, c7, c8, c9, c10, c11, c12, c13⟩ 3).toNat, .slice (some ⟨c 4, 0, none⟩) (szOf ⟨c0, c1, c2, c3, c4, c5, c6, c7, c8, c9, c10, c11, c12, c13⟩ 4).toNat (szOf ⟨c0, c1, c2, c3, c4, c5, c6, c7, c8, c9, c10, c11, c12, c13⟩ 4).toNat, .int .i64 0, .int .i64 (Ar.top ⟨⟨c0, c1, c2, c3, c4, c5, c6, c7, c8, c9, c10, c11, c12, c13⟩, ws, t1, t2, t3, t4, fm⟩ 1 - Ar.first ⟨⟨c0, c1, c2, c3, c4, c5, c6, c7, c8, c9, c10, c11, c12, c13⟩, ws, t1, t2, t3, t4, fm⟩ 1), .int .i64 (Ar.top ⟨⟨c0, c1, c2, c3, c4, c5, c6, c7, c8, c9, c10, c11, c12, c13⟩, ws, t1, t2, t3, t4, fm⟩ 2 - Ar.first ⟨⟨c0, c1, c2, c3, c4, c5, c6, c7, c8, c9, c10, c11, c12, c13⟩, ws, t1, t2, t3, t4, fm⟩ 2), .int .i64 (Ar.top ⟨⟨c0, c1, c2, c3, c4, c5, c6, c7, c8, c9, c10, c11, c12, c13⟩, ws, t1, t2, t3, t4, fm⟩ 3 - Ar.first ⟨⟨c0, c1, c2, c3, c4, c5, c6, c7, c8, c9, c10, c11, c12, c13⟩, ws, t1, t2, t3, t4, fm⟩ 3), .int .i64 (Ar.top ⟨⟨c0, c1, c2, c3, c4, c5, c6, c7, c8, c9, c10, c11, c12, c13⟩, ws, t1, t2, t3, t4, fm⟩ 4 - Ar.first ⟨⟨c0, c1, c2, c3, c4, c5, c6, c7, c8, c9, c10, c11, c12, c13⟩, ws, t1, t2, t3, t4, fm⟩ 4), .int .i64 fm] : Array Value)[o]?) ∧ Below w3.heap.size w3 W) ((refine SX.out _ ?_; repeat (first | (with_reducible assumption) | (with_reducible exact Below.refl _ _) | (with_reducible refine Below.drew ?_)))) (first | (go_at_call 114; refine (SC2.out _ ?_).mono ?_; (first | assumption | exact (Below.refl _ _).drew | exact (Below.refl _ _)); rintro e w' ⟨rfl, hb9⟩))
  all_goals
    go_wp2_with fail
    go_ret
    exact ⟨rfl, b3.trans (hb9.mono b3.size)⟩

/-- A `both` where New refused. -/
def NoAt (w : World) (x : Nat) : Prop := w.heap[x]? = some (.cells #[.pointer none, .pointer none, .slice none 0 0, .slice none 0 0] 85 (0, 0))
/-- The blocks of a `both` lie apart. -/
structure Sep (x a wb r : Nat) (c : Int → Nat) : Prop where
  xa : x ≠ a
  xw : x ≠ wb
  xr : x ∉ rfp r c
  ra : a ∉ rfp r c
  rw_ : wb ∉ rfp r c

set_option maxRecDepth 100000 in
set_option maxHeartbeats 4000000 in
theorem begin_no (c : Cfg) (w : World) (hc : c.valid = false) : Calls Tryd.prog 59 #[c.val] w fun e w' => ∃ x, e = .returned (.tuple #[.pointer (some ⟨x, 0, none⟩), .bool true]) ∧ NoAt w' x ∧ w.heap.size ≤ x ∧ Below w.heap.size w w' := by
  have NA := Lib.hid (fun (W : World) => new_no c W hc)
  have NB := Lib.hid (fun (W : World) => rnew_no c W hc)
  clear hc
  obtain ⟨q0, q1, q2, q3, q4, q5, q6, q7, q8, q9, q10, q11, q12, q13⟩ := c
  unfold Cfg.val Cfg.cells at *
  simp only at *
  have hX := heap_one w (.cells #[.int .i64 q0, .int .i64 q1, .int .i64 q2, .int .i64 q3, .int .i64 q4, .int .i64 q5, .int .i64 q6, .int .i64 q7, .int .i64 q8, .int .i64 q9, .int .i64 q10, .int .i64 q11, .int .i64 q12, .int .i64 q13] 45)
  have hb := (Below.refl w.heap.size w).alloc (Nat.le_refl _) (.cells #[.int .i64 q0, .int .i64 q1, .int .i64 q2, .int .i64 q3, .int .i64 q4, .int .i64 q5, .int .i64 q6, .int .i64 q7, .int .i64 q8, .int .i64 q9, .int .i64 q10, .int .i64 q11, .int .i64 q12, .int .i64 q13] 45)
  go_enter Tryd.func59, Tryd.ntmps59
  go_upto_region 1 with fail
  generalize w.alloc (.cells #[.int .i64 q0, .int .i64 q1, .int .i64 q2, .int .i64 q3, .int .i64 q4, .int .i64 q5, .int .i64 q6, .int .i64 q7, .int .i64 q8, .int .i64 q9, .int .i64 q10, .int .i64 q11, .int .i64 q12, .int .i64 q13] 45) = w1 at *
  obtain ⟨cX, fX⟩ := hcell hX
  go_wp2_with fail
  refine (NA.out _).mono ?_
  rintro e w2 ⟨rfl, hq⟩
  replace hX := (hq.block _ (lt_of_heap hX)).trans hX
  replace hb := hb.trans (hq.mono hb.size)
  clear hq cX fX NA
  obtain ⟨cX, fX⟩ := hcell hX
  go_wp2_with fail
  refine (NB.out _).mono ?_
  rintro e w3 ⟨rfl, hq⟩
  replace hb := hb.trans (hq.mono hb.size)
  clear hq cX fX hX NB
  go_wp2_with fail
  go_ret2
  exact ⟨_, rfl, heap_one w3 _, hb.size, hb.alloc hb.size _⟩

set_option maxRecDepth 100000 in
set_option maxHeartbeats 4000000 in
theorem begin_yes (c : Cfg) (w : World) (hc : c.valid = true) : Calls Tryd.prog 59 #[c.val] w fun e w' => ∃ x a wb r cs, e = .returned (.tuple #[.pointer (some ⟨x, 0, none⟩), .bool true]) ∧ BothAt w' x a wb r cs (Ar.new c) (.slice none 0 0) (.slice none 0 0) ∧ Sep x a wb r cs ∧ (w.heap.size ≤ x ∧ w.heap.size ≤ a ∧ w.heap.size ≤ wb ∧ ∀ k ∈ rfp r cs, w.heap.size ≤ k) ∧ Below w.heap.size w w' := by
  have NA := Lib.hid (fun (W : World) => new_yes c W hc)
  have NB := Lib.hid (fun (W : World) => rnew_yes c W hc)
  have ok := Ar.new_ok3 hc
  clear hc
  generalize Ar.new c = A at *
  obtain ⟨q0, q1, q2, q3, q4, q5, q6, q7, q8, q9, q10, q11, q12, q13⟩ := c
  unfold Cfg.val Cfg.cells at *
  simp only at *
  have hX := heap_one w (.cells #[.int .i64 q0, .int .i64 q1, .int .i64 q2, .int .i64 q3, .int .i64 q4, .int .i64 q5, .int .i64 q6, .int .i64 q7, .int .i64 q8, .int .i64 q9, .int .i64 q10, .int .i64 q11, .int .i64 q12, .int .i64 q13] 45)
  have hb := (Below.refl w.heap.size w).alloc (Nat.le_refl _) (.cells #[.int .i64 q0, .int .i64 q1, .int .i64 q2, .int .i64 q3, .int .i64 q4, .int .i64 q5, .int .i64 q6, .int .i64 q7, .int .i64 q8, .int .i64 q9, .int .i64 q10, .int .i64 q11, .int .i64 q12, .int .i64 q13] 45)
  go_enter Tryd.func59, Tryd.ntmps59
  go_upto_region 1 with fail
  generalize w.alloc (.cells #[.int .i64 q0, .int .i64 q1, .int .i64 q2, .int .i64 q3, .int .i64 q4, .int .i64 q5, .int .i64 q6, .int .i64 q7, .int .i64 q8, .int .i64 q9, .int .i64 q10, .int .i64 q11, .int .i64 q12, .int .i64 q13] 45) = w1 at *
  obtain ⟨cX, fX⟩ := hcell hX
  go_wp2_with fail
  refine (NA.out _).mono ?_
  rintro e w2 ⟨a, wb, rfl, hA, a1, a2, hq⟩
  replace hX := (hq.block _ (lt_of_heap hX)).trans hX
  replace a1 := Nat.le_trans hb.size a1
  replace a2 := Nat.le_trans hb.size a2
  replace hb := hb.trans (hq.mono hb.size)
  have la := lt_of_heap hA.st
  have lw := lt_of_heap hA.ws
  clear hq cX fX NA
  obtain ⟨cX, fX⟩ := hcell hX
  go_wp2_with fail
  refine (NB.out _).mono ?_
  rintro e w3 ⟨r, cs, rfl, hR, r1, r2, hq⟩
  replace hb := hb.trans (hq.mono hb.size)
  replace hA := hA.below hq
  have h2 := hq.size
  have LT := hR.lt
  have hge : ∀ k ∈ rfp r cs, w2.heap.size ≤ k := fun k hk => by
    simp only [rfp, List.mem_cons, List.not_mem_nil, or_false] at hk
    rcases hk with rfl | rfl | rfl | rfl | rfl
    · exact r1
    · exact r2 1 rfl
    · exact r2 2 rfl
    · exact r2 3 rfl
    · exact r2 4 rfl
  have HH := Lib.hid (⟨hA, hR, r1, r2, LT, hge⟩ : _ ∧ _ ∧ _ ∧ _ ∧ _ ∧ _)
  clear hq cX fX hX NB hA hR r1 r2 LT hge
  go_wp2_with fail
  go_ret2
  obtain ⟨hA, hR, r1, r2, LT, hge⟩ := HH.out
  have hn := (Below.refl w3.heap.size w3).alloc (Nat.le_refl _) (.cells #[.pointer (some ⟨a, 0, none⟩), .pointer (some ⟨r, 0, none⟩), .slice none 0 0, .slice none 0 0] 85)
  have hs := hb.size
  refine ⟨_, a, wb, r, cs, rfl, ⟨heap_one w3 _, hA.below hn, hR.below hn, ok⟩, ⟨?_, ?_, fun hm => ?_, fun hm => ?_, fun hm => ?_⟩, ⟨hs, a1, a2, fun k hk => ?_⟩, hb.alloc hs _⟩
  · omega
  · omega
  · have := LT _ hm; omega
  · have := hge _ hm; omega
  · have := hge _ hm; omega
  · have := hge _ hk; have := hb.size; omega

set_option maxRecDepth 100000 in
set_option maxHeartbeats 8000000 in
theorem whole_any (x a wb r : Nat) (c : Int → Nat) (A : Ar) (p : Option Addr) (nw cap : Nat) (av : Value) (w : World) (tb : Tab w) (h : BothAt w x a wb r c A (.slice p nw cap) av)
    (hold : ∀ i : Nat, i < nw → ∀ W, Below w.heap.size w W → Calls Tryd.prog 116 #[.pointer (some ⟨x, 0, none⟩), .int .i64 i] W fun e w' => e = .returned (.bool true) ∧ Below W.heap.size W w') (hnw : nw ≤ 64) :
    Calls Tryd.prog 61 #[.pointer (some ⟨x, 0, none⟩)] w fun e w' => e = .returned (.bool true) ∧ Below w.heap.size w w' := by
  have SZ := Lib.hid (fun (W : World) (hb : Below w.heap.size w W) => Bq hb (rsizeOf_any r c A W (h.hR.below hb) h.ok))
  have WO := Lib.hid (fun (i : Int) (W : World) (hb : Below w.heap.size w W) => Bq hb (word_any a wb A i W (h.hA.below hb)))
  have RW := Lib.hid (fun (i : Int) (W : World) (hb : Below w.heap.size w W) => Bm hb (rword_any r c A i W (h.hR.below hb) h.ok))
  have SP := Lib.hid (fun (s : Int) (W : World) (hb : Below w.heap.size w W) => Bl hb (bspace_any x a wb r c A (.slice p nw cap) av s W (h.below hb)))
  have WK := Lib.hid (fun (s : Int) (W : World) (hb : Below w.heap.size w W) => Bl hb (bwalk_any x a wb r c A (.slice p nw cap) av s 0 W (tb.below hb) (h.below hb) (by decide)))
  have OL := Lib.hid (fun (i : Nat) (hi : i < nw) (W : World) (hb : Below w.heap.size w W) => Bl hb (hold i hi W hb))
  have T1 := Lib.hid (fun (W : World) (hb : Below w.heap.size w W) => Bl hb (step12_any x a wb r c A (.slice p nw cap) av ⟨12, 0, 0, 0, 0, 0, 0, ⟨0, 0, 0, 0, 0, 0, false⟩⟩ W (h.below hb) rfl))
  have T2 := Lib.hid (fun (W : World) (hb : Below w.heap.size w W) => Bl hb (step18_any x a wb r c A (.slice p nw cap) av ⟨18, 0, 0, 0, 0, 0, 0, ⟨0, 0, 0, 0, 0, 0, false⟩⟩ W (tb.below hb) (h.below hb) rfl))
  have T3 := Lib.hid (fun (W : World) (hb : Below w.heap.size w W) => Bl hb (step19_any x a wb r c A (.slice p nw cap) av ⟨19, 0, 0, 0, 0, 0, 0, ⟨0, 0, 0, 0, 0, 0, false⟩⟩ W (h.below hb) rfl))
  unfold St.val St.cells at T1 T2 T3
  simp only at T1 T2 T3
  have HX := Lib.hid (fun (W : World) (hb : Below w.heap.size w W) => (hcell ((hb.block _ (lt_of_heap h.hx)).trans h.hx)).1)
  have hn := h.ok.tops.2.2.2.2
  clear h tb hold
  have c0 := HX.out _ (Below.refl _ w)
  generalize hN : A.words.length = N at *
  clear hN
  go_enter Tryd.func61, Tryd.ntmps61
  go_wp2_with fail
  refine (SZ.out _ (Below.refl _ _)).mono ?_
  rintro e w1 ⟨rfl, b1⟩
  clear c0 SZ
  go_wp2_with fail
  go_loopw [4] (fun iv wx => ∃ k : Int, -1 ≤ k ∧ k ≤ (N : Int) + 1 ∧ iv = .int .i64 k ∧ Below w.heap.size w wx) (fun iv _ => ((N : Int) + 1 - intOf iv).toNat)
  case atStart => exact ⟨-1, by decide, by omega, rfl, b1⟩
  case round =>
    obtain ⟨k, k0, k1, rfl, hb⟩ := hrel
    by_cases hle : k ≤ (N : Int)
    · have d0 : decide (k ≤ (N : Int)) = true := by simpa using hle
      by_cases h1 : 3000 < k
      · have d1 : decide (3000 < k) = true := by simpa using h1
        by_cases h2 : k < (N : Int) - 3000
        · have d2 : decide (k < (N : Int) - 3000) = true := by simpa using h2
          go_wp2_with fail
          exact ⟨⟨k + 1, by omega, by omega, rfl, hb⟩, by simp [intOf]; omega⟩
        · have d2 : decide (k < (N : Int) - 3000) = false := by simpa using h2
          have W1 := Lib.hid (WO.out k)
          have W2 := Lib.hid (RW.out k)
          generalize A.word k = v at *
          have c1 := HX.out _ hb
          go_wp2_with fail
          refine (W1.out _ hb).mono ?_
          rintro e w2 ⟨rfl, b2⟩
          have c2 := HX.out _ b2
          clear c1
          go_wp2_with fail
          refine (W2.out _ b2).mono ?_
          rintro e w3 ⟨rfl, b3⟩
          go_wp2_with fail
          exact ⟨⟨k + 1, by omega, by omega, rfl, b3⟩, by simp [intOf]; omega⟩
      · have d1 : decide (3000 < k) = false := by simpa using h1
        have W1 := Lib.hid (WO.out k)
        have W2 := Lib.hid (RW.out k)
        generalize A.word k = v at *
        have c1 := HX.out _ hb
        go_wp2_with fail
        refine (W1.out _ hb).mono ?_
        rintro e w2 ⟨rfl, b2⟩
        have c2 := HX.out _ b2
        clear c1
        go_wp2_with fail
        refine (W2.out _ b2).mono ?_
        rintro e w3 ⟨rfl, b3⟩
        go_wp2_with fail
        exact ⟨⟨k + 1, by omega, by omega, rfl, b3⟩, by simp [intOf]; omega⟩
    · have d0 : decide (k ≤ (N : Int)) = false := by simpa using hle
      clear WO RW
      go_wp2_with fail
      go_loopw [6] (fun iv wx => ∃ k : Int, -1 ≤ k ∧ k ≤ 6 ∧ iv = .int .i64 k ∧ Below w.heap.size w wx) (fun iv _ => (6 - intOf iv).toNat)
      case atStart => exact ⟨-1, by decide, by decide, rfl, hb⟩
      case round =>
        obtain ⟨s, s0, s1, rfl, hb⟩ := hrel
        by_cases hlt : s < 6
        · have d0 : decide (s < 6) = true := by simpa using hlt
          go_wp2_with fail
          refine (SP.out s _ hb).mono ?_
          rintro e w2 ⟨rfl, b2⟩
          go_wp2_with fail
          refine (WK.out s _ b2).mono ?_
          rintro e w3 ⟨rfl, b3⟩
          go_wp2_with fail
          exact ⟨⟨s + 1, by omega, by omega, rfl, b3⟩, by simp [intOf]; omega⟩
        · have d0 : decide (s < 6) = false := by simpa using hlt
          clear SP WK
          go_wp2_with fail
          go_loopw [7] (fun iv wx => ∃ k : Nat, k ≤ nw ∧ iv = .int .i64 k ∧ Below w.heap.size w wx) (fun iv _ => (nw - intOf iv).toNat)
          case atStart => exact ⟨0, by omega, rfl, hb⟩
          case round =>
            obtain ⟨i, i1, rfl, hb⟩ := hrel
            have c1 := HX.out _ hb
            by_cases hlt : i < nw
            · have d0 : decide ((i : Int) < (nw : Int)) = true := by simpa using hlt
              go_wp2_with fail
              refine (OL.out i hlt _ hb).mono ?_
              rintro e w2 ⟨rfl, b2⟩
              go_wp2_with fail
              exact ⟨⟨i + 1, by omega, by go_num, b2⟩, by simp [intOf]; omega⟩
            · obtain rfl : i = nw := by omega
              clear OL
              go_wp2_with fail
              refine (T1.out _ hb).mono ?_
              rintro e w2 ⟨rfl, b2⟩
              go_wp2_with fail
              refine (T2.out _ b2).mono ?_
              rintro e w3 ⟨rfl, b3⟩
              go_wp2_with fail
              refine (T3.out _ b3).mono ?_
              rintro e w4 ⟨rfl, b4⟩
              go_wp2_with fail
              go_ret
              exact ⟨rfl, b4⟩

end Go.Proofs.YtomgfdfgildkbaaDoor
