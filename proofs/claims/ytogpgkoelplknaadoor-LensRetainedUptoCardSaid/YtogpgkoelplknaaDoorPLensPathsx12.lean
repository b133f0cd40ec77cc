import Derived.Test.YtogpgkoelplknaaDoorPLensPathsx0
namespace Go.Proofs.YtogpgkoelplknaaDoor.PLensPaths
open Go.RowKit Go.Proofs.YtogpgkoelplknaaDoorW.PrintWords Go.Proofs.YtogpgkoelplknaaDoorW.PrintLast Go.Proofs.YtogpgkoelplknaaDoorW.PrintMore
attribute [local go_sem] max2_int min2_int max_two min_two max_three min_three max_four min_four
set_option linter.unusedVariables false
set_option linter.unusedSimpArgs false
mutual
def middenref17_strong.j0 : Nat -> Int -> Int -> Int -> Int -> List Int -> List Int -> Option (List Int)
 | 0, _, _, _, _, _, _ => none
 | k + 1, x3, x298000, x298001, x298002, x298003, x298004 => if x298001 = 3 then (middenref17_strong.j1 k 2 x298000 x298001 x298002 x298003 x298004) else (middenref17_strong.j1 k x3 x298000 x298001 x298002 x298003 x298004)
def middenref17_strong.j1 : Nat -> Int -> Int -> Int -> Int -> List Int -> List Int -> Option (List Int)
 | 0, _, _, _, _, _, _ => none
 | k + 1, x3, x298000, x298001, x298002, x298003, x298004 => middenref17_strong.l0 k ([] : List Int) x3 x298000 x298001 x298002 x298003 x298004
def middenref17_strong.l0 : Nat -> List Int -> Int -> Int -> Int -> Int -> List Int -> List Int -> Option (List Int)
 | 0, _, _, _, _, _, _, _ => none
 | k + 1, x4, x5, x298000, x298001, x298002, x298003, x298004 => if x5 < (x298003.length : Int) then (if 0 <= x5 then (if (rd x298003 x5) > 0 then (if x4.length < 17592186044416 then (middenref17_strong.l0 k (x4 ++ [rd x298003 x5]) (wrap64 (x5 + 1)) x298000 x298001 x298002 x298003 x298004) else (none)) else (middenref17_strong.l0 k x4 (wrap64 (x5 + 1)) x298000 x298001 x298002 x298003 x298004)) else (none)) else (some x4)
end
def middenref17_strong.f (k : Nat) (a0_0 : Int) (a0_1 : Int) (a0_2 : Int) (l0_3 : List Int) (l0_4 : List Int) : Option (List Int) := if a0_1 = 2 then (middenref17_strong.j0 k 1 a0_0 a0_1 a0_2 l0_3 l0_4) else (middenref17_strong.j0 k 0 a0_0 a0_1 a0_2 l0_3 l0_4)
theorem middenref17_strong.mono_l : ∀ k, (∀ y0 y1 y2 y3 y4 y5, LeO (middenref17_strong.j0 k y0 y1 y2 y3 y4 y5) (middenref17_strong.j0 (k + 1) y0 y1 y2 y3 y4 y5)) /\ (∀ y0 y1 y2 y3 y4 y5, LeO (middenref17_strong.j1 k y0 y1 y2 y3 y4 y5) (middenref17_strong.j1 (k + 1) y0 y1 y2 y3 y4 y5)) /\ (∀ y0 y1 y2 y3 y4 y5 y6, LeO (middenref17_strong.l0 k y0 y1 y2 y3 y4 y5 y6) (middenref17_strong.l0 (k + 1) y0 y1 y2 y3 y4 y5 y6))
 | 0 => ⟨fun _ _ _ _ _ _ r h => by simp [middenref17_strong.j0] at h, fun _ _ _ _ _ _ r h => by simp [middenref17_strong.j1] at h, fun _ _ _ _ _ _ _ r h => by simp [middenref17_strong.l0] at h⟩
 | k + 1 => by
  obtain ⟨ih0, ih1, ih2⟩ := middenref17_strong.mono_l k
  refine ⟨?_, ?_, ?_⟩
  ·intro y0 y1 y2 y3 y4 y5
   unfold middenref17_strong.j0
   repeat' first
   | (with_reducible first | exact ih0 _ _ _ _ _ _ | exact ih1 _ _ _ _ _ _ | exact ih2 _ _ _ _ _ _ _ | exact LeO.refl _ | exact LeO.none _ | refine LeO.ite ?_ ?_ | refine LeO.bind ?_ (fun _ => ?_))
   | exact ih0 _ _ _ _ _ _
   | exact ih1 _ _ _ _ _ _
   | exact ih2 _ _ _ _ _ _ _
   | exact LeO.none _
   | refine LeO.ite ?_ ?_
   | refine LeO.bind ?_ (fun _ => ?_)
  ·intro y0 y1 y2 y3 y4 y5
   unfold middenref17_strong.j1
   repeat' first
   | (with_reducible first | exact ih0 _ _ _ _ _ _ | exact ih1 _ _ _ _ _ _ | exact ih2 _ _ _ _ _ _ _ | exact LeO.refl _ | exact LeO.none _ | refine LeO.ite ?_ ?_ | refine LeO.bind ?_ (fun _ => ?_))
   | exact ih0 _ _ _ _ _ _
   | exact ih1 _ _ _ _ _ _
   | exact ih2 _ _ _ _ _ _ _
   | exact LeO.none _
   | refine LeO.ite ?_ ?_
   | refine LeO.bind ?_ (fun _ => ?_)
  ·intro y0 y1 y2 y3 y4 y5 y6
   unfold middenref17_strong.l0
   repeat' first
   | (with_reducible first | exact ih0 _ _ _ _ _ _ | exact ih1 _ _ _ _ _ _ | exact ih2 _ _ _ _ _ _ _ | exact LeO.refl _ | exact LeO.none _ | refine LeO.ite ?_ ?_ | refine LeO.bind ?_ (fun _ => ?_))
   | exact ih0 _ _ _ _ _ _
   | exact ih1 _ _ _ _ _ _
   | exact ih2 _ _ _ _ _ _ _
   | exact LeO.none _
   | refine LeO.ite ?_ ?_
   | refine LeO.bind ?_ (fun _ => ?_)
theorem middenref17_strong.mono : ∀ a0 a1 a2 a3 a4 k, LeO (middenref17_strong.f k a0 a1 a2 a3 a4) (middenref17_strong.f (k + 1) a0 a1 a2 a3 a4) := by
 intro a0 a1 a2 a3 a4 k
 obtain ⟨ih0, ih1, ih2⟩ := middenref17_strong.mono_l k
 unfold middenref17_strong.f
 repeat' first
   | (with_reducible first | exact ih0 _ _ _ _ _ _ | exact ih1 _ _ _ _ _ _ | exact ih2 _ _ _ _ _ _ _ | exact LeO.refl _ | exact LeO.none _ | refine LeO.ite ?_ ?_ | refine LeO.bind ?_ (fun _ => ?_))
   | exact ih0 _ _ _ _ _ _
   | exact ih1 _ _ _ _ _ _
   | exact ih2 _ _ _ _ _ _ _
   | exact LeO.none _
   | refine LeO.ite ?_ ?_
   | refine LeO.bind ?_ (fun _ => ?_)
set_option maxHeartbeats 8000000 in
set_option maxRecDepth 100000 in
theorem middenref17_strong.calls (k : Nat) (a0_0 : Int) (a0_1 : Int) (a0_2 : Int) (A0_3 : Option Addr) (c0_3 : Nat) (l0_3 : List Int) (A0_4 : Option Addr) (c0_4 : Nat) (l0_4 : List Int) (r : List Int) (w : World) (hr0_3 : Kd.C (Kd.int .i64) w A0_3 l0_3.length l0_3) (hc0_3 : l0_3.length <= c0_3) (hr0_4 : Kd.C (Kd.int .u64) w A0_4 l0_4.length l0_4) (hc0_4 : l0_4.length <= c0_4) (h : middenref17_strong.f k a0_0 a0_1 a0_2 l0_3 l0_4 = some r) :
  Calls Tryd.prog 44 #[.agg #[.int .u64 a0_0, .int .i64 a0_1, .int .i64 a0_2, .slice A0_3 l0_3.length c0_3, .slice A0_4 l0_4.length c0_4]] w fun e w' => ∃ v0_ : Value, e = .returned (v0_) /\ Kd.R (Kd.int .i64) 3 w' w.heap.size (fun _ => True) v0_ r /\ Below w.heap.size w w' := by
 have hu59 := Tryd.underlying59
 have HR0_3 := Aside0.mk hr0_3
 have HC0_3 := Aside0.mk hc0_3
 clear hr0_3 hc0_3
 have HR0_4 := Aside0.mk hr0_4
 have HC0_4 := Aside0.mk hc0_4
 clear hr0_4 hc0_4
 have HB := Aside0.mk (Below.refl w.heap.size w)
 have H : (if a0_1 = 2 then (middenref17_strong.j0 k 1 a0_0 a0_1 a0_2 l0_3 l0_4) else (middenref17_strong.j0 k 0 a0_0 a0_1 a0_2 l0_3 l0_4)) = some r := h
 clear h
 have HC2 := Aside0.mk H
 clear H
 go_enter Tryd.func44, Tryd.ntmps44
 go_upto_if 8 with (first | ((with_reducible refine gate_dst (N := 1) rfl ?_); refine box_event ?hg (N := 1) ?hd (cs := #[.int .u64 a0_0, .int .i64 a0_1, .int .i64 a0_2, .slice A0_3 l0_3.length c0_3, .slice A0_4 l0_4.length c0_4]) (t := 59) ?hr ?_; (case hd => rfl); (case hg => rfl); (case hr => first | (go_simp; done) | (go_simp; rfl)); intro gb297 hg w3 hbox hb; have n0_ := Aside0.mk (below_step (by repeat (first | (with_reducible first | exact HB.out | apply below_alloc | apply pw_below_drewN | apply below_drew1) | exact HB.out)) hb); have n1_ := Aside0.mk (hbox); have n2_ := Aside0.mk ((by rw [hg]; exact (below_size (by repeat (first | (with_reducible first | exact HB.out | apply below_alloc | apply pw_below_drewN | apply below_drew1) | exact HB.out))) : w.heap.size <= gb297)); have n3_ := Aside0.mk ((by rw [hg]; exact (below_size (by repeat (first | (with_reducible first | exact HB.out | apply below_alloc | apply pw_below_drewN | apply below_drew1) | exact HB.out))) : w.heap.size <= gb297)); clear HB; have HB := n0_; have BK297 := n1_; have GW297 := n2_; have GE297 := n3_; clear n0_ n1_ n2_ n3_; clear hb hbox hg; have hcz4_0 : w3.cell? ⟨gb297, 0, none⟩ = some (.int .u64 a0_0) := (bkC BK297.out 0).trans rfl; have hcz4_1 : w3.cell? ⟨gb297, 1, none⟩ = some (.int .i64 a0_1) := (bkC BK297.out 1).trans rfl; have hcz4_2 : w3.cell? ⟨gb297, 2, none⟩ = some (.int .i64 a0_2) := (bkC BK297.out 2).trans rfl; have hcz4_3 : w3.cell? ⟨gb297, 3, none⟩ = some (.slice A0_3 l0_3.length c0_3) := (bkC BK297.out 3).trans rfl; have hcz4_4 : w3.cell? ⟨gb297, 4, none⟩ = some (.slice A0_4 l0_4.length c0_4) := (bkC BK297.out 4).trans rfl; have hfz4_0 := bkF BK297.out 0; have hfz4_1 := bkF BK297.out 1; have hfz4_2 := bkF BK297.out 2; have hfz4_3 := bkF BK297.out 3; have hfz4_4 := bkF BK297.out 4))
 (try simp only [Act.put, List.setIfInBounds_toArray, List.set_cons_zero, List.set_cons_succ])
 go_cut [3] (fun v3 wc => ∃ (kq : Nat) (x3_1 : Int), v3 = .int .i64 x3_1 /\ Aside0 (middenref17_strong.j0 kq x3_1 a0_0 a0_1 a0_2 l0_3 l0_4 = some r) /\ Aside0 (kq <= k) /\ Aside0 (wc.heap[gb297]? = some (.cells #[.int .u64 a0_0, .int .i64 a0_1, .int .i64 a0_2, (.slice A0_3 l0_3.length c0_3), (.slice A0_4 l0_4.length c0_4)] 59 (0, 0))) /\ Aside0 (Below w.heap.size w wc))
 case first =>
  have H := HC2.out
  clear HC2
  by_cases c5 : a0_1 = 2
  ·rw [if_pos c5] at H
   have c5b0 : (a0_1 == 2) = true := beq_iff_eq.mpr c5
   have c5b1 : (a0_1 != 2) = false := bne_eq_false_iff_eq.mpr c5
   clear c5
   (first | rw [c5b0] | (simp only [i64_w, i32_w]; rw [c5b0]) | skip)
   have H' := Aside0.mk H
   clear H
   go_wp2
   go_meet
   case rel => exact ⟨_, (1), (by first | rfl | (simp; done) | (simp [*]; done)), H', ⟨by first | omega | exact Nat.le_refl _⟩, ⟨by (with_reducible repeat (first | refine blk_drewN ?_ _ | refine blk_drew ?_ | refine blk_alloc ?_ _)); exact BK297.out⟩, ⟨by repeat (first | (with_reducible first | exact HB.out | apply below_alloc | apply pw_below_drewN | apply below_drew1 | refine below_set ?_ GE297.out) | exact HB.out)⟩⟩
  ·rw [if_neg c5] at H
   have c5b0 : (a0_1 == 2) = false := beq_eq_false_iff_ne.mpr c5
   have c5b1 : (a0_1 != 2) = true := bne_iff_ne.mpr c5
   (first | rw [c5b0] | (simp only [i64_w, i32_w]; rw [c5b0]) | skip)
   have H' := Aside0.mk H
   clear H
   go_wp2
   go_meet
   case rel => exact ⟨_, (0), (by first | rfl | (simp; done) | (simp [*]; done)), H', ⟨by first | omega | exact Nat.le_refl _⟩, ⟨by (with_reducible repeat (first | refine blk_drewN ?_ _ | refine blk_drew ?_ | refine blk_alloc ?_ _)); exact BK297.out⟩, ⟨by repeat (first | (with_reducible first | exact HB.out | apply below_alloc | apply pw_below_drewN | apply below_drew1 | refine below_set ?_ GE297.out) | exact HB.out)⟩⟩
 case rest =>
  clear HC2
  try clear p2;try clear c4;try clear c5;try clear c5b0;try clear c5b1;try clear hcz4_0;try clear hcz4_1;try clear hcz4_2;try clear hcz4_3;try clear hcz4_4;try clear hfz4_0;try clear hfz4_1;try clear hfz4_2;try clear hfz4_3;try clear hfz4_4
  obtain ⟨kq, x3_1, rfl, HA, HJ1, BK297, HB⟩ := hcut
  cases kq with
  | zero => exact absurd HA.out (by simp [middenref17_strong.j0])
  | succ kj1 =>
   have H := HA.out
   clear HA
   simp only [middenref17_strong.j0] at H
   have HC6 := Aside0.mk H
   clear H
   have hcz7_0 : wc.cell? ⟨gb297, 0, none⟩ = some (.int .u64 a0_0) := (bkC BK297.out 0).trans rfl
   have hcz7_1 : wc.cell? ⟨gb297, 1, none⟩ = some (.int .i64 a0_1) := (bkC BK297.out 1).trans rfl
   have hcz7_2 : wc.cell? ⟨gb297, 2, none⟩ = some (.int .i64 a0_2) := (bkC BK297.out 2).trans rfl
   have hcz7_3 : wc.cell? ⟨gb297, 3, none⟩ = some (.slice A0_3 l0_3.length c0_3) := (bkC BK297.out 3).trans rfl
   have hcz7_4 : wc.cell? ⟨gb297, 4, none⟩ = some (.slice A0_4 l0_4.length c0_4) := (bkC BK297.out 4).trans rfl
   have hfz7_0 := bkF BK297.out 0
   have hfz7_1 := bkF BK297.out 1
   have hfz7_2 := bkF BK297.out 2
   have hfz7_3 := bkF BK297.out 3
   have hfz7_4 := bkF BK297.out 4
   go_upto_if 11 with (fail)
   go_cut [3] (fun v3 wc => ∃ (kq : Nat) (x3_5 : Int), v3 = .int .i64 x3_5 /\ Aside0 (middenref17_strong.j1 kq x3_5 a0_0 a0_1 a0_2 l0_3 l0_4 = some r) /\ Aside0 (kq <= kj1) /\ Aside0 (wc.heap[gb297]? = some (.cells #[.int .u64 a0_0, .int .i64 a0_1, .int .i64 a0_2, (.slice A0_3 l0_3.length c0_3), (.slice A0_4 l0_4.length c0_4)] 59 (0, 0))) /\ Aside0 (Below w.heap.size w wc))
   case first =>
    have H := HC6.out
    clear HC6
    by_cases c8 : a0_1 = 3
    ·rw [if_pos c8] at H
     have c8b0 : (a0_1 == 3) = true := beq_iff_eq.mpr c8
     have c8b1 : (a0_1 != 3) = false := bne_eq_false_iff_eq.mpr c8
     clear c8
     (first | rw [c8b0] | (simp only [i64_w, i32_w]; rw [c8b0]) | skip)
     have H' := Aside0.mk H
     clear H
     go_wp2
     go_meet
     case rel => exact ⟨_, (2), (by first | rfl | (simp; done) | (simp [*]; done)), H', ⟨by have := HJ1.out; first | omega | exact Nat.le_refl _⟩, ⟨by (with_reducible repeat (first | refine blk_drewN ?_ _ | refine blk_drew ?_ | refine blk_alloc ?_ _)); exact BK297.out⟩, ⟨by repeat (first | (with_reducible first | exact HB.out | apply below_alloc | apply pw_below_drewN | apply below_drew1 | refine below_set ?_ GE297.out) | exact HB.out)⟩⟩
    ·rw [if_neg c8] at H
     have c8b0 : (a0_1 == 3) = false := beq_eq_false_iff_ne.mpr c8
     have c8b1 : (a0_1 != 3) = true := bne_iff_ne.mpr c8
     (first | rw [c8b0] | (simp only [i64_w, i32_w]; rw [c8b0]) | skip)
     have H' := Aside0.mk H
     clear H
     go_wp2
     go_meet
     case rel => exact ⟨_, (x3_1), (by first | rfl | (simp; done) | (simp [*]; done)), H', ⟨by have := HJ1.out; first | omega | exact Nat.le_refl _⟩, ⟨by (with_reducible repeat (first | refine blk_drewN ?_ _ | refine blk_drew ?_ | refine blk_alloc ?_ _)); exact BK297.out⟩, ⟨by repeat (first | (with_reducible first | exact HB.out | apply below_alloc | apply pw_below_drewN | apply below_drew1 | refine below_set ?_ GE297.out) | exact HB.out)⟩⟩
   case rest =>
    clear HC6
    try clear p2;try clear c4;try clear c5;try clear c5b0;try clear c5b1;try clear c8;try clear c8b0;try clear c8b1;try clear hcz4_0;try clear hcz4_1;try clear hcz4_2;try clear hcz4_3;try clear hcz4_4;try clear hcz7_0;try clear hcz7_1;try clear hcz7_2;try clear hcz7_3;try clear hcz7_4;try clear hfz4_0;try clear hfz4_1;try clear hfz4_2;try clear hfz4_3;try clear hfz4_4;try clear hfz7_0;try clear hfz7_1;try clear hfz7_2;try clear hfz7_3;try clear hfz7_4;try clear p2
    obtain ⟨kq, x3_5, rfl, HA, HJ5, BK297, HB⟩ := hcut
    cases kq with
    | zero => exact absurd HA.out (by simp [middenref17_strong.j1])
    | succ kj5 =>
     have H := HA.out
     clear HA
     simp only [middenref17_strong.j1] at H
     have H' := Aside0.mk H
     clear H
     go_wp2
     go_loopg [4, 5] kj5 (fun kq v4 v5 w' => ∃ (x4_3 : List Int) (x5_3 : Int), v5 = .int .i64 x5_3 /\ Aside0 (middenref17_strong.l0 kq x4_3 x5_3 a0_0 a0_1 a0_2 l0_3 l0_4 = some r) /\ Aside0 (kq <= kj5) /\ Aside0 (Kd.R (Kd.int .i64) 3 w' w.heap.size (fun _ => True) v4 x4_3) /\ Aside0 (w'.heap[gb297]? = some (.cells #[.int .u64 a0_0, .int .i64 a0_1, .int .i64 a0_2, (.slice A0_3 l0_3.length c0_3), (.slice A0_4 l0_4.length c0_4)] 59 (0, 0))) /\ Aside0 (Below w.heap.size w w'))
     case atStart => exact ⟨(([] : List Int)), (x3_5), (by first | rfl | (simp; done) | (simp [*]; done)), H', ⟨Nat.le_refl _⟩, ⟨by first | exact Kd.R_nil _ _ _ _ _ | exact Kd.N_nil _ _ _ _ _ | exact Kd.V_nil _ _ _ _ _ | exact Kd.Q_nil _ _ _ _ _ | exact Kd.S_nil _ _ _ _ _⟩, ⟨by (with_reducible repeat (first | refine blk_drewN ?_ _ | refine blk_drew ?_ | refine blk_alloc ?_ _)); exact BK297.out⟩, ⟨by repeat (first | (with_reducible first | exact HB.out | apply below_alloc | apply pw_below_drewN | apply below_drew1 | refine below_set ?_ GE297.out) | exact HB.out)⟩⟩
     case round =>
      clear H'
      try clear p2;try clear c4;try clear c5;try clear c5b0;try clear c5b1;try clear c8;try clear c8b0;try clear c8b1;try clear hcz4_0;try clear hcz4_1;try clear hcz4_2;try clear hcz4_3;try clear hcz4_4;try clear hcz7_0;try clear hcz7_1;try clear hcz7_2;try clear hcz7_3;try clear hcz7_4;try clear hfz4_0;try clear hfz4_1;try clear hfz4_2;try clear hfz4_3;try clear hfz4_4;try clear hfz7_0;try clear hfz7_1;try clear hfz7_2;try clear hfz7_3;try clear hfz7_4;try clear p2
      obtain ⟨x4_3, x5_3, rfl, HA, HK3, HO_4, BK297, HB⟩ := hrel
      cases gk with
      | zero => exact absurd HA.out (by simp [middenref17_strong.l0])
      | succ k3 =>
       have H := HA.out
       clear HA
       simp only [middenref17_strong.l0] at H
       by_cases c9 : x5_3 < (l0_3.length : Int)
       ·rw [if_pos c9] at H
        have c9b0 : decide (x5_3 < (l0_3.length : Int)) = true := decide_eq_true c9
        clear c9
        by_cases c10 : 0 <= x5_3
        ·rw [if_pos c10] at H
         have c10b0 : decide (0 <= x5_3) = true := decide_eq_true c10
         clear c10
         by_cases c11 : (rd l0_3 x5_3) > 0
         ·rw [if_pos c11] at H
          have c11b0 : decide (0 < (rd l0_3 x5_3)) = true := decide_eq_true c11
          clear c11
          by_cases c12 : x4_3.length < 17592186044416
          ·rw [if_pos c12] at H
           have LMc12 := Aside0.mk c12
           clear c12
           obtain ⟨y300, hy300⟩ : ∃ y_ : List Int, y_ = (x4_3 ++ [rd l0_3 x5_3]) := ⟨_, rfl⟩
           replace H : (middenref17_strong.l0 k3 y300 (wrap64 (x5_3 + 1)) a0_0 a0_1 a0_2 l0_3 l0_4) = some r := by first | (rw [hy300]; with_reducible exact H) | (have H2_ := (Option.bind_some _ _).symm.trans H; rw [hy300]; with_reducible exact H2_) | (have H2_ := (Option.bind_some _ _).symm.trans H; with_reducible exact H2_) | with_reducible exact H | (rw [hy300]; exact H) | exact H
           have Ny300 := Aside0.mk hy300
           clear hy300
           have H' := Aside0.mk H
           clear H
           have hcz13_0 : wr.cell? ⟨gb297, 0, none⟩ = some (.int .u64 a0_0) := (bkC BK297.out 0).trans rfl
           have hcz13_1 : wr.cell? ⟨gb297, 1, none⟩ = some (.int .i64 a0_1) := (bkC BK297.out 1).trans rfl
           have hcz13_2 : wr.cell? ⟨gb297, 2, none⟩ = some (.int .i64 a0_2) := (bkC BK297.out 2).trans rfl
           have hcz13_3 : wr.cell? ⟨gb297, 3, none⟩ = some (.slice A0_3 l0_3.length c0_3) := (bkC BK297.out 3).trans rfl
           have hcz13_4 : wr.cell? ⟨gb297, 4, none⟩ = some (.slice A0_4 l0_4.length c0_4) := (bkC BK297.out 4).trans rfl
           have hfz13_0 := bkF BK297.out 0
           have hfz13_1 := bkF BK297.out 1
           have hfz13_2 := bkF BK297.out 2
           have hfz13_3 := bkF BK297.out 3
           have hfz13_4 := bkF BK297.out 4
           have p298 : 0 <= (x5_3 : Int) := of_decide_eq_true (by first | (with_reducible assumption) | assumption)
           have q298 : x5_3 < (l0_3.length : Int) := of_decide_eq_true (by first | (with_reducible assumption) | assumption)
           obtain ⟨ad298, e298, hx298_0⟩ := Kd.at_int HR0_3.out x5_3 p298 q298
           cases e298
           replace hx298_0 := (HB.out.cell (World.block_lt_of_cell? w _ hx298_0)).trans hx298_0
           replace p298 := eq_true p298
           replace q298 := eq_true q298
           have p299 : 0 <= (x5_3 : Int) := of_decide_eq_true (by first | (with_reducible assumption) | assumption)
           have q299 : x5_3 < (l0_3.length : Int) := of_decide_eq_true (by first | (with_reducible assumption) | assumption)
           obtain ⟨ad299, e299, hx299_0⟩ := Kd.at_int HR0_3.out x5_3 p299 q299
           obtain rfl : ad298 = ad299 := (by injection e299)
           replace hx299_0 := (HB.out.cell (World.block_lt_of_cell? w _ hx299_0)).trans hx299_0
           replace p299 := eq_true p299
           replace q299 := eq_true q299
           go_wp2_with (first | ((with_reducible refine gate_builtin (b := .append) (xs := #[.tmp 26, .tmp 32]) rfl ?_); at_builtin; refine Kd.R_append (Kd.int .i64) (w0 := w) w.heap.size rfl (.tmp 26) (.tmp 32) 24 3 (.int .i64 0) 8 rfl Tryd.underlying24 info3 rfl (by decide) (by omega) u4 x4_3 (rd l0_3 x5_3) [.int .i64 (rd l0_3 x5_3)] (fun _ => True) (fun _ => False) rfl rfl ?aP (fun _ hk => hk.elim) ?aF ?aO ?aB ?aS ?aL ?_; (case aP => exact rfl); (case aB => exact (by repeat (first | (with_reducible first | exact HB.out | apply below_alloc | apply pw_below_drewN | apply below_drew1 | refine below_set ?_ GE297.out) | exact HB.out))); (case aF => exact (fun _ _ => trivial)); (case aO => exact (by (with_reducible repeat (first | apply Kd.R_alloc | apply Kd.R_drewN | apply Kd.R_drew)); exact HO_4.out)); (case aS => exact (below_size (by repeat (first | (with_reducible first | exact HB.out | apply below_alloc | apply pw_below_drewN | apply below_drew1 | refine below_set ?_ GE297.out) | exact HB.out)))); (case aL => have := LMc12.out; omega); intro v301 w14 ho hb hg hat; rw [<- Ny300.out] at ho; have n0_ := Aside0.mk (blk_grown (g := gb297) (o := .cells #[.int .u64 a0_0, .int .i64 a0_1, .int .i64 a0_2, .slice (some ad298) l0_3.length c0_3, .slice A0_4 l0_4.length c0_4] 59 (0, 0)) (by (with_reducible repeat (first | refine blk_drewN ?_ _ | refine blk_drew ?_ | refine blk_alloc ?_ _)); exact BK297.out) hg (Kd.R_ne HO_4.out BK297.out (by decide))); have n1_ := Aside0.mk (hb); have n2_ := Aside0.mk (ho); clear BK297; clear HB; clear HO_4; have BK297 := n0_; have HB := n1_; have HO302 := n2_; clear n0_ n1_ n2_; clear ho hb hg hat))
           go_roundg k3
           case measure => have := HJ1.out; have := HJ5.out; have := HK3.out; omega
           case rel => exact ⟨(y300), (wrap64 (x5_3 + 1)), (by first | rfl | (simp; done) | (simp [*]; done)), H', ⟨by have := HJ1.out; have := HJ5.out; have := HK3.out; omega⟩, ⟨by (with_reducible repeat (first | apply Kd.R_alloc | apply Kd.R_drewN | apply Kd.R_drew)); exact HO302.out⟩, ⟨by (with_reducible repeat (first | refine blk_drewN ?_ _ | refine blk_drew ?_ | refine blk_alloc ?_ _)); exact BK297.out⟩, ⟨by repeat (first | (with_reducible first | exact HB.out | apply below_alloc | apply pw_below_drewN | apply below_drew1 | refine below_set ?_ GE297.out) | exact HB.out)⟩⟩
          ·rw [if_neg c12] at H
           exact absurd H (by simp)
         ·rw [if_neg c11] at H
          have c11b0 : decide (0 < (rd l0_3 x5_3)) = false := decide_eq_false c11
          clear c11
          have H' := Aside0.mk H
          clear H
          have hcz15_0 : wr.cell? ⟨gb297, 0, none⟩ = some (.int .u64 a0_0) := (bkC BK297.out 0).trans rfl
          have hcz15_1 : wr.cell? ⟨gb297, 1, none⟩ = some (.int .i64 a0_1) := (bkC BK297.out 1).trans rfl
          have hcz15_2 : wr.cell? ⟨gb297, 2, none⟩ = some (.int .i64 a0_2) := (bkC BK297.out 2).trans rfl
          have hcz15_3 : wr.cell? ⟨gb297, 3, none⟩ = some (.slice A0_3 l0_3.length c0_3) := (bkC BK297.out 3).trans rfl
          have hcz15_4 : wr.cell? ⟨gb297, 4, none⟩ = some (.slice A0_4 l0_4.length c0_4) := (bkC BK297.out 4).trans rfl
          have hfz15_0 := bkF BK297.out 0
          have hfz15_1 := bkF BK297.out 1
          have hfz15_2 := bkF BK297.out 2
          have hfz15_3 := bkF BK297.out 3
          have hfz15_4 := bkF BK297.out 4
          have p298 : 0 <= (x5_3 : Int) := of_decide_eq_true (by first | (with_reducible assumption) | assumption)
          have q298 : x5_3 < (l0_3.length : Int) := of_decide_eq_true (by first | (with_reducible assumption) | assumption)
          obtain ⟨ad298, e298, hx298_0⟩ := Kd.at_int HR0_3.out x5_3 p298 q298
          cases e298
          replace hx298_0 := (HB.out.cell (World.block_lt_of_cell? w _ hx298_0)).trans hx298_0
          replace p298 := eq_true p298
          replace q298 := eq_true q298
          go_wp2
          go_roundg k3
          case measure => have := HJ1.out; have := HJ5.out; have := HK3.out; omega
          case rel => exact ⟨(x4_3), (wrap64 (x5_3 + 1)), (by first | rfl | (simp; done) | (simp [*]; done)), H', ⟨by have := HJ1.out; have := HJ5.out; have := HK3.out; omega⟩, ⟨by (with_reducible repeat (first | apply Kd.R_alloc | apply Kd.R_drewN | apply Kd.R_drew)); exact HO_4.out⟩, ⟨by (with_reducible repeat (first | refine blk_drewN ?_ _ | refine blk_drew ?_ | refine blk_alloc ?_ _)); exact BK297.out⟩, ⟨by repeat (first | (with_reducible first | exact HB.out | apply below_alloc | apply pw_below_drewN | apply below_drew1 | refine below_set ?_ GE297.out) | exact HB.out)⟩⟩
        ·rw [if_neg c10] at H
         exact absurd H (by simp)
       ·rw [if_neg c9] at H
        have c9b0 : decide (x5_3 < (l0_3.length : Int)) = false := decide_eq_false c9
        clear c9
        obtain rfl := Option.some.inj H
        have hcz16_0 : wr.cell? ⟨gb297, 0, none⟩ = some (.int .u64 a0_0) := (bkC BK297.out 0).trans rfl
        have hcz16_1 : wr.cell? ⟨gb297, 1, none⟩ = some (.int .i64 a0_1) := (bkC BK297.out 1).trans rfl
        have hcz16_2 : wr.cell? ⟨gb297, 2, none⟩ = some (.int .i64 a0_2) := (bkC BK297.out 2).trans rfl
        have hcz16_3 : wr.cell? ⟨gb297, 3, none⟩ = some (.slice A0_3 l0_3.length c0_3) := (bkC BK297.out 3).trans rfl
        have hcz16_4 : wr.cell? ⟨gb297, 4, none⟩ = some (.slice A0_4 l0_4.length c0_4) := (bkC BK297.out 4).trans rfl
        have hfz16_0 := bkF BK297.out 0
        have hfz16_1 := bkF BK297.out 1
        have hfz16_2 := bkF BK297.out 2
        have hfz16_3 := bkF BK297.out 3
        have hfz16_4 := bkF BK297.out 4
        go_wp2
        go_ret
        exact ⟨_, by first | rfl | (simp [errW_none, errW_some] <;> rfl) | (simp [*, errW_none, errW_some] <;> rfl), by (with_reducible repeat (first | apply Kd.R_alloc | apply Kd.R_drewN | apply Kd.R_drew)); exact HO_4.out, by repeat (first | (with_reducible first | exact HB.out | apply below_alloc | apply pw_below_drewN | apply below_drew1 | refine below_set ?_ GE297.out) | exact HB.out)⟩
mutual
def middenref17_roots.l0 : Nat -> Int -> List Int -> Int -> List (S59) -> List (List (List Int)) -> List Int -> List Int -> List Int -> Int -> Option (List Int)
 | 0, _, _, _, _, _, _, _, _, _ => none
 | k + 1, x1, x5, x6, x304000, x304001, x304002, x304003, x304004, x304005 => if x6 < (x304001.length : Int) then (middenref17_roots.l1 k x1 x5 x6 0 x304000 x304001 x304002 x304003 x304004 x304005) else (if x5.length + x304002.length < 17592186044416 then ((some (x5 ++ x304002 : List Int)).bind fun y310 => (if y310.length + x304004.length < 17592186044416 then (middenref17_roots.l2 k x1 (y310 ++ x304004) ([] : List Int) 0) else (none))) else (none))
def middenref17_roots.l1 : Nat -> Int -> List Int -> Int -> Int -> List (S59) -> List (List (List Int)) -> List Int -> List Int -> List Int -> Int -> Option (List Int)
 | 0, _, _, _, _, _, _, _, _, _, _ => none
 | k + 1, x1, x5, x6, x7, x304000, x304001, x304002, x304003, x304004, x304005 => if 0 <= x6 then (if x6 < (x304001.length : Int) then (if x7 < ((rd_L5 x304001 x6).length : Int) then (if 0 <= x7 then (if x5.length + (rd_L2 (rd_L5 x304001 x6) x7).length < 17592186044416 then (middenref17_roots.l1 k x1 (x5 ++ (rd_L2 (rd_L5 x304001 x6) x7)) x6 (wrap64 (x7 + 1)) x304000 x304001 x304002 x304003 x304004 x304005) else (none)) else (none)) else (middenref17_roots.l0 k x1 x5 (wrap64 (x6 + 1)) x304000 x304001 x304002 x304003 x304004 x304005)) else (none)) else (none)
def middenref17_roots.l2 : Nat -> Int -> List Int -> List Int -> Int -> Option (List Int)
 | 0, _, _, _, _ => none
 | k + 1, x1, x5, x8, x9 => if x9 < (x5.length : Int) then (if 0 <= x9 then (if (rd x5 x9) > 0 then (if (rd x5 x9) = x1 then (middenref17_roots.l2 k x1 x5 x8 (wrap64 (x9 + 1))) else (if x8.length < 17592186044416 then (middenref17_roots.l2 k x1 x5 (x8 ++ [rd x5 x9]) (wrap64 (x9 + 1))) else (none))) else (middenref17_roots.l2 k x1 x5 x8 (wrap64 (x9 + 1)))) else (none)) else (some x8)
end
def middenref17_roots.f (k : Nat) (l0_0 : List (S59)) (l0_1 : List (List (List Int))) (l0_2 : List Int) (l0_3 : List Int) (l0_4 : List Int) (a0_5 : Int) (a1 : Int) : Option (List Int) := middenref17_roots.l0 k a1 ([] : List Int) 0 l0_0 l0_1 l0_2 l0_3 l0_4 a0_5
theorem middenref17_roots.mono_l : ∀ k, (∀ y0 y1 y2 y3 y4 y5 y6 y7 y8, LeO (middenref17_roots.l0 k y0 y1 y2 y3 y4 y5 y6 y7 y8) (middenref17_roots.l0 (k + 1) y0 y1 y2 y3 y4 y5 y6 y7 y8)) /\ (∀ y0 y1 y2 y3 y4 y5 y6 y7 y8 y9, LeO (middenref17_roots.l1 k y0 y1 y2 y3 y4 y5 y6 y7 y8 y9) (middenref17_roots.l1 (k + 1) y0 y1 y2 y3 y4 y5 y6 y7 y8 y9)) /\ (∀ y0 y1 y2 y3, LeO (middenref17_roots.l2 k y0 y1 y2 y3) (middenref17_roots.l2 (k + 1) y0 y1 y2 y3))
 | 0 => ⟨fun _ _ _ _ _ _ _ _ _ r h => by simp [middenref17_roots.l0] at h, fun _ _ _ _ _ _ _ _ _ _ r h => by simp [middenref17_roots.l1] at h, fun _ _ _ _ r h => by simp [middenref17_roots.l2] at h⟩
 | k + 1 => by
  obtain ⟨ih0, ih1, ih2⟩ := middenref17_roots.mono_l k
  refine ⟨?_, ?_, ?_⟩
  ·intro y0 y1 y2 y3 y4 y5 y6 y7 y8
   unfold middenref17_roots.l0
   repeat' first
   | (with_reducible first | exact ih0 _ _ _ _ _ _ _ _ _ | exact ih1 _ _ _ _ _ _ _ _ _ _ | exact ih2 _ _ _ _ | exact LeO.refl _ | exact LeO.none _ | refine LeO.ite ?_ ?_ | refine LeO.bind ?_ (fun _ => ?_))
   | exact ih0 _ _ _ _ _ _ _ _ _
   | exact ih1 _ _ _ _ _ _ _ _ _ _
   | exact ih2 _ _ _ _
   | exact LeO.none _
   | refine LeO.ite ?_ ?_
   | refine LeO.bind ?_ (fun _ => ?_)
  ·intro y0 y1 y2 y3 y4 y5 y6 y7 y8 y9
   unfold middenref17_roots.l1
   repeat' first
   | (with_reducible first | exact ih0 _ _ _ _ _ _ _ _ _ | exact ih1 _ _ _ _ _ _ _ _ _ _ | exact ih2 _ _ _ _ | exact LeO.refl _ | exact LeO.none _ | refine LeO.ite ?_ ?_ | refine LeO.bind ?_ (fun _ => ?_))
   | exact ih0 _ _ _ _ _ _ _ _ _
   | exact ih1 _ _ _ _ _ _ _ _ _ _
   | exact ih2 _ _ _ _
   | exact LeO.none _
   | refine LeO.ite ?_ ?_
   | refine LeO.bind ?_ (fun _ => ?_)
  ·intro y0 y1 y2 y3
   unfold middenref17_roots.l2
   repeat' first
   | (with_reducible first | exact ih0 _ _ _ _ _ _ _ _ _ | exact ih1 _ _ _ _ _ _ _ _ _ _ | exact ih2 _ _ _ _ | exact LeO.refl _ | exact LeO.none _ | refine LeO.ite ?_ ?_ | refine LeO.bind ?_ (fun _ => ?_))
   | exact ih0 _ _ _ _ _ _ _ _ _
   | exact ih1 _ _ _ _ _ _ _ _ _ _
   | exact ih2 _ _ _ _
   | exact LeO.none _
   | refine LeO.ite ?_ ?_
   | refine LeO.bind ?_ (fun _ => ?_)
theorem middenref17_roots.mono : ∀ a0 a1 a2 a3 a4 a5 a6 k, LeO (middenref17_roots.f k a0 a1 a2 a3 a4 a5 a6) (middenref17_roots.f (k + 1) a0 a1 a2 a3 a4 a5 a6) := by
 intro a0 a1 a2 a3 a4 a5 a6 k
 obtain ⟨ih0, ih1, ih2⟩ := middenref17_roots.mono_l k
 unfold middenref17_roots.f
 repeat' first
   | (with_reducible first | exact ih0 _ _ _ _ _ _ _ _ _ | exact ih1 _ _ _ _ _ _ _ _ _ _ | exact ih2 _ _ _ _ | exact LeO.refl _ | exact LeO.none _ | refine LeO.ite ?_ ?_ | refine LeO.bind ?_ (fun _ => ?_))
   | exact ih0 _ _ _ _ _ _ _ _ _
   | exact ih1 _ _ _ _ _ _ _ _ _ _
   | exact ih2 _ _ _ _
   | exact LeO.none _
   | refine LeO.ite ?_ ?_
   | refine LeO.bind ?_ (fun _ => ?_)
set_option maxHeartbeats 8000000 in
set_option maxRecDepth 100000 in
theorem middenref17_roots.calls (k : Nat) (A0_0 : Option Addr) (c0_0 : Nat) (l0_0 : List (S59)) (A0_1 : Option Addr) (c0_1 : Nat) (l0_1 : List (List (List Int))) (A0_2 : Option Addr) (c0_2 : Nat) (l0_2 : List Int) (A0_3 : Option Addr) (c0_3 : Nat) (l0_3 : List Int) (A0_4 : Option Addr) (c0_4 : Nat) (l0_4 : List Int) (a0_5 : Int) (a1 : Int) (r : List Int) (w : World) (hr0_0 : Kd.C k59 w A0_0 l0_0.length l0_0) (hc0_0 : l0_0.length <= c0_0) (hr0_1 : Kd.C (Kd.slice 24 (Kd.slice 3 (Kd.int .i64))) w A0_1 l0_1.length l0_1) (hc0_1 : l0_1.length <= c0_1) (hr0_2 : Kd.C (Kd.int .i64) w A0_2 l0_2.length l0_2) (hc0_2 : l0_2.length <= c0_2) (hr0_3 : Kd.C (Kd.int .i64) w A0_3 l0_3.length l0_3) (hc0_3 : l0_3.length <= c0_3) (hr0_4 : Kd.C (Kd.int .i64) w A0_4 l0_4.length l0_4) (hc0_4 : l0_4.length <= c0_4) (h : middenref17_roots.f k l0_0 l0_1 l0_2 l0_3 l0_4 a0_5 a1 = some r) :
  Calls Tryd.prog 45 #[.agg #[.slice A0_0 l0_0.length c0_0, .slice A0_1 l0_1.length c0_1, .slice A0_2 l0_2.length c0_2, .slice A0_3 l0_3.length c0_3, .slice A0_4 l0_4.length c0_4, .int .u64 a0_5], .int .i64 a1] w fun e w' => ∃ v0_ : Value, e = .returned (v0_) /\ Kd.R (Kd.int .i64) 3 w' w.heap.size (fun _ => True) v0_ r /\ Below w.heap.size w w' := by
 have hu27 := Tryd.underlying27
 have HR0_0 := Aside0.mk hr0_0
 have HC0_0 := Aside0.mk hc0_0
 clear hr0_0 hc0_0
 have HR0_1 := Aside0.mk hr0_1
 have HC0_1 := Aside0.mk hc0_1
 clear hr0_1 hc0_1
 have HR0_2 := Aside0.mk hr0_2
 have HC0_2 := Aside0.mk hc0_2
 clear hr0_2 hc0_2
 have HR0_3 := Aside0.mk hr0_3
 have HC0_3 := Aside0.mk hc0_3
 clear hr0_3 hc0_3
 have HR0_4 := Aside0.mk hr0_4
 have HC0_4 := Aside0.mk hc0_4
 clear hr0_4 hc0_4
 have HB := Aside0.mk (Below.refl w.heap.size w)
 have H : (middenref17_roots.l0 k a1 ([] : List Int) 0 l0_0 l0_1 l0_2 l0_3 l0_4 a0_5) = some r := h
 clear h
 have H' := Aside0.mk H
 clear H
 go_enter Tryd.func45, Tryd.ntmps45
 go_wp2_with (first | ((with_reducible refine gate_dst (N := 2) rfl ?_); refine box_event ?hg (N := 2) ?hd (cs := #[.slice A0_0 l0_0.length c0_0, .slice A0_1 l0_1.length c0_1, .slice A0_2 l0_2.length c0_2, .slice A0_3 l0_3.length c0_3, .slice A0_4 l0_4.length c0_4, .int .u64 a0_5]) (t := 27) ?hr ?_; (case hd => rfl); (case hg => rfl); (case hr => first | (go_simp; done) | (go_simp; rfl)); intro gb303 hg w3 hbox hb; have n0_ := Aside0.mk (below_step (by repeat (first | (with_reducible first | exact HB.out | apply below_alloc | apply pw_below_drewN | apply below_drew1) | exact HB.out)) hb); have n1_ := Aside0.mk (hbox); have n2_ := Aside0.mk ((by rw [hg]; exact (below_size (by repeat (first | (with_reducible first | exact HB.out | apply below_alloc | apply pw_below_drewN | apply below_drew1) | exact HB.out))) : w.heap.size <= gb303)); have n3_ := Aside0.mk ((by rw [hg]; exact (below_size (by repeat (first | (with_reducible first | exact HB.out | apply below_alloc | apply pw_below_drewN | apply below_drew1) | exact HB.out))) : w.heap.size <= gb303)); clear HB; have HB := n0_; have BK303 := n1_; have GW303 := n2_; have GE303 := n3_; clear n0_ n1_ n2_ n3_; clear hb hbox hg))
 go_loopg [5, 6] k (fun kq v5 v6 w' => ∃ (x5_1 : List Int) (x6_1 : Int), v6 = .int .i64 x6_1 /\ Aside0 (middenref17_roots.l0 kq a1 x5_1 x6_1 l0_0 l0_1 l0_2 l0_3 l0_4 a0_5 = some r) /\ Aside0 (kq <= k) /\ Aside0 (Kd.R (Kd.int .i64) 3 w' w.heap.size (fun _ => True) v5 x5_1) /\ Aside0 (w'.heap[gb303]? = some (.cells #[(.slice A0_0 l0_0.length c0_0), (.slice A0_1 l0_1.length c0_1), (.slice A0_2 l0_2.length c0_2), (.slice A0_3 l0_3.length c0_3), (.slice A0_4 l0_4.length c0_4), .int .u64 a0_5] 27 (0, 0))) /\ Aside0 (Below w.heap.size w w'))
 case atStart => exact ⟨(([] : List Int)), (0), (by first | rfl | (simp; done) | (simp [*]; done)), H', ⟨Nat.le_refl _⟩, ⟨by first | exact Kd.R_nil _ _ _ _ _ | exact Kd.N_nil _ _ _ _ _ | exact Kd.V_nil _ _ _ _ _ | exact Kd.Q_nil _ _ _ _ _ | exact Kd.S_nil _ _ _ _ _⟩, ⟨by (with_reducible repeat (first | refine blk_drewN ?_ _ | refine blk_drew ?_ | refine blk_alloc ?_ _)); exact BK303.out⟩, ⟨by repeat (first | (with_reducible first | exact HB.out | apply below_alloc | apply pw_below_drewN | apply below_drew1 | refine below_set ?_ GE303.out) | exact HB.out)⟩⟩
 case round =>
  clear H'
  try clear p2
  obtain ⟨x5_1, x6_1, rfl, HA, HK1, HO_5, BK303, HB⟩ := hrel
  cases gk with
  | zero => exact absurd HA.out (by simp [middenref17_roots.l0])
  | succ k1 =>
   have H := HA.out
   clear HA
   simp only [middenref17_roots.l0] at H
   by_cases c4 : x6_1 < (l0_1.length : Int)
   ·rw [if_pos c4] at H
    have c4b0 : decide (x6_1 < (l0_1.length : Int)) = true := decide_eq_true c4
    clear c4
    have H' := Aside0.mk H
    clear H
    have hcz5_0 : wr.cell? ⟨gb303, 0, none⟩ = some (.slice A0_0 l0_0.length c0_0) := (bkC BK303.out 0).trans rfl
    have hcz5_1 : wr.cell? ⟨gb303, 1, none⟩ = some (.slice A0_1 l0_1.length c0_1) := (bkC BK303.out 1).trans rfl
    have hcz5_2 : wr.cell? ⟨gb303, 2, none⟩ = some (.slice A0_2 l0_2.length c0_2) := (bkC BK303.out 2).trans rfl
    have hcz5_3 : wr.cell? ⟨gb303, 3, none⟩ = some (.slice A0_3 l0_3.length c0_3) := (bkC BK303.out 3).trans rfl
    have hcz5_4 : wr.cell? ⟨gb303, 4, none⟩ = some (.slice A0_4 l0_4.length c0_4) := (bkC BK303.out 4).trans rfl
    have hcz5_5 : wr.cell? ⟨gb303, 5, none⟩ = some (.int .u64 a0_5) := (bkC BK303.out 5).trans rfl
    have hfz5_0 := bkF BK303.out 0
    have hfz5_1 := bkF BK303.out 1
    have hfz5_2 := bkF BK303.out 2
    have hfz5_3 := bkF BK303.out 3
    have hfz5_4 := bkF BK303.out 4
    have hfz5_5 := bkF BK303.out 5
    go_wp2
    go_loopg [5, 7] k1 (fun kq v5 v7 w' => ∃ (x5_2 : List Int) (x7_2 : Int), v7 = .int .i64 x7_2 /\ Aside0 (middenref17_roots.l1 kq a1 x5_2 x6_1 x7_2 l0_0 l0_1 l0_2 l0_3 l0_4 a0_5 = some r) /\ Aside0 (kq <= k1) /\ Aside0 (Kd.R (Kd.int .i64) 3 w' w.heap.size (fun _ => True) v5 x5_2) /\ Aside0 (w'.heap[gb303]? = some (.cells #[(.slice A0_0 l0_0.length c0_0), (.slice A0_1 l0_1.length c0_1), (.slice A0_2 l0_2.length c0_2), (.slice A0_3 l0_3.length c0_3), (.slice A0_4 l0_4.length c0_4), .int .u64 a0_5] 27 (0, 0))) /\ Aside0 (Below w.heap.size w w'))
    case atStart => exact ⟨(x5_1), (0), (by first | rfl | (simp; done) | (simp [*]; done)), H', ⟨Nat.le_refl _⟩, ⟨by (with_reducible repeat (first | apply Kd.R_alloc | apply Kd.R_drewN | apply Kd.R_drew)); exact HO_5.out⟩, ⟨by (with_reducible repeat (first | refine blk_drewN ?_ _ | refine blk_drew ?_ | refine blk_alloc ?_ _)); exact BK303.out⟩, ⟨by repeat (first | (with_reducible first | exact HB.out | apply below_alloc | apply pw_below_drewN | apply below_drew1 | refine below_set ?_ GE303.out) | exact HB.out)⟩⟩
    case round =>
     clear H'
     try clear p2;try clear c4;try clear c4b0;try clear hcz5_0;try clear hcz5_1;try clear hcz5_2;try clear hcz5_3;try clear hcz5_4;try clear hcz5_5;try clear hfz5_0;try clear hfz5_1;try clear hfz5_2;try clear hfz5_3;try clear hfz5_4;try clear hfz5_5;try clear p2
     obtain ⟨x5_2, x7_2, rfl, HA, HK2, HO_5, BK303, HB⟩ := hrel
     cases gk with
     | zero => exact absurd HA.out (by simp [middenref17_roots.l1])
     | succ k2 =>
      have H := HA.out
      clear HA
      simp only [middenref17_roots.l1] at H
      by_cases c6 : 0 <= x6_1
      ·rw [if_pos c6] at H
       have c6b0 : decide (0 <= x6_1) = true := decide_eq_true c6
       clear c6
       by_cases c7 : x6_1 < (l0_1.length : Int)
       ·rw [if_pos c7] at H
        have c7b0 : decide (x6_1 < (l0_1.length : Int)) = true := decide_eq_true c7
        clear c7
        by_cases c8 : x7_2 < ((rd_L5 l0_1 x6_1).length : Int)
        ·rw [if_pos c8] at H
         have c8b0 : decide (x7_2 < ((rd_L5 l0_1 x6_1).length : Int)) = true := decide_eq_true c8
         clear c8
         by_cases c9 : 0 <= x7_2
         ·rw [if_pos c9] at H
          have c9b0 : decide (0 <= x7_2) = true := decide_eq_true c9
          clear c9
          by_cases c10 : x5_2.length + (rd_L2 (rd_L5 l0_1 x6_1) x7_2).length < 17592186044416
          ·rw [if_pos c10] at H
           have LMc10 := Aside0.mk c10
           clear c10
           obtain ⟨y307, hy307⟩ : ∃ y_ : List Int, y_ = (x5_2 ++ (rd_L2 (rd_L5 l0_1 x6_1) x7_2)) := ⟨_, rfl⟩
           replace H : (middenref17_roots.l1 k2 a1 y307 x6_1 (wrap64 (x7_2 + 1)) l0_0 l0_1 l0_2 l0_3 l0_4 a0_5) = some r := by first | (rw [hy307]; with_reducible exact H) | (have H2_ := (Option.bind_some _ _).symm.trans H; rw [hy307]; with_reducible exact H2_) | (have H2_ := (Option.bind_some _ _).symm.trans H; with_reducible exact H2_) | with_reducible exact H | (rw [hy307]; exact H) | exact H
           have Ny307 := Aside0.mk hy307
           clear hy307
           have H' := Aside0.mk H
           clear H
           have hcz11_0 : wr.cell? ⟨gb303, 0, none⟩ = some (.slice A0_0 l0_0.length c0_0) := (bkC BK303.out 0).trans rfl
           have hcz11_1 : wr.cell? ⟨gb303, 1, none⟩ = some (.slice A0_1 l0_1.length c0_1) := (bkC BK303.out 1).trans rfl
           have hcz11_2 : wr.cell? ⟨gb303, 2, none⟩ = some (.slice A0_2 l0_2.length c0_2) := (bkC BK303.out 2).trans rfl
           have hcz11_3 : wr.cell? ⟨gb303, 3, none⟩ = some (.slice A0_3 l0_3.length c0_3) := (bkC BK303.out 3).trans rfl
           have hcz11_4 : wr.cell? ⟨gb303, 4, none⟩ = some (.slice A0_4 l0_4.length c0_4) := (bkC BK303.out 4).trans rfl
           have hcz11_5 : wr.cell? ⟨gb303, 5, none⟩ = some (.int .u64 a0_5) := (bkC BK303.out 5).trans rfl
           have hfz11_0 := bkF BK303.out 0
           have hfz11_1 := bkF BK303.out 1
           have hfz11_2 := bkF BK303.out 2
           have hfz11_3 := bkF BK303.out 3
           have hfz11_4 := bkF BK303.out 4
           have hfz11_5 := bkF BK303.out 5
           have p304 : 0 <= (x6_1 : Int) := of_decide_eq_true (by first | (with_reducible assumption) | assumption)
           have q304 : x6_1 < (l0_1.length : Int) := of_decide_eq_true (by first | (with_reducible assumption) | assumption)
           obtain ⟨ad304, A304_0, c304_0, e304, hx304_0, hl304_0, hi304_0⟩ := at_L5 HR0_1.out x6_1 p304 q304
           cases e304
           replace hx304_0 := (HB.out.cell (World.block_lt_of_cell? w _ hx304_0)).trans hx304_0
           have HR304_0 := Aside0.mk hi304_0
           have HC304_0 := Aside0.mk hl304_0
           clear hi304_0 hl304_0
           replace p304 := eq_true p304
           replace q304 := eq_true q304
           have p305 : 0 <= (x6_1 : Int) := of_decide_eq_true (by first | (with_reducible assumption) | assumption)
           have q305 : x6_1 < (l0_1.length : Int) := of_decide_eq_true (by first | (with_reducible assumption) | assumption)
           obtain ⟨ad305, A305_0, c305_0, e305, hx305_0, hl305_0, hi305_0⟩ := at_L5 HR0_1.out x6_1 p305 q305
           obtain rfl : ad304 = ad305 := (by injection e305)
           replace hx305_0 := (HB.out.cell (World.block_lt_of_cell? w _ hx305_0)).trans hx305_0
           have HR305_0 := Aside0.mk hi305_0
           have HC305_0 := Aside0.mk hl305_0
           clear hi305_0 hl305_0
           replace p305 := eq_true p305
           replace q305 := eq_true q305
           have ea_ := Option.some.inj (hx304_0.symm.trans hx305_0)
           injection ea_ with ea_ en_ ec_
           subst ea_
           subst ec_
           clear en_
           have p306 : 0 <= (x7_2 : Int) := of_decide_eq_true (by first | (with_reducible assumption) | assumption)
           have q306 : x7_2 < ((rd_L5 l0_1 x6_1).length : Int) := of_decide_eq_true (by first | (with_reducible assumption) | assumption)
           obtain ⟨ad306, A306_0, c306_0, e306, hx306_0, hl306_0, hi306_0⟩ := at_L2 HR305_0.out x7_2 p306 q306
           cases e306
           replace hx306_0 := (HB.out.cell (World.block_lt_of_cell? w _ hx306_0)).trans hx306_0
           have HR306_0 := Aside0.mk hi306_0
           have HC306_0 := Aside0.mk hl306_0
           clear hi306_0 hl306_0
           replace p306 := eq_true p306
           replace q306 := eq_true q306
           go_wp2_with (first | ((with_reducible refine gate_builtin (b := .append) (xs := #[.tmp 27, .tmp 35]) rfl ?_); at_builtin; refine Kd.R_append_rows (Kd.int .i64) (w0 := w) w.heap.size rfl (.tmp 27) (.tmp 35) 24 3 (.int .i64 0) 8 rfl Tryd.underlying24 info3 rfl (by decide) (by omega) u5 x5_2 (rd_L2 (rd_L5 l0_1 x6_1) x7_2) _ _ _ (fun _ => True) (fun _ => False) rfl rfl ?aO ?aR (fun _ _ h => h) (fun _ h => h.elim) ?aF ?aB ?aS ?aL ?_; (case aR => repeat (first | exact (Kd.C_below HR306_0.out HB.out) | (with_reducible refine Kd.C_alloc ?_ _) | (with_reducible refine Kd.C_drewN ?_ _) | (with_reducible refine Kd.C_drew ?_))); (case aB => exact (by repeat (first | (with_reducible first | exact HB.out | apply below_alloc | apply pw_below_drewN | apply below_drew1 | refine below_set ?_ GE303.out) | exact HB.out))); (case aF => exact (fun _ _ => trivial)); (case aO => exact (by (with_reducible repeat (first | apply Kd.R_alloc | apply Kd.R_drewN | apply Kd.R_drew)); exact HO_5.out)); (case aS => exact (below_size (by repeat (first | (with_reducible first | exact HB.out | apply below_alloc | apply pw_below_drewN | apply below_drew1 | refine below_set ?_ GE303.out) | exact HB.out)))); (case aL => have := LMc10.out; omega); intro v308 w12 ho hb hg hat; rw [<- Ny307.out] at ho; have n0_ := Aside0.mk (blk_grown (g := gb303) (o := .cells #[.slice A0_0 l0_0.length c0_0, .slice (some ad304) l0_1.length c0_1, .slice A0_2 l0_2.length c0_2, .slice A0_3 l0_3.length c0_3, .slice A0_4 l0_4.length c0_4, .int .u64 a0_5] 27 (0, 0)) (by (with_reducible repeat (first | refine blk_drewN ?_ _ | refine blk_drew ?_ | refine blk_alloc ?_ _)); exact BK303.out) hg (Kd.R_ne HO_5.out BK303.out (by decide))); have n1_ := Aside0.mk (hb); have n2_ := Aside0.mk (ho); clear BK303; clear HB; clear HO_5; have BK303 := n0_; have HB := n1_; have HO309 := n2_; clear n0_ n1_ n2_; clear ho hb hg hat))
           go_roundg k2
           case measure => have := HK1.out; have := HK2.out; omega
           case rel => exact ⟨(y307), (wrap64 (x7_2 + 1)), (by first | rfl | (simp; done) | (simp [*]; done)), H', ⟨by have := HK1.out; have := HK2.out; omega⟩, ⟨by (with_reducible repeat (first | apply Kd.R_alloc | apply Kd.R_drewN | apply Kd.R_drew)); exact HO309.out⟩, ⟨by (with_reducible repeat (first | refine blk_drewN ?_ _ | refine blk_drew ?_ | refine blk_alloc ?_ _)); exact BK303.out⟩, ⟨by repeat (first | (with_reducible first | exact HB.out | apply below_alloc | apply pw_below_drewN | apply below_drew1 | refine below_set ?_ GE303.out) | exact HB.out)⟩⟩
          ·rw [if_neg c10] at H
           exact absurd H (by simp)
         ·rw [if_neg c9] at H
          exact absurd H (by simp)
        ·rw [if_neg c8] at H
         have c8b0 : decide (x7_2 < ((rd_L5 l0_1 x6_1).length : Int)) = false := decide_eq_false c8
         clear c8
         have H' := Aside0.mk H
         clear H
         have hcz13_0 : wr.cell? ⟨gb303, 0, none⟩ = some (.slice A0_0 l0_0.length c0_0) := (bkC BK303.out 0).trans rfl
         have hcz13_1 : wr.cell? ⟨gb303, 1, none⟩ = some (.slice A0_1 l0_1.length c0_1) := (bkC BK303.out 1).trans rfl
         have hcz13_2 : wr.cell? ⟨gb303, 2, none⟩ = some (.slice A0_2 l0_2.length c0_2) := (bkC BK303.out 2).trans rfl
         have hcz13_3 : wr.cell? ⟨gb303, 3, none⟩ = some (.slice A0_3 l0_3.length c0_3) := (bkC BK303.out 3).trans rfl
         have hcz13_4 : wr.cell? ⟨gb303, 4, none⟩ = some (.slice A0_4 l0_4.length c0_4) := (bkC BK303.out 4).trans rfl
         have hcz13_5 : wr.cell? ⟨gb303, 5, none⟩ = some (.int .u64 a0_5) := (bkC BK303.out 5).trans rfl
         have hfz13_0 := bkF BK303.out 0
         have hfz13_1 := bkF BK303.out 1
         have hfz13_2 := bkF BK303.out 2
         have hfz13_3 := bkF BK303.out 3
         have hfz13_4 := bkF BK303.out 4
         have hfz13_5 := bkF BK303.out 5
         have p304 : 0 <= (x6_1 : Int) := of_decide_eq_true (by first | (with_reducible assumption) | assumption)
         have q304 : x6_1 < (l0_1.length : Int) := of_decide_eq_true (by first | (with_reducible assumption) | assumption)
         obtain ⟨ad304, A304_0, c304_0, e304, hx304_0, hl304_0, hi304_0⟩ := at_L5 HR0_1.out x6_1 p304 q304
         cases e304
         replace hx304_0 := (HB.out.cell (World.block_lt_of_cell? w _ hx304_0)).trans hx304_0
         have HR304_0 := Aside0.mk hi304_0
         have HC304_0 := Aside0.mk hl304_0
         clear hi304_0 hl304_0
         replace p304 := eq_true p304
         replace q304 := eq_true q304
         go_wp2
         go_roundg k2
         case measure => have := HK1.out; have := HK2.out; omega
         case rel => exact ⟨(x5_2), (wrap64 (x6_1 + 1)), (by first | rfl | (simp; done) | (simp [*]; done)), H', ⟨by have := HK1.out; have := HK2.out; omega⟩, ⟨by (with_reducible repeat (first | apply Kd.R_alloc | apply Kd.R_drewN | apply Kd.R_drew)); exact HO_5.out⟩, ⟨by (with_reducible repeat (first | refine blk_drewN ?_ _ | refine blk_drew ?_ | refine blk_alloc ?_ _)); exact BK303.out⟩, ⟨by repeat (first | (with_reducible first | exact HB.out | apply below_alloc | apply pw_below_drewN | apply below_drew1 | refine below_set ?_ GE303.out) | exact HB.out)⟩⟩
       ·rw [if_neg c7] at H
        exact absurd H (by simp)
      ·rw [if_neg c6] at H
       exact absurd H (by simp)
   ·rw [if_neg c4] at H
    have c4b0 : decide (x6_1 < (l0_1.length : Int)) = false := decide_eq_false c4
    clear c4
    by_cases c14 : x5_1.length + l0_2.length < 17592186044416
    ·rw [if_pos c14] at H
     have LMc14 := Aside0.mk c14
     clear c14
     obtain ⟨y310, hy310⟩ : ∃ y_ : List Int, y_ = (x5_1 ++ l0_2) := ⟨_, rfl⟩
     replace H : (if y310.length + l0_4.length < 17592186044416 then (middenref17_roots.l2 k1 a1 (y310 ++ l0_4) ([] : List Int) 0) else (none)) = some r := by first | (rw [hy310]; with_reducible exact H) | (have H2_ := (Option.bind_some _ _).symm.trans H; rw [hy310]; with_reducible exact H2_) | (have H2_ := (Option.bind_some _ _).symm.trans H; with_reducible exact H2_) | with_reducible exact H | (rw [hy310]; exact H) | exact H
     have Ny310 := Aside0.mk hy310
     clear hy310
     by_cases c15 : y310.length + l0_4.length < 17592186044416
     ·rw [if_pos c15] at H
      have LMc15 := Aside0.mk c15
      clear c15
      obtain ⟨y313, hy313⟩ : ∃ y_ : List Int, y_ = (y310 ++ l0_4) := ⟨_, rfl⟩
      replace H : (middenref17_roots.l2 k1 a1 y313 ([] : List Int) 0) = some r := by first | (rw [hy313]; with_reducible exact H) | (have H2_ := (Option.bind_some _ _).symm.trans H; rw [hy313]; with_reducible exact H2_) | (have H2_ := (Option.bind_some _ _).symm.trans H; with_reducible exact H2_) | with_reducible exact H | (rw [hy313]; exact H) | exact H
      have Ny313 := Aside0.mk hy313
      clear hy313
      have H' := Aside0.mk H
      clear H
      have hcz16_0 : wr.cell? ⟨gb303, 0, none⟩ = some (.slice A0_0 l0_0.length c0_0) := (bkC BK303.out 0).trans rfl
      have hcz16_1 : wr.cell? ⟨gb303, 1, none⟩ = some (.slice A0_1 l0_1.length c0_1) := (bkC BK303.out 1).trans rfl
      have hcz16_2 : wr.cell? ⟨gb303, 2, none⟩ = some (.slice A0_2 l0_2.length c0_2) := (bkC BK303.out 2).trans rfl
      have hcz16_3 : wr.cell? ⟨gb303, 3, none⟩ = some (.slice A0_3 l0_3.length c0_3) := (bkC BK303.out 3).trans rfl
      have hcz16_4 : wr.cell? ⟨gb303, 4, none⟩ = some (.slice A0_4 l0_4.length c0_4) := (bkC BK303.out 4).trans rfl
      have hcz16_5 : wr.cell? ⟨gb303, 5, none⟩ = some (.int .u64 a0_5) := (bkC BK303.out 5).trans rfl
      have hfz16_0 := bkF BK303.out 0
      have hfz16_1 := bkF BK303.out 1
      have hfz16_2 := bkF BK303.out 2
      have hfz16_3 := bkF BK303.out 3
      have hfz16_4 := bkF BK303.out 4
      have hfz16_5 := bkF BK303.out 5
      go_wp2_with (first | ((with_reducible refine gate_builtin (b := .append) (xs := #[.tmp 37, .tmp 39]) rfl ?_); at_builtin; refine Kd.R_append_rows (Kd.int .i64) (w0 := w) w.heap.size rfl (.tmp 37) (.tmp 39) 24 3 (.int .i64 0) 8 rfl Tryd.underlying24 info3 rfl (by decide) (by omega) u5 x5_1 l0_2 _ _ _ (fun _ => True) (fun _ => False) rfl rfl ?aO ?aR (fun _ _ h => h) (fun _ h => h.elim) ?aF ?aB ?aS ?aL ?_; (case aR => repeat (first | exact (Kd.C_below HR0_2.out HB.out) | (with_reducible refine Kd.C_alloc ?_ _) | (with_reducible refine Kd.C_drewN ?_ _) | (with_reducible refine Kd.C_drew ?_))); (case aB => exact (by repeat (first | (with_reducible first | exact HB.out | apply below_alloc | apply pw_below_drewN | apply below_drew1 | refine below_set ?_ GE303.out) | exact HB.out))); (case aF => exact (fun _ _ => trivial)); (case aO => exact (by (with_reducible repeat (first | apply Kd.R_alloc | apply Kd.R_drewN | apply Kd.R_drew)); exact HO_5.out)); (case aS => exact (below_size (by repeat (first | (with_reducible first | exact HB.out | apply below_alloc | apply pw_below_drewN | apply below_drew1 | refine below_set ?_ GE303.out) | exact HB.out)))); (case aL => have := LMc14.out; omega); intro v311 w17 ho hb hg hat; rw [<- Ny310.out] at ho; have n0_ := Aside0.mk (blk_grown (g := gb303) (o := .cells #[.slice A0_0 l0_0.length c0_0, .slice A0_1 l0_1.length c0_1, .slice A0_2 l0_2.length c0_2, .slice A0_3 l0_3.length c0_3, .slice A0_4 l0_4.length c0_4, .int .u64 a0_5] 27 (0, 0)) (by (with_reducible repeat (first | refine blk_drewN ?_ _ | refine blk_drew ?_ | refine blk_alloc ?_ _)); exact BK303.out) hg (Kd.R_ne HO_5.out BK303.out (by decide))); have n1_ := Aside0.mk (hb); have n2_ := Aside0.mk (ho); clear BK303; clear HB; clear HO_5; have BK303 := n0_; have HB := n1_; have HO312 := n2_; clear n0_ n1_ n2_; clear ho hb hg hat; have hcz18_0 : w17.cell? ⟨gb303, 0, none⟩ = some (.slice A0_0 l0_0.length c0_0) := (bkC BK303.out 0).trans rfl; have hcz18_1 : w17.cell? ⟨gb303, 1, none⟩ = some (.slice A0_1 l0_1.length c0_1) := (bkC BK303.out 1).trans rfl; have hcz18_2 : w17.cell? ⟨gb303, 2, none⟩ = some (.slice A0_2 l0_2.length c0_2) := (bkC BK303.out 2).trans rfl; have hcz18_3 : w17.cell? ⟨gb303, 3, none⟩ = some (.slice A0_3 l0_3.length c0_3) := (bkC BK303.out 3).trans rfl; have hcz18_4 : w17.cell? ⟨gb303, 4, none⟩ = some (.slice A0_4 l0_4.length c0_4) := (bkC BK303.out 4).trans rfl; have hcz18_5 : w17.cell? ⟨gb303, 5, none⟩ = some (.int .u64 a0_5) := (bkC BK303.out 5).trans rfl; have hfz18_0 := bkF BK303.out 0; have hfz18_1 := bkF BK303.out 1; have hfz18_2 := bkF BK303.out 2; have hfz18_3 := bkF BK303.out 3; have hfz18_4 := bkF BK303.out 4; have hfz18_5 := bkF BK303.out 5) | ((with_reducible refine gate_builtin (b := .append) (xs := #[.tmp 41, .tmp 43]) rfl ?_); at_builtin; refine Kd.R_append_rows (Kd.int .i64) (w0 := w) w.heap.size rfl (.tmp 41) (.tmp 43) 24 3 (.int .i64 0) 8 rfl Tryd.underlying24 info3 rfl (by decide) (by omega) v311 y310 l0_4 _ _ _ (fun _ => True) (fun _ => False) rfl rfl ?aO ?aR (fun _ _ h => h) (fun _ h => h.elim) ?aF ?aB ?aS ?aL ?_; (case aR => repeat (first | exact (Kd.C_below HR0_4.out HB.out) | (with_reducible refine Kd.C_alloc ?_ _) | (with_reducible refine Kd.C_drewN ?_ _) | (with_reducible refine Kd.C_drew ?_))); (case aB => exact (by repeat (first | (with_reducible first | exact HB.out | apply below_alloc | apply pw_below_drewN | apply below_drew1 | refine below_set ?_ GE303.out) | exact HB.out))); (case aF => exact (fun _ _ => trivial)); (case aO => exact (by (with_reducible repeat (first | apply Kd.R_alloc | apply Kd.R_drewN | apply Kd.R_drew)); exact HO312.out)); (case aS => exact (below_size (by repeat (first | (with_reducible first | exact HB.out | apply below_alloc | apply pw_below_drewN | apply below_drew1 | refine below_set ?_ GE303.out) | exact HB.out)))); (case aL => have := LMc15.out; omega); intro v314 w19 ho hb hg hat; rw [<- Ny313.out] at ho; have n0_ := Aside0.mk (blk_grown (g := gb303) (o := .cells #[.slice A0_0 l0_0.length c0_0, .slice A0_1 l0_1.length c0_1, .slice A0_2 l0_2.length c0_2, .slice A0_3 l0_3.length c0_3, .slice A0_4 l0_4.length c0_4, .int .u64 a0_5] 27 (0, 0)) (by (with_reducible repeat (first | refine blk_drewN ?_ _ | refine blk_drew ?_ | refine blk_alloc ?_ _)); exact BK303.out) hg (Kd.R_ne HO312.out BK303.out (by decide))); have n1_ := Aside0.mk (hb); have n2_ := Aside0.mk (ho); clear BK303; clear HB; clear HO312; have BK303 := n0_; have HB := n1_; have HO315 := n2_; clear n0_ n1_ n2_; clear ho hb hg hat))
      go_loopg [8, 9] k1 (fun kq v8 v9 w' => ∃ (x8_2 : List Int) (x9_2 : Int), v9 = .int .i64 x9_2 /\ Aside0 (middenref17_roots.l2 kq a1 y313 x8_2 x9_2 = some r) /\ Aside0 (kq <= k1) /\ Aside0 (Kd.R (Kd.int .i64) 3 w' w.heap.size (fun k_ => some k_ ≠ (v8 : Value).ownBlock) v314 y313) /\ Aside0 (Kd.R (Kd.int .i64) 3 w' w.heap.size (fun k_ => some k_ ≠ (v314 : Value).ownBlock) v8 x8_2) /\ Aside0 (w'.heap[gb303]? = some (.cells #[(.slice A0_0 l0_0.length c0_0), (.slice A0_1 l0_1.length c0_1), (.slice A0_2 l0_2.length c0_2), (.slice A0_3 l0_3.length c0_3), (.slice A0_4 l0_4.length c0_4), .int .u64 a0_5] 27 (0, 0))) /\ Aside0 (Below w.heap.size w w'))
      case atStart => exact ⟨(([] : List Int)), (0), (by first | rfl | (simp; done) | (simp [*]; done)), H', ⟨Nat.le_refl _⟩, ⟨by (with_reducible repeat (first | apply Kd.R_alloc | apply Kd.R_drewN | apply Kd.R_drew)); exact Kd.R_mono HO315.out (fun _ hk => (by simp [Value.ownBlock]))⟩, ⟨by first | exact Kd.R_nil _ _ _ _ _ | exact Kd.N_nil _ _ _ _ _ | exact Kd.V_nil _ _ _ _ _ | exact Kd.Q_nil _ _ _ _ _ | exact Kd.S_nil _ _ _ _ _⟩, ⟨by (with_reducible repeat (first | refine blk_drewN ?_ _ | refine blk_drew ?_ | refine blk_alloc ?_ _)); exact BK303.out⟩, ⟨by repeat (first | (with_reducible first | exact HB.out | apply below_alloc | apply pw_below_drewN | apply below_drew1 | refine below_set ?_ GE303.out) | exact HB.out)⟩⟩
      case round =>
       clear H'
       try clear c1;try clear p2;try clear c3;try clear p3;try clear q3;try clear hx3;try clear c4;try clear c4b0;try clear c6;try clear c6b0;try clear p6;try clear c7;try clear c7b0;try clear c8;try clear c8b0;try clear c9;try clear c9b0;try clear c10;try clear c14;try clear c15;try clear hcz11_0;try clear hcz11_1;try clear hcz11_2;try clear hcz11_3;try clear hcz11_4;try clear hcz11_5;try clear hcz13_0;try clear hcz13_1;try clear hcz13_2;try clear hcz13_3;try clear hcz13_4;try clear hcz13_5;try clear hcz16_0;try clear hcz16_1;try clear hcz16_2;try clear hcz16_3;try clear hcz16_4;try clear hcz16_5;try clear hcz18_0;try clear hcz18_1;try clear hcz18_2;try clear hcz18_3;try clear hcz18_4;try clear hcz18_5;try clear hcz5_0;try clear hcz5_1;try clear hcz5_2;try clear hcz5_3;try clear hcz5_4;try clear hcz5_5;try clear hfz11_0;try clear hfz11_1;try clear hfz11_2;try clear hfz11_3;try clear hfz11_4;try clear hfz11_5;try clear hfz13_0;try clear hfz13_1;try clear hfz13_2;try clear hfz13_3;try clear hfz13_4;try clear hfz13_5;try clear hfz16_0;try clear hfz16_1;try clear hfz16_2;try clear hfz16_3;try clear hfz16_4;try clear hfz16_5;try clear hfz18_0;try clear hfz18_1;try clear hfz18_2;try clear hfz18_3;try clear hfz18_4;try clear hfz18_5;try clear hfz5_0;try clear hfz5_1;try clear hfz5_2;try clear hfz5_3;try clear hfz5_4;try clear hfz5_5;try clear hx304_0;try clear hx305_0;try clear hx306_0;try clear p2;try clear p304;try clear p305;try clear p306;try clear q304;try clear q305;try clear q306
       obtain ⟨x8_2, x9_2, rfl, HA, HK2, HO_5, HO_8, BK303, HB⟩ := hrel
       cases gk with
       | zero => exact absurd HA.out (by simp [middenref17_roots.l2])
       | succ k2 =>
        have H := HA.out
        clear HA
        simp only [middenref17_roots.l2] at H
        by_cases c20 : x9_2 < (y313.length : Int)
        ·rw [if_pos c20] at H
         have c20b0 : decide (x9_2 < (y313.length : Int)) = true := decide_eq_true c20
         clear c20
         by_cases c21 : 0 <= x9_2
         ·rw [if_pos c21] at H
          have c21b0 : decide (0 <= x9_2) = true := decide_eq_true c21
          clear c21
          by_cases c22 : (rd y313 x9_2) > 0
          ·rw [if_pos c22] at H
           have c22b0 : decide (0 < (rd y313 x9_2)) = true := decide_eq_true c22
           clear c22
           by_cases c23 : (rd y313 x9_2) = a1
           ·rw [if_pos c23] at H
            have c23b0 : ((rd y313 x9_2) == a1) = true := beq_iff_eq.mpr c23
            have c23b1 : ((rd y313 x9_2) != a1) = false := bne_eq_false_iff_eq.mpr c23
            clear c23
            have H' := Aside0.mk H
            clear H
            obtain ⟨Ao24, co24, eo24⟩ := Kd.R_slice HO_5.out
            subst eo24
            have p316 : 0 <= (x9_2 : Int) := of_decide_eq_true (by first | (with_reducible assumption) | assumption)
            have q316 : x9_2 < (y313.length : Int) := of_decide_eq_true (by first | (with_reducible assumption) | assumption)
            obtain ⟨ad316, e316, hx316_0⟩ := Kd.at_int (Kd.R_reads' HO_5.out).2.2 x9_2 p316 q316
            cases e316
            replace p316 := eq_true p316
            replace q316 := eq_true q316
            have p317 : 0 <= (x9_2 : Int) := of_decide_eq_true (by first | (with_reducible assumption) | assumption)
            have q317 : x9_2 < (y313.length : Int) := of_decide_eq_true (by first | (with_reducible assumption) | assumption)
            obtain ⟨ad317, e317, hx317_0⟩ := Kd.at_int (Kd.R_reads' HO_5.out).2.2 x9_2 p317 q317
            obtain rfl : ad316 = ad317 := (by injection e317)
            replace p317 := eq_true p317
            replace q317 := eq_true q317
            go_wp2
            go_roundg k2
            case measure => have := HK1.out; have := HK2.out; omega
            case rel => exact ⟨(x8_2), (wrap64 (x9_2 + 1)), (by first | rfl | (simp; done) | (simp [*]; done)), H', ⟨by have := HK1.out; have := HK2.out; omega⟩, ⟨by (with_reducible repeat (first | apply Kd.R_alloc | apply Kd.R_drewN | apply Kd.R_drew)); exact HO_5.out⟩, ⟨by (with_reducible repeat (first | apply Kd.R_alloc | apply Kd.R_drewN | apply Kd.R_drew)); exact HO_8.out⟩, ⟨by (with_reducible repeat (first | refine blk_drewN ?_ _ | refine blk_drew ?_ | refine blk_alloc ?_ _)); exact BK303.out⟩, ⟨by repeat (first | (with_reducible first | exact HB.out | apply below_alloc | apply pw_below_drewN | apply below_drew1 | refine below_set ?_ GE303.out) | exact HB.out)⟩⟩
           ·rw [if_neg c23] at H
            have c23b0 : ((rd y313 x9_2) == a1) = false := beq_eq_false_iff_ne.mpr c23
            have c23b1 : ((rd y313 x9_2) != a1) = true := bne_iff_ne.mpr c23
            by_cases c25 : x8_2.length < 17592186044416
            ·rw [if_pos c25] at H
             have LMc25 := Aside0.mk c25
             clear c25
             obtain ⟨y319, hy319⟩ : ∃ y_ : List Int, y_ = (x8_2 ++ [rd y313 x9_2]) := ⟨_, rfl⟩
             replace H : (middenref17_roots.l2 k2 a1 y313 y319 (wrap64 (x9_2 + 1))) = some r := by first | (rw [hy319]; with_reducible exact H) | (have H2_ := (Option.bind_some _ _).symm.trans H; rw [hy319]; with_reducible exact H2_) | (have H2_ := (Option.bind_some _ _).symm.trans H; with_reducible exact H2_) | with_reducible exact H | (rw [hy319]; exact H) | exact H
             have Ny319 := Aside0.mk hy319
             clear hy319
             have H' := Aside0.mk H
             clear H
             obtain ⟨Ao26, co26, eo26⟩ := Kd.R_slice HO_5.out
             subst eo26
             have p316 : 0 <= (x9_2 : Int) := of_decide_eq_true (by first | (with_reducible assumption) | assumption)
             have q316 : x9_2 < (y313.length : Int) := of_decide_eq_true (by first | (with_reducible assumption) | assumption)
             obtain ⟨ad316, e316, hx316_0⟩ := Kd.at_int (Kd.R_reads' HO_5.out).2.2 x9_2 p316 q316
             cases e316
             replace p316 := eq_true p316
             replace q316 := eq_true q316
             have p317 : 0 <= (x9_2 : Int) := of_decide_eq_true (by first | (with_reducible assumption) | assumption)
             have q317 : x9_2 < (y313.length : Int) := of_decide_eq_true (by first | (with_reducible assumption) | assumption)
             obtain ⟨ad317, e317, hx317_0⟩ := Kd.at_int (Kd.R_reads' HO_5.out).2.2 x9_2 p317 q317
             obtain rfl : ad316 = ad317 := (by injection e317)
             replace p317 := eq_true p317
             replace q317 := eq_true q317
             have p318 : 0 <= (x9_2 : Int) := of_decide_eq_true (by first | (with_reducible assumption) | assumption)
             have q318 : x9_2 < (y313.length : Int) := of_decide_eq_true (by first | (with_reducible assumption) | assumption)
             obtain ⟨ad318, e318, hx318_0⟩ := Kd.at_int (Kd.R_reads' HO_5.out).2.2 x9_2 p318 q318
             obtain rfl : ad316 = ad318 := (by injection e318)
             replace p318 := eq_true p318
             replace q318 := eq_true q318
             go_wp2_with (first | ((with_reducible refine gate_builtin (b := .append) (xs := #[.tmp 64, .tmp 69]) rfl ?_); at_builtin; refine Kd.R_append (Kd.int .i64) (w0 := w) w.heap.size rfl (.tmp 64) (.tmp 69) 24 3 (.int .i64 0) 8 rfl Tryd.underlying24 info3 rfl (by decide) (by omega) u8 x8_2 (rd y313 x9_2) [.int .i64 (rd y313 x9_2)] (fun k_ => some k_ ≠ (.slice (some ad316) y313.length co26 : Value).ownBlock) (fun _ => False) rfl rfl ?aP (fun _ hk => hk.elim) ?aF ?aO ?aB ?aS ?aL ?_; (case aP => exact rfl); (case aB => exact (by repeat (first | (with_reducible first | exact HB.out | apply below_alloc | apply pw_below_drewN | apply below_drew1 | refine below_set ?_ GE303.out) | exact HB.out))); (case aF => exact (fun k_ hk => Kd.fresh' (Kd.R_lt (by (with_reducible repeat (first | apply Kd.R_alloc | apply Kd.R_drewN | apply Kd.R_drew)); exact HO_5.out)) k_ hk)); (case aO => exact (by (with_reducible repeat (first | apply Kd.R_alloc | apply Kd.R_drewN | apply Kd.R_drew)); exact HO_8.out)); (case aS => exact (below_size (by repeat (first | (with_reducible first | exact HB.out | apply below_alloc | apply pw_below_drewN | apply below_drew1 | refine below_set ?_ GE303.out) | exact HB.out)))); (case aL => have := LMc25.out; omega); intro v320 w27 ho hb hg hat; rw [<- Ny319.out] at ho; have n0_ := Aside0.mk (Kd.R_after (ok := (fun _ => True)) (by (with_reducible repeat (first | apply Kd.R_alloc | apply Kd.R_drewN | apply Kd.R_drew)); exact Kd.R_mono HO_5.out (fun _ hk => ⟨trivial, hk⟩)) hg hat); have n1_ := Aside0.mk (blk_grown (g := gb303) (o := .cells #[.slice A0_0 l0_0.length c0_0, .slice A0_1 l0_1.length c0_1, .slice A0_2 l0_2.length c0_2, .slice A0_3 l0_3.length c0_3, .slice A0_4 l0_4.length c0_4, .int .u64 a0_5] 27 (0, 0)) (by (with_reducible repeat (first | refine blk_drewN ?_ _ | refine blk_drew ?_ | refine blk_alloc ?_ _)); exact BK303.out) hg (Kd.R_ne HO_8.out BK303.out (by decide))); have n2_ := Aside0.mk (hb); have n3_ := Aside0.mk (ho); clear HO_5; clear BK303; clear HB; clear HO_8; have HO_5 := n0_; have BK303 := n1_; have HB := n2_; have HO321 := n3_; clear n0_ n1_ n2_ n3_; clear ho hb hg hat))
             go_roundg k2
             case measure => have := HK1.out; have := HK2.out; omega
             case rel => exact ⟨(y319), (wrap64 (x9_2 + 1)), (by first | rfl | (simp; done) | (simp [*]; done)), H', ⟨by have := HK1.out; have := HK2.out; omega⟩, ⟨by (with_reducible repeat (first | apply Kd.R_alloc | apply Kd.R_drewN | apply Kd.R_drew)); exact Kd.R_mono HO_5.out (fun _ hk => hk.2)⟩, ⟨by (with_reducible repeat (first | apply Kd.R_alloc | apply Kd.R_drewN | apply Kd.R_drew)); exact HO321.out⟩, ⟨by (with_reducible repeat (first | refine blk_drewN ?_ _ | refine blk_drew ?_ | refine blk_alloc ?_ _)); exact BK303.out⟩, ⟨by repeat (first | (with_reducible first | exact HB.out | apply below_alloc | apply pw_below_drewN | apply below_drew1 | refine below_set ?_ GE303.out) | exact HB.out)⟩⟩
            ·rw [if_neg c25] at H
             exact absurd H (by simp)
          ·rw [if_neg c22] at H
           have c22b0 : decide (0 < (rd y313 x9_2)) = false := decide_eq_false c22
           clear c22
           have H' := Aside0.mk H
           clear H
           obtain ⟨Ao28, co28, eo28⟩ := Kd.R_slice HO_5.out
           subst eo28
           have p316 : 0 <= (x9_2 : Int) := of_decide_eq_true (by first | (with_reducible assumption) | assumption)
           have q316 : x9_2 < (y313.length : Int) := of_decide_eq_true (by first | (with_reducible assumption) | assumption)
           obtain ⟨ad316, e316, hx316_0⟩ := Kd.at_int (Kd.R_reads' HO_5.out).2.2 x9_2 p316 q316
           cases e316
           replace p316 := eq_true p316
           replace q316 := eq_true q316
           go_wp2
           go_roundg k2
           case measure => have := HK1.out; have := HK2.out; omega
           case rel => exact ⟨(x8_2), (wrap64 (x9_2 + 1)), (by first | rfl | (simp; done) | (simp [*]; done)), H', ⟨by have := HK1.out; have := HK2.out; omega⟩, ⟨by (with_reducible repeat (first | apply Kd.R_alloc | apply Kd.R_drewN | apply Kd.R_drew)); exact HO_5.out⟩, ⟨by (with_reducible repeat (first | apply Kd.R_alloc | apply Kd.R_drewN | apply Kd.R_drew)); exact HO_8.out⟩, ⟨by (with_reducible repeat (first | refine blk_drewN ?_ _ | refine blk_drew ?_ | refine blk_alloc ?_ _)); exact BK303.out⟩, ⟨by repeat (first | (with_reducible first | exact HB.out | apply below_alloc | apply pw_below_drewN | apply below_drew1 | refine below_set ?_ GE303.out) | exact HB.out)⟩⟩
         ·rw [if_neg c21] at H
          exact absurd H (by simp)
        ·rw [if_neg c20] at H
         have c20b0 : decide (x9_2 < (y313.length : Int)) = false := decide_eq_false c20
         clear c20
         obtain rfl := Option.some.inj H
         obtain ⟨Ao29, co29, eo29⟩ := Kd.R_slice HO_5.out
         subst eo29
         go_wp2
         go_ret
         exact ⟨_, by first | rfl | (simp [errW_none, errW_some] <;> rfl) | (simp [*, errW_none, errW_some] <;> rfl), by (with_reducible repeat (first | apply Kd.R_alloc | apply Kd.R_drewN | apply Kd.R_drew)); exact Kd.R_mono HO_8.out (fun _ hk => trivial), by repeat (first | (with_reducible first | exact HB.out | apply below_alloc | apply pw_below_drewN | apply below_drew1 | refine below_set ?_ GE303.out) | exact HB.out)⟩
     ·rw [if_neg c15] at H
      exact absurd H (by simp)
    ·rw [if_neg c14] at H
     exact absurd H (by simp)
end Go.Proofs.YtogpgkoelplknaaDoor.PLensPaths
