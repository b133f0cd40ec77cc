import Derived.Test.YtogpgkoelplknaaDoorPLensPathsx0
namespace Go.Proofs.YtogpgkoelplknaaDoor.PLensPaths
open Go.RowKit Go.Proofs.YtogpgkoelplknaaDoorW.PrintWords Go.Proofs.YtogpgkoelplknaaDoorW.PrintLast Go.Proofs.YtogpgkoelplknaaDoorW.PrintMore
attribute [local go_sem] max2_int min2_int max_two min_two max_three min_three max_four min_four
set_option linter.unusedVariables false
set_option linter.unusedSimpArgs false
mutual
def middenref2_Check.j0 : Nat -> Bool -> Int -> Int -> Int -> Int -> Int -> Int -> Bool -> Option (Int)
 | 0, _, _, _, _, _, _, _, _ => none
 | k + 1, x3, x229000, x229001, x229002, x229003, x229004, x229005, x229006 => if x3 = true then (some 20) else (if x229002 < 0 then (middenref2_Check.j1 k true x229000 x229001 x229002 x229003 x229004 x229005 x229006) else (middenref2_Check.j1 k (decide (x229002 > 4095)) x229000 x229001 x229002 x229003 x229004 x229005 x229006))
def middenref2_Check.j1 : Nat -> Bool -> Int -> Int -> Int -> Int -> Int -> Int -> Bool -> Option (Int)
 | 0, _, _, _, _, _, _, _, _ => none
 | k + 1, x32, x229000, x229001, x229002, x229003, x229004, x229005, x229006 => if x32 = true then (some 21) else (if x229003 < 0 then (middenref2_Check.j2 k true x229000 x229001 x229002 x229003 x229004 x229005 x229006) else (middenref2_Check.j2 k (decide (x229003 > 65535)) x229000 x229001 x229002 x229003 x229004 x229005 x229006))
def middenref2_Check.j2 : Nat -> Bool -> Int -> Int -> Int -> Int -> Int -> Int -> Bool -> Option (Int)
 | 0, _, _, _, _, _, _, _, _ => none
 | k + 1, x41, x229000, x229001, x229002, x229003, x229004, x229005, x229006 => if x41 = true then (some 22) else (if x229004 < 0 then (middenref2_Check.j3 k true x229000 x229001 x229002 x229003 x229004 x229005 x229006) else (middenref2_Check.j3 k (decide (x229004 > 15)) x229000 x229001 x229002 x229003 x229004 x229005 x229006))
def middenref2_Check.j3 : Nat -> Bool -> Int -> Int -> Int -> Int -> Int -> Int -> Bool -> Option (Int)
 | 0, _, _, _, _, _, _, _, _ => none
 | k + 1, x50, x229000, x229001, x229002, x229003, x229004, x229005, x229006 => if x50 = true then (some 23) else (if x229005 < 0 then (some 24) else (if x229005 > 255 then (some 24) else (some 0)))
end
def middenref2_Check.f (k : Nat) (a0_0 : Int) (a0_1 : Int) (a0_2 : Int) (a0_3 : Int) (a0_4 : Int) (a0_5 : Int) (a0_6 : Bool) : Option (Int) := if a0_1 < 1 then (middenref2_Check.j0 k true a0_0 a0_1 a0_2 a0_3 a0_4 a0_5 a0_6) else (if a0_1 > 4 then (middenref2_Check.j0 k true a0_0 a0_1 a0_2 a0_3 a0_4 a0_5 a0_6) else (if a0_1 = 2 then (if a0_2 < 1 then (middenref2_Check.j0 k true a0_0 a0_1 a0_2 a0_3 a0_4 a0_5 a0_6) else (if a0_1 = 3 then (middenref2_Check.j0 k (decide (a0_2 < 2)) a0_0 a0_1 a0_2 a0_3 a0_4 a0_5 a0_6) else (middenref2_Check.j0 k false a0_0 a0_1 a0_2 a0_3 a0_4 a0_5 a0_6))) else (if a0_1 = 3 then (middenref2_Check.j0 k (decide (a0_2 < 2)) a0_0 a0_1 a0_2 a0_3 a0_4 a0_5 a0_6) else (middenref2_Check.j0 k false a0_0 a0_1 a0_2 a0_3 a0_4 a0_5 a0_6))))
theorem middenref2_Check.mono_l : ∀ k, (∀ y0 y1 y2 y3 y4 y5 y6 y7, LeO (middenref2_Check.j0 k y0 y1 y2 y3 y4 y5 y6 y7) (middenref2_Check.j0 (k + 1) y0 y1 y2 y3 y4 y5 y6 y7)) /\ (∀ y0 y1 y2 y3 y4 y5 y6 y7, LeO (middenref2_Check.j1 k y0 y1 y2 y3 y4 y5 y6 y7) (middenref2_Check.j1 (k + 1) y0 y1 y2 y3 y4 y5 y6 y7)) /\ (∀ y0 y1 y2 y3 y4 y5 y6 y7, LeO (middenref2_Check.j2 k y0 y1 y2 y3 y4 y5 y6 y7) (middenref2_Check.j2 (k + 1) y0 y1 y2 y3 y4 y5 y6 y7)) /\ (∀ y0 y1 y2 y3 y4 y5 y6 y7, LeO (middenref2_Check.j3 k y0 y1 y2 y3 y4 y5 y6 y7) (middenref2_Check.j3 (k + 1) y0 y1 y2 y3 y4 y5 y6 y7))
 | 0 => ⟨fun _ _ _ _ _ _ _ _ r h => by simp [middenref2_Check.j0] at h, fun _ _ _ _ _ _ _ _ r h => by simp [middenref2_Check.j1] at h, fun _ _ _ _ _ _ _ _ r h => by simp [middenref2_Check.j2] at h, fun _ _ _ _ _ _ _ _ r h => by simp [middenref2_Check.j3] at h⟩
 | k + 1 => by
  obtain ⟨ih0, ih1, ih2, ih3⟩ := middenref2_Check.mono_l k
  refine ⟨?_, ?_, ?_, ?_⟩
  ·intro y0 y1 y2 y3 y4 y5 y6 y7
   unfold middenref2_Check.j0
   repeat' first
   | (with_reducible first | exact ih0 _ _ _ _ _ _ _ _ | exact ih1 _ _ _ _ _ _ _ _ | exact ih2 _ _ _ _ _ _ _ _ | exact ih3 _ _ _ _ _ _ _ _ | exact LeO.refl _ | exact LeO.none _ | refine LeO.ite ?_ ?_ | refine LeO.bind ?_ (fun _ => ?_))
   | exact ih0 _ _ _ _ _ _ _ _
   | exact ih1 _ _ _ _ _ _ _ _
   | exact ih2 _ _ _ _ _ _ _ _
   | exact ih3 _ _ _ _ _ _ _ _
   | exact LeO.none _
   | refine LeO.ite ?_ ?_
   | refine LeO.bind ?_ (fun _ => ?_)
  ·intro y0 y1 y2 y3 y4 y5 y6 y7
   unfold middenref2_Check.j1
   repeat' first
   | (with_reducible first | exact ih0 _ _ _ _ _ _ _ _ | exact ih1 _ _ _ _ _ _ _ _ | exact ih2 _ _ _ _ _ _ _ _ | exact ih3 _ _ _ _ _ _ _ _ | exact LeO.refl _ | exact LeO.none _ | refine LeO.ite ?_ ?_ | refine LeO.bind ?_ (fun _ => ?_))
   | exact ih0 _ _ _ _ _ _ _ _
   | exact ih1 _ _ _ _ _ _ _ _
   | exact ih2 _ _ _ _ _ _ _ _
   | exact ih3 _ _ _ _ _ _ _ _
   | exact LeO.none _
   | refine LeO.ite ?_ ?_
   | refine LeO.bind ?_ (fun _ => ?_)
  ·intro y0 y1 y2 y3 y4 y5 y6 y7
   unfold middenref2_Check.j2
   repeat' first
   | (with_reducible first | exact ih0 _ _ _ _ _ _ _ _ | exact ih1 _ _ _ _ _ _ _ _ | exact ih2 _ _ _ _ _ _ _ _ | exact ih3 _ _ _ _ _ _ _ _ | exact LeO.refl _ | exact LeO.none _ | refine LeO.ite ?_ ?_ | refine LeO.bind ?_ (fun _ => ?_))
   | exact ih0 _ _ _ _ _ _ _ _
   | exact ih1 _ _ _ _ _ _ _ _
   | exact ih2 _ _ _ _ _ _ _ _
   | exact ih3 _ _ _ _ _ _ _ _
   | exact LeO.none _
   | refine LeO.ite ?_ ?_
   | refine LeO.bind ?_ (fun _ => ?_)
  ·intro y0 y1 y2 y3 y4 y5 y6 y7
   unfold middenref2_Check.j3
   repeat' first
   | (with_reducible first | exact ih0 _ _ _ _ _ _ _ _ | exact ih1 _ _ _ _ _ _ _ _ | exact ih2 _ _ _ _ _ _ _ _ | exact ih3 _ _ _ _ _ _ _ _ | exact LeO.refl _ | exact LeO.none _ | refine LeO.ite ?_ ?_ | refine LeO.bind ?_ (fun _ => ?_))
   | exact ih0 _ _ _ _ _ _ _ _
   | exact ih1 _ _ _ _ _ _ _ _
   | exact ih2 _ _ _ _ _ _ _ _
   | exact ih3 _ _ _ _ _ _ _ _
   | exact LeO.none _
   | refine LeO.ite ?_ ?_
   | refine LeO.bind ?_ (fun _ => ?_)
theorem middenref2_Check.mono : ∀ a0 a1 a2 a3 a4 a5 a6 k, LeO (middenref2_Check.f k a0 a1 a2 a3 a4 a5 a6) (middenref2_Check.f (k + 1) a0 a1 a2 a3 a4 a5 a6) := by
 intro a0 a1 a2 a3 a4 a5 a6 k
 obtain ⟨ih0, ih1, ih2, ih3⟩ := middenref2_Check.mono_l k
 unfold middenref2_Check.f
 repeat' first
   | (with_reducible first | exact ih0 _ _ _ _ _ _ _ _ | exact ih1 _ _ _ _ _ _ _ _ | exact ih2 _ _ _ _ _ _ _ _ | exact ih3 _ _ _ _ _ _ _ _ | exact LeO.refl _ | exact LeO.none _ | refine LeO.ite ?_ ?_ | refine LeO.bind ?_ (fun _ => ?_))
   | exact ih0 _ _ _ _ _ _ _ _
   | exact ih1 _ _ _ _ _ _ _ _
   | exact ih2 _ _ _ _ _ _ _ _
   | exact ih3 _ _ _ _ _ _ _ _
   | exact LeO.none _
   | refine LeO.ite ?_ ?_
   | refine LeO.bind ?_ (fun _ => ?_)
set_option maxHeartbeats 8000000 in
set_option maxRecDepth 100000 in
theorem middenref2_Check.calls (k : Nat) (a0_0 : Int) (a0_1 : Int) (a0_2 : Int) (a0_3 : Int) (a0_4 : Int) (a0_5 : Int) (a0_6 : Bool) (r : Int) (w : World) (h : middenref2_Check.f k a0_0 a0_1 a0_2 a0_3 a0_4 a0_5 a0_6 = some r) :
  Calls Tryd.prog 132 #[.agg #[.int .u64 a0_0, .int .i64 a0_1, .int .i64 a0_2, .int .i64 a0_3, .int .i64 a0_4, .int .i64 a0_5, .bool a0_6]] w fun e w' => e = .returned (.int .i64 r) /\ Below w.heap.size w w' := by
 have hu148 := Tryd.underlying148
 have HB := Aside0.mk (Below.refl w.heap.size w)
 have H : (if a0_1 < 1 then (middenref2_Check.j0 k true a0_0 a0_1 a0_2 a0_3 a0_4 a0_5 a0_6) else (if a0_1 > 4 then (middenref2_Check.j0 k true a0_0 a0_1 a0_2 a0_3 a0_4 a0_5 a0_6) else (if a0_1 = 2 then (if a0_2 < 1 then (middenref2_Check.j0 k true a0_0 a0_1 a0_2 a0_3 a0_4 a0_5 a0_6) else (if a0_1 = 3 then (middenref2_Check.j0 k (decide (a0_2 < 2)) a0_0 a0_1 a0_2 a0_3 a0_4 a0_5 a0_6) else (middenref2_Check.j0 k false a0_0 a0_1 a0_2 a0_3 a0_4 a0_5 a0_6))) else (if a0_1 = 3 then (middenref2_Check.j0 k (decide (a0_2 < 2)) a0_0 a0_1 a0_2 a0_3 a0_4 a0_5 a0_6) else (middenref2_Check.j0 k false a0_0 a0_1 a0_2 a0_3 a0_4 a0_5 a0_6))))) = some r := h
 clear h
 have HC2 := Aside0.mk H
 clear H
 go_enter Tryd.func132, Tryd.ntmps132
 go_upto_region 1 with (first | ((with_reducible refine gate_dst (N := 1) rfl ?_); refine box_event ?hg (N := 1) ?hd (cs := #[.int .u64 a0_0, .int .i64 a0_1, .int .i64 a0_2, .int .i64 a0_3, .int .i64 a0_4, .int .i64 a0_5, .bool a0_6]) (t := 148) ?hr ?_; (case hd => rfl); (case hg => rfl); (case hr => first | (go_simp; done) | (go_simp; rfl)); intro gb228 hg w3 hbox hb; have n0_ := Aside0.mk (below_step (by repeat (first | (with_reducible first | exact HB.out | apply below_alloc | apply pw_below_drewN | apply below_drew1) | exact HB.out)) hb); have n1_ := Aside0.mk (hbox); have n2_ := Aside0.mk ((by rw [hg]; exact (below_size (by repeat (first | (with_reducible first | exact HB.out | apply below_alloc | apply pw_below_drewN | apply below_drew1) | exact HB.out))) : w.heap.size <= gb228)); have n3_ := Aside0.mk ((by rw [hg]; exact (below_size (by repeat (first | (with_reducible first | exact HB.out | apply below_alloc | apply pw_below_drewN | apply below_drew1) | exact HB.out))) : w.heap.size <= gb228)); clear HB; have HB := n0_; have BK228 := n1_; have GW228 := n2_; have GE228 := n3_; clear n0_ n1_ n2_ n3_; clear hb hbox hg))
 (try simp only [Act.put, List.setIfInBounds_toArray, List.set_cons_zero, List.set_cons_succ])
 go_cut [3] (fun v3 wc => ∃ (kq : Nat) (x3_1 : Bool), v3 = .bool x3_1 /\ Aside0 (middenref2_Check.j0 kq x3_1 a0_0 a0_1 a0_2 a0_3 a0_4 a0_5 a0_6 = some r) /\ Aside0 (kq <= k) /\ Aside0 (wc.heap[gb228]? = some (.cells #[.int .u64 a0_0, .int .i64 a0_1, .int .i64 a0_2, .int .i64 a0_3, .int .i64 a0_4, .int .i64 a0_5, .bool a0_6] 148 (0, 0))) /\ Aside0 (Below w.heap.size w wc))
 case first =>
  have H := HC2.out
  clear HC2
  by_cases c4 : a0_1 < 1
  ·rw [if_pos c4] at H
   have c4b0 : decide (a0_1 < 1) = true := decide_eq_true c4
   clear c4
   (first | rw [c4b0] | (simp only [i64_w, i32_w]; rw [c4b0]) | skip)
   have H' := Aside0.mk H
   clear H
   have hcz5_0 : w3.cell? ⟨gb228, 0, none⟩ = some (.int .u64 a0_0) := (bkC BK228.out 0).trans rfl
   have hcz5_1 : w3.cell? ⟨gb228, 1, none⟩ = some (.int .i64 a0_1) := (bkC BK228.out 1).trans rfl
   have hcz5_2 : w3.cell? ⟨gb228, 2, none⟩ = some (.int .i64 a0_2) := (bkC BK228.out 2).trans rfl
   have hcz5_3 : w3.cell? ⟨gb228, 3, none⟩ = some (.int .i64 a0_3) := (bkC BK228.out 3).trans rfl
   have hcz5_4 : w3.cell? ⟨gb228, 4, none⟩ = some (.int .i64 a0_4) := (bkC BK228.out 4).trans rfl
   have hcz5_5 : w3.cell? ⟨gb228, 5, none⟩ = some (.int .i64 a0_5) := (bkC BK228.out 5).trans rfl
   have hcz5_6 : w3.cell? ⟨gb228, 6, none⟩ = some (.bool a0_6) := (bkC BK228.out 6).trans rfl
   have hfz5_0 := bkF BK228.out 0
   have hfz5_1 := bkF BK228.out 1
   have hfz5_2 := bkF BK228.out 2
   have hfz5_3 := bkF BK228.out 3
   have hfz5_4 := bkF BK228.out 4
   have hfz5_5 := bkF BK228.out 5
   have hfz5_6 := bkF BK228.out 6
   go_wp2
   go_meet
   case rel => exact ⟨_, (true), (by first | rfl | (simp; done) | (simp [*]; done)), H', ⟨by first | omega | exact Nat.le_refl _⟩, ⟨by (with_reducible repeat (first | refine blk_drewN ?_ _ | refine blk_drew ?_ | refine blk_alloc ?_ _)); exact BK228.out⟩, ⟨by repeat (first | (with_reducible first | exact HB.out | apply below_alloc | apply pw_below_drewN | apply below_drew1 | refine below_set ?_ GE228.out) | exact HB.out)⟩⟩
  ·rw [if_neg c4] at H
   have c4b0 : decide (a0_1 < 1) = false := decide_eq_false c4
   clear c4
   (first | rw [c4b0] | (simp only [i64_w, i32_w]; rw [c4b0]) | skip)
   by_cases c6 : a0_1 > 4
   ·rw [if_pos c6] at H
    have c6b0 : decide (4 < a0_1) = true := decide_eq_true c6
    clear c6
    have H' := Aside0.mk H
    clear H
    have hcz7_0 : w3.cell? ⟨gb228, 0, none⟩ = some (.int .u64 a0_0) := (bkC BK228.out 0).trans rfl
    have hcz7_1 : w3.cell? ⟨gb228, 1, none⟩ = some (.int .i64 a0_1) := (bkC BK228.out 1).trans rfl
    have hcz7_2 : w3.cell? ⟨gb228, 2, none⟩ = some (.int .i64 a0_2) := (bkC BK228.out 2).trans rfl
    have hcz7_3 : w3.cell? ⟨gb228, 3, none⟩ = some (.int .i64 a0_3) := (bkC BK228.out 3).trans rfl
    have hcz7_4 : w3.cell? ⟨gb228, 4, none⟩ = some (.int .i64 a0_4) := (bkC BK228.out 4).trans rfl
    have hcz7_5 : w3.cell? ⟨gb228, 5, none⟩ = some (.int .i64 a0_5) := (bkC BK228.out 5).trans rfl
    have hcz7_6 : w3.cell? ⟨gb228, 6, none⟩ = some (.bool a0_6) := (bkC BK228.out 6).trans rfl
    have hfz7_0 := bkF BK228.out 0
    have hfz7_1 := bkF BK228.out 1
    have hfz7_2 := bkF BK228.out 2
    have hfz7_3 := bkF BK228.out 3
    have hfz7_4 := bkF BK228.out 4
    have hfz7_5 := bkF BK228.out 5
    have hfz7_6 := bkF BK228.out 6
    go_wp2
    go_meet
    case rel => exact ⟨_, (true), (by first | rfl | (simp; done) | (simp [*]; done)), H', ⟨by first | omega | exact Nat.le_refl _⟩, ⟨by (with_reducible repeat (first | refine blk_drewN ?_ _ | refine blk_drew ?_ | refine blk_alloc ?_ _)); exact BK228.out⟩, ⟨by repeat (first | (with_reducible first | exact HB.out | apply below_alloc | apply pw_below_drewN | apply below_drew1 | refine below_set ?_ GE228.out) | exact HB.out)⟩⟩
   ·rw [if_neg c6] at H
    have c6b0 : decide (4 < a0_1) = false := decide_eq_false c6
    clear c6
    by_cases c8 : a0_1 = 2
    ·rw [if_pos c8] at H
     have c8b0 : (a0_1 == 2) = true := beq_iff_eq.mpr c8
     have c8b1 : (a0_1 != 2) = false := bne_eq_false_iff_eq.mpr c8
     clear c8
     by_cases c9 : a0_2 < 1
     ·rw [if_pos c9] at H
      have c9b0 : decide (a0_2 < 1) = true := decide_eq_true c9
      clear c9
      have H' := Aside0.mk H
      clear H
      have hcz10_0 : w3.cell? ⟨gb228, 0, none⟩ = some (.int .u64 a0_0) := (bkC BK228.out 0).trans rfl
      have hcz10_1 : w3.cell? ⟨gb228, 1, none⟩ = some (.int .i64 a0_1) := (bkC BK228.out 1).trans rfl
      have hcz10_2 : w3.cell? ⟨gb228, 2, none⟩ = some (.int .i64 a0_2) := (bkC BK228.out 2).trans rfl
      have hcz10_3 : w3.cell? ⟨gb228, 3, none⟩ = some (.int .i64 a0_3) := (bkC BK228.out 3).trans rfl
      have hcz10_4 : w3.cell? ⟨gb228, 4, none⟩ = some (.int .i64 a0_4) := (bkC BK228.out 4).trans rfl
      have hcz10_5 : w3.cell? ⟨gb228, 5, none⟩ = some (.int .i64 a0_5) := (bkC BK228.out 5).trans rfl
      have hcz10_6 : w3.cell? ⟨gb228, 6, none⟩ = some (.bool a0_6) := (bkC BK228.out 6).trans rfl
      have hfz10_0 := bkF BK228.out 0
      have hfz10_1 := bkF BK228.out 1
      have hfz10_2 := bkF BK228.out 2
      have hfz10_3 := bkF BK228.out 3
      have hfz10_4 := bkF BK228.out 4
      have hfz10_5 := bkF BK228.out 5
      have hfz10_6 := bkF BK228.out 6
      go_wp2
      go_meet
      case rel => exact ⟨_, (true), (by first | rfl | (simp; done) | (simp [*]; done)), H', ⟨by first | omega | exact Nat.le_refl _⟩, ⟨by (with_reducible repeat (first | refine blk_drewN ?_ _ | refine blk_drew ?_ | refine blk_alloc ?_ _)); exact BK228.out⟩, ⟨by repeat (first | (with_reducible first | exact HB.out | apply below_alloc | apply pw_below_drewN | apply below_drew1 | refine below_set ?_ GE228.out) | exact HB.out)⟩⟩
     ·rw [if_neg c9] at H
      have c9b0 : decide (a0_2 < 1) = false := decide_eq_false c9
      clear c9
      by_cases c11 : a0_1 = 3
      ·rw [if_pos c11] at H
       have c11b0 : (a0_1 == 3) = true := beq_iff_eq.mpr c11
       have c11b1 : (a0_1 != 3) = false := bne_eq_false_iff_eq.mpr c11
       clear c11
       have H' := Aside0.mk H
       clear H
       have hcz12_0 : w3.cell? ⟨gb228, 0, none⟩ = some (.int .u64 a0_0) := (bkC BK228.out 0).trans rfl
       have hcz12_1 : w3.cell? ⟨gb228, 1, none⟩ = some (.int .i64 a0_1) := (bkC BK228.out 1).trans rfl
       have hcz12_2 : w3.cell? ⟨gb228, 2, none⟩ = some (.int .i64 a0_2) := (bkC BK228.out 2).trans rfl
       have hcz12_3 : w3.cell? ⟨gb228, 3, none⟩ = some (.int .i64 a0_3) := (bkC BK228.out 3).trans rfl
       have hcz12_4 : w3.cell? ⟨gb228, 4, none⟩ = some (.int .i64 a0_4) := (bkC BK228.out 4).trans rfl
       have hcz12_5 : w3.cell? ⟨gb228, 5, none⟩ = some (.int .i64 a0_5) := (bkC BK228.out 5).trans rfl
       have hcz12_6 : w3.cell? ⟨gb228, 6, none⟩ = some (.bool a0_6) := (bkC BK228.out 6).trans rfl
       have hfz12_0 := bkF BK228.out 0
       have hfz12_1 := bkF BK228.out 1
       have hfz12_2 := bkF BK228.out 2
       have hfz12_3 := bkF BK228.out 3
       have hfz12_4 := bkF BK228.out 4
       have hfz12_5 := bkF BK228.out 5
       have hfz12_6 := bkF BK228.out 6
       go_wp2
       go_meet
       case rel => exact ⟨_, (decide (a0_2 < 2)), (by first | rfl | (simp; done) | (simp [*]; done)), H', ⟨by first | omega | exact Nat.le_refl _⟩, ⟨by (with_reducible repeat (first | refine blk_drewN ?_ _ | refine blk_drew ?_ | refine blk_alloc ?_ _)); exact BK228.out⟩, ⟨by repeat (first | (with_reducible first | exact HB.out | apply below_alloc | apply pw_below_drewN | apply below_drew1 | refine below_set ?_ GE228.out) | exact HB.out)⟩⟩
      ·rw [if_neg c11] at H
       have c11b0 : (a0_1 == 3) = false := beq_eq_false_iff_ne.mpr c11
       have c11b1 : (a0_1 != 3) = true := bne_iff_ne.mpr c11
       have H' := Aside0.mk H
       clear H
       have hcz13_0 : w3.cell? ⟨gb228, 0, none⟩ = some (.int .u64 a0_0) := (bkC BK228.out 0).trans rfl
       have hcz13_1 : w3.cell? ⟨gb228, 1, none⟩ = some (.int .i64 a0_1) := (bkC BK228.out 1).trans rfl
       have hcz13_2 : w3.cell? ⟨gb228, 2, none⟩ = some (.int .i64 a0_2) := (bkC BK228.out 2).trans rfl
       have hcz13_3 : w3.cell? ⟨gb228, 3, none⟩ = some (.int .i64 a0_3) := (bkC BK228.out 3).trans rfl
       have hcz13_4 : w3.cell? ⟨gb228, 4, none⟩ = some (.int .i64 a0_4) := (bkC BK228.out 4).trans rfl
       have hcz13_5 : w3.cell? ⟨gb228, 5, none⟩ = some (.int .i64 a0_5) := (bkC BK228.out 5).trans rfl
       have hcz13_6 : w3.cell? ⟨gb228, 6, none⟩ = some (.bool a0_6) := (bkC BK228.out 6).trans rfl
       have hfz13_0 := bkF BK228.out 0
       have hfz13_1 := bkF BK228.out 1
       have hfz13_2 := bkF BK228.out 2
       have hfz13_3 := bkF BK228.out 3
       have hfz13_4 := bkF BK228.out 4
       have hfz13_5 := bkF BK228.out 5
       have hfz13_6 := bkF BK228.out 6
       go_wp2
       go_meet
       case rel => exact ⟨_, (false), (by first | rfl | (simp; done) | (simp [*]; done)), H', ⟨by first | omega | exact Nat.le_refl _⟩, ⟨by (with_reducible repeat (first | refine blk_drewN ?_ _ | refine blk_drew ?_ | refine blk_alloc ?_ _)); exact BK228.out⟩, ⟨by repeat (first | (with_reducible first | exact HB.out | apply below_alloc | apply pw_below_drewN | apply below_drew1 | refine below_set ?_ GE228.out) | exact HB.out)⟩⟩
    ·rw [if_neg c8] at H
     have c8b0 : (a0_1 == 2) = false := beq_eq_false_iff_ne.mpr c8
     have c8b1 : (a0_1 != 2) = true := bne_iff_ne.mpr c8
     by_cases c14 : a0_1 = 3
     ·rw [if_pos c14] at H
      have c14b0 : (a0_1 == 3) = true := beq_iff_eq.mpr c14
      have c14b1 : (a0_1 != 3) = false := bne_eq_false_iff_eq.mpr c14
      clear c14
      have H' := Aside0.mk H
      clear H
      have hcz15_0 : w3.cell? ⟨gb228, 0, none⟩ = some (.int .u64 a0_0) := (bkC BK228.out 0).trans rfl
      have hcz15_1 : w3.cell? ⟨gb228, 1, none⟩ = some (.int .i64 a0_1) := (bkC BK228.out 1).trans rfl
      have hcz15_2 : w3.cell? ⟨gb228, 2, none⟩ = some (.int .i64 a0_2) := (bkC BK228.out 2).trans rfl
      have hcz15_3 : w3.cell? ⟨gb228, 3, none⟩ = some (.int .i64 a0_3) := (bkC BK228.out 3).trans rfl
      have hcz15_4 : w3.cell? ⟨gb228, 4, none⟩ = some (.int .i64 a0_4) := (bkC BK228.out 4).trans rfl
      have hcz15_5 : w3.cell? ⟨gb228, 5, none⟩ = some (.int .i64 a0_5) := (bkC BK228.out 5).trans rfl
      have hcz15_6 : w3.cell? ⟨gb228, 6, none⟩ = some (.bool a0_6) := (bkC BK228.out 6).trans rfl
      have hfz15_0 := bkF BK228.out 0
      have hfz15_1 := bkF BK228.out 1
      have hfz15_2 := bkF BK228.out 2
      have hfz15_3 := bkF BK228.out 3
      have hfz15_4 := bkF BK228.out 4
      have hfz15_5 := bkF BK228.out 5
      have hfz15_6 := bkF BK228.out 6
      go_wp2
      go_meet
      case rel => exact ⟨_, (decide (a0_2 < 2)), (by first | rfl | (simp; done) | (simp [*]; done)), H', ⟨by first | omega | exact Nat.le_refl _⟩, ⟨by (with_reducible repeat (first | refine blk_drewN ?_ _ | refine blk_drew ?_ | refine blk_alloc ?_ _)); exact BK228.out⟩, ⟨by repeat (first | (with_reducible first | exact HB.out | apply below_alloc | apply pw_below_drewN | apply below_drew1 | refine below_set ?_ GE228.out) | exact HB.out)⟩⟩
     ·rw [if_neg c14] at H
      have c14b0 : (a0_1 == 3) = false := beq_eq_false_iff_ne.mpr c14
      have c14b1 : (a0_1 != 3) = true := bne_iff_ne.mpr c14
      have H' := Aside0.mk H
      clear H
      have hcz16_0 : w3.cell? ⟨gb228, 0, none⟩ = some (.int .u64 a0_0) := (bkC BK228.out 0).trans rfl
      have hcz16_1 : w3.cell? ⟨gb228, 1, none⟩ = some (.int .i64 a0_1) := (bkC BK228.out 1).trans rfl
      have hcz16_2 : w3.cell? ⟨gb228, 2, none⟩ = some (.int .i64 a0_2) := (bkC BK228.out 2).trans rfl
      have hcz16_3 : w3.cell? ⟨gb228, 3, none⟩ = some (.int .i64 a0_3) := (bkC BK228.out 3).trans rfl
      have hcz16_4 : w3.cell? ⟨gb228, 4, none⟩ = some (.int .i64 a0_4) := (bkC BK228.out 4).trans rfl
      have hcz16_5 : w3.cell? ⟨gb228, 5, none⟩ = some (.int .i64 a0_5) := (bkC BK228.out 5).trans rfl
      have hcz16_6 : w3.cell? ⟨gb228, 6, none⟩ = some (.bool a0_6) := (bkC BK228.out 6).trans rfl
      have hfz16_0 := bkF BK228.out 0
      have hfz16_1 := bkF BK228.out 1
      have hfz16_2 := bkF BK228.out 2
      have hfz16_3 := bkF BK228.out 3
      have hfz16_4 := bkF BK228.out 4
      have hfz16_5 := bkF BK228.out 5
      have hfz16_6 := bkF BK228.out 6
      go_wp2
      go_meet
      case rel => exact ⟨_, (false), (by first | rfl | (simp; done) | (simp [*]; done)), H', ⟨by first | omega | exact Nat.le_refl _⟩, ⟨by (with_reducible repeat (first | refine blk_drewN ?_ _ | refine blk_drew ?_ | refine blk_alloc ?_ _)); exact BK228.out⟩, ⟨by repeat (first | (with_reducible first | exact HB.out | apply below_alloc | apply pw_below_drewN | apply below_drew1 | refine below_set ?_ GE228.out) | exact HB.out)⟩⟩
 case rest =>
  clear HC2
  try clear c1;try clear p2;try clear c4;try clear c4b0;try clear c6;try clear c6b0;try clear c8;try clear c8b0;try clear c8b1;try clear c9;try clear c9b0;try clear c11;try clear c11b0;try clear c11b1;try clear c13;try clear c14;try clear c14b0;try clear c14b1;try clear hcz10_0;try clear hcz10_1;try clear hcz10_2;try clear hcz10_3;try clear hcz10_4;try clear hcz10_5;try clear hcz10_6;try clear hcz12_0;try clear hcz12_1;try clear hcz12_2;try clear hcz12_3;try clear hcz12_4;try clear hcz12_5;try clear hcz12_6;try clear hcz13_0;try clear hcz13_1;try clear hcz13_2;try clear hcz13_3;try clear hcz13_4;try clear hcz13_5;try clear hcz13_6;try clear hcz15_0;try clear hcz15_1;try clear hcz15_2;try clear hcz15_3;try clear hcz15_4;try clear hcz15_5;try clear hcz15_6;try clear hcz16_0;try clear hcz16_1;try clear hcz16_2;try clear hcz16_3;try clear hcz16_4;try clear hcz16_5;try clear hcz16_6;try clear hcz5_0;try clear hcz5_1;try clear hcz5_2;try clear hcz5_3;try clear hcz5_4;try clear hcz5_5;try clear hcz5_6;try clear hcz7_0;try clear hcz7_1;try clear hcz7_2;try clear hcz7_3;try clear hcz7_4;try clear hcz7_5;try clear hcz7_6;try clear hfz10_0;try clear hfz10_1;try clear hfz10_2;try clear hfz10_3;try clear hfz10_4;try clear hfz10_5;try clear hfz10_6;try clear hfz12_0;try clear hfz12_1;try clear hfz12_2;try clear hfz12_3;try clear hfz12_4;try clear hfz12_5;try clear hfz12_6;try clear hfz13_0;try clear hfz13_1;try clear hfz13_2;try clear hfz13_3;try clear hfz13_4;try clear hfz13_5;try clear hfz13_6;try clear hfz15_0;try clear hfz15_1;try clear hfz15_2;try clear hfz15_3;try clear hfz15_4;try clear hfz15_5;try clear hfz15_6;try clear hfz16_0;try clear hfz16_1;try clear hfz16_2;try clear hfz16_3;try clear hfz16_4;try clear hfz16_5;try clear hfz16_6;try clear hfz5_0;try clear hfz5_1;try clear hfz5_2;try clear hfz5_3;try clear hfz5_4;try clear hfz5_5;try clear hfz5_6;try clear hfz7_0;try clear hfz7_1;try clear hfz7_2;try clear hfz7_3;try clear hfz7_4;try clear hfz7_5;try clear hfz7_6
  obtain ⟨kq, x3_1, rfl, HA, HJ1, BK228, HB⟩ := hcut
  cases kq with
  | zero => exact absurd HA.out (by simp [middenref2_Check.j0])
  | succ kj1 =>
   have H := HA.out
   clear HA
   simp only [middenref2_Check.j0] at H
   by_cases c17 : x3_1 = true
   ·subst c17
    have H1 : (some 20) = some r := by rw [if_pos rfl] at H; exact H
    clear H
    have H := H1
    clear H1
    obtain rfl := Option.some.inj H
    go_wp2
    go_ret
    exact ⟨by first | rfl | (simp [errW_none, errW_some] <;> rfl) | (simp [*, errW_none, errW_some] <;> rfl), by repeat (first | (with_reducible first | exact HB.out | apply below_alloc | apply pw_below_drewN | apply below_drew1 | refine below_set ?_ GE228.out) | exact HB.out)⟩
   ·replace c17 := Bool.eq_false_iff.mpr c17
    subst c17
    have H1 : (if a0_2 < 0 then (middenref2_Check.j1 kj1 true a0_0 a0_1 a0_2 a0_3 a0_4 a0_5 a0_6) else (middenref2_Check.j1 kj1 (decide (a0_2 > 4095)) a0_0 a0_1 a0_2 a0_3 a0_4 a0_5 a0_6)) = some r := by rw [if_neg (show ¬ (false = true) by decide)] at H; exact H
    clear H
    have H := H1
    clear H1
    have HC18 := Aside0.mk H
    clear H
    go_upto_region 3 with (fail)
    go_cut [32] (fun v32 wc => ∃ (kq : Nat) (x32_17 : Bool), v32 = .bool x32_17 /\ Aside0 (middenref2_Check.j1 kq x32_17 a0_0 a0_1 a0_2 a0_3 a0_4 a0_5 a0_6 = some r) /\ Aside0 (kq <= kj1) /\ Aside0 (wc.heap[gb228]? = some (.cells #[.int .u64 a0_0, .int .i64 a0_1, .int .i64 a0_2, .int .i64 a0_3, .int .i64 a0_4, .int .i64 a0_5, .bool a0_6] 148 (0, 0))) /\ Aside0 (Below w.heap.size w wc))
    case first =>
     have H := HC18.out
     clear HC18
     by_cases c19 : a0_2 < 0
     ·rw [if_pos c19] at H
      have c19b0 : decide (a0_2 < 0) = true := decide_eq_true c19
      clear c19
      (first | rw [c19b0] | (simp only [i64_w, i32_w]; rw [c19b0]) | skip)
      have H' := Aside0.mk H
      clear H
      have hcz20_0 : wc.cell? ⟨gb228, 0, none⟩ = some (.int .u64 a0_0) := (bkC BK228.out 0).trans rfl
      have hcz20_1 : wc.cell? ⟨gb228, 1, none⟩ = some (.int .i64 a0_1) := (bkC BK228.out 1).trans rfl
      have hcz20_2 : wc.cell? ⟨gb228, 2, none⟩ = some (.int .i64 a0_2) := (bkC BK228.out 2).trans rfl
      have hcz20_3 : wc.cell? ⟨gb228, 3, none⟩ = some (.int .i64 a0_3) := (bkC BK228.out 3).trans rfl
      have hcz20_4 : wc.cell? ⟨gb228, 4, none⟩ = some (.int .i64 a0_4) := (bkC BK228.out 4).trans rfl
      have hcz20_5 : wc.cell? ⟨gb228, 5, none⟩ = some (.int .i64 a0_5) := (bkC BK228.out 5).trans rfl
      have hcz20_6 : wc.cell? ⟨gb228, 6, none⟩ = some (.bool a0_6) := (bkC BK228.out 6).trans rfl
      have hfz20_0 := bkF BK228.out 0
      have hfz20_1 := bkF BK228.out 1
      have hfz20_2 := bkF BK228.out 2
      have hfz20_3 := bkF BK228.out 3
      have hfz20_4 := bkF BK228.out 4
      have hfz20_5 := bkF BK228.out 5
      have hfz20_6 := bkF BK228.out 6
      go_wp2
      go_meet
      case rel => exact ⟨_, (true), (by first | rfl | (simp; done) | (simp [*]; done)), H', ⟨by have := HJ1.out; first | omega | exact Nat.le_refl _⟩, ⟨by (with_reducible repeat (first | refine blk_drewN ?_ _ | refine blk_drew ?_ | refine blk_alloc ?_ _)); exact BK228.out⟩, ⟨by repeat (first | (with_reducible first | exact HB.out | apply below_alloc | apply pw_below_drewN | apply below_drew1 | refine below_set ?_ GE228.out) | exact HB.out)⟩⟩
     ·rw [if_neg c19] at H
      have c19b0 : decide (a0_2 < 0) = false := decide_eq_false c19
      clear c19
      (first | rw [c19b0] | (simp only [i64_w, i32_w]; rw [c19b0]) | skip)
      have H' := Aside0.mk H
      clear H
      have hcz21_0 : wc.cell? ⟨gb228, 0, none⟩ = some (.int .u64 a0_0) := (bkC BK228.out 0).trans rfl
      have hcz21_1 : wc.cell? ⟨gb228, 1, none⟩ = some (.int .i64 a0_1) := (bkC BK228.out 1).trans rfl
      have hcz21_2 : wc.cell? ⟨gb228, 2, none⟩ = some (.int .i64 a0_2) := (bkC BK228.out 2).trans rfl
      have hcz21_3 : wc.cell? ⟨gb228, 3, none⟩ = some (.int .i64 a0_3) := (bkC BK228.out 3).trans rfl
      have hcz21_4 : wc.cell? ⟨gb228, 4, none⟩ = some (.int .i64 a0_4) := (bkC BK228.out 4).trans rfl
      have hcz21_5 : wc.cell? ⟨gb228, 5, none⟩ = some (.int .i64 a0_5) := (bkC BK228.out 5).trans rfl
      have hcz21_6 : wc.cell? ⟨gb228, 6, none⟩ = some (.bool a0_6) := (bkC BK228.out 6).trans rfl
      have hfz21_0 := bkF BK228.out 0
      have hfz21_1 := bkF BK228.out 1
      have hfz21_2 := bkF BK228.out 2
      have hfz21_3 := bkF BK228.out 3
      have hfz21_4 := bkF BK228.out 4
      have hfz21_5 := bkF BK228.out 5
      have hfz21_6 := bkF BK228.out 6
      go_wp2
      go_meet
      case rel => exact ⟨_, (decide (a0_2 > 4095)), (by first | rfl | (simp; done) | (simp [*]; done)), H', ⟨by have := HJ1.out; first | omega | exact Nat.le_refl _⟩, ⟨by (with_reducible repeat (first | refine blk_drewN ?_ _ | refine blk_drew ?_ | refine blk_alloc ?_ _)); exact BK228.out⟩, ⟨by repeat (first | (with_reducible first | exact HB.out | apply below_alloc | apply pw_below_drewN | apply below_drew1 | refine below_set ?_ GE228.out) | exact HB.out)⟩⟩
    case rest =>
     clear HC18
     try clear c1;try clear p2;try clear c4;try clear c4b0;try clear c6;try clear c6b0;try clear c8;try clear c8b0;try clear c8b1;try clear c9;try clear c9b0;try clear c11;try clear c11b0;try clear c11b1;try clear c13;try clear c14;try clear c14b0;try clear c14b1;try clear c17;try clear c19;try clear c19b0;try clear hcz10_0;try clear hcz10_1;try clear hcz10_2;try clear hcz10_3;try clear hcz10_4;try clear hcz10_5;try clear hcz10_6;try clear hcz12_0;try clear hcz12_1;try clear hcz12_2;try clear hcz12_3;try clear hcz12_4;try clear hcz12_5;try clear hcz12_6;try clear hcz13_0;try clear hcz13_1;try clear hcz13_2;try clear hcz13_3;try clear hcz13_4;try clear hcz13_5;try clear hcz13_6;try clear hcz15_0;try clear hcz15_1;try clear hcz15_2;try clear hcz15_3;try clear hcz15_4;try clear hcz15_5;try clear hcz15_6;try clear hcz16_0;try clear hcz16_1;try clear hcz16_2;try clear hcz16_3;try clear hcz16_4;try clear hcz16_5;try clear hcz16_6;try clear hcz20_0;try clear hcz20_1;try clear hcz20_2;try clear hcz20_3;try clear hcz20_4;try clear hcz20_5;try clear hcz20_6;try clear hcz21_0;try clear hcz21_1;try clear hcz21_2;try clear hcz21_3;try clear hcz21_4;try clear hcz21_5;try clear hcz21_6;try clear hcz5_0;try clear hcz5_1;try clear hcz5_2;try clear hcz5_3;try clear hcz5_4;try clear hcz5_5;try clear hcz5_6;try clear hcz7_0;try clear hcz7_1;try clear hcz7_2;try clear hcz7_3;try clear hcz7_4;try clear hcz7_5;try clear hcz7_6;try clear hfz10_0;try clear hfz10_1;try clear hfz10_2;try clear hfz10_3;try clear hfz10_4;try clear hfz10_5;try clear hfz10_6;try clear hfz12_0;try clear hfz12_1;try clear hfz12_2;try clear hfz12_3;try clear hfz12_4;try clear hfz12_5;try clear hfz12_6;try clear hfz13_0;try clear hfz13_1;try clear hfz13_2;try clear hfz13_3;try clear hfz13_4;try clear hfz13_5;try clear hfz13_6;try clear hfz15_0;try clear hfz15_1;try clear hfz15_2;try clear hfz15_3;try clear hfz15_4;try clear hfz15_5;try clear hfz15_6;try clear hfz16_0;try clear hfz16_1;try clear hfz16_2;try clear hfz16_3;try clear hfz16_4
     try clear hfz16_5;try clear hfz16_6;try clear hfz20_0;try clear hfz20_1;try clear hfz20_2;try clear hfz20_3;try clear hfz20_4;try clear hfz20_5;try clear hfz20_6;try clear hfz21_0;try clear hfz21_1;try clear hfz21_2;try clear hfz21_3;try clear hfz21_4;try clear hfz21_5;try clear hfz21_6;try clear hfz5_0;try clear hfz5_1;try clear hfz5_2;try clear hfz5_3;try clear hfz5_4;try clear hfz5_5;try clear hfz5_6;try clear hfz7_0;try clear hfz7_1;try clear hfz7_2;try clear hfz7_3;try clear hfz7_4;try clear hfz7_5;try clear hfz7_6;try clear p2
     obtain ⟨kq, x32_17, rfl, HA, HJ17, BK228, HB⟩ := hcut
     cases kq with
     | zero => exact absurd HA.out (by simp [middenref2_Check.j1])
     | succ kj17 =>
      have H := HA.out
      clear HA
      simp only [middenref2_Check.j1] at H
      by_cases c22 : x32_17 = true
      ·subst c22
       have H1 : (some 21) = some r := by rw [if_pos rfl] at H; exact H
       clear H
       have H := H1
       clear H1
       obtain rfl := Option.some.inj H
       go_wp2
       go_ret
       exact ⟨by first | rfl | (simp [errW_none, errW_some] <;> rfl) | (simp [*, errW_none, errW_some] <;> rfl), by repeat (first | (with_reducible first | exact HB.out | apply below_alloc | apply pw_below_drewN | apply below_drew1 | refine below_set ?_ GE228.out) | exact HB.out)⟩
      ·replace c22 := Bool.eq_false_iff.mpr c22
       subst c22
       have H1 : (if a0_3 < 0 then (middenref2_Check.j2 kj17 true a0_0 a0_1 a0_2 a0_3 a0_4 a0_5 a0_6) else (middenref2_Check.j2 kj17 (decide (a0_3 > 65535)) a0_0 a0_1 a0_2 a0_3 a0_4 a0_5 a0_6)) = some r := by rw [if_neg (show ¬ (false = true) by decide)] at H; exact H
       clear H
       have H := H1
       clear H1
       have HC23 := Aside0.mk H
       clear H
       go_upto_region 5 with (fail)
       go_cut [41] (fun v41 wc => ∃ (kq : Nat) (x41_22 : Bool), v41 = .bool x41_22 /\ Aside0 (middenref2_Check.j2 kq x41_22 a0_0 a0_1 a0_2 a0_3 a0_4 a0_5 a0_6 = some r) /\ Aside0 (kq <= kj17) /\ Aside0 (wc.heap[gb228]? = some (.cells #[.int .u64 a0_0, .int .i64 a0_1, .int .i64 a0_2, .int .i64 a0_3, .int .i64 a0_4, .int .i64 a0_5, .bool a0_6] 148 (0, 0))) /\ Aside0 (Below w.heap.size w wc))
       case first =>
        have H := HC23.out
        clear HC23
        by_cases c24 : a0_3 < 0
        ·rw [if_pos c24] at H
         have c24b0 : decide (a0_3 < 0) = true := decide_eq_true c24
         clear c24
         (first | rw [c24b0] | (simp only [i64_w, i32_w]; rw [c24b0]) | skip)
         have H' := Aside0.mk H
         clear H
         have hcz25_0 : wc.cell? ⟨gb228, 0, none⟩ = some (.int .u64 a0_0) := (bkC BK228.out 0).trans rfl
         have hcz25_1 : wc.cell? ⟨gb228, 1, none⟩ = some (.int .i64 a0_1) := (bkC BK228.out 1).trans rfl
         have hcz25_2 : wc.cell? ⟨gb228, 2, none⟩ = some (.int .i64 a0_2) := (bkC BK228.out 2).trans rfl
         have hcz25_3 : wc.cell? ⟨gb228, 3, none⟩ = some (.int .i64 a0_3) := (bkC BK228.out 3).trans rfl
         have hcz25_4 : wc.cell? ⟨gb228, 4, none⟩ = some (.int .i64 a0_4) := (bkC BK228.out 4).trans rfl
         have hcz25_5 : wc.cell? ⟨gb228, 5, none⟩ = some (.int .i64 a0_5) := (bkC BK228.out 5).trans rfl
         have hcz25_6 : wc.cell? ⟨gb228, 6, none⟩ = some (.bool a0_6) := (bkC BK228.out 6).trans rfl
         have hfz25_0 := bkF BK228.out 0
         have hfz25_1 := bkF BK228.out 1
         have hfz25_2 := bkF BK228.out 2
         have hfz25_3 := bkF BK228.out 3
         have hfz25_4 := bkF BK228.out 4
         have hfz25_5 := bkF BK228.out 5
         have hfz25_6 := bkF BK228.out 6
         go_wp2
         go_meet
         case rel => exact ⟨_, (true), (by first | rfl | (simp; done) | (simp [*]; done)), H', ⟨by have := HJ1.out; have := HJ17.out; first | omega | exact Nat.le_refl _⟩, ⟨by (with_reducible repeat (first | refine blk_drewN ?_ _ | refine blk_drew ?_ | refine blk_alloc ?_ _)); exact BK228.out⟩, ⟨by repeat (first | (with_reducible first | exact HB.out | apply below_alloc | apply pw_below_drewN | apply below_drew1 | refine below_set ?_ GE228.out) | exact HB.out)⟩⟩
        ·rw [if_neg c24] at H
         have c24b0 : decide (a0_3 < 0) = false := decide_eq_false c24
         clear c24
         (first | rw [c24b0] | (simp only [i64_w, i32_w]; rw [c24b0]) | skip)
         have H' := Aside0.mk H
         clear H
         have hcz26_0 : wc.cell? ⟨gb228, 0, none⟩ = some (.int .u64 a0_0) := (bkC BK228.out 0).trans rfl
         have hcz26_1 : wc.cell? ⟨gb228, 1, none⟩ = some (.int .i64 a0_1) := (bkC BK228.out 1).trans rfl
         have hcz26_2 : wc.cell? ⟨gb228, 2, none⟩ = some (.int .i64 a0_2) := (bkC BK228.out 2).trans rfl
         have hcz26_3 : wc.cell? ⟨gb228, 3, none⟩ = some (.int .i64 a0_3) := (bkC BK228.out 3).trans rfl
         have hcz26_4 : wc.cell? ⟨gb228, 4, none⟩ = some (.int .i64 a0_4) := (bkC BK228.out 4).trans rfl
         have hcz26_5 : wc.cell? ⟨gb228, 5, none⟩ = some (.int .i64 a0_5) := (bkC BK228.out 5).trans rfl
         have hcz26_6 : wc.cell? ⟨gb228, 6, none⟩ = some (.bool a0_6) := (bkC BK228.out 6).trans rfl
         have hfz26_0 := bkF BK228.out 0
         have hfz26_1 := bkF BK228.out 1
         have hfz26_2 := bkF BK228.out 2
         have hfz26_3 := bkF BK228.out 3
         have hfz26_4 := bkF BK228.out 4
         have hfz26_5 := bkF BK228.out 5
         have hfz26_6 := bkF BK228.out 6
         go_wp2
         go_meet
         case rel => exact ⟨_, (decide (a0_3 > 65535)), (by first | rfl | (simp; done) | (simp [*]; done)), H', ⟨by have := HJ1.out; have := HJ17.out; first | omega | exact Nat.le_refl _⟩, ⟨by (with_reducible repeat (first | refine blk_drewN ?_ _ | refine blk_drew ?_ | refine blk_alloc ?_ _)); exact BK228.out⟩, ⟨by repeat (first | (with_reducible first | exact HB.out | apply below_alloc | apply pw_below_drewN | apply below_drew1 | refine below_set ?_ GE228.out) | exact HB.out)⟩⟩
       case rest =>
        clear HC23
        try clear c1;try clear c2;try clear p2;try clear c4;try clear c4b0;try clear c6;try clear c6b0;try clear c8;try clear c8b0;try clear c8b1;try clear c9;try clear c9b0;try clear c11;try clear c11b0;try clear c11b1;try clear c13;try clear c14;try clear c14b0;try clear c14b1;try clear c17;try clear c19;try clear c19b0;try clear c22;try clear c24;try clear c24b0;try clear hcz10_0;try clear hcz10_1;try clear hcz10_2;try clear hcz10_3;try clear hcz10_4;try clear hcz10_5;try clear hcz10_6;try clear hcz12_0;try clear hcz12_1;try clear hcz12_2;try clear hcz12_3;try clear hcz12_4;try clear hcz12_5;try clear hcz12_6;try clear hcz13_0;try clear hcz13_1;try clear hcz13_2;try clear hcz13_3;try clear hcz13_4;try clear hcz13_5;try clear hcz13_6;try clear hcz15_0;try clear hcz15_1;try clear hcz15_2;try clear hcz15_3;try clear hcz15_4;try clear hcz15_5;try clear hcz15_6;try clear hcz16_0;try clear hcz16_1;try clear hcz16_2;try clear hcz16_3;try clear hcz16_4;try clear hcz16_5;try clear hcz16_6;try clear hcz20_0;try clear hcz20_1;try clear hcz20_2;try clear hcz20_3;try clear hcz20_4;try clear hcz20_5;try clear hcz20_6;try clear hcz21_0;try clear hcz21_1;try clear hcz21_2;try clear hcz21_3;try clear hcz21_4;try clear hcz21_5;try clear hcz21_6;try clear hcz25_0;try clear hcz25_1;try clear hcz25_2;try clear hcz25_3;try clear hcz25_4;try clear hcz25_5;try clear hcz25_6;try clear hcz26_0;try clear hcz26_1;try clear hcz26_2;try clear hcz26_3;try clear hcz26_4;try clear hcz26_5;try clear hcz26_6;try clear hcz5_0;try clear hcz5_1;try clear hcz5_2;try clear hcz5_3;try clear hcz5_4;try clear hcz5_5;try clear hcz5_6;try clear hcz7_0;try clear hcz7_1;try clear hcz7_2;try clear hcz7_3;try clear hcz7_4;try clear hcz7_5;try clear hcz7_6;try clear hfz10_0;try clear hfz10_1;try clear hfz10_2;try clear hfz10_3;try clear hfz10_4;try clear hfz10_5;try clear hfz10_6;try clear hfz12_0;try clear hfz12_1;try clear hfz12_2;try clear hfz12_3;try clear hfz12_4;try clear hfz12_5;try clear hfz12_6;try clear hfz13_0
        try clear hfz13_1;try clear hfz13_2;try clear hfz13_3;try clear hfz13_4;try clear hfz13_5;try clear hfz13_6;try clear hfz15_0;try clear hfz15_1;try clear hfz15_2;try clear hfz15_3;try clear hfz15_4;try clear hfz15_5;try clear hfz15_6;try clear hfz16_0;try clear hfz16_1;try clear hfz16_2;try clear hfz16_3;try clear hfz16_4;try clear hfz16_5;try clear hfz16_6;try clear hfz20_0;try clear hfz20_1;try clear hfz20_2;try clear hfz20_3;try clear hfz20_4;try clear hfz20_5;try clear hfz20_6;try clear hfz21_0;try clear hfz21_1;try clear hfz21_2;try clear hfz21_3;try clear hfz21_4;try clear hfz21_5;try clear hfz21_6;try clear hfz25_0;try clear hfz25_1;try clear hfz25_2;try clear hfz25_3;try clear hfz25_4;try clear hfz25_5;try clear hfz25_6;try clear hfz26_0;try clear hfz26_1;try clear hfz26_2;try clear hfz26_3;try clear hfz26_4;try clear hfz26_5;try clear hfz26_6;try clear hfz5_0;try clear hfz5_1;try clear hfz5_2;try clear hfz5_3;try clear hfz5_4;try clear hfz5_5;try clear hfz5_6;try clear hfz7_0;try clear hfz7_1;try clear hfz7_2;try clear hfz7_3;try clear hfz7_4;try clear hfz7_5;try clear hfz7_6;try clear p2
        obtain ⟨kq, x41_22, rfl, HA, HJ22, BK228, HB⟩ := hcut
        cases kq with
        | zero => exact absurd HA.out (by simp [middenref2_Check.j2])
        | succ kj22 =>
         have H := HA.out
         clear HA
         simp only [middenref2_Check.j2] at H
         by_cases c27 : x41_22 = true
         ·subst c27
          have H1 : (some 22) = some r := by rw [if_pos rfl] at H; exact H
          clear H
          have H := H1
          clear H1
          obtain rfl := Option.some.inj H
          go_wp2
          go_ret
          exact ⟨by first | rfl | (simp [errW_none, errW_some] <;> rfl) | (simp [*, errW_none, errW_some] <;> rfl), by repeat (first | (with_reducible first | exact HB.out | apply below_alloc | apply pw_below_drewN | apply below_drew1 | refine below_set ?_ GE228.out) | exact HB.out)⟩
         ·replace c27 := Bool.eq_false_iff.mpr c27
          subst c27
          have H1 : (if a0_4 < 0 then (middenref2_Check.j3 kj22 true a0_0 a0_1 a0_2 a0_3 a0_4 a0_5 a0_6) else (middenref2_Check.j3 kj22 (decide (a0_4 > 15)) a0_0 a0_1 a0_2 a0_3 a0_4 a0_5 a0_6)) = some r := by rw [if_neg (show ¬ (false = true) by decide)] at H; exact H
          clear H
          have H := H1
          clear H1
          have HC28 := Aside0.mk H
          clear H
          go_upto_region 7 with (fail)
          go_cut [50] (fun v50 wc => ∃ (kq : Nat) (x50_27 : Bool), v50 = .bool x50_27 /\ Aside0 (middenref2_Check.j3 kq x50_27 a0_0 a0_1 a0_2 a0_3 a0_4 a0_5 a0_6 = some r) /\ Aside0 (kq <= kj22) /\ Aside0 (wc.heap[gb228]? = some (.cells #[.int .u64 a0_0, .int .i64 a0_1, .int .i64 a0_2, .int .i64 a0_3, .int .i64 a0_4, .int .i64 a0_5, .bool a0_6] 148 (0, 0))) /\ Aside0 (Below w.heap.size w wc))
          case first =>
           have H := HC28.out
           clear HC28
           by_cases c29 : a0_4 < 0
           ·rw [if_pos c29] at H
            have c29b0 : decide (a0_4 < 0) = true := decide_eq_true c29
            clear c29
            (first | rw [c29b0] | (simp only [i64_w, i32_w]; rw [c29b0]) | skip)
            have H' := Aside0.mk H
            clear H
            have hcz30_0 : wc.cell? ⟨gb228, 0, none⟩ = some (.int .u64 a0_0) := (bkC BK228.out 0).trans rfl
            have hcz30_1 : wc.cell? ⟨gb228, 1, none⟩ = some (.int .i64 a0_1) := (bkC BK228.out 1).trans rfl
            have hcz30_2 : wc.cell? ⟨gb228, 2, none⟩ = some (.int .i64 a0_2) := (bkC BK228.out 2).trans rfl
            have hcz30_3 : wc.cell? ⟨gb228, 3, none⟩ = some (.int .i64 a0_3) := (bkC BK228.out 3).trans rfl
            have hcz30_4 : wc.cell? ⟨gb228, 4, none⟩ = some (.int .i64 a0_4) := (bkC BK228.out 4).trans rfl
            have hcz30_5 : wc.cell? ⟨gb228, 5, none⟩ = some (.int .i64 a0_5) := (bkC BK228.out 5).trans rfl
            have hcz30_6 : wc.cell? ⟨gb228, 6, none⟩ = some (.bool a0_6) := (bkC BK228.out 6).trans rfl
            have hfz30_0 := bkF BK228.out 0
            have hfz30_1 := bkF BK228.out 1
            have hfz30_2 := bkF BK228.out 2
            have hfz30_3 := bkF BK228.out 3
            have hfz30_4 := bkF BK228.out 4
            have hfz30_5 := bkF BK228.out 5
            have hfz30_6 := bkF BK228.out 6
            go_wp2
            go_meet
            case rel => exact ⟨_, (true), (by first | rfl | (simp; done) | (simp [*]; done)), H', ⟨by have := HJ1.out; have := HJ17.out; have := HJ22.out; first | omega | exact Nat.le_refl _⟩, ⟨by (with_reducible repeat (first | refine blk_drewN ?_ _ | refine blk_drew ?_ | refine blk_alloc ?_ _)); exact BK228.out⟩, ⟨by repeat (first | (with_reducible first | exact HB.out | apply below_alloc | apply pw_below_drewN | apply below_drew1 | refine below_set ?_ GE228.out) | exact HB.out)⟩⟩
           ·rw [if_neg c29] at H
            have c29b0 : decide (a0_4 < 0) = false := decide_eq_false c29
            clear c29
            (first | rw [c29b0] | (simp only [i64_w, i32_w]; rw [c29b0]) | skip)
            have H' := Aside0.mk H
            clear H
            have hcz31_0 : wc.cell? ⟨gb228, 0, none⟩ = some (.int .u64 a0_0) := (bkC BK228.out 0).trans rfl
            have hcz31_1 : wc.cell? ⟨gb228, 1, none⟩ = some (.int .i64 a0_1) := (bkC BK228.out 1).trans rfl
            have hcz31_2 : wc.cell? ⟨gb228, 2, none⟩ = some (.int .i64 a0_2) := (bkC BK228.out 2).trans rfl
            have hcz31_3 : wc.cell? ⟨gb228, 3, none⟩ = some (.int .i64 a0_3) := (bkC BK228.out 3).trans rfl
            have hcz31_4 : wc.cell? ⟨gb228, 4, none⟩ = some (.int .i64 a0_4) := (bkC BK228.out 4).trans rfl
            have hcz31_5 : wc.cell? ⟨gb228, 5, none⟩ = some (.int .i64 a0_5) := (bkC BK228.out 5).trans rfl
            have hcz31_6 : wc.cell? ⟨gb228, 6, none⟩ = some (.bool a0_6) := (bkC BK228.out 6).trans rfl
            have hfz31_0 := bkF BK228.out 0
            have hfz31_1 := bkF BK228.out 1
            have hfz31_2 := bkF BK228.out 2
            have hfz31_3 := bkF BK228.out 3
            have hfz31_4 := bkF BK228.out 4
            have hfz31_5 := bkF BK228.out 5
            have hfz31_6 := bkF BK228.out 6
            go_wp2
            go_meet
            case rel => exact ⟨_, (decide (a0_4 > 15)), (by first | rfl | (simp; done) | (simp [*]; done)), H', ⟨by have := HJ1.out; have := HJ17.out; have := HJ22.out; first | omega | exact Nat.le_refl _⟩, ⟨by (with_reducible repeat (first | refine blk_drewN ?_ _ | refine blk_drew ?_ | refine blk_alloc ?_ _)); exact BK228.out⟩, ⟨by repeat (first | (with_reducible first | exact HB.out | apply below_alloc | apply pw_below_drewN | apply below_drew1 | refine below_set ?_ GE228.out) | exact HB.out)⟩⟩
          case rest =>
           clear HC28
           try clear c1;try clear c2;try clear p2;try clear c4;try clear c4b0;try clear c6;try clear c6b0;try clear c8;try clear c8b0;try clear c8b1;try clear c9;try clear c9b0;try clear c11;try clear c11b0;try clear c11b1;try clear c13;try clear c14;try clear c14b0;try clear c14b1;try clear c17;try clear c19;try clear c19b0;try clear c22;try clear c24;try clear c24b0;try clear c27;try clear c29;try clear c29b0;try clear hcz10_0;try clear hcz10_1;try clear hcz10_2;try clear hcz10_3;try clear hcz10_4;try clear hcz10_5;try clear hcz10_6;try clear hcz12_0;try clear hcz12_1;try clear hcz12_2;try clear hcz12_3;try clear hcz12_4;try clear hcz12_5;try clear hcz12_6;try clear hcz13_0;try clear hcz13_1;try clear hcz13_2;try clear hcz13_3;try clear hcz13_4;try clear hcz13_5;try clear hcz13_6;try clear hcz15_0;try clear hcz15_1;try clear hcz15_2;try clear hcz15_3;try clear hcz15_4;try clear hcz15_5;try clear hcz15_6;try clear hcz16_0;try clear hcz16_1;try clear hcz16_2;try clear hcz16_3;try clear hcz16_4;try clear hcz16_5;try clear hcz16_6;try clear hcz20_0;try clear hcz20_1;try clear hcz20_2;try clear hcz20_3;try clear hcz20_4;try clear hcz20_5;try clear hcz20_6;try clear hcz21_0;try clear hcz21_1;try clear hcz21_2;try clear hcz21_3;try clear hcz21_4;try clear hcz21_5;try clear hcz21_6;try clear hcz25_0;try clear hcz25_1;try clear hcz25_2;try clear hcz25_3;try clear hcz25_4;try clear hcz25_5;try clear hcz25_6;try clear hcz26_0;try clear hcz26_1;try clear hcz26_2;try clear hcz26_3;try clear hcz26_4;try clear hcz26_5;try clear hcz26_6;try clear hcz30_0;try clear hcz30_1;try clear hcz30_2;try clear hcz30_3;try clear hcz30_4;try clear hcz30_5;try clear hcz30_6;try clear hcz31_0;try clear hcz31_1;try clear hcz31_2;try clear hcz31_3;try clear hcz31_4;try clear hcz31_5;try clear hcz31_6;try clear hcz5_0;try clear hcz5_1;try clear hcz5_2;try clear hcz5_3;try clear hcz5_4;try clear hcz5_5;try clear hcz5_6;try clear hcz7_0;try clear hcz7_1;try clear hcz7_2;try clear hcz7_3;try clear hcz7_4;try clear hcz7_5
           try clear hcz7_6;try clear hfz10_0;try clear hfz10_1;try clear hfz10_2;try clear hfz10_3;try clear hfz10_4;try clear hfz10_5;try clear hfz10_6;try clear hfz12_0;try clear hfz12_1;try clear hfz12_2;try clear hfz12_3;try clear hfz12_4;try clear hfz12_5;try clear hfz12_6;try clear hfz13_0;try clear hfz13_1;try clear hfz13_2;try clear hfz13_3;try clear hfz13_4;try clear hfz13_5;try clear hfz13_6;try clear hfz15_0;try clear hfz15_1;try clear hfz15_2;try clear hfz15_3;try clear hfz15_4;try clear hfz15_5;try clear hfz15_6;try clear hfz16_0;try clear hfz16_1;try clear hfz16_2;try clear hfz16_3;try clear hfz16_4;try clear hfz16_5;try clear hfz16_6;try clear hfz20_0;try clear hfz20_1;try clear hfz20_2;try clear hfz20_3;try clear hfz20_4;try clear hfz20_5;try clear hfz20_6;try clear hfz21_0;try clear hfz21_1;try clear hfz21_2;try clear hfz21_3;try clear hfz21_4;try clear hfz21_5;try clear hfz21_6;try clear hfz25_0;try clear hfz25_1;try clear hfz25_2;try clear hfz25_3;try clear hfz25_4;try clear hfz25_5;try clear hfz25_6;try clear hfz26_0;try clear hfz26_1;try clear hfz26_2;try clear hfz26_3;try clear hfz26_4;try clear hfz26_5;try clear hfz26_6;try clear hfz30_0;try clear hfz30_1;try clear hfz30_2;try clear hfz30_3;try clear hfz30_4;try clear hfz30_5;try clear hfz30_6;try clear hfz31_0;try clear hfz31_1;try clear hfz31_2;try clear hfz31_3;try clear hfz31_4;try clear hfz31_5;try clear hfz31_6;try clear hfz5_0;try clear hfz5_1;try clear hfz5_2;try clear hfz5_3;try clear hfz5_4;try clear hfz5_5;try clear hfz5_6;try clear hfz7_0;try clear hfz7_1;try clear hfz7_2;try clear hfz7_3;try clear hfz7_4;try clear hfz7_5;try clear hfz7_6;try clear p2
           obtain ⟨kq, x50_27, rfl, HA, HJ27, BK228, HB⟩ := hcut
           cases kq with
           | zero => exact absurd HA.out (by simp [middenref2_Check.j3])
           | succ kj27 =>
            have H := HA.out
            clear HA
            simp only [middenref2_Check.j3] at H
            by_cases c32 : x50_27 = true
            ·subst c32
             have H1 : (some 23) = some r := by rw [if_pos rfl] at H; exact H
             clear H
             have H := H1
             clear H1
             obtain rfl := Option.some.inj H
             go_wp2
             go_ret
             exact ⟨by first | rfl | (simp [errW_none, errW_some] <;> rfl) | (simp [*, errW_none, errW_some] <;> rfl), by repeat (first | (with_reducible first | exact HB.out | apply below_alloc | apply pw_below_drewN | apply below_drew1 | refine below_set ?_ GE228.out) | exact HB.out)⟩
            ·replace c32 := Bool.eq_false_iff.mpr c32
             subst c32
             have H1 : (if a0_5 < 0 then (some 24) else (if a0_5 > 255 then (some 24) else (some 0))) = some r := by rw [if_neg (show ¬ (false = true) by decide)] at H; exact H
             clear H
             have H := H1
             clear H1
             by_cases c33 : a0_5 < 0
             ·rw [if_pos c33] at H
              have c33b0 : decide (a0_5 < 0) = true := decide_eq_true c33
              clear c33
              obtain rfl := Option.some.inj H
              have hcz34_0 : wc.cell? ⟨gb228, 0, none⟩ = some (.int .u64 a0_0) := (bkC BK228.out 0).trans rfl
              have hcz34_1 : wc.cell? ⟨gb228, 1, none⟩ = some (.int .i64 a0_1) := (bkC BK228.out 1).trans rfl
              have hcz34_2 : wc.cell? ⟨gb228, 2, none⟩ = some (.int .i64 a0_2) := (bkC BK228.out 2).trans rfl
              have hcz34_3 : wc.cell? ⟨gb228, 3, none⟩ = some (.int .i64 a0_3) := (bkC BK228.out 3).trans rfl
              have hcz34_4 : wc.cell? ⟨gb228, 4, none⟩ = some (.int .i64 a0_4) := (bkC BK228.out 4).trans rfl
              have hcz34_5 : wc.cell? ⟨gb228, 5, none⟩ = some (.int .i64 a0_5) := (bkC BK228.out 5).trans rfl
              have hcz34_6 : wc.cell? ⟨gb228, 6, none⟩ = some (.bool a0_6) := (bkC BK228.out 6).trans rfl
              have hfz34_0 := bkF BK228.out 0
              have hfz34_1 := bkF BK228.out 1
              have hfz34_2 := bkF BK228.out 2
              have hfz34_3 := bkF BK228.out 3
              have hfz34_4 := bkF BK228.out 4
              have hfz34_5 := bkF BK228.out 5
              have hfz34_6 := bkF BK228.out 6
              go_wp2
              go_ret
              exact ⟨by first | rfl | (simp [errW_none, errW_some] <;> rfl) | (simp [*, errW_none, errW_some] <;> rfl), by repeat (first | (with_reducible first | exact HB.out | apply below_alloc | apply pw_below_drewN | apply below_drew1 | refine below_set ?_ GE228.out) | exact HB.out)⟩
             ·rw [if_neg c33] at H
              have c33b0 : decide (a0_5 < 0) = false := decide_eq_false c33
              clear c33
              by_cases c35 : a0_5 > 255
              ·rw [if_pos c35] at H
               have c35b0 : decide (255 < a0_5) = true := decide_eq_true c35
               clear c35
               obtain rfl := Option.some.inj H
               have hcz36_0 : wc.cell? ⟨gb228, 0, none⟩ = some (.int .u64 a0_0) := (bkC BK228.out 0).trans rfl
               have hcz36_1 : wc.cell? ⟨gb228, 1, none⟩ = some (.int .i64 a0_1) := (bkC BK228.out 1).trans rfl
               have hcz36_2 : wc.cell? ⟨gb228, 2, none⟩ = some (.int .i64 a0_2) := (bkC BK228.out 2).trans rfl
               have hcz36_3 : wc.cell? ⟨gb228, 3, none⟩ = some (.int .i64 a0_3) := (bkC BK228.out 3).trans rfl
               have hcz36_4 : wc.cell? ⟨gb228, 4, none⟩ = some (.int .i64 a0_4) := (bkC BK228.out 4).trans rfl
               have hcz36_5 : wc.cell? ⟨gb228, 5, none⟩ = some (.int .i64 a0_5) := (bkC BK228.out 5).trans rfl
               have hcz36_6 : wc.cell? ⟨gb228, 6, none⟩ = some (.bool a0_6) := (bkC BK228.out 6).trans rfl
               have hfz36_0 := bkF BK228.out 0
               have hfz36_1 := bkF BK228.out 1
               have hfz36_2 := bkF BK228.out 2
               have hfz36_3 := bkF BK228.out 3
               have hfz36_4 := bkF BK228.out 4
               have hfz36_5 := bkF BK228.out 5
               have hfz36_6 := bkF BK228.out 6
               go_wp2
               go_ret
               exact ⟨by first | rfl | (simp [errW_none, errW_some] <;> rfl) | (simp [*, errW_none, errW_some] <;> rfl), by repeat (first | (with_reducible first | exact HB.out | apply below_alloc | apply pw_below_drewN | apply below_drew1 | refine below_set ?_ GE228.out) | exact HB.out)⟩
              ·rw [if_neg c35] at H
               have c35b0 : decide (255 < a0_5) = false := decide_eq_false c35
               clear c35
               obtain rfl := Option.some.inj H
               have hcz37_0 : wc.cell? ⟨gb228, 0, none⟩ = some (.int .u64 a0_0) := (bkC BK228.out 0).trans rfl
               have hcz37_1 : wc.cell? ⟨gb228, 1, none⟩ = some (.int .i64 a0_1) := (bkC BK228.out 1).trans rfl
               have hcz37_2 : wc.cell? ⟨gb228, 2, none⟩ = some (.int .i64 a0_2) := (bkC BK228.out 2).trans rfl
               have hcz37_3 : wc.cell? ⟨gb228, 3, none⟩ = some (.int .i64 a0_3) := (bkC BK228.out 3).trans rfl
               have hcz37_4 : wc.cell? ⟨gb228, 4, none⟩ = some (.int .i64 a0_4) := (bkC BK228.out 4).trans rfl
               have hcz37_5 : wc.cell? ⟨gb228, 5, none⟩ = some (.int .i64 a0_5) := (bkC BK228.out 5).trans rfl
               have hcz37_6 : wc.cell? ⟨gb228, 6, none⟩ = some (.bool a0_6) := (bkC BK228.out 6).trans rfl
               have hfz37_0 := bkF BK228.out 0
               have hfz37_1 := bkF BK228.out 1
               have hfz37_2 := bkF BK228.out 2
               have hfz37_3 := bkF BK228.out 3
               have hfz37_4 := bkF BK228.out 4
               have hfz37_5 := bkF BK228.out 5
               have hfz37_6 := bkF BK228.out 6
               go_wp2
               go_ret
               exact ⟨by first | rfl | (simp [errW_none, errW_some] <;> rfl) | (simp [*, errW_none, errW_some] <;> rfl), by repeat (first | (with_reducible first | exact HB.out | apply below_alloc | apply pw_below_drewN | apply below_drew1 | refine below_set ?_ GE228.out) | exact HB.out)⟩
end Go.Proofs.YtogpgkoelplknaaDoor.PLensPaths
