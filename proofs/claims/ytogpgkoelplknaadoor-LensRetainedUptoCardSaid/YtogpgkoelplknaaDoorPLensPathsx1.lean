import Derived.Test.YtogpgkoelplknaaDoorPLensPathsx0
namespace Go.Proofs.YtogpgkoelplknaaDoor.PLensPaths
open Go.RowKit Go.Proofs.YtogpgkoelplknaaDoorW.PrintWords Go.Proofs.YtogpgkoelplknaaDoorW.PrintLast Go.Proofs.YtogpgkoelplknaaDoorW.PrintMore
attribute [local go_sem] max2_int min2_int max_two min_two max_three min_three max_four min_four
set_option linter.unusedVariables false
set_option linter.unusedSimpArgs false
def image_numbers.l0 : Nat -> Int -> List Int -> Int -> Int -> List (S59) -> List (List (List Int)) -> List Int -> List Int -> List Int -> Int -> Option (Bool)
 | 0, _, _, _, _, _, _, _, _, _, _ => none
 | k + 1, x2, x9, x10, x11, x147000, x147001, x147002, x147003, x147004, x147005 => if x11 < x10 then (if 0 <= x11 then (if x11 < (x9.length : Int) then (if (rd x9 x11) < x2 then (some false) else (if (rd x9 x11) > (x147000.length : Int) then (some false) else (image_numbers.l0 k x2 x9 x10 (wrap64 (x11 + 1)) x147000 x147001 x147002 x147003 x147004 x147005))) else (none)) else (none)) else (some true)
def image_numbers.f (k : Nat) (l0_0 : List (S59)) (l0_1 : List (List (List Int))) (l0_2 : List Int) (l0_3 : List Int) (l0_4 : List Int) (a0_5 : Int) (l1 : List Int) (a2 : Int) : Option (Bool) := image_numbers.l0 k a2 l1 (l1.length : Int) 0 l0_0 l0_1 l0_2 l0_3 l0_4 a0_5
theorem image_numbers.mono_l : ∀ k, (∀ y0 y1 y2 y3 y4 y5 y6 y7 y8 y9, LeO (image_numbers.l0 k y0 y1 y2 y3 y4 y5 y6 y7 y8 y9) (image_numbers.l0 (k + 1) y0 y1 y2 y3 y4 y5 y6 y7 y8 y9))
 | 0 => fun _ _ _ _ _ _ _ _ _ _ r h => by simp [image_numbers.l0] at h
 | k + 1 => by
  have ih0 := image_numbers.mono_l k
  ·intro y0 y1 y2 y3 y4 y5 y6 y7 y8 y9
   unfold image_numbers.l0
   repeat' first
   | (with_reducible first | exact ih0 _ _ _ _ _ _ _ _ _ _ | exact LeO.refl _ | exact LeO.none _ | refine LeO.ite ?_ ?_ | refine LeO.bind ?_ (fun _ => ?_))
   | exact ih0 _ _ _ _ _ _ _ _ _ _
   | exact LeO.none _
   | refine LeO.ite ?_ ?_
   | refine LeO.bind ?_ (fun _ => ?_)
theorem image_numbers.mono : ∀ a0 a1 a2 a3 a4 a5 a6 a7 k, LeO (image_numbers.f k a0 a1 a2 a3 a4 a5 a6 a7) (image_numbers.f (k + 1) a0 a1 a2 a3 a4 a5 a6 a7) := by
 intro a0 a1 a2 a3 a4 a5 a6 a7 k
 have ih0 := image_numbers.mono_l k
 unfold image_numbers.f
 repeat' first
   | (with_reducible first | exact ih0 _ _ _ _ _ _ _ _ _ _ | exact LeO.refl _ | exact LeO.none _ | refine LeO.ite ?_ ?_ | refine LeO.bind ?_ (fun _ => ?_))
   | exact ih0 _ _ _ _ _ _ _ _ _ _
   | exact LeO.none _
   | refine LeO.ite ?_ ?_
   | refine LeO.bind ?_ (fun _ => ?_)
set_option maxHeartbeats 8000000 in
set_option maxRecDepth 100000 in
theorem image_numbers.calls (k : Nat) (A0_0 : Option Addr) (c0_0 : Nat) (l0_0 : List (S59)) (A0_1 : Option Addr) (c0_1 : Nat) (l0_1 : List (List (List Int))) (A0_2 : Option Addr) (c0_2 : Nat) (l0_2 : List Int) (A0_3 : Option Addr) (c0_3 : Nat) (l0_3 : List Int) (A0_4 : Option Addr) (c0_4 : Nat) (l0_4 : List Int) (a0_5 : Int) (A1 : Option Addr) (c1 : Nat) (l1 : List Int) (a2 : Int) (r : Bool) (w : World) (hr0_0 : Kd.C k59 w A0_0 l0_0.length l0_0) (hc0_0 : l0_0.length <= c0_0) (hr0_1 : Kd.C (Kd.slice 24 (Kd.slice 3 (Kd.int .i64))) w A0_1 l0_1.length l0_1) (hc0_1 : l0_1.length <= c0_1) (hr0_2 : Kd.C (Kd.int .i64) w A0_2 l0_2.length l0_2) (hc0_2 : l0_2.length <= c0_2) (hr0_3 : Kd.C (Kd.int .i64) w A0_3 l0_3.length l0_3) (hc0_3 : l0_3.length <= c0_3) (hr0_4 : Kd.C (Kd.int .i64) w A0_4 l0_4.length l0_4) (hc0_4 : l0_4.length <= c0_4) (hr1 : Kd.C (Kd.int .i64) w A1 l1.length l1) (hc1 : l1.length <= c1) (h : image_numbers.f k l0_0 l0_1 l0_2 l0_3 l0_4 a0_5 l1 a2 = some r) :
  Calls Tryd.prog 114 #[.agg #[.slice A0_0 l0_0.length c0_0, .slice A0_1 l0_1.length c0_1, .slice A0_2 l0_2.length c0_2, .slice A0_3 l0_3.length c0_3, .slice A0_4 l0_4.length c0_4, .int .u64 a0_5], .slice A1 l1.length c1, .int .i64 a2] w fun e w' => e = .returned (.bool r) /\ Below w.heap.size w w' := by
 have hu27 := Tryd.underlying27
 have HR0_0 := Aside0.mk hr0_0
 have HC0_0 := Aside0.mk hc0_0
 clear hr0_0 hc0_0
 have HR0_1 := Aside0.mk hr0_1
 have HC0_1 := Aside0.mk hc0_1
 clear hr0_1 hc0_1
 have HR0_2 := Aside0.mk hr0_2
 have HC0_2 := Aside0.mk hc0_2
 clear hr0_2 hc0_2
 have HR0_3 := Aside0.mk hr0_3
 have HC0_3 := Aside0.mk hc0_3
 clear hr0_3 hc0_3
 have HR0_4 := Aside0.mk hr0_4
 have HC0_4 := Aside0.mk hc0_4
 clear hr0_4 hc0_4
 have HR1 := Aside0.mk hr1
 have HC1 := Aside0.mk hc1
 clear hr1 hc1
 have HB := Aside0.mk (Below.refl w.heap.size w)
 have H : (image_numbers.l0 k a2 l1 (l1.length : Int) 0 l0_0 l0_1 l0_2 l0_3 l0_4 a0_5) = some r := h
 clear h
 have H' := Aside0.mk H
 clear H
 go_enter Tryd.func114, Tryd.ntmps114
 go_wp2_with (first | ((with_reducible refine gate_dst (N := 3) rfl ?_); (try (refine gate_guard (by rfl) ?_; dsimp only)); refine box_event ?hg (N := 3) ?hd (cs := #[.slice A0_0 l0_0.length c0_0, .slice A0_1 l0_1.length c0_1, .slice A0_2 l0_2.length c0_2, .slice A0_3 l0_3.length c0_3, .slice A0_4 l0_4.length c0_4, .int .u64 a0_5]) (t := 27) ?hr ?_; (case hd => rfl); (case hg => rfl); (case hr => first | (go_simp; done) | (go_simp; rfl)); intro gb146 hg w4 hbox hb; have n0_ := Aside0.mk (below_step (by repeat (first | (with_reducible first | exact HB.out | apply below_alloc | apply pw_below_drewN | apply below_drew1) | exact HB.out)) hb); have n1_ := Aside0.mk (hbox); have n2_ := Aside0.mk ((by rw [hg]; exact (below_size (by repeat (first | (with_reducible first | exact HB.out | apply below_alloc | apply pw_below_drewN | apply below_drew1) | exact HB.out))) : w.heap.size <= gb146)); have n3_ := Aside0.mk ((by rw [hg]; exact (below_size (by repeat (first | (with_reducible first | exact HB.out | apply below_alloc | apply pw_below_drewN | apply below_drew1) | exact HB.out))) : w.heap.size <= gb146)); clear HB; have HB := n0_; have BK146 := n1_; have GW146 := n2_; have GE146 := n3_; clear n0_ n1_ n2_ n3_; clear hb hbox hg))
 go_loopg [11] k (fun kq v11 w' => ∃ (x11_1 : Int), v11 = .int .i64 x11_1 /\ Aside0 (image_numbers.l0 kq a2 l1 (l1.length : Int) x11_1 l0_0 l0_1 l0_2 l0_3 l0_4 a0_5 = some r) /\ Aside0 (kq <= k) /\ Aside0 (w'.heap[gb146]? = some (.cells #[(.slice A0_0 l0_0.length c0_0), (.slice A0_1 l0_1.length c0_1), (.slice A0_2 l0_2.length c0_2), (.slice A0_3 l0_3.length c0_3), (.slice A0_4 l0_4.length c0_4), .int .u64 a0_5] 27 (0, 0))) /\ Aside0 (Below w.heap.size w w'))
 case atStart => exact ⟨(0), (by first | rfl | (simp; done) | (simp [*]; done)), H', ⟨Nat.le_refl _⟩, ⟨by (with_reducible repeat (first | refine blk_drewN ?_ _ | refine blk_drew ?_ | refine blk_alloc ?_ _)); exact BK146.out⟩, ⟨by repeat (first | (with_reducible first | exact HB.out | apply below_alloc | apply pw_below_drewN | apply below_drew1 | refine below_set ?_ GE146.out) | exact HB.out)⟩⟩
 case round =>
  clear H'
  try clear c1;try clear p2
  obtain ⟨x11_1, rfl, HA, HK1, BK146, HB⟩ := hrel
  cases gk with
  | zero => exact absurd HA.out (by simp [image_numbers.l0])
  | succ k1 =>
   have H := HA.out
   clear HA
   simp only [image_numbers.l0] at H
   by_cases c5 : x11_1 < (l1.length : Int)
   ·rw [if_pos c5] at H
    have c5b0 : decide (x11_1 < (l1.length : Int)) = true := decide_eq_true c5
    clear c5
    by_cases c6 : 0 <= x11_1
    ·rw [if_pos c6] at H
     have c6b0 : decide (0 <= x11_1) = true := decide_eq_true c6
     clear c6
     by_cases c7 : x11_1 < (l1.length : Int)
     ·rw [if_pos c7] at H
      have c7b0 : decide (x11_1 < (l1.length : Int)) = true := decide_eq_true c7
      clear c7
      by_cases c8 : (rd l1 x11_1) < a2
      ·rw [if_pos c8] at H
       have c8b0 : decide ((rd l1 x11_1) < a2) = true := decide_eq_true c8
       clear c8
       obtain rfl := Option.some.inj H
       have p147 : 0 <= (x11_1 : Int) := of_decide_eq_true (by first | (with_reducible assumption) | assumption)
       have q147 : x11_1 < (l1.length : Int) := of_decide_eq_true (by first | (with_reducible assumption) | assumption)
       obtain ⟨ad147, e147, hx147_0⟩ := Kd.at_int HR1.out x11_1 p147 q147
       cases e147
       replace hx147_0 := (HB.out.cell (World.block_lt_of_cell? w _ hx147_0)).trans hx147_0
       replace p147 := eq_true p147
       replace q147 := eq_true q147
       go_wp2
       go_ret
       exact ⟨by first | rfl | (simp [errW_none, errW_some] <;> rfl) | (simp [*, errW_none, errW_some] <;> rfl), by repeat (first | (with_reducible first | exact HB.out | apply below_alloc | apply pw_below_drewN | apply below_drew1 | refine below_set ?_ GE146.out) | exact HB.out)⟩
      ·rw [if_neg c8] at H
       have c8b0 : decide ((rd l1 x11_1) < a2) = false := decide_eq_false c8
       clear c8
       by_cases c9 : (rd l1 x11_1) > (l0_0.length : Int)
       ·rw [if_pos c9] at H
        have c9b0 : decide ((l0_0.length : Int) < (rd l1 x11_1)) = true := decide_eq_true c9
        clear c9
        obtain rfl := Option.some.inj H
        have p147 : 0 <= (x11_1 : Int) := of_decide_eq_true (by first | (with_reducible assumption) | assumption)
        have q147 : x11_1 < (l1.length : Int) := of_decide_eq_true (by first | (with_reducible assumption) | assumption)
        obtain ⟨ad147, e147, hx147_0⟩ := Kd.at_int HR1.out x11_1 p147 q147
        cases e147
        replace hx147_0 := (HB.out.cell (World.block_lt_of_cell? w _ hx147_0)).trans hx147_0
        replace p147 := eq_true p147
        replace q147 := eq_true q147
        have hcz10_0 : wr.cell? ⟨gb146, 0, none⟩ = some (.slice A0_0 l0_0.length c0_0) := (bkC BK146.out 0).trans rfl
        have hcz10_1 : wr.cell? ⟨gb146, 1, none⟩ = some (.slice A0_1 l0_1.length c0_1) := (bkC BK146.out 1).trans rfl
        have hcz10_2 : wr.cell? ⟨gb146, 2, none⟩ = some (.slice A0_2 l0_2.length c0_2) := (bkC BK146.out 2).trans rfl
        have hcz10_3 : wr.cell? ⟨gb146, 3, none⟩ = some (.slice A0_3 l0_3.length c0_3) := (bkC BK146.out 3).trans rfl
        have hcz10_4 : wr.cell? ⟨gb146, 4, none⟩ = some (.slice A0_4 l0_4.length c0_4) := (bkC BK146.out 4).trans rfl
        have hcz10_5 : wr.cell? ⟨gb146, 5, none⟩ = some (.int .u64 a0_5) := (bkC BK146.out 5).trans rfl
        have hfz10_0 := bkF BK146.out 0
        have hfz10_1 := bkF BK146.out 1
        have hfz10_2 := bkF BK146.out 2
        have hfz10_3 := bkF BK146.out 3
        have hfz10_4 := bkF BK146.out 4
        have hfz10_5 := bkF BK146.out 5
        go_wp2
        go_ret
        exact ⟨by first | rfl | (simp [errW_none, errW_some] <;> rfl) | (simp [*, errW_none, errW_some] <;> rfl), by repeat (first | (with_reducible first | exact HB.out | apply below_alloc | apply pw_below_drewN | apply below_drew1 | refine below_set ?_ GE146.out) | exact HB.out)⟩
       ·rw [if_neg c9] at H
        have c9b0 : decide ((l0_0.length : Int) < (rd l1 x11_1)) = false := decide_eq_false c9
        clear c9
        have H' := Aside0.mk H
        clear H
        have p147 : 0 <= (x11_1 : Int) := of_decide_eq_true (by first | (with_reducible assumption) | assumption)
        have q147 : x11_1 < (l1.length : Int) := of_decide_eq_true (by first | (with_reducible assumption) | assumption)
        obtain ⟨ad147, e147, hx147_0⟩ := Kd.at_int HR1.out x11_1 p147 q147
        cases e147
        replace hx147_0 := (HB.out.cell (World.block_lt_of_cell? w _ hx147_0)).trans hx147_0
        replace p147 := eq_true p147
        replace q147 := eq_true q147
        have hcz11_0 : wr.cell? ⟨gb146, 0, none⟩ = some (.slice A0_0 l0_0.length c0_0) := (bkC BK146.out 0).trans rfl
        have hcz11_1 : wr.cell? ⟨gb146, 1, none⟩ = some (.slice A0_1 l0_1.length c0_1) := (bkC BK146.out 1).trans rfl
        have hcz11_2 : wr.cell? ⟨gb146, 2, none⟩ = some (.slice A0_2 l0_2.length c0_2) := (bkC BK146.out 2).trans rfl
        have hcz11_3 : wr.cell? ⟨gb146, 3, none⟩ = some (.slice A0_3 l0_3.length c0_3) := (bkC BK146.out 3).trans rfl
        have hcz11_4 : wr.cell? ⟨gb146, 4, none⟩ = some (.slice A0_4 l0_4.length c0_4) := (bkC BK146.out 4).trans rfl
        have hcz11_5 : wr.cell? ⟨gb146, 5, none⟩ = some (.int .u64 a0_5) := (bkC BK146.out 5).trans rfl
        have hfz11_0 := bkF BK146.out 0
        have hfz11_1 := bkF BK146.out 1
        have hfz11_2 := bkF BK146.out 2
        have hfz11_3 := bkF BK146.out 3
        have hfz11_4 := bkF BK146.out 4
        have hfz11_5 := bkF BK146.out 5
        go_wp2
        go_roundg k1
        case measure => have := HK1.out; omega
        case rel => exact ⟨(wrap64 (x11_1 + 1)), (by first | rfl | (simp; done) | (simp [*]; done)), H', ⟨by have := HK1.out; omega⟩, ⟨by (with_reducible repeat (first | refine blk_drewN ?_ _ | refine blk_drew ?_ | refine blk_alloc ?_ _)); exact BK146.out⟩, ⟨by repeat (first | (with_reducible first | exact HB.out | apply below_alloc | apply pw_below_drewN | apply below_drew1 | refine below_set ?_ GE146.out) | exact HB.out)⟩⟩
     ·rw [if_neg c7] at H
      exact absurd H (by simp)
    ·rw [if_neg c6] at H
     exact absurd H (by simp)
   ·rw [if_neg c5] at H
    have c5b0 : decide (x11_1 < (l1.length : Int)) = false := decide_eq_false c5
    clear c5
    obtain rfl := Option.some.inj H
    go_wp2
    go_ret
    exact ⟨by first | rfl | (simp [errW_none, errW_some] <;> rfl) | (simp [*, errW_none, errW_some] <;> rfl), by repeat (first | (with_reducible first | exact HB.out | apply below_alloc | apply pw_below_drewN | apply below_drew1 | refine below_set ?_ GE146.out) | exact HB.out)⟩
def image_registry.l0 : Nat -> List Int -> List (S59) -> Int -> Int -> Option (List Int)
 | 0, _, _, _, _ => none
 | k + 1, x3, x7, x8, x9 => if x9 < x8 then (if 0 <= x9 then (if x9 < (x7.length : Int) then (if ((rd_T59 x7 x9).f1) = 4 then (if x3.length < 17592186044416 then (image_registry.l0 k (x3 ++ [wrap64 (x9 + 1)]) x7 x8 (wrap64 (x9 + 1))) else (none)) else (image_registry.l0 k x3 x7 x8 (wrap64 (x9 + 1)))) else (none)) else (none)) else (some x3)
def image_registry.f (k : Nat) (l0_0 : List (S59)) (l0_1 : List (List (List Int))) (l0_2 : List Int) (l0_3 : List Int) (l0_4 : List Int) (a0_5 : Int) : Option (List Int) := image_registry.l0 k ([] : List Int) l0_0 (l0_0.length : Int) 0
theorem image_registry.mono_l : ∀ k, (∀ y0 y1 y2 y3, LeO (image_registry.l0 k y0 y1 y2 y3) (image_registry.l0 (k + 1) y0 y1 y2 y3))
 | 0 => fun _ _ _ _ r h => by simp [image_registry.l0] at h
 | k + 1 => by
  have ih0 := image_registry.mono_l k
  ·intro y0 y1 y2 y3
   unfold image_registry.l0
   repeat' first
   | (with_reducible first | exact ih0 _ _ _ _ | exact LeO.refl _ | exact LeO.none _ | refine LeO.ite ?_ ?_ | refine LeO.bind ?_ (fun _ => ?_))
   | exact ih0 _ _ _ _
   | exact LeO.none _
   | refine LeO.ite ?_ ?_
   | refine LeO.bind ?_ (fun _ => ?_)
theorem image_registry.mono : ∀ a0 a1 a2 a3 a4 a5 k, LeO (image_registry.f k a0 a1 a2 a3 a4 a5) (image_registry.f (k + 1) a0 a1 a2 a3 a4 a5) := by
 intro a0 a1 a2 a3 a4 a5 k
 have ih0 := image_registry.mono_l k
 unfold image_registry.f
 repeat' first
   | (with_reducible first | exact ih0 _ _ _ _ | exact LeO.refl _ | exact LeO.none _ | refine LeO.ite ?_ ?_ | refine LeO.bind ?_ (fun _ => ?_))
   | exact ih0 _ _ _ _
   | exact LeO.none _
   | refine LeO.ite ?_ ?_
   | refine LeO.bind ?_ (fun _ => ?_)
set_option maxHeartbeats 8000000 in
set_option maxRecDepth 100000 in
theorem image_registry.calls (k : Nat) (A0_0 : Option Addr) (c0_0 : Nat) (l0_0 : List (S59)) (A0_1 : Option Addr) (c0_1 : Nat) (l0_1 : List (List (List Int))) (A0_2 : Option Addr) (c0_2 : Nat) (l0_2 : List Int) (A0_3 : Option Addr) (c0_3 : Nat) (l0_3 : List Int) (A0_4 : Option Addr) (c0_4 : Nat) (l0_4 : List Int) (a0_5 : Int) (r : List Int) (w : World) (hr0_0 : Kd.C k59 w A0_0 l0_0.length l0_0) (hc0_0 : l0_0.length <= c0_0) (hr0_1 : Kd.C (Kd.slice 24 (Kd.slice 3 (Kd.int .i64))) w A0_1 l0_1.length l0_1) (hc0_1 : l0_1.length <= c0_1) (hr0_2 : Kd.C (Kd.int .i64) w A0_2 l0_2.length l0_2) (hc0_2 : l0_2.length <= c0_2) (hr0_3 : Kd.C (Kd.int .i64) w A0_3 l0_3.length l0_3) (hc0_3 : l0_3.length <= c0_3) (hr0_4 : Kd.C (Kd.int .i64) w A0_4 l0_4.length l0_4) (hc0_4 : l0_4.length <= c0_4) (h : image_registry.f k l0_0 l0_1 l0_2 l0_3 l0_4 a0_5 = some r) :
  Calls Tryd.prog 115 #[.agg #[.slice A0_0 l0_0.length c0_0, .slice A0_1 l0_1.length c0_1, .slice A0_2 l0_2.length c0_2, .slice A0_3 l0_3.length c0_3, .slice A0_4 l0_4.length c0_4, .int .u64 a0_5]] w fun e w' => ∃ v0_ : Value, e = .returned (v0_) /\ Kd.R (Kd.int .i64) 3 w' w.heap.size (fun _ => True) v0_ r /\ Below w.heap.size w w' := by
 have hu27 := Tryd.underlying27
 have hu59 := Tryd.underlying59
 have HR0_0 := Aside0.mk hr0_0
 have HC0_0 := Aside0.mk hc0_0
 clear hr0_0 hc0_0
 have HR0_1 := Aside0.mk hr0_1
 have HC0_1 := Aside0.mk hc0_1
 clear hr0_1 hc0_1
 have HR0_2 := Aside0.mk hr0_2
 have HC0_2 := Aside0.mk hc0_2
 clear hr0_2 hc0_2
 have HR0_3 := Aside0.mk hr0_3
 have HC0_3 := Aside0.mk hc0_3
 clear hr0_3 hc0_3
 have HR0_4 := Aside0.mk hr0_4
 have HC0_4 := Aside0.mk hc0_4
 clear hr0_4 hc0_4
 have HB := Aside0.mk (Below.refl w.heap.size w)
 have H : (image_registry.l0 k ([] : List Int) l0_0 (l0_0.length : Int) 0) = some r := h
 clear h
 have H' := Aside0.mk H
 clear H
 go_enter Tryd.func115, Tryd.ntmps115
 go_wp2_with (first | ((with_reducible refine gate_dst (N := 1) rfl ?_); refine box_event ?hg (N := 1) ?hd (cs := #[.slice A0_0 l0_0.length c0_0, .slice A0_1 l0_1.length c0_1, .slice A0_2 l0_2.length c0_2, .slice A0_3 l0_3.length c0_3, .slice A0_4 l0_4.length c0_4, .int .u64 a0_5]) (t := 27) ?hr ?_; (case hd => rfl); (case hg => rfl); (case hr => first | (go_simp; done) | (go_simp; rfl)); intro gb151 hg w2 hbox hb; have n0_ := Aside0.mk (below_step (by repeat (first | (with_reducible first | exact HB.out | apply below_alloc | apply pw_below_drewN | apply below_drew1) | exact HB.out)) hb); have n1_ := Aside0.mk (hbox); have n2_ := Aside0.mk ((by rw [hg]; exact (below_size (by repeat (first | (with_reducible first | exact HB.out | apply below_alloc | apply pw_below_drewN | apply below_drew1) | exact HB.out))) : w.heap.size <= gb151)); have n3_ := Aside0.mk ((by rw [hg]; exact (below_size (by repeat (first | (with_reducible first | exact HB.out | apply below_alloc | apply pw_below_drewN | apply below_drew1) | exact HB.out))) : w.heap.size <= gb151)); clear HB; have HB := n0_; have BK151 := n1_; have GW151 := n2_; have GE151 := n3_; clear n0_ n1_ n2_ n3_; clear hb hbox hg; have hcz3_0 : w2.cell? ⟨gb151, 0, none⟩ = some (.slice A0_0 l0_0.length c0_0) := (bkC BK151.out 0).trans rfl; have hcz3_1 : w2.cell? ⟨gb151, 1, none⟩ = some (.slice A0_1 l0_1.length c0_1) := (bkC BK151.out 1).trans rfl; have hcz3_2 : w2.cell? ⟨gb151, 2, none⟩ = some (.slice A0_2 l0_2.length c0_2) := (bkC BK151.out 2).trans rfl; have hcz3_3 : w2.cell? ⟨gb151, 3, none⟩ = some (.slice A0_3 l0_3.length c0_3) := (bkC BK151.out 3).trans rfl; have hcz3_4 : w2.cell? ⟨gb151, 4, none⟩ = some (.slice A0_4 l0_4.length c0_4) := (bkC BK151.out 4).trans rfl; have hcz3_5 : w2.cell? ⟨gb151, 5, none⟩ = some (.int .u64 a0_5) := (bkC BK151.out 5).trans rfl; have hfz3_0 := bkF BK151.out 0; have hfz3_1 := bkF BK151.out 1; have hfz3_2 := bkF BK151.out 2; have hfz3_3 := bkF BK151.out 3; have hfz3_4 := bkF BK151.out 4; have hfz3_5 := bkF BK151.out 5))
 go_loopg [3, 9] k (fun kq v3 v9 w' => ∃ (x3_1 : List Int) (x9_1 : Int), v9 = .int .i64 x9_1 /\ Aside0 (image_registry.l0 kq x3_1 l0_0 (l0_0.length : Int) x9_1 = some r) /\ Aside0 (kq <= k) /\ Aside0 (Kd.R (Kd.int .i64) 3 w' w.heap.size (fun _ => True) v3 x3_1) /\ Aside0 (w'.heap[gb151]? = some (.cells #[(.slice A0_0 l0_0.length c0_0), (.slice A0_1 l0_1.length c0_1), (.slice A0_2 l0_2.length c0_2), (.slice A0_3 l0_3.length c0_3), (.slice A0_4 l0_4.length c0_4), .int .u64 a0_5] 27 (0, 0))) /\ Aside0 (Below w.heap.size w w'))
 case atStart => exact ⟨(([] : List Int)), (0), (by first | rfl | (simp; done) | (simp [*]; done)), H', ⟨Nat.le_refl _⟩, ⟨by first | exact Kd.R_nil _ _ _ _ _ | exact Kd.N_nil _ _ _ _ _ | exact Kd.V_nil _ _ _ _ _ | exact Kd.Q_nil _ _ _ _ _ | exact Kd.S_nil _ _ _ _ _⟩, ⟨by (with_reducible repeat (first | refine blk_drewN ?_ _ | refine blk_drew ?_ | refine blk_alloc ?_ _)); exact BK151.out⟩, ⟨by repeat (first | (with_reducible first | exact HB.out | apply below_alloc | apply pw_below_drewN | apply below_drew1 | refine below_set ?_ GE151.out) | exact HB.out)⟩⟩
 case round =>
  clear H'
  try clear c1;try clear p2;try clear hcz3_0;try clear hcz3_1;try clear hcz3_2;try clear hcz3_3;try clear hcz3_4;try clear hcz3_5;try clear hfz3_0;try clear hfz3_1;try clear hfz3_2;try clear hfz3_3;try clear hfz3_4;try clear hfz3_5
  obtain ⟨x3_1, x9_1, rfl, HA, HK1, HO_3, BK151, HB⟩ := hrel
  cases gk with
  | zero => exact absurd HA.out (by simp [image_registry.l0])
  | succ k1 =>
   have H := HA.out
   clear HA
   simp only [image_registry.l0] at H
   by_cases c4 : x9_1 < (l0_0.length : Int)
   ·rw [if_pos c4] at H
    have c4b0 : decide (x9_1 < (l0_0.length : Int)) = true := decide_eq_true c4
    clear c4
    by_cases c5 : 0 <= x9_1
    ·rw [if_pos c5] at H
     have c5b0 : decide (0 <= x9_1) = true := decide_eq_true c5
     clear c5
     by_cases c6 : x9_1 < (l0_0.length : Int)
     ·rw [if_pos c6] at H
      have c6b0 : decide (x9_1 < (l0_0.length : Int)) = true := decide_eq_true c6
      clear c6
      by_cases c7 : ((rd_T59 l0_0 x9_1).f1) = 4
      ·rw [if_pos c7] at H
       have c7b0 : (((rd_T59 l0_0 x9_1).f1) == 4) = true := beq_iff_eq.mpr c7
       have c7b1 : (((rd_T59 l0_0 x9_1).f1) != 4) = false := bne_eq_false_iff_eq.mpr c7
       clear c7
       by_cases c8 : x3_1.length < 17592186044416
       ·rw [if_pos c8] at H
        have LMc8 := Aside0.mk c8
        clear c8
        obtain ⟨y154, hy154⟩ : ∃ y_ : List Int, y_ = (x3_1 ++ [wrap64 (x9_1 + 1)]) := ⟨_, rfl⟩
        replace H : (image_registry.l0 k1 y154 l0_0 (l0_0.length : Int) (wrap64 (x9_1 + 1))) = some r := by first | (rw [hy154]; with_reducible exact H) | (have H2_ := (Option.bind_some _ _).symm.trans H; rw [hy154]; with_reducible exact H2_) | (have H2_ := (Option.bind_some _ _).symm.trans H; with_reducible exact H2_) | with_reducible exact H | (rw [hy154]; exact H) | exact H
        have Ny154 := Aside0.mk hy154
        clear hy154
        have H' := Aside0.mk H
        clear H
        have p152 : 0 <= (x9_1 : Int) := of_decide_eq_true (by first | (with_reducible assumption) | assumption)
        have q152 : x9_1 < (l0_0.length : Int) := of_decide_eq_true (by first | (with_reducible assumption) | assumption)
        obtain ⟨ad152, A152_3, c152_3, A152_4, c152_4, e152, hx152_0, hx152_1, hx152_2, hx152_3, hx152_4, hl152_3, hi152_3, hl152_4, hi152_4⟩ := at_T59 HR0_0.out x9_1 p152 q152
        cases e152
        replace hx152_0 := (HB.out.cell (World.block_lt_of_cell? w _ hx152_0)).trans hx152_0
        replace hx152_1 := (HB.out.cell (World.block_lt_of_cell? w _ hx152_1)).trans hx152_1
        replace hx152_2 := (HB.out.cell (World.block_lt_of_cell? w _ hx152_2)).trans hx152_2
        replace hx152_3 := (HB.out.cell (World.block_lt_of_cell? w _ hx152_3)).trans hx152_3
        replace hx152_4 := (HB.out.cell (World.block_lt_of_cell? w _ hx152_4)).trans hx152_4
        have HR152_3 := Aside0.mk hi152_3
        have HC152_3 := Aside0.mk hl152_3
        clear hi152_3 hl152_3
        have HR152_4 := Aside0.mk hi152_4
        have HC152_4 := Aside0.mk hl152_4
        clear hi152_4 hl152_4
        replace p152 := eq_true p152
        replace q152 := eq_true q152
        go_wp2_with (first | ((with_reducible refine gate_dst (N := 5) rfl ?_); refine box_event ?hg (N := 5) ?hd (cs := #[.int .u64 0, .int .i64 0, .int .i64 0, .slice none 0 0, .slice none 0 0]) (t := 59) ?hr ?_; (case hd => rfl); (case hg => rfl); (case hr => first | (go_simp; done) | (go_simp; rfl)); intro gb153 hg w9 hbox hb; have n0_ := Aside0.mk (Kd.R_below (by (with_reducible repeat (first | apply Kd.R_alloc | apply Kd.R_drewN | apply Kd.R_drew)); exact HO_3.out) hb); have n1_ := Aside0.mk (blk_below (g := gb151) (o := .cells #[.slice (some ad152) l0_0.length c0_0, .slice A0_1 l0_1.length c0_1, .slice A0_2 l0_2.length c0_2, .slice A0_3 l0_3.length c0_3, .slice A0_4 l0_4.length c0_4, .int .u64 a0_5] 27 (0, 0)) (by (with_reducible repeat (first | refine blk_drewN ?_ _ | refine blk_drew ?_ | refine blk_alloc ?_ _)); exact BK151.out) hb); have n2_ := Aside0.mk (below_step (by repeat (first | (with_reducible first | exact HB.out | apply below_alloc | apply pw_below_drewN | apply below_drew1 | refine below_set ?_ GE151.out) | exact HB.out)) hb); have n3_ := Aside0.mk (hbox); have n4_ := Aside0.mk ((by rw [hg]; exact (below_size (by repeat (first | (with_reducible first | exact HB.out | apply below_alloc | apply pw_below_drewN | apply below_drew1 | refine below_set ?_ GE151.out) | exact HB.out))) : w.heap.size <= gb153)); have n5_ := Aside0.mk ((by rw [hg]; exact (below_size (by repeat (first | (with_reducible first | exact HB.out | apply below_alloc | apply pw_below_drewN | apply below_drew1 | refine below_set ?_ GE151.out) | exact HB.out))) : w.heap.size <= gb153)); have n6_ := Aside0.mk ((by rw [hg]; exact Nat.ne_of_lt (blk_lt (g := gb151) (o := .cells #[.slice (some ad152) l0_0.length c0_0, .slice A0_1 l0_1.length c0_1, .slice A0_2 l0_2.length c0_2, .slice A0_3 l0_3.length c0_3, .slice A0_4 l0_4.length c0_4, .int .u64 a0_5] 27 (0, 0)) (by (with_reducible repeat (first | refine blk_drewN ?_ _ | refine blk_drew ?_ | refine blk_alloc ?_ _)); exact BK151.out)) : gb151 ≠ gb153)); have n7_ := Aside0.mk ((by rw [hg]; exact Nat.ne_of_gt (blk_lt (g := gb151) (o := .cells #[.slice (some ad152) l0_0.length c0_0, .slice A0_1 l0_1.length c0_1, .slice A0_2 l0_2.length c0_2, .slice A0_3 l0_3.length c0_3, .slice A0_4 l0_4.length c0_4, .int .u64 a0_5] 27 (0, 0)) (by (with_reducible repeat (first | refine blk_drewN ?_ _ | refine blk_drew ?_ | refine blk_alloc ?_ _)); exact BK151.out)) : gb153 ≠ gb151)); clear HO_3; clear BK151; clear HB; have HO_3 := n0_; have BK151 := n1_; have HB := n2_; have BK153 := n3_; have GW153 := n4_; have GE153 := n5_; have NB151_153 := n6_; have NB153_151 := n7_; clear n0_ n1_ n2_ n3_ n4_ n5_ n6_ n7_; clear hb hbox hg; have hnb10 := NB153_151.out; have hnc10 := NB151_153.out; have hcz11_0 : w9.cell? ⟨gb153, 0, none⟩ = some (.int .u64 0) := (bkC BK153.out 0).trans rfl; have hcz11_1 : w9.cell? ⟨gb153, 1, none⟩ = some (.int .i64 0) := (bkC BK153.out 1).trans rfl; have hcz11_2 : w9.cell? ⟨gb153, 2, none⟩ = some (.int .i64 0) := (bkC BK153.out 2).trans rfl; have hcz11_3 : w9.cell? ⟨gb153, 3, none⟩ = some (.slice none 0 0) := (bkC BK153.out 3).trans rfl; have hcz11_4 : w9.cell? ⟨gb153, 4, none⟩ = some (.slice none 0 0) := (bkC BK153.out 4).trans rfl; have hfz11_0 := bkF BK153.out 0; have hfz11_1 := bkF BK153.out 1; have hfz11_2 := bkF BK153.out 2; have hfz11_3 := bkF BK153.out 3; have hfz11_4 := bkF BK153.out 4) | ((with_reducible refine gate_builtin (b := .append) (xs := #[.tmp 17, .tmp 20]) rfl ?_); at_builtin; refine Kd.R_append (Kd.int .i64) (w0 := w) w.heap.size rfl (.tmp 17) (.tmp 20) 24 3 (.int .i64 0) 8 rfl Tryd.underlying24 info3 rfl (by decide) (by omega) u3 x3_1 (wrap64 (x9_1 + 1)) [.int .i64 (wrap64 (x9_1 + 1))] (fun _ => True) (fun _ => False) rfl (by first | (go_simp; done) | (go_simp; rfl)) ?aP (fun _ hk => hk.elim) ?aF ?aO ?aB ?aS ?aL ?_; (case aP => exact rfl); (case aB => exact (by repeat (first | (with_reducible first | exact HB.out | apply below_alloc | apply pw_below_drewN | apply below_drew1 | refine below_set ?_ GE151.out | refine below_set ?_ GE153.out) | exact HB.out))); (case aF => exact (fun _ _ => trivial)); (case aO => exact (by (with_reducible repeat (first | apply Kd.R_alloc | apply Kd.R_drewN | apply Kd.R_drew)); exact Kd.R_mono (Kd.R_far (p := ⟨gb153, 4, none⟩) (Kd.R_far (p := ⟨gb153, 3, none⟩) (Kd.R_far (p := ⟨gb153, 2, none⟩) (Kd.R_far (p := ⟨gb153, 1, none⟩) (Kd.R_far (p := ⟨gb153, 0, none⟩) (Kd.R_types HO_3.out BK153.out (by decide)) (fun _ hk => hk.2) (.int .u64 ((rd_T59 l0_0 x9_1).f0))) (fun _ hk => hk.2) (.int .i64 ((rd_T59 l0_0 x9_1).f1))) (fun _ hk => hk.2) (.int .i64 ((rd_T59 l0_0 x9_1).f2))) (fun _ hk => hk.2) (.slice A152_3 ((rd_T59 l0_0 x9_1).f3).length c152_3)) (fun _ hk => hk.2) (.slice A152_4 ((rd_T59 l0_0 x9_1).f4).length c152_4)) (fun _ hk => trivial))); (case aS => exact (below_size (by repeat (first | (with_reducible first | exact HB.out | apply below_alloc | apply pw_below_drewN | apply below_drew1 | refine below_set ?_ GE151.out | refine below_set ?_ GE153.out) | exact HB.out)))); (case aL => have := LMc8.out; omega); intro v155 w12 ho hb hg hat; rw [<- Ny154.out] at ho; have n0_ := Aside0.mk (blk_grown (g := gb151) (o := .cells #[.slice (some ad152) l0_0.length c0_0, .slice A0_1 l0_1.length c0_1, .slice A0_2 l0_2.length c0_2, .slice A0_3 l0_3.length c0_3, .slice A0_4 l0_4.length c0_4, .int .u64 a0_5] 27 (0, 0)) (by (with_reducible repeat (first | refine blk_drewN ?_ _ | refine blk_drew ?_ | refine blk_alloc ?_ _)); refine blk_far ?_ NB151_153.out _; (with_reducible repeat (first | refine blk_drewN ?_ _ | refine blk_drew ?_ | refine blk_alloc ?_ _)); refine blk_far ?_ NB151_153.out _; (with_reducible repeat (first | refine blk_drewN ?_ _ | refine blk_drew ?_ | refine blk_alloc ?_ _)); refine blk_far ?_ NB151_153.out _; (with_reducible repeat (first | refine blk_drewN ?_ _ | refine blk_drew ?_ | refine blk_alloc ?_ _)); refine blk_far ?_ NB151_153.out _; (with_reducible repeat (first | refine blk_drewN ?_ _ | refine blk_drew ?_ | refine blk_alloc ?_ _)); refine blk_far ?_ NB151_153.out _; (with_reducible repeat (first | refine blk_drewN ?_ _ | refine blk_drew ?_ | refine blk_alloc ?_ _)); exact BK151.out) hg (Kd.R_ne HO_3.out BK151.out (by decide))); have n1_ := Aside0.mk (blk_grown (g := gb153) (o := .cells #[.int .u64 ((rd_T59 l0_0 x9_1).f0), .int .i64 ((rd_T59 l0_0 x9_1).f1), .int .i64 ((rd_T59 l0_0 x9_1).f2), .slice A152_3 ((rd_T59 l0_0 x9_1).f3).length c152_3, .slice A152_4 ((rd_T59 l0_0 x9_1).f4).length c152_4] 59 (0, 0)) (by (with_reducible repeat (first | refine blk_drewN ?_ _ | refine blk_drew ?_ | refine blk_alloc ?_ _)); refine blk_put (cs := #[.int .u64 ((rd_T59 l0_0 x9_1).f0), .int .i64 ((rd_T59 l0_0 x9_1).f1), .int .i64 ((rd_T59 l0_0 x9_1).f2), .slice A152_3 ((rd_T59 l0_0 x9_1).f3).length c152_3, .slice none 0 0]) ?_ 4 _ rfl; (with_reducible repeat (first | refine blk_drewN ?_ _ | refine blk_drew ?_ | refine blk_alloc ?_ _)); refine blk_put (cs := #[.int .u64 ((rd_T59 l0_0 x9_1).f0), .int .i64 ((rd_T59 l0_0 x9_1).f1), .int .i64 ((rd_T59 l0_0 x9_1).f2), .slice none 0 0, .slice none 0 0]) ?_ 3 _ rfl; (with_reducible repeat (first | refine blk_drewN ?_ _ | refine blk_drew ?_ | refine blk_alloc ?_ _)); refine blk_put (cs := #[.int .u64 ((rd_T59 l0_0 x9_1).f0), .int .i64 ((rd_T59 l0_0 x9_1).f1), .int .i64 0, .slice none 0 0, .slice none 0 0]) ?_ 2 _ rfl; (with_reducible repeat (first | refine blk_drewN ?_ _ | refine blk_drew ?_ | refine blk_alloc ?_ _)); refine blk_put (cs := #[.int .u64 ((rd_T59 l0_0 x9_1).f0), .int .i64 0, .int .i64 0, .slice none 0 0, .slice none 0 0]) ?_ 1 _ rfl; (with_reducible repeat (first | refine blk_drewN ?_ _ | refine blk_drew ?_ | refine blk_alloc ?_ _)); refine blk_put (cs := #[.int .u64 0, .int .i64 0, .int .i64 0, .slice none 0 0, .slice none 0 0]) ?_ 0 _ rfl; (with_reducible repeat (first | refine blk_drewN ?_ _ | refine blk_drew ?_ | refine blk_alloc ?_ _)); exact BK153.out) hg (Kd.R_ne HO_3.out BK153.out (by decide))); have n2_ := Aside0.mk (hb); have n3_ := Aside0.mk (ho); clear BK151; clear BK153; clear HB; clear HO_3; have BK151 := n0_; have BK153 := n1_; have HB := n2_; have HO156 := n3_; clear n0_ n1_ n2_ n3_; clear ho hb hg hat))
        go_roundg k1
        case measure => have := HK1.out; omega
        case rel => exact ⟨(y154), (wrap64 (x9_1 + 1)), (by first | rfl | (simp; done) | (simp [*]; done)), H', ⟨by have := HK1.out; omega⟩, ⟨by (with_reducible repeat (first | apply Kd.R_alloc | apply Kd.R_drewN | apply Kd.R_drew)); exact HO156.out⟩, ⟨by (with_reducible repeat (first | refine blk_drewN ?_ _ | refine blk_drew ?_ | refine blk_alloc ?_ _)); exact BK151.out⟩, ⟨by repeat (first | (with_reducible first | exact HB.out | apply below_alloc | apply pw_below_drewN | apply below_drew1 | refine below_set ?_ GE151.out | refine below_set ?_ GE153.out) | exact HB.out)⟩⟩
       ·rw [if_neg c8] at H
        exact absurd H (by simp)
      ·rw [if_neg c7] at H
       have c7b0 : (((rd_T59 l0_0 x9_1).f1) == 4) = false := beq_eq_false_iff_ne.mpr c7
       have c7b1 : (((rd_T59 l0_0 x9_1).f1) != 4) = true := bne_iff_ne.mpr c7
       have H' := Aside0.mk H
       clear H
       have p152 : 0 <= (x9_1 : Int) := of_decide_eq_true (by first | (with_reducible assumption) | assumption)
       have q152 : x9_1 < (l0_0.length : Int) := of_decide_eq_true (by first | (with_reducible assumption) | assumption)
       obtain ⟨ad152, A152_3, c152_3, A152_4, c152_4, e152, hx152_0, hx152_1, hx152_2, hx152_3, hx152_4, hl152_3, hi152_3, hl152_4, hi152_4⟩ := at_T59 HR0_0.out x9_1 p152 q152
       cases e152
       replace hx152_0 := (HB.out.cell (World.block_lt_of_cell? w _ hx152_0)).trans hx152_0
       replace hx152_1 := (HB.out.cell (World.block_lt_of_cell? w _ hx152_1)).trans hx152_1
       replace hx152_2 := (HB.out.cell (World.block_lt_of_cell? w _ hx152_2)).trans hx152_2
       replace hx152_3 := (HB.out.cell (World.block_lt_of_cell? w _ hx152_3)).trans hx152_3
       replace hx152_4 := (HB.out.cell (World.block_lt_of_cell? w _ hx152_4)).trans hx152_4
       have HR152_3 := Aside0.mk hi152_3
       have HC152_3 := Aside0.mk hl152_3
       clear hi152_3 hl152_3
       have HR152_4 := Aside0.mk hi152_4
       have HC152_4 := Aside0.mk hl152_4
       clear hi152_4 hl152_4
       replace p152 := eq_true p152
       replace q152 := eq_true q152
       go_wp2_with (first | ((with_reducible refine gate_dst (N := 5) rfl ?_); refine box_event ?hg (N := 5) ?hd (cs := #[.int .u64 0, .int .i64 0, .int .i64 0, .slice none 0 0, .slice none 0 0]) (t := 59) ?hr ?_; (case hd => rfl); (case hg => rfl); (case hr => first | (go_simp; done) | (go_simp; rfl)); intro gb153 hg w13 hbox hb; have n0_ := Aside0.mk (Kd.R_below (by (with_reducible repeat (first | apply Kd.R_alloc | apply Kd.R_drewN | apply Kd.R_drew)); exact HO_3.out) hb); have n1_ := Aside0.mk (blk_below (g := gb151) (o := .cells #[.slice (some ad152) l0_0.length c0_0, .slice A0_1 l0_1.length c0_1, .slice A0_2 l0_2.length c0_2, .slice A0_3 l0_3.length c0_3, .slice A0_4 l0_4.length c0_4, .int .u64 a0_5] 27 (0, 0)) (by (with_reducible repeat (first | refine blk_drewN ?_ _ | refine blk_drew ?_ | refine blk_alloc ?_ _)); exact BK151.out) hb); have n2_ := Aside0.mk (below_step (by repeat (first | (with_reducible first | exact HB.out | apply below_alloc | apply pw_below_drewN | apply below_drew1 | refine below_set ?_ GE151.out) | exact HB.out)) hb); have n3_ := Aside0.mk (hbox); have n4_ := Aside0.mk ((by rw [hg]; exact (below_size (by repeat (first | (with_reducible first | exact HB.out | apply below_alloc | apply pw_below_drewN | apply below_drew1 | refine below_set ?_ GE151.out) | exact HB.out))) : w.heap.size <= gb153)); have n5_ := Aside0.mk ((by rw [hg]; exact (below_size (by repeat (first | (with_reducible first | exact HB.out | apply below_alloc | apply pw_below_drewN | apply below_drew1 | refine below_set ?_ GE151.out) | exact HB.out))) : w.heap.size <= gb153)); have n6_ := Aside0.mk ((by rw [hg]; exact Nat.ne_of_lt (blk_lt (g := gb151) (o := .cells #[.slice (some ad152) l0_0.length c0_0, .slice A0_1 l0_1.length c0_1, .slice A0_2 l0_2.length c0_2, .slice A0_3 l0_3.length c0_3, .slice A0_4 l0_4.length c0_4, .int .u64 a0_5] 27 (0, 0)) (by (with_reducible repeat (first | refine blk_drewN ?_ _ | refine blk_drew ?_ | refine blk_alloc ?_ _)); exact BK151.out)) : gb151 ≠ gb153)); have n7_ := Aside0.mk ((by rw [hg]; exact Nat.ne_of_gt (blk_lt (g := gb151) (o := .cells #[.slice (some ad152) l0_0.length c0_0, .slice A0_1 l0_1.length c0_1, .slice A0_2 l0_2.length c0_2, .slice A0_3 l0_3.length c0_3, .slice A0_4 l0_4.length c0_4, .int .u64 a0_5] 27 (0, 0)) (by (with_reducible repeat (first | refine blk_drewN ?_ _ | refine blk_drew ?_ | refine blk_alloc ?_ _)); exact BK151.out)) : gb153 ≠ gb151)); clear HO_3; clear BK151; clear HB; have HO_3 := n0_; have BK151 := n1_; have HB := n2_; have BK153 := n3_; have GW153 := n4_; have GE153 := n5_; have NB151_153 := n6_; have NB153_151 := n7_; clear n0_ n1_ n2_ n3_ n4_ n5_ n6_ n7_; clear hb hbox hg; have hnb14 := NB153_151.out; have hnc14 := NB151_153.out; have hcz15_0 : w13.cell? ⟨gb153, 0, none⟩ = some (.int .u64 0) := (bkC BK153.out 0).trans rfl; have hcz15_1 : w13.cell? ⟨gb153, 1, none⟩ = some (.int .i64 0) := (bkC BK153.out 1).trans rfl; have hcz15_2 : w13.cell? ⟨gb153, 2, none⟩ = some (.int .i64 0) := (bkC BK153.out 2).trans rfl; have hcz15_3 : w13.cell? ⟨gb153, 3, none⟩ = some (.slice none 0 0) := (bkC BK153.out 3).trans rfl; have hcz15_4 : w13.cell? ⟨gb153, 4, none⟩ = some (.slice none 0 0) := (bkC BK153.out 4).trans rfl; have hfz15_0 := bkF BK153.out 0; have hfz15_1 := bkF BK153.out 1; have hfz15_2 := bkF BK153.out 2; have hfz15_3 := bkF BK153.out 3; have hfz15_4 := bkF BK153.out 4))
       go_roundg k1
       case measure => have := HK1.out; omega
       case rel => exact ⟨(x3_1), (wrap64 (x9_1 + 1)), (by first | rfl | (simp; done) | (simp [*]; done)), H', ⟨by have := HK1.out; omega⟩, ⟨by (with_reducible repeat (first | apply Kd.R_alloc | apply Kd.R_drewN | apply Kd.R_drew)); exact Kd.R_mono (Kd.R_far (p := ⟨gb153, 4, none⟩) (Kd.R_far (p := ⟨gb153, 3, none⟩) (Kd.R_far (p := ⟨gb153, 2, none⟩) (Kd.R_far (p := ⟨gb153, 1, none⟩) (Kd.R_far (p := ⟨gb153, 0, none⟩) (Kd.R_types HO_3.out BK153.out (by decide)) (fun _ hk => hk.2) (.int .u64 ((rd_T59 l0_0 x9_1).f0))) (fun _ hk => hk.2) (.int .i64 ((rd_T59 l0_0 x9_1).f1))) (fun _ hk => hk.2) (.int .i64 ((rd_T59 l0_0 x9_1).f2))) (fun _ hk => hk.2) (.slice A152_3 ((rd_T59 l0_0 x9_1).f3).length c152_3)) (fun _ hk => hk.2) (.slice A152_4 ((rd_T59 l0_0 x9_1).f4).length c152_4)) (fun _ hk => trivial)⟩, ⟨by (with_reducible repeat (first | refine blk_drewN ?_ _ | refine blk_drew ?_ | refine blk_alloc ?_ _)); refine blk_far ?_ NB151_153.out _; (with_reducible repeat (first | refine blk_drewN ?_ _ | refine blk_drew ?_ | refine blk_alloc ?_ _)); refine blk_far ?_ NB151_153.out _; (with_reducible repeat (first | refine blk_drewN ?_ _ | refine blk_drew ?_ | refine blk_alloc ?_ _)); refine blk_far ?_ NB151_153.out _; (with_reducible repeat (first | refine blk_drewN ?_ _ | refine blk_drew ?_ | refine blk_alloc ?_ _)); refine blk_far ?_ NB151_153.out _; (with_reducible repeat (first | refine blk_drewN ?_ _ | refine blk_drew ?_ | refine blk_alloc ?_ _)); refine blk_far ?_ NB151_153.out _; (with_reducible repeat (first | refine blk_drewN ?_ _ | refine blk_drew ?_ | refine blk_alloc ?_ _)); exact BK151.out⟩, ⟨by repeat (first | (with_reducible first | exact HB.out | apply below_alloc | apply pw_below_drewN | apply below_drew1 | refine below_set ?_ GE151.out | refine below_set ?_ GE153.out) | exact HB.out)⟩⟩
     ·rw [if_neg c6] at H
      exact absurd H (by simp)
    ·rw [if_neg c5] at H
     exact absurd H (by simp)
   ·rw [if_neg c4] at H
    have c4b0 : decide (x9_1 < (l0_0.length : Int)) = false := decide_eq_false c4
    clear c4
    obtain rfl := Option.some.inj H
    go_wp2
    go_ret
    exact ⟨_, by first | rfl | (simp [errW_none, errW_some] <;> rfl) | (simp [*, errW_none, errW_some] <;> rfl), by (with_reducible repeat (first | apply Kd.R_alloc | apply Kd.R_drewN | apply Kd.R_drew)); exact HO_3.out, by repeat (first | (with_reducible first | exact HB.out | apply below_alloc | apply pw_below_drewN | apply below_drew1 | refine below_set ?_ GE151.out) | exact HB.out)⟩
end Go.Proofs.YtogpgkoelplknaaDoor.PLensPaths
