import Derived.Test.YtogpgkoelplknaaDoorPLensPathsx0
namespace Go.Proofs.YtogpgkoelplknaaDoor.PLensPaths
open Go.RowKit Go.Proofs.YtogpgkoelplknaaDoorW.PrintWords Go.Proofs.YtogpgkoelplknaaDoorW.PrintLast Go.Proofs.YtogpgkoelplknaaDoorW.PrintMore
attribute [local go_sem] max2_int min2_int max_two min_two max_three min_three max_four min_four
set_option linter.unusedVariables false
set_option linter.unusedSimpArgs false
mutual
def middenref17_nearest.l0 : Nat -> List Int -> List Int -> Int -> Int -> Int -> Option (Int)
 | 0, _, _, _, _, _ => none
 | k + 1, x0, x1, x2, x7, x8 => if x8 < (x1.length : Int) then (if 0 <= x8 then (if 0 <= (rd x1 x8) then (if (rd x1 x8) < (x0.length : Int) then (if (rd x0 (rd x1 x8)) = 0 then (middenref17_nearest.j1 k x0 x1 x2 x7 x8 (rd x1 x8) true) else (if x2 > 0 then (middenref17_nearest.j1 k x0 x1 x2 x7 x8 (rd x1 x8) ((rd x0 (rd x1 x8)) != x2)) else (middenref17_nearest.j1 k x0 x1 x2 x7 x8 (rd x1 x8) false))) else (none)) else (none)) else (none)) else (some x7)
def middenref17_nearest.j1 : Nat -> List Int -> List Int -> Int -> Int -> Int -> Int -> Bool -> Option (Int)
 | 0, _, _, _, _, _, _, _ => none
 | k + 1, x0, x1, x2, x7, x8, x9, x36 => if x36 = true then (middenref17_nearest.l0 k x0 x1 x2 x7 (wrap64 (x8 + 1))) else (if x7 = 0 then (middenref17_nearest.l0 k x0 x1 x2 x9 (wrap64 (x8 + 1))) else (if 0 <= x9 then (if x9 < (x0.length : Int) then (if 0 <= x7 then (if x7 < (x0.length : Int) then (if (rd x0 x9) < (rd x0 x7) then (middenref17_nearest.l0 k x0 x1 x2 x9 (wrap64 (x8 + 1))) else (if (rd x0 x9) = (rd x0 x7) then (if x9 < x7 then (middenref17_nearest.l0 k x0 x1 x2 x9 (wrap64 (x8 + 1))) else (middenref17_nearest.l0 k x0 x1 x2 x7 (wrap64 (x8 + 1)))) else (middenref17_nearest.l0 k x0 x1 x2 x7 (wrap64 (x8 + 1))))) else (none)) else (none)) else (none)) else (none)))
end
def middenref17_nearest.f (k : Nat) (l0 : List Int) (l1 : List Int) (a2 : Int) : Option (Int) := middenref17_nearest.l0 k l0 l1 a2 0 0
theorem middenref17_nearest.mono_l : ∀ k, (∀ y0 y1 y2 y3 y4, LeO (middenref17_nearest.l0 k y0 y1 y2 y3 y4) (middenref17_nearest.l0 (k + 1) y0 y1 y2 y3 y4)) /\ (∀ y0 y1 y2 y3 y4 y5 y6, LeO (middenref17_nearest.j1 k y0 y1 y2 y3 y4 y5 y6) (middenref17_nearest.j1 (k + 1) y0 y1 y2 y3 y4 y5 y6))
 | 0 => ⟨fun _ _ _ _ _ r h => by simp [middenref17_nearest.l0] at h, fun _ _ _ _ _ _ _ r h => by simp [middenref17_nearest.j1] at h⟩
 | k + 1 => by
  obtain ⟨ih0, ih1⟩ := middenref17_nearest.mono_l k
  refine ⟨?_, ?_⟩
  ·intro y0 y1 y2 y3 y4
   unfold middenref17_nearest.l0
   repeat' first
   | (with_reducible first | exact ih0 _ _ _ _ _ | exact ih1 _ _ _ _ _ _ _ | exact LeO.refl _ | exact LeO.none _ | refine LeO.ite ?_ ?_ | refine LeO.bind ?_ (fun _ => ?_))
   | exact ih0 _ _ _ _ _
   | exact ih1 _ _ _ _ _ _ _
   | exact LeO.none _
   | refine LeO.ite ?_ ?_
   | refine LeO.bind ?_ (fun _ => ?_)
  ·intro y0 y1 y2 y3 y4 y5 y6
   unfold middenref17_nearest.j1
   repeat' first
   | (with_reducible first | exact ih0 _ _ _ _ _ | exact ih1 _ _ _ _ _ _ _ | exact LeO.refl _ | exact LeO.none _ | refine LeO.ite ?_ ?_ | refine LeO.bind ?_ (fun _ => ?_))
   | exact ih0 _ _ _ _ _
   | exact ih1 _ _ _ _ _ _ _
   | exact LeO.none _
   | refine LeO.ite ?_ ?_
   | refine LeO.bind ?_ (fun _ => ?_)
theorem middenref17_nearest.mono : ∀ a0 a1 a2 k, LeO (middenref17_nearest.f k a0 a1 a2) (middenref17_nearest.f (k + 1) a0 a1 a2) := by
 intro a0 a1 a2 k
 obtain ⟨ih0, ih1⟩ := middenref17_nearest.mono_l k
 unfold middenref17_nearest.f
 repeat' first
   | (with_reducible first | exact ih0 _ _ _ _ _ | exact ih1 _ _ _ _ _ _ _ | exact LeO.refl _ | exact LeO.none _ | refine LeO.ite ?_ ?_ | refine LeO.bind ?_ (fun _ => ?_))
   | exact ih0 _ _ _ _ _
   | exact ih1 _ _ _ _ _ _ _
   | exact LeO.none _
   | refine LeO.ite ?_ ?_
   | refine LeO.bind ?_ (fun _ => ?_)
set_option maxHeartbeats 8000000 in
set_option maxRecDepth 100000 in
theorem middenref17_nearest.calls (k : Nat) (A0 : Option Addr) (c0 : Nat) (l0 : List Int) (A1 : Option Addr) (c1 : Nat) (l1 : List Int) (a2 : Int) (r : Int) (w : World) (hr0 : Kd.C (Kd.int .i64) w A0 l0.length l0) (hc0 : l0.length <= c0) (hr1 : Kd.C (Kd.int .i64) w A1 l1.length l1) (hc1 : l1.length <= c1) (h : middenref17_nearest.f k l0 l1 a2 = some r) :
  Calls Tryd.prog 46 #[.slice A0 l0.length c0, .slice A1 l1.length c1, .int .i64 a2] w fun e w' => e = .returned (.int .i64 r) /\ Drawn0 w w' := by
 have HR0 := Aside0.mk hr0
 have HC0 := Aside0.mk hc0
 clear hr0 hc0
 have HR1 := Aside0.mk hr1
 have HC1 := Aside0.mk hc1
 clear hr1 hc1
 have H : (middenref17_nearest.l0 k l0 l1 a2 0 0) = some r := h
 clear h
 have H' := Aside0.mk H
 clear H
 go_enter Tryd.func46, Tryd.ntmps46
 go_wp2
 repeat (go_quiet (fail); try go_wp2)
 go_loopg [7, 8] k (fun kq v7 v8 w' => ∃ (x7_1 : Int) (x8_1 : Int), v7 = .int .i64 x7_1 /\ v8 = .int .i64 x8_1 /\ Aside0 (middenref17_nearest.l0 kq l0 l1 a2 x7_1 x8_1 = some r) /\ Aside0 (kq <= k) /\ Drawn0 w w')
 case atStart => exact ⟨(0), (0), (by first | rfl | (simp; done) | (simp [*]; done)), (by first | rfl | (simp; done) | (simp [*]; done)), H', ⟨Nat.le_refl _⟩, by repeat (first | exact Drawn0.refl _ | apply Drawn0.step)⟩
 case round =>
  clear H'
  try clear c1;try clear p2
  obtain ⟨x7_1, x8_1, rfl, rfl, HA, HK1, ⟨m1, rfl⟩⟩ := hrel
  cases gk with
  | zero => exact absurd HA.out (by simp [middenref17_nearest.l0])
  | succ k1 =>
   have H := HA.out
   clear HA
   simp only [middenref17_nearest.l0] at H
   by_cases c4 : x8_1 < (l1.length : Int)
   ·rw [if_pos c4] at H
    have c4b0 : decide (x8_1 < (l1.length : Int)) = true := decide_eq_true c4
    clear c4
    by_cases c5 : 0 <= x8_1
    ·rw [if_pos c5] at H
     have c5b0 : decide (0 <= x8_1) = true := decide_eq_true c5
     clear c5
     have HC6 := Aside0.mk H
     clear H
     have p322 : 0 <= (x8_1 : Int) := of_decide_eq_true (by first | (with_reducible assumption) | assumption)
     have q322 : x8_1 < (l1.length : Int) := of_decide_eq_true (by first | (with_reducible assumption) | assumption)
     obtain ⟨ad322, e322, hx322_0⟩ := Kd.at_int HR1.out x8_1 p322 q322
     cases e322
     replace p322 := eq_true p322
     replace q322 := eq_true q322
     go_upto_region 6 with (fail)
     repeat (go_quiet (fail); go_upto_region 6 with (fail))
     go_cut [36] (fun v36 wc => ∃ (kq : Nat) (x36_5 : Bool), v36 = .bool x36_5 /\ Aside0 (middenref17_nearest.j1 kq l0 l1 a2 x7_1 x8_1 (rd l1 x8_1) x36_5 = some r) /\ Aside0 (kq <= k1) /\ Drawn0 w wc)
     case first =>
      have H := HC6.out
      clear HC6
      by_cases c7 : 0 <= (rd l1 x8_1)
      ·rw [if_pos c7] at H
       have c7b0 : decide (0 <= (rd l1 x8_1)) = true := decide_eq_true c7
       clear c7
       (first | rw [c7b0] | (simp only [i64_w, i32_w]; rw [c7b0]) | skip)
       by_cases c8 : (rd l1 x8_1) < (l0.length : Int)
       ·rw [if_pos c8] at H
        have c8b0 : decide ((rd l1 x8_1) < (l0.length : Int)) = true := decide_eq_true c8
        clear c8
        by_cases c9 : (rd l0 (rd l1 x8_1)) = 0
        ·rw [if_pos c9] at H
         have c9b0 : ((rd l0 (rd l1 x8_1)) == 0) = true := beq_iff_eq.mpr c9
         have c9b1 : ((rd l0 (rd l1 x8_1)) != 0) = false := bne_eq_false_iff_eq.mpr c9
         clear c9
         have H' := Aside0.mk H
         clear H
         have p323 : 0 <= ((rd l1 x8_1) : Int) := of_decide_eq_true (by first | (with_reducible assumption) | assumption)
         have q323 : (rd l1 x8_1) < (l0.length : Int) := of_decide_eq_true (by first | (with_reducible assumption) | assumption)
         obtain ⟨ad323, e323, hx323_0⟩ := Kd.at_int HR0.out (rd l1 x8_1) p323 q323
         cases e323
         replace p323 := eq_true p323
         replace q323 := eq_true q323
         go_wp2
         repeat (go_quiet (fail); try go_wp2)
         go_meet
         case rel => exact ⟨_, (true), (by first | rfl | (simp; done) | (simp [*]; done)), H', ⟨by have := HK1.out; first | omega | exact Nat.le_refl _⟩, by repeat (first | exact Drawn0.refl _ | apply Drawn0.step)⟩
        ·rw [if_neg c9] at H
         have c9b0 : ((rd l0 (rd l1 x8_1)) == 0) = false := beq_eq_false_iff_ne.mpr c9
         have c9b1 : ((rd l0 (rd l1 x8_1)) != 0) = true := bne_iff_ne.mpr c9
         by_cases c10 : a2 > 0
         ·rw [if_pos c10] at H
          have c10b0 : decide (0 < a2) = true := decide_eq_true c10
          clear c10
          have H' := Aside0.mk H
          clear H
          have p323 : 0 <= ((rd l1 x8_1) : Int) := of_decide_eq_true (by first | (with_reducible assumption) | assumption)
          have q323 : (rd l1 x8_1) < (l0.length : Int) := of_decide_eq_true (by first | (with_reducible assumption) | assumption)
          obtain ⟨ad323, e323, hx323_0⟩ := Kd.at_int HR0.out (rd l1 x8_1) p323 q323
          cases e323
          replace p323 := eq_true p323
          replace q323 := eq_true q323
          have p324 : 0 <= ((rd l1 x8_1) : Int) := of_decide_eq_true (by first | (with_reducible assumption) | assumption)
          have q324 : (rd l1 x8_1) < (l0.length : Int) := of_decide_eq_true (by first | (with_reducible assumption) | assumption)
          obtain ⟨ad324, e324, hx324_0⟩ := Kd.at_int HR0.out (rd l1 x8_1) p324 q324
          obtain rfl : ad323 = ad324 := (by injection e324)
          replace p324 := eq_true p324
          replace q324 := eq_true q324
          go_wp2
          repeat (go_quiet (fail); try go_wp2)
          go_meet
          case rel => exact ⟨_, (((rd l0 (rd l1 x8_1)) != a2)), (by first | rfl | (simp; done) | (simp [*]; done)), H', ⟨by have := HK1.out; first | omega | exact Nat.le_refl _⟩, by repeat (first | exact Drawn0.refl _ | apply Drawn0.step)⟩
         ·rw [if_neg c10] at H
          have c10b0 : decide (0 < a2) = false := decide_eq_false c10
          clear c10
          have H' := Aside0.mk H
          clear H
          have p323 : 0 <= ((rd l1 x8_1) : Int) := of_decide_eq_true (by first | (with_reducible assumption) | assumption)
          have q323 : (rd l1 x8_1) < (l0.length : Int) := of_decide_eq_true (by first | (with_reducible assumption) | assumption)
          obtain ⟨ad323, e323, hx323_0⟩ := Kd.at_int HR0.out (rd l1 x8_1) p323 q323
          cases e323
          replace p323 := eq_true p323
          replace q323 := eq_true q323
          go_wp2
          repeat (go_quiet (fail); try go_wp2)
          go_meet
          case rel => exact ⟨_, (false), (by first | rfl | (simp; done) | (simp [*]; done)), H', ⟨by have := HK1.out; first | omega | exact Nat.le_refl _⟩, by repeat (first | exact Drawn0.refl _ | apply Drawn0.step)⟩
       ·rw [if_neg c8] at H
        exact absurd H (by simp)
      ·rw [if_neg c7] at H
       exact absurd H (by simp)
     case rest =>
      clear HC6
      try clear c1;try clear p2;try clear p3;try clear q3;try clear hx3;try clear c4;try clear c4b0;try clear c5;try clear c5b0;try clear c7;try clear c7b0;try clear c8;try clear c8b0;try clear c9;try clear c9b0;try clear c9b1;try clear c10;try clear c10b0;try clear hx322_0;try clear hx323_0;try clear hx324_0;try clear p2;try clear p322;try clear p323;try clear p324;try clear q322;try clear q323;try clear q324
      obtain ⟨kq, x36_5, rfl, HA, HJ5, ⟨mc5, rfl⟩⟩ := hcut
      cases kq with
      | zero => exact absurd HA.out (by simp [middenref17_nearest.j1])
      | succ kj5 =>
       have H := HA.out
       clear HA
       simp only [middenref17_nearest.j1] at H
       by_cases c11 : x36_5 = true
       ·subst c11
        have H1 : (middenref17_nearest.l0 kj5 l0 l1 a2 x7_1 (wrap64 (x8_1 + 1))) = some r := by rw [if_pos rfl] at H; exact H
        clear H
        have H := H1
        clear H1
        have H' := Aside0.mk H
        clear H
        go_wp2
        repeat (go_quiet (fail); try go_wp2)
        go_roundg kj5
        case measure => have := HK1.out; have := HJ5.out; omega
        case rel => exact ⟨(x7_1), (wrap64 (x8_1 + 1)), (by first | rfl | (simp; done) | (simp [*]; done)), (by first | rfl | (simp; done) | (simp [*]; done)), H', ⟨by have := HK1.out; have := HJ5.out; omega⟩, by repeat (first | exact Drawn0.refl _ | apply Drawn0.step)⟩
       ·replace c11 := Bool.eq_false_iff.mpr c11
        subst c11
        have H1 : (if x7_1 = 0 then (middenref17_nearest.l0 kj5 l0 l1 a2 (rd l1 x8_1) (wrap64 (x8_1 + 1))) else (if 0 <= (rd l1 x8_1) then (if (rd l1 x8_1) < (l0.length : Int) then (if 0 <= x7_1 then (if x7_1 < (l0.length : Int) then (if (rd l0 (rd l1 x8_1)) < (rd l0 x7_1) then (middenref17_nearest.l0 kj5 l0 l1 a2 (rd l1 x8_1) (wrap64 (x8_1 + 1))) else (if (rd l0 (rd l1 x8_1)) = (rd l0 x7_1) then (if (rd l1 x8_1) < x7_1 then (middenref17_nearest.l0 kj5 l0 l1 a2 (rd l1 x8_1) (wrap64 (x8_1 + 1))) else (middenref17_nearest.l0 kj5 l0 l1 a2 x7_1 (wrap64 (x8_1 + 1)))) else (middenref17_nearest.l0 kj5 l0 l1 a2 x7_1 (wrap64 (x8_1 + 1))))) else (none)) else (none)) else (none)) else (none))) = some r := by rw [if_neg (show ¬ (false = true) by decide)] at H; exact H
        clear H
        have H := H1
        clear H1
        by_cases c12 : x7_1 = 0
        ·rw [if_pos c12] at H
         have c12b0 : (x7_1 == 0) = true := beq_iff_eq.mpr c12
         have c12b1 : (x7_1 != 0) = false := bne_eq_false_iff_eq.mpr c12
         clear c12
         have H' := Aside0.mk H
         clear H
         go_wp2
         repeat (go_quiet (fail); try go_wp2)
         go_roundg kj5
         case measure => have := HK1.out; have := HJ5.out; omega
         case rel => exact ⟨((rd l1 x8_1)), (wrap64 (x8_1 + 1)), (by first | rfl | (simp; done) | (simp [*]; done)), (by first | rfl | (simp; done) | (simp [*]; done)), H', ⟨by have := HK1.out; have := HJ5.out; omega⟩, by repeat (first | exact Drawn0.refl _ | apply Drawn0.step)⟩
        ·rw [if_neg c12] at H
         have c12b0 : (x7_1 == 0) = false := beq_eq_false_iff_ne.mpr c12
         have c12b1 : (x7_1 != 0) = true := bne_iff_ne.mpr c12
         by_cases c13 : 0 <= (rd l1 x8_1)
         ·rw [if_pos c13] at H
          have c13b0 : decide (0 <= (rd l1 x8_1)) = true := decide_eq_true c13
          clear c13
          by_cases c14 : (rd l1 x8_1) < (l0.length : Int)
          ·rw [if_pos c14] at H
           have c14b0 : decide ((rd l1 x8_1) < (l0.length : Int)) = true := decide_eq_true c14
           clear c14
           by_cases c15 : 0 <= x7_1
           ·rw [if_pos c15] at H
            have c15b0 : decide (0 <= x7_1) = true := decide_eq_true c15
            clear c15
            by_cases c16 : x7_1 < (l0.length : Int)
            ·rw [if_pos c16] at H
             have c16b0 : decide (x7_1 < (l0.length : Int)) = true := decide_eq_true c16
             clear c16
             by_cases c17 : (rd l0 (rd l1 x8_1)) < (rd l0 x7_1)
             ·rw [if_pos c17] at H
              have c17b0 : decide ((rd l0 (rd l1 x8_1)) < (rd l0 x7_1)) = true := decide_eq_true c17
              clear c17
              have H' := Aside0.mk H
              clear H
              have p325 : 0 <= ((rd l1 x8_1) : Int) := of_decide_eq_true (by first | (with_reducible assumption) | assumption)
              have q325 : (rd l1 x8_1) < (l0.length : Int) := of_decide_eq_true (by first | (with_reducible assumption) | assumption)
              obtain ⟨ad325, e325, hx325_0⟩ := Kd.at_int HR0.out (rd l1 x8_1) p325 q325
              cases e325
              replace p325 := eq_true p325
              replace q325 := eq_true q325
              have p326 : 0 <= (x7_1 : Int) := of_decide_eq_true (by first | (with_reducible assumption) | assumption)
              have q326 : x7_1 < (l0.length : Int) := of_decide_eq_true (by first | (with_reducible assumption) | assumption)
              obtain ⟨ad326, e326, hx326_0⟩ := Kd.at_int HR0.out x7_1 p326 q326
              obtain rfl : ad325 = ad326 := (by injection e326)
              replace p326 := eq_true p326
              replace q326 := eq_true q326
              go_wp2
              repeat (go_quiet (fail); try go_wp2)
              go_roundg kj5
              case measure => have := HK1.out; have := HJ5.out; omega
              case rel => exact ⟨((rd l1 x8_1)), (wrap64 (x8_1 + 1)), (by first | rfl | (simp; done) | (simp [*]; done)), (by first | rfl | (simp; done) | (simp [*]; done)), H', ⟨by have := HK1.out; have := HJ5.out; omega⟩, by repeat (first | exact Drawn0.refl _ | apply Drawn0.step)⟩
             ·rw [if_neg c17] at H
              have c17b0 : decide ((rd l0 (rd l1 x8_1)) < (rd l0 x7_1)) = false := decide_eq_false c17
              clear c17
              by_cases c18 : (rd l0 (rd l1 x8_1)) = (rd l0 x7_1)
              ·rw [if_pos c18] at H
               have c18b0 : ((rd l0 (rd l1 x8_1)) == (rd l0 x7_1)) = true := beq_iff_eq.mpr c18
               have c18b1 : ((rd l0 (rd l1 x8_1)) != (rd l0 x7_1)) = false := bne_eq_false_iff_eq.mpr c18
               clear c18
               by_cases c19 : (rd l1 x8_1) < x7_1
               ·rw [if_pos c19] at H
                have c19b0 : decide ((rd l1 x8_1) < x7_1) = true := decide_eq_true c19
                clear c19
                have H' := Aside0.mk H
                clear H
                have p325 : 0 <= ((rd l1 x8_1) : Int) := of_decide_eq_true (by first | (with_reducible assumption) | assumption)
                have q325 : (rd l1 x8_1) < (l0.length : Int) := of_decide_eq_true (by first | (with_reducible assumption) | assumption)
                obtain ⟨ad325, e325, hx325_0⟩ := Kd.at_int HR0.out (rd l1 x8_1) p325 q325
                cases e325
                replace p325 := eq_true p325
                replace q325 := eq_true q325
                have p326 : 0 <= (x7_1 : Int) := of_decide_eq_true (by first | (with_reducible assumption) | assumption)
                have q326 : x7_1 < (l0.length : Int) := of_decide_eq_true (by first | (with_reducible assumption) | assumption)
                obtain ⟨ad326, e326, hx326_0⟩ := Kd.at_int HR0.out x7_1 p326 q326
                obtain rfl : ad325 = ad326 := (by injection e326)
                replace p326 := eq_true p326
                replace q326 := eq_true q326
                have p327 : 0 <= ((rd l1 x8_1) : Int) := of_decide_eq_true (by first | (with_reducible assumption) | assumption)
                have q327 : (rd l1 x8_1) < (l0.length : Int) := of_decide_eq_true (by first | (with_reducible assumption) | assumption)
                obtain ⟨ad327, e327, hx327_0⟩ := Kd.at_int HR0.out (rd l1 x8_1) p327 q327
                obtain rfl : ad325 = ad327 := (by injection e327)
                replace p327 := eq_true p327
                replace q327 := eq_true q327
                have p328 : 0 <= (x7_1 : Int) := of_decide_eq_true (by first | (with_reducible assumption) | assumption)
                have q328 : x7_1 < (l0.length : Int) := of_decide_eq_true (by first | (with_reducible assumption) | assumption)
                obtain ⟨ad328, e328, hx328_0⟩ := Kd.at_int HR0.out x7_1 p328 q328
                obtain rfl : ad325 = ad328 := (by injection e328)
                replace p328 := eq_true p328
                replace q328 := eq_true q328
                go_wp2
                repeat (go_quiet (fail); try go_wp2)
                go_roundg kj5
                case measure => have := HK1.out; have := HJ5.out; omega
                case rel => exact ⟨((rd l1 x8_1)), (wrap64 (x8_1 + 1)), (by first | rfl | (simp; done) | (simp [*]; done)), (by first | rfl | (simp; done) | (simp [*]; done)), H', ⟨by have := HK1.out; have := HJ5.out; omega⟩, by repeat (first | exact Drawn0.refl _ | apply Drawn0.step)⟩
               ·rw [if_neg c19] at H
                have c19b0 : decide ((rd l1 x8_1) < x7_1) = false := decide_eq_false c19
                clear c19
                have H' := Aside0.mk H
                clear H
                have p325 : 0 <= ((rd l1 x8_1) : Int) := of_decide_eq_true (by first | (with_reducible assumption) | assumption)
                have q325 : (rd l1 x8_1) < (l0.length : Int) := of_decide_eq_true (by first | (with_reducible assumption) | assumption)
                obtain ⟨ad325, e325, hx325_0⟩ := Kd.at_int HR0.out (rd l1 x8_1) p325 q325
                cases e325
                replace p325 := eq_true p325
                replace q325 := eq_true q325
                have p326 : 0 <= (x7_1 : Int) := of_decide_eq_true (by first | (with_reducible assumption) | assumption)
                have q326 : x7_1 < (l0.length : Int) := of_decide_eq_true (by first | (with_reducible assumption) | assumption)
                obtain ⟨ad326, e326, hx326_0⟩ := Kd.at_int HR0.out x7_1 p326 q326
                obtain rfl : ad325 = ad326 := (by injection e326)
                replace p326 := eq_true p326
                replace q326 := eq_true q326
                have p327 : 0 <= ((rd l1 x8_1) : Int) := of_decide_eq_true (by first | (with_reducible assumption) | assumption)
                have q327 : (rd l1 x8_1) < (l0.length : Int) := of_decide_eq_true (by first | (with_reducible assumption) | assumption)
                obtain ⟨ad327, e327, hx327_0⟩ := Kd.at_int HR0.out (rd l1 x8_1) p327 q327
                obtain rfl : ad325 = ad327 := (by injection e327)
                replace p327 := eq_true p327
                replace q327 := eq_true q327
                have p328 : 0 <= (x7_1 : Int) := of_decide_eq_true (by first | (with_reducible assumption) | assumption)
                have q328 : x7_1 < (l0.length : Int) := of_decide_eq_true (by first | (with_reducible assumption) | assumption)
                obtain ⟨ad328, e328, hx328_0⟩ := Kd.at_int HR0.out x7_1 p328 q328
                obtain rfl : ad325 = ad328 := (by injection e328)
                replace p328 := eq_true p328
                replace q328 := eq_true q328
                go_wp2
                repeat (go_quiet (fail); try go_wp2)
                go_roundg kj5
                case measure => have := HK1.out; have := HJ5.out; omega
                case rel => exact ⟨(x7_1), (wrap64 (x8_1 + 1)), (by first | rfl | (simp; done) | (simp [*]; done)), (by first | rfl | (simp; done) | (simp [*]; done)), H', ⟨by have := HK1.out; have := HJ5.out; omega⟩, by repeat (first | exact Drawn0.refl _ | apply Drawn0.step)⟩
              ·rw [if_neg c18] at H
               have c18b0 : ((rd l0 (rd l1 x8_1)) == (rd l0 x7_1)) = false := beq_eq_false_iff_ne.mpr c18
               have c18b1 : ((rd l0 (rd l1 x8_1)) != (rd l0 x7_1)) = true := bne_iff_ne.mpr c18
               have H' := Aside0.mk H
               clear H
               have p325 : 0 <= ((rd l1 x8_1) : Int) := of_decide_eq_true (by first | (with_reducible assumption) | assumption)
               have q325 : (rd l1 x8_1) < (l0.length : Int) := of_decide_eq_true (by first | (with_reducible assumption) | assumption)
               obtain ⟨ad325, e325, hx325_0⟩ := Kd.at_int HR0.out (rd l1 x8_1) p325 q325
               cases e325
               replace p325 := eq_true p325
               replace q325 := eq_true q325
               have p326 : 0 <= (x7_1 : Int) := of_decide_eq_true (by first | (with_reducible assumption) | assumption)
               have q326 : x7_1 < (l0.length : Int) := of_decide_eq_true (by first | (with_reducible assumption) | assumption)
               obtain ⟨ad326, e326, hx326_0⟩ := Kd.at_int HR0.out x7_1 p326 q326
               obtain rfl : ad325 = ad326 := (by injection e326)
               replace p326 := eq_true p326
               replace q326 := eq_true q326
               have p327 : 0 <= ((rd l1 x8_1) : Int) := of_decide_eq_true (by first | (with_reducible assumption) | assumption)
               have q327 : (rd l1 x8_1) < (l0.length : Int) := of_decide_eq_true (by first | (with_reducible assumption) | assumption)
               obtain ⟨ad327, e327, hx327_0⟩ := Kd.at_int HR0.out (rd l1 x8_1) p327 q327
               obtain rfl : ad325 = ad327 := (by injection e327)
               replace p327 := eq_true p327
               replace q327 := eq_true q327
               have p328 : 0 <= (x7_1 : Int) := of_decide_eq_true (by first | (with_reducible assumption) | assumption)
               have q328 : x7_1 < (l0.length : Int) := of_decide_eq_true (by first | (with_reducible assumption) | assumption)
               obtain ⟨ad328, e328, hx328_0⟩ := Kd.at_int HR0.out x7_1 p328 q328
               obtain rfl : ad325 = ad328 := (by injection e328)
               replace p328 := eq_true p328
               replace q328 := eq_true q328
               go_wp2
               repeat (go_quiet (fail); try go_wp2)
               go_roundg kj5
               case measure => have := HK1.out; have := HJ5.out; omega
               case rel => exact ⟨(x7_1), (wrap64 (x8_1 + 1)), (by first | rfl | (simp; done) | (simp [*]; done)), (by first | rfl | (simp; done) | (simp [*]; done)), H', ⟨by have := HK1.out; have := HJ5.out; omega⟩, by repeat (first | exact Drawn0.refl _ | apply Drawn0.step)⟩
            ·rw [if_neg c16] at H
             exact absurd H (by simp)
           ·rw [if_neg c15] at H
            exact absurd H (by simp)
          ·rw [if_neg c14] at H
           exact absurd H (by simp)
         ·rw [if_neg c13] at H
          exact absurd H (by simp)
    ·rw [if_neg c5] at H
     exact absurd H (by simp)
   ·rw [if_neg c4] at H
    have c4b0 : decide (x8_1 < (l1.length : Int)) = false := decide_eq_false c4
    clear c4
    obtain rfl := Option.some.inj H
    go_wp2
    repeat (go_quiet (fail); try go_wp2)
    go_ret
    exact ⟨by first | rfl | (simp; done) | (simp [*]; done), by repeat (first | exact Drawn0.refl _ | apply Drawn0.step)⟩
end Go.Proofs.YtogpgkoelplknaaDoor.PLensPaths
