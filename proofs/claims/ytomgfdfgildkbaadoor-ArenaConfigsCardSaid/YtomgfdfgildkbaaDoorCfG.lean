/- The walk of ArenaConfigs. -/
import Derived.Test.YtomgfdfgildkbaaDoorGh
namespace Go.Proofs.YtomgfdfgildkbaaDoor
open Go.RowKit Go.BigFrame

set_option maxRecDepth 100000 in
set_option maxHeartbeats 8000000 in
theorem configs_yes (c : Cfg) (w : World) (tb : Tab w) (hc : c.valid = true) : Calls Tryd.prog 11 #[c.val] w fun e w' => e = .returned (.bool true) ∧ Below w.heap.size w w' := by
  have V1 := Lib.hid (fun (W : World) => valid_any c W)
  have V2 := Lib.hid (fun (W : World) => rvalid_any c W)
  have BG := Lib.hid (fun (W : World) => begin_yes c W hc)
  have KN := Lib.hid (fun (W : World) (hb : Below w.heap.size w W) => known3_any W (tb.below hb))
  rw [hc] at V1 V2
  have WH := Lib.hid (fun (x a wb r : Nat) (cs : Int → Nat) (W : World) (hb : Below w.heap.size w W) (h : BothAt W x a wb r cs (Ar.new c) (.slice none 0 0) (.slice none 0 0)) => whole_any x a wb r cs (Ar.new c) none 0 0 (.slice none 0 0) W (tb.below hb) h (fun i hi => absurd hi (Nat.not_lt_zero i)) (by decide))
  generalize Ar.new c = A at *
  clear tb hc
  obtain ⟨q0, q1, q2, q3, q4, q5, q6, q7, q8, q9, q10, q11, q12, q13⟩ := c
  unfold Cfg.val Cfg.cells at *
  simp only at *
  have hX := heap_one w (.cells #[.int .i64 q0, .int .i64 q1, .int .i64 q2, .int .i64 q3, .int .i64 q4, .int .i64 q5, .int .i64 q6, .int .i64 q7, .int .i64 q8, .int .i64 q9, .int .i64 q10, .int .i64 q11, .int .i64 q12, .int .i64 q13] 45)
  have hb := (Below.refl w.heap.size w).alloc (Nat.le_refl _) (.cells #[.int .i64 q0, .int .i64 q1, .int .i64 q2, .int .i64 q3, .int .i64 q4, .int .i64 q5, .int .i64 q6, .int .i64 q7, .int .i64 q8, .int .i64 q9, .int .i64 q10, .int .i64 q11, .int .i64 q12, .int .i64 q13] 45)
  go_enter Tryd.func11, Tryd.ntmps11
  go_upto_region 1 with fail
  generalize w.alloc (.cells #[.int .i64 q0, .int .i64 q1, .int .i64 q2, .int .i64 q3, .int .i64 q4, .int .i64 q5, .int .i64 q6, .int .i64 q7, .int .i64 q8, .int .i64 q9, .int .i64 q10, .int .i64 q11, .int .i64 q12, .int .i64 q13] 45) = w1 at *
  obtain ⟨cX, fX⟩ := hcell hX
  go_wp2_with fail
  refine (V1.out _).mono ?_
  rintro e w2 ⟨rfl, hq⟩
  replace hX := (hq.block _ (lt_of_heap hX)).trans hX
  replace hb := hb.trans (hq.mono hb.size)
  clear hq cX fX V1
  obtain ⟨cX, fX⟩ := hcell hX
  go_wp2_with fail
  refine (BG.out _).mono ?_
  rintro e w3 ⟨x, a, wb, r, cs, rfl, hB, -, -, hq⟩
  replace hX := (hq.block _ (lt_of_heap hX)).trans hX
  replace hb := hb.trans (hq.mono hb.size)
  clear hq cX fX BG
  obtain ⟨cX, fX⟩ := hcell hX
  go_wp2_with fail
  refine (V2.out _).mono ?_
  rintro e w4 ⟨rfl, hq⟩
  replace hb := hb.trans (hq.mono hb.size)
  replace hB := hB.below hq
  clear hq cX fX hX V2
  go_wp2_with fail
  refine (KN.out _ hb).mono ?_
  rintro e w5 ⟨rfl, hq⟩
  replace hB := hB.below hq
  replace hb := hb.trans (hq.mono hb.size)
  clear hq KN
  obtain ⟨cB, fB⟩ := hcell hB.hx
  have WH2 := Lib.hid (WH.out x a wb r cs w5 hb hB)
  clear hB WH
  go_wp2_with fail
  refine WH2.out.mono ?_
  rintro e w6 ⟨rfl, hq⟩
  go_wp2_with fail
  go_ret
  exact ⟨rfl, hb.trans (hq.mono hb.size)⟩

set_option maxRecDepth 100000 in
set_option maxHeartbeats 8000000 in
theorem configs_no (c : Cfg) (w : World) (tb : Tab w) (hc : c.valid = false) : Calls Tryd.prog 11 #[c.val] w fun e w' => e = .returned (.bool true) ∧ Below w.heap.size w w' := by
  have V1 := Lib.hid (fun (W : World) => valid_any c W)
  have V2 := Lib.hid (fun (W : World) => rvalid_any c W)
  have BG := Lib.hid (fun (W : World) => begin_no c W hc)
  have KN := Lib.hid (fun (W : World) (hb : Below w.heap.size w W) => known3_any W (tb.below hb))
  rw [hc] at V1 V2
  clear tb hc
  obtain ⟨q0, q1, q2, q3, q4, q5, q6, q7, q8, q9, q10, q11, q12, q13⟩ := c
  unfold Cfg.val Cfg.cells at *
  simp only at *
  have hX := heap_one w (.cells #[.int .i64 q0, .int .i64 q1, .int .i64 q2, .int .i64 q3, .int .i64 q4, .int .i64 q5, .int .i64 q6, .int .i64 q7, .int .i64 q8, .int .i64 q9, .int .i64 q10, .int .i64 q11, .int .i64 q12, .int .i64 q13] 45)
  have hb := (Below.refl w.heap.size w).alloc (Nat.le_refl _) (.cells #[.int .i64 q0, .int .i64 q1, .int .i64 q2, .int .i64 q3, .int .i64 q4, .int .i64 q5, .int .i64 q6, .int .i64 q7, .int .i64 q8, .int .i64 q9, .int .i64 q10, .int .i64 q11, .int .i64 q12, .int .i64 q13] 45)
  go_enter Tryd.func11, Tryd.ntmps11
  go_upto_region 1 with fail
  generalize w.alloc (.cells #[.int .i64 q0, .int .i64 q1, .int .i64 q2, .int .i64 q3, .int .i64 q4, .int .i64 q5, .int .i64 q6, .int .i64 q7, .int .i64 q8, .int .i64 q9, .int .i64 q10, .int .i64 q11, .int .i64 q12, .int .i64 q13] 45) = w1 at *
  obtain ⟨cX, fX⟩ := hcell hX
  go_wp2_with fail
  refine (V1.out _).mono ?_
  rintro e w2 ⟨rfl, hq⟩
  replace hX := (hq.block _ (lt_of_heap hX)).trans hX
  replace hb := hb.trans (hq.mono hb.size)
  clear hq cX fX V1
  obtain ⟨cX, fX⟩ := hcell hX
  go_wp2_with fail
  refine (BG.out _).mono ?_
  rintro e w3 ⟨x, rfl, hN, -, hq⟩
  replace hX := (hq.block _ (lt_of_heap hX)).trans hX
  replace hb := hb.trans (hq.mono hb.size)
  clear hq cX fX BG
  obtain ⟨cX, fX⟩ := hcell hX
  go_wp2_with fail
  refine (V2.out _).mono ?_
  rintro e w4 ⟨rfl, hq⟩
  replace hb := hb.trans (hq.mono hb.size)
  replace hN : NoAt w4 x := (hq.block _ (lt_of_heap hN)).trans hN
  clear hq cX fX hX V2
  go_wp2_with fail
  refine (KN.out _ hb).mono ?_
  rintro e w5 ⟨rfl, hq⟩
  replace hN : NoAt w5 x := (hq.block _ (lt_of_heap hN)).trans hN
  replace hb := hb.trans (hq.mono hb.size)
  clear hq KN
  obtain ⟨cB, fB⟩ := hcell hN
  clear hN
  go_wp2_with fail
  go_ret
  exact ⟨rfl, hb⟩

theorem arenaConfigs_walk (c : Cfg) (w : World) (tb : Tab w) : Calls Tryd.prog 11 #[c.val] w fun e w' => e = .returned (.bool true) ∧ Below w.heap.size w w' := by
  cases hc : c.valid with
  | true => exact configs_yes c w tb hc
  | false => exact configs_no c w tb hc
end Go.Proofs.YtomgfdfgildkbaaDoor
