/- The walks of package arena, second part: an arena made. -/
import Derived.Test.YtomgfdfgildkbaaDoorArenaW1
namespace Go.Proofs.YtomgfdfgildkbaaDoor
open Go.RowKit Go.BigFrame
@[go_sem] theorem idx5_0 (a0 a1 a2 a3 a4 : Value) (w : World) : (Instr.index 126 (.agg #[a0, a1, a2, a3, a4]) (.int .i64 0)).run Tryd.prog w = .ok a0 w := by kernel_rfl
@[go_sem] theorem idx5_1 (a0 a1 a2 a3 a4 : Value) (w : World) : (Instr.index 126 (.agg #[a0, a1, a2, a3, a4]) (.int .i64 1)).run Tryd.prog w = .ok a1 w := by kernel_rfl
@[go_sem] theorem idx5_2 (a0 a1 a2 a3 a4 : Value) (w : World) : (Instr.index 126 (.agg #[a0, a1, a2, a3, a4]) (.int .i64 2)).run Tryd.prog w = .ok a2 w := by kernel_rfl
@[go_sem] theorem idx5_3 (a0 a1 a2 a3 a4 : Value) (w : World) : (Instr.index 126 (.agg #[a0, a1, a2, a3, a4]) (.int .i64 3)).run Tryd.prog w = .ok a3 w := by kernel_rfl
@[go_sem] theorem idx5_4 (a0 a1 a2 a3 a4 : Value) (w : World) : (Instr.index 126 (.agg #[a0, a1, a2, a3, a4]) (.int .i64 4)).run Tryd.prog w = .ok a4 w := by kernel_rfl

theorem infoU64 : (Tryd.prog.info? 22).map (fun i => (i.zero, i.size, i.bytes)) = some (some (.int .u64 0), 1, 8) := by kernel_rfl
theorem mk_u64 (n : Int) (w : World) (h0 : 0 ≤ n) (h1 : n ≤ 1000000) : (Instr.makeSlice 98 (.int .i64 n) (.int .i64 n)).run Tryd.prog w = .ok (.slice (some ⟨w.heap.size, 0, none⟩) n.toNat n.toNat) (w.alloc (.cells (u64s (List.replicate n.toNat 0)) 22)) := by
  obtain ⟨i, hi, hz, hs, hb⟩ := info_parts infoU64
  have hr := run_make (P := Tryd.prog) w 98 22 i (.int .u64 0) Tryd.underlying98 hi hz .i64 .i64 n n h0 (Int.le_refl _) (by rw [hb]; omega) (by omega)
  have e : madeCells (Value.int IntKind.u64 0).cells (n.toNat * 1) = u64s (List.replicate n.toNat 0) := by
    apply Array.ext'
    rw [Nat.mul_one, show (Value.int IntKind.u64 0).cells = #[.int .u64 0] from rfl, toList_madeCells_one]
    simp [u64s]
  rw [hr, hs, e]

theorem new_no (c : Cfg) (w : World) (h : c.valid = false) : Calls Tryd.prog 34 #[c.val] w fun e w' => e = .returned (.tuple #[.pointer none, .int .i64 30]) ∧ Below w.heap.size w w' := by
  have V := fun w => valid_any c w
  rw [h] at V
  clear h
  obtain ⟨eden, surv, ten, large, floor, num, den, target, maxAge, threads, slots, handles, buffer, workers⟩ := c
  unfold Cfg.val Cfg.cells at *
  simp only at *
  have VV := Lib.hid V
  clear V
  go_enter Tryd.func34, Tryd.ntmps34
  go_wp2_with fail
  refine (VV.out _).mono ?_
  rintro e w1 ⟨rfl, hb⟩
  obtain ⟨hX, hb1, hz1⟩ := kept_new hb
  clear hX hb
  go_wp2_with fail
  go_ret2
  exact ⟨rfl, hb1⟩

set_option maxHeartbeats 1000000 in
theorem new_yes (c : Cfg) (w : World) (h : c.valid = true) : Calls Tryd.prog 34 #[c.val] w fun e w' => ∃ b wb, e = .returned (.tuple #[.pointer (some ⟨b, 0, none⟩), .int .i64 0]) ∧ ArAt w' b wb (Ar.new c) ∧ w.heap.size ≤ b ∧ w.heap.size ≤ wb ∧ Below w.heap.size w w' := by
  have V := fun w => valid_any c w
  rw [h] at V
  obtain ⟨he0, he1, hs0, hs1, ht0, ht1⟩ := Cfg.bd h
  clear h
  obtain ⟨eden, surv, ten, large, floor, num, den, target, maxAge, threads, slots, handles, buffer, workers⟩ := c
  unfold Cfg.val Cfg.cells at *
  simp only at *
  have VV := Lib.hid V
  have hmk := fun w => mk_u64 (1 + eden + surv + surv + ten) w (by omega) (by omega)
  clear V
  go_enter Tryd.func34, Tryd.ntmps34
  go_wp2_with fail
  refine (VV.out _).mono ?_
  rintro e w1 ⟨rfl, hb⟩
  obtain ⟨hX, hb1, hz1⟩ := kept_new hb
  obtain ⟨hc, hf⟩ := hcell hX
  clear hX hb
  go_wp2_with fail
  refine wp_loop_rounds 6 ?_
  iterate 6 (rw [rounds_succ]; go_wp2_with fail)
  go_ret2
  refine ⟨w1.heap.size, w1.heap.size + 1, rfl, ⟨?_, (heap_two _ _ _).2, by omega⟩, by omega, by omega, (hb1.alloc (by omega) _).alloc (by simp; omega) _⟩
  rw [(heap_two _ _ _).1]
  simp [arCells, Ar.new, Cfg.size]
end Go.Proofs.YtomgfdfgildkbaaDoor
