/- The walks of package middenref2: the same plain words. -/
import Derived.Test.YtomgfdfgildkbaaDoorCellW5
namespace Go.Proofs.YtomgfdfgildkbaaDoor
open Go.RowKit Go.BigFrame

set_option maxHeartbeats 1000000 in
theorem rcheck_any (h : Hd) (w : World) :
    Calls Tryd.prog 75 #[h.val] w fun e w' => e = .returned (.int .i64 (chk h)) ∧ Below w.heap.size w w' := by
  obtain ⟨ser, kind, ptrs, raws, age, site, held⟩ := h
  unfold Hd.val
  simp only
  by_cases k0 : kind < 1
  · go_enter Tryd.func75, Tryd.ntmps75
    go_wp2
    all_goals
      go_ret
      exact ⟨ret_int (by unfold chk; simp only; (try simp only [true_and]); repeat (first | rw [if_pos (by omega)] | rw [if_neg (by omega)])), ((Below.refl _ _).alloc (Nat.le_refl _) _)⟩
  by_cases k5 : 4 < kind
  · have d0 : decide (kind < 1) = false := by simp; omega
    go_enter Tryd.func75, Tryd.ntmps75
    go_wp2
    all_goals
      go_ret
      exact ⟨ret_int (by unfold chk; simp only; (try simp only [true_and]); repeat (first | rw [if_pos (by omega)] | rw [if_neg (by omega)])), ((Below.refl _ _).alloc (Nat.le_refl _) _)⟩
  have hk : kind = 1 ∨ kind = 4 ∨ kind = 2 ∨ kind = 3 := by omega
  clear k0 k5
  rcases hk with rfl | rfl | rfl | rfl
  all_goals
    go_enter Tryd.func75, Tryd.ntmps75
    go_wp2
    all_goals
      go_ret
      exact ⟨ret_int (by unfold chk; simp only; (try simp only [true_and]); repeat (first | rw [if_pos (by omega)] | rw [if_neg (by omega)])), ((Below.refl _ _).alloc (Nat.le_refl _) _)⟩
end Go.Proofs.YtomgfdfgildkbaaDoor
