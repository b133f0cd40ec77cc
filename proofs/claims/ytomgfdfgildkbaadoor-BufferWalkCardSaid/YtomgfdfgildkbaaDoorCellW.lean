/- The walks of package cell: what each function returns, in the plain words of Plain. -/
import Derived.Test.YtomgfdfgildkbaaDoorProg
import Derived.Test.YtomgfdfgildkbaaDoorPlain
import Derived.WalkKit
import Derived.ProofKit
import Derived.Deep.QuietTactic
import Derived.BigQuiet
import Derived.WalkSpells
import Derived.Lib.Hide
namespace Go.Proofs.YtomgfdfgildkbaaDoor
open Go.RowKit Go.BigFrame

/-- The tables of package cell lie in memory. -/
structure Tab (w : World) : Prop where
  n0 : w.cell? ⟨1, 0, none⟩ = some (.int .i64 (-1))
  n1 : w.cell? ⟨1, 1, none⟩ = some (.int .i64 0)
  n2 : w.cell? ⟨1, 2, none⟩ = some (.int .i64 1)
  n3 : w.cell? ⟨1, 3, none⟩ = some (.int .i64 2)
  n4 : w.cell? ⟨1, 4, none⟩ = some (.int .i64 0)
  w0 : w.cell? ⟨0, 0, none⟩ = some (.int .i64 3)
  w1 : w.cell? ⟨0, 1, none⟩ = some (.int .i64 1)
  w2 : w.cell? ⟨0, 2, none⟩ = some (.int .i64 4)
  w3 : w.cell? ⟨0, 3, none⟩ = some (.int .i64 8)
  w4 : w.cell? ⟨0, 4, none⟩ = some (.int .i64 12)
  w5 : w.cell? ⟨0, 5, none⟩ = some (.int .i64 16)
  hs : 1 < w.heap.size
  ht : 0 < w.heap.size

theorem Tab.below {w w' : World} (h : Tab w) (hb : Below w.heap.size w w') : Tab w' := by
  obtain ⟨n0, n1, n2, n3, n4, w0, w1, w2, w3, w4, w5, hs, ht⟩ := h
  have q : ∀ b o, b < w.heap.size → w'.cell? ⟨b, o, none⟩ = w.cell? ⟨b, o, none⟩ := fun b o h => hb.cell (p := ⟨b, o, none⟩) h
  have := hb.size
  constructor <;> first | omega | (rw [q _ _ (by omega)]; assumption)

set_option maxHeartbeats 1000000 in
theorem check_any (h : Hd) (w : World) (ht : Tab w) :
    Calls Tryd.prog 74 #[h.val] w fun e w' => e = .returned (.int .i64 (chk h)) ∧ Below w.heap.size w w' := by
  obtain ⟨n0, n1, n2, n3, n4, w0, w1, w2, w3, w4, w5, hs, ht⟩ := ht
  clear w0 w1 w2 w3 w4 w5 ht
  obtain ⟨ser, kind, ptrs, raws, age, site, held⟩ := h
  unfold Hd.val
  simp only
  by_cases k0 : kind < 0
  · go_enter Tryd.func74, Tryd.ntmps74
    go_wp2
    go_big_quiet (fail)
    go_wp2
    all_goals
      go_ret
      exact ⟨ret_int (by unfold chk; simp only; (try simp only [true_and]); repeat (first | rw [if_pos (by omega)] | rw [if_neg (by omega)])), below_drewN ((Below.refl _ _).alloc (Nat.le_refl _) _) _⟩
  by_cases k5 : 5 ≤ kind
  · have d0 : decide (kind < 0) = false := by simp; omega
    go_enter Tryd.func74, Tryd.ntmps74
    go_wp2
    go_big_quiet (fail)
    go_wp2
    all_goals
      go_ret
      exact ⟨ret_int (by unfold chk; simp only; (try simp only [true_and]); repeat (first | rw [if_pos (by omega)] | rw [if_neg (by omega)])), below_drewN ((Below.refl _ _).alloc (Nat.le_refl _) _) _⟩
  have hk : kind = 0 ∨ kind = 1 ∨ kind = 4 ∨ kind = 2 ∨ kind = 3 := by omega
  clear k0 k5
  rcases hk with rfl | rfl | rfl | rfl | rfl
  · go_enter Tryd.func74, Tryd.ntmps74
    go_wp2
    go_big_quiet (fail)
    go_wp2
    all_goals
      go_ret
      exact ⟨ret_int (by unfold chk; simp only; (try simp only [true_and]); repeat (first | rw [if_pos (by omega)] | rw [if_neg (by omega)])), below_drewN ((Below.refl _ _).alloc (Nat.le_refl _) _) _⟩
  · go_enter Tryd.func74, Tryd.ntmps74
    go_wp2
    go_big_quiet (fail)
    go_wp2
    all_goals
      go_ret
      exact ⟨ret_int (by unfold chk; simp only; (try simp only [true_and]); repeat (first | rw [if_pos (by omega)] | rw [if_neg (by omega)])), below_drewN ((Below.refl _ _).alloc (Nat.le_refl _) _) _⟩
  · go_enter Tryd.func74, Tryd.ntmps74
    go_wp2
    go_big_quiet (fail)
    go_wp2
    all_goals
      go_ret
      exact ⟨ret_int (by unfold chk; simp only; (try simp only [true_and]); repeat (first | rw [if_pos (by omega)] | rw [if_neg (by omega)])), below_drewN ((Below.refl _ _).alloc (Nat.le_refl _) _) _⟩
  · by_cases p1 : ptrs < 1
    · go_enter Tryd.func74, Tryd.ntmps74
      go_wp2
      go_big_quiet (fail)
      go_wp2
      all_goals
        go_ret
        exact ⟨ret_int (by unfold chk; simp only; (try simp only [true_and]); repeat (first | rw [if_pos (by omega)] | rw [if_neg (by omega)])), below_drewN ((Below.refl _ _).alloc (Nat.le_refl _) _) _⟩
    · have d1 : decide (ptrs < 1) = false := by simp; omega
      go_enter Tryd.func74, Tryd.ntmps74
      go_wp2
      go_big_quiet (fail)
      go_wp2
      all_goals
        go_ret
        exact ⟨ret_int (by unfold chk; simp only; (try simp only [true_and]); repeat (first | rw [if_pos (by omega)] | rw [if_neg (by omega)])), below_drewN ((Below.refl _ _).alloc (Nat.le_refl _) _) _⟩
  · by_cases p1 : ptrs < 2
    · go_enter Tryd.func74, Tryd.ntmps74
      go_wp2
      go_big_quiet (fail)
      go_wp2
      all_goals
        go_ret
        exact ⟨ret_int (by unfold chk; simp only; (try simp only [true_and]); repeat (first | rw [if_pos (by omega)] | rw [if_neg (by omega)])), below_drewN ((Below.refl _ _).alloc (Nat.le_refl _) _) _⟩
    · have d1 : decide (ptrs < 2) = false := by simp; omega
      go_enter Tryd.func74, Tryd.ntmps74
      go_wp2
      go_big_quiet (fail)
      go_wp2
      all_goals
        go_ret
        exact ⟨ret_int (by unfold chk; simp only; (try simp only [true_and]); repeat (first | rw [if_pos (by omega)] | rw [if_neg (by omega)])), below_drewN ((Below.refl _ _).alloc (Nat.le_refl _) _) _⟩
end Go.Proofs.YtomgfdfgildkbaaDoor
