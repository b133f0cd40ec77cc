/- The walks of the law BufferCount: its helpers. -/
import Derived.Test.YtomgfdfgildkbaaDoorBufW6
import Derived.Test.YtomgfdfgildkbaaDoorBufW5
import Derived.Test.YtomgfdfgildkbaaDoorCellBackW
namespace Go.Proofs.YtomgfdfgildkbaaDoor
open Go.RowKit Go.BigFrame

theorem among13_any (a n : Int) (w : World) (ha : -9223372036854775808 ≤ a) (ha2 : a < 9223372036854775808) (h : 0 < n) (h2 : n ≤ 1099511627776) :
    Calls Tryd.prog 35 #[.int .i64 a, .int .i64 n] w fun e w' => e = .returned (.int .i64 (amongI a n)) ∧ w = w' := by
  have hn : (n == 0) = false := by simp; omega
  unfold amongI
  by_cases c : a < 0
  · rw [if_pos c]
    go_enter Tryd.func35, Tryd.ntmps35
    go_wp2
    go_ret
    exact ⟨ret_int (by first | rfl | exact among_neg c), rfl⟩
  · rw [if_neg c]
    have c0 : 0 ≤ a := by omega
    go_enter Tryd.func35, Tryd.ntmps35
    go_wp2
    go_ret
    exact ⟨ret_int (by first | rfl | exact Int.tmod_eq_emod_of_nonneg c0), rfl⟩
def plainHd (r : Int) : Hd := ⟨1, 1, 0, r, 0, 0, false⟩
theorem plain13_any (r : Int) (w : World) :
    Calls Tryd.prog 38 #[.int .i64 r] w fun e w' => e = .returned (plainHd r).val ∧ Below w.heap.size w w' := by
  go_enter Tryd.func38, Tryd.ntmps38
  go_wp2
  refine bodyPost_ret (v := (plainHd r).val) (by simp [results, Tryd.results38, go_sem, plainHd, Hd.val]) rfl ⟨rfl, (Below.refl _ _).alloc (Nat.le_refl _) _⟩
def smallCfg : Cfg := ⟨64, 64, 64, 64, 0, 1, 1, 50, 1, 2, 1, 0, 0, 1⟩
theorem small13_any (w : World) :
    Calls Tryd.prog 33 #[] w fun e w' => e = .returned smallCfg.val ∧ Below w.heap.size w w' := by
  go_enter Tryd.func33, Tryd.ntmps33
  go_wp2
  refine bodyPost_ret (v := smallCfg.val) (by simp [results, Tryd.results33, go_sem, smallCfg, Cfg.val, Cfg.cells]) rfl ⟨rfl, (Below.refl _ _).alloc (Nat.le_refl _) _⟩
end Go.Proofs.YtomgfdfgildkbaaDoor
