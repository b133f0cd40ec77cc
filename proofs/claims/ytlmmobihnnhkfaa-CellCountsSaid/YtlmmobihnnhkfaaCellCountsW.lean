/- The walk of the law CellCounts, over the seat without tables. -/
import Derived.Test.YtlmmobihnnhkfaaProg
import Derived.Test.YtlmmobihnnhkfaaPlain
import Derived.WalkKit
import Derived.ProofKit
import Derived.WalkSpells
import Derived.Lib.Hide
namespace Go.Proofs.Ytlmmobihnnhkfaa
open Go.RowKit

theorem wraps_u64 (n : Int) (h₀ : 0 ≤ n) (h₁ : n < 2 ^ 64) : IntKind.u64.wrap n = n := by rw [IntKind.wrap_u64]; omega

theorem and_u64 (i : Nat) (hi : i ≤ 64) {m : Int} (h0 : 0 ≤ m) (h1 : m < 18446744073709551616) : bits .and .u64 m (2 ^ i - 1) = m % 2 ^ i :=
  bits_mask .u64 64 (by decide) wraps_u64 i hi m h0 (by omega)


theorem number_any (tag m : Int) (w : World) (h0 : 0 ≤ m) (h1 : m < 18446744073709551616) :
    Calls Try.prog 27 #[.int .u64 tag, .int .u64 m] w fun e w' => e = .returned (.tuple #[.int .i64 (numT tag m).1, .bool (numT tag m).2]) ∧ w = w' := by
  have hA : bits .and .u64 m 3 = m % 4 := and_u64 2 (by decide) h0 h1
  unfold numT
  by_cases c : m % 4 = tag ∧ 1 ≤ m / 4 ∧ m / 4 ≤ 1099511627776
  · rw [if_pos c]
    obtain ⟨c1, c2, c3⟩ := c
    have f1 : (m % 4 != tag) = false := by simpa using c1
    have f2 : ¬ m / 4 < 1 := by omega
    clear c1 h1
    go_enter Try.func27, Try.ntmps27
    go_wp2
    go_ret2
    exact ⟨rfl, rfl⟩
  · rw [if_neg c]
    by_cases c1 : m % 4 = tag
    · have f1 : (m % 4 != tag) = false := by simpa using c1
      by_cases c2 : m / 4 < 1
      · clear c c1 h1
        go_enter Try.func27, Try.ntmps27
        go_wp2
        go_ret2
        exact ⟨rfl, rfl⟩
      · have c3 : 1099511627776 < m / 4 := by omega
        have f2 : decide (m / 4 < 1) = false := by simp; omega
        clear c c1 h1
        go_enter Try.func27, Try.ntmps27
        go_wp2
        go_ret2
        exact ⟨rfl, rfl⟩
    · have f1 : (m % 4 != tag) = true := by simpa using c1
      clear c c1 h1
      go_enter Try.func27, Try.ntmps27
      go_wp2
      go_ret2
      exact ⟨rfl, rfl⟩


theorem numbered_any (tag n : Int) (w : World) (h0 : 0 ≤ tag) (h1 : tag < 4) :
    Calls Try.prog 29 #[.int .u64 tag, .int .i64 n] w fun e w' => e = .returned (.int .u64 (wordT tag n)) ∧ w = w' := by
  unfold wordT
  by_cases c : 1 ≤ n ∧ n ≤ 1099511627776
  · rw [if_pos c]
    obtain ⟨c1, c2⟩ := c
    have hA : bits .or .u64 tag (n * 4) = tag + n * 4 := or_add 2 h0 h1 (by omega) (by omega) (by omega) (by omega)
    go_enter Try.func29, Try.ntmps29
    go_wp2
    go_ret
    exact ⟨ret_int (by omega), rfl⟩
  · rw [if_neg c]
    by_cases c1 : n < 1
    · clear c
      go_enter Try.func29, Try.ntmps29
      go_wp2
      go_ret
      exact ⟨rfl, rfl⟩
    · have c2 : 1099511627776 < n := by omega
      clear c
      go_enter Try.func29, Try.ntmps29
      go_wp2
      go_ret
      exact ⟨rfl, rfl⟩


theorem forward_any (n : Int) (w : World) : Calls Try.prog 18 #[.int .i64 n] w fun e w' => e = .returned (.int .u64 (wordT 2 n)) ∧ w = w' := by
  go_enter Try.func18, Try.ntmps18
  go_wp2_with fail
  refine (numbered_any 2 n _ (by decide) (by decide)).mono ?_
  rintro e w' ⟨rfl, rfl⟩
  go_wp2_with fail
  go_ret
  exact ⟨rfl, rfl⟩

theorem filler_any (n : Int) (w : World) : Calls Try.prog 20 #[.int .i64 n] w fun e w' => e = .returned (.int .u64 (wordT 3 n)) ∧ w = w' := by
  go_enter Try.func20, Try.ntmps20
  go_wp2_with fail
  refine (numbered_any 3 n _ (by decide) (by decide)).mono ?_
  rintro e w' ⟨rfl, rfl⟩
  go_wp2_with fail
  go_ret
  exact ⟨rfl, rfl⟩

theorem forwarded_any (m : Int) (w : World) (h0 : 0 ≤ m) (h1 : m < 18446744073709551616) :
    Calls Try.prog 14 #[.int .u64 m] w fun e w' => e = .returned (.tuple #[.int .i64 (numT 2 m).1, .bool (numT 2 m).2]) ∧ w = w' := by
  go_enter Try.func14, Try.ntmps14
  go_wp2_with fail
  refine (number_any 2 m _ h0 h1).mono ?_
  rintro e w' ⟨rfl, rfl⟩
  go_wp2_with fail
  go_ret2
  exact ⟨rfl, rfl⟩

theorem filled_any (m : Int) (w : World) (h0 : 0 ≤ m) (h1 : m < 18446744073709551616) :
    Calls Try.prog 16 #[.int .u64 m] w fun e w' => e = .returned (.tuple #[.int .i64 (numT 3 m).1, .bool (numT 3 m).2]) ∧ w = w' := by
  go_enter Try.func16, Try.ntmps16
  go_wp2_with fail
  refine (number_any 3 m _ h0 h1).mono ?_
  rintro e w' ⟨rfl, rfl⟩
  go_wp2_with fail
  go_ret2
  exact ⟨rfl, rfl⟩


theorem told_any (tag m : Int) (w : World) (h0 : 0 ≤ m) (h1 : m < 18446744073709551616) :
    Calls Try.prog 28 #[.int .u64 m, .int .u64 tag] w fun e w' => e = .returned (.tuple #[.int .i64 (numT tag m).1, .bool (numT tag m).2]) ∧ w = w' := by
  unfold numT
  by_cases c : m % 4 = tag ∧ 1 ≤ m / 4 ∧ m / 4 ≤ 1099511627776
  · rw [if_pos c]
    obtain ⟨c1, c2, c3⟩ := c
    have f1 : (m % 4 != tag) = false := by simpa using c1
    have f2 : ¬ m / 4 < 1 := by omega
    clear c1
    go_enter Try.func28, Try.ntmps28
    go_wp2
    go_ret2
    exact ⟨rfl, rfl⟩
  · rw [if_neg c]
    by_cases c1 : m % 4 = tag
    · have f1 : (m % 4 != tag) = false := by simpa using c1
      by_cases c2 : m / 4 < 1
      · clear c c1
        go_enter Try.func28, Try.ntmps28
        go_wp2
        go_ret2
        exact ⟨rfl, rfl⟩
      · have c3 : 1099511627776 < m / 4 := by omega
        have f2 : decide (m / 4 < 1) = false := by simp; omega
        clear c c1
        go_enter Try.func28, Try.ntmps28
        go_wp2
        go_ret2
        exact ⟨rfl, rfl⟩
    · have f1 : (m % 4 != tag) = true := by simpa using c1
      clear c c1
      go_enter Try.func28, Try.ntmps28
      go_wp2
      go_ret2
      exact ⟨rfl, rfl⟩


theorem counted_any (tag n : Int) (w : World) (h0 : 0 ≤ tag) (h1 : tag < 4) :
    Calls Try.prog 30 #[.int .i64 n, .int .u64 tag] w fun e w' => e = .returned (.int .u64 (wordT tag n)) ∧ w = w' := by
  unfold wordT
  by_cases c : 1 ≤ n ∧ n ≤ 1099511627776
  · rw [if_pos c]
    obtain ⟨c1, c2⟩ := c
    go_enter Try.func30, Try.ntmps30
    go_wp2
    go_ret
    exact ⟨ret_int (by omega), rfl⟩
  · rw [if_neg c]
    by_cases c1 : n < 1
    · clear c
      go_enter Try.func30, Try.ntmps30
      go_wp2
      go_ret
      exact ⟨rfl, rfl⟩
    · have c2 : 1099511627776 < n := by omega
      clear c
      go_enter Try.func30, Try.ntmps30
      go_wp2
      go_ret
      exact ⟨rfl, rfl⟩


theorem rfiller_any (n : Int) (w : World) : Calls Try.prog 21 #[.int .i64 n] w fun e w' => e = .returned (.int .u64 (wordT 3 n)) ∧ w = w' := by
  go_enter Try.func21, Try.ntmps21
  go_wp2_with fail
  refine (counted_any 3 n _ (by decide) (by decide)).mono ?_
  rintro e w' ⟨rfl, rfl⟩
  go_wp2_with fail
  go_ret
  exact ⟨rfl, rfl⟩

theorem rfilled_any (m : Int) (w : World) (h0 : 0 ≤ m) (h1 : m < 18446744073709551616) :
    Calls Try.prog 17 #[.int .u64 m] w fun e w' => e = .returned (.tuple #[.int .i64 (numT 3 m).1, .bool (numT 3 m).2]) ∧ w = w' := by
  go_enter Try.func17, Try.ntmps17
  go_wp2_with fail
  refine (told_any 3 m _ h0 h1).mono ?_
  rintro e w' ⟨rfl, rfl⟩
  go_wp2_with fail
  go_ret2
  exact ⟨rfl, rfl⟩


theorem rforward_any (n : Int) (w : World) : Calls Try.prog 19 #[.int .i64 n] w fun e w' => e = .returned (.int .u64 (wordT 2 n)) ∧ w = w' := by
  go_enter Try.func19, Try.ntmps19
  go_wp2_with fail
  refine (counted_any 2 n _ (by decide) (by decide)).mono ?_
  rintro e w' ⟨rfl, rfl⟩
  go_wp2_with fail
  go_ret
  exact ⟨rfl, rfl⟩
theorem rforwarded_any (m : Int) (w : World) (h0 : 0 ≤ m) (h1 : m < 18446744073709551616) :
    Calls Try.prog 15 #[.int .u64 m] w fun e w' => e = .returned (.tuple #[.int .i64 (numT 2 m).1, .bool (numT 2 m).2]) ∧ w = w' := by
  go_enter Try.func15, Try.ntmps15
  go_wp2_with fail
  refine (told_any 2 m _ h0 h1).mono ?_
  rintro e w' ⟨rfl, rfl⟩
  go_wp2_with fail
  go_ret2
  exact ⟨rfl, rfl⟩

theorem cellCounts_walk (n m : Int) (w : World) (h0 : 0 ≤ m) (h1 : m < 18446744073709551616) :
    Calls Try.prog 12 #[.int .i64 n, .int .u64 m] w fun e w' => e = .returned (.bool true) ∧ Below w.heap.size w w' := by
  have A := Lib.hid (fun W => forwarded_any m W h0 h1)
  have B := Lib.hid (fun W => rforwarded_any m W h0 h1)
  have C := Lib.hid (fun W => filled_any m W h0 h1)
  have D := Lib.hid (fun W => rfilled_any m W h0 h1)
  have E := Lib.hid (fun W => forward_any n W)
  have F := Lib.hid (fun W => rforward_any n W)
  have G := Lib.hid (fun W => filler_any n W)
  have K := Lib.hid (fun W => rfiller_any n W)
  generalize (numT 2 m).1 = a1 at *
  generalize (numT 2 m).2 = a2 at *
  generalize (numT 3 m).1 = c1 at *
  generalize (numT 3 m).2 = c2 at *
  generalize wordT 2 n = e1 at *
  generalize wordT 3 n = g1 at *
  clear h0 h1
  go_enter Try.func12, Try.ntmps12
  go_wp2_with fail
  refine (A.out _).mono ?_
  rintro e w1 ⟨rfl, rfl⟩
  go_wp2_with fail
  refine (B.out _).mono ?_
  rintro e w2 ⟨rfl, rfl⟩
  go_wp2_with fail
  refine (C.out _).mono ?_
  rintro e w3 ⟨rfl, rfl⟩
  go_wp2_with fail
  refine (D.out _).mono ?_
  rintro e w4 ⟨rfl, rfl⟩
  go_wp2_with fail
  refine (E.out _).mono ?_
  rintro e w5 ⟨rfl, rfl⟩
  go_wp2_with fail
  refine (F.out _).mono ?_
  rintro e w6 ⟨rfl, rfl⟩
  go_wp2_with fail
  refine (G.out _).mono ?_
  rintro e w7 ⟨rfl, rfl⟩
  go_wp2_with fail
  refine (K.out _).mono ?_
  rintro e w8 ⟨rfl, rfl⟩
  go_wp2_with fail
  go_ret
  exact ⟨rfl, Below.refl _ _⟩
end Go.Proofs.Ytlmmobihnnhkfaa
