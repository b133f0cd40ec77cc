/- The walks of package cell, fourth part: forwarding words, fillers, sizes, one thing of a header changed. -/
import Derived.Test.YtomgfdfgildkbaaDoorCellW3
namespace Go.Proofs.YtomgfdfgildkbaaDoor
open Go.RowKit Go.BigFrame

def hdCells (h : Hd) : Array Value := #[.int .u64 h.ser, .int .i64 h.kind, .int .i64 h.ptrs, .int .i64 h.raws, .int .i64 h.age, .int .i64 h.site, .bool h.held]

theorem number_any (tag m : Int) (w : World) (h0 : 0 ≤ m) (h1 : m < 18446744073709551616) :
    Calls Tryd.prog 82 #[.int .u64 tag, .int .u64 m] w fun e w' => e = .returned (.tuple #[.int .i64 (numT tag m).1, .bool (numT tag m).2]) ∧ w = w' := by
  have hA : bits .and .u64 m 3 = m % 4 := and_u64 2 (by decide) h0 h1
  unfold numT
  by_cases c : m % 4 = tag ∧ 1 ≤ m / 4 ∧ m / 4 ≤ 1099511627776
  · rw [if_pos c]
    obtain ⟨c1, c2, c3⟩ := c
    have f1 : (m % 4 != tag) = false := by simpa using c1
    have f2 : ¬ m / 4 < 1 := by omega
    clear c1 h1
    go_enter Tryd.func82, Tryd.ntmps82
    go_wp2
    go_ret2
    exact ⟨rfl, rfl⟩
  · rw [if_neg c]
    by_cases c1 : m % 4 = tag
    · have f1 : (m % 4 != tag) = false := by simpa using c1
      by_cases c2 : m / 4 < 1
      · clear c c1 h1
        go_enter Tryd.func82, Tryd.ntmps82
        go_wp2
        go_ret2
        exact ⟨rfl, rfl⟩
      · have c3 : 1099511627776 < m / 4 := by omega
        have f2 : decide (m / 4 < 1) = false := by simp; omega
        clear c c1 h1
        go_enter Tryd.func82, Tryd.ntmps82
        go_wp2
        go_ret2
        exact ⟨rfl, rfl⟩
    · have f1 : (m % 4 != tag) = true := by simpa using c1
      clear c c1 h1
      go_enter Tryd.func82, Tryd.ntmps82
      go_wp2
      go_ret2
      exact ⟨rfl, rfl⟩

theorem numbered_any (tag n : Int) (w : World) (h0 : 0 ≤ tag) (h1 : tag < 4) :
    Calls Tryd.prog 83 #[.int .u64 tag, .int .i64 n] w fun e w' => e = .returned (.int .u64 (wordT tag n)) ∧ w = w' := by
  unfold wordT
  by_cases c : 1 ≤ n ∧ n ≤ 1099511627776
  · rw [if_pos c]
    obtain ⟨c1, c2⟩ := c
    have hA : bits .or .u64 tag (n * 4) = tag + n * 4 := or_add 2 h0 h1 (by omega) (by omega) (by omega) (by omega)
    go_enter Tryd.func83, Tryd.ntmps83
    go_wp2
    go_ret
    exact ⟨ret_int (by omega), rfl⟩
  · rw [if_neg c]
    by_cases c1 : n < 1
    · clear c
      go_enter Tryd.func83, Tryd.ntmps83
      go_wp2
      go_ret
      exact ⟨rfl, rfl⟩
    · have c2 : 1099511627776 < n := by omega
      clear c
      go_enter Tryd.func83, Tryd.ntmps83
      go_wp2
      go_ret
      exact ⟨rfl, rfl⟩

theorem forward_any (n : Int) (w : World) : Calls Tryd.prog 28 #[.int .i64 n] w fun e w' => e = .returned (.int .u64 (wordT 2 n)) ∧ w = w' := by
  go_enter Tryd.func28, Tryd.ntmps28
  go_wp2_with fail
  refine (numbered_any 2 n _ (by decide) (by decide)).mono ?_
  rintro e w' ⟨rfl, rfl⟩
  go_wp2_with fail
  go_ret
  exact ⟨rfl, rfl⟩
theorem filler_any (n : Int) (w : World) : Calls Tryd.prog 30 #[.int .i64 n] w fun e w' => e = .returned (.int .u64 (wordT 3 n)) ∧ w = w' := by
  go_enter Tryd.func30, Tryd.ntmps30
  go_wp2_with fail
  refine (numbered_any 3 n _ (by decide) (by decide)).mono ?_
  rintro e w' ⟨rfl, rfl⟩
  go_wp2_with fail
  go_ret
  exact ⟨rfl, rfl⟩
theorem forwarded_any (m : Int) (w : World) (h0 : 0 ≤ m) (h1 : m < 18446744073709551616) :
    Calls Tryd.prog 27 #[.int .u64 m] w fun e w' => e = .returned (.tuple #[.int .i64 (numT 2 m).1, .bool (numT 2 m).2]) ∧ w = w' := by
  go_enter Tryd.func27, Tryd.ntmps27
  go_wp2_with fail
  refine (number_any 2 m _ h0 h1).mono ?_
  rintro e w' ⟨rfl, rfl⟩
  go_wp2_with fail
  go_ret2
  exact ⟨rfl, rfl⟩
theorem filled_any (m : Int) (w : World) (h0 : 0 ≤ m) (h1 : m < 18446744073709551616) :
    Calls Tryd.prog 29 #[.int .u64 m] w fun e w' => e = .returned (.tuple #[.int .i64 (numT 3 m).1, .bool (numT 3 m).2]) ∧ w = w' := by
  go_enter Tryd.func29, Tryd.ntmps29
  go_wp2_with fail
  refine (number_any 3 m _ h0 h1).mono ?_
  rintro e w' ⟨rfl, rfl⟩
  go_wp2_with fail
  go_ret2
  exact ⟨rfl, rfl⟩

theorem size_any (m : Int) (w : World) (ht : Tab w) (h0 : 0 ≤ m) (h1 : m < 18446744073709551616) :
    Calls Tryd.prog 18 #[.int .u64 m] w fun e w' => e = .returned (.int .i64 (sizeW m)) ∧ Below w.heap.size w w' := by
  have U := unpack_any m w ht h0 h1
  unfold sizeW
  by_cases c : isHd m = true
  · rw [if_pos c]
    have f := (chk_iff (dec m)).1 (by unfold isHd at c; simp at c; exact c.2)
    have e1 : unp m = dec m := by unfold unp; rw [if_pos c]
    rw [e1, c] at U
    obtain ⟨-, -, fp0, fp1, fr0, fr1, -, -, -, -, -, -⟩ := f
    have hv : (dec m).val = .agg #[.int .u64 0, .int .i64 (dec m).kind, .int .i64 (dec m).ptrs, .int .i64 (dec m).raws, .int .i64 (dec m).age, .int .i64 (dec m).site, .bool (dec m).held] := rfl
    rw [hv] at U
    generalize dec m = d at *
    have UU := Lib.hid U
    clear U e1 hv c
    go_enter Tryd.func18, Tryd.ntmps18
    go_wp2_with fail
    refine UU.out.mono ?_
    rintro e w' ⟨rfl, hb⟩
    go_wp2_with fail
    go_ret
    exact ⟨rfl, hb.alloc hb.size _⟩
  · rw [if_neg c]
    have c' : isHd m = false := by simpa using c
    have e1 : unp m = nohd := by unfold unp; rw [if_neg c]
    rw [e1, c'] at U
    have UU := Lib.hid U
    clear U c c' e1
    go_enter Tryd.func18, Tryd.ntmps18
    go_wp2_with fail
    refine UU.out.mono ?_
    rintro e w' ⟨rfl, hb⟩
    unfold nohd Hd.val
    simp only
    go_wp2_with fail
    refine (filled_any m _ h0 h1).mono ?_
    rintro e w' ⟨rfl, rfl⟩
    go_wp2_with fail
    go_ret
    exact ⟨rfl, hb.alloc hb.size _⟩
end Go.Proofs.YtomgfdfgildkbaaDoor
