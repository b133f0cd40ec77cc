/- The walks of package middenref2, second part. -/
import Derived.Test.YtomgfdfgildkbaaDoorRefTwo
namespace Go.Proofs.YtomgfdfgildkbaaDoor
open Go.RowKit Go.BigFrame

theorem rpack_no (h : Hd) (w : World) (f : ¬ chk h = 0) :
    Calls Tryd.prog 15 #[h.val] w fun e w' => e = .returned (.tuple #[.int .u64 (pack h), .int .i64 (chk h)]) ∧ Below w.heap.size w w' := by
  have CC := Lib.hid (fun (W : World) => rcheck_any h W)
  have hp : pack h = 0 := by unfold pack; rw [if_neg f]
  rw [hp]; clear hp
  have f1 : (chk h == 0) = false := by simpa using f
  generalize chk h = c at *
  clear f
  unfold Hd.val at *
  obtain ⟨ser, kind, ptrs, raws, age, site, held⟩ := h
  simp only at *
  go_enter Tryd.func15, Tryd.ntmps15
  go_wp2_with fail
  refine (CC.out _).mono ?_
  rintro e w' ⟨rfl, hb⟩
  obtain ⟨hX, hb0, hz⟩ := kept_new hb
  clear hX hb
  go_wp2_with fail
  go_ret2
  exact ⟨rfl, hb0⟩

set_option maxHeartbeats 1000000 in
theorem rpack_yes (h : Hd) (w : World) (f : Fine h) :
    Calls Tryd.prog 15 #[h.val] w fun e w' => e = .returned (.tuple #[.int .u64 (enc h), .int .i64 0]) ∧ Below w.heap.size w w' := by
  have cc := fun (W : World) => rcheck_any h W
  rw [(chk_iff h).2 f] at cc
  have CC := Lib.hid cc; clear cc
  obtain ⟨fk0, fk1, fp0, fp1, fr0, fr1, fa0, fa1, fs0, fs1, -, -⟩ := f
  unfold Hd.val at *
  obtain ⟨ser, kind, ptrs, raws, age, site, held⟩ := h
  simp only at *
  cases held
  all_goals
    go_enter Tryd.func15, Tryd.ntmps15
    go_wp2_with fail
    refine (CC.out _).mono ?_
    rintro e w' ⟨rfl, hb⟩
    obtain ⟨hX, hb0, hz⟩ := kept_new hb
    obtain ⟨hc, hf⟩ := hcell hX
    clear hX hb
    go_wp2_with fail
    go_ret2
    refine ⟨?_, hb0⟩
    refine congrArg (fun x => Ending.returned (Value.tuple #[.int .u64 x, .int .i64 0])) ?_
    unfold enc b2i
    simp
    omega

theorem rpack_any (h : Hd) (w : World) :
    Calls Tryd.prog 15 #[h.val] w fun e w' => e = .returned (.tuple #[.int .u64 (pack h), .int .i64 (chk h)]) ∧ Below w.heap.size w w' := by
  by_cases f : chk h = 0
  · have hp : pack h = enc h := by unfold pack; rw [if_pos f]
    rw [hp, f]
    exact rpack_yes h w ((chk_iff h).1 f)
  · exact rpack_no h w f

theorem runpack_far (m : Int) (w : World) (h0 : 0 ≤ m) (h1 : m < 18446744073709551616) (h : ¬ m % 4 = 1 ∨ 65535 < m / 4 / 8 / 2 / 16 / 256 / 4096) :
    Calls Tryd.prog 17 #[.int .u64 m] w fun e w' => e = .returned (.tuple #[nohd.val, .bool false]) ∧ Below w.heap.size w w' := by
  by_cases c : m % 4 = 1
  · have h2 : 65535 < m / 4 / 8 / 2 / 16 / 256 / 4096 := by omega
    have f1 : (m % 4 != 1) = false := by simpa using c
    clear h c
    go_enter Tryd.func17, Tryd.ntmps17
    go_wp2
    exact bodyPost_ret (v := .tuple #[nohd.val, .bool false]) (by simp [results, Tryd.results17, go_sem, nohd, Hd.val]) rfl ⟨rfl, (Below.refl _ _).alloc (by simp) _⟩
  · have f1 : (m % 4 != 1) = true := by simpa using c
    clear h c
    go_enter Tryd.func17, Tryd.ntmps17
    go_wp2
    exact bodyPost_ret (v := .tuple #[nohd.val, .bool false]) (by simp [results, Tryd.results17, go_sem, nohd, Hd.val]) rfl ⟨rfl, (Below.refl _ _).alloc (by simp) _⟩

theorem rdec_cells (m : Int) (h : m / 4 / 8 / 2 / 16 / 256 / 4096 ≤ 65535) (h0 : 0 ≤ m) : Value.agg #[.int .u64 0, .int .i64 (m / 4 % 8), .int .i64 (m / 4 / 8 / 2 / 16 / 256 % 4096), .int .i64 (m / 4 / 8 / 2 / 16 / 256 / 4096), .int .i64 (m / 4 / 8 / 2 % 16), .int .i64 (m / 4 / 8 / 2 / 16 % 256), .bool (m / 4 / 8 % 2 == 1)] = (dec m).val := by
  rw [← dec_cells, show m / 4 / 8 / 2 / 16 / 256 / 4096 % 65536 = m / 4 / 8 / 2 / 16 / 256 / 4096 by omega]

set_option maxHeartbeats 1000000 in
theorem runpack_near (m : Int) (w : World) (h0 : 0 ≤ m) (h : m % 4 = 1) (hr : m / 4 / 8 / 2 / 16 / 256 / 4096 ≤ 65535) :
    Calls Tryd.prog 17 #[.int .u64 m] w fun e w' => e = .returned (.tuple #[(if chk (dec m) = 0 then dec m else nohd).val, .bool (decide (chk (dec m) = 0))]) ∧ Below w.heap.size w w' := by
  have CC := Lib.hid (fun (W : World) => (rdec_cells m hr h0) ▸ rcheck_any (dec m) W)
  have D := Lib.hid (rdec_cells m hr h0)
  have f1 : (m % 4 != 1) = false := by simpa using h
  clear h
  by_cases c : chk (dec m) = 0
  · rw [if_pos c]
    simp only [c, decide_true] at *
    go_enter Tryd.func17, Tryd.ntmps17
    go_wp2_with fail
    refine (CC.out _).mono ?_
    rintro e w' ⟨rfl, hb⟩
    obtain ⟨hX, hZ, hb0, hz⟩ := kept_new2 hb
    obtain ⟨hc, hf⟩ := hcell hX
    obtain ⟨hc2, hf2⟩ := hcell hZ
    clear hX hZ hb
    go_wp2_with fail
    exact bodyPost_ret (v := .tuple #[(dec m).val, .bool true]) (by rw [← D.out]; simp [results, Tryd.results17, go_sem, hc]) rfl ⟨rfl, by (repeat refine Below.setCell ?_ (by simp) _); exact hb0⟩
  · rw [if_neg c]
    have f1 : (chk (dec m) == 0) = false := by simpa using c
    rw [decide_eq_false c]
    generalize chk (dec m) = cc at *
    clear c
    go_enter Tryd.func17, Tryd.ntmps17
    go_wp2_with fail
    refine (CC.out _).mono ?_
    rintro e w' ⟨rfl, hb⟩
    obtain ⟨hX, hZ, hb0, hz⟩ := kept_new2 hb
    obtain ⟨hc, hf⟩ := hcell hX
    clear hX hZ hb
    go_wp2_with fail
    exact bodyPost_ret (v := .tuple #[nohd.val, .bool false]) (by simp [results, Tryd.results17, go_sem, hc, nohd, Hd.val]) rfl ⟨rfl, by (repeat refine Below.setCell ?_ (by simp) _); exact hb0⟩

theorem runpack_any (m : Int) (w : World) (h0 : 0 ≤ m) (h1 : m < 18446744073709551616) :
    Calls Tryd.prog 17 #[.int .u64 m] w fun e w' => e = .returned (.tuple #[(unp m).val, .bool (isHd m)]) ∧ Below w.heap.size w w' := by
  by_cases h : m % 4 = 1 ∧ m / 4 / 8 / 2 / 16 / 256 / 4096 ≤ 65535
  · have e1 : isHd m = decide (chk (dec m) = 0) := by
      unfold isHd; rw [decide_eq_true h.1, decide_eq_true (show m / 70368744177664 = 0 by omega)]; rfl
    have e2 : unp m = if chk (dec m) = 0 then dec m else nohd := by unfold unp; rw [e1]; simp
    rw [e1, e2]
    exact runpack_near m w h0 h.1 h.2
  · have e1 : isHd m = false := by
      unfold isHd
      by_cases c : m % 4 = 1
      · rw [decide_eq_false (show ¬ m / 70368744177664 = 0 by omega)]; simp
      · rw [decide_eq_false c]; rfl
    rw [show unp m = nohd by unfold unp; rw [e1]; rfl, e1]
    exact runpack_far m w h0 h1 (by omega)

theorem told_any (tag m : Int) (w : World) (h0 : 0 ≤ m) (h1 : m < 18446744073709551616) :
    Calls Tryd.prog 135 #[.int .u64 m, .int .u64 tag] w fun e w' => e = .returned (.tuple #[.int .i64 (numT tag m).1, .bool (numT tag m).2]) ∧ w = w' := by
  unfold numT
  by_cases c : m % 4 = tag ∧ 1 ≤ m / 4 ∧ m / 4 ≤ 1099511627776
  · rw [if_pos c]
    obtain ⟨c1, c2, c3⟩ := c
    have f1 : (m % 4 != tag) = false := by simpa using c1
    have f2 : ¬ m / 4 < 1 := by omega
    clear c1
    go_enter Tryd.func135, Tryd.ntmps135
    go_wp2
    go_ret2
    exact ⟨rfl, rfl⟩
  · rw [if_neg c]
    by_cases c1 : m % 4 = tag
    · have f1 : (m % 4 != tag) = false := by simpa using c1
      by_cases c2 : m / 4 < 1
      · clear c c1
        go_enter Tryd.func135, Tryd.ntmps135
        go_wp2
        go_ret2
        exact ⟨rfl, rfl⟩
      · have c3 : 1099511627776 < m / 4 := by omega
        have f2 : decide (m / 4 < 1) = false := by simp; omega
        clear c c1
        go_enter Tryd.func135, Tryd.ntmps135
        go_wp2
        go_ret2
        exact ⟨rfl, rfl⟩
    · have f1 : (m % 4 != tag) = true := by simpa using c1
      clear c c1
      go_enter Tryd.func135, Tryd.ntmps135
      go_wp2
      go_ret2
      exact ⟨rfl, rfl⟩

theorem counted_any (tag n : Int) (w : World) (h0 : 0 ≤ tag) (h1 : tag < 4) :
    Calls Tryd.prog 165 #[.int .i64 n, .int .u64 tag] w fun e w' => e = .returned (.int .u64 (wordT tag n)) ∧ w = w' := by
  unfold wordT
  by_cases c : 1 ≤ n ∧ n ≤ 1099511627776
  · rw [if_pos c]
    obtain ⟨c1, c2⟩ := c
    go_enter Tryd.func165, Tryd.ntmps165
    go_wp2
    go_ret
    exact ⟨ret_int (by omega), rfl⟩
  · rw [if_neg c]
    by_cases c1 : n < 1
    · clear c
      go_enter Tryd.func165, Tryd.ntmps165
      go_wp2
      go_ret
      exact ⟨rfl, rfl⟩
    · have c2 : 1099511627776 < n := by omega
      clear c
      go_enter Tryd.func165, Tryd.ntmps165
      go_wp2
      go_ret
      exact ⟨rfl, rfl⟩

theorem rfiller_any (n : Int) (w : World) : Calls Tryd.prog 164 #[.int .i64 n] w fun e w' => e = .returned (.int .u64 (wordT 3 n)) ∧ w = w' := by
  go_enter Tryd.func164, Tryd.ntmps164
  go_wp2_with fail
  refine (counted_any 3 n _ (by decide) (by decide)).mono ?_
  rintro e w' ⟨rfl, rfl⟩
  go_wp2_with fail
  go_ret
  exact ⟨rfl, rfl⟩
theorem rfilled_any (m : Int) (w : World) (h0 : 0 ≤ m) (h1 : m < 18446744073709551616) :
    Calls Tryd.prog 76 #[.int .u64 m] w fun e w' => e = .returned (.tuple #[.int .i64 (numT 3 m).1, .bool (numT 3 m).2]) ∧ w = w' := by
  go_enter Tryd.func76, Tryd.ntmps76
  go_wp2_with fail
  refine (told_any 3 m _ h0 h1).mono ?_
  rintro e w' ⟨rfl, rfl⟩
  go_wp2_with fail
  go_ret2
  exact ⟨rfl, rfl⟩

theorem rsize_any (m : Int) (w : World) (h0 : 0 ≤ m) (h1 : m < 18446744073709551616) :
    Calls Tryd.prog 19 #[.int .u64 m] w fun e w' => e = .returned (.int .i64 (sizeW m)) ∧ Below w.heap.size w w' := by
  have U := runpack_any m w h0 h1
  unfold sizeW
  by_cases c : isHd m = true
  · rw [if_pos c]
    have f := (chk_iff (dec m)).1 (by unfold isHd at c; simp at c; exact c.2)
    have e1 : unp m = dec m := by unfold unp; rw [if_pos c]
    rw [e1, c] at U
    obtain ⟨-, -, fp0, fp1, fr0, fr1, -, -, -, -, -, -⟩ := f
    have hv : (dec m).val = .agg #[.int .u64 0, .int .i64 (dec m).kind, .int .i64 (dec m).ptrs, .int .i64 (dec m).raws, .int .i64 (dec m).age, .int .i64 (dec m).site, .bool (dec m).held] := rfl
    rw [hv] at U
    generalize dec m = d at *
    have UU := Lib.hid U
    clear U e1 hv c
    go_enter Tryd.func19, Tryd.ntmps19
    go_wp2_with fail
    refine UU.out.mono ?_
    rintro e w' ⟨rfl, hb⟩
    go_wp2_with fail
    go_ret
    exact ⟨rfl, hb.alloc hb.size _⟩
  · rw [if_neg c]
    have c' : isHd m = false := by simpa using c
    have e1 : unp m = nohd := by unfold unp; rw [if_neg c]
    rw [e1, c'] at U
    have UU := Lib.hid U
    clear U c c' e1
    go_enter Tryd.func19, Tryd.ntmps19
    go_wp2_with fail
    refine UU.out.mono ?_
    rintro e w' ⟨rfl, hb⟩
    unfold nohd Hd.val
    simp only
    go_wp2_with fail
    refine (rfilled_any m _ h0 h1).mono ?_
    rintro e w' ⟨rfl, rfl⟩
    go_wp2_with fail
    go_ret
    exact ⟨rfl, hb.alloc hb.size _⟩
end Go.Proofs.YtomgfdfgildkbaaDoor
