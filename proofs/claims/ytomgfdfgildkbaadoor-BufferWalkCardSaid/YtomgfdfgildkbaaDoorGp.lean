/- Merged texts: RefTwo, RefTwoB, RefTwoC, LawTwo. -/
import Derived.Test.YtomgfdfgildkbaaDoorCellW5
/- The walks of package middenref2: the same plain words. -/

namespace Go.Proofs.YtomgfdfgildkbaaDoor
open Go.RowKit Go.BigFrame

set_option maxHeartbeats 1000000 in
theorem rcheck_any (h : Hd) (w : World) :
    Calls Tryd.prog 75 #[h.val] w fun e w' => e = .returned (.int .i64 (chk h)) ∧ Below w.heap.size w w' := by
  obtain ⟨ser, kind, ptrs, raws, age, site, held⟩ := h
  unfold Hd.val
  simp only
  by_cases k0 : kind < 1
  · go_enter Tryd.func75, Tryd.ntmps75
    go_wp2
    all_goals
      go_ret
      exact ⟨ret_int (by unfold chk; simp only; (try simp only [true_and]); repeat (first | rw [if_pos (by omega)] | rw [if_neg (by omega)])), ((Below.refl _ _).alloc (Nat.le_refl _) _)⟩
  by_cases k5 : 4 < kind
  · have d0 : decide (kind < 1) = false := by simp; omega
    go_enter Tryd.func75, Tryd.ntmps75
    go_wp2
    all_goals
      go_ret
      exact ⟨ret_int (by unfold chk; simp only; (try simp only [true_and]); repeat (first | rw [if_pos (by omega)] | rw [if_neg (by omega)])), ((Below.refl _ _).alloc (Nat.le_refl _) _)⟩
  have hk : kind = 1 ∨ kind = 4 ∨ kind = 2 ∨ kind = 3 := by omega
  clear k0 k5
  rcases hk with rfl | rfl | rfl | rfl
  all_goals
    go_enter Tryd.func75, Tryd.ntmps75
    go_wp2
    all_goals
      go_ret
      exact ⟨ret_int (by unfold chk; simp only; (try simp only [true_and]); repeat (first | rw [if_pos (by omega)] | rw [if_neg (by omega)])), ((Below.refl _ _).alloc (Nat.le_refl _) _)⟩
end Go.Proofs.YtomgfdfgildkbaaDoor
/- The walks of package middenref2, second part. -/

namespace Go.Proofs.YtomgfdfgildkbaaDoor
open Go.RowKit Go.BigFrame

theorem rpack_no (h : Hd) (w : World) (f : ¬ chk h = 0) :
    Calls Tryd.prog 15 #[h.val] w fun e w' => e = .returned (.tuple #[.int .u64 (pack h), .int .i64 (chk h)]) ∧ Below w.heap.size w w' := by
  have CC := Lib.hid (fun (W : World) => rcheck_any h W)
  have hp : pack h = 0 := by unfold pack; rw [if_neg f]
  rw [hp]; clear hp
  have f1 : (chk h == 0) = false := by simpa using f
  generalize chk h = c at *
  clear f
  unfold Hd.val at *
  obtain ⟨ser, kind, ptrs, raws, age, site, held⟩ := h
  simp only at *
  go_enter Tryd.func15, Tryd.ntmps15
  go_wp2_with fail
  refine (CC.out _).mono ?_
  rintro e w' ⟨rfl, hb⟩
  obtain ⟨hX, hb0, hz⟩ := kept_new hb
  clear hX hb
  go_wp2_with fail
  go_ret2
  exact ⟨rfl, hb0⟩

set_option maxHeartbeats 1000000 in
theorem rpack_yes (h : Hd) (w : World) (f : Fine h) :
    Calls Tryd.prog 15 #[h.val] w fun e w' => e = .returned (.tuple #[.int .u64 (enc h), .int .i64 0]) ∧ Below w.heap.size w w' := by
  have cc := fun (W : World) => rcheck_any h W
  rw [(chk_iff h).2 f] at cc
  have CC := Lib.hid cc; clear cc
  obtain ⟨fk0, fk1, fp0, fp1, fr0, fr1, fa0, fa1, fs0, fs1, -, -⟩ := f
  unfold Hd.val at *
  obtain ⟨ser, kind, ptrs, raws, age, site, held⟩ := h
  simp only at *
  cases held
  all_goals
    go_enter Tryd.func15, Tryd.ntmps15
    go_wp2_with fail
    refine (CC.out _).mono ?_
    rintro e w' ⟨rfl, hb⟩
    obtain ⟨hX, hb0, hz⟩ := kept_new hb
    obtain ⟨hc, hf⟩ := hcell hX
    clear hX hb
    go_wp2_with fail
    go_ret2
    refine ⟨?_, hb0⟩
    refine congrArg (fun x => Ending.returned (Value.tuple #[.int .u64 x, .int .i64 0])) ?_
    unfold enc b2i
    simp
    omega

theorem rpack_any (h : Hd) (w : World) :
    Calls Tryd.prog 15 #[h.val] w fun e w' => e = .returned (.tuple #[.int .u64 (pack h), .int .i64 (chk h)]) ∧ Below w.heap.size w w' := by
  by_cases f : chk h = 0
  · have hp : pack h = enc h := by unfold pack; rw [if_pos f]
    rw [hp, f]
    exact rpack_yes h w ((chk_iff h).1 f)
  · exact rpack_no h w f

theorem runpack_far (m : Int) (w : World) (h0 : 0 ≤ m) (h1 : m < 18446744073709551616) (h : ¬ m % 4 = 1 ∨ 65535 < m / 4 / 8 / 2 / 16 / 256 / 4096) :
    Calls Tryd.prog 17 #[.int .u64 m] w fun e w' => e = .returned (.tuple #[nohd.val, .bool false]) ∧ Below w.heap.size w w' := by
  by_cases c : m % 4 = 1
  · have h2 : 65535 < m / 4 / 8 / 2 / 16 / 256 / 4096 := by omega
    have f1 : (m % 4 != 1) = false := by simpa using c
    clear h c
    go_enter Tryd.func17, Tryd.ntmps17
    go_wp2
    exact bodyPost_ret (v := .tuple #[nohd.val, .bool false]) (by simp [results, Tryd.results17, go_sem, nohd, Hd.val]) rfl ⟨rfl, (Below.refl _ _).alloc (by simp) _⟩
  · have f1 : (m % 4 != 1) = true := by simpa using c
    clear h c
    go_enter Tryd.func17, Tryd.ntmps17
    go_wp2
    exact bodyPost_ret (v := .tuple #[nohd.val, .bool false]) (by simp [results, Tryd.results17, go_sem, nohd, Hd.val]) rfl ⟨rfl, (Below.refl _ _).alloc (by simp) _⟩

theorem rdec_cells (m : Int) (h : m / 4 / 8 / 2 / 16 / 256 / 4096 ≤ 65535) (h0 : 0 ≤ m) : Value.agg #[.int .u64 0, .int .i64 (m / 4 % 8), .int .i64 (m / 4 / 8 / 2 / 16 / 256 % 4096), .int .i64 (m / 4 / 8 / 2 / 16 / 256 / 4096), .int .i64 (m / 4 / 8 / 2 % 16), .int .i64 (m / 4 / 8 / 2 / 16 % 256), .bool (m / 4 / 8 % 2 == 1)] = (dec m).val := by
  rw [← dec_cells, show m / 4 / 8 / 2 / 16 / 256 / 4096 % 65536 = m / 4 / 8 / 2 / 16 / 256 / 4096 by omega]

set_option maxHeartbeats 1000000 in
theorem runpack_near (m : Int) (w : World) (h0 : 0 ≤ m) (h : m % 4 = 1) (hr : m / 4 / 8 / 2 / 16 / 256 / 4096 ≤ 65535) :
    Calls Tryd.prog 17 #[.int .u64 m] w fun e w' => e = .returned (.tuple #[(if chk (dec m) = 0 then dec m else nohd).val, .bool (decide (chk (dec m) = 0))]) ∧ Below w.heap.size w w' := by
  have CC := Lib.hid (fun (W : World) => (rdec_cells m hr h0) ▸ rcheck_any (dec m) W)
  have D := Lib.hid (rdec_cells m hr h0)
  have f1 : (m % 4 != 1) = false := by simpa using h
  clear h
  by_cases c : chk (dec m) = 0
  · rw [if_pos c]
    simp only [c, decide_true] at *
    go_enter Tryd.func17, Tryd.ntmps17
    go_wp2_with fail
    refine (CC.out _).mono ?_
    rintro e w' ⟨rfl, hb⟩
    obtain ⟨hX, hZ, hb0, hz⟩ := kept_new2 hb
    obtain ⟨hc, hf⟩ := hcell hX
    obtain ⟨hc2, hf2⟩ := hcell hZ
    clear hX hZ hb
    go_wp2_with fail
    exact bodyPost_ret (v := .tuple #[(dec m).val, .bool true]) (by rw [← D.out]; simp [results, Tryd.results17, go_sem, hc]) rfl ⟨rfl, by (repeat refine Below.setCell ?_ (by simp) _); exact hb0⟩
  · rw [if_neg c]
    have f1 : (chk (dec m) == 0) = false := by simpa using c
    rw [decide_eq_false c]
    generalize chk (dec m) = cc at *
    clear c
    go_enter Tryd.func17, Tryd.ntmps17
    go_wp2_with fail
    refine (CC.out _).mono ?_
    rintro e w' ⟨rfl, hb⟩
    obtain ⟨hX, hZ, hb0, hz⟩ := kept_new2 hb
    obtain ⟨hc, hf⟩ := hcell hX
    clear hX hZ hb
    go_wp2_with fail
    exact bodyPost_ret (v := .tuple #[nohd.val, .bool false]) (by simp [results, Tryd.results17, go_sem, hc, nohd, Hd.val]) rfl ⟨rfl, by (repeat refine Below.setCell ?_ (by simp) _); exact hb0⟩

theorem runpack_any (m : Int) (w : World) (h0 : 0 ≤ m) (h1 : m < 18446744073709551616) :
    Calls Tryd.prog 17 #[.int .u64 m] w fun e w' => e = .returned (.tuple #[(unp m).val, .bool (isHd m)]) ∧ Below w.heap.size w w' := by
  by_cases h : m % 4 = 1 ∧ m / 4 / 8 / 2 / 16 / 256 / 4096 ≤ 65535
  · have e1 : isHd m = decide (chk (dec m) = 0) := by
      unfold isHd; rw [decide_eq_true h.1, decide_eq_true (show m / 70368744177664 = 0 by omega)]; rfl
    have e2 : unp m = if chk (dec m) = 0 then dec m else nohd := by unfold unp; rw [e1]; simp
    rw [e1, e2]
    exact runpack_near m w h0 h.1 h.2
  · have e1 : isHd m = false := by
      unfold isHd
      by_cases c : m % 4 = 1
      · rw [decide_eq_false (show ¬ m / 70368744177664 = 0 by omega)]; simp
      · rw [decide_eq_false c]; rfl
    rw [show unp m = nohd by unfold unp; rw [e1]; rfl, e1]
    exact runpack_far m w h0 h1 (by omega)

theorem told_any (tag m : Int) (w : World) (h0 : 0 ≤ m) (h1 : m < 18446744073709551616) :
    Calls Tryd.prog 135 #[.int .u64 m, .int .u64 tag] w fun e w' => e = .returned (.tuple #[.int .i64 (numT tag m).1, .bool (numT tag m).2]) ∧ w = w' := by
  unfold numT
  by_cases c : m % 4 = tag ∧ 1 ≤ m / 4 ∧ m / 4 ≤ 1099511627776
  · rw [if_pos c]
    obtain ⟨c1, c2, c3⟩ := c
    have f1 : (m % 4 != tag) = false := by simpa using c1
    have f2 : ¬ m / 4 < 1 := by omega
    clear c1
    go_enter Tryd.func135, Tryd.ntmps135
    go_wp2
    go_ret2
    exact ⟨rfl, rfl⟩
  · rw [if_neg c]
    by_cases c1 : m % 4 = tag
    · have f1 : (m % 4 != tag) = false := by simpa using c1
      by_cases c2 : m / 4 < 1
      · clear c c1
        go_enter Tryd.func135, Tryd.ntmps135
        go_wp2
        go_ret2
        exact ⟨rfl, rfl⟩
      · have c3 : 1099511627776 < m / 4 := by omega
        have f2 : decide (m / 4 < 1) = false := by simp; omega
        clear c c1
        go_enter Tryd.func135, Tryd.ntmps135
        go_wp2
        go_ret2
        exact ⟨rfl, rfl⟩
    · have f1 : (m % 4 != tag) = true := by simpa using c1
      clear c c1
      go_enter Tryd.func135, Tryd.ntmps135
      go_wp2
      go_ret2
      exact ⟨rfl, rfl⟩

theorem counted_any (tag n : Int) (w : World) (h0 : 0 ≤ tag) (h1 : tag < 4) :
    Calls Tryd.prog 165 #[.int .i64 n, .int .u64 tag] w fun e w' => e = .returned (.int .u64 (wordT tag n)) ∧ w = w' := by
  unfold wordT
  by_cases c : 1 ≤ n ∧ n ≤ 1099511627776
  · rw [if_pos c]
    obtain ⟨c1, c2⟩ := c
    go_enter Tryd.func165, Tryd.ntmps165
    go_wp2
    go_ret
    exact ⟨ret_int (by omega), rfl⟩
  · rw [if_neg c]
    by_cases c1 : n < 1
    · clear c
      go_enter Tryd.func165, Tryd.ntmps165
      go_wp2
      go_ret
      exact ⟨rfl, rfl⟩
    · have c2 : 1099511627776 < n := by omega
      clear c
      go_enter Tryd.func165, Tryd.ntmps165
      go_wp2
      go_ret
      exact ⟨rfl, rfl⟩

theorem rfiller_any (n : Int) (w : World) : Calls Tryd.prog 164 #[.int .i64 n] w fun e w' => e = .returned (.int .u64 (wordT 3 n)) ∧ w = w' := by
  go_enter Tryd.func164, Tryd.ntmps164
  go_wp2_with fail
  refine (counted_any 3 n _ (by decide) (by decide)).mono ?_
  rintro e w' ⟨rfl, rfl⟩
  go_wp2_with fail
  go_ret
  exact ⟨rfl, rfl⟩
theorem rfilled_any (m : Int) (w : World) (h0 : 0 ≤ m) (h1 : m < 18446744073709551616) :
    Calls Tryd.prog 76 #[.int .u64 m] w fun e w' => e = .returned (.tuple #[.int .i64 (numT 3 m).1, .bool (numT 3 m).2]) ∧ w = w' := by
  go_enter Tryd.func76, Tryd.ntmps76
  go_wp2_with fail
  refine (told_any 3 m _ h0 h1).mono ?_
  rintro e w' ⟨rfl, rfl⟩
  go_wp2_with fail
  go_ret2
  exact ⟨rfl, rfl⟩

theorem rsize_any (m : Int) (w : World) (h0 : 0 ≤ m) (h1 : m < 18446744073709551616) :
    Calls Tryd.prog 19 #[.int .u64 m] w fun e w' => e = .returned (.int .i64 (sizeW m)) ∧ Below w.heap.size w w' := by
  have U := runpack_any m w h0 h1
  unfold sizeW
  by_cases c : isHd m = true
  · rw [if_pos c]
    have f := (chk_iff (dec m)).1 (by unfold isHd at c; simp at c; exact c.2)
    have e1 : unp m = dec m := by unfold unp; rw [if_pos c]
    rw [e1, c] at U
    obtain ⟨-, -, fp0, fp1, fr0, fr1, -, -, -, -, -, -⟩ := f
    have hv : (dec m).val = .agg #[.int .u64 0, .int .i64 (dec m).kind, .int .i64 (dec m).ptrs, .int .i64 (dec m).raws, .int .i64 (dec m).age, .int .i64 (dec m).site, .bool (dec m).held] := rfl
    rw [hv] at U
    generalize dec m = d at *
    have UU := Lib.hid U
    clear U e1 hv c
    go_enter Tryd.func19, Tryd.ntmps19
    go_wp2_with fail
    refine UU.out.mono ?_
    rintro e w' ⟨rfl, hb⟩
    go_wp2_with fail
    go_ret
    exact ⟨rfl, hb.alloc hb.size _⟩
  · rw [if_neg c]
    have c' : isHd m = false := by simpa using c
    have e1 : unp m = nohd := by unfold unp; rw [if_neg c]
    rw [e1, c'] at U
    have UU := Lib.hid U
    clear U c c' e1
    go_enter Tryd.func19, Tryd.ntmps19
    go_wp2_with fail
    refine UU.out.mono ?_
    rintro e w' ⟨rfl, hb⟩
    unfold nohd Hd.val
    simp only
    go_wp2_with fail
    refine (rfilled_any m _ h0 h1).mono ?_
    rintro e w' ⟨rfl, rfl⟩
    go_wp2_with fail
    go_ret
    exact ⟨rfl, hb.alloc hb.size _⟩
end Go.Proofs.YtomgfdfgildkbaaDoor
/- The walks of package middenref2, third part: one thing of a header changed. -/

namespace Go.Proofs.YtomgfdfgildkbaaDoor
open Go.RowKit Go.BigFrame

theorem rwith_any (m : Int) (h : Hd) (ok : Bool) (w : World) :
    Calls Tryd.prog 79 #[.int .u64 m, h.val, .bool ok] w fun e w' => e = .returned (.int .u64 (if ok = true ∧ chk h = 0 then enc h else m)) ∧ Below w.heap.size w w' := by
  have P := fun W => rpack_any h W
  have hv : h.val = .agg #[.int .u64 h.ser, .int .i64 h.kind, .int .i64 h.ptrs, .int .i64 h.raws, .int .i64 h.age, .int .i64 h.site, .bool h.held] := rfl
  cases ok
  · rw [if_neg (by simp), hv]
    clear P hv
    go_enter Tryd.func79, Tryd.ntmps79
    go_wp2_with fail
    go_ret
    exact ⟨rfl, (Below.refl _ _).alloc (Nat.le_refl _) _⟩
  · by_cases q : chk h = 0
    · rw [if_pos ⟨rfl, q⟩]
      rw [show pack h = enc h by unfold pack; rw [if_pos q], q] at P
      rw [hv] at *
      have PP := Lib.hid P
      generalize enc h = x at *
      clear P q hv
      go_enter Tryd.func79, Tryd.ntmps79
      go_wp2_with fail
      refine (PP.out _).mono ?_
      rintro e w' ⟨rfl, hb⟩
      obtain ⟨hX, hb0, hz⟩ := kept_new hb
      clear hX hb
      go_wp2_with fail
      go_ret
      exact ⟨rfl, hb0⟩
    · rw [if_neg (by simp [q])]
      have q1 : (chk h == 0) = false := by simpa using q
      rw [show pack h = 0 by unfold pack; rw [if_neg q]] at P
      rw [hv] at *
      generalize chk h = cc at *
      have PP := Lib.hid P
      clear P q hv
      go_enter Tryd.func79, Tryd.ntmps79
      go_wp2_with fail
      refine (PP.out _).mono ?_
      rintro e w' ⟨rfl, hb⟩
      obtain ⟨hX, hb0, hz⟩ := kept_new hb
      clear hX hb
      go_wp2_with fail
      go_ret
      exact ⟨rfl, hb0⟩

theorem rWith_age_any (v : Int) (m : Int) (w : World) (h0 : 0 ≤ m) (h1 : m < 18446744073709551616) :
    Calls Tryd.prog 21 #[.int .u64 m, .int .i64 v] w fun e w' => e = .returned (.int .u64 (withH m (fun (h : Hd) => { h with age := v }))) ∧ Below w.heap.size w w' := by
  have U := runpack_any m w h0 h1
  have e0 : withH m (fun (h : Hd) => { h with age := v }) = if isHd m = true ∧ chk { unp m with age := v } = 0 then enc { unp m with age := v } else m := by
    unfold withH unp
    cases isHd m <;> simp
  rw [e0]
  clear e0
  have W := fun W => rwith_any m { unp m with age := v } (isHd m) W
  generalize isHd m = b at *
  generalize unp m = d at *
  generalize (if b = true ∧ chk { d with age := v } = 0 then enc { d with age := v } else m) = x at *
  unfold Hd.val at *
  simp only at *
  have UU := Lib.hid U
  have WW := Lib.hid W
  clear U W
  go_enter Tryd.func21, Tryd.ntmps21
  go_wp2_with fail
  refine UU.out.mono ?_
  rintro e w1 ⟨rfl, hb1⟩
  go_wp2_with fail
  refine (WW.out _).mono ?_
  rintro e w2 ⟨rfl, hb2⟩
  go_wp2_with fail
  go_ret
  exact ⟨rfl, (hb1.alloc hb1.size _).trans (hb2.mono (by have := hb1.size; simp; omega))⟩

theorem rWith_held_any (v : Bool) (m : Int) (w : World) (h0 : 0 ≤ m) (h1 : m < 18446744073709551616) :
    Calls Tryd.prog 23 #[.int .u64 m, .bool v] w fun e w' => e = .returned (.int .u64 (withH m (fun (h : Hd) => { h with held := v }))) ∧ Below w.heap.size w w' := by
  have U := runpack_any m w h0 h1
  have e0 : withH m (fun (h : Hd) => { h with held := v }) = if isHd m = true ∧ chk { unp m with held := v } = 0 then enc { unp m with held := v } else m := by
    unfold withH unp
    cases isHd m <;> simp
  rw [e0]
  clear e0
  have W := fun W => rwith_any m { unp m with held := v } (isHd m) W
  generalize isHd m = b at *
  generalize unp m = d at *
  generalize (if b = true ∧ chk { d with held := v } = 0 then enc { d with held := v } else m) = x at *
  unfold Hd.val at *
  simp only at *
  have UU := Lib.hid U
  have WW := Lib.hid W
  clear U W
  go_enter Tryd.func23, Tryd.ntmps23
  go_wp2_with fail
  refine UU.out.mono ?_
  rintro e w1 ⟨rfl, hb1⟩
  go_wp2_with fail
  refine (WW.out _).mono ?_
  rintro e w2 ⟨rfl, hb2⟩
  go_wp2_with fail
  go_ret
  exact ⟨rfl, (hb1.alloc hb1.size _).trans (hb2.mono (by have := hb1.size; simp; omega))⟩

theorem rWith_kind_any (v : Int) (m : Int) (w : World) (h0 : 0 ≤ m) (h1 : m < 18446744073709551616) :
    Calls Tryd.prog 25 #[.int .u64 m, .int .i64 v] w fun e w' => e = .returned (.int .u64 (withH m (fun (h : Hd) => { h with kind := v }))) ∧ Below w.heap.size w w' := by
  have U := runpack_any m w h0 h1
  have e0 : withH m (fun (h : Hd) => { h with kind := v }) = if isHd m = true ∧ chk { unp m with kind := v } = 0 then enc { unp m with kind := v } else m := by
    unfold withH unp
    cases isHd m <;> simp
  rw [e0]
  clear e0
  have W := fun W => rwith_any m { unp m with kind := v } (isHd m) W
  generalize isHd m = b at *
  generalize unp m = d at *
  generalize (if b = true ∧ chk { d with kind := v } = 0 then enc { d with kind := v } else m) = x at *
  unfold Hd.val at *
  simp only at *
  have UU := Lib.hid U
  have WW := Lib.hid W
  clear U W
  go_enter Tryd.func25, Tryd.ntmps25
  go_wp2_with fail
  refine UU.out.mono ?_
  rintro e w1 ⟨rfl, hb1⟩
  go_wp2_with fail
  refine (WW.out _).mono ?_
  rintro e w2 ⟨rfl, hb2⟩
  go_wp2_with fail
  go_ret
  exact ⟨rfl, (hb1.alloc hb1.size _).trans (hb2.mono (by have := hb1.size; simp; omega))⟩
end Go.Proofs.YtomgfdfgildkbaaDoor
/- The walks of the laws of layer 2. -/

namespace Go.Proofs.YtomgfdfgildkbaaDoor
open Go.RowKit Go.BigFrame

theorem pack_bd (h : Hd) : 0 ≤ pack h ∧ pack h < 18446744073709551616 := by
  unfold pack
  by_cases c : chk h = 0
  · rw [if_pos c]; have := enc_bd ((chk_iff h).1 c); omega
  · rw [if_neg c]; omega

set_option maxHeartbeats 1000000 in
theorem cellHeads_walk (h : Hd) (m : Int) (w : World) (ht : Tab w) (h0 : 0 ≤ m) (h1 : m < 18446744073709551616) :
    Calls Tryd.prog 3 #[h.val, .int .u64 m] w fun e w' => e = .returned (.bool true) ∧ Below w.heap.size w w' := by
  have P := Lib.hid (fun W (hb : Below w.heap.size w W) => pack_any h W (ht.below hb))
  have Q := Lib.hid (fun W => rpack_any h W)
  have U := Lib.hid (fun W (hb : Below w.heap.size w W) => unpack_any m W (ht.below hb) h0 h1)
  have V := Lib.hid (fun W => runpack_any m W h0 h1)
  have S := Lib.hid (fun W (hb : Below w.heap.size w W) => size_any m W (ht.below hb) h0 h1)
  have R := Lib.hid (fun W => rsize_any m W h0 h1)
  obtain ⟨p0, p1⟩ := pack_bd h
  have S2 := Lib.hid (fun W (hb : Below w.heap.size w W) => size_any (pack h) W (ht.below hb) p0 p1)
  have R2 := Lib.hid (fun W => rsize_any (pack h) W p0 p1)
  generalize pack h = ph at *
  generalize chk h = ch at *
  generalize isHd m = b at *
  generalize unp m = d at *
  generalize sizeW m = sm at *
  generalize sizeW ph = sp at *
  unfold Hd.val at *
  clear ht h0 h1 p0 p1
  go_enter Tryd.func3, Tryd.ntmps3
  go_wp2_with fail
  refine (P.out _ ((Below.refl _ _).alloc (Nat.le_refl _) _)).mono ?_
  rintro e w1 ⟨rfl, hb⟩
  obtain ⟨hX, hb1, hz1⟩ := kept_new hb
  obtain ⟨hc, hf⟩ := hcell hX
  clear hX hb
  go_wp2_with fail
  refine (Q.out _).mono ?_
  rintro e w2 ⟨rfl, hb⟩
  have hb2 := hb1.trans (hb.mono hb1.size)
  clear hc hf hb hb1 hz1
  go_wp2_with fail
  refine (U.out _ hb2).mono ?_
  rintro e w3 ⟨rfl, hb⟩
  have hb3 := hb2.trans (hb.mono hb2.size)
  clear hb hb2
  go_wp2_with fail
  refine (V.out _).mono ?_
  rintro e w4 ⟨rfl, hb⟩
  obtain ⟨hX, hb4, hz⟩ := kept_new hb
  obtain ⟨hc, hf⟩ := hcell hX
  have hb5 := hb3.trans (hb4.mono hb3.size)
  clear hX hb
  go_wp2_with fail
  refine (S.out _ (hb5.alloc hb5.size _)).mono ?_
  rintro e w5 ⟨rfl, hb⟩
  have hb6 : Below w.heap.size w w5 := (hb5.alloc hb5.size _).trans (hb.mono (by have := hb5.size; simp; omega))
  clear hb hc hf
  go_wp2_with fail
  refine (R.out _).mono ?_
  rintro e w6 ⟨rfl, hb⟩
  have hb7 := hb6.trans (hb.mono hb6.size)
  clear hb
  go_wp2_with fail
  refine (S2.out _ hb7).mono ?_
  rintro e w7 ⟨rfl, hb⟩
  have hb8 := hb7.trans (hb.mono hb7.size)
  clear hb
  go_wp2_with fail
  refine (R2.out _).mono ?_
  rintro e w8 ⟨rfl, hb⟩
  have hb9 := hb8.trans (hb.mono hb8.size)
  clear hb
  go_wp2_with fail
  go_ret
  exact ⟨rfl, hb9⟩

set_option maxHeartbeats 1000000 in
theorem cellTurns_walk (m n : Int) (b : Bool) (w : World) (ht : Tab w) (h0 : 0 ≤ m) (h1 : m < 18446744073709551616) :
    Calls Tryd.prog 4 #[.int .u64 m, .int .i64 n, .bool b] w fun e w' => e = .returned (.bool true) ∧ Below w.heap.size w w' := by
  have A := Lib.hid (fun W (hb : Below w.heap.size w W) => With_age_any n m W (ht.below hb) h0 h1)
  have B := Lib.hid (fun W => rWith_age_any n m W h0 h1)
  have C := Lib.hid (fun W (hb : Below w.heap.size w W) => With_held_any b m W (ht.below hb) h0 h1)
  have D := Lib.hid (fun W => rWith_held_any b m W h0 h1)
  have E := Lib.hid (fun W (hb : Below w.heap.size w W) => With_kind_any n m W (ht.below hb) h0 h1)
  have F := Lib.hid (fun W => rWith_kind_any n m W h0 h1)
  generalize withH m (fun (h : Hd) => { h with age := n }) = x at *
  generalize withH m (fun (h : Hd) => { h with held := b }) = y at *
  generalize withH m (fun (h : Hd) => { h with kind := n }) = z at *
  clear ht h0 h1
  go_enter Tryd.func4, Tryd.ntmps4
  go_wp2_with fail
  refine (A.out _ (Below.refl _ _)).mono ?_
  rintro e w1 ⟨rfl, hb1⟩
  go_wp2_with fail
  refine (B.out _).mono ?_
  rintro e w2 ⟨rfl, hb⟩
  have hb2 := hb1.trans (hb.mono hb1.size)
  clear hb
  go_wp2_with fail
  refine (C.out _ hb2).mono ?_
  rintro e w3 ⟨rfl, hb⟩
  have hb3 := hb2.trans (hb.mono hb2.size)
  clear hb
  go_wp2_with fail
  refine (D.out _).mono ?_
  rintro e w4 ⟨rfl, hb⟩
  have hb4 := hb3.trans (hb.mono hb3.size)
  clear hb
  go_wp2_with fail
  refine (E.out _ hb4).mono ?_
  rintro e w5 ⟨rfl, hb⟩
  have hb5 := hb4.trans (hb.mono hb4.size)
  clear hb
  go_wp2_with fail
  refine (F.out _).mono ?_
  rintro e w6 ⟨rfl, hb⟩
  have hb6 := hb5.trans (hb.mono hb5.size)
  clear hb
  go_wp2_with fail
  go_ret
  exact ⟨rfl, hb6⟩
end Go.Proofs.YtomgfdfgildkbaaDoor
