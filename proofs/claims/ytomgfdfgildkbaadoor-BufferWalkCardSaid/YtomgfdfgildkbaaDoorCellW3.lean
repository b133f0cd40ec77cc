/- The walks of package cell, third part: Unpack, Size. -/
import Derived.Test.YtomgfdfgildkbaaDoorCellW2
namespace Go.Proofs.YtomgfdfgildkbaaDoor
open Go.RowKit Go.BigFrame

theorem wraps_u64 (n : Int) (h₀ : 0 ≤ n) (h₁ : n < 2 ^ 64) : IntKind.u64.wrap n = n := by rw [IntKind.wrap_u64]; omega
theorem and_u64 (i : Nat) (hi : i ≤ 64) {m : Int} (h0 : 0 ≤ m) (h1 : m < 18446744073709551616) : bits .and .u64 m (2 ^ i - 1) = m % 2 ^ i :=
  bits_mask .u64 64 (by decide) wraps_u64 i hi m h0 (by omega)

set_option maxHeartbeats 1000000 in
theorem unpack_no (m : Int) (w : World) (h0 : 0 ≤ m) (h1 : m < 18446744073709551616) (h : ¬ m % 4 = 1) :
    Calls Tryd.prog 16 #[.int .u64 m] w fun e w' => e = .returned (.tuple #[nohd.val, .bool false]) ∧ Below w.heap.size w w' := by
  have hA : (bits .and .u64 m 3 != 1) = true := by rw [show (3 : Int) = 2 ^ 2 - 1 by rfl, and_u64 2 (by decide) h0 h1]; simpa using h
  clear h h0 h1
  go_enter Tryd.func16, Tryd.ntmps16
  go_wp2_with fail
  exact bodyPost_ret (v := .tuple #[nohd.val, .bool false]) (by simp [results, Tryd.results16, go_sem, nohd, Hd.val]) rfl ⟨rfl, ((Below.refl _ _).alloc (by simp) _)⟩

theorem dec_cells (m : Int) : Value.agg #[.int .u64 0, .int .i64 (m / 4 % 8), .int .i64 (m / 4 / 8 / 2 / 16 / 256 % 4096), .int .i64 (m / 4 / 8 / 2 / 16 / 256 / 4096 % 65536), .int .i64 (m / 4 / 8 / 2 % 16), .int .i64 (m / 4 / 8 / 2 / 16 % 256), .bool (m / 4 / 8 % 2 == 1)] = (dec m).val := by
  unfold dec Hd.val
  simp only
  rw [show m / 4 / 8 / 2 / 16 / 256 = m / 262144 by omega, show m / 262144 / 4096 = m / 1073741824 by omega, show m / 4 / 8 / 2 / 16 = m / 1024 by omega, show m / 4 / 8 / 2 = m / 64 by omega, show m / 4 / 8 = m / 32 by omega]
  rfl

set_option maxHeartbeats 1000000 in
theorem unpack_far (m : Int) (w : World) (ht : Tab w) (h0 : 0 ≤ m) (h1 : m < 18446744073709551616) (h : m % 4 = 1) (hr : ¬ m / 4 / 8 / 2 / 16 / 256 / 4096 / 65536 = 0) :
    Calls Tryd.prog 16 #[.int .u64 m] w fun e w' => e = .returned (.tuple #[nohd.val, .bool false]) ∧ Below w.heap.size w w' := by
  obtain ⟨-, -, -, -, -, w0, w1, w2, w3, w4, w5, -, htt⟩ := id ht
  have hne : ¬ w.heap = #[] := by intro h; rw [h] at htt; simp at htt
  have A0 : (bits .and .u64 m 3 != 1) = false := by rw [show (3 : Int) = 2 ^ 2 - 1 by rfl, and_u64 2 (by decide) h0 h1]; simpa using h
  have A1 : bits .and .u64 (m / 4) 7 = m / 4 % 8 := and_u64 3 (by decide) (by omega) (by omega)
  have A2 : bits .and .u64 (m / 4 / 8) 1 = m / 4 / 8 % 2 := and_u64 1 (by decide) (by omega) (by omega)
  have A3 : bits .and .u64 (m / 4 / 8 / 2) 15 = m / 4 / 8 / 2 % 16 := and_u64 4 (by decide) (by omega) (by omega)
  have A4 : bits .and .u64 (m / 4 / 8 / 2 / 16) 255 = m / 4 / 8 / 2 / 16 % 256 := and_u64 8 (by decide) (by omega) (by omega)
  have A5 : bits .and .u64 (m / 4 / 8 / 2 / 16 / 256) 4095 = m / 4 / 8 / 2 / 16 / 256 % 4096 := and_u64 12 (by decide) (by omega) (by omega)
  have A6 : bits .and .u64 (m / 4 / 8 / 2 / 16 / 256 / 4096) 65535 = m / 4 / 8 / 2 / 16 / 256 / 4096 % 65536 := and_u64 16 (by decide) (by omega) (by omega)
  clear h
  clear h1
  go_enter Tryd.func16, Tryd.ntmps16
  go_wp2_with fail
  refine wp_loop_rounds 7 ?_
  iterate 7 (rw [rounds_succ]; go_wp2_with fail)
  exact bodyPost_ret (v := .tuple #[nohd.val, .bool false]) (by simp [results, Tryd.results16, go_sem, nohd, Hd.val]) rfl ⟨rfl, (((Below.refl _ _).alloc (by simp) _).alloc (by simp) _).alloc (by simp; omega) _⟩

set_option maxHeartbeats 1000000 in
theorem unpack_near (m : Int) (w : World) (ht : Tab w) (h0 : 0 ≤ m) (h1 : m < 18446744073709551616) (h : m % 4 = 1) (hr : m / 4 / 8 / 2 / 16 / 256 / 4096 / 65536 = 0) :
    Calls Tryd.prog 16 #[.int .u64 m] w fun e w' => e = .returned (.tuple #[(if chk (dec m) = 0 then dec m else nohd).val, .bool (decide (chk (dec m) = 0))]) ∧ Below w.heap.size w w' := by
  have CC := Lib.hid (fun (W : World) (hb : Below w.heap.size w W) => (dec_cells m) ▸ check_any (dec m) W (ht.below hb))
  obtain ⟨-, -, -, -, -, w0, w1, w2, w3, w4, w5, -, htt⟩ := id ht
  have hne : ¬ w.heap = #[] := by intro h; rw [h] at htt; simp at htt
  have A0 : (bits .and .u64 m 3 != 1) = false := by rw [show (3 : Int) = 2 ^ 2 - 1 by rfl, and_u64 2 (by decide) h0 h1]; simpa using h
  have A1 : bits .and .u64 (m / 4) 7 = m / 4 % 8 := and_u64 3 (by decide) (by omega) (by omega)
  have A2 : bits .and .u64 (m / 4 / 8) 1 = m / 4 / 8 % 2 := and_u64 1 (by decide) (by omega) (by omega)
  have A3 : bits .and .u64 (m / 4 / 8 / 2) 15 = m / 4 / 8 / 2 % 16 := and_u64 4 (by decide) (by omega) (by omega)
  have A4 : bits .and .u64 (m / 4 / 8 / 2 / 16) 255 = m / 4 / 8 / 2 / 16 % 256 := and_u64 8 (by decide) (by omega) (by omega)
  have A5 : bits .and .u64 (m / 4 / 8 / 2 / 16 / 256) 4095 = m / 4 / 8 / 2 / 16 / 256 % 4096 := and_u64 12 (by decide) (by omega) (by omega)
  have A6 : bits .and .u64 (m / 4 / 8 / 2 / 16 / 256 / 4096) 65535 = m / 4 / 8 / 2 / 16 / 256 / 4096 % 65536 := and_u64 16 (by decide) (by omega) (by omega)
  clear h
  clear h1
  by_cases c : chk (dec m) = 0
  · have D := Lib.hid (dec_cells m)
    rw [if_pos c]
    simp only [c, decide_true] at *
    go_enter Tryd.func16, Tryd.ntmps16
    go_wp2_with fail
    refine wp_loop_rounds 7 ?_
    iterate 7 (rw [rounds_succ]; go_wp2_with fail)
    refine (CC.out _ ((((Below.refl _ _).alloc (by simp) _).alloc (by simp) _).alloc (by simp; omega) _)).mono ?_
    rintro e w' ⟨rfl, hb⟩
    obtain ⟨hX, hY, hZ, hb0, hz⟩ := kept_new3 hb
    obtain ⟨hc, hf⟩ := hcell hX
    obtain ⟨hc2, hf2⟩ := hcell hZ
    clear hX hY hZ hb
    go_wp2_with fail
    exact bodyPost_ret (v := .tuple #[(dec m).val, .bool true]) (by rw [← D.out]; simp [results, Tryd.results16, go_sem, hc]) rfl ⟨rfl, by (repeat refine Below.setCell ?_ (by simp) _); exact hb0⟩
  · rw [if_neg c]
    have f1 : (chk (dec m) == 0) = false := by simpa using c
    rw [decide_eq_false c]
    generalize chk (dec m) = cc at *
    clear c
    go_enter Tryd.func16, Tryd.ntmps16
    go_wp2_with fail
    refine wp_loop_rounds 7 ?_
    iterate 7 (rw [rounds_succ]; go_wp2_with fail)
    refine (CC.out _ ((((Below.refl _ _).alloc (by simp) _).alloc (by simp) _).alloc (by simp; omega) _)).mono ?_
    rintro e w' ⟨rfl, hb⟩
    obtain ⟨hX, hY, hZ, hb0, hz⟩ := kept_new3 hb
    obtain ⟨hc, hf⟩ := hcell hX
    clear hX hY hZ hb
    go_wp2_with fail
    exact bodyPost_ret (v := .tuple #[nohd.val, .bool false]) (by simp [results, Tryd.results16, go_sem, hc, nohd, Hd.val]) rfl ⟨rfl, by (repeat refine Below.setCell ?_ (by simp) _); exact hb0⟩

theorem unpack_any (m : Int) (w : World) (ht : Tab w) (h0 : 0 ≤ m) (h1 : m < 18446744073709551616) :
    Calls Tryd.prog 16 #[.int .u64 m] w fun e w' => e = .returned (.tuple #[(unp m).val, .bool (isHd m)]) ∧ Below w.heap.size w w' := by
  by_cases h : m % 4 = 1
  · by_cases hr : m / 4 / 8 / 2 / 16 / 256 / 4096 / 65536 = 0
    · have e1 : isHd m = decide (chk (dec m) = 0) := by
        unfold isHd; rw [decide_eq_true h, decide_eq_true (show m / 70368744177664 = 0 by omega)]; rfl
      have e2 : unp m = if chk (dec m) = 0 then dec m else nohd := by unfold unp; rw [e1]; simp
      rw [e1, e2]
      exact unpack_near m w ht h0 h1 h hr
    · have e1 : isHd m = false := by
        unfold isHd; rw [decide_eq_false (show ¬ m / 70368744177664 = 0 by omega)]; simp
      rw [show unp m = nohd by unfold unp; rw [e1]; rfl, e1]
      exact unpack_far m w ht h0 h1 h hr
  · have e1 : isHd m = false := by unfold isHd; rw [decide_eq_false h]; rfl
    rw [show unp m = nohd by unfold unp; rw [e1]; rfl, e1]
    exact unpack_no m w h0 h1 h
end Go.Proofs.YtomgfdfgildkbaaDoor
