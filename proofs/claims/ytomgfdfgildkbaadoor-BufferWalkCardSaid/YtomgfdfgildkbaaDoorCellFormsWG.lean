/- The walk of the law CellForms. -/
import Derived.Test.YtomgfdfgildkbaaDoorGp
namespace Go.Proofs.YtomgfdfgildkbaaDoor
open Go.RowKit Go.BigFrame

def kHd : Hd := ⟨0, 1, 2, 1, 0, 7, false⟩
theorem kHd_fine : Fine kHd := by constructor <;> decide
theorem kHd_enc : enc kHd = 1074273285 := by decide
theorem kHd_is : isHd 1074273285 = true := by rw [← kHd_enc]; exact isHd_enc kHd_fine
theorem kHd_dec : dec 1074273285 = kHd := by rw [← kHd_enc]; exact dec_enc kHd_fine

set_option maxHeartbeats 1000000 in
theorem known2_any (w : World) (ht : Tab w) :
    Calls Tryd.prog 26 #[] w fun e w' => e = .returned (.bool true) ∧ Below w.heap.size w w' := by
  have P := fun W (hb : Below w.heap.size w W) => pack_yes kHd W (ht.below hb) kHd_fine
  rw [kHd_enc] at P
  have U := fun W (hb : Below w.heap.size w W) => unpack_any 1074273285 W (ht.below hb) (by decide) (by decide)
  rw [show unp 1074273285 = kHd by unfold unp; rw [kHd_is, if_pos rfl, kHd_dec], kHd_is] at U
  have S := fun W (hb : Below w.heap.size w W) => size_any 1074273285 W (ht.below hb) (by decide) (by decide)
  rw [show sizeW 1074273285 = 5 by unfold sizeW; rw [kHd_is, if_pos rfl, kHd_dec]; rfl] at S
  have G := fun W => forward_any 5 W
  rw [show wordT 2 5 = 22 by decide] at G
  have K := fun W => filler_any 1 W
  rw [show wordT 3 1 = 7 by decide] at K
  unfold kHd Hd.val at *
  simp only at *
  have PP := Lib.hid P
  have UU := Lib.hid U
  have SS := Lib.hid S
  have GG := Lib.hid G
  have KK := Lib.hid K
  clear P U S G K ht
  go_enter Tryd.func26, Tryd.ntmps26
  go_wp2_with fail
  refine (PP.out _ (Below.refl _ _)).mono ?_
  rintro e w1 ⟨rfl, hb1⟩
  go_wp2_with fail
  refine (UU.out _ hb1).mono ?_
  rintro e w2 ⟨rfl, hb⟩
  have hb2 := hb1.trans (hb.mono hb1.size)
  clear hb
  go_wp2_with fail
  refine (SS.out _ (hb2.alloc hb2.size _)).mono ?_
  rintro e w3 ⟨rfl, hb⟩
  have hb3 : Below w.heap.size w w3 := (hb2.alloc hb2.size _).trans (hb.mono (by have := hb2.size; simp; omega))
  clear hb
  go_wp2_with fail
  refine (GG.out _).mono ?_
  rintro e w4 ⟨rfl, rfl⟩
  go_wp2_with fail
  refine (KK.out _).mono ?_
  rintro e w5 ⟨rfl, rfl⟩
  go_wp2_with fail
  go_ret
  exact ⟨rfl, hb3⟩

theorem numT_val {tag m : Int} (h : (numT tag m).2 = true) : numT tag m = (m / 4, true) ∧ m % 4 = tag ∧ 1 ≤ m / 4 ∧ m / 4 ≤ 1099511627776 := by
  unfold numT at *
  by_cases c : m % 4 = tag ∧ 1 ≤ m / 4 ∧ m / 4 ≤ 1099511627776
  · rw [if_pos c]; exact ⟨rfl, c⟩
  · rw [if_neg c] at h; cases h
theorem numT_no {tag m : Int} (h : ¬ (numT tag m).2 = true) : numT tag m = (0, false) := by
  unfold numT at *
  by_cases c : m % 4 = tag ∧ 1 ≤ m / 4 ∧ m / 4 ≤ 1099511627776
  · rw [if_pos c] at h; simp at h
  · rw [if_neg c]
theorem isHd_tag {m : Int} (h : isHd m = true) : m % 4 = 1 := by unfold isHd at h; simp at h; exact h.1.1
theorem wordT_back {tag m : Int} (h : m % 4 = tag) (h1 : 1 ≤ m / 4) (h2 : m / 4 ≤ 1099511627776) : wordT tag (m / 4) = m := by
  unfold wordT; rw [if_pos ⟨h1, h2⟩]; omega

set_option maxHeartbeats 1000000 in
theorem cellForms_head (m : Int) (w : World) (ht : Tab w) (h0 : 0 ≤ m) (h1 : m < 18446744073709551616) (i : isHd m = true) :
    Calls Tryd.prog 5 #[.int .u64 m] w fun e w' => e = .returned (.bool true) ∧ Below w.heap.size w w' := by
  have KN := Lib.hid (fun W (hb : Below w.heap.size w W) => known2_any W (ht.below hb))
  have U := fun W (hb : Below w.heap.size w W) => unpack_any m W (ht.below hb) h0 h1
  have S := fun W (hb : Below w.heap.size w W) => size_any m W (ht.below hb) h0 h1
  have G := fun W => forwarded_any m W h0 h1
  have K := fun W => filled_any m W h0 h1
  have f := (chk_iff (dec m)).1 (by unfold isHd at i; simp at i; exact i.2)
  have P := fun W (hb : Below w.heap.size w W) => pack_yes (dec m) W (ht.below hb) f
  have tg := isHd_tag i
  rw [enc_dec h0 i] at P
  rw [show unp m = dec m by unfold unp; rw [if_pos i], i] at U
  rw [show sizeW m = 2 + (dec m).ptrs + (dec m).raws by unfold sizeW; rw [if_pos i]] at S
  rw [show numT 2 m = (0, false) by unfold numT; rw [if_neg (by omega)]] at G
  rw [show numT 3 m = (0, false) by unfold numT; rw [if_neg (by omega)]] at K
  obtain ⟨-, -, fp0, fp1, fr0, fr1, -, -, -, -, -, -⟩ := f
  have hv : (dec m).val = .agg #[.int .u64 0, .int .i64 (dec m).kind, .int .i64 (dec m).ptrs, .int .i64 (dec m).raws, .int .i64 (dec m).age, .int .i64 (dec m).site, .bool (dec m).held] := rfl
  rw [hv] at U P
  generalize dec m = d at *
  have PP := Lib.hid P
  have UU := Lib.hid U
  have SS := Lib.hid S
  have GG := Lib.hid G
  have KK := Lib.hid K
  clear P U S G K hv ht i tg h0 h1
  go_enter Tryd.func5, Tryd.ntmps5
  go_wp2_with fail
  refine (KN.out _ (Below.refl _ _)).mono ?_
  rintro e w1 ⟨rfl, hb1⟩
  go_wp2_with fail
  refine (UU.out _ hb1).mono ?_
  rintro e w2 ⟨rfl, hb⟩
  have hb2 := hb1.trans (hb.mono hb1.size)
  clear hb
  go_wp2_with fail
  refine (PP.out _ (hb2.alloc hb2.size _)).mono ?_
  rintro e w3 ⟨rfl, hb⟩
  have hb3 : Below w.heap.size w w3 := (hb2.alloc hb2.size _).trans (hb.mono (by have := hb2.size; simp; omega))
  clear hb
  go_wp2_with fail
  refine (GG.out _).mono ?_
  rintro e w4 ⟨rfl, rfl⟩
  go_wp2_with fail
  refine (KK.out _).mono ?_
  rintro e w5 ⟨rfl, rfl⟩
  go_wp2_with fail
  refine (SS.out _ hb3).mono ?_
  rintro e w6 ⟨rfl, hb⟩
  have hb4 := hb3.trans (hb.mono hb3.size)
  clear hb
  go_wp2_with fail
  go_ret
  exact ⟨rfl, hb4⟩

set_option maxHeartbeats 1000000 in
theorem cellForms_fwd (m : Int) (w : World) (ht : Tab w) (h0 : 0 ≤ m) (h1 : m < 18446744073709551616) (i : ¬ isHd m = true) (j : (numT 2 m).2 = true) :
    Calls Tryd.prog 5 #[.int .u64 m] w fun e w' => e = .returned (.bool true) ∧ Below w.heap.size w w' := by
  have KN := Lib.hid (fun W (hb : Below w.heap.size w W) => known2_any W (ht.below hb))
  have U := fun W (hb : Below w.heap.size w W) => unpack_any m W (ht.below hb) h0 h1
  have S := fun W (hb : Below w.heap.size w W) => size_any m W (ht.below hb) h0 h1
  have G := fun W => forwarded_any m W h0 h1
  have K := fun W => filled_any m W h0 h1
  have i' : isHd m = false := by simpa using i
  rw [show unp m = nohd by unfold unp; rw [if_neg i], i'] at U
  obtain ⟨e2, tg, n1, n2⟩ := numT_val j
  rw [e2] at G
  rw [show numT 3 m = (0, false) by unfold numT; rw [if_neg (by omega)]] at K
  rw [show sizeW m = 0 by unfold sizeW; rw [if_neg i]; unfold numT; rw [if_neg (by omega)]] at S
  have B := fun W => forward_any (m / 4) W
  rw [wordT_back tg n1 n2] at B
  generalize m / 4 = q at *
  have UU := Lib.hid U
  have SS := Lib.hid S
  have GG := Lib.hid G
  have KK := Lib.hid K
  have BB := Lib.hid B
  clear U S G K B ht i i' j e2 tg n2 h0 h1
  go_enter Tryd.func5, Tryd.ntmps5
  go_wp2_with fail
  refine (KN.out _ (Below.refl _ _)).mono ?_
  rintro e w1 ⟨rfl, hb1⟩
  go_wp2_with fail
  refine (UU.out _ hb1).mono ?_
  rintro e w2 ⟨rfl, hb⟩
  have hb2 := hb1.trans (hb.mono hb1.size)
  clear hb
  unfold nohd Hd.val
  simp only
  go_wp2_with fail
  refine (GG.out _).mono ?_
  rintro e w4 ⟨rfl, rfl⟩
  go_wp2_with fail
  refine (BB.out _).mono ?_
  rintro e w7 ⟨rfl, rfl⟩
  go_wp2_with fail
  refine (KK.out _).mono ?_
  rintro e w5 ⟨rfl, rfl⟩
  go_wp2_with fail
  refine (SS.out _ (hb2.alloc hb2.size _)).mono ?_
  rintro e w6 ⟨rfl, hb⟩
  have hb4 : Below w.heap.size w w6 := (hb2.alloc hb2.size _).trans (hb.mono (by have := hb2.size; simp; omega))
  clear hb
  go_wp2_with fail
  go_ret
  exact ⟨rfl, hb4⟩

set_option maxHeartbeats 1000000 in
theorem cellForms_fil (m : Int) (w : World) (ht : Tab w) (h0 : 0 ≤ m) (h1 : m < 18446744073709551616) (i : ¬ isHd m = true) (j : (numT 3 m).2 = true) :
    Calls Tryd.prog 5 #[.int .u64 m] w fun e w' => e = .returned (.bool true) ∧ Below w.heap.size w w' := by
  have KN := Lib.hid (fun W (hb : Below w.heap.size w W) => known2_any W (ht.below hb))
  have U := fun W (hb : Below w.heap.size w W) => unpack_any m W (ht.below hb) h0 h1
  have S := fun W (hb : Below w.heap.size w W) => size_any m W (ht.below hb) h0 h1
  have G := fun W => forwarded_any m W h0 h1
  have K := fun W => filled_any m W h0 h1
  have i' : isHd m = false := by simpa using i
  rw [show unp m = nohd by unfold unp; rw [if_neg i], i'] at U
  obtain ⟨e2, tg, n1, n2⟩ := numT_val j
  rw [e2] at K
  rw [show numT 2 m = (0, false) by unfold numT; rw [if_neg (by omega)]] at G
  rw [show sizeW m = m / 4 by unfold sizeW; rw [if_neg i, e2]] at S
  have B := fun W => filler_any (m / 4) W
  rw [wordT_back tg n1 n2] at B
  generalize m / 4 = q at *
  have UU := Lib.hid U
  have SS := Lib.hid S
  have GG := Lib.hid G
  have KK := Lib.hid K
  have BB := Lib.hid B
  clear U S G K B ht i i' j e2 tg n2 h0 h1
  go_enter Tryd.func5, Tryd.ntmps5
  go_wp2_with fail
  refine (KN.out _ (Below.refl _ _)).mono ?_
  rintro e w1 ⟨rfl, hb1⟩
  go_wp2_with fail
  refine (UU.out _ hb1).mono ?_
  rintro e w2 ⟨rfl, hb⟩
  have hb2 := hb1.trans (hb.mono hb1.size)
  clear hb
  unfold nohd Hd.val
  simp only
  go_wp2_with fail
  refine (GG.out _).mono ?_
  rintro e w4 ⟨rfl, rfl⟩
  go_wp2_with fail
  refine (KK.out _).mono ?_
  rintro e w5 ⟨rfl, rfl⟩
  go_wp2_with fail
  refine (BB.out _).mono ?_
  rintro e w7 ⟨rfl, rfl⟩
  go_wp2_with fail
  refine (SS.out _ (hb2.alloc hb2.size _)).mono ?_
  rintro e w6 ⟨rfl, hb⟩
  have hb4 : Below w.heap.size w w6 := (hb2.alloc hb2.size _).trans (hb.mono (by have := hb2.size; simp; omega))
  clear hb
  go_wp2_with fail
  go_ret
  exact ⟨rfl, hb4⟩

set_option maxHeartbeats 1000000 in
theorem cellForms_none (m : Int) (w : World) (ht : Tab w) (h0 : 0 ≤ m) (h1 : m < 18446744073709551616) (i : ¬ isHd m = true) (j : ¬ (numT 2 m).2 = true) (k : ¬ (numT 3 m).2 = true) :
    Calls Tryd.prog 5 #[.int .u64 m] w fun e w' => e = .returned (.bool true) ∧ Below w.heap.size w w' := by
  have KN := Lib.hid (fun W (hb : Below w.heap.size w W) => known2_any W (ht.below hb))
  have U := fun W (hb : Below w.heap.size w W) => unpack_any m W (ht.below hb) h0 h1
  have S := fun W (hb : Below w.heap.size w W) => size_any m W (ht.below hb) h0 h1
  have G := fun W => forwarded_any m W h0 h1
  have K := fun W => filled_any m W h0 h1
  have i' : isHd m = false := by simpa using i
  rw [show unp m = nohd by unfold unp; rw [if_neg i], i'] at U
  rw [numT_no j] at G
  rw [numT_no k] at K
  rw [show sizeW m = 0 by unfold sizeW; rw [if_neg i, numT_no k]] at S
  have UU := Lib.hid U
  have SS := Lib.hid S
  have GG := Lib.hid G
  have KK := Lib.hid K
  clear U S G K ht i i' j k h0 h1
  go_enter Tryd.func5, Tryd.ntmps5
  go_wp2_with fail
  refine (KN.out _ (Below.refl _ _)).mono ?_
  rintro e w1 ⟨rfl, hb1⟩
  go_wp2_with fail
  refine (UU.out _ hb1).mono ?_
  rintro e w2 ⟨rfl, hb⟩
  have hb2 := hb1.trans (hb.mono hb1.size)
  clear hb
  unfold nohd Hd.val
  simp only
  go_wp2_with fail
  refine (GG.out _).mono ?_
  rintro e w4 ⟨rfl, rfl⟩
  go_wp2_with fail
  refine (KK.out _).mono ?_
  rintro e w5 ⟨rfl, rfl⟩
  go_wp2_with fail
  refine (SS.out _ (hb2.alloc hb2.size _)).mono ?_
  rintro e w6 ⟨rfl, hb⟩
  have hb4 : Below w.heap.size w w6 := (hb2.alloc hb2.size _).trans (hb.mono (by have := hb2.size; simp; omega))
  clear hb
  go_wp2_with fail
  go_ret
  exact ⟨rfl, hb4⟩

theorem cellForms_walk (m : Int) (w : World) (ht : Tab w) (h0 : 0 ≤ m) (h1 : m < 18446744073709551616) :
    Calls Tryd.prog 5 #[.int .u64 m] w fun e w' => e = .returned (.bool true) ∧ Below w.heap.size w w' := by
  by_cases i : isHd m = true
  · exact cellForms_head m w ht h0 h1 i
  by_cases j : (numT 2 m).2 = true
  · exact cellForms_fwd m w ht h0 h1 i j
  by_cases k : (numT 3 m).2 = true
  · exact cellForms_fil m w ht h0 h1 i k
  exact cellForms_none m w ht h0 h1 i j k
end Go.Proofs.YtomgfdfgildkbaaDoor
