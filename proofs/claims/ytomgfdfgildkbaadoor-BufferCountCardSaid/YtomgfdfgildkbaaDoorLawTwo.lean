/- The walks of the laws of layer 2. -/
import Derived.Test.YtomgfdfgildkbaaDoorRefTwoC
namespace Go.Proofs.YtomgfdfgildkbaaDoor
open Go.RowKit Go.BigFrame

theorem pack_bd (h : Hd) : 0 ≤ pack h ∧ pack h < 18446744073709551616 := by
  unfold pack
  by_cases c : chk h = 0
  · rw [if_pos c]; have := enc_bd ((chk_iff h).1 c); omega
  · rw [if_neg c]; omega

set_option maxHeartbeats 1000000 in
theorem cellHeads_walk (h : Hd) (m : Int) (w : World) (ht : Tab w) (h0 : 0 ≤ m) (h1 : m < 18446744073709551616) :
    Calls Tryd.prog 3 #[h.val, .int .u64 m] w fun e w' => e = .returned (.bool true) ∧ Below w.heap.size w w' := by
  have P := Lib.hid (fun W (hb : Below w.heap.size w W) => pack_any h W (ht.below hb))
  have Q := Lib.hid (fun W => rpack_any h W)
  have U := Lib.hid (fun W (hb : Below w.heap.size w W) => unpack_any m W (ht.below hb) h0 h1)
  have V := Lib.hid (fun W => runpack_any m W h0 h1)
  have S := Lib.hid (fun W (hb : Below w.heap.size w W) => size_any m W (ht.below hb) h0 h1)
  have R := Lib.hid (fun W => rsize_any m W h0 h1)
  obtain ⟨p0, p1⟩ := pack_bd h
  have S2 := Lib.hid (fun W (hb : Below w.heap.size w W) => size_any (pack h) W (ht.below hb) p0 p1)
  have R2 := Lib.hid (fun W => rsize_any (pack h) W p0 p1)
  generalize pack h = ph at *
  generalize chk h = ch at *
  generalize isHd m = b at *
  generalize unp m = d at *
  generalize sizeW m = sm at *
  generalize sizeW ph = sp at *
  unfold Hd.val at *
  clear ht h0 h1 p0 p1
  go_enter Tryd.func3, Tryd.ntmps3
  go_wp2_with fail
  refine (P.out _ ((Below.refl _ _).alloc (Nat.le_refl _) _)).mono ?_
  rintro e w1 ⟨rfl, hb⟩
  obtain ⟨hX, hb1, hz1⟩ := kept_new hb
  obtain ⟨hc, hf⟩ := hcell hX
  clear hX hb
  go_wp2_with fail
  refine (Q.out _).mono ?_
  rintro e w2 ⟨rfl, hb⟩
  have hb2 := hb1.trans (hb.mono hb1.size)
  clear hc hf hb hb1 hz1
  go_wp2_with fail
  refine (U.out _ hb2).mono ?_
  rintro e w3 ⟨rfl, hb⟩
  have hb3 := hb2.trans (hb.mono hb2.size)
  clear hb hb2
  go_wp2_with fail
  refine (V.out _).mono ?_
  rintro e w4 ⟨rfl, hb⟩
  obtain ⟨hX, hb4, hz⟩ := kept_new hb
  obtain ⟨hc, hf⟩ := hcell hX
  have hb5 := hb3.trans (hb4.mono hb3.size)
  clear hX hb
  go_wp2_with fail
  refine (S.out _ (hb5.alloc hb5.size _)).mono ?_
  rintro e w5 ⟨rfl, hb⟩
  have hb6 : Below w.heap.size w w5 := (hb5.alloc hb5.size _).trans (hb.mono (by have := hb5.size; simp; omega))
  clear hb hc hf
  go_wp2_with fail
  refine (R.out _).mono ?_
  rintro e w6 ⟨rfl, hb⟩
  have hb7 := hb6.trans (hb.mono hb6.size)
  clear hb
  go_wp2_with fail
  refine (S2.out _ hb7).mono ?_
  rintro e w7 ⟨rfl, hb⟩
  have hb8 := hb7.trans (hb.mono hb7.size)
  clear hb
  go_wp2_with fail
  refine (R2.out _).mono ?_
  rintro e w8 ⟨rfl, hb⟩
  have hb9 := hb8.trans (hb.mono hb8.size)
  clear hb
  go_wp2_with fail
  go_ret
  exact ⟨rfl, hb9⟩

set_option maxHeartbeats 1000000 in
theorem cellTurns_walk (m n : Int) (b : Bool) (w : World) (ht : Tab w) (h0 : 0 ≤ m) (h1 : m < 18446744073709551616) :
    Calls Tryd.prog 4 #[.int .u64 m, .int .i64 n, .bool b] w fun e w' => e = .returned (.bool true) ∧ Below w.heap.size w w' := by
  have A := Lib.hid (fun W (hb : Below w.heap.size w W) => With_age_any n m W (ht.below hb) h0 h1)
  have B := Lib.hid (fun W => rWith_age_any n m W h0 h1)
  have C := Lib.hid (fun W (hb : Below w.heap.size w W) => With_held_any b m W (ht.below hb) h0 h1)
  have D := Lib.hid (fun W => rWith_held_any b m W h0 h1)
  have E := Lib.hid (fun W (hb : Below w.heap.size w W) => With_kind_any n m W (ht.below hb) h0 h1)
  have F := Lib.hid (fun W => rWith_kind_any n m W h0 h1)
  generalize withH m (fun (h : Hd) => { h with age := n }) = x at *
  generalize withH m (fun (h : Hd) => { h with held := b }) = y at *
  generalize withH m (fun (h : Hd) => { h with kind := n }) = z at *
  clear ht h0 h1
  go_enter Tryd.func4, Tryd.ntmps4
  go_wp2_with fail
  refine (A.out _ (Below.refl _ _)).mono ?_
  rintro e w1 ⟨rfl, hb1⟩
  go_wp2_with fail
  refine (B.out _).mono ?_
  rintro e w2 ⟨rfl, hb⟩
  have hb2 := hb1.trans (hb.mono hb1.size)
  clear hb
  go_wp2_with fail
  refine (C.out _ hb2).mono ?_
  rintro e w3 ⟨rfl, hb⟩
  have hb3 := hb2.trans (hb.mono hb2.size)
  clear hb
  go_wp2_with fail
  refine (D.out _).mono ?_
  rintro e w4 ⟨rfl, hb⟩
  have hb4 := hb3.trans (hb.mono hb3.size)
  clear hb
  go_wp2_with fail
  refine (E.out _ hb4).mono ?_
  rintro e w5 ⟨rfl, hb⟩
  have hb5 := hb4.trans (hb.mono hb4.size)
  clear hb
  go_wp2_with fail
  refine (F.out _).mono ?_
  rintro e w6 ⟨rfl, hb⟩
  have hb6 := hb5.trans (hb.mono hb5.size)
  clear hb
  go_wp2_with fail
  go_ret
  exact ⟨rfl, hb6⟩
end Go.Proofs.YtomgfdfgildkbaaDoor
