/- The document's arena (middenref3): Take refused, Put, Fill, SetHead, SetWord. -/
import Derived.Test.YtomgfdfgildkbaaDoorRf10G
namespace Go.Proofs.YtomgfdfgildkbaaDoor
open Go.RowKit Go.BigFrame

theorem RfAt.lt {w : World} {r : Nat} {c : Int → Nat} {A : Ar} (h : RfAt w r c A) : ∀ k ∈ rfp r c, k < w.heap.size := fun k hk => by
  simp only [rfp, List.mem_cons, List.not_mem_nil, or_false] at hk
  rcases hk with rfl | rfl | rfl | rfl | rfl
  · exact lt_of_heap h.st
  · exact lt_of_heap (h.ws 1 rfl)
  · exact lt_of_heap (h.ws 2 rfl)
  · exact lt_of_heap (h.ws 3 rfl)
  · exact lt_of_heap (h.ws 4 rfl)
theorem Only.new {S : List Nat} {w w' : World} {X : Obj} {q : Nat} (h : Only S w w') (hX : w.heap[q]? = some X) (hS : ∀ k ∈ S, k < q) : w'.heap[q]? = some X :=
  (h.block q (lt_of_heap hX) (fun hm => by have := hS q hm; omega)).trans hX
theorem Ar.top_sp {A : Ar} (ok : A.Ok) {s j : Int} (hs : isSp s = true) (h0 : 0 ≤ j) (h1 : j < A.free s) : A.space (A.top s + j) = s ∧ s ≠ 0 := by
  have hz := ok.sizes s
  unfold Ar.free at h1
  refine ⟨Ar.space_eq ok hs (by omega) (by omega), ?_⟩
  rcases sp_cases hs with rfl | rfl | rfl | rfl <;> decide
theorem Ar.space_put (A : Ar) (i v j : Int) : (A.put i v).space j = A.space j := rfl
theorem Ar.space_take (A : Ar) (s n j : Int) : (A.take s n).space j = A.space j := by
  unfold Ar.space; rw [Ar.take_cfg]

set_option maxRecDepth 100000 in
set_option maxHeartbeats 4000000 in
theorem rtake_no (r : Nat) (c : Int → Nat) (A : Ar) (s n : Int) (w : World) (h : RfAt w r c A) (ok : A.Ok) (hn : ¬ (isSp s = true ∧ 1 ≤ n ∧ n ≤ A.free s)) : Calls Tryd.prog 143 #[.pointer (some ⟨r, 0, none⟩), .int .i64 s, .int .i64 n] w fun e w' => e = .returned (.tuple #[.int .i64 0, .bool false]) ∧ Below w.heap.size w w' := by
  have IS := Lib.hid (fun (W : World) => rspace_any s W)
  have FR := Lib.hid (fun (W : World) (hb : Below w.heap.size w W) => Bm hb (rfree_any r c A s W (h.below hb) ok))
  clear h ok
  generalize A.free s = fr at *
  cases hs : isSp s with
  | false =>
    rw [hs] at IS
    clear FR hn
    go_enter Tryd.func143, Tryd.ntmps143
    go_wp2_with fail
    refine (IS.out _).mono ?_
    rintro e w1 ⟨rfl, rfl⟩
    go_wp2_with fail
    go_ret2
    exact ⟨rfl, Below.refl _ _⟩
  | true =>
    rw [hs] at IS
    by_cases h1 : n < 1
    · have d1 : decide (n < 1) = true := by simpa using h1
      clear FR hn
      go_enter Tryd.func143, Tryd.ntmps143
      go_wp2_with fail
      refine (IS.out _).mono ?_
      rintro e w1 ⟨rfl, rfl⟩
      go_wp2_with fail
      go_ret2
      exact ⟨rfl, Below.refl _ _⟩
    · have d1 : decide (n < 1) = false := by simpa using h1
      have h2 : fr < n := by
        by_cases q : n ≤ fr
        · exact absurd ⟨hs, by omega, q⟩ hn
        · omega
      have d2 : decide (fr < n) = true := by simpa using h2
      clear hn
      go_enter Tryd.func143, Tryd.ntmps143
      go_wp2_with fail
      refine (IS.out _).mono ?_
      rintro e w1 ⟨rfl, rfl⟩
      go_wp2_with fail
      refine (FR.out _ (Below.refl _ _)).mono ?_
      rintro e w2 ⟨rfl, b2⟩
      go_wp2_with fail
      go_ret2
      exact ⟨rfl, b2⟩

set_option maxRecDepth 100000 in
set_option maxHeartbeats 4000000 in
theorem rput_yes (r : Nat) (c : Int → Nat) (A : Ar) (s : Int) (g : Hd) (w : World) (h : RfAt w r c A) (ok : A.Ok) (f : Fine g) (sv : 0 ≤ g.ser ∧ g.ser < 18446744073709551616) (hs : isSp s = true) (hn : 2 + g.ptrs + g.raws ≤ A.free s) :
    Calls Tryd.prog 125 #[.pointer (some ⟨r, 0, none⟩), .int .i64 s, g.val] w fun e w' => e = .returned (.tuple #[.int .i64 (A.top s), .bool true]) ∧ RfAt w' r c (A.lay s g) ∧ Only (rfp r c) w w' := by
  have eb := enc_bd f
  have fp0 := f.p0
  have fp1 := f.p1
  have fr0 := f.r0
  have fr1 := f.r1
  have PK := Lib.hid (fun (W : World) => rpack_yes g W f)
  have SZ := Lib.hid (fun (W : World) => rhsize_any g W ⟨fp0, by omega⟩ ⟨fr0, by omega⟩)
  have TK := Lib.hid (fun (W : World) (hb : Below w.heap.size w W) => rtake_yes r c A s (2 + g.ptrs + g.raws) W (h.below hb) ok hs (by omega) hn)
  have okT : (A.take s (2 + g.ptrs + g.raws)).Ok := ok.take hs (by omega) hn
  have q0 := Ar.top_sp ok hs (j := 0) (by omega) (by omega)
  have q1 := Ar.top_sp ok hs (j := 1) (by omega) (by omega)
  rw [Int.add_zero] at q0
  have S1 := Lib.hid (fun (W : World) (hR : RfAt W r c (A.take s (2 + g.ptrs + g.raws))) => rsetWord_yes r c _ (A.top s) (enc g) W hR okT ⟨eb.1, by omega⟩ (by rw [Ar.space_take, q0.1]; exact q0.2))
  have S2 := Lib.hid (fun (W : World) (hR : RfAt W r c ((A.take s (2 + g.ptrs + g.raws)).put (A.top s) (enc g))) => rsetWord_yes r c _ (A.top s + 1) g.ser W hR (okT.putI (A.top s) ⟨eb.1, by omega⟩) sv (by rw [Ar.space_put, Ar.space_take, q1.1]; exact q1.2))
  have LT := Lib.hid h.lt
  have hz := ok.sizes s
  have top1 : A.top s < 1000000 := by omega
  unfold Ar.lay
  clear h ok f eb okT q0 q1 hs
  generalize A.top s = tp at *
  generalize enc g = x at *
  generalize A.take s (2 + g.ptrs + g.raws) = A1 at *
  generalize 2 + g.ptrs + g.raws = n at *
  obtain ⟨x0, x1, x2, x3, x4, x5, x6⟩ := g
  unfold Hd.val at *
  simp only at *
  generalize A1.put tp x = A2 at *
  go_enter Tryd.func125, Tryd.ntmps125
  go_wp2_with fail
  refine (PK.out _).mono ?_
  rintro e w1 ⟨rfl, hb⟩
  obtain ⟨hX, hb1, hz1⟩ := kept_new hb
  obtain ⟨cX, fX⟩ := hcell hX
  clear hb
  go_wp2_with fail
  refine (SZ.out _).mono ?_
  rintro e w2 ⟨rfl, hb⟩
  have hX2 := (hb.block _ (lt_of_heap hX)).trans hX
  have hb2 := hb1.trans (hb.mono hb1.size)
  clear hb cX fX hX
  go_wp2_with fail
  refine (TK.out _ hb2).mono ?_
  rintro e w3 ⟨rfl, hR, hO⟩
  have hX3 := hO.new hX2 LT.out
  clear hX2
  go_wp2_with fail
  refine (S1.out _ hR).mono ?_
  rintro e w4 ⟨rfl, hR2, hO2⟩
  have hX4 := hO2.new hX3 LT.out
  clear hX3
  obtain ⟨cX, fX⟩ := hcell hX4
  go_wp2_with fail
  refine (S2.out _ hR2).mono ?_
  rintro e w5 ⟨rfl, hR3, hO3⟩
  go_wp2_with fail
  go_ret2
  exact ⟨rfl, hR3, (((Only.of_below hb2).trans hO).trans hO2).trans hO3⟩

set_option maxRecDepth 100000 in
set_option maxHeartbeats 4000000 in
theorem rput_no (r : Nat) (c : Int → Nat) (A : Ar) (s : Int) (g : Hd) (w : World) (h : RfAt w r c A) (ok : A.Ok) (f : Fine g) (hn : ¬ (isSp s = true ∧ 1 ≤ 2 + g.ptrs + g.raws ∧ 2 + g.ptrs + g.raws ≤ A.free s)) :
    Calls Tryd.prog 125 #[.pointer (some ⟨r, 0, none⟩), .int .i64 s, g.val] w fun e w' => e = .returned (.tuple #[.int .i64 0, .bool false]) ∧ Below w.heap.size w w' := by
  have fp0 := f.p0
  have fp1 := f.p1
  have fr0 := f.r0
  have fr1 := f.r1
  have PK := Lib.hid (fun (W : World) => rpack_yes g W f)
  have SZ := Lib.hid (fun (W : World) => rhsize_any g W ⟨fp0, by omega⟩ ⟨fr0, by omega⟩)
  have TK := Lib.hid (fun (W : World) (hb : Below w.heap.size w W) => Bl hb (rtake_no r c A s (2 + g.ptrs + g.raws) W (h.below hb) ok hn))
  clear h ok f hn
  generalize enc g = x at *
  generalize 2 + g.ptrs + g.raws = n at *
  obtain ⟨x0, x1, x2, x3, x4, x5, x6⟩ := g
  unfold Hd.val at *
  simp only at *
  go_enter Tryd.func125, Tryd.ntmps125
  go_wp2_with fail
  refine (PK.out _).mono ?_
  rintro e w1 ⟨rfl, hb⟩
  obtain ⟨hX, hb1, hz1⟩ := kept_new hb
  obtain ⟨cX, fX⟩ := hcell hX
  clear hb
  go_wp2_with fail
  refine (SZ.out _).mono ?_
  rintro e w2 ⟨rfl, hb⟩
  have hb2 := hb1.trans (hb.mono hb1.size)
  clear hb cX fX hX
  go_wp2_with fail
  refine (TK.out _ hb2).mono ?_
  rintro e w3 ⟨rfl, hb3⟩
  go_wp2_with fail
  go_ret2
  exact ⟨rfl, hb3⟩

set_option maxRecDepth 100000 in
set_option maxHeartbeats 4000000 in
theorem rput_bad (r : Nat) (s : Int) (g : Hd) (w : World) (hc : ¬ chk g = 0) :
    Calls Tryd.prog 125 #[.pointer (some ⟨r, 0, none⟩), .int .i64 s, g.val] w fun e w' => e = .returned (.tuple #[.int .i64 0, .bool false]) ∧ Below w.heap.size w w' := by
  have PK := Lib.hid (fun (W : World) => rpack_any g W)
  have hc1 : (chk g != 0) = true := by simpa using hc
  have hc2 : (chk g == 0) = false := by simpa using hc
  generalize pack g = x at *
  generalize chk g = c at *
  obtain ⟨x0, x1, x2, x3, x4, x5, x6⟩ := g
  unfold Hd.val at *
  simp only at *
  clear hc
  go_enter Tryd.func125, Tryd.ntmps125
  go_wp2_with fail
  refine (PK.out _).mono ?_
  rintro e w1 ⟨rfl, hb⟩
  obtain ⟨hX, hb1, hz1⟩ := kept_new hb
  clear hb hX
  go_wp2_with fail
  go_ret2
  exact ⟨rfl, hb1⟩
theorem rput_any (r : Nat) (c : Int → Nat) (A : Ar) (s : Int) (g : Hd) (w : World) (h : RfAt w r c A) (ok : A.Ok) (sv : 0 ≤ g.ser ∧ g.ser < 18446744073709551616) :
    Calls Tryd.prog 125 #[.pointer (some ⟨r, 0, none⟩), .int .i64 s, g.val] w fun e w' => e = .returned (.tuple #[.int .i64 (if A.putOk s g then A.top s else 0), .bool (A.putOk s g)]) ∧ RfAt w' r c (if A.putOk s g then A.lay s g else A) ∧ Only (rfp r c) w w' := by
  by_cases hc : chk g = 0
  · have f := (chk_iff g).1 hc
    have h2 : 1 ≤ 2 + g.ptrs + g.raws := by have := f.p0; have := f.r0; omega
    by_cases hn : isSp s = true ∧ 1 ≤ 2 + g.ptrs + g.raws ∧ 2 + g.ptrs + g.raws ≤ A.free s
    · have e1 : A.putOk s g = true := by unfold Ar.putOk; rw [decide_eq_true hc, hn.1, decide_eq_true hn.2.2]; rfl
      rw [e1, if_pos rfl, if_pos rfl]
      exact rput_yes r c A s g w h ok f sv hn.1 hn.2.2
    · have e1 : A.putOk s g = false := by
        unfold Ar.putOk
        by_cases q : isSp s = true
        · rw [decide_eq_false (show ¬ 2 + g.ptrs + g.raws ≤ A.free s from fun x => hn ⟨q, h2, x⟩)]; simp
        · simp [q]
      rw [e1, if_neg (by simp), if_neg (by simp)]
      exact (rput_no r c A s g w h ok f hn).mono fun e w' ⟨h1, h2⟩ => ⟨h1, h.below h2, Only.of_below h2⟩
  · have e1 : A.putOk s g = false := by unfold Ar.putOk; rw [decide_eq_false hc]; rfl
    rw [e1, if_neg (by simp), if_neg (by simp)]
    exact (rput_bad r s g w hc).mono fun e w' ⟨h1, h2⟩ => ⟨h1, h.below h2, Only.of_below h2⟩

set_option maxRecDepth 100000 in
set_option maxHeartbeats 4000000 in
theorem rfill_yes (r : Nat) (c : Int → Nat) (A : Ar) (s n : Int) (w : World) (h : RfAt w r c A) (ok : A.Ok) (hs : isSp s = true) (h1 : 1 ≤ n) (hn : n ≤ A.free s) :
    Calls Tryd.prog 145 #[.pointer (some ⟨r, 0, none⟩), .int .i64 s, .int .i64 n] w fun e w' => e = .returned (.bool true) ∧ RfAt w' r c (A.fill s n) ∧ Only (rfp r c) w w' := by
  have FL := Lib.hid (fun (W : World) => rfiller_any n W)
  have TK := Lib.hid (fun (W : World) (hb : Below w.heap.size w W) => rtake_yes r c A s n W (h.below hb) ok hs h1 hn)
  have okT : (A.take s n).Ok := ok.take hs h1 hn
  have q0 := Ar.top_sp ok hs (j := 0) (by omega) (by omega)
  rw [Int.add_zero] at q0
  have hz := ok.sizes s
  have hfr : A.free s = A.behind s - A.top s := rfl
  have hwt : wordT 3 n = n * 4 + 3 := by unfold wordT; rw [if_pos (by omega)]; omega
  have hx : (wordT 3 n == 0) = false := by simp; omega
  have S1 := Lib.hid (fun (W : World) (hR : RfAt W r c (A.take s n)) => rsetWord_yes r c _ (A.top s) (wordT 3 n) W hR okT (by omega) (by rw [Ar.space_take, q0.1]; exact q0.2))
  unfold Ar.fill
  clear h ok okT q0 hwt hfr
  generalize A.top s = tp at *
  generalize wordT 3 n = x at *
  generalize A.take s n = A1 at *
  go_enter Tryd.func145, Tryd.ntmps145
  go_wp2_with fail
  refine (FL.out _).mono ?_
  rintro e w1 ⟨rfl, rfl⟩
  go_wp2_with fail
  refine (TK.out _ (Below.refl _ _)).mono ?_
  rintro e w2 ⟨rfl, hR, hO⟩
  go_wp2_with fail
  refine (S1.out _ hR).mono ?_
  rintro e w3 ⟨rfl, hR2, hO2⟩
  go_wp2_with fail
  go_ret
  exact ⟨rfl, hR2, hO.trans hO2⟩

set_option maxRecDepth 100000 in
set_option maxHeartbeats 4000000 in
theorem rfill_no (r : Nat) (c : Int → Nat) (A : Ar) (s n : Int) (w : World) (h : RfAt w r c A) (ok : A.Ok) (hn : ¬ (isSp s = true ∧ 1 ≤ n ∧ n ≤ A.free s)) :
    Calls Tryd.prog 145 #[.pointer (some ⟨r, 0, none⟩), .int .i64 s, .int .i64 n] w fun e w' => e = .returned (.bool false) ∧ Below w.heap.size w w' := by
  have FL := Lib.hid (fun (W : World) => rfiller_any n W)
  have TK := Lib.hid (fun (W : World) (hb : Below w.heap.size w W) => Bl hb (rtake_no r c A s n W (h.below hb) ok hn))
  clear h ok hn
  by_cases hx : wordT 3 n = 0
  · rw [hx] at FL
    clear TK
    go_enter Tryd.func145, Tryd.ntmps145
    go_wp2_with fail
    refine (FL.out _).mono ?_
    rintro e w1 ⟨rfl, rfl⟩
    go_wp2_with fail
    go_ret
    exact ⟨rfl, Below.refl _ _⟩
  · have hx2 : (wordT 3 n == 0) = false := by simpa using hx
    generalize wordT 3 n = x at *
    clear hx
    go_enter Tryd.func145, Tryd.ntmps145
    go_wp2_with fail
    refine (FL.out _).mono ?_
    rintro e w1 ⟨rfl, rfl⟩
    go_wp2_with fail
    refine (TK.out _ (Below.refl _ _)).mono ?_
    rintro e w2 ⟨rfl, hb⟩
    go_wp2_with fail
    go_ret
    exact ⟨rfl, hb⟩
theorem rfill_any (r : Nat) (c : Int → Nat) (A : Ar) (s n : Int) (w : World) (h : RfAt w r c A) (ok : A.Ok) :
    Calls Tryd.prog 145 #[.pointer (some ⟨r, 0, none⟩), .int .i64 s, .int .i64 n] w fun e w' => e = .returned (.bool (A.fillOk s n)) ∧ RfAt w' r c (if A.fillOk s n then A.fill s n else A) ∧ Only (rfp r c) w w' := by
  by_cases hn : isSp s = true ∧ 1 ≤ n ∧ n ≤ A.free s
  · have e1 : A.fillOk s n = true := by unfold Ar.fillOk; rw [hn.1, decide_eq_true hn.2]; rfl
    rw [e1, if_pos rfl]
    exact rfill_yes r c A s n w h ok hn.1 hn.2.1 hn.2.2
  · have e1 : A.fillOk s n = false := by
      unfold Ar.fillOk
      by_cases q : isSp s = true
      · rw [decide_eq_false (show ¬ (1 ≤ n ∧ n ≤ A.free s) from fun x => hn ⟨q, x⟩)]; simp
      · simp [q]
    rw [e1, if_neg (by simp)]
    exact (rfill_no r c A s n w h ok hn).mono fun e w' ⟨h1, h2⟩ => ⟨h1, h.below h2, Only.of_below h2⟩

set_option maxRecDepth 100000 in
set_option maxHeartbeats 4000000 in
theorem rsetHead_nil (r : Nat) (c : Int → Nat) (A : Ar) (i : Int) (g : Hd) (w : World) (h : RfAt w r c A) (ok : A.Ok) (ho : A.isObj i = false) :
    Calls Tryd.prog 146 #[.pointer (some ⟨r, 0, none⟩), .int .i64 i, g.val] w fun e w' => e = .returned (.bool false) ∧ Below w.heap.size w w' := by
  have HO := Lib.hid (fun (W : World) (hb : Below w.heap.size w W) => rhead_any r c A i W (h.below hb) ok)
  have PK := Lib.hid (fun (W : World) => rpack_any g W)
  rw [ho] at HO
  clear ho
  generalize A.hd i = k at *
  generalize pack g = x at *
  generalize chk g = e0 at *
  clear h ok
  obtain ⟨x0, x1, x2, x3, x4, x5, x6⟩ := g
  obtain ⟨y0, y1, y2, y3, y4, y5, y6⟩ := k
  unfold Hd.val at *
  simp only at *
  go_enter Tryd.func146, Tryd.ntmps146
  go_wp2_with fail
  refine (HO.out _ ((Below.refl _ _).alloc (Nat.le_refl _) _)).mono ?_
  rintro e w1 ⟨rfl, hb⟩
  obtain ⟨hX, hb1, hz1⟩ := kept_new hb
  obtain ⟨cX, fX⟩ := hcell hX
  clear hb
  go_wp2_with fail
  refine (PK.out _).mono ?_
  rintro e w2 ⟨rfl, hb⟩
  clear cX fX
  obtain ⟨hY, hb2, hz2⟩ := kept_new hb
  have hX2 := (hb2.block _ (lt_of_heap hX)).trans hX
  have hb3 := hb1.trans (hb2.mono hb1.size)
  have hzz := hb1.size
  obtain ⟨cX, fX⟩ := hcell hX2
  obtain ⟨cY, fY⟩ := hcell hY
  clear hb hX hb1 hb2
  generalize w1.heap.size = q1 at *
  go_wp2_with fail
  go_ret
  exact ⟨rfl, hb3⟩

set_option maxRecDepth 100000 in
set_option maxHeartbeats 4000000 in
theorem rsetHead_chk (r : Nat) (c : Int → Nat) (A : Ar) (i : Int) (g : Hd) (w : World) (h : RfAt w r c A) (ok : A.Ok) (ho : A.isObj i = true) (hc : ¬ chk g = 0) :
    Calls Tryd.prog 146 #[.pointer (some ⟨r, 0, none⟩), .int .i64 i, g.val] w fun e w' => e = .returned (.bool false) ∧ Below w.heap.size w w' := by
  have HO := Lib.hid (fun (W : World) (hb : Below w.heap.size w W) => rhead_any r c A i W (h.below hb) ok)
  have PK := Lib.hid (fun (W : World) => rpack_any g W)
  rw [ho] at HO
  have hc2 : (chk g == 0) = false := by simpa using hc
  have hc1 : (chk g != 0) = true := by simpa using hc
  clear ho hc
  generalize A.hd i = k at *
  generalize pack g = x at *
  generalize chk g = e0 at *
  clear h ok
  obtain ⟨x0, x1, x2, x3, x4, x5, x6⟩ := g
  obtain ⟨y0, y1, y2, y3, y4, y5, y6⟩ := k
  unfold Hd.val at *
  simp only at *
  go_enter Tryd.func146, Tryd.ntmps146
  go_wp2_with fail
  refine (HO.out _ ((Below.refl _ _).alloc (Nat.le_refl _) _)).mono ?_
  rintro e w1 ⟨rfl, hb⟩
  obtain ⟨hX, hb1, hz1⟩ := kept_new hb
  obtain ⟨cX, fX⟩ := hcell hX
  clear hb
  go_wp2_with fail
  refine (PK.out _).mono ?_
  rintro e w2 ⟨rfl, hb⟩
  clear cX fX
  obtain ⟨hY, hb2, hz2⟩ := kept_new hb
  have hX2 := (hb2.block _ (lt_of_heap hX)).trans hX
  have hb3 := hb1.trans (hb2.mono hb1.size)
  have hzz := hb1.size
  obtain ⟨cX, fX⟩ := hcell hX2
  obtain ⟨cY, fY⟩ := hcell hY
  clear hb hX hb1 hb2
  generalize w1.heap.size = q1 at *
  go_wp2_with fail
  go_ret
  exact ⟨rfl, hb3⟩

set_option maxRecDepth 100000 in
set_option maxHeartbeats 4000000 in
theorem rsetHead_ptrs (r : Nat) (c : Int → Nat) (A : Ar) (i : Int) (g : Hd) (w : World) (h : RfAt w r c A) (ok : A.Ok) (ho : A.isObj i = true) (hc : chk g = 0) (hp : ¬ (A.hd i).ptrs = g.ptrs) :
    Calls Tryd.prog 146 #[.pointer (some ⟨r, 0, none⟩), .int .i64 i, g.val] w fun e w' => e = .returned (.bool false) ∧ Below w.heap.size w w' := by
  have HO := Lib.hid (fun (W : World) (hb : Below w.heap.size w W) => rhead_any r c A i W (h.below hb) ok)
  have PK := Lib.hid (fun (W : World) => rpack_any g W)
  rw [ho] at HO
  rw [hc] at PK
  have hp2 : ((A.hd i).ptrs == g.ptrs) = false := by simpa using hp
  have hp1 : ((A.hd i).ptrs != g.ptrs) = true := by simpa using hp
  clear ho hp hc
  generalize A.hd i = k at *
  generalize pack g = x at *
  generalize chk g = e0 at *
  clear h ok
  obtain ⟨x0, x1, x2, x3, x4, x5, x6⟩ := g
  obtain ⟨y0, y1, y2, y3, y4, y5, y6⟩ := k
  unfold Hd.val at *
  simp only at *
  go_enter Tryd.func146, Tryd.ntmps146
  go_wp2_with fail
  refine (HO.out _ ((Below.refl _ _).alloc (Nat.le_refl _) _)).mono ?_
  rintro e w1 ⟨rfl, hb⟩
  obtain ⟨hX, hb1, hz1⟩ := kept_new hb
  obtain ⟨cX, fX⟩ := hcell hX
  clear hb
  go_wp2_with fail
  refine (PK.out _).mono ?_
  rintro e w2 ⟨rfl, hb⟩
  clear cX fX
  obtain ⟨hY, hb2, hz2⟩ := kept_new hb
  have hX2 := (hb2.block _ (lt_of_heap hX)).trans hX
  have hb3 := hb1.trans (hb2.mono hb1.size)
  have hzz := hb1.size
  obtain ⟨cX, fX⟩ := hcell hX2
  obtain ⟨cY, fY⟩ := hcell hY
  clear hb hX hb1 hb2
  generalize w1.heap.size = q1 at *
  go_wp2_with fail
  go_ret
  exact ⟨rfl, hb3⟩

set_option maxRecDepth 100000 in
set_option maxHeartbeats 4000000 in
theorem rsetHead_raws (r : Nat) (c : Int → Nat) (A : Ar) (i : Int) (g : Hd) (w : World) (h : RfAt w r c A) (ok : A.Ok) (ho : A.isObj i = true) (hc : chk g = 0) (hp : (A.hd i).ptrs = g.ptrs) (hr : ¬ (A.hd i).raws = g.raws) :
    Calls Tryd.prog 146 #[.pointer (some ⟨r, 0, none⟩), .int .i64 i, g.val] w fun e w' => e = .returned (.bool false) ∧ Below w.heap.size w w' := by
  have HO := Lib.hid (fun (W : World) (hb : Below w.heap.size w W) => rhead_any r c A i W (h.below hb) ok)
  have PK := Lib.hid (fun (W : World) => rpack_any g W)
  rw [ho] at HO
  rw [hc] at PK
  have hr2 : ((A.hd i).raws == g.raws) = false := by simpa using hr
  have hr1 : ((A.hd i).raws != g.raws) = true := by simpa using hr
  clear ho hr hc
  generalize A.hd i = k at *
  generalize pack g = x at *
  generalize chk g = e0 at *
  clear h ok
  obtain ⟨x0, x1, x2, x3, x4, x5, x6⟩ := g
  obtain ⟨y0, y1, y2, y3, y4, y5, y6⟩ := k
  unfold Hd.val at *
  simp only at *
  subst hp
  go_enter Tryd.func146, Tryd.ntmps146
  go_wp2_with fail
  refine (HO.out _ ((Below.refl _ _).alloc (Nat.le_refl _) _)).mono ?_
  rintro e w1 ⟨rfl, hb⟩
  obtain ⟨hX, hb1, hz1⟩ := kept_new hb
  obtain ⟨cX, fX⟩ := hcell hX
  clear hb
  go_wp2_with fail
  refine (PK.out _).mono ?_
  rintro e w2 ⟨rfl, hb⟩
  clear cX fX
  obtain ⟨hY, hb2, hz2⟩ := kept_new hb
  have hX2 := (hb2.block _ (lt_of_heap hX)).trans hX
  have hb3 := hb1.trans (hb2.mono hb1.size)
  have hzz := hb1.size
  obtain ⟨cX, fX⟩ := hcell hX2
  obtain ⟨cY, fY⟩ := hcell hY
  clear hb hX hb1 hb2
  generalize w1.heap.size = q1 at *
  go_wp2_with fail
  go_ret
  exact ⟨rfl, hb3⟩

set_option maxRecDepth 100000 in
set_option maxHeartbeats 4000000 in
theorem rsetHead_yes (r : Nat) (c : Int → Nat) (A : Ar) (i : Int) (g : Hd) (w : World) (h : RfAt w r c A) (ok : A.Ok) (f : Fine g) (sv : 0 ≤ g.ser ∧ g.ser < 18446744073709551616) (ho : A.isObj i = true) (hp : (A.hd i).ptrs = g.ptrs) (hr : (A.hd i).raws = g.raws) :
    Calls Tryd.prog 146 #[.pointer (some ⟨r, 0, none⟩), .int .i64 i, g.val] w fun e w' => e = .returned (.bool true) ∧ RfAt w' r c ((A.put i (enc g)).put (i + 1) g.ser) ∧ Only (rfp r c) w w' := by
  have HO := Lib.hid (fun (W : World) (hb : Below w.heap.size w W) => rhead_any r c A i W (h.below hb) ok)
  have PK := Lib.hid (fun (W : World) => rpack_yes g W f)
  have eb := enc_bd f
  obtain ⟨b1, b2, b3, b4, b5, b6, b7⟩ := hd_bd ok ho
  have eo := Ar.osz_hd ho
  obtain ⟨s1, s2⟩ := Ar.space_in ok (j := 0) ho (by omega) (by omega)
  obtain ⟨s3, s4⟩ := Ar.space_in ok (j := 1) ho (by omega) (by omega)
  rw [Int.add_zero] at s1
  have S1 := Lib.hid (fun (W : World) (hb : Below w.heap.size w W) => rsetWord_yes r c A i (enc g) W (h.below hb) ok ⟨eb.1, by omega⟩ s2)
  have S2 := Lib.hid (fun (W : World) (hR : RfAt W r c (A.put i (enc g))) => rsetWord_yes r c _ (i + 1) g.ser W hR (ok.putI i ⟨eb.1, by omega⟩) sv (by rw [Ar.space_put, s3]; exact s2))
  have LT := Lib.hid h.lt
  have i1 : i < 1000000 := by omega
  rw [ho] at HO
  clear h ok f ho s1 s2 s3 s4 eo b2 b3 b4 b5
  generalize A.hd i = k at *
  generalize enc g = x at *
  generalize A.put i x = A1 at *
  generalize (A.words.length : Int) = n at *
  obtain ⟨x0, x1, x2, x3, x4, x5, x6⟩ := g
  obtain ⟨y0, y1, y2, y3, y4, y5, y6⟩ := k
  unfold Hd.val at *
  simp only at *
  subst hp
  subst hr
  go_enter Tryd.func146, Tryd.ntmps146
  go_wp2_with fail
  refine (HO.out _ ((Below.refl _ _).alloc (Nat.le_refl _) _)).mono ?_
  rintro e w1 ⟨rfl, hb⟩
  obtain ⟨hX, hb1, hz1⟩ := kept_new hb
  obtain ⟨cX, fX⟩ := hcell hX
  clear hb
  go_wp2_with fail
  refine (PK.out _).mono ?_
  rintro e w2 ⟨rfl, hb⟩
  clear cX fX
  obtain ⟨hY, hb2, hz2⟩ := kept_new hb
  have hX2 := (hb2.block _ (lt_of_heap hX)).trans hX
  have hb3 := hb1.trans (hb2.mono hb1.size)
  have hzz := hb1.size
  obtain ⟨cX, fX⟩ := hcell hX2
  obtain ⟨cY, fY⟩ := hcell hY
  clear hb hX hb1 hb2
  generalize w1.heap.size = q1 at *
  go_wp2_with fail
  refine (S1.out _ hb3).mono ?_
  rintro e w3 ⟨rfl, hR, hO⟩
  have hX3 := hO.new hX2 LT.out
  obtain ⟨cX, fX⟩ := hcell hX3
  clear hX2 hY cY fY
  go_wp2_with fail
  refine (S2.out _ hR).mono ?_
  rintro e w4 ⟨rfl, hR2, hO2⟩
  go_wp2_with fail
  go_ret
  exact ⟨rfl, hR2, ((Only.of_below hb3).trans hO).trans hO2⟩
theorem rsetHead_any (r : Nat) (c : Int → Nat) (A : Ar) (i : Int) (g : Hd) (w : World) (h : RfAt w r c A) (ok : A.Ok) (sv : 0 ≤ g.ser ∧ g.ser < 18446744073709551616) :
    Calls Tryd.prog 146 #[.pointer (some ⟨r, 0, none⟩), .int .i64 i, g.val] w fun e w' => e = .returned (.bool (A.setHeadOk i g)) ∧ RfAt w' r c (A.setHead i g) ∧ Only (rfp r c) w w' := by
  unfold Ar.setHead
  by_cases ho : A.isObj i = true
  · by_cases hc : chk g = 0
    · by_cases hp : (A.hd i).ptrs = g.ptrs
      · by_cases hr : (A.hd i).raws = g.raws
        · have e1 : A.setHeadOk i g = true := by unfold Ar.setHeadOk; rw [ho, decide_eq_true hc, decide_eq_true hp.symm, decide_eq_true hr.symm]; rfl
          rw [e1, if_pos rfl]
          exact rsetHead_yes r c A i g w h ok ((chk_iff g).1 hc) sv ho hp hr
        · have e1 : A.setHeadOk i g = false := by unfold Ar.setHeadOk; rw [decide_eq_false (show ¬ g.raws = (A.hd i).raws from fun e => hr e.symm)]; simp
          rw [e1, if_neg (by decide)]
          exact (rsetHead_raws r c A i g w h ok ho hc hp hr).mono fun e w' ⟨h1, h2⟩ => ⟨h1, h.below h2, Only.of_below h2⟩
      · have e1 : A.setHeadOk i g = false := by unfold Ar.setHeadOk; rw [decide_eq_false (show ¬ g.ptrs = (A.hd i).ptrs from fun e => hp e.symm)]; simp
        rw [e1, if_neg (by decide)]
        exact (rsetHead_ptrs r c A i g w h ok ho hc hp).mono fun e w' ⟨h1, h2⟩ => ⟨h1, h.below h2, Only.of_below h2⟩
    · have e1 : A.setHeadOk i g = false := by unfold Ar.setHeadOk; rw [decide_eq_false hc]; simp
      rw [e1, if_neg (by decide)]
      exact (rsetHead_chk r c A i g w h ok ho hc).mono fun e w' ⟨h1, h2⟩ => ⟨h1, h.below h2, Only.of_below h2⟩
  · have ho' : A.isObj i = false := by simpa using ho
    have e1 : A.setHeadOk i g = false := by unfold Ar.setHeadOk; rw [ho']; rfl
    rw [e1, if_neg (by decide)]
    exact (rsetHead_nil r c A i g w h ok ho').mono fun e w' ⟨h1, h2⟩ => ⟨h1, h.below h2, Only.of_below h2⟩

theorem Ar.space_iff {A : Ar} (ok : A.Ok) (i : Int) : A.space i ≠ 0 ↔ 1 ≤ i ∧ i < (A.words.length : Int) := by
  constructor
  · intro h
    obtain ⟨h1, h2, h3, h4, h5⟩ := Ar.space_bd ok h
    exact ⟨h4, h5⟩
  · intro ⟨h1, h2⟩
    have l := ok.len
    unfold Cfg.size at l
    unfold Ar.space
    rw [if_neg (by omega)]
    repeat' split
    all_goals first | decide | omega
def Ar.setwOk (A : Ar) (i : Int) : Bool := decide (1 ≤ i ∧ i < (A.words.length : Int))
def Ar.setw (A : Ar) (i v : Int) : Ar := if A.setwOk i then A.put i v else A
theorem rsetWord_any (r : Nat) (c : Int → Nat) (A : Ar) (i v : Int) (w : World) (h : RfAt w r c A) (ok : A.Ok) (hv : 0 ≤ v ∧ v < 18446744073709551616) : Calls Tryd.prog 148 #[.pointer (some ⟨r, 0, none⟩), .int .i64 i, .int .u64 v] w fun e w' => e = .returned (.bool (A.setwOk i)) ∧ RfAt w' r c (A.setw i v) ∧ Only (rfp r c) w w' := by
  unfold Ar.setw
  by_cases h0 : 1 ≤ i ∧ i < (A.words.length : Int)
  · have e1 : A.setwOk i = true := decide_eq_true h0
    rw [e1, if_pos rfl]
    exact rsetWord_yes r c A i v w h ok hv ((Ar.space_iff ok i).2 h0)
  · have e1 : A.setwOk i = false := decide_eq_false h0
    rw [e1, if_neg (by decide)]
    have q : A.space i = 0 := Decidable.byContradiction fun q => h0 ((Ar.space_iff ok i).1 q)
    refine (rsetWord_no r c A i v w h ok q).mono fun e w' ⟨h1, m, h2⟩ => ?_
    have hb : Below w.heap.size w w' := by rw [h2]; exact below_drewN (Below.refl _ _) m
    exact ⟨h1, h.below hb, .of_below hb⟩
theorem setWord_any (b wb : Nat) (A : Ar) (i v : Int) (w : World) (h : ArAt w b wb A) : Calls Tryd.prog 50 #[.pointer (some ⟨b, 0, none⟩), .int .i64 i, .int .u64 v] w fun e w' => e = .returned (.bool (A.setwOk i)) ∧ ArAt w' b wb (A.setw i v) ∧ Only [b, wb] w w' := by
  unfold Ar.setw
  by_cases h0 : 1 ≤ i ∧ i < (A.words.length : Int)
  · have e1 : A.setwOk i = true := decide_eq_true h0
    rw [e1, if_pos rfl]
    exact setWord_yes b wb A i v w h h0.1 h0.2
  · have e1 : A.setwOk i = false := decide_eq_false h0
    rw [e1, if_neg (by decide)]
    exact (setWord_no b wb A i v w h h0).mono fun e w' ⟨h1, h2⟩ => ⟨h1, h2 ▸ h, h2 ▸ .refl _ _⟩
def Ar.takeOk (A : Ar) (s n : Int) : Bool := isSp s && decide (1 ≤ n ∧ n ≤ A.free s)
theorem Ar.takeOk_iff {A : Ar} {s n : Int} : A.takeOk s n = true ↔ isSp s = true ∧ 1 ≤ n ∧ n ≤ A.free s := by unfold Ar.takeOk; simp
theorem rtake_any (r : Nat) (c : Int → Nat) (A : Ar) (s n : Int) (w : World) (h : RfAt w r c A) (ok : A.Ok) : Calls Tryd.prog 143 #[.pointer (some ⟨r, 0, none⟩), .int .i64 s, .int .i64 n] w fun e w' => e = .returned (.tuple #[.int .i64 (if A.takeOk s n then A.top s else 0), .bool (A.takeOk s n)]) ∧ RfAt w' r c (if A.takeOk s n then A.take s n else A) ∧ Only (rfp r c) w w' := by
  cases e : A.takeOk s n with
  | true =>
    obtain ⟨h1, h2, h3⟩ := Ar.takeOk_iff.1 e
    rw [if_pos rfl, if_pos rfl]
    exact rtake_yes r c A s n w h ok h1 h2 h3
  | false =>
    rw [if_neg (by decide), if_neg (by decide)]
    exact (rtake_no r c A s n w h ok (fun q => by rw [Ar.takeOk_iff.2 q] at e; cases e)).mono fun e w' ⟨h1, h2⟩ => ⟨h1, h.below h2, Only.of_below h2⟩
theorem atake_any (b wb : Nat) (A : Ar) (s n : Int) (w : World) (h : ArAt w b wb A) (ok : A.Ok) : Calls Tryd.prog 48 #[.pointer (some ⟨b, 0, none⟩), .int .i64 s, .int .i64 n] w fun e w' => e = .returned (.tuple #[.int .i64 (if A.takeOk s n then A.top s else 0), .bool (A.takeOk s n)]) ∧ ArAt w' b wb (if A.takeOk s n then A.take s n else A) ∧ Only [b, wb] w w' := by
  cases e : A.takeOk s n with
  | true =>
    obtain ⟨h1, h2, h3⟩ := Ar.takeOk_iff.1 e
    rw [if_pos rfl, if_pos rfl]
    exact take_yes b wb A s n w h ok h1 h2 h3
  | false =>
    rw [if_neg (by decide), if_neg (by decide)]
    exact (take_no b wb A s n w h ok (fun q => by rw [Ar.takeOk_iff.2 q] at e; cases e)).mono fun e w' ⟨h1, h2⟩ => ⟨h1, h.below h2, Only.of_below h2⟩
/-- Each write keeps an arena sound. -/
theorem Ar.Ok.setTop {A : Ar} (ok : A.Ok) {s t : Int} (hs : isSp s = true) (h1 : A.first s ≤ t) (h2 : t ≤ A.behind s) : (A.setTop s t).Ok := by
  obtain ⟨cv, len, rng, a1, b1, a2, b2, a3, b3, a4, b4, fr⟩ := ok
  rcases sp_cases hs with rfl | rfl | rfl | rfl <;> simp [Ar.first, Ar.behind] at h1 h2 <;> exact ⟨cv, len, rng, by simp [Ar.setTop]; omega, by simp [Ar.setTop]; omega, by simp [Ar.setTop]; omega, by simp [Ar.setTop]; omega, by simp [Ar.setTop]; omega, by simp [Ar.setTop]; omega, by simp [Ar.setTop]; omega, by simp [Ar.setTop]; omega, fr⟩
theorem Ar.Ok.swap {A : Ar} (ok : A.Ok) : ({ A with frm := A.to } : Ar).Ok := by
  obtain ⟨cv, len, rng, a1, b1, a2, b2, a3, b3, a4, b4, fr⟩ := ok
  refine ⟨cv, len, rng, a1, b1, a2, b2, a3, b3, a4, b4, ?_⟩
  show A.to = 2 ∨ A.to = 3
  unfold Ar.to; omega
end Go.Proofs.YtomgfdfgildkbaaDoor
