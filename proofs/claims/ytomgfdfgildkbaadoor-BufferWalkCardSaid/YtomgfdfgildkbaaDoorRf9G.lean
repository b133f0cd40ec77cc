/- The document's arena (middenref3): Ptr, Raw, SetPtr, SetRaw. -/
import Derived.Test.YtomgfdfgildkbaaDoorRf8G
namespace Go.Proofs.YtomgfdfgildkbaaDoor
open Go.RowKit Go.BigFrame

theorem Ar.space_eq {A : Ar} (ok : A.Ok) {s i : Int} (hs : isSp s = true) (h1 : A.first s ≤ i) (h2 : i < A.behind s) : A.space i = s := by
  obtain ⟨e0, e1, s0, s1, t0, t1⟩ := Cfg.bd ok.cv
  rcases sp_cases hs with rfl | rfl | rfl | rfl <;> simp [Ar.first, Ar.behind] at h1 h2 <;> unfold Ar.space
  · rw [if_neg (by omega), if_pos (by omega)]
  · rw [if_neg (by omega), if_neg (by omega), if_pos (by omega)]
  · rw [if_neg (by omega), if_neg (by omega), if_neg (by omega), if_pos (by omega)]
  · rw [if_neg (by omega), if_neg (by omega), if_neg (by omega), if_neg (by omega), if_pos (by omega)]
theorem Ar.space_in {A : Ar} (ok : A.Ok) {i j : Int} (h : A.isObj i = true) (h0 : 0 ≤ j) (h1 : j < A.osz i) : A.space (i + j) = A.space i ∧ A.space i ≠ 0 := by
  unfold Ar.isObj at h
  simp only [Bool.and_eq_true, decide_eq_true_eq] at h
  obtain ⟨⟨⟨n0, ht⟩, hh⟩, hf⟩ := h
  obtain ⟨h2, h3, h4, h5, h6⟩ := Ar.space_bd ok n0
  have hs : isSp (A.space i) = true := by rcases h2 with e | e | e | e <;> rw [e] <;> rfl
  have hz := ok.sizes (A.space i)
  exact ⟨Ar.space_eq ok hs (by omega) (by omega), n0⟩
theorem Ar.osz_hd {A : Ar} {i : Int} (h : A.isObj i = true) : A.osz i = 2 + (A.hd i).ptrs + (A.hd i).raws := by
  unfold Ar.hd; rw [if_pos h]; rfl

set_option maxRecDepth 100000 in
set_option maxHeartbeats 4000000 in
theorem rptr_nil (r : Nat) (c : Int → Nat) (A : Ar) (at_ i : Int) (w : World) (h : RfAt w r c A) (ok : A.Ok) (ho : A.isObj at_ = false) : Calls Tryd.prog 109 #[.pointer (some ⟨r, 0, none⟩), .int .i64 at_, .int .i64 i] w fun e w' => e = .returned (.tuple #[.int .i64 0, .bool false]) ∧ Below w.heap.size w w' := by
  have HO := Lib.hid (rhead_any r c A at_ w h ok)
  rw [ho] at HO
  clear h ok ho
  generalize A.hd at_ = g at *
  obtain ⟨x0, x1, x2, x3, x4, x5, x6⟩ := g
  unfold Hd.val at HO
  simp only at *
  go_enter Tryd.func109, Tryd.ntmps109
  go_wp2_with fail
  refine HO.out.mono ?_
  rintro e w1 ⟨rfl, hb⟩
  go_wp2_with fail
  go_ret2
  exact ⟨rfl, hb.alloc hb.size _⟩
set_option maxRecDepth 100000 in
set_option maxHeartbeats 4000000 in
theorem rptr_out (r : Nat) (c : Int → Nat) (A : Ar) (at_ i : Int) (w : World) (h : RfAt w r c A) (ok : A.Ok) (ho : A.isObj at_ = true) (hi : ¬ (0 ≤ i ∧ i < (A.hd at_).ptrs)) : Calls Tryd.prog 109 #[.pointer (some ⟨r, 0, none⟩), .int .i64 at_, .int .i64 i] w fun e w' => e = .returned (.tuple #[.int .i64 0, .bool false]) ∧ Below w.heap.size w w' := by
  have HO := Lib.hid (rhead_any r c A at_ w h ok)
  rw [ho] at HO
  clear h ok ho
  generalize A.hd at_ = g at *
  obtain ⟨x0, x1, x2, x3, x4, x5, x6⟩ := g
  unfold Hd.val at HO
  simp only at *
  by_cases c0 : i < 0
  · have d0 : decide (i < 0) = true := by simpa using c0
    clear hi
    go_enter Tryd.func109, Tryd.ntmps109
    go_wp2_with fail
    refine HO.out.mono ?_
    rintro e w1 ⟨rfl, hb⟩
    go_wp2_with fail
    go_ret2
    exact ⟨rfl, hb.alloc hb.size _⟩
  · have d0 : decide (i < 0) = false := by simpa using c0
    have c1 : x2 ≤ i := by omega
    have d1 : decide (x2 ≤ i) = true := by simpa using c1
    clear hi c0 c1
    go_enter Tryd.func109, Tryd.ntmps109
    go_wp2_with fail
    refine HO.out.mono ?_
    rintro e w1 ⟨rfl, hb⟩
    go_wp2_with fail
    go_ret2
    exact ⟨rfl, hb.alloc hb.size _⟩

set_option maxRecDepth 100000 in
set_option maxHeartbeats 4000000 in
theorem rptr_in (r : Nat) (c : Int → Nat) (A : Ar) (at_ i : Int) (w : World) (h : RfAt w r c A) (ok : A.Ok) (ho : A.isObj at_ = true) (h0 : 0 ≤ i) (hi : i < (A.hd at_).ptrs) : Calls Tryd.prog 109 #[.pointer (some ⟨r, 0, none⟩), .int .i64 at_, .int .i64 i] w fun e w' => e = .returned (.tuple #[.int .i64 (A.ptr at_ i), .bool (A.ptrOk at_ i)]) ∧ Below w.heap.size w w' := by
  have HO := Lib.hid (rhead_any r c A at_ w h ok)
  have WO := Lib.hid (fun (W : World) (hb : Below w.heap.size w W) => Bm hb (rword_any r c A (at_ + 2 + i) W (h.below hb) ok))
  have SZ := Lib.hid (fun (W : World) (hb : Below w.heap.size w W) => Bq hb (rsizeOf_any r c A W (h.below hb) ok))
  obtain ⟨b1, b2, b3, b4, b5, b6, b7⟩ := hd_bd ok ho
  have hw := ok.word (at_ + 2 + i)
  rw [ho] at HO
  have e1 : A.ptrOk at_ i = decide (A.word (at_ + 2 + i) < (A.words.length : Int)) := by unfold Ar.ptrOk; rw [ho, decide_eq_true ⟨h0, hi⟩]; rfl
  have e2 : A.ptr at_ i = if A.word (at_ + 2 + i) < (A.words.length : Int) then A.word (at_ + 2 + i) else 0 := by unfold Ar.ptr; rw [e1]; simp
  rw [e1, e2]
  clear h ok ho e1 e2
  generalize A.word (at_ + 2 + i) = wv at *
  generalize (A.words.length : Int) = n at *
  generalize A.hd at_ = g at *
  obtain ⟨x0, x1, x2, x3, x4, x5, x6⟩ := g
  unfold Hd.val at HO
  simp only at *
  have d0 : decide (i < 0) = false := by simpa using h0
  have d1 : decide (x2 ≤ i) = false := by simpa using hi
  by_cases hn : wv < n
  · rw [if_pos hn, decide_eq_true hn]
    have d2 : decide (n ≤ wv) = false := by simpa using hn
    have n1 : (0 : Int) ≤ n := by omega
    have n2 : n < 18446744073709551616 := by omega
    have n3 : wv < 9223372036854775808 := by omega
    go_enter Tryd.func109, Tryd.ntmps109
    go_wp2_with fail
    refine HO.out.mono ?_
    rintro e w1 ⟨rfl, hb⟩
    go_wp2_with fail
    replace hb := hb.alloc hb.size (.cells #[.int .u64 x0, .int .i64 x1, .int .i64 x2, .int .i64 x3, .int .i64 x4, .int .i64 x5, .bool x6] 24)
    refine (WO.out _ hb).mono ?_
    rintro e w2 ⟨rfl, hb2⟩
    go_wp2_with fail
    refine (SZ.out _ hb2).mono ?_
    rintro e w3 ⟨rfl, hb3⟩
    go_wp2_with fail
    go_ret2
    exact ⟨rfl, hb3⟩
  · rw [if_neg hn, decide_eq_false hn]
    have d2 : decide (n ≤ wv) = true := by simpa using hn
    have n1 : (0 : Int) ≤ n := by omega
    have n2 : n < 18446744073709551616 := by omega
    go_enter Tryd.func109, Tryd.ntmps109
    go_wp2_with fail
    refine HO.out.mono ?_
    rintro e w1 ⟨rfl, hb⟩
    go_wp2_with fail
    replace hb := hb.alloc hb.size (.cells #[.int .u64 x0, .int .i64 x1, .int .i64 x2, .int .i64 x3, .int .i64 x4, .int .i64 x5, .bool x6] 24)
    refine (WO.out _ hb).mono ?_
    rintro e w2 ⟨rfl, hb2⟩
    go_wp2_with fail
    refine (SZ.out _ hb2).mono ?_
    rintro e w3 ⟨rfl, hb3⟩
    go_wp2_with fail
    go_ret2
    exact ⟨rfl, hb3⟩

theorem rptr_any (r : Nat) (c : Int → Nat) (A : Ar) (at_ i : Int) (w : World) (h : RfAt w r c A) (ok : A.Ok) : Calls Tryd.prog 109 #[.pointer (some ⟨r, 0, none⟩), .int .i64 at_, .int .i64 i] w fun e w' => e = .returned (.tuple #[.int .i64 (A.ptr at_ i), .bool (A.ptrOk at_ i)]) ∧ Below w.heap.size w w' := by
  by_cases ho : A.isObj at_ = true
  · by_cases hi : 0 ≤ i ∧ i < (A.hd at_).ptrs
    · exact rptr_in r c A at_ i w h ok ho hi.1 hi.2
    · have e1 : A.ptrOk at_ i = false := by unfold Ar.ptrOk; rw [decide_eq_false hi]; simp
      rw [show A.ptr at_ i = 0 by unfold Ar.ptr; rw [e1]; rfl, e1]
      exact rptr_out r c A at_ i w h ok ho hi
  · have ho' : A.isObj at_ = false := by simpa using ho
    have e1 : A.ptrOk at_ i = false := by unfold Ar.ptrOk; rw [ho']; rfl
    rw [show A.ptr at_ i = 0 by unfold Ar.ptr; rw [e1]; rfl, e1]
    exact rptr_nil r c A at_ i w h ok ho'

set_option maxRecDepth 100000 in
set_option maxHeartbeats 4000000 in
theorem rraw_nil (r : Nat) (c : Int → Nat) (A : Ar) (at_ i : Int) (w : World) (h : RfAt w r c A) (ok : A.Ok) (ho : A.isObj at_ = false) : Calls Tryd.prog 110 #[.pointer (some ⟨r, 0, none⟩), .int .i64 at_, .int .i64 i] w fun e w' => e = .returned (.tuple #[.int .u64 0, .bool false]) ∧ Below w.heap.size w w' := by
  have HO := Lib.hid (rhead_any r c A at_ w h ok)
  rw [ho] at HO
  clear h ok ho
  generalize A.hd at_ = g at *
  obtain ⟨x0, x1, x2, x3, x4, x5, x6⟩ := g
  unfold Hd.val at HO
  simp only at *
  go_enter Tryd.func110, Tryd.ntmps110
  go_wp2_with fail
  refine HO.out.mono ?_
  rintro e w1 ⟨rfl, hb⟩
  go_wp2_with fail
  go_ret2
  exact ⟨rfl, hb.alloc hb.size _⟩
set_option maxRecDepth 100000 in
set_option maxHeartbeats 4000000 in
theorem rraw_out (r : Nat) (c : Int → Nat) (A : Ar) (at_ i : Int) (w : World) (h : RfAt w r c A) (ok : A.Ok) (ho : A.isObj at_ = true) (hi : ¬ (0 ≤ i ∧ i < (A.hd at_).raws)) : Calls Tryd.prog 110 #[.pointer (some ⟨r, 0, none⟩), .int .i64 at_, .int .i64 i] w fun e w' => e = .returned (.tuple #[.int .u64 0, .bool false]) ∧ Below w.heap.size w w' := by
  have HO := Lib.hid (rhead_any r c A at_ w h ok)
  rw [ho] at HO
  clear h ok ho
  generalize A.hd at_ = g at *
  obtain ⟨x0, x1, x2, x3, x4, x5, x6⟩ := g
  unfold Hd.val at HO
  simp only at *
  by_cases c0 : i < 0
  · have d0 : decide (i < 0) = true := by simpa using c0
    clear hi
    go_enter Tryd.func110, Tryd.ntmps110
    go_wp2_with fail
    refine HO.out.mono ?_
    rintro e w1 ⟨rfl, hb⟩
    go_wp2_with fail
    go_ret2
    exact ⟨rfl, hb.alloc hb.size _⟩
  · have d0 : decide (i < 0) = false := by simpa using c0
    have c1 : x3 ≤ i := by omega
    have d1 : decide (x3 ≤ i) = true := by simpa using c1
    clear hi c0 c1
    go_enter Tryd.func110, Tryd.ntmps110
    go_wp2_with fail
    refine HO.out.mono ?_
    rintro e w1 ⟨rfl, hb⟩
    go_wp2_with fail
    go_ret2
    exact ⟨rfl, hb.alloc hb.size _⟩

set_option maxRecDepth 100000 in
set_option maxHeartbeats 4000000 in
theorem rraw_in (r : Nat) (c : Int → Nat) (A : Ar) (at_ i : Int) (w : World) (h : RfAt w r c A) (ok : A.Ok) (ho : A.isObj at_ = true) (h0 : 0 ≤ i) (hi : i < (A.hd at_).raws) : Calls Tryd.prog 110 #[.pointer (some ⟨r, 0, none⟩), .int .i64 at_, .int .i64 i] w fun e w' => e = .returned (.tuple #[.int .u64 (A.raw at_ i), .bool (A.rawOk at_ i)]) ∧ Below w.heap.size w w' := by
  have HO := Lib.hid (rhead_any r c A at_ w h ok)
  have WO := Lib.hid (fun (W : World) (hb : Below w.heap.size w W) => Bm hb (rword_any r c A (at_ + 2 + (A.hd at_).ptrs + i) W (h.below hb) ok))
  obtain ⟨b1, b2, b3, b4, b5, b6, b7⟩ := hd_bd ok ho
  rw [ho] at HO
  have e1 : A.rawOk at_ i = true := by unfold Ar.rawOk; rw [ho, decide_eq_true ⟨h0, hi⟩]; rfl
  have e2 : A.raw at_ i = A.word (at_ + 2 + (A.hd at_).ptrs + i) := by unfold Ar.raw; rw [e1]; rfl
  rw [e1, e2]
  clear h ok ho e1 e2
  generalize A.word (at_ + 2 + (A.hd at_).ptrs + i) = wv at *
  generalize (A.words.length : Int) = n at *
  generalize A.hd at_ = g at *
  obtain ⟨x0, x1, x2, x3, x4, x5, x6⟩ := g
  unfold Hd.val at HO
  simp only at *
  have d0 : decide (i < 0) = false := by simpa using h0
  have d1 : decide (x3 ≤ i) = false := by simpa using hi
  go_enter Tryd.func110, Tryd.ntmps110
  go_wp2_with fail
  refine HO.out.mono ?_
  rintro e w1 ⟨rfl, hb⟩
  go_wp2_with fail
  replace hb := hb.alloc hb.size (.cells #[.int .u64 x0, .int .i64 x1, .int .i64 x2, .int .i64 x3, .int .i64 x4, .int .i64 x5, .bool x6] 24)
  refine (WO.out _ hb).mono ?_
  rintro e w2 ⟨rfl, hb2⟩
  go_wp2_with fail
  go_ret2
  exact ⟨rfl, hb2⟩

theorem rraw_any (r : Nat) (c : Int → Nat) (A : Ar) (at_ i : Int) (w : World) (h : RfAt w r c A) (ok : A.Ok) : Calls Tryd.prog 110 #[.pointer (some ⟨r, 0, none⟩), .int .i64 at_, .int .i64 i] w fun e w' => e = .returned (.tuple #[.int .u64 (A.raw at_ i), .bool (A.rawOk at_ i)]) ∧ Below w.heap.size w w' := by
  by_cases ho : A.isObj at_ = true
  · by_cases hi : 0 ≤ i ∧ i < (A.hd at_).raws
    · exact rraw_in r c A at_ i w h ok ho hi.1 hi.2
    · have e1 : A.rawOk at_ i = false := by unfold Ar.rawOk; rw [decide_eq_false hi]; simp
      rw [show A.raw at_ i = 0 by unfold Ar.raw; rw [e1]; rfl, e1]
      exact rraw_out r c A at_ i w h ok ho hi
  · have ho' : A.isObj at_ = false := by simpa using ho
    have e1 : A.rawOk at_ i = false := by unfold Ar.rawOk; rw [ho']; rfl
    rw [show A.raw at_ i = 0 by unfold Ar.raw; rw [e1]; rfl, e1]
    exact rraw_nil r c A at_ i w h ok ho'

set_option maxRecDepth 100000 in
set_option maxHeartbeats 4000000 in
theorem rsetRaw_nil (r : Nat) (c : Int → Nat) (A : Ar) (at_ i v : Int) (w : World) (h : RfAt w r c A) (ok : A.Ok) (ho : A.isObj at_ = false) : Calls Tryd.prog 129 #[.pointer (some ⟨r, 0, none⟩), .int .i64 at_, .int .i64 i, .int .u64 v] w fun e w' => e = .returned (.bool false) ∧ Below w.heap.size w w' := by
  have HO := Lib.hid (rhead_any r c A at_ w h ok)
  rw [ho] at HO
  clear h ok ho
  generalize A.hd at_ = g at *
  obtain ⟨x0, x1, x2, x3, x4, x5, x6⟩ := g
  unfold Hd.val at HO
  simp only at *
  go_enter Tryd.func129, Tryd.ntmps129
  go_wp2_with fail
  refine HO.out.mono ?_
  rintro e w1 ⟨rfl, hb⟩
  go_wp2_with fail
  go_ret
  exact ⟨rfl, hb.alloc hb.size _⟩
set_option maxRecDepth 100000 in
set_option maxHeartbeats 4000000 in
theorem rsetRaw_out (r : Nat) (c : Int → Nat) (A : Ar) (at_ i v : Int) (w : World) (h : RfAt w r c A) (ok : A.Ok) (ho : A.isObj at_ = true) (hi : ¬ (0 ≤ i ∧ i < (A.hd at_).raws)) : Calls Tryd.prog 129 #[.pointer (some ⟨r, 0, none⟩), .int .i64 at_, .int .i64 i, .int .u64 v] w fun e w' => e = .returned (.bool false) ∧ Below w.heap.size w w' := by
  have HO := Lib.hid (rhead_any r c A at_ w h ok)
  rw [ho] at HO
  clear h ok ho
  generalize A.hd at_ = g at *
  obtain ⟨x0, x1, x2, x3, x4, x5, x6⟩ := g
  unfold Hd.val at HO
  simp only at *
  by_cases c0 : i < 0
  · have d0 : decide (i < 0) = true := by simpa using c0
    clear hi
    go_enter Tryd.func129, Tryd.ntmps129
    go_wp2_with fail
    refine HO.out.mono ?_
    rintro e w1 ⟨rfl, hb⟩
    go_wp2_with fail
    go_ret
    exact ⟨rfl, hb.alloc hb.size _⟩
  · have d0 : decide (i < 0) = false := by simpa using c0
    have c1 : x3 ≤ i := by omega
    have d1 : decide (x3 ≤ i) = true := by simpa using c1
    clear hi c0 c1
    go_enter Tryd.func129, Tryd.ntmps129
    go_wp2_with fail
    refine HO.out.mono ?_
    rintro e w1 ⟨rfl, hb⟩
    go_wp2_with fail
    go_ret
    exact ⟨rfl, hb.alloc hb.size _⟩

set_option maxRecDepth 100000 in
set_option maxHeartbeats 4000000 in
theorem rsetPtr_nil (r : Nat) (c : Int → Nat) (A : Ar) (at_ i v : Int) (w : World) (h : RfAt w r c A) (ok : A.Ok) (ho : A.isObj at_ = false) : Calls Tryd.prog 147 #[.pointer (some ⟨r, 0, none⟩), .int .i64 at_, .int .i64 i, .int .i64 v] w fun e w' => e = .returned (.bool false) ∧ Below w.heap.size w w' := by
  have HO := Lib.hid (rhead_any r c A at_ w h ok)
  rw [ho] at HO
  clear h ok ho
  generalize A.hd at_ = g at *
  obtain ⟨x0, x1, x2, x3, x4, x5, x6⟩ := g
  unfold Hd.val at HO
  simp only at *
  go_enter Tryd.func147, Tryd.ntmps147
  go_wp2_with fail
  refine HO.out.mono ?_
  rintro e w1 ⟨rfl, hb⟩
  go_wp2_with fail
  go_ret
  exact ⟨rfl, hb.alloc hb.size _⟩
set_option maxRecDepth 100000 in
set_option maxHeartbeats 4000000 in
theorem rsetPtr_out (r : Nat) (c : Int → Nat) (A : Ar) (at_ i v : Int) (w : World) (h : RfAt w r c A) (ok : A.Ok) (ho : A.isObj at_ = true) (hi : ¬ (0 ≤ i ∧ i < (A.hd at_).ptrs)) : Calls Tryd.prog 147 #[.pointer (some ⟨r, 0, none⟩), .int .i64 at_, .int .i64 i, .int .i64 v] w fun e w' => e = .returned (.bool false) ∧ Below w.heap.size w w' := by
  have HO := Lib.hid (rhead_any r c A at_ w h ok)
  rw [ho] at HO
  clear h ok ho
  generalize A.hd at_ = g at *
  obtain ⟨x0, x1, x2, x3, x4, x5, x6⟩ := g
  unfold Hd.val at HO
  simp only at *
  by_cases c0 : i < 0
  · have d0 : decide (i < 0) = true := by simpa using c0
    clear hi
    go_enter Tryd.func147, Tryd.ntmps147
    go_wp2_with fail
    refine HO.out.mono ?_
    rintro e w1 ⟨rfl, hb⟩
    go_wp2_with fail
    go_ret
    exact ⟨rfl, hb.alloc hb.size _⟩
  · have d0 : decide (i < 0) = false := by simpa using c0
    have c1 : x2 ≤ i := by omega
    have d1 : decide (x2 ≤ i) = true := by simpa using c1
    clear hi c0 c1
    go_enter Tryd.func147, Tryd.ntmps147
    go_wp2_with fail
    refine HO.out.mono ?_
    rintro e w1 ⟨rfl, hb⟩
    go_wp2_with fail
    go_ret
    exact ⟨rfl, hb.alloc hb.size _⟩

set_option maxRecDepth 100000 in
set_option maxHeartbeats 4000000 in
theorem rsetRaw_in (r : Nat) (c : Int → Nat) (A : Ar) (at_ i v : Int) (w : World) (h : RfAt w r c A) (ok : A.Ok) (hv : 0 ≤ v ∧ v < 18446744073709551616) (ho : A.isObj at_ = true) (h0 : 0 ≤ i) (hi : i < (A.hd at_).raws) : Calls Tryd.prog 129 #[.pointer (some ⟨r, 0, none⟩), .int .i64 at_, .int .i64 i, .int .u64 v] w fun e w' => e = .returned (.bool true) ∧ RfAt w' r c (A.put (at_ + 2 + (A.hd at_).ptrs + i) v) ∧ Only (rfp r c) w w' := by
  have HO := Lib.hid (rhead_any r c A at_ w h ok)
  obtain ⟨b1, b2, b3, b4, b5, b6, b7⟩ := hd_bd ok ho
  have eo := Ar.osz_hd ho
  obtain ⟨s1, s2⟩ := Ar.space_in ok (j := 2 + (A.hd at_).ptrs + i) ho (by omega) (by omega)
  rw [show at_ + (2 + (A.hd at_).ptrs + i) = at_ + 2 + (A.hd at_).ptrs + i by omega] at s1
  have SW := Lib.hid (fun (W : World) (hb : Below w.heap.size w W) => (rsetWord_yes r c A (at_ + 2 + (A.hd at_).ptrs + i) v W (h.below hb) ok hv (by rw [s1]; exact s2)).mono (R' := fun e w' => e = .returned (.bool true) ∧ RfAt w' r c (A.put (at_ + 2 + (A.hd at_).ptrs + i) v) ∧ Only (rfp r c) w w') fun e w' ⟨h1, h2, h3⟩ => ⟨h1, h2, (Only.of_below hb).trans h3⟩)
  rw [ho] at HO
  clear h ok ho s1 s2 hv eo
  generalize A.put (at_ + 2 + (A.hd at_).ptrs + i) v = A' at *
  generalize (A.words.length : Int) = n at *
  generalize A.hd at_ = g at *
  obtain ⟨x0, x1, x2, x3, x4, x5, x6⟩ := g
  unfold Hd.val at HO
  simp only at *
  have d0 : decide (i < 0) = false := by simpa using h0
  have d1 : decide (x3 ≤ i) = false := by simpa using hi
  go_enter Tryd.func129, Tryd.ntmps129
  go_wp2_with fail
  refine HO.out.mono ?_
  rintro e w1 ⟨rfl, hb⟩
  go_wp2_with fail
  replace hb := hb.alloc hb.size (.cells #[.int .u64 x0, .int .i64 x1, .int .i64 x2, .int .i64 x3, .int .i64 x4, .int .i64 x5, .bool x6] 24)
  refine (SW.out _ hb).mono ?_
  rintro e w2 ⟨rfl, hr, ho⟩
  go_wp2_with fail
  go_ret
  exact ⟨rfl, hr, ho⟩

theorem rsetRaw_any (r : Nat) (c : Int → Nat) (A : Ar) (at_ i v : Int) (w : World) (h : RfAt w r c A) (ok : A.Ok) (hv : 0 ≤ v ∧ v < 18446744073709551616) : Calls Tryd.prog 129 #[.pointer (some ⟨r, 0, none⟩), .int .i64 at_, .int .i64 i, .int .u64 v] w fun e w' => e = .returned (.bool (A.rawOk at_ i)) ∧ RfAt w' r c (A.setRaw at_ i v) ∧ Only (rfp r c) w w' := by
  unfold Ar.setRaw
  by_cases ho : A.isObj at_ = true
  · by_cases hi : 0 ≤ i ∧ i < (A.hd at_).raws
    · have e1 : A.rawOk at_ i = true := by unfold Ar.rawOk; rw [ho, decide_eq_true hi]; rfl
      rw [e1, if_pos rfl]
      exact rsetRaw_in r c A at_ i v w h ok hv ho hi.1 hi.2
    · have e1 : A.rawOk at_ i = false := by unfold Ar.rawOk; rw [decide_eq_false hi]; simp
      rw [e1, if_neg (by decide)]
      exact (rsetRaw_out r c A at_ i v w h ok ho hi).mono fun e w' ⟨h1, h2⟩ => ⟨h1, h.below h2, .of_below h2⟩
  · have ho' : A.isObj at_ = false := by simpa using ho
    have e1 : A.rawOk at_ i = false := by unfold Ar.rawOk; rw [ho']; rfl
    rw [e1, if_neg (by decide)]
    exact (rsetRaw_nil r c A at_ i v w h ok ho').mono fun e w' ⟨h1, h2⟩ => ⟨h1, h.below h2, .of_below h2⟩

set_option maxRecDepth 100000 in
set_option maxHeartbeats 4000000 in
theorem rsetPtr_in (r : Nat) (c : Int → Nat) (A : Ar) (at_ i v : Int) (w : World) (h : RfAt w r c A) (ok : A.Ok) (ho : A.isObj at_ = true) (h0 : 0 ≤ i) (hi : i < (A.hd at_).ptrs) (v0 : 0 ≤ v) (v1 : v < (A.words.length : Int)) : Calls Tryd.prog 147 #[.pointer (some ⟨r, 0, none⟩), .int .i64 at_, .int .i64 i, .int .i64 v] w fun e w' => e = .returned (.bool true) ∧ RfAt w' r c (A.put (at_ + 2 + i) v) ∧ Only (rfp r c) w w' := by
  have HO := Lib.hid (rhead_any r c A at_ w h ok)
  obtain ⟨b1, b2, b3, b4, b5, b6, b7⟩ := hd_bd ok ho
  have eo := Ar.osz_hd ho
  obtain ⟨s1, s2⟩ := Ar.space_in ok (j := 2 + i) ho (by omega) (by omega)
  rw [show at_ + (2 + i) = at_ + 2 + i by omega] at s1
  have SW := Lib.hid (fun (W : World) (hb : Below w.heap.size w W) => (rsetWord_yes r c A (at_ + 2 + i) v W (h.below hb) ok ⟨v0, by omega⟩ (by rw [s1]; exact s2)).mono (R' := fun e w' => e = .returned (.bool true) ∧ RfAt w' r c (A.put (at_ + 2 + i) v) ∧ Only (rfp r c) w w') fun e w' ⟨h1, h2, h3⟩ => ⟨h1, h2, (Only.of_below hb).trans h3⟩)
  have SZ := Lib.hid (fun (W : World) (hb : Below w.heap.size w W) => Bq hb (rsizeOf_any r c A W (h.below hb) ok))
  rw [ho] at HO
  clear h ok ho s1 s2 eo
  generalize A.put (at_ + 2 + i) v = A' at *
  generalize (A.words.length : Int) = n at *
  generalize A.hd at_ = g at *
  obtain ⟨x0, x1, x2, x3, x4, x5, x6⟩ := g
  unfold Hd.val at HO
  simp only at *
  have d0 : decide (i < 0) = false := by simpa using h0
  have d1 : decide (x2 ≤ i) = false := by simpa using hi
  have d2 : decide (v < 0) = false := by simpa using v0
  have d3 : decide (n ≤ v) = false := by simpa using v1
  have v2 : v < 18446744073709551616 := by omega
  go_enter Tryd.func147, Tryd.ntmps147
  go_wp2_with fail
  refine HO.out.mono ?_
  rintro e w1 ⟨rfl, hb⟩
  go_wp2_with fail
  replace hb := hb.alloc hb.size (.cells #[.int .u64 x0, .int .i64 x1, .int .i64 x2, .int .i64 x3, .int .i64 x4, .int .i64 x5, .bool x6] 24)
  refine (SZ.out _ hb).mono ?_
  rintro e w2 ⟨rfl, hb2⟩
  go_wp2_with fail
  refine (SW.out _ hb2).mono ?_
  rintro e w2 ⟨rfl, hr, ho⟩
  go_wp2_with fail
  go_ret
  exact ⟨rfl, hr, ho⟩

set_option maxRecDepth 100000 in
set_option maxHeartbeats 4000000 in
theorem rsetPtr_bad (r : Nat) (c : Int → Nat) (A : Ar) (at_ i v : Int) (w : World) (h : RfAt w r c A) (ok : A.Ok) (ho : A.isObj at_ = true) (h0 : 0 ≤ i) (hi : i < (A.hd at_).ptrs) (hv : ¬ (0 ≤ v ∧ v < (A.words.length : Int))) : Calls Tryd.prog 147 #[.pointer (some ⟨r, 0, none⟩), .int .i64 at_, .int .i64 i, .int .i64 v] w fun e w' => e = .returned (.bool false) ∧ Below w.heap.size w w' := by
  have HO := Lib.hid (rhead_any r c A at_ w h ok)
  have SZ := Lib.hid (fun (W : World) (hb : Below w.heap.size w W) => Bq hb (rsizeOf_any r c A W (h.below hb) ok))
  rw [ho] at HO
  clear h ok ho
  generalize (A.words.length : Int) = n at *
  generalize A.hd at_ = g at *
  obtain ⟨x0, x1, x2, x3, x4, x5, x6⟩ := g
  unfold Hd.val at HO
  simp only at *
  have d0 : decide (i < 0) = false := by simpa using h0
  have d1 : decide (x2 ≤ i) = false := by simpa using hi
  by_cases v0 : v < 0
  · have d2 : decide (v < 0) = true := by simpa using v0
    clear hv v0
    go_enter Tryd.func147, Tryd.ntmps147
    go_wp2_with fail
    refine HO.out.mono ?_
    rintro e w1 ⟨rfl, hb⟩
    go_wp2_with fail
    go_ret
    exact ⟨rfl, hb.alloc hb.size _⟩
  · have d2 : decide (v < 0) = false := by simpa using v0
    have d3 : decide (n ≤ v) = true := by simp; omega
    clear hv
    go_enter Tryd.func147, Tryd.ntmps147
    go_wp2_with fail
    refine HO.out.mono ?_
    rintro e w1 ⟨rfl, hb⟩
    go_wp2_with fail
    replace hb := hb.alloc hb.size (.cells #[.int .u64 x0, .int .i64 x1, .int .i64 x2, .int .i64 x3, .int .i64 x4, .int .i64 x5, .bool x6] 24)
    refine (SZ.out _ hb).mono ?_
    rintro e w2 ⟨rfl, hb2⟩
    go_wp2_with fail
    go_ret
    exact ⟨rfl, hb2⟩

theorem rsetPtr_any (r : Nat) (c : Int → Nat) (A : Ar) (at_ i v : Int) (w : World) (h : RfAt w r c A) (ok : A.Ok) : Calls Tryd.prog 147 #[.pointer (some ⟨r, 0, none⟩), .int .i64 at_, .int .i64 i, .int .i64 v] w fun e w' => e = .returned (.bool (A.setPtrOk at_ i v)) ∧ RfAt w' r c (A.setPtr at_ i v) ∧ Only (rfp r c) w w' := by
  unfold Ar.setPtr
  by_cases ho : A.isObj at_ = true
  · by_cases hi : 0 ≤ i ∧ i < (A.hd at_).ptrs
    · by_cases hv : 0 ≤ v ∧ v < (A.words.length : Int)
      · have e1 : A.setPtrOk at_ i v = true := by unfold Ar.setPtrOk; rw [ho, decide_eq_true hi, decide_eq_true hv]; rfl
        rw [e1, if_pos rfl]
        exact rsetPtr_in r c A at_ i v w h ok ho hi.1 hi.2 hv.1 hv.2
      · have e1 : A.setPtrOk at_ i v = false := by unfold Ar.setPtrOk; rw [decide_eq_false hv]; simp
        rw [e1, if_neg (by decide)]
        exact (rsetPtr_bad r c A at_ i v w h ok ho hi.1 hi.2 hv).mono fun e w' ⟨h1, h2⟩ => ⟨h1, h.below h2, .of_below h2⟩
    · have e1 : A.setPtrOk at_ i v = false := by unfold Ar.setPtrOk; rw [decide_eq_false hi]; simp
      rw [e1, if_neg (by decide)]
      exact (rsetPtr_out r c A at_ i v w h ok ho hi).mono fun e w' ⟨h1, h2⟩ => ⟨h1, h.below h2, .of_below h2⟩
  · have ho' : A.isObj at_ = false := by simpa using ho
    have e1 : A.setPtrOk at_ i v = false := by unfold Ar.setPtrOk; rw [ho']; rfl
    rw [e1, if_neg (by decide)]
    exact (rsetPtr_nil r c A at_ i v w h ok ho').mono fun e w' ⟨h1, h2⟩ => ⟨h1, h.below h2, .of_below h2⟩

end Go.Proofs.YtomgfdfgildkbaaDoor
