/- Merged texts: Rf8, Rf9, Rf10, Rf11. -/
import Derived.Test.YtomgfdfgildkbaaDoorGf
/- The document's arena (middenref3): SetWord; how its lists change with a word. -/

namespace Go.Proofs.YtomgfdfgildkbaaDoor
open Go.RowKit Go.BigFrame

theorem Bl {P : Program} {f : FuncId} {args : Array Value} {w W : World} {v : Value} (hb : Below w.heap.size w W) (h : Calls P f args W fun e w' => e = .returned v ∧ Below W.heap.size W w') : Calls P f args W fun e w' => e = .returned v ∧ Below w.heap.size w w' :=
  h.mono fun _ _ ⟨h1, h2⟩ => ⟨h1, hb.trans (h2.mono hb.size)⟩
theorem Bq {P : Program} {f : FuncId} {args : Array Value} {w W : World} {v : Value} (hb : Below w.heap.size w W) (h : Calls P f args W fun e w' => e = .returned v ∧ W = w') : Calls P f args W fun e w' => e = .returned v ∧ Below w.heap.size w w' :=
  h.mono fun _ _ ⟨h1, h2⟩ => ⟨h1, h2 ▸ hb⟩
theorem Bm {P : Program} {f : FuncId} {args : Array Value} {w W : World} {v : Value} (hb : Below w.heap.size w W) (h : Calls P f args W fun e w' => e = .returned v ∧ ∃ m, w' = W.drewN m) : Calls P f args W fun e w' => e = .returned v ∧ Below w.heap.size w w' :=
  h.mono fun _ _ ⟨h1, m, h2⟩ => ⟨h1, by rw [h2]; exact below_drewN hb m⟩
/-- The blocks that the document's arena may write. -/
def rfp (r : Nat) (c : Int → Nat) : List Nat := [r, c 1, c 2, c 3, c 4]
theorem mem_rfp {r : Nat} {c : Int → Nat} {s : Int} (hs : isSp s = true) : c s ∈ rfp r c := by
  rcases sp_cases hs with rfl | rfl | rfl | rfl <;> simp [rfp]
theorem rfp_r {r : Nat} {c : Int → Nat} : r ∈ rfp r c := by simp [rfp]
theorem Ar.Ok.putI {A : Ar} (ok : A.Ok) (i : Int) {v : Int} (hv : 0 ≤ v ∧ v < 18446744073709551616) : (A.put i v).Ok := ok.put i.toNat hv
theorem Ar.seg_put {A : Ar} (ok : A.Ok) {i v : Int} (hv : 0 ≤ v ∧ v < 18446744073709551616) (h0 : A.space i ≠ 0) {s : Int} (hs : isSp s = true) : (A.put i v).seg s = if s = A.space i then (A.seg s).set (i - A.first s).toNat v else A.seg s := by
  obtain ⟨h1, h2, h3, h4, h5⟩ := Ar.space_bd ok h0
  have l1 := Ar.seg_len (ok.putI i hv) hs
  have l2 := Ar.seg_len ok hs
  have e1 : szOf (A.put i v).cfg s = szOf A.cfg s := rfl
  have e2 : (A.put i v).first s = A.first s := rfl
  have e3 : (A.put i v).words = A.words.set i.toNat v := rfl
  have hz := ok.sizes s
  have hlen := ok.len
  have hb := A.behind_first hs
  have hsn : s ≠ A.space i → i < A.first s ∨ A.behind s ≤ i := fun hn => by
    have b := Cfg.bd ok.cv
    obtain ⟨e0, e1, s0, s1, t0, t1⟩ := b
    rcases sp_cases hs with rfl | rfl | rfl | rfl <;> rcases h1 with q | q | q | q <;> rw [q] at h2 h3 hn <;> first | (exact absurd rfl hn) | (simp [Ar.first, Ar.behind] at h2 h3 ⊢; omega)
  have h2s : s = A.space i → A.first s ≤ i ∧ i < A.behind s := fun e => by rw [e]; exact ⟨h2, h3⟩
  generalize A.space i = t at *
  apply List.ext_getElem?
  intro j
  by_cases hj : j < (szOf A.cfg s).toNat
  · rw [Ar.seg_get (by rw [e1]; exact hj), e3, e2, List.getElem?_set]
    by_cases he : s = t
    · rw [if_pos he, List.getElem?_set, Ar.seg_get hj, l2]
      have := h2s he
      by_cases hij : i.toNat = (A.first s).toNat + j
      · rw [if_pos hij, if_pos (by omega), if_pos (by omega), if_pos (by omega)]
      · rw [if_neg hij, if_neg (by omega)]
    · rw [if_neg he, Ar.seg_get hj]
      have := hsn he
      rw [if_neg (by omega)]
  · rw [List.getElem?_eq_none (by rw [l1, e1]; omega)]
    split
    · rw [List.getElem?_eq_none (by rw [List.length_set, l2]; omega)]
    · rw [List.getElem?_eq_none (by rw [l2]; omega)]
theorem RfAt.put {w : World} {r : Nat} {c : Int → Nat} {A : Ar} (h : RfAt w r c A) (ok : A.Ok) {i v : Int} (hv : 0 ≤ v ∧ v < 18446744073709551616) (h0 : A.space i ≠ 0) :
    RfAt (w.setCell ⟨c (A.space i), (i - A.first (A.space i)).toNat, none⟩ (.int .u64 v)) r c (A.put i v) := by
  obtain ⟨h1, h2, h3, h4, h5⟩ := Ar.space_bd ok h0
  have hs : isSp (A.space i) = true := by rcases h1 with e | e | e | e <;> rw [e] <;> rfl
  refine ⟨?_, fun s hs' => ?_, h.nb, h.nn, ?_⟩
  · rw [block_set_ne (fun e => h.nb _ hs e.symm)]; exact h.st
  · rw [Ar.seg_put ok hv h0 hs']
    by_cases he : s = A.space i
    · rw [if_pos he]
      subst he
      rw [block_set (h.ws _ hs'), u64s_set]
    · rw [if_neg he, block_set_ne (h.nn _ _ hs' hs he)]
      exact h.ws s hs'
  · have hz := h.z0
    unfold Ar.word at hz ⊢
    rw [if_pos (by decide)] at hz ⊢
    show (A.words.set i.toNat v).getD 0 0 = 0
    rw [List.getD_eq_getElem?_getD, List.getElem?_set, if_neg (by omega), ← List.getD_eq_getElem?_getD]
    exact hz
set_option maxRecDepth 100000 in
set_option maxHeartbeats 4000000 in
theorem rsetWord_no (r : Nat) (c : Int → Nat) (A : Ar) (i v : Int) (w : World) (h : RfAt w r c A) (ok : A.Ok) (h0 : A.space i = 0) : Calls Tryd.prog 148 #[.pointer (some ⟨r, 0, none⟩), .int .i64 i, .int .u64 v] w fun e w' => e = .returned (.bool false) ∧ ∃ m, w' = w.drewN m := by
  have SO := Lib.hid (rspaceOf_any r c A i w h ok)
  rw [h0] at SO
  clear h ok h0
  go_enter Tryd.func148, Tryd.ntmps148
  go_wp2_with fail
  refine SO.out.mono ?_
  rintro e w1 ⟨rfl, m, rfl⟩
  go_wp2_with fail
  go_ret
  exact ⟨rfl, m, rfl⟩
set_option maxRecDepth 100000 in
set_option maxHeartbeats 4000000 in
theorem rsetWord_yes (r : Nat) (c : Int → Nat) (A : Ar) (i v : Int) (w : World) (h : RfAt w r c A) (ok : A.Ok) (hv : 0 ≤ v ∧ v < 18446744073709551616) (h0 : A.space i ≠ 0) : Calls Tryd.prog 148 #[.pointer (some ⟨r, 0, none⟩), .int .i64 i, .int .u64 v] w fun e w' => e = .returned (.bool true) ∧ RfAt w' r c (A.put i v) ∧ Only (rfp r c) w w' := by
  have SO := Lib.hid (rspaceOf_any r c A i w h ok)
  obtain ⟨h1, h2, h3, h4, h5⟩ := Ar.space_bd ok h0
  have hs : isSp (A.space i) = true := by rcases h1 with e | e | e | e <;> rw [e] <;> rfl
  have BO := Lib.hid (fun (n : Nat) => (rbounds_any r c A (A.space i) (w.drewN n) (h.drewN n) ok).mono (R' := fun e w' => e = .returned (.tuple #[.int .i64 (A.first (A.space i)), .int .i64 (A.behind (A.space i))]) ∧ ∃ m, w' = w.drewN m) fun e w' ⟨h1, m, h2⟩ => ⟨h1, n + m, by rw [h2]; rw [World.drewN_drewN]⟩)
  have SP := Lib.hid (fun (n : Nat) => ((h.drewN n).sp hs).1)
  have WV := Lib.hid (fun (n : Nat) => (h.drewN n).wd ok hs h2 h3)
  have WF := Lib.hid (fun (n : Nat) => (hcell ((h.drewN n).ws _ hs)).2)
  have PU := Lib.hid (fun (n : Nat) => (⟨(h.drewN n).put ok hv h0, ((Only.refl (rfp r c) w).drewN n).setCell (p := ⟨c (A.space i), (i - A.first (A.space i)).toNat, none⟩) (mem_rfp hs) (.int .u64 v)⟩ : RfAt ((w.drewN n).setCell ⟨c (A.space i), (i - A.first (A.space i)).toNat, none⟩ (.int .u64 v)) r c (A.put i v) ∧ Only (rfp r c) w ((w.drewN n).setCell ⟨c (A.space i), (i - A.first (A.space i)).toNat, none⟩ (.int .u64 v))))
  have bf := A.behind_first hs
  have hz := ok.sizes (A.space i)
  have hz0 : ((A.space i) == 0) = false := by simpa using h0
  clear h ok h0
  generalize A.space i = s at *
  generalize A.first s = fi at *
  generalize A.behind s = be at *
  generalize A.word i = wv at *
  generalize A.put i v = A' at *
  have hzn : ((szOf A.cfg s).toNat : Int) = szOf A.cfg s := by omega
  generalize szOf A.cfg s = zs at *
  have hs' := sp_cases hs
  have s0 : (0 : Int) ≤ s := by omega
  have s5 : s < (5 : Int) := by omega
  have i0 : (0 : Int) ≤ i - fi := by omega
  have i1 : i - fi < (zs.toNat : Int) := by omega
  clear hv
  go_enter Tryd.func148, Tryd.ntmps148
  go_wp2_with fail
  refine SO.out.mono ?_
  rintro e w1 ⟨rfl, m, rfl⟩
  go_wp2_with fail
  refine (BO.out m).mono ?_
  rintro e w1 ⟨rfl, m', rfl⟩
  have cw := SP.out m'
  have cv := WV.out m'
  have cf := WF.out m'
  go_wp2_with fail
  go_ret
  exact ⟨rfl, PU.out m'⟩
end Go.Proofs.YtomgfdfgildkbaaDoor
/- The document's arena (middenref3): Ptr, Raw, SetPtr, SetRaw. -/

namespace Go.Proofs.YtomgfdfgildkbaaDoor
open Go.RowKit Go.BigFrame

theorem Ar.space_eq {A : Ar} (ok : A.Ok) {s i : Int} (hs : isSp s = true) (h1 : A.first s ≤ i) (h2 : i < A.behind s) : A.space i = s := by
  obtain ⟨e0, e1, s0, s1, t0, t1⟩ := Cfg.bd ok.cv
  rcases sp_cases hs with rfl | rfl | rfl | rfl <;> simp [Ar.first, Ar.behind] at h1 h2 <;> unfold Ar.space
  · rw [if_neg (by omega), if_pos (by omega)]
  · rw [if_neg (by omega), if_neg (by omega), if_pos (by omega)]
  · rw [if_neg (by omega), if_neg (by omega), if_neg (by omega), if_pos (by omega)]
  · rw [if_neg (by omega), if_neg (by omega), if_neg (by omega), if_neg (by omega), if_pos (by omega)]
theorem Ar.space_in {A : Ar} (ok : A.Ok) {i j : Int} (h : A.isObj i = true) (h0 : 0 ≤ j) (h1 : j < A.osz i) : A.space (i + j) = A.space i ∧ A.space i ≠ 0 := by
  unfold Ar.isObj at h
  simp only [Bool.and_eq_true, decide_eq_true_eq] at h
  obtain ⟨⟨⟨n0, ht⟩, hh⟩, hf⟩ := h
  obtain ⟨h2, h3, h4, h5, h6⟩ := Ar.space_bd ok n0
  have hs : isSp (A.space i) = true := by rcases h2 with e | e | e | e <;> rw [e] <;> rfl
  have hz := ok.sizes (A.space i)
  exact ⟨Ar.space_eq ok hs (by omega) (by omega), n0⟩
theorem Ar.osz_hd {A : Ar} {i : Int} (h : A.isObj i = true) : A.osz i = 2 + (A.hd i).ptrs + (A.hd i).raws := by
  unfold Ar.hd; rw [if_pos h]; rfl

set_option maxRecDepth 100000 in
set_option maxHeartbeats 4000000 in
theorem rptr_nil (r : Nat) (c : Int → Nat) (A : Ar) (at_ i : Int) (w : World) (h : RfAt w r c A) (ok : A.Ok) (ho : A.isObj at_ = false) : Calls Tryd.prog 109 #[.pointer (some ⟨r, 0, none⟩), .int .i64 at_, .int .i64 i] w fun e w' => e = .returned (.tuple #[.int .i64 0, .bool false]) ∧ Below w.heap.size w w' := by
  have HO := Lib.hid (rhead_any r c A at_ w h ok)
  rw [ho] at HO
  clear h ok ho
  generalize A.hd at_ = g at *
  obtain ⟨x0, x1, x2, x3, x4, x5, x6⟩ := g
  unfold Hd.val at HO
  simp only at *
  go_enter Tryd.func109, Tryd.ntmps109
  go_wp2_with fail
  refine HO.out.mono ?_
  rintro e w1 ⟨rfl, hb⟩
  go_wp2_with fail
  go_ret2
  exact ⟨rfl, hb.alloc hb.size _⟩
set_option maxRecDepth 100000 in
set_option maxHeartbeats 4000000 in
theorem rptr_out (r : Nat) (c : Int → Nat) (A : Ar) (at_ i : Int) (w : World) (h : RfAt w r c A) (ok : A.Ok) (ho : A.isObj at_ = true) (hi : ¬ (0 ≤ i ∧ i < (A.hd at_).ptrs)) : Calls Tryd.prog 109 #[.pointer (some ⟨r, 0, none⟩), .int .i64 at_, .int .i64 i] w fun e w' => e = .returned (.tuple #[.int .i64 0, .bool false]) ∧ Below w.heap.size w w' := by
  have HO := Lib.hid (rhead_any r c A at_ w h ok)
  rw [ho] at HO
  clear h ok ho
  generalize A.hd at_ = g at *
  obtain ⟨x0, x1, x2, x3, x4, x5, x6⟩ := g
  unfold Hd.val at HO
  simp only at *
  by_cases c0 : i < 0
  · have d0 : decide (i < 0) = true := by simpa using c0
    clear hi
    go_enter Tryd.func109, Tryd.ntmps109
    go_wp2_with fail
    refine HO.out.mono ?_
    rintro e w1 ⟨rfl, hb⟩
    go_wp2_with fail
    go_ret2
    exact ⟨rfl, hb.alloc hb.size _⟩
  · have d0 : decide (i < 0) = false := by simpa using c0
    have c1 : x2 ≤ i := by omega
    have d1 : decide (x2 ≤ i) = true := by simpa using c1
    clear hi c0 c1
    go_enter Tryd.func109, Tryd.ntmps109
    go_wp2_with fail
    refine HO.out.mono ?_
    rintro e w1 ⟨rfl, hb⟩
    go_wp2_with fail
    go_ret2
    exact ⟨rfl, hb.alloc hb.size _⟩

set_option maxRecDepth 100000 in
set_option maxHeartbeats 4000000 in
theorem rptr_in (r : Nat) (c : Int → Nat) (A : Ar) (at_ i : Int) (w : World) (h : RfAt w r c A) (ok : A.Ok) (ho : A.isObj at_ = true) (h0 : 0 ≤ i) (hi : i < (A.hd at_).ptrs) : Calls Tryd.prog 109 #[.pointer (some ⟨r, 0, none⟩), .int .i64 at_, .int .i64 i] w fun e w' => e = .returned (.tuple #[.int .i64 (A.ptr at_ i), .bool (A.ptrOk at_ i)]) ∧ Below w.heap.size w w' := by
  have HO := Lib.hid (rhead_any r c A at_ w h ok)
  have WO := Lib.hid (fun (W : World) (hb : Below w.heap.size w W) => Bm hb (rword_any r c A (at_ + 2 + i) W (h.below hb) ok))
  have SZ := Lib.hid (fun (W : World) (hb : Below w.heap.size w W) => Bq hb (rsizeOf_any r c A W (h.below hb) ok))
  obtain ⟨b1, b2, b3, b4, b5, b6, b7⟩ := hd_bd ok ho
  have hw := ok.word (at_ + 2 + i)
  rw [ho] at HO
  have e1 : A.ptrOk at_ i = decide (A.word (at_ + 2 + i) < (A.words.length : Int)) := by unfold Ar.ptrOk; rw [ho, decide_eq_true ⟨h0, hi⟩]; rfl
  have e2 : A.ptr at_ i = if A.word (at_ + 2 + i) < (A.words.length : Int) then A.word (at_ + 2 + i) else 0 := by unfold Ar.ptr; rw [e1]; simp
  rw [e1, e2]
  clear h ok ho e1 e2
  generalize A.word (at_ + 2 + i) = wv at *
  generalize (A.words.length : Int) = n at *
  generalize A.hd at_ = g at *
  obtain ⟨x0, x1, x2, x3, x4, x5, x6⟩ := g
  unfold Hd.val at HO
  simp only at *
  have d0 : decide (i < 0) = false := by simpa using h0
  have d1 : decide (x2 ≤ i) = false := by simpa using hi
  by_cases hn : wv < n
  · rw [if_pos hn, decide_eq_true hn]
    have d2 : decide (n ≤ wv) = false := by simpa using hn
    have n1 : (0 : Int) ≤ n := by omega
    have n2 : n < 18446744073709551616 := by omega
    have n3 : wv < 9223372036854775808 := by omega
    go_enter Tryd.func109, Tryd.ntmps109
    go_wp2_with fail
    refine HO.out.mono ?_
    rintro e w1 ⟨rfl, hb⟩
    go_wp2_with fail
    replace hb := hb.alloc hb.size (.cells #[.int .u64 x0, .int .i64 x1, .int .i64 x2, .int .i64 x3, .int .i64 x4, .int .i64 x5, .bool x6] 24)
    refine (WO.out _ hb).mono ?_
    rintro e w2 ⟨rfl, hb2⟩
    go_wp2_with fail
    refine (SZ.out _ hb2).mono ?_
    rintro e w3 ⟨rfl, hb3⟩
    go_wp2_with fail
    go_ret2
    exact ⟨rfl, hb3⟩
  · rw [if_neg hn, decide_eq_false hn]
    have d2 : decide (n ≤ wv) = true := by simpa using hn
    have n1 : (0 : Int) ≤ n := by omega
    have n2 : n < 18446744073709551616 := by omega
    go_enter Tryd.func109, Tryd.ntmps109
    go_wp2_with fail
    refine HO.out.mono ?_
    rintro e w1 ⟨rfl, hb⟩
    go_wp2_with fail
    replace hb := hb.alloc hb.size (.cells #[.int .u64 x0, .int .i64 x1, .int .i64 x2, .int .i64 x3, .int .i64 x4, .int .i64 x5, .bool x6] 24)
    refine (WO.out _ hb).mono ?_
    rintro e w2 ⟨rfl, hb2⟩
    go_wp2_with fail
    refine (SZ.out _ hb2).mono ?_
    rintro e w3 ⟨rfl, hb3⟩
    go_wp2_with fail
    go_ret2
    exact ⟨rfl, hb3⟩

theorem rptr_any (r : Nat) (c : Int → Nat) (A : Ar) (at_ i : Int) (w : World) (h : RfAt w r c A) (ok : A.Ok) : Calls Tryd.prog 109 #[.pointer (some ⟨r, 0, none⟩), .int .i64 at_, .int .i64 i] w fun e w' => e = .returned (.tuple #[.int .i64 (A.ptr at_ i), .bool (A.ptrOk at_ i)]) ∧ Below w.heap.size w w' := by
  by_cases ho : A.isObj at_ = true
  · by_cases hi : 0 ≤ i ∧ i < (A.hd at_).ptrs
    · exact rptr_in r c A at_ i w h ok ho hi.1 hi.2
    · have e1 : A.ptrOk at_ i = false := by unfold Ar.ptrOk; rw [decide_eq_false hi]; simp
      rw [show A.ptr at_ i = 0 by unfold Ar.ptr; rw [e1]; rfl, e1]
      exact rptr_out r c A at_ i w h ok ho hi
  · have ho' : A.isObj at_ = false := by simpa using ho
    have e1 : A.ptrOk at_ i = false := by unfold Ar.ptrOk; rw [ho']; rfl
    rw [show A.ptr at_ i = 0 by unfold Ar.ptr; rw [e1]; rfl, e1]
    exact rptr_nil r c A at_ i w h ok ho'

set_option maxRecDepth 100000 in
set_option maxHeartbeats 4000000 in
theorem rraw_nil (r : Nat) (c : Int → Nat) (A : Ar) (at_ i : Int) (w : World) (h : RfAt w r c A) (ok : A.Ok) (ho : A.isObj at_ = false) : Calls Tryd.prog 110 #[.pointer (some ⟨r, 0, none⟩), .int .i64 at_, .int .i64 i] w fun e w' => e = .returned (.tuple #[.int .u64 0, .bool false]) ∧ Below w.heap.size w w' := by
  have HO := Lib.hid (rhead_any r c A at_ w h ok)
  rw [ho] at HO
  clear h ok ho
  generalize A.hd at_ = g at *
  obtain ⟨x0, x1, x2, x3, x4, x5, x6⟩ := g
  unfold Hd.val at HO
  simp only at *
  go_enter Tryd.func110, Tryd.ntmps110
  go_wp2_with fail
  refine HO.out.mono ?_
  rintro e w1 ⟨rfl, hb⟩
  go_wp2_with fail
  go_ret2
  exact ⟨rfl, hb.alloc hb.size _⟩
set_option maxRecDepth 100000 in
set_option maxHeartbeats 4000000 in
theorem rraw_out (r : Nat) (c : Int → Nat) (A : Ar) (at_ i : Int) (w : World) (h : RfAt w r c A) (ok : A.Ok) (ho : A.isObj at_ = true) (hi : ¬ (0 ≤ i ∧ i < (A.hd at_).raws)) : Calls Tryd.prog 110 #[.pointer (some ⟨r, 0, none⟩), .int .i64 at_, .int .i64 i] w fun e w' => e = .returned (.tuple #[.int .u64 0, .bool false]) ∧ Below w.heap.size w w' := by
  have HO := Lib.hid (rhead_any r c A at_ w h ok)
  rw [ho] at HO
  clear h ok ho
  generalize A.hd at_ = g at *
  obtain ⟨x0, x1, x2, x3, x4, x5, x6⟩ := g
  unfold Hd.val at HO
  simp only at *
  by_cases c0 : i < 0
  · have d0 : decide (i < 0) = true := by simpa using c0
    clear hi
    go_enter Tryd.func110, Tryd.ntmps110
    go_wp2_with fail
    refine HO.out.mono ?_
    rintro e w1 ⟨rfl, hb⟩
    go_wp2_with fail
    go_ret2
    exact ⟨rfl, hb.alloc hb.size _⟩
  · have d0 : decide (i < 0) = false := by simpa using c0
    have c1 : x3 ≤ i := by omega
    have d1 : decide (x3 ≤ i) = true := by simpa using c1
    clear hi c0 c1
    go_enter Tryd.func110, Tryd.ntmps110
    go_wp2_with fail
    refine HO.out.mono ?_
    rintro e w1 ⟨rfl, hb⟩
    go_wp2_with fail
    go_ret2
    exact ⟨rfl, hb.alloc hb.size _⟩

set_option maxRecDepth 100000 in
set_option maxHeartbeats 4000000 in
theorem rraw_in (r : Nat) (c : Int → Nat) (A : Ar) (at_ i : Int) (w : World) (h : RfAt w r c A) (ok : A.Ok) (ho : A.isObj at_ = true) (h0 : 0 ≤ i) (hi : i < (A.hd at_).raws) : Calls Tryd.prog 110 #[.pointer (some ⟨r, 0, none⟩), .int .i64 at_, .int .i64 i] w fun e w' => e = .returned (.tuple #[.int .u64 (A.raw at_ i), .bool (A.rawOk at_ i)]) ∧ Below w.heap.size w w' := by
  have HO := Lib.hid (rhead_any r c A at_ w h ok)
  have WO := Lib.hid (fun (W : World) (hb : Below w.heap.size w W) => Bm hb (rword_any r c A (at_ + 2 + (A.hd at_).ptrs + i) W (h.below hb) ok))
  obtain ⟨b1, b2, b3, b4, b5, b6, b7⟩ := hd_bd ok ho
  rw [ho] at HO
  have e1 : A.rawOk at_ i = true := by unfold Ar.rawOk; rw [ho, decide_eq_true ⟨h0, hi⟩]; rfl
  have e2 : A.raw at_ i = A.word (at_ + 2 + (A.hd at_).ptrs + i) := by unfold Ar.raw; rw [e1]; rfl
  rw [e1, e2]
  clear h ok ho e1 e2
  generalize A.word (at_ + 2 + (A.hd at_).ptrs + i) = wv at *
  generalize (A.words.length : Int) = n at *
  generalize A.hd at_ = g at *
  obtain ⟨x0, x1, x2, x3, x4, x5, x6⟩ := g
  unfold Hd.val at HO
  simp only at *
  have d0 : decide (i < 0) = false := by simpa using h0
  have d1 : decide (x3 ≤ i) = false := by simpa using hi
  go_enter Tryd.func110, Tryd.ntmps110
  go_wp2_with fail
  refine HO.out.mono ?_
  rintro e w1 ⟨rfl, hb⟩
  go_wp2_with fail
  replace hb := hb.alloc hb.size (.cells #[.int .u64 x0, .int .i64 x1, .int .i64 x2, .int .i64 x3, .int .i64 x4, .int .i64 x5, .bool x6] 24)
  refine (WO.out _ hb).mono ?_
  rintro e w2 ⟨rfl, hb2⟩
  go_wp2_with fail
  go_ret2
  exact ⟨rfl, hb2⟩

theorem rraw_any (r : Nat) (c : Int → Nat) (A : Ar) (at_ i : Int) (w : World) (h : RfAt w r c A) (ok : A.Ok) : Calls Tryd.prog 110 #[.pointer (some ⟨r, 0, none⟩), .int .i64 at_, .int .i64 i] w fun e w' => e = .returned (.tuple #[.int .u64 (A.raw at_ i), .bool (A.rawOk at_ i)]) ∧ Below w.heap.size w w' := by
  by_cases ho : A.isObj at_ = true
  · by_cases hi : 0 ≤ i ∧ i < (A.hd at_).raws
    · exact rraw_in r c A at_ i w h ok ho hi.1 hi.2
    · have e1 : A.rawOk at_ i = false := by unfold Ar.rawOk; rw [decide_eq_false hi]; simp
      rw [show A.raw at_ i = 0 by unfold Ar.raw; rw [e1]; rfl, e1]
      exact rraw_out r c A at_ i w h ok ho hi
  · have ho' : A.isObj at_ = false := by simpa using ho
    have e1 : A.rawOk at_ i = false := by unfold Ar.rawOk; rw [ho']; rfl
    rw [show A.raw at_ i = 0 by unfold Ar.raw; rw [e1]; rfl, e1]
    exact rraw_nil r c A at_ i w h ok ho'

set_option maxRecDepth 100000 in
set_option maxHeartbeats 4000000 in
theorem rsetRaw_nil (r : Nat) (c : Int → Nat) (A : Ar) (at_ i v : Int) (w : World) (h : RfAt w r c A) (ok : A.Ok) (ho : A.isObj at_ = false) : Calls Tryd.prog 129 #[.pointer (some ⟨r, 0, none⟩), .int .i64 at_, .int .i64 i, .int .u64 v] w fun e w' => e = .returned (.bool false) ∧ Below w.heap.size w w' := by
  have HO := Lib.hid (rhead_any r c A at_ w h ok)
  rw [ho] at HO
  clear h ok ho
  generalize A.hd at_ = g at *
  obtain ⟨x0, x1, x2, x3, x4, x5, x6⟩ := g
  unfold Hd.val at HO
  simp only at *
  go_enter Tryd.func129, Tryd.ntmps129
  go_wp2_with fail
  refine HO.out.mono ?_
  rintro e w1 ⟨rfl, hb⟩
  go_wp2_with fail
  go_ret
  exact ⟨rfl, hb.alloc hb.size _⟩
set_option maxRecDepth 100000 in
set_option maxHeartbeats 4000000 in
theorem rsetRaw_out (r : Nat) (c : Int → Nat) (A : Ar) (at_ i v : Int) (w : World) (h : RfAt w r c A) (ok : A.Ok) (ho : A.isObj at_ = true) (hi : ¬ (0 ≤ i ∧ i < (A.hd at_).raws)) : Calls Tryd.prog 129 #[.pointer (some ⟨r, 0, none⟩), .int .i64 at_, .int .i64 i, .int .u64 v] w fun e w' => e = .returned (.bool false) ∧ Below w.heap.size w w' := by
  have HO := Lib.hid (rhead_any r c A at_ w h ok)
  rw [ho] at HO
  clear h ok ho
  generalize A.hd at_ = g at *
  obtain ⟨x0, x1, x2, x3, x4, x5, x6⟩ := g
  unfold Hd.val at HO
  simp only at *
  by_cases c0 : i < 0
  · have d0 : decide (i < 0) = true := by simpa using c0
    clear hi
    go_enter Tryd.func129, Tryd.ntmps129
    go_wp2_with fail
    refine HO.out.mono ?_
    rintro e w1 ⟨rfl, hb⟩
    go_wp2_with fail
    go_ret
    exact ⟨rfl, hb.alloc hb.size _⟩
  · have d0 : decide (i < 0) = false := by simpa using c0
    have c1 : x3 ≤ i := by omega
    have d1 : decide (x3 ≤ i) = true := by simpa using c1
    clear hi c0 c1
    go_enter Tryd.func129, Tryd.ntmps129
    go_wp2_with fail
    refine HO.out.mono ?_
    rintro e w1 ⟨rfl, hb⟩
    go_wp2_with fail
    go_ret
    exact ⟨rfl, hb.alloc hb.size _⟩

set_option maxRecDepth 100000 in
set_option maxHeartbeats 4000000 in
theorem rsetPtr_nil (r : Nat) (c : Int → Nat) (A : Ar) (at_ i v : Int) (w : World) (h : RfAt w r c A) (ok : A.Ok) (ho : A.isObj at_ = false) : Calls Tryd.prog 147 #[.pointer (some ⟨r, 0, none⟩), .int .i64 at_, .int .i64 i, .int .i64 v] w fun e w' => e = .returned (.bool false) ∧ Below w.heap.size w w' := by
  have HO := Lib.hid (rhead_any r c A at_ w h ok)
  rw [ho] at HO
  clear h ok ho
  generalize A.hd at_ = g at *
  obtain ⟨x0, x1, x2, x3, x4, x5, x6⟩ := g
  unfold Hd.val at HO
  simp only at *
  go_enter Tryd.func147, Tryd.ntmps147
  go_wp2_with fail
  refine HO.out.mono ?_
  rintro e w1 ⟨rfl, hb⟩
  go_wp2_with fail
  go_ret
  exact ⟨rfl, hb.alloc hb.size _⟩
set_option maxRecDepth 100000 in
set_option maxHeartbeats 4000000 in
theorem rsetPtr_out (r : Nat) (c : Int → Nat) (A : Ar) (at_ i v : Int) (w : World) (h : RfAt w r c A) (ok : A.Ok) (ho : A.isObj at_ = true) (hi : ¬ (0 ≤ i ∧ i < (A.hd at_).ptrs)) : Calls Tryd.prog 147 #[.pointer (some ⟨r, 0, none⟩), .int .i64 at_, .int .i64 i, .int .i64 v] w fun e w' => e = .returned (.bool false) ∧ Below w.heap.size w w' := by
  have HO := Lib.hid (rhead_any r c A at_ w h ok)
  rw [ho] at HO
  clear h ok ho
  generalize A.hd at_ = g at *
  obtain ⟨x0, x1, x2, x3, x4, x5, x6⟩ := g
  unfold Hd.val at HO
  simp only at *
  by_cases c0 : i < 0
  · have d0 : decide (i < 0) = true := by simpa using c0
    clear hi
    go_enter Tryd.func147, Tryd.ntmps147
    go_wp2_with fail
    refine HO.out.mono ?_
    rintro e w1 ⟨rfl, hb⟩
    go_wp2_with fail
    go_ret
    exact ⟨rfl, hb.alloc hb.size _⟩
  · have d0 : decide (i < 0) = false := by simpa using c0
    have c1 : x2 ≤ i := by omega
    have d1 : decide (x2 ≤ i) = true := by simpa using c1
    clear hi c0 c1
    go_enter Tryd.func147, Tryd.ntmps147
    go_wp2_with fail
    refine HO.out.mono ?_
    rintro e w1 ⟨rfl, hb⟩
    go_wp2_with fail
    go_ret
    exact ⟨rfl, hb.alloc hb.size _⟩

set_option maxRecDepth 100000 in
set_option maxHeartbeats 4000000 in
theorem rsetRaw_in (r : Nat) (c : Int → Nat) (A : Ar) (at_ i v : Int) (w : World) (h : RfAt w r c A) (ok : A.Ok) (hv : 0 ≤ v ∧ v < 18446744073709551616) (ho : A.isObj at_ = true) (h0 : 0 ≤ i) (hi : i < (A.hd at_).raws) : Calls Tryd.prog 129 #[.pointer (some ⟨r, 0, none⟩), .int .i64 at_, .int .i64 i, .int .u64 v] w fun e w' => e = .returned (.bool true) ∧ RfAt w' r c (A.put (at_ + 2 + (A.hd at_).ptrs + i) v) ∧ Only (rfp r c) w w' := by
  have HO := Lib.hid (rhead_any r c A at_ w h ok)
  obtain ⟨b1, b2, b3, b4, b5, b6, b7⟩ := hd_bd ok ho
  have eo := Ar.osz_hd ho
  obtain ⟨s1, s2⟩ := Ar.space_in ok (j := 2 + (A.hd at_).ptrs + i) ho (by omega) (by omega)
  rw [show at_ + (2 + (A.hd at_).ptrs + i) = at_ + 2 + (A.hd at_).ptrs + i by omega] at s1
  have SW := Lib.hid (fun (W : World) (hb : Below w.heap.size w W) => (rsetWord_yes r c A (at_ + 2 + (A.hd at_).ptrs + i) v W (h.below hb) ok hv (by rw [s1]; exact s2)).mono (R' := fun e w' => e = .returned (.bool true) ∧ RfAt w' r c (A.put (at_ + 2 + (A.hd at_).ptrs + i) v) ∧ Only (rfp r c) w w') fun e w' ⟨h1, h2, h3⟩ => ⟨h1, h2, (Only.of_below hb).trans h3⟩)
  rw [ho] at HO
  clear h ok ho s1 s2 hv eo
  generalize A.put (at_ + 2 + (A.hd at_).ptrs + i) v = A' at *
  generalize (A.words.length : Int) = n at *
  generalize A.hd at_ = g at *
  obtain ⟨x0, x1, x2, x3, x4, x5, x6⟩ := g
  unfold Hd.val at HO
  simp only at *
  have d0 : decide (i < 0) = false := by simpa using h0
  have d1 : decide (x3 ≤ i) = false := by simpa using hi
  go_enter Tryd.func129, Tryd.ntmps129
  go_wp2_with fail
  refine HO.out.mono ?_
  rintro e w1 ⟨rfl, hb⟩
  go_wp2_with fail
  replace hb := hb.alloc hb.size (.cells #[.int .u64 x0, .int .i64 x1, .int .i64 x2, .int .i64 x3, .int .i64 x4, .int .i64 x5, .bool x6] 24)
  refine (SW.out _ hb).mono ?_
  rintro e w2 ⟨rfl, hr, ho⟩
  go_wp2_with fail
  go_ret
  exact ⟨rfl, hr, ho⟩

theorem rsetRaw_any (r : Nat) (c : Int → Nat) (A : Ar) (at_ i v : Int) (w : World) (h : RfAt w r c A) (ok : A.Ok) (hv : 0 ≤ v ∧ v < 18446744073709551616) : Calls Tryd.prog 129 #[.pointer (some ⟨r, 0, none⟩), .int .i64 at_, .int .i64 i, .int .u64 v] w fun e w' => e = .returned (.bool (A.rawOk at_ i)) ∧ RfAt w' r c (A.setRaw at_ i v) ∧ Only (rfp r c) w w' := by
  unfold Ar.setRaw
  by_cases ho : A.isObj at_ = true
  · by_cases hi : 0 ≤ i ∧ i < (A.hd at_).raws
    · have e1 : A.rawOk at_ i = true := by unfold Ar.rawOk; rw [ho, decide_eq_true hi]; rfl
      rw [e1, if_pos rfl]
      exact rsetRaw_in r c A at_ i v w h ok hv ho hi.1 hi.2
    · have e1 : A.rawOk at_ i = false := by unfold Ar.rawOk; rw [decide_eq_false hi]; simp
      rw [e1, if_neg (by decide)]
      exact (rsetRaw_out r c A at_ i v w h ok ho hi).mono fun e w' ⟨h1, h2⟩ => ⟨h1, h.below h2, .of_below h2⟩
  · have ho' : A.isObj at_ = false := by simpa using ho
    have e1 : A.rawOk at_ i = false := by unfold Ar.rawOk; rw [ho']; rfl
    rw [e1, if_neg (by decide)]
    exact (rsetRaw_nil r c A at_ i v w h ok ho').mono fun e w' ⟨h1, h2⟩ => ⟨h1, h.below h2, .of_below h2⟩

set_option maxRecDepth 100000 in
set_option maxHeartbeats 4000000 in
theorem rsetPtr_in (r : Nat) (c : Int → Nat) (A : Ar) (at_ i v : Int) (w : World) (h : RfAt w r c A) (ok : A.Ok) (ho : A.isObj at_ = true) (h0 : 0 ≤ i) (hi : i < (A.hd at_).ptrs) (v0 : 0 ≤ v) (v1 : v < (A.words.length : Int)) : Calls Tryd.prog 147 #[.pointer (some ⟨r, 0, none⟩), .int .i64 at_, .int .i64 i, .int .i64 v] w fun e w' => e = .returned (.bool true) ∧ RfAt w' r c (A.put (at_ + 2 + i) v) ∧ Only (rfp r c) w w' := by
  have HO := Lib.hid (rhead_any r c A at_ w h ok)
  obtain ⟨b1, b2, b3, b4, b5, b6, b7⟩ := hd_bd ok ho
  have eo := Ar.osz_hd ho
  obtain ⟨s1, s2⟩ := Ar.space_in ok (j := 2 + i) ho (by omega) (by omega)
  rw [show at_ + (2 + i) = at_ + 2 + i by omega] at s1
  have SW := Lib.hid (fun (W : World) (hb : Below w.heap.size w W) => (rsetWord_yes r c A (at_ + 2 + i) v W (h.below hb) ok ⟨v0, by omega⟩ (by rw [s1]; exact s2)).mono (R' := fun e w' => e = .returned (.bool true) ∧ RfAt w' r c (A.put (at_ + 2 + i) v) ∧ Only (rfp r c) w w') fun e w' ⟨h1, h2, h3⟩ => ⟨h1, h2, (Only.of_below hb).trans h3⟩)
  have SZ := Lib.hid (fun (W : World) (hb : Below w.heap.size w W) => Bq hb (rsizeOf_any r c A W (h.below hb) ok))
  rw [ho] at HO
  clear h ok ho s1 s2 eo
  generalize A.put (at_ + 2 + i) v = A' at *
  generalize (A.words.length : Int) = n at *
  generalize A.hd at_ = g at *
  obtain ⟨x0, x1, x2, x3, x4, x5, x6⟩ := g
  unfold Hd.val at HO
  simp only at *
  have d0 : decide (i < 0) = false := by simpa using h0
  have d1 : decide (x2 ≤ i) = false := by simpa using hi
  have d2 : decide (v < 0) = false := by simpa using v0
  have d3 : decide (n ≤ v) = false := by simpa using v1
  have v2 : v < 18446744073709551616 := by omega
  go_enter Tryd.func147, Tryd.ntmps147
  go_wp2_with fail
  refine HO.out.mono ?_
  rintro e w1 ⟨rfl, hb⟩
  go_wp2_with fail
  replace hb := hb.alloc hb.size (.cells #[.int .u64 x0, .int .i64 x1, .int .i64 x2, .int .i64 x3, .int .i64 x4, .int .i64 x5, .bool x6] 24)
  refine (SZ.out _ hb).mono ?_
  rintro e w2 ⟨rfl, hb2⟩
  go_wp2_with fail
  refine (SW.out _ hb2).mono ?_
  rintro e w2 ⟨rfl, hr, ho⟩
  go_wp2_with fail
  go_ret
  exact ⟨rfl, hr, ho⟩

set_option maxRecDepth 100000 in
set_option maxHeartbeats 4000000 in
theorem rsetPtr_bad (r : Nat) (c : Int → Nat) (A : Ar) (at_ i v : Int) (w : World) (h : RfAt w r c A) (ok : A.Ok) (ho : A.isObj at_ = true) (h0 : 0 ≤ i) (hi : i < (A.hd at_).ptrs) (hv : ¬ (0 ≤ v ∧ v < (A.words.length : Int))) : Calls Tryd.prog 147 #[.pointer (some ⟨r, 0, none⟩), .int .i64 at_, .int .i64 i, .int .i64 v] w fun e w' => e = .returned (.bool false) ∧ Below w.heap.size w w' := by
  have HO := Lib.hid (rhead_any r c A at_ w h ok)
  have SZ := Lib.hid (fun (W : World) (hb : Below w.heap.size w W) => Bq hb (rsizeOf_any r c A W (h.below hb) ok))
  rw [ho] at HO
  clear h ok ho
  generalize (A.words.length : Int) = n at *
  generalize A.hd at_ = g at *
  obtain ⟨x0, x1, x2, x3, x4, x5, x6⟩ := g
  unfold Hd.val at HO
  simp only at *
  have d0 : decide (i < 0) = false := by simpa using h0
  have d1 : decide (x2 ≤ i) = false := by simpa using hi
  by_cases v0 : v < 0
  · have d2 : decide (v < 0) = true := by simpa using v0
    clear hv v0
    go_enter Tryd.func147, Tryd.ntmps147
    go_wp2_with fail
    refine HO.out.mono ?_
    rintro e w1 ⟨rfl, hb⟩
    go_wp2_with fail
    go_ret
    exact ⟨rfl, hb.alloc hb.size _⟩
  · have d2 : decide (v < 0) = false := by simpa using v0
    have d3 : decide (n ≤ v) = true := by simp; omega
    clear hv
    go_enter Tryd.func147, Tryd.ntmps147
    go_wp2_with fail
    refine HO.out.mono ?_
    rintro e w1 ⟨rfl, hb⟩
    go_wp2_with fail
    replace hb := hb.alloc hb.size (.cells #[.int .u64 x0, .int .i64 x1, .int .i64 x2, .int .i64 x3, .int .i64 x4, .int .i64 x5, .bool x6] 24)
    refine (SZ.out _ hb).mono ?_
    rintro e w2 ⟨rfl, hb2⟩
    go_wp2_with fail
    go_ret
    exact ⟨rfl, hb2⟩

theorem rsetPtr_any (r : Nat) (c : Int → Nat) (A : Ar) (at_ i v : Int) (w : World) (h : RfAt w r c A) (ok : A.Ok) : Calls Tryd.prog 147 #[.pointer (some ⟨r, 0, none⟩), .int .i64 at_, .int .i64 i, .int .i64 v] w fun e w' => e = .returned (.bool (A.setPtrOk at_ i v)) ∧ RfAt w' r c (A.setPtr at_ i v) ∧ Only (rfp r c) w w' := by
  unfold Ar.setPtr
  by_cases ho : A.isObj at_ = true
  · by_cases hi : 0 ≤ i ∧ i < (A.hd at_).ptrs
    · by_cases hv : 0 ≤ v ∧ v < (A.words.length : Int)
      · have e1 : A.setPtrOk at_ i v = true := by unfold Ar.setPtrOk; rw [ho, decide_eq_true hi, decide_eq_true hv]; rfl
        rw [e1, if_pos rfl]
        exact rsetPtr_in r c A at_ i v w h ok ho hi.1 hi.2 hv.1 hv.2
      · have e1 : A.setPtrOk at_ i v = false := by unfold Ar.setPtrOk; rw [decide_eq_false hv]; simp
        rw [e1, if_neg (by decide)]
        exact (rsetPtr_bad r c A at_ i v w h ok ho hi.1 hi.2 hv).mono fun e w' ⟨h1, h2⟩ => ⟨h1, h.below h2, .of_below h2⟩
    · have e1 : A.setPtrOk at_ i v = false := by unfold Ar.setPtrOk; rw [decide_eq_false hi]; simp
      rw [e1, if_neg (by decide)]
      exact (rsetPtr_out r c A at_ i v w h ok ho hi).mono fun e w' ⟨h1, h2⟩ => ⟨h1, h.below h2, .of_below h2⟩
  · have ho' : A.isObj at_ = false := by simpa using ho
    have e1 : A.setPtrOk at_ i v = false := by unfold Ar.setPtrOk; rw [ho']; rfl
    rw [e1, if_neg (by decide)]
    exact (rsetPtr_nil r c A at_ i v w h ok ho').mono fun e w' ⟨h1, h2⟩ => ⟨h1, h.below h2, .of_below h2⟩

end Go.Proofs.YtomgfdfgildkbaaDoor
/- The document's arena (middenref3): Cut, Swap, Take. -/

namespace Go.Proofs.YtomgfdfgildkbaaDoor
open Go.RowKit Go.BigFrame

theorem Ar.seg_setTop (A : Ar) (s t s' : Int) : (A.setTop s t).seg s' = A.seg s' := by
  unfold Ar.setTop
  repeat' split
  all_goals rfl
theorem Ar.word_setTop (A : Ar) (s t i : Int) : (A.setTop s t).word i = A.word i := by
  unfold Ar.setTop
  repeat' split
  all_goals rfl
theorem rfCells_setTop (A : Ar) (c : Int → Nat) {s : Int} (t : Int) (hs : isSp s = true) : (rfCells A c).setIfInBounds (19 + s.toNat) (.int .i64 (t - A.first s)) = rfCells (A.setTop s t) c := by
  rcases sp_cases hs with rfl | rfl | rfl | rfl <;> rfl
theorem RfAt.setTop {w : World} {r : Nat} {c : Int → Nat} {A : Ar} (h : RfAt w r c A) {s : Int} (hs : isSp s = true) (t : Int) : RfAt (w.setCell ⟨r, 19 + s.toNat, none⟩ (.int .i64 (t - A.first s))) r c (A.setTop s t) := by
  refine ⟨?_, fun s' hs' => ?_, h.nb, h.nn, ?_⟩
  · rw [block_set h.st, rfCells_setTop A c t hs]
  · rw [Ar.seg_setTop, block_set_ne (h.nb _ hs')]
    exact h.ws s' hs'
  · rw [Ar.word_setTop]; exact h.z0
theorem RfAt.swap {w : World} {r : Nat} {c : Int → Nat} {A : Ar} (h : RfAt w r c A) (t : Int) : RfAt (w.setCell ⟨r, 24, none⟩ (.int .i64 t)) r c { A with frm := t } := by
  refine ⟨?_, fun s' hs' => ?_, h.nb, h.nn, h.z0⟩
  · rw [block_set h.st]; rfl
  · rw [block_set_ne (h.nb _ hs')]; exact h.ws s' hs'
set_option maxRecDepth 100000 in
set_option maxHeartbeats 4000000 in
theorem rcut_any (r : Nat) (c : Int → Nat) (A : Ar) (s t : Int) (w : World) (h : RfAt w r c A) (ok : A.Ok) : Calls Tryd.prog 130 #[.pointer (some ⟨r, 0, none⟩), .int .i64 s, .int .i64 t] w fun e w' => e = .returned (.bool (A.cuts s t)) ∧ RfAt w' r c (if A.cuts s t = true then A.setTop s t else A) ∧ Only (rfp r c) w w' := by
  have BO := Lib.hid (fun (W : World) (hb : Below w.heap.size w W) => (rbounds_any r c A s W (h.below hb) ok).mono (R' := fun e w' => e = .returned (.tuple #[.int .i64 (A.first s), .int .i64 (A.behind s)]) ∧ Below w.heap.size w w') fun e w' ⟨h1, m, h2⟩ => ⟨h1, by rw [h2]; exact below_drewN hb m⟩)
  have IS := Lib.hid (fun (W : World) => rspace_any s W)
  have TO := Lib.hid (fun (W : World) (hb : Below w.heap.size w W) => Bm hb (rtop_any r c A s W (h.below hb) ok))
  unfold Ar.cuts inB
  cases hs : isSp s with
  | false =>
    rw [hs] at IS
    have hd : (false && decide (A.first s ≤ t ∧ t ≤ A.top s)) = false := rfl
    rw [hd, if_neg (by decide)]
    have FI := Lib.hid (fun (W : World) (hb : Below w.heap.size w W) => (⟨h.below hb, .of_below hb⟩ : RfAt W r c A ∧ Only (rfp r c) w W))
    clear h ok TO hd
    generalize A.first s = fi at *
    generalize A.behind s = be at *
    go_enter Tryd.func130, Tryd.ntmps130
    go_wp2_with fail
    refine (BO.out _ (Below.refl _ _)).mono ?_
    rintro e w1 ⟨rfl, b1⟩
    go_wp2_with fail
    refine (IS.out _).mono ?_
    rintro e w2 ⟨rfl, rfl⟩
    go_wp2_with fail
    go_ret
    exact ⟨rfl, FI.out _ b1⟩
  | true =>
    rw [hs] at IS
    by_cases h1 : t < A.first s
    · have d1 : decide (t < A.first s) = true := by simpa using h1
      have hd : (true && decide (A.first s ≤ t ∧ t ≤ A.top s)) = false := by simp; omega
      rw [hd, if_neg (by decide)]
      have FI := Lib.hid (fun (W : World) (hb : Below w.heap.size w W) => (⟨h.below hb, .of_below hb⟩ : RfAt W r c A ∧ Only (rfp r c) w W))
      clear h ok TO hd h1
      generalize A.first s = fi at *
      generalize A.behind s = be at *
      go_enter Tryd.func130, Tryd.ntmps130
      go_wp2_with fail
      refine (BO.out _ (Below.refl _ _)).mono ?_
      rintro e w1 ⟨rfl, b1⟩
      go_wp2_with fail
      refine (IS.out _).mono ?_
      rintro e w2 ⟨rfl, rfl⟩
      go_wp2_with fail
      go_ret
      exact ⟨rfl, FI.out _ b1⟩
    · have d1 : decide (t < A.first s) = false := by simpa using h1
      by_cases h2 : A.top s < t
      · have d2 : decide (A.top s < t) = true := by simpa using h2
        have hd : (true && decide (A.first s ≤ t ∧ t ≤ A.top s)) = false := by simp; omega
        rw [hd, if_neg (by decide)]
        have FI := Lib.hid (fun (W : World) (hb : Below w.heap.size w W) => (⟨h.below hb, .of_below hb⟩ : RfAt W r c A ∧ Only (rfp r c) w W))
        clear h ok hd h1 h2
        generalize A.first s = fi at *
        generalize A.behind s = be at *
        generalize A.top s = tp at *
        go_enter Tryd.func130, Tryd.ntmps130
        go_wp2_with fail
        refine (BO.out _ (Below.refl _ _)).mono ?_
        rintro e w1 ⟨rfl, b1⟩
        go_wp2_with fail
        refine (IS.out _).mono ?_
        rintro e w2 ⟨rfl, rfl⟩
        go_wp2_with fail
        refine (TO.out _ b1).mono ?_
        rintro e w3 ⟨rfl, b2⟩
        go_wp2_with fail
        go_ret
        exact ⟨rfl, FI.out _ b2⟩
      · have d2 : decide (A.top s < t) = false := by simpa using h2
        have hd : (true && decide (A.first s ≤ t ∧ t ≤ A.top s)) = true := by simp; omega
        rw [hd, if_pos rfl]
        have FI := Lib.hid (fun (W : World) (hb : Below w.heap.size w W) => (⟨(h.below hb).setTop hs t, (Only.of_below hb).setCell (p := ⟨r, 19 + s.toNat, none⟩) rfp_r (.int .i64 (t - A.first s))⟩ : RfAt (W.setCell ⟨r, 19 + s.toNat, none⟩ (.int .i64 (t - A.first s))) r c (A.setTop s t) ∧ Only (rfp r c) w (W.setCell ⟨r, 19 + s.toNat, none⟩ (.int .i64 (t - A.first s)))))
        have SP := Lib.hid (fun (W : World) (hb : Below w.heap.size w W) => (⟨((h.below hb).sp hs).2, (hcell (h.below hb).st).2⟩ : _ ∧ _))
        have hz := ok.sizes s
        have hs' := sp_cases hs
        have s0 : (0 : Int) ≤ s := by omega
        have s5 : s < (5 : Int) := by omega
        clear h ok hd
        generalize A.setTop s t = A' at *
        generalize A.first s = fi at *
        generalize A.behind s = be at *
        generalize A.top s = tp at *
        go_enter Tryd.func130, Tryd.ntmps130
        go_wp2_with fail
        refine (BO.out _ (Below.refl _ _)).mono ?_
        rintro e w1 ⟨rfl, b1⟩
        go_wp2_with fail
        refine (IS.out _).mono ?_
        rintro e w2 ⟨rfl, rfl⟩
        go_wp2_with fail
        refine (TO.out _ b1).mono ?_
        rintro e w3 ⟨rfl, b2⟩
        obtain ⟨cu, cf⟩ := SP.out _ b2
        go_wp2_with fail
        go_ret
        exact ⟨rfl, FI.out _ b2⟩
set_option maxRecDepth 100000 in
set_option maxHeartbeats 4000000 in
theorem rswap_any (r : Nat) (c : Int → Nat) (A : Ar) (w : World) (h : RfAt w r c A) (ok : A.Ok) : Calls Tryd.prog 144 #[.pointer (some ⟨r, 0, none⟩)] w fun e w' => e = .returned (.tuple #[]) ∧ RfAt w' r c { A with frm := A.to } ∧ Only (rfp r c) w w' := by
  have TT := Lib.hid (rto_any r c A w h ok)
  have FI := Lib.hid (⟨h.swap A.to, (Only.refl (rfp r c) w).setCell (p := ⟨r, 24, none⟩) rfp_r (.int .i64 A.to)⟩ : _ ∧ _)
  obtain ⟨cc, ff⟩ := hcell h.st
  unfold rfCells at cc
  clear h ok
  generalize A.to = t at *
  go_enter Tryd.func144, Tryd.ntmps144
  go_wp2_with fail
  refine TT.out.mono ?_
  rintro e w1 ⟨rfl, rfl⟩
  go_wp2_with fail
  go_end0
  exact ⟨rfl, FI.out⟩
theorem zeroAt_get {l : List Int} {o n : Nat} (h : o + n ≤ l.length) (j : Nat) : (zeroAt l o n)[j]? = if o ≤ j ∧ j < o + n then some 0 else l[j]? := by
  unfold zeroAt
  have e1 : (l.take o ++ List.replicate n 0).length = o + n := by simp; omega
  have e0 : (l.take o).length = o := by simp; omega
  by_cases h1 : j < o
  · rw [if_neg (by omega), List.getElem?_append_left (by omega), List.getElem?_append_left (by omega), List.getElem?_take, if_pos h1]
  · by_cases h2 : j < o + n
    · rw [if_pos ⟨by omega, h2⟩, List.getElem?_append_left (by omega), List.getElem?_append_right (by omega), List.getElem?_replicate, if_pos (by omega)]
    · rw [if_neg (by omega), List.getElem?_append_right (by omega), List.getElem?_drop, e1]
      congr 1
      omega
/-- k words at a space's top zeroed. -/
def Ar.zer (A : Ar) (s : Int) (k : Nat) : Ar := { A with words := zeroAt A.words (A.top s).toNat k }
theorem Ar.zer_zero (A : Ar) (s : Int) : A.zer s 0 = A := by unfold Ar.zer; rw [show zeroAt A.words (A.top s).toNat 0 = A.words by simp [zeroAt]]
theorem Ar.zer_succ (A : Ar) (s : Int) (k : Nat) (t0 : 0 ≤ A.top s) (h : (A.top s).toNat + (k + 1) ≤ A.words.length) : (A.zer s k).put (A.top s + k) 0 = A.zer s (k + 1) := by
  show ({ A with words := (zeroAt A.words (A.top s).toNat k).set (A.top s + k).toNat 0 } : Ar) = { A with words := zeroAt A.words (A.top s).toNat (k + 1) }
  congr 1
  apply List.ext_getElem?
  intro j
  have hl : (zeroAt A.words (A.top s).toNat k).length = A.words.length := zeroAt_length (by omega)
  rw [zeroAt_get h, List.getElem?_set, zeroAt_get (by omega), hl]
  by_cases e : (A.top s + k).toNat = j
  · rw [if_pos e, if_pos (by omega), if_pos (by omega)]
  · rw [if_neg e]
    by_cases e2 : (A.top s).toNat ≤ j ∧ j < (A.top s).toNat + k
    · rw [if_pos e2, if_pos (by omega)]
    · rw [if_neg e2, if_neg (by omega)]
theorem Ar.Ok.zer {A : Ar} (ok : A.Ok) (s : Int) (k : Nat) (h : (A.top s).toNat + k ≤ A.words.length) : (A.zer s k).Ok := by
  obtain ⟨cv, len, rng, a1, b1, a2, b2, a3, b3, a4, b4, fr⟩ := ok
  refine ⟨cv, ?_, fun x hx => ?_, a1, b1, a2, b2, a3, b3, a4, b4, fr⟩
  · show ((zeroAt A.words (A.top s).toNat k).length : Int) = _
    rw [zeroAt_length h]; exact len
  · rcases zeroAt_mem hx with e | e
    · subst e; decide
    · exact rng x e
theorem Ar.take_zer (A : Ar) (s n : Int) : A.take s n = (A.zer s n.toNat).setTop s (A.top s + n) := rfl
set_option maxRecDepth 100000 in
set_option maxHeartbeats 8000000 in
theorem rtake_yes (r : Nat) (c : Int → Nat) (A : Ar) (s n : Int) (w : World) (h : RfAt w r c A) (ok : A.Ok) (hs : isSp s = true) (h1 : 1 ≤ n) (h2 : n ≤ A.free s) : Calls Tryd.prog 143 #[.pointer (some ⟨r, 0, none⟩), .int .i64 s, .int .i64 n] w fun e w' => e = .returned (.tuple #[.int .i64 (A.top s), .bool true]) ∧ RfAt w' r c (A.take s n) ∧ Only (rfp r c) w w' := by
  have IS := Lib.hid (fun (W : World) => rspace_any s W)
  rw [hs] at IS
  have FR := Lib.hid (fun (W : World) (hb : Below w.heap.size w W) => Bm hb (rfree_any r c A s W (h.below hb) ok))
  have TO := Lib.hid (fun (W : World) (hb : Below w.heap.size w W) => Bm hb (rtop_any r c A s W (h.below hb) ok))
  have hz := ok.sizes s
  have bf := A.behind_first hs
  have len := ok.tops
  have hfree : A.free s = A.behind s - A.top s := rfl
  have hbl : A.behind s ≤ (A.words.length : Int) := by
    have l := ok.len
    obtain ⟨e0, e1, s0, s1, t0, t1⟩ := Cfg.bd ok.cv
    unfold Cfg.size at l
    rcases sp_cases hs with rfl | rfl | rfl | rfl <;> simp [Ar.behind] <;> omega
  have hs' := sp_cases hs
  have s0 : (0 : Int) ≤ s := by omega
  have s5 : s < (5 : Int) := by omega
  have d1 : decide (n < 1) = false := by simp; omega
  have d2 : decide (A.free s < n) = false := by simp; omega
  have STEP := Lib.hid (fun (k : Nat) (hk : (k : Int) < n) (W : World) (hR : RfAt W r c (A.zer s k)) => (⟨hR.sp hs |>.1, hR.sp hs |>.2, (hcell hR.st).2, (hcell (hR.ws s hs)).2, hR.wd (ok.zer s k (by omega)) hs (i := A.top s + k) (show A.first s ≤ _ by omega) (show _ < A.behind s by omega), h.nb s hs⟩ : _ ∧ _ ∧ _ ∧ _ ∧ _ ∧ _))
  have PUT := Lib.hid (fun (k : Nat) (hk : (k : Int) < n) (W : World) (hR : RfAt W r c (A.zer s k)) => (show RfAt (W.setCell ⟨c s, (A.top s - A.first s + k).toNat, none⟩ (.int .u64 0)) r c (A.zer s (k + 1)) by
    have e : (A.zer s k).space (A.top s + k) = s := Ar.space_eq (ok.zer s k (by omega)) hs (show A.first s ≤ _ by omega) (show _ < A.behind s by omega)
    have q := hR.put (ok.zer s k (by omega)) (i := A.top s + k) (v := 0) (by decide) (by rw [e]; omega)
    rw [e, Ar.zer_succ A s k (by omega) (by omega)] at q
    have e2 : A.top s + k - (A.zer s k).first s = A.top s - A.first s + k := by show A.top s + k - A.first s = _; omega
    rw [e2] at q
    exact q))
  have START := Lib.hid (fun (W : World) (hb : Below w.heap.size w W) => (by rw [Ar.zer_zero]; exact h.below hb : RfAt W r c (A.zer s 0)))
  have FIN := Lib.hid (fun (W : World) (hR : RfAt W r c (A.zer s n.toNat)) => (show RfAt (W.setCell ⟨r, 19 + s.toNat, none⟩ (.int .i64 (A.top s - A.first s + n))) r c (A.take s n) by
    have q := hR.setTop hs (A.top s + n)
    rw [show (A.top s + n - (A.zer s n.toNat).first s) = A.top s - A.first s + n by show A.top s + n - A.first s = _; omega] at q
    exact q))
  have FSP := Lib.hid (fun (W : World) (hR : RfAt W r c (A.zer s n.toNat)) => (⟨hR.sp hs |>.2, (hcell hR.st).2⟩ : _ ∧ _))
  have ecf : ∀ k, (A.zer s k).cfg = A.cfg := fun _ => rfl
  have etp : ∀ k, (A.zer s k).top s = A.top s := fun _ => rfl
  have efi : ∀ k, (A.zer s k).first s = A.first s := fun _ => rfl
  simp only [ecf, etp, efi] at STEP FSP
  have hms : c s ∈ rfp r c := mem_rfp hs
  have hzn : ((szOf A.cfg s).toNat : Int) = szOf A.cfg s := by omega
  clear h ok ecf etp efi len hbl
  generalize A.take s n = A' at *
  generalize A.top s = tp at *
  generalize A.first s = fi at *
  generalize A.free s = fr at *
  generalize A.behind s = be at *
  generalize szOf A.cfg s = zs at *
  go_enter Tryd.func143, Tryd.ntmps143
  go_wp2_with fail
  refine (IS.out _).mono ?_
  rintro e w1 ⟨rfl, rfl⟩
  go_wp2_with fail
  refine (FR.out _ (Below.refl _ _)).mono ?_
  rintro e w1 ⟨rfl, b1⟩
  go_wp2_with fail
  refine (TO.out _ b1).mono ?_
  rintro e w2 ⟨rfl, b2⟩
  go_wp2_with fail
  go_loopw [9] (fun iv wx => ∃ k : Nat, (k : Int) ≤ n ∧ iv = .int .i64 k ∧ RfAt wx r c (A.zer s k) ∧ Only (rfp r c) w wx) (fun iv _ => n.toNat - (intOf iv).toNat)
  case atStart => exact ⟨0, by omega, rfl, START.out _ b2, .of_below b2⟩
  case round =>
    obtain ⟨k, hk, rfl, hR, hO⟩ := hrel
    by_cases hlt : (k : Int) < n
    · have dlt : decide ((k : Int) < n) = true := by simpa using hlt
      obtain ⟨q1, q2, q3, q4, q5, q6⟩ := STEP.out k hlt wr hR
      have hR' := PUT.out k hlt wr hR
      have hO' := hO.setCell (p := ⟨c s, (tp - fi + k).toNat, none⟩) hms (.int .u64 0)
      rw [show (tp + (k : Int) - fi) = tp - fi + k by omega] at q5
      have i0 : (0 : Int) ≤ tp - fi + k := by omega
      have i1 : tp - fi + (k : Int) < (zs.toNat : Int) := by omega
      generalize (A.zer s k).word (tp + k) = wv at *
      clear hR STEP PUT START FIN FSP IS FR TO
      go_upto_region 7 with fail
      go_big_region
      go_wp2_with fail
      exact ⟨⟨k + 1, by omega, by go_num, hR'.drewN 1, hO'.drew⟩, by simp [intOf]; omega⟩
    · have dlt : decide ((k : Int) < n) = false := by simpa using hlt
      obtain rfl : k = n.toNat := by omega
      obtain ⟨q2, q3⟩ := FSP.out wr hR
      have hR' := FIN.out wr hR
      have hO' := hO.setCell (p := ⟨r, 19 + s.toNat, none⟩) rfp_r (.int .i64 (tp - fi + n))
      clear hR STEP PUT START FIN FSP IS FR TO
      go_upto_region 8 with fail
      go_big_region
      go_wp2_with fail
      go_ret2
      exact ⟨rfl, hR'.drewN 1, hO'.drew⟩
end Go.Proofs.YtomgfdfgildkbaaDoor
/- The document's arena (middenref3): Take refused, Put, Fill, SetHead, SetWord. -/

namespace Go.Proofs.YtomgfdfgildkbaaDoor
open Go.RowKit Go.BigFrame

theorem RfAt.lt {w : World} {r : Nat} {c : Int → Nat} {A : Ar} (h : RfAt w r c A) : ∀ k ∈ rfp r c, k < w.heap.size := fun k hk => by
  simp only [rfp, List.mem_cons, List.not_mem_nil, or_false] at hk
  rcases hk with rfl | rfl | rfl | rfl | rfl
  · exact lt_of_heap h.st
  · exact lt_of_heap (h.ws 1 rfl)
  · exact lt_of_heap (h.ws 2 rfl)
  · exact lt_of_heap (h.ws 3 rfl)
  · exact lt_of_heap (h.ws 4 rfl)
theorem Only.new {S : List Nat} {w w' : World} {X : Obj} {q : Nat} (h : Only S w w') (hX : w.heap[q]? = some X) (hS : ∀ k ∈ S, k < q) : w'.heap[q]? = some X :=
  (h.block q (lt_of_heap hX) (fun hm => by have := hS q hm; omega)).trans hX
theorem Ar.top_sp {A : Ar} (ok : A.Ok) {s j : Int} (hs : isSp s = true) (h0 : 0 ≤ j) (h1 : j < A.free s) : A.space (A.top s + j) = s ∧ s ≠ 0 := by
  have hz := ok.sizes s
  unfold Ar.free at h1
  refine ⟨Ar.space_eq ok hs (by omega) (by omega), ?_⟩
  rcases sp_cases hs with rfl | rfl | rfl | rfl <;> decide
theorem Ar.space_put (A : Ar) (i v j : Int) : (A.put i v).space j = A.space j := rfl
theorem Ar.space_take (A : Ar) (s n j : Int) : (A.take s n).space j = A.space j := by
  unfold Ar.space; rw [Ar.take_cfg]

set_option maxRecDepth 100000 in
set_option maxHeartbeats 4000000 in
theorem rtake_no (r : Nat) (c : Int → Nat) (A : Ar) (s n : Int) (w : World) (h : RfAt w r c A) (ok : A.Ok) (hn : ¬ (isSp s = true ∧ 1 ≤ n ∧ n ≤ A.free s)) : Calls Tryd.prog 143 #[.pointer (some ⟨r, 0, none⟩), .int .i64 s, .int .i64 n] w fun e w' => e = .returned (.tuple #[.int .i64 0, .bool false]) ∧ Below w.heap.size w w' := by
  have IS := Lib.hid (fun (W : World) => rspace_any s W)
  have FR := Lib.hid (fun (W : World) (hb : Below w.heap.size w W) => Bm hb (rfree_any r c A s W (h.below hb) ok))
  clear h ok
  generalize A.free s = fr at *
  cases hs : isSp s with
  | false =>
    rw [hs] at IS
    clear FR hn
    go_enter Tryd.func143, Tryd.ntmps143
    go_wp2_with fail
    refine (IS.out _).mono ?_
    rintro e w1 ⟨rfl, rfl⟩
    go_wp2_with fail
    go_ret2
    exact ⟨rfl, Below.refl _ _⟩
  | true =>
    rw [hs] at IS
    by_cases h1 : n < 1
    · have d1 : decide (n < 1) = true := by simpa using h1
      clear FR hn
      go_enter Tryd.func143, Tryd.ntmps143
      go_wp2_with fail
      refine (IS.out _).mono ?_
      rintro e w1 ⟨rfl, rfl⟩
      go_wp2_with fail
      go_ret2
      exact ⟨rfl, Below.refl _ _⟩
    · have d1 : decide (n < 1) = false := by simpa using h1
      have h2 : fr < n := by
        by_cases q : n ≤ fr
        · exact absurd ⟨hs, by omega, q⟩ hn
        · omega
      have d2 : decide (fr < n) = true := by simpa using h2
      clear hn
      go_enter Tryd.func143, Tryd.ntmps143
      go_wp2_with fail
      refine (IS.out _).mono ?_
      rintro e w1 ⟨rfl, rfl⟩
      go_wp2_with fail
      refine (FR.out _ (Below.refl _ _)).mono ?_
      rintro e w2 ⟨rfl, b2⟩
      go_wp2_with fail
      go_ret2
      exact ⟨rfl, b2⟩

set_option maxRecDepth 100000 in
set_option maxHeartbeats 4000000 in
theorem rput_yes (r : Nat) (c : Int → Nat) (A : Ar) (s : Int) (g : Hd) (w : World) (h : RfAt w r c A) (ok : A.Ok) (f : Fine g) (sv : 0 ≤ g.ser ∧ g.ser < 18446744073709551616) (hs : isSp s = true) (hn : 2 + g.ptrs + g.raws ≤ A.free s) :
    Calls Tryd.prog 125 #[.pointer (some ⟨r, 0, none⟩), .int .i64 s, g.val] w fun e w' => e = .returned (.tuple #[.int .i64 (A.top s), .bool true]) ∧ RfAt w' r c (A.lay s g) ∧ Only (rfp r c) w w' := by
  have eb := enc_bd f
  have fp0 := f.p0
  have fp1 := f.p1
  have fr0 := f.r0
  have fr1 := f.r1
  have PK := Lib.hid (fun (W : World) => rpack_yes g W f)
  have SZ := Lib.hid (fun (W : World) => rhsize_any g W ⟨fp0, by omega⟩ ⟨fr0, by omega⟩)
  have TK := Lib.hid (fun (W : World) (hb : Below w.heap.size w W) => rtake_yes r c A s (2 + g.ptrs + g.raws) W (h.below hb) ok hs (by omega) hn)
  have okT : (A.take s (2 + g.ptrs + g.raws)).Ok := ok.take hs (by omega) hn
  have q0 := Ar.top_sp ok hs (j := 0) (by omega) (by omega)
  have q1 := Ar.top_sp ok hs (j := 1) (by omega) (by omega)
  rw [Int.add_zero] at q0
  have S1 := Lib.hid (fun (W : World) (hR : RfAt W r c (A.take s (2 + g.ptrs + g.raws))) => rsetWord_yes r c _ (A.top s) (enc g) W hR okT ⟨eb.1, by omega⟩ (by rw [Ar.space_take, q0.1]; exact q0.2))
  have S2 := Lib.hid (fun (W : World) (hR : RfAt W r c ((A.take s (2 + g.ptrs + g.raws)).put (A.top s) (enc g))) => rsetWord_yes r c _ (A.top s + 1) g.ser W hR (okT.putI (A.top s) ⟨eb.1, by omega⟩) sv (by rw [Ar.space_put, Ar.space_take, q1.1]; exact q1.2))
  have LT := Lib.hid h.lt
  have hz := ok.sizes s
  have top1 : A.top s < 1000000 := by omega
  unfold Ar.lay
  clear h ok f eb okT q0 q1 hs
  generalize A.top s = tp at *
  generalize enc g = x at *
  generalize A.take s (2 + g.ptrs + g.raws) = A1 at *
  generalize 2 + g.ptrs + g.raws = n at *
  obtain ⟨x0, x1, x2, x3, x4, x5, x6⟩ := g
  unfold Hd.val at *
  simp only at *
  generalize A1.put tp x = A2 at *
  go_enter Tryd.func125, Tryd.ntmps125
  go_wp2_with fail
  refine (PK.out _).mono ?_
  rintro e w1 ⟨rfl, hb⟩
  obtain ⟨hX, hb1, hz1⟩ := kept_new hb
  obtain ⟨cX, fX⟩ := hcell hX
  clear hb
  go_wp2_with fail
  refine (SZ.out _).mono ?_
  rintro e w2 ⟨rfl, hb⟩
  have hX2 := (hb.block _ (lt_of_heap hX)).trans hX
  have hb2 := hb1.trans (hb.mono hb1.size)
  clear hb cX fX hX
  go_wp2_with fail
  refine (TK.out _ hb2).mono ?_
  rintro e w3 ⟨rfl, hR, hO⟩
  have hX3 := hO.new hX2 LT.out
  clear hX2
  go_wp2_with fail
  refine (S1.out _ hR).mono ?_
  rintro e w4 ⟨rfl, hR2, hO2⟩
  have hX4 := hO2.new hX3 LT.out
  clear hX3
  obtain ⟨cX, fX⟩ := hcell hX4
  go_wp2_with fail
  refine (S2.out _ hR2).mono ?_
  rintro e w5 ⟨rfl, hR3, hO3⟩
  go_wp2_with fail
  go_ret2
  exact ⟨rfl, hR3, (((Only.of_below hb2).trans hO).trans hO2).trans hO3⟩

set_option maxRecDepth 100000 in
set_option maxHeartbeats 4000000 in
theorem rput_no (r : Nat) (c : Int → Nat) (A : Ar) (s : Int) (g : Hd) (w : World) (h : RfAt w r c A) (ok : A.Ok) (f : Fine g) (hn : ¬ (isSp s = true ∧ 1 ≤ 2 + g.ptrs + g.raws ∧ 2 + g.ptrs + g.raws ≤ A.free s)) :
    Calls Tryd.prog 125 #[.pointer (some ⟨r, 0, none⟩), .int .i64 s, g.val] w fun e w' => e = .returned (.tuple #[.int .i64 0, .bool false]) ∧ Below w.heap.size w w' := by
  have fp0 := f.p0
  have fp1 := f.p1
  have fr0 := f.r0
  have fr1 := f.r1
  have PK := Lib.hid (fun (W : World) => rpack_yes g W f)
  have SZ := Lib.hid (fun (W : World) => rhsize_any g W ⟨fp0, by omega⟩ ⟨fr0, by omega⟩)
  have TK := Lib.hid (fun (W : World) (hb : Below w.heap.size w W) => Bl hb (rtake_no r c A s (2 + g.ptrs + g.raws) W (h.below hb) ok hn))
  clear h ok f hn
  generalize enc g = x at *
  generalize 2 + g.ptrs + g.raws = n at *
  obtain ⟨x0, x1, x2, x3, x4, x5, x6⟩ := g
  unfold Hd.val at *
  simp only at *
  go_enter Tryd.func125, Tryd.ntmps125
  go_wp2_with fail
  refine (PK.out _).mono ?_
  rintro e w1 ⟨rfl, hb⟩
  obtain ⟨hX, hb1, hz1⟩ := kept_new hb
  obtain ⟨cX, fX⟩ := hcell hX
  clear hb
  go_wp2_with fail
  refine (SZ.out _).mono ?_
  rintro e w2 ⟨rfl, hb⟩
  have hb2 := hb1.trans (hb.mono hb1.size)
  clear hb cX fX hX
  go_wp2_with fail
  refine (TK.out _ hb2).mono ?_
  rintro e w3 ⟨rfl, hb3⟩
  go_wp2_with fail
  go_ret2
  exact ⟨rfl, hb3⟩

set_option maxRecDepth 100000 in
set_option maxHeartbeats 4000000 in
theorem rput_bad (r : Nat) (s : Int) (g : Hd) (w : World) (hc : ¬ chk g = 0) :
    Calls Tryd.prog 125 #[.pointer (some ⟨r, 0, none⟩), .int .i64 s, g.val] w fun e w' => e = .returned (.tuple #[.int .i64 0, .bool false]) ∧ Below w.heap.size w w' := by
  have PK := Lib.hid (fun (W : World) => rpack_any g W)
  have hc1 : (chk g != 0) = true := by simpa using hc
  have hc2 : (chk g == 0) = false := by simpa using hc
  generalize pack g = x at *
  generalize chk g = c at *
  obtain ⟨x0, x1, x2, x3, x4, x5, x6⟩ := g
  unfold Hd.val at *
  simp only at *
  clear hc
  go_enter Tryd.func125, Tryd.ntmps125
  go_wp2_with fail
  refine (PK.out _).mono ?_
  rintro e w1 ⟨rfl, hb⟩
  obtain ⟨hX, hb1, hz1⟩ := kept_new hb
  clear hb hX
  go_wp2_with fail
  go_ret2
  exact ⟨rfl, hb1⟩
theorem rput_any (r : Nat) (c : Int → Nat) (A : Ar) (s : Int) (g : Hd) (w : World) (h : RfAt w r c A) (ok : A.Ok) (sv : 0 ≤ g.ser ∧ g.ser < 18446744073709551616) :
    Calls Tryd.prog 125 #[.pointer (some ⟨r, 0, none⟩), .int .i64 s, g.val] w fun e w' => e = .returned (.tuple #[.int .i64 (if A.putOk s g then A.top s else 0), .bool (A.putOk s g)]) ∧ RfAt w' r c (if A.putOk s g then A.lay s g else A) ∧ Only (rfp r c) w w' := by
  by_cases hc : chk g = 0
  · have f := (chk_iff g).1 hc
    have h2 : 1 ≤ 2 + g.ptrs + g.raws := by have := f.p0; have := f.r0; omega
    by_cases hn : isSp s = true ∧ 1 ≤ 2 + g.ptrs + g.raws ∧ 2 + g.ptrs + g.raws ≤ A.free s
    · have e1 : A.putOk s g = true := by unfold Ar.putOk; rw [decide_eq_true hc, hn.1, decide_eq_true hn.2.2]; rfl
      rw [e1, if_pos rfl, if_pos rfl]
      exact rput_yes r c A s g w h ok f sv hn.1 hn.2.2
    · have e1 : A.putOk s g = false := by
        unfold Ar.putOk
        by_cases q : isSp s = true
        · rw [decide_eq_false (show ¬ 2 + g.ptrs + g.raws ≤ A.free s from fun x => hn ⟨q, h2, x⟩)]; simp
        · simp [q]
      rw [e1, if_neg (by simp), if_neg (by simp)]
      exact (rput_no r c A s g w h ok f hn).mono fun e w' ⟨h1, h2⟩ => ⟨h1, h.below h2, Only.of_below h2⟩
  · have e1 : A.putOk s g = false := by unfold Ar.putOk; rw [decide_eq_false hc]; rfl
    rw [e1, if_neg (by simp), if_neg (by simp)]
    exact (rput_bad r s g w hc).mono fun e w' ⟨h1, h2⟩ => ⟨h1, h.below h2, Only.of_below h2⟩

set_option maxRecDepth 100000 in
set_option maxHeartbeats 4000000 in
theorem rfill_yes (r : Nat) (c : Int → Nat) (A : Ar) (s n : Int) (w : World) (h : RfAt w r c A) (ok : A.Ok) (hs : isSp s = true) (h1 : 1 ≤ n) (hn : n ≤ A.free s) :
    Calls Tryd.prog 145 #[.pointer (some ⟨r, 0, none⟩), .int .i64 s, .int .i64 n] w fun e w' => e = .returned (.bool true) ∧ RfAt w' r c (A.fill s n) ∧ Only (rfp r c) w w' := by
  have FL := Lib.hid (fun (W : World) => rfiller_any n W)
  have TK := Lib.hid (fun (W : World) (hb : Below w.heap.size w W) => rtake_yes r c A s n W (h.below hb) ok hs h1 hn)
  have okT : (A.take s n).Ok := ok.take hs h1 hn
  have q0 := Ar.top_sp ok hs (j := 0) (by omega) (by omega)
  rw [Int.add_zero] at q0
  have hz := ok.sizes s
  have hfr : A.free s = A.behind s - A.top s := rfl
  have hwt : wordT 3 n = n * 4 + 3 := by unfold wordT; rw [if_pos (by omega)]; omega
  have hx : (wordT 3 n == 0) = false := by simp; omega
  have S1 := Lib.hid (fun (W : World) (hR : RfAt W r c (A.take s n)) => rsetWord_yes r c _ (A.top s) (wordT 3 n) W hR okT (by omega) (by rw [Ar.space_take, q0.1]; exact q0.2))
  unfold Ar.fill
  clear h ok okT q0 hwt hfr
  generalize A.top s = tp at *
  generalize wordT 3 n = x at *
  generalize A.take s n = A1 at *
  go_enter Tryd.func145, Tryd.ntmps145
  go_wp2_with fail
  refine (FL.out _).mono ?_
  rintro e w1 ⟨rfl, rfl⟩
  go_wp2_with fail
  refine (TK.out _ (Below.refl _ _)).mono ?_
  rintro e w2 ⟨rfl, hR, hO⟩
  go_wp2_with fail
  refine (S1.out _ hR).mono ?_
  rintro e w3 ⟨rfl, hR2, hO2⟩
  go_wp2_with fail
  go_ret
  exact ⟨rfl, hR2, hO.trans hO2⟩

set_option maxRecDepth 100000 in
set_option maxHeartbeats 4000000 in
theorem rfill_no (r : Nat) (c : Int → Nat) (A : Ar) (s n : Int) (w : World) (h : RfAt w r c A) (ok : A.Ok) (hn : ¬ (isSp s = true ∧ 1 ≤ n ∧ n ≤ A.free s)) :
    Calls Tryd.prog 145 #[.pointer (some ⟨r, 0, none⟩), .int .i64 s, .int .i64 n] w fun e w' => e = .returned (.bool false) ∧ Below w.heap.size w w' := by
  have FL := Lib.hid (fun (W : World) => rfiller_any n W)
  have TK := Lib.hid (fun (W : World) (hb : Below w.heap.size w W) => Bl hb (rtake_no r c A s n W (h.below hb) ok hn))
  clear h ok hn
  by_cases hx : wordT 3 n = 0
  · rw [hx] at FL
    clear TK
    go_enter Tryd.func145, Tryd.ntmps145
    go_wp2_with fail
    refine (FL.out _).mono ?_
    rintro e w1 ⟨rfl, rfl⟩
    go_wp2_with fail
    go_ret
    exact ⟨rfl, Below.refl _ _⟩
  · have hx2 : (wordT 3 n == 0) = false := by simpa using hx
    generalize wordT 3 n = x at *
    clear hx
    go_enter Tryd.func145, Tryd.ntmps145
    go_wp2_with fail
    refine (FL.out _).mono ?_
    rintro e w1 ⟨rfl, rfl⟩
    go_wp2_with fail
    refine (TK.out _ (Below.refl _ _)).mono ?_
    rintro e w2 ⟨rfl, hb⟩
    go_wp2_with fail
    go_ret
    exact ⟨rfl, hb⟩
theorem rfill_any (r : Nat) (c : Int → Nat) (A : Ar) (s n : Int) (w : World) (h : RfAt w r c A) (ok : A.Ok) :
    Calls Tryd.prog 145 #[.pointer (some ⟨r, 0, none⟩), .int .i64 s, .int .i64 n] w fun e w' => e = .returned (.bool (A.fillOk s n)) ∧ RfAt w' r c (if A.fillOk s n then A.fill s n else A) ∧ Only (rfp r c) w w' := by
  by_cases hn : isSp s = true ∧ 1 ≤ n ∧ n ≤ A.free s
  · have e1 : A.fillOk s n = true := by unfold Ar.fillOk; rw [hn.1, decide_eq_true hn.2]; rfl
    rw [e1, if_pos rfl]
    exact rfill_yes r c A s n w h ok hn.1 hn.2.1 hn.2.2
  · have e1 : A.fillOk s n = false := by
      unfold Ar.fillOk
      by_cases q : isSp s = true
      · rw [decide_eq_false (show ¬ (1 ≤ n ∧ n ≤ A.free s) from fun x => hn ⟨q, x⟩)]; simp
      · simp [q]
    rw [e1, if_neg (by simp)]
    exact (rfill_no r c A s n w h ok hn).mono fun e w' ⟨h1, h2⟩ => ⟨h1, h.below h2, Only.of_below h2⟩

set_option maxRecDepth 100000 in
set_option maxHeartbeats 4000000 in
theorem rsetHead_nil (r : Nat) (c : Int → Nat) (A : Ar) (i : Int) (g : Hd) (w : World) (h : RfAt w r c A) (ok : A.Ok) (ho : A.isObj i = false) :
    Calls Tryd.prog 146 #[.pointer (some ⟨r, 0, none⟩), .int .i64 i, g.val] w fun e w' => e = .returned (.bool false) ∧ Below w.heap.size w w' := by
  have HO := Lib.hid (fun (W : World) (hb : Below w.heap.size w W) => rhead_any r c A i W (h.below hb) ok)
  have PK := Lib.hid (fun (W : World) => rpack_any g W)
  rw [ho] at HO
  clear ho
  generalize A.hd i = k at *
  generalize pack g = x at *
  generalize chk g = e0 at *
  clear h ok
  obtain ⟨x0, x1, x2, x3, x4, x5, x6⟩ := g
  obtain ⟨y0, y1, y2, y3, y4, y5, y6⟩ := k
  unfold Hd.val at *
  simp only at *
  go_enter Tryd.func146, Tryd.ntmps146
  go_wp2_with fail
  refine (HO.out _ ((Below.refl _ _).alloc (Nat.le_refl _) _)).mono ?_
  rintro e w1 ⟨rfl, hb⟩
  obtain ⟨hX, hb1, hz1⟩ := kept_new hb
  obtain ⟨cX, fX⟩ := hcell hX
  clear hb
  go_wp2_with fail
  refine (PK.out _).mono ?_
  rintro e w2 ⟨rfl, hb⟩
  clear cX fX
  obtain ⟨hY, hb2, hz2⟩ := kept_new hb
  have hX2 := (hb2.block _ (lt_of_heap hX)).trans hX
  have hb3 := hb1.trans (hb2.mono hb1.size)
  have hzz := hb1.size
  obtain ⟨cX, fX⟩ := hcell hX2
  obtain ⟨cY, fY⟩ := hcell hY
  clear hb hX hb1 hb2
  generalize w1.heap.size = q1 at *
  go_wp2_with fail
  go_ret
  exact ⟨rfl, hb3⟩

set_option maxRecDepth 100000 in
set_option maxHeartbeats 4000000 in
theorem rsetHead_chk (r : Nat) (c : Int → Nat) (A : Ar) (i : Int) (g : Hd) (w : World) (h : RfAt w r c A) (ok : A.Ok) (ho : A.isObj i = true) (hc : ¬ chk g = 0) :
    Calls Tryd.prog 146 #[.pointer (some ⟨r, 0, none⟩), .int .i64 i, g.val] w fun e w' => e = .returned (.bool false) ∧ Below w.heap.size w w' := by
  have HO := Lib.hid (fun (W : World) (hb : Below w.heap.size w W) => rhead_any r c A i W (h.below hb) ok)
  have PK := Lib.hid (fun (W : World) => rpack_any g W)
  rw [ho] at HO
  have hc2 : (chk g == 0) = false := by simpa using hc
  have hc1 : (chk g != 0) = true := by simpa using hc
  clear ho hc
  generalize A.hd i = k at *
  generalize pack g = x at *
  generalize chk g = e0 at *
  clear h ok
  obtain ⟨x0, x1, x2, x3, x4, x5, x6⟩ := g
  obtain ⟨y0, y1, y2, y3, y4, y5, y6⟩ := k
  unfold Hd.val at *
  simp only at *
  go_enter Tryd.func146, Tryd.ntmps146
  go_wp2_with fail
  refine (HO.out _ ((Below.refl _ _).alloc (Nat.le_refl _) _)).mono ?_
  rintro e w1 ⟨rfl, hb⟩
  obtain ⟨hX, hb1, hz1⟩ := kept_new hb
  obtain ⟨cX, fX⟩ := hcell hX
  clear hb
  go_wp2_with fail
  refine (PK.out _).mono ?_
  rintro e w2 ⟨rfl, hb⟩
  clear cX fX
  obtain ⟨hY, hb2, hz2⟩ := kept_new hb
  have hX2 := (hb2.block _ (lt_of_heap hX)).trans hX
  have hb3 := hb1.trans (hb2.mono hb1.size)
  have hzz := hb1.size
  obtain ⟨cX, fX⟩ := hcell hX2
  obtain ⟨cY, fY⟩ := hcell hY
  clear hb hX hb1 hb2
  generalize w1.heap.size = q1 at *
  go_wp2_with fail
  go_ret
  exact ⟨rfl, hb3⟩

set_option maxRecDepth 100000 in
set_option maxHeartbeats 4000000 in
theorem rsetHead_ptrs (r : Nat) (c : Int → Nat) (A : Ar) (i : Int) (g : Hd) (w : World) (h : RfAt w r c A) (ok : A.Ok) (ho : A.isObj i = true) (hc : chk g = 0) (hp : ¬ (A.hd i).ptrs = g.ptrs) :
    Calls Tryd.prog 146 #[.pointer (some ⟨r, 0, none⟩), .int .i64 i, g.val] w fun e w' => e = .returned (.bool false) ∧ Below w.heap.size w w' := by
  have HO := Lib.hid (fun (W : World) (hb : Below w.heap.size w W) => rhead_any r c A i W (h.below hb) ok)
  have PK := Lib.hid (fun (W : World) => rpack_any g W)
  rw [ho] at HO
  rw [hc] at PK
  have hp2 : ((A.hd i).ptrs == g.ptrs) = false := by simpa using hp
  have hp1 : ((A.hd i).ptrs != g.ptrs) = true := by simpa using hp
  clear ho hp hc
  generalize A.hd i = k at *
  generalize pack g = x at *
  generalize chk g = e0 at *
  clear h ok
  obtain ⟨x0, x1, x2, x3, x4, x5, x6⟩ := g
  obtain ⟨y0, y1, y2, y3, y4, y5, y6⟩ := k
  unfold Hd.val at *
  simp only at *
  go_enter Tryd.func146, Tryd.ntmps146
  go_wp2_with fail
  refine (HO.out _ ((Below.refl _ _).alloc (Nat.le_refl _) _)).mono ?_
  rintro e w1 ⟨rfl, hb⟩
  obtain ⟨hX, hb1, hz1⟩ := kept_new hb
  obtain ⟨cX, fX⟩ := hcell hX
  clear hb
  go_wp2_with fail
  refine (PK.out _).mono ?_
  rintro e w2 ⟨rfl, hb⟩
  clear cX fX
  obtain ⟨hY, hb2, hz2⟩ := kept_new hb
  have hX2 := (hb2.block _ (lt_of_heap hX)).trans hX
  have hb3 := hb1.trans (hb2.mono hb1.size)
  have hzz := hb1.size
  obtain ⟨cX, fX⟩ := hcell hX2
  obtain ⟨cY, fY⟩ := hcell hY
  clear hb hX hb1 hb2
  generalize w1.heap.size = q1 at *
  go_wp2_with fail
  go_ret
  exact ⟨rfl, hb3⟩

set_option maxRecDepth 100000 in
set_option maxHeartbeats 4000000 in
theorem rsetHead_raws (r : Nat) (c : Int → Nat) (A : Ar) (i : Int) (g : Hd) (w : World) (h : RfAt w r c A) (ok : A.Ok) (ho : A.isObj i = true) (hc : chk g = 0) (hp : (A.hd i).ptrs = g.ptrs) (hr : ¬ (A.hd i).raws = g.raws) :
    Calls Tryd.prog 146 #[.pointer (some ⟨r, 0, none⟩), .int .i64 i, g.val] w fun e w' => e = .returned (.bool false) ∧ Below w.heap.size w w' := by
  have HO := Lib.hid (fun (W : World) (hb : Below w.heap.size w W) => rhead_any r c A i W (h.below hb) ok)
  have PK := Lib.hid (fun (W : World) => rpack_any g W)
  rw [ho] at HO
  rw [hc] at PK
  have hr2 : ((A.hd i).raws == g.raws) = false := by simpa using hr
  have hr1 : ((A.hd i).raws != g.raws) = true := by simpa using hr
  clear ho hr hc
  generalize A.hd i = k at *
  generalize pack g = x at *
  generalize chk g = e0 at *
  clear h ok
  obtain ⟨x0, x1, x2, x3, x4, x5, x6⟩ := g
  obtain ⟨y0, y1, y2, y3, y4, y5, y6⟩ := k
  unfold Hd.val at *
  simp only at *
  subst hp
  go_enter Tryd.func146, Tryd.ntmps146
  go_wp2_with fail
  refine (HO.out _ ((Below.refl _ _).alloc (Nat.le_refl _) _)).mono ?_
  rintro e w1 ⟨rfl, hb⟩
  obtain ⟨hX, hb1, hz1⟩ := kept_new hb
  obtain ⟨cX, fX⟩ := hcell hX
  clear hb
  go_wp2_with fail
  refine (PK.out _).mono ?_
  rintro e w2 ⟨rfl, hb⟩
  clear cX fX
  obtain ⟨hY, hb2, hz2⟩ := kept_new hb
  have hX2 := (hb2.block _ (lt_of_heap hX)).trans hX
  have hb3 := hb1.trans (hb2.mono hb1.size)
  have hzz := hb1.size
  obtain ⟨cX, fX⟩ := hcell hX2
  obtain ⟨cY, fY⟩ := hcell hY
  clear hb hX hb1 hb2
  generalize w1.heap.size = q1 at *
  go_wp2_with fail
  go_ret
  exact ⟨rfl, hb3⟩

set_option maxRecDepth 100000 in
set_option maxHeartbeats 4000000 in
theorem rsetHead_yes (r : Nat) (c : Int → Nat) (A : Ar) (i : Int) (g : Hd) (w : World) (h : RfAt w r c A) (ok : A.Ok) (f : Fine g) (sv : 0 ≤ g.ser ∧ g.ser < 18446744073709551616) (ho : A.isObj i = true) (hp : (A.hd i).ptrs = g.ptrs) (hr : (A.hd i).raws = g.raws) :
    Calls Tryd.prog 146 #[.pointer (some ⟨r, 0, none⟩), .int .i64 i, g.val] w fun e w' => e = .returned (.bool true) ∧ RfAt w' r c ((A.put i (enc g)).put (i + 1) g.ser) ∧ Only (rfp r c) w w' := by
  have HO := Lib.hid (fun (W : World) (hb : Below w.heap.size w W) => rhead_any r c A i W (h.below hb) ok)
  have PK := Lib.hid (fun (W : World) => rpack_yes g W f)
  have eb := enc_bd f
  obtain ⟨b1, b2, b3, b4, b5, b6, b7⟩ := hd_bd ok ho
  have eo := Ar.osz_hd ho
  obtain ⟨s1, s2⟩ := Ar.space_in ok (j := 0) ho (by omega) (by omega)
  obtain ⟨s3, s4⟩ := Ar.space_in ok (j := 1) ho (by omega) (by omega)
  rw [Int.add_zero] at s1
  have S1 := Lib.hid (fun (W : World) (hb : Below w.heap.size w W) => rsetWord_yes r c A i (enc g) W (h.below hb) ok ⟨eb.1, by omega⟩ s2)
  have S2 := Lib.hid (fun (W : World) (hR : RfAt W r c (A.put i (enc g))) => rsetWord_yes r c _ (i + 1) g.ser W hR (ok.putI i ⟨eb.1, by omega⟩) sv (by rw [Ar.space_put, s3]; exact s2))
  have LT := Lib.hid h.lt
  have i1 : i < 1000000 := by omega
  rw [ho] at HO
  clear h ok f ho s1 s2 s3 s4 eo b2 b3 b4 b5
  generalize A.hd i = k at *
  generalize enc g = x at *
  generalize A.put i x = A1 at *
  generalize (A.words.length : Int) = n at *
  obtain ⟨x0, x1, x2, x3, x4, x5, x6⟩ := g
  obtain ⟨y0, y1, y2, y3, y4, y5, y6⟩ := k
  unfold Hd.val at *
  simp only at *
  subst hp
  subst hr
  go_enter Tryd.func146, Tryd.ntmps146
  go_wp2_with fail
  refine (HO.out _ ((Below.refl _ _).alloc (Nat.le_refl _) _)).mono ?_
  rintro e w1 ⟨rfl, hb⟩
  obtain ⟨hX, hb1, hz1⟩ := kept_new hb
  obtain ⟨cX, fX⟩ := hcell hX
  clear hb
  go_wp2_with fail
  refine (PK.out _).mono ?_
  rintro e w2 ⟨rfl, hb⟩
  clear cX fX
  obtain ⟨hY, hb2, hz2⟩ := kept_new hb
  have hX2 := (hb2.block _ (lt_of_heap hX)).trans hX
  have hb3 := hb1.trans (hb2.mono hb1.size)
  have hzz := hb1.size
  obtain ⟨cX, fX⟩ := hcell hX2
  obtain ⟨cY, fY⟩ := hcell hY
  clear hb hX hb1 hb2
  generalize w1.heap.size = q1 at *
  go_wp2_with fail
  refine (S1.out _ hb3).mono ?_
  rintro e w3 ⟨rfl, hR, hO⟩
  have hX3 := hO.new hX2 LT.out
  obtain ⟨cX, fX⟩ := hcell hX3
  clear hX2 hY cY fY
  go_wp2_with fail
  refine (S2.out _ hR).mono ?_
  rintro e w4 ⟨rfl, hR2, hO2⟩
  go_wp2_with fail
  go_ret
  exact ⟨rfl, hR2, ((Only.of_below hb3).trans hO).trans hO2⟩
theorem rsetHead_any (r : Nat) (c : Int → Nat) (A : Ar) (i : Int) (g : Hd) (w : World) (h : RfAt w r c A) (ok : A.Ok) (sv : 0 ≤ g.ser ∧ g.ser < 18446744073709551616) :
    Calls Tryd.prog 146 #[.pointer (some ⟨r, 0, none⟩), .int .i64 i, g.val] w fun e w' => e = .returned (.bool (A.setHeadOk i g)) ∧ RfAt w' r c (A.setHead i g) ∧ Only (rfp r c) w w' := by
  unfold Ar.setHead
  by_cases ho : A.isObj i = true
  · by_cases hc : chk g = 0
    · by_cases hp : (A.hd i).ptrs = g.ptrs
      · by_cases hr : (A.hd i).raws = g.raws
        · have e1 : A.setHeadOk i g = true := by unfold Ar.setHeadOk; rw [ho, decide_eq_true hc, decide_eq_true hp.symm, decide_eq_true hr.symm]; rfl
          rw [e1, if_pos rfl]
          exact rsetHead_yes r c A i g w h ok ((chk_iff g).1 hc) sv ho hp hr
        · have e1 : A.setHeadOk i g = false := by unfold Ar.setHeadOk; rw [decide_eq_false (show ¬ g.raws = (A.hd i).raws from fun e => hr e.symm)]; simp
          rw [e1, if_neg (by decide)]
          exact (rsetHead_raws r c A i g w h ok ho hc hp hr).mono fun e w' ⟨h1, h2⟩ => ⟨h1, h.below h2, Only.of_below h2⟩
      · have e1 : A.setHeadOk i g = false := by unfold Ar.setHeadOk; rw [decide_eq_false (show ¬ g.ptrs = (A.hd i).ptrs from fun e => hp e.symm)]; simp
        rw [e1, if_neg (by decide)]
        exact (rsetHead_ptrs r c A i g w h ok ho hc hp).mono fun e w' ⟨h1, h2⟩ => ⟨h1, h.below h2, Only.of_below h2⟩
    · have e1 : A.setHeadOk i g = false := by unfold Ar.setHeadOk; rw [decide_eq_false hc]; simp
      rw [e1, if_neg (by decide)]
      exact (rsetHead_chk r c A i g w h ok ho hc).mono fun e w' ⟨h1, h2⟩ => ⟨h1, h.below h2, Only.of_below h2⟩
  · have ho' : A.isObj i = false := by simpa using ho
    have e1 : A.setHeadOk i g = false := by unfold Ar.setHeadOk; rw [ho']; rfl
    rw [e1, if_neg (by decide)]
    exact (rsetHead_nil r c A i g w h ok ho').mono fun e w' ⟨h1, h2⟩ => ⟨h1, h.below h2, Only.of_below h2⟩

theorem Ar.space_iff {A : Ar} (ok : A.Ok) (i : Int) : A.space i ≠ 0 ↔ 1 ≤ i ∧ i < (A.words.length : Int) := by
  constructor
  · intro h
    obtain ⟨h1, h2, h3, h4, h5⟩ := Ar.space_bd ok h
    exact ⟨h4, h5⟩
  · intro ⟨h1, h2⟩
    have l := ok.len
    unfold Cfg.size at l
    unfold Ar.space
    rw [if_neg (by omega)]
    repeat' split
    all_goals first | decide | omega
def Ar.setwOk (A : Ar) (i : Int) : Bool := decide (1 ≤ i ∧ i < (A.words.length : Int))
def Ar.setw (A : Ar) (i v : Int) : Ar := if A.setwOk i then A.put i v else A
theorem rsetWord_any (r : Nat) (c : Int → Nat) (A : Ar) (i v : Int) (w : World) (h : RfAt w r c A) (ok : A.Ok) (hv : 0 ≤ v ∧ v < 18446744073709551616) : Calls Tryd.prog 148 #[.pointer (some ⟨r, 0, none⟩), .int .i64 i, .int .u64 v] w fun e w' => e = .returned (.bool (A.setwOk i)) ∧ RfAt w' r c (A.setw i v) ∧ Only (rfp r c) w w' := by
  unfold Ar.setw
  by_cases h0 : 1 ≤ i ∧ i < (A.words.length : Int)
  · have e1 : A.setwOk i = true := decide_eq_true h0
    rw [e1, if_pos rfl]
    exact rsetWord_yes r c A i v w h ok hv ((Ar.space_iff ok i).2 h0)
  · have e1 : A.setwOk i = false := decide_eq_false h0
    rw [e1, if_neg (by decide)]
    have q : A.space i = 0 := Decidable.byContradiction fun q => h0 ((Ar.space_iff ok i).1 q)
    refine (rsetWord_no r c A i v w h ok q).mono fun e w' ⟨h1, m, h2⟩ => ?_
    have hb : Below w.heap.size w w' := by rw [h2]; exact below_drewN (Below.refl _ _) m
    exact ⟨h1, h.below hb, .of_below hb⟩
theorem setWord_any (b wb : Nat) (A : Ar) (i v : Int) (w : World) (h : ArAt w b wb A) : Calls Tryd.prog 50 #[.pointer (some ⟨b, 0, none⟩), .int .i64 i, .int .u64 v] w fun e w' => e = .returned (.bool (A.setwOk i)) ∧ ArAt w' b wb (A.setw i v) ∧ Only [b, wb] w w' := by
  unfold Ar.setw
  by_cases h0 : 1 ≤ i ∧ i < (A.words.length : Int)
  · have e1 : A.setwOk i = true := decide_eq_true h0
    rw [e1, if_pos rfl]
    exact setWord_yes b wb A i v w h h0.1 h0.2
  · have e1 : A.setwOk i = false := decide_eq_false h0
    rw [e1, if_neg (by decide)]
    exact (setWord_no b wb A i v w h h0).mono fun e w' ⟨h1, h2⟩ => ⟨h1, h2 ▸ h, h2 ▸ .refl _ _⟩
def Ar.takeOk (A : Ar) (s n : Int) : Bool := isSp s && decide (1 ≤ n ∧ n ≤ A.free s)
theorem Ar.takeOk_iff {A : Ar} {s n : Int} : A.takeOk s n = true ↔ isSp s = true ∧ 1 ≤ n ∧ n ≤ A.free s := by unfold Ar.takeOk; simp
theorem rtake_any (r : Nat) (c : Int → Nat) (A : Ar) (s n : Int) (w : World) (h : RfAt w r c A) (ok : A.Ok) : Calls Tryd.prog 143 #[.pointer (some ⟨r, 0, none⟩), .int .i64 s, .int .i64 n] w fun e w' => e = .returned (.tuple #[.int .i64 (if A.takeOk s n then A.top s else 0), .bool (A.takeOk s n)]) ∧ RfAt w' r c (if A.takeOk s n then A.take s n else A) ∧ Only (rfp r c) w w' := by
  cases e : A.takeOk s n with
  | true =>
    obtain ⟨h1, h2, h3⟩ := Ar.takeOk_iff.1 e
    rw [if_pos rfl, if_pos rfl]
    exact rtake_yes r c A s n w h ok h1 h2 h3
  | false =>
    rw [if_neg (by decide), if_neg (by decide)]
    exact (rtake_no r c A s n w h ok (fun q => by rw [Ar.takeOk_iff.2 q] at e; cases e)).mono fun e w' ⟨h1, h2⟩ => ⟨h1, h.below h2, Only.of_below h2⟩
theorem atake_any (b wb : Nat) (A : Ar) (s n : Int) (w : World) (h : ArAt w b wb A) (ok : A.Ok) : Calls Tryd.prog 48 #[.pointer (some ⟨b, 0, none⟩), .int .i64 s, .int .i64 n] w fun e w' => e = .returned (.tuple #[.int .i64 (if A.takeOk s n then A.top s else 0), .bool (A.takeOk s n)]) ∧ ArAt w' b wb (if A.takeOk s n then A.take s n else A) ∧ Only [b, wb] w w' := by
  cases e : A.takeOk s n with
  | true =>
    obtain ⟨h1, h2, h3⟩ := Ar.takeOk_iff.1 e
    rw [if_pos rfl, if_pos rfl]
    exact take_yes b wb A s n w h ok h1 h2 h3
  | false =>
    rw [if_neg (by decide), if_neg (by decide)]
    exact (take_no b wb A s n w h ok (fun q => by rw [Ar.takeOk_iff.2 q] at e; cases e)).mono fun e w' ⟨h1, h2⟩ => ⟨h1, h.below h2, Only.of_below h2⟩
/-- Each write keeps an arena sound. -/
theorem Ar.Ok.setTop {A : Ar} (ok : A.Ok) {s t : Int} (hs : isSp s = true) (h1 : A.first s ≤ t) (h2 : t ≤ A.behind s) : (A.setTop s t).Ok := by
  obtain ⟨cv, len, rng, a1, b1, a2, b2, a3, b3, a4, b4, fr⟩ := ok
  rcases sp_cases hs with rfl | rfl | rfl | rfl <;> simp [Ar.first, Ar.behind] at h1 h2 <;> exact ⟨cv, len, rng, by simp [Ar.setTop]; omega, by simp [Ar.setTop]; omega, by simp [Ar.setTop]; omega, by simp [Ar.setTop]; omega, by simp [Ar.setTop]; omega, by simp [Ar.setTop]; omega, by simp [Ar.setTop]; omega, by simp [Ar.setTop]; omega, fr⟩
theorem Ar.Ok.swap {A : Ar} (ok : A.Ok) : ({ A with frm := A.to } : Ar).Ok := by
  obtain ⟨cv, len, rng, a1, b1, a2, b2, a3, b3, a4, b4, fr⟩ := ok
  refine ⟨cv, len, rng, a1, b1, a2, b2, a3, b3, a4, b4, ?_⟩
  show A.to = 2 ∨ A.to = 3
  unfold Ar.to; omega
end Go.Proofs.YtomgfdfgildkbaaDoor
