/- The document's arena (middenref3): SetWord; how its lists change with a word. -/
import Derived.Test.YtomgfdfgildkbaaDoorRf7G
namespace Go.Proofs.YtomgfdfgildkbaaDoor
open Go.RowKit Go.BigFrame

theorem Bl {P : Program} {f : FuncId} {args : Array Value} {w W : World} {v : Value} (hb : Below w.heap.size w W) (h : Calls P f args W fun e w' => e = .returned v ∧ Below W.heap.size W w') : Calls P f args W fun e w' => e = .returned v ∧ Below w.heap.size w w' :=
  h.mono fun _ _ ⟨h1, h2⟩ => ⟨h1, hb.trans (h2.mono hb.size)⟩
theorem Bq {P : Program} {f : FuncId} {args : Array Value} {w W : World} {v : Value} (hb : Below w.heap.size w W) (h : Calls P f args W fun e w' => e = .returned v ∧ W = w') : Calls P f args W fun e w' => e = .returned v ∧ Below w.heap.size w w' :=
  h.mono fun _ _ ⟨h1, h2⟩ => ⟨h1, h2 ▸ hb⟩
theorem Bm {P : Program} {f : FuncId} {args : Array Value} {w W : World} {v : Value} (hb : Below w.heap.size w W) (h : Calls P f args W fun e w' => e = .returned v ∧ ∃ m, w' = W.drewN m) : Calls P f args W fun e w' => e = .returned v ∧ Below w.heap.size w w' :=
  h.mono fun _ _ ⟨h1, m, h2⟩ => ⟨h1, by rw [h2]; exact below_drewN hb m⟩
/-- The blocks that the document's arena may write. -/
def rfp (r : Nat) (c : Int → Nat) : List Nat := [r, c 1, c 2, c 3, c 4]
theorem mem_rfp {r : Nat} {c : Int → Nat} {s : Int} (hs : isSp s = true) : c s ∈ rfp r c := by
  rcases sp_cases hs with rfl | rfl | rfl | rfl <;> simp [rfp]
theorem rfp_r {r : Nat} {c : Int → Nat} : r ∈ rfp r c := by simp [rfp]
theorem Ar.Ok.putI {A : Ar} (ok : A.Ok) (i : Int) {v : Int} (hv : 0 ≤ v ∧ v < 18446744073709551616) : (A.put i v).Ok := ok.put i.toNat hv
theorem Ar.seg_put {A : Ar} (ok : A.Ok) {i v : Int} (hv : 0 ≤ v ∧ v < 18446744073709551616) (h0 : A.space i ≠ 0) {s : Int} (hs : isSp s = true) : (A.put i v).seg s = if s = A.space i then (A.seg s).set (i - A.first s).toNat v else A.seg s := by
  obtain ⟨h1, h2, h3, h4, h5⟩ := Ar.space_bd ok h0
  have l1 := Ar.seg_len (ok.putI i hv) hs
  have l2 := Ar.seg_len ok hs
  have e1 : szOf (A.put i v).cfg s = szOf A.cfg s := rfl
  have e2 : (A.put i v).first s = A.first s := rfl
  have e3 : (A.put i v).words = A.words.set i.toNat v := rfl
  have hz := ok.sizes s
  have hlen := ok.len
  have hb := A.behind_first hs
  have hsn : s ≠ A.space i → i < A.first s ∨ A.behind s ≤ i := fun hn => by
    have b := Cfg.bd ok.cv
    obtain ⟨e0, e1, s0, s1, t0, t1⟩ := b
    rcases sp_cases hs with rfl | rfl | rfl | rfl <;> rcases h1 with q | q | q | q <;> rw [q] at h2 h3 hn <;> first | (exact absurd rfl hn) | (simp [Ar.first, Ar.behind] at h2 h3 ⊢; omega)
  have h2s : s = A.space i → A.first s ≤ i ∧ i < A.behind s := fun e => by rw [e]; exact ⟨h2, h3⟩
  generalize A.space i = t at *
  apply List.ext_getElem?
  intro j
  by_cases hj : j < (szOf A.cfg s).toNat
  · rw [Ar.seg_get (by rw [e1]; exact hj), e3, e2, List.getElem?_set]
    by_cases he : s = t
    · rw [if_pos he, List.getElem?_set, Ar.seg_get hj, l2]
      have := h2s he
      by_cases hij : i.toNat = (A.first s).toNat + j
      · rw [if_pos hij, if_pos (by omega), if_pos (by omega), if_pos (by omega)]
      · rw [if_neg hij, if_neg (by omega)]
    · rw [if_neg he, Ar.seg_get hj]
      have := hsn he
      rw [if_neg (by omega)]
  · rw [List.getElem?_eq_none (by rw [l1, e1]; omega)]
    split
    · rw [List.getElem?_eq_none (by rw [List.length_set, l2]; omega)]
    · rw [List.getElem?_eq_none (by rw [l2]; omega)]
theorem RfAt.put {w : World} {r : Nat} {c : Int → Nat} {A : Ar} (h : RfAt w r c A) (ok : A.Ok) {i v : Int} (hv : 0 ≤ v ∧ v < 18446744073709551616) (h0 : A.space i ≠ 0) :
    RfAt (w.setCell ⟨c (A.space i), (i - A.first (A.space i)).toNat, none⟩ (.int .u64 v)) r c (A.put i v) := by
  obtain ⟨h1, h2, h3, h4, h5⟩ := Ar.space_bd ok h0
  have hs : isSp (A.space i) = true := by rcases h1 with e | e | e | e <;> rw [e] <;> rfl
  refine ⟨?_, fun s hs' => ?_, h.nb, h.nn, ?_⟩
  · rw [block_set_ne (fun e => h.nb _ hs e.symm)]; exact h.st
  · rw [Ar.seg_put ok hv h0 hs']
    by_cases he : s = A.space i
    · rw [if_pos he]
      subst he
      rw [block_set (h.ws _ hs'), u64s_set]
    · rw [if_neg he, block_set_ne (h.nn _ _ hs' hs he)]
      exact h.ws s hs'
  · have hz := h.z0
    unfold Ar.word at hz ⊢
    rw [if_pos (by decide)] at hz ⊢
    show (A.words.set i.toNat v).getD 0 0 = 0
    rw [List.getD_eq_getElem?_getD, List.getElem?_set, if_neg (by omega), ← List.getD_eq_getElem?_getD]
    exact hz
set_option maxRecDepth 100000 in
set_option maxHeartbeats 4000000 in
theorem rsetWord_no (r : Nat) (c : Int → Nat) (A : Ar) (i v : Int) (w : World) (h : RfAt w r c A) (ok : A.Ok) (h0 : A.space i = 0) : Calls Tryd.prog 148 #[.pointer (some ⟨r, 0, none⟩), .int .i64 i, .int .u64 v] w fun e w' => e = .returned (.bool false) ∧ ∃ m, w' = w.drewN m := by
  have SO := Lib.hid (rspaceOf_any r c A i w h ok)
  rw [h0] at SO
  clear h ok h0
  go_enter Tryd.func148, Tryd.ntmps148
  go_wp2_with fail
  refine SO.out.mono ?_
  rintro e w1 ⟨rfl, m, rfl⟩
  go_wp2_with fail
  go_ret
  exact ⟨rfl, m, rfl⟩
set_option maxRecDepth 100000 in
set_option maxHeartbeats 4000000 in
theorem rsetWord_yes (r : Nat) (c : Int → Nat) (A : Ar) (i v : Int) (w : World) (h : RfAt w r c A) (ok : A.Ok) (hv : 0 ≤ v ∧ v < 18446744073709551616) (h0 : A.space i ≠ 0) : Calls Tryd.prog 148 #[.pointer (some ⟨r, 0, none⟩), .int .i64 i, .int .u64 v] w fun e w' => e = .returned (.bool true) ∧ RfAt w' r c (A.put i v) ∧ Only (rfp r c) w w' := by
  have SO := Lib.hid (rspaceOf_any r c A i w h ok)
  obtain ⟨h1, h2, h3, h4, h5⟩ := Ar.space_bd ok h0
  have hs : isSp (A.space i) = true := by rcases h1 with e | e | e | e <;> rw [e] <;> rfl
  have BO := Lib.hid (fun (n : Nat) => (rbounds_any r c A (A.space i) (w.drewN n) (h.drewN n) ok).mono (R' := fun e w' => e = .returned (.tuple #[.int .i64 (A.first (A.space i)), .int .i64 (A.behind (A.space i))]) ∧ ∃ m, w' = w.drewN m) fun e w' ⟨h1, m, h2⟩ => ⟨h1, n + m, by rw [h2]; rw [World.drewN_drewN]⟩)
  have SP := Lib.hid (fun (n : Nat) => ((h.drewN n).sp hs).1)
  have WV := Lib.hid (fun (n : Nat) => (h.drewN n).wd ok hs h2 h3)
  have WF := Lib.hid (fun (n : Nat) => (hcell ((h.drewN n).ws _ hs)).2)
  have PU := Lib.hid (fun (n : Nat) => (⟨(h.drewN n).put ok hv h0, ((Only.refl (rfp r c) w).drewN n).setCell (p := ⟨c (A.space i), (i - A.first (A.space i)).toNat, none⟩) (mem_rfp hs) (.int .u64 v)⟩ : RfAt ((w.drewN n).setCell ⟨c (A.space i), (i - A.first (A.space i)).toNat, none⟩ (.int .u64 v)) r c (A.put i v) ∧ Only (rfp r c) w ((w.drewN n).setCell ⟨c (A.space i), (i - A.first (A.space i)).toNat, none⟩ (.int .u64 v))))
  have bf := A.behind_first hs
  have hz := ok.sizes (A.space i)
  have hz0 : ((A.space i) == 0) = false := by simpa using h0
  clear h ok h0
  generalize A.space i = s at *
  generalize A.first s = fi at *
  generalize A.behind s = be at *
  generalize A.word i = wv at *
  generalize A.put i v = A' at *
  have hzn : ((szOf A.cfg s).toNat : Int) = szOf A.cfg s := by omega
  generalize szOf A.cfg s = zs at *
  have hs' := sp_cases hs
  have s0 : (0 : Int) ≤ s := by omega
  have s5 : s < (5 : Int) := by omega
  have i0 : (0 : Int) ≤ i - fi := by omega
  have i1 : i - fi < (zs.toNat : Int) := by omega
  clear hv
  go_enter Tryd.func148, Tryd.ntmps148
  go_wp2_with fail
  refine SO.out.mono ?_
  rintro e w1 ⟨rfl, m, rfl⟩
  go_wp2_with fail
  refine (BO.out m).mono ?_
  rintro e w1 ⟨rfl, m', rfl⟩
  have cw := SP.out m'
  have cv := WV.out m'
  have cf := WF.out m'
  go_wp2_with fail
  go_ret
  exact ⟨rfl, PU.out m'⟩
end Go.Proofs.YtomgfdfgildkbaaDoor
