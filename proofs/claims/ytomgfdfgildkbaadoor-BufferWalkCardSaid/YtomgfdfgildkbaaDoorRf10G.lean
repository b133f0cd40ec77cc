/- The document's arena (middenref3): Cut, Swap, Take. -/
import Derived.Test.YtomgfdfgildkbaaDoorRf9G
namespace Go.Proofs.YtomgfdfgildkbaaDoor
open Go.RowKit Go.BigFrame

theorem Ar.seg_setTop (A : Ar) (s t s' : Int) : (A.setTop s t).seg s' = A.seg s' := by
  unfold Ar.setTop
  repeat' split
  all_goals rfl
theorem Ar.word_setTop (A : Ar) (s t i : Int) : (A.setTop s t).word i = A.word i := by
  unfold Ar.setTop
  repeat' split
  all_goals rfl
theorem rfCells_setTop (A : Ar) (c : Int → Nat) {s : Int} (t : Int) (hs : isSp s = true) : (rfCells A c).setIfInBounds (19 + s.toNat) (.int .i64 (t - A.first s)) = rfCells (A.setTop s t) c := by
  rcases sp_cases hs with rfl | rfl | rfl | rfl <;> rfl
theorem RfAt.setTop {w : World} {r : Nat} {c : Int → Nat} {A : Ar} (h : RfAt w r c A) {s : Int} (hs : isSp s = true) (t : Int) : RfAt (w.setCell ⟨r, 19 + s.toNat, none⟩ (.int .i64 (t - A.first s))) r c (A.setTop s t) := by
  refine ⟨?_, fun s' hs' => ?_, h.nb, h.nn, ?_⟩
  · rw [block_set h.st, rfCells_setTop A c t hs]
  · rw [Ar.seg_setTop, block_set_ne (h.nb _ hs')]
    exact h.ws s' hs'
  · rw [Ar.word_setTop]; exact h.z0
theorem RfAt.swap {w : World} {r : Nat} {c : Int → Nat} {A : Ar} (h : RfAt w r c A) (t : Int) : RfAt (w.setCell ⟨r, 24, none⟩ (.int .i64 t)) r c { A with frm := t } := by
  refine ⟨?_, fun s' hs' => ?_, h.nb, h.nn, h.z0⟩
  · rw [block_set h.st]; rfl
  · rw [block_set_ne (h.nb _ hs')]; exact h.ws s' hs'
set_option maxRecDepth 100000 in
set_option maxHeartbeats 4000000 in
theorem rcut_any (r : Nat) (c : Int → Nat) (A : Ar) (s t : Int) (w : World) (h : RfAt w r c A) (ok : A.Ok) : Calls Tryd.prog 130 #[.pointer (some ⟨r, 0, none⟩), .int .i64 s, .int .i64 t] w fun e w' => e = .returned (.bool (A.cuts s t)) ∧ RfAt w' r c (if A.cuts s t = true then A.setTop s t else A) ∧ Only (rfp r c) w w' := by
  have BO := Lib.hid (fun (W : World) (hb : Below w.heap.size w W) => (rbounds_any r c A s W (h.below hb) ok).mono (R' := fun e w' => e = .returned (.tuple #[.int .i64 (A.first s), .int .i64 (A.behind s)]) ∧ Below w.heap.size w w') fun e w' ⟨h1, m, h2⟩ => ⟨h1, by rw [h2]; exact below_drewN hb m⟩)
  have IS := Lib.hid (fun (W : World) => rspace_any s W)
  have TO := Lib.hid (fun (W : World) (hb : Below w.heap.size w W) => Bm hb (rtop_any r c A s W (h.below hb) ok))
  unfold Ar.cuts inB
  cases hs : isSp s with
  | false =>
    rw [hs] at IS
    have hd : (false && decide (A.first s ≤ t ∧ t ≤ A.top s)) = false := rfl
    rw [hd, if_neg (by decide)]
    have FI := Lib.hid (fun (W : World) (hb : Below w.heap.size w W) => (⟨h.below hb, .of_below hb⟩ : RfAt W r c A ∧ Only (rfp r c) w W))
    clear h ok TO hd
    generalize A.first s = fi at *
    generalize A.behind s = be at *
    go_enter Tryd.func130, Tryd.ntmps130
    go_wp2_with fail
    refine (BO.out _ (Below.refl _ _)).mono ?_
    rintro e w1 ⟨rfl, b1⟩
    go_wp2_with fail
    refine (IS.out _).mono ?_
    rintro e w2 ⟨rfl, rfl⟩
    go_wp2_with fail
    go_ret
    exact ⟨rfl, FI.out _ b1⟩
  | true =>
    rw [hs] at IS
    by_cases h1 : t < A.first s
    · have d1 : decide (t < A.first s) = true := by simpa using h1
      have hd : (true && decide (A.first s ≤ t ∧ t ≤ A.top s)) = false := by simp; omega
      rw [hd, if_neg (by decide)]
      have FI := Lib.hid (fun (W : World) (hb : Below w.heap.size w W) => (⟨h.below hb, .of_below hb⟩ : RfAt W r c A ∧ Only (rfp r c) w W))
      clear h ok TO hd h1
      generalize A.first s = fi at *
      generalize A.behind s = be at *
      go_enter Tryd.func130, Tryd.ntmps130
      go_wp2_with fail
      refine (BO.out _ (Below.refl _ _)).mono ?_
      rintro e w1 ⟨rfl, b1⟩
      go_wp2_with fail
      refine (IS.out _).mono ?_
      rintro e w2 ⟨rfl, rfl⟩
      go_wp2_with fail
      go_ret
      exact ⟨rfl, FI.out _ b1⟩
    · have d1 : decide (t < A.first s) = false := by simpa using h1
      by_cases h2 : A.top s < t
      · have d2 : decide (A.top s < t) = true := by simpa using h2
        have hd : (true && decide (A.first s ≤ t ∧ t ≤ A.top s)) = false := by simp; omega
        rw [hd, if_neg (by decide)]
        have FI := Lib.hid (fun (W : World) (hb : Below w.heap.size w W) => (⟨h.below hb, .of_below hb⟩ : RfAt W r c A ∧ Only (rfp r c) w W))
        clear h ok hd h1 h2
        generalize A.first s = fi at *
        generalize A.behind s = be at *
        generalize A.top s = tp at *
        go_enter Tryd.func130, Tryd.ntmps130
        go_wp2_with fail
        refine (BO.out _ (Below.refl _ _)).mono ?_
        rintro e w1 ⟨rfl, b1⟩
        go_wp2_with fail
        refine (IS.out _).mono ?_
        rintro e w2 ⟨rfl, rfl⟩
        go_wp2_with fail
        refine (TO.out _ b1).mono ?_
        rintro e w3 ⟨rfl, b2⟩
        go_wp2_with fail
        go_ret
        exact ⟨rfl, FI.out _ b2⟩
      · have d2 : decide (A.top s < t) = false := by simpa using h2
        have hd : (true && decide (A.first s ≤ t ∧ t ≤ A.top s)) = true := by simp; omega
        rw [hd, if_pos rfl]
        have FI := Lib.hid (fun (W : World) (hb : Below w.heap.size w W) => (⟨(h.below hb).setTop hs t, (Only.of_below hb).setCell (p := ⟨r, 19 + s.toNat, none⟩) rfp_r (.int .i64 (t - A.first s))⟩ : RfAt (W.setCell ⟨r, 19 + s.toNat, none⟩ (.int .i64 (t - A.first s))) r c (A.setTop s t) ∧ Only (rfp r c) w (W.setCell ⟨r, 19 + s.toNat, none⟩ (.int .i64 (t - A.first s)))))
        have SP := Lib.hid (fun (W : World) (hb : Below w.heap.size w W) => (⟨((h.below hb).sp hs).2, (hcell (h.below hb).st).2⟩ : _ ∧ _))
        have hz := ok.sizes s
        have hs' := sp_cases hs
        have s0 : (0 : Int) ≤ s := by omega
        have s5 : s < (5 : Int) := by omega
        clear h ok hd
        generalize A.setTop s t = A' at *
        generalize A.first s = fi at *
        generalize A.behind s = be at *
        generalize A.top s = tp at *
        go_enter Tryd.func130, Tryd.ntmps130
        go_wp2_with fail
        refine (BO.out _ (Below.refl _ _)).mono ?_
        rintro e w1 ⟨rfl, b1⟩
        go_wp2_with fail
        refine (IS.out _).mono ?_
        rintro e w2 ⟨rfl, rfl⟩
        go_wp2_with fail
        refine (TO.out _ b1).mono ?_
        rintro e w3 ⟨rfl, b2⟩
        obtain ⟨cu, cf⟩ := SP.out _ b2
        go_wp2_with fail
        go_ret
        exact ⟨rfl, FI.out _ b2⟩
set_option maxRecDepth 100000 in
set_option maxHeartbeats 4000000 in
theorem rswap_any (r : Nat) (c : Int → Nat) (A : Ar) (w : World) (h : RfAt w r c A) (ok : A.Ok) : Calls Tryd.prog 144 #[.pointer (some ⟨r, 0, none⟩)] w fun e w' => e = .returned (.tuple #[]) ∧ RfAt w' r c { A with frm := A.to } ∧ Only (rfp r c) w w' := by
  have TT := Lib.hid (rto_any r c A w h ok)
  have FI := Lib.hid (⟨h.swap A.to, (Only.refl (rfp r c) w).setCell (p := ⟨r, 24, none⟩) rfp_r (.int .i64 A.to)⟩ : _ ∧ _)
  obtain ⟨cc, ff⟩ := hcell h.st
  unfold rfCells at cc
  clear h ok
  generalize A.to = t at *
  go_enter Tryd.func144, Tryd.ntmps144
  go_wp2_with fail
  refine TT.out.mono ?_
  rintro e w1 ⟨rfl, rfl⟩
  go_wp2_with fail
  go_end0
  exact ⟨rfl, FI.out⟩
theorem zeroAt_get {l : List Int} {o n : Nat} (h : o + n ≤ l.length) (j : Nat) : (zeroAt l o n)[j]? = if o ≤ j ∧ j < o + n then some 0 else l[j]? := by
  unfold zeroAt
  have e1 : (l.take o ++ List.replicate n 0).length = o + n := by simp; omega
  have e0 : (l.take o).length = o := by simp; omega
  by_cases h1 : j < o
  · rw [if_neg (by omega), List.getElem?_append_left (by omega), List.getElem?_append_left (by omega), List.getElem?_take, if_pos h1]
  · by_cases h2 : j < o + n
    · rw [if_pos ⟨by omega, h2⟩, List.getElem?_append_left (by omega), List.getElem?_append_right (by omega), List.getElem?_replicate, if_pos (by omega)]
    · rw [if_neg (by omega), List.getElem?_append_right (by omega), List.getElem?_drop, e1]
      congr 1
      omega
/-- k words at a space's top zeroed. -/
def Ar.zer (A : Ar) (s : Int) (k : Nat) : Ar := { A with words := zeroAt A.words (A.top s).toNat k }
theorem Ar.zer_zero (A : Ar) (s : Int) : A.zer s 0 = A := by unfold Ar.zer; rw [show zeroAt A.words (A.top s).toNat 0 = A.words by simp [zeroAt]]
theorem Ar.zer_succ (A : Ar) (s : Int) (k : Nat) (t0 : 0 ≤ A.top s) (h : (A.top s).toNat + (k + 1) ≤ A.words.length) : (A.zer s k).put (A.top s + k) 0 = A.zer s (k + 1) := by
  show ({ A with words := (zeroAt A.words (A.top s).toNat k).set (A.top s + k).toNat 0 } : Ar) = { A with words := zeroAt A.words (A.top s).toNat (k + 1) }
  congr 1
  apply List.ext_getElem?
  intro j
  have hl : (zeroAt A.words (A.top s).toNat k).length = A.words.length := zeroAt_length (by omega)
  rw [zeroAt_get h, List.getElem?_set, zeroAt_get (by omega), hl]
  by_cases e : (A.top s + k).toNat = j
  · rw [if_pos e, if_pos (by omega), if_pos (by omega)]
  · rw [if_neg e]
    by_cases e2 : (A.top s).toNat ≤ j ∧ j < (A.top s).toNat + k
    · rw [if_pos e2, if_pos (by omega)]
    · rw [if_neg e2, if_neg (by omega)]
theorem Ar.Ok.zer {A : Ar} (ok : A.Ok) (s : Int) (k : Nat) (h : (A.top s).toNat + k ≤ A.words.length) : (A.zer s k).Ok := by
  obtain ⟨cv, len, rng, a1, b1, a2, b2, a3, b3, a4, b4, fr⟩ := ok
  refine ⟨cv, ?_, fun x hx => ?_, a1, b1, a2, b2, a3, b3, a4, b4, fr⟩
  · show ((zeroAt A.words (A.top s).toNat k).length : Int) = _
    rw [zeroAt_length h]; exact len
  · rcases zeroAt_mem hx with e | e
    · subst e; decide
    · exact rng x e
theorem Ar.take_zer (A : Ar) (s n : Int) : A.take s n = (A.zer s n.toNat).setTop s (A.top s + n) := rfl
set_option maxRecDepth 100000 in
set_option maxHeartbeats 8000000 in
theorem rtake_yes (r : Nat) (c : Int → Nat) (A : Ar) (s n : Int) (w : World) (h : RfAt w r c A) (ok : A.Ok) (hs : isSp s = true) (h1 : 1 ≤ n) (h2 : n ≤ A.free s) : Calls Tryd.prog 143 #[.pointer (some ⟨r, 0, none⟩), .int .i64 s, .int .i64 n] w fun e w' => e = .returned (.tuple #[.int .i64 (A.top s), .bool true]) ∧ RfAt w' r c (A.take s n) ∧ Only (rfp r c) w w' := by
  have IS := Lib.hid (fun (W : World) => rspace_any s W)
  rw [hs] at IS
  have FR := Lib.hid (fun (W : World) (hb : Below w.heap.size w W) => Bm hb (rfree_any r c A s W (h.below hb) ok))
  have TO := Lib.hid (fun (W : World) (hb : Below w.heap.size w W) => Bm hb (rtop_any r c A s W (h.below hb) ok))
  have hz := ok.sizes s
  have bf := A.behind_first hs
  have len := ok.tops
  have hfree : A.free s = A.behind s - A.top s := rfl
  have hbl : A.behind s ≤ (A.words.length : Int) := by
    have l := ok.len
    obtain ⟨e0, e1, s0, s1, t0, t1⟩ := Cfg.bd ok.cv
    unfold Cfg.size at l
    rcases sp_cases hs with rfl | rfl | rfl | rfl <;> simp [Ar.behind] <;> omega
  have hs' := sp_cases hs
  have s0 : (0 : Int) ≤ s := by omega
  have s5 : s < (5 : Int) := by omega
  have d1 : decide (n < 1) = false := by simp; omega
  have d2 : decide (A.free s < n) = false := by simp; omega
  have STEP := Lib.hid (fun (k : Nat) (hk : (k : Int) < n) (W : World) (hR : RfAt W r c (A.zer s k)) => (⟨hR.sp hs |>.1, hR.sp hs |>.2, (hcell hR.st).2, (hcell (hR.ws s hs)).2, hR.wd (ok.zer s k (by omega)) hs (i := A.top s + k) (show A.first s ≤ _ by omega) (show _ < A.behind s by omega), h.nb s hs⟩ : _ ∧ _ ∧ _ ∧ _ ∧ _ ∧ _))
  have PUT := Lib.hid (fun (k : Nat) (hk : (k : Int) < n) (W : World) (hR : RfAt W r c (A.zer s k)) => (show RfAt (W.setCell ⟨c s, (A.top s - A.first s + k).toNat, none⟩ (.int .u64 0)) r c (A.zer s (k + 1)) by
    have e : (A.zer s k).space (A.top s + k) = s := Ar.space_eq (ok.zer s k (by omega)) hs (show A.first s ≤ _ by omega) (show _ < A.behind s by omega)
    have q := hR.put (ok.zer s k (by omega)) (i := A.top s + k) (v := 0) (by decide) (by rw [e]; omega)
    rw [e, Ar.zer_succ A s k (by omega) (by omega)] at q
    have e2 : A.top s + k - (A.zer s k).first s = A.top s - A.first s + k := by show A.top s + k - A.first s = _; omega
    rw [e2] at q
    exact q))
  have START := Lib.hid (fun (W : World) (hb : Below w.heap.size w W) => (by rw [Ar.zer_zero]; exact h.below hb : RfAt W r c (A.zer s 0)))
  have FIN := Lib.hid (fun (W : World) (hR : RfAt W r c (A.zer s n.toNat)) => (show RfAt (W.setCell ⟨r, 19 + s.toNat, none⟩ (.int .i64 (A.top s - A.first s + n))) r c (A.take s n) by
    have q := hR.setTop hs (A.top s + n)
    rw [show (A.top s + n - (A.zer s n.toNat).first s) = A.top s - A.first s + n by show A.top s + n - A.first s = _; omega] at q
    exact q))
  have FSP := Lib.hid (fun (W : World) (hR : RfAt W r c (A.zer s n.toNat)) => (⟨hR.sp hs |>.2, (hcell hR.st).2⟩ : _ ∧ _))
  have ecf : ∀ k, (A.zer s k).cfg = A.cfg := fun _ => rfl
  have etp : ∀ k, (A.zer s k).top s = A.top s := fun _ => rfl
  have efi : ∀ k, (A.zer s k).first s = A.first s := fun _ => rfl
  simp only [ecf, etp, efi] at STEP FSP
  have hms : c s ∈ rfp r c := mem_rfp hs
  have hzn : ((szOf A.cfg s).toNat : Int) = szOf A.cfg s := by omega
  clear h ok ecf etp efi len hbl
  generalize A.take s n = A' at *
  generalize A.top s = tp at *
  generalize A.first s = fi at *
  generalize A.free s = fr at *
  generalize A.behind s = be at *
  generalize szOf A.cfg s = zs at *
  go_enter Tryd.func143, Tryd.ntmps143
  go_wp2_with fail
  refine (IS.out _).mono ?_
  rintro e w1 ⟨rfl, rfl⟩
  go_wp2_with fail
  refine (FR.out _ (Below.refl _ _)).mono ?_
  rintro e w1 ⟨rfl, b1⟩
  go_wp2_with fail
  refine (TO.out _ b1).mono ?_
  rintro e w2 ⟨rfl, b2⟩
  go_wp2_with fail
  go_loopw [9] (fun iv wx => ∃ k : Nat, (k : Int) ≤ n ∧ iv = .int .i64 k ∧ RfAt wx r c (A.zer s k) ∧ Only (rfp r c) w wx) (fun iv _ => n.toNat - (intOf iv).toNat)
  case atStart => exact ⟨0, by omega, rfl, START.out _ b2, .of_below b2⟩
  case round =>
    obtain ⟨k, hk, rfl, hR, hO⟩ := hrel
    by_cases hlt : (k : Int) < n
    · have dlt : decide ((k : Int) < n) = true := by simpa using hlt
      obtain ⟨q1, q2, q3, q4, q5, q6⟩ := STEP.out k hlt wr hR
      have hR' := PUT.out k hlt wr hR
      have hO' := hO.setCell (p := ⟨c s, (tp - fi + k).toNat, none⟩) hms (.int .u64 0)
      rw [show (tp + (k : Int) - fi) = tp - fi + k by omega] at q5
      have i0 : (0 : Int) ≤ tp - fi + k := by omega
      have i1 : tp - fi + (k : Int) < (zs.toNat : Int) := by omega
      generalize (A.zer s k).word (tp + k) = wv at *
      clear hR STEP PUT START FIN FSP IS FR TO
      go_upto_region 7 with fail
      go_big_region
      go_wp2_with fail
      exact ⟨⟨k + 1, by omega, by go_num, hR'.drewN 1, hO'.drew⟩, by simp [intOf]; omega⟩
    · have dlt : decide ((k : Int) < n) = false := by simpa using hlt
      obtain rfl : k = n.toNat := by omega
      obtain ⟨q2, q3⟩ := FSP.out wr hR
      have hR' := FIN.out wr hR
      have hO' := hO.setCell (p := ⟨r, 19 + s.toNat, none⟩) rfp_r (.int .i64 (tp - fi + n))
      clear hR STEP PUT START FIN FSP IS FR TO
      go_upto_region 8 with fail
      go_big_region
      go_wp2_with fail
      go_ret2
      exact ⟨rfl, hR'.drewN 1, hO'.drew⟩
end Go.Proofs.YtomgfdfgildkbaaDoor
