/- Merged texts: Ti1, Ti2, Ti3, Ti4, Ti5, Ah1. -/
import Derived.Test.YtomgfdfgildkbaaDoorArenaW12
import Derived.Test.YtomgfdfgildkbaaDoorGe
/- What lies in a space: things one behind another. -/


namespace Go.Proofs.YtomgfdfgildkbaaDoor
set_option linter.unusedVariables false
/-- A thing: where, how many words, an object's header and fields; none: a filler. -/
structure It where
  at_ : Int
  n : Int
  obj : Option (Hd × List Int × List Int)
def Tile (lo hi : Int) : List It → Prop
  | [] => lo = hi
  | x :: l => x.at_ = lo ∧ 1 ≤ x.n ∧ Tile (lo + x.n) hi l
theorem Tile.append {lo hi : Int} {l1 l2 : List It} : Tile lo hi (l1 ++ l2) ↔ ∃ m, Tile lo m l1 ∧ Tile m hi l2 := by
  induction l1 generalizing lo with
  | nil => simp [Tile]
  | cons x l ih =>
    simp only [List.cons_append, Tile, ih]
    constructor
    · rintro ⟨h1, h2, m, h3, h4⟩; exact ⟨m, ⟨h1, h2, h3⟩, h4⟩
    · rintro ⟨m, ⟨h1, h2, h3⟩, h4⟩; exact ⟨h1, h2, m, h3, h4⟩
theorem Tile.le {lo hi : Int} {l : List It} (h : Tile lo hi l) : lo ≤ hi := by
  induction l generalizing lo with
  | nil => simp only [Tile] at h; omega
  | cons x l ih => obtain ⟨h1, h2, h3⟩ := h; have := ih h3; omega
theorem Tile.mem {lo hi : Int} {l : List It} (h : Tile lo hi l) {x : It} (hx : x ∈ l) : lo ≤ x.at_ ∧ 1 ≤ x.n ∧ x.at_ + x.n ≤ hi := by
  induction l generalizing lo with
  | nil => simp at hx
  | cons y l ih =>
    obtain ⟨h1, h2, h3⟩ := h
    rcases List.mem_cons.1 hx with rfl | hx
    · have := h3.le; omega
    · have := ih h3 hx; omega
/-- A thing's words lie in the arena as they are told. -/
def It.In (A : Ar) (x : It) : Prop :=
  match x.obj with
  | none => x.n ≤ 1099511627776 ∧ A.word x.at_ = wordT 3 x.n
  | some (h, ps, rs) => Fine h ∧ (ps.length : Int) = h.ptrs ∧ (rs.length : Int) = h.raws ∧ x.n = 2 + h.ptrs + h.raws ∧ A.word x.at_ = enc h ∧ A.word (x.at_ + 1) = h.ser ∧ (∀ k : Nat, k < ps.length → A.word (x.at_ + 2 + k) = ps.getD k 0) ∧ (∀ k : Nat, k < rs.length → A.word (x.at_ + 2 + h.ptrs + k) = rs.getD k 0)
def It.th (x : It) : Th :=
  match x.obj with
  | none => ⟨x.at_, x.n, nohd, false⟩
  | some (h, _, _) => ⟨x.at_, x.n, h, true⟩
/-- Other words may have changed. -/
theorem It.In.keep {A A' : Ar} {x : It} (h : x.In A) (hn : 1 ≤ x.n) (hk : ∀ i, x.at_ ≤ i → i < x.at_ + x.n → A'.word i = A.word i) : x.In A' := by
  unfold It.In at *
  split at h
  · exact ⟨h.1, (hk _ (by omega) (by omega)).trans h.2⟩
  · obtain ⟨h1, h2, h3, h4, h5, h6, h7, h8⟩ := h
    have := h1.p0; have := h1.r0
    exact ⟨h1, h2, h3, h4, (hk _ (by omega) (by omega)).trans h5, (hk _ (by omega) (by omega)).trans h6, fun k q => (hk _ (by omega) (by omega)).trans (h7 k q), fun k q => (hk _ (by omega) (by omega)).trans (h8 k q)⟩
theorem It.In.isObj {A : Ar} (ok : A.Ok) {s : Int} (hs : isSp s = true) {x : It} {h : Hd} {ps rs : List Int} (e : x.obj = some (h, ps, rs)) (hx : x.In A) (h1 : A.first s ≤ x.at_) (h2 : x.at_ + x.n ≤ A.top s) : A.isObj x.at_ = true ∧ A.osz x.at_ = x.n ∧ A.hd x.at_ = h := by
  unfold It.In at hx
  rw [e] at hx
  obtain ⟨f, q2, q3, q4, q5, q6, q7, q8⟩ := hx
  have := f.p0; have := f.r0
  have hz := ok.sizes s
  have hsp : A.space x.at_ = s := Ar.space_of ok hs h1 (by unfold isSp at hs; have := of_decide_eq_true hs; omega)
  have ho : A.osz x.at_ = x.n := by unfold Ar.osz; rw [q5, dec_enc f]; simp only; omega
  have hi : A.isObj x.at_ = true := by
    unfold Ar.isObj
    rw [hsp, ho, q5, isHd_enc f]
    have s1 : 1 ≤ s := by unfold isSp at hs; exact (of_decide_eq_true hs).1
    simp only [Bool.and_eq_true, decide_eq_true_eq]
    exact ⟨⟨⟨by omega, by omega⟩, trivial⟩, by omega⟩
  refine ⟨hi, ho, ?_⟩
  unfold Ar.hd
  rw [if_pos hi, q5, q6, dec_enc f]
theorem It.In.filler {A : Ar} {s : Int} {x : It} (e : x.obj = none) (hx : x.In A) (hn : 1 ≤ x.n) (h2 : x.at_ + x.n ≤ A.top s) : A.isObj x.at_ = false ∧ A.fw s x.at_ = x.n := by
  unfold It.In at hx
  rw [e] at hx
  obtain ⟨q1, q2⟩ := hx
  have ew : wordT 3 x.n = 3 + 4 * x.n := if_pos ⟨hn, q1⟩
  refine ⟨?_, ?_⟩
  · unfold Ar.isObj isHd
    rw [q2, ew, show (3 + 4 * x.n) % 4 = 3 by omega]
    simp
  · unfold Ar.fw numT
    rw [q2, ew, if_pos (show (3 + 4 * x.n) % 4 = 3 ∧ 1 ≤ (3 + 4 * x.n) / 4 ∧ (3 + 4 * x.n) / 4 ≤ 1099511627776 by omega)]
    rw [if_pos ⟨rfl, by simp only; omega⟩]
    simp only; omega
/-- A space that is tiled is walked thing by thing. -/
theorem things_tile {A : Ar} (ok : A.Ok) {s : Int} (hs : isSp s = true) {lo : Int} {L : List It} (h1 : A.first s ≤ lo) (ht : Tile lo (A.top s) L) (hI : ∀ x ∈ L, x.In A) : A.things s lo = L.map It.th := by
  induction L generalizing lo with
  | nil => simp only [Tile] at ht; rw [Ar.things_end _ (by omega)]; rfl
  | cons x l ih =>
    obtain ⟨e1, e2, e3⟩ := ht
    have hle := e3.le
    have hx := hI x (List.mem_cons_self)
    have hth : A.th s lo = x.th := by
      subst e1
      unfold Ar.th It.th
      rcases e : x.obj with _ | ⟨h, ps, rs⟩
      · obtain ⟨g1, g2⟩ := It.In.filler e hx e2 (by omega)
        rw [g1, g2]; rfl
      · obtain ⟨g1, g2, g3⟩ := It.In.isObj ok hs e hx h1 (by omega)
        rw [g1, g2, g3]; rfl
    have hw : (A.th s lo).words = x.n := by rw [hth]; unfold It.th; split <;> rfl
    rw [Ar.things_on _ (by omega) (by omega), hw, ih (by omega) e3 (fun y hy => hI y (List.mem_cons_of_mem _ hy)), hth]
    rfl
end Go.Proofs.YtomgfdfgildkbaaDoor
/- What Put, Fill, SetHead, SetPtr and SetRaw do to a space that is tiled. -/

namespace Go.Proofs.YtomgfdfgildkbaaDoor
set_option linter.unusedVariables false
theorem word_put (A : Ar) {i v : Int} (h0 : 0 ≤ i) (h1 : i < (A.words.length : Int)) (j : Int) : (A.put i v).word j = if j = i then v else A.word j := by
  unfold Ar.word Ar.put
  by_cases hj : j = i
  · subst hj
    rw [if_pos h0, if_pos rfl, List.getD_eq_getElem?_getD, List.getElem?_set_self (by omega)]; rfl
  · rw [if_neg hj]
    split
    · rw [List.getD_eq_getElem?_getD, List.getElem?_set_ne (by omega), ← List.getD_eq_getElem?_getD]
    · rfl
theorem zeroAt_getT (l : List Int) (o n k : Nat) (h : o + n ≤ l.length) : (zeroAt l o n).getD k 0 = if o ≤ k ∧ k < o + n then 0 else l.getD k 0 := by
  unfold zeroAt
  rw [List.getD_eq_getElem?_getD, List.getD_eq_getElem?_getD]
  by_cases h1 : k < o
  · rw [if_neg (by omega), List.append_assoc, List.getElem?_append_left (by simp; omega), List.getElem?_take_of_lt h1]
  · by_cases h2 : k < o + n
    · rw [if_pos (by omega), List.append_assoc, List.getElem?_append_right (by simp; omega), List.getElem?_append_left (by simp; omega)]
      rw [List.getElem?_replicate]
      split <;> rfl
    · rw [if_neg (by omega), List.getElem?_append_right (by simp; omega), List.getElem?_drop]
      congr 2
      simp; omega
theorem word_take (A : Ar) {s n : Int} (h0 : 0 ≤ A.top s) (hn : 0 ≤ n) (h1 : A.top s + n ≤ (A.words.length : Int)) (j : Int) : (A.take s n).word j = if A.top s ≤ j ∧ j < A.top s + n then 0 else A.word j := by
  unfold Ar.word
  rw [Ar.take_words]
  by_cases hj : 0 ≤ j
  · rw [if_pos hj, if_pos hj, zeroAt_getT _ _ _ _ (by omega)]
    by_cases c : A.top s ≤ j ∧ j < A.top s + n
    · rw [if_pos c, if_pos (by omega)]
    · rw [if_neg c, if_neg (by omega)]
  · rw [if_neg hj, if_neg hj]
    split <;> rfl
/-- All four spaces are tiled. -/
def Tiled (A : Ar) (Ls : Int → List It) : Prop := ∀ s, isSp s = true → Tile (A.first s) (A.top s) (Ls s) ∧ ∀ x ∈ Ls s, x.In A
theorem Ar.apart {A : Ar} (ok : A.Ok) {s t : Int} (hs : isSp s = true) (ht : isSp t = true) (h : s ≠ t) : A.behind s ≤ A.first t ∨ A.behind t ≤ A.first s := by
  obtain ⟨e0, e1, s0, s1, t0, t1⟩ := Cfg.bd ok.cv
  have a : 1 ≤ s ∧ s ≤ 4 := by unfold isSp at hs; exact of_decide_eq_true hs
  have b : 1 ≤ t ∧ t ≤ 4 := by unfold isSp at ht; exact of_decide_eq_true ht
  rcases (show s = 1 ∨ s = 2 ∨ s = 3 ∨ s = 4 by omega) with rfl | rfl | rfl | rfl <;> rcases (show t = 1 ∨ t = 2 ∨ t = 3 ∨ t = 4 by omega) with rfl | rfl | rfl | rfl <;> simp [Ar.first, Ar.behind] at h ⊢ <;> omega
theorem Tile.apart {lo hi : Int} {l1 l2 : List It} {x : It} (h : Tile lo hi (l1 ++ x :: l2)) : ∀ y, y ∈ l1 ∨ y ∈ l2 → y.at_ + y.n ≤ x.at_ ∨ x.at_ + x.n ≤ y.at_ := by
  obtain ⟨m, h1, h2⟩ := Tile.append.1 h
  obtain ⟨e1, e2, e3⟩ := h2
  intro y hy
  rcases hy with hy | hy
  · have := h1.mem hy; omega
  · have := e3.mem hy; omega
/-- One thing is written anew. -/
theorem Tiled.write {A A' : Ar} {Ls : Int → List It} {s : Int} {l1 l2 : List It} {x x' : It} (ok : A.Ok) (hs : isSp s = true) (h : Tiled A Ls) (hL : Ls s = l1 ++ x :: l2) (hf : ∀ t, A'.first t = A.first t) (ht : ∀ t, A'.top t = A.top t) (hat : x'.at_ = x.at_) (hn : x'.n = x.n) (hx : x'.In A') (hk : ∀ i, ¬ (x.at_ ≤ i ∧ i < x.at_ + x.n) → A'.word i = A.word i) : Tiled A' (fun t => if t = s then l1 ++ x' :: l2 else Ls t) := by
  intro t hst
  rw [hf, ht]
  obtain ⟨hT, hI⟩ := h t hst
  obtain ⟨hT0, hI0⟩ := h s hs
  rw [hL] at hT0 hI0
  have hxm := hT0.mem (show x ∈ l1 ++ x :: l2 by simp)
  by_cases e : t = s
  · subst e
    simp only [if_pos]
    refine ⟨?_, fun y hy => ?_⟩
    · obtain ⟨m, h1, h2, h3, h4⟩ := Tile.append.1 hT0
      exact Tile.append.2 ⟨m, h1, hat.trans h2, by omega, by rw [hn]; exact h4⟩
    · have hy' : y = x' ∨ (y ∈ l1 ∨ y ∈ l2) := by
        rcases List.mem_append.1 hy with hy | hy
        · exact .inr (.inl hy)
        · rcases List.mem_cons.1 hy with hy | hy
          · exact .inl hy
          · exact .inr (.inr hy)
      rcases hy' with rfl | hy'
      · exact hx
      · have hm : y ∈ l1 ++ x :: l2 := by rcases hy' with q | q <;> simp [q]
        have := hT0.apart y hy'
        have hy1 := hT0.mem hm
        exact (hI0 y hm).keep hy1.2.1 (fun i i1 i2 => hk i (by omega))
  · simp only [if_neg e]
    refine ⟨hT, fun y hy => ?_⟩
    have hy1 := hT.mem hy
    have ha := Ar.apart ok hst hs e
    have z1 := ok.sizes s
    have z2 := ok.sizes t
    exact (hI y hy).keep hy1.2.1 (fun i i1 i2 => hk i (by omega))
/-- One more thing at a space's top. -/
theorem Tiled.add {A A' : Ar} {Ls : Int → List It} {s : Int} {x : It} (ok : A.Ok) (hs : isSp s = true) (h : Tiled A Ls) (hat : x.at_ = A.top s) (hn : 1 ≤ x.n) (hr : A.top s + x.n ≤ A.behind s) (hf : ∀ t, A'.first t = A.first t) (ht : ∀ t, A'.top t = if t = s then A.top s + x.n else A.top t) (hx : x.In A') (hk : ∀ i, ¬ (x.at_ ≤ i ∧ i < x.at_ + x.n) → A'.word i = A.word i) : Tiled A' (fun t => if t = s then Ls s ++ [x] else Ls t) := by
  intro t hst
  rw [hf, ht]
  obtain ⟨hT, hI⟩ := h t hst
  by_cases e : t = s
  · subst e
    simp only [if_pos]
    refine ⟨Tile.append.2 ⟨_, hT, hat, hn, rfl⟩, fun y hy => ?_⟩
    rcases List.mem_append.1 hy with hy | hy
    · have hy1 := hT.mem hy
      exact (hI y hy).keep hy1.2.1 (fun i i1 i2 => hk i (by omega))
    · rw [List.mem_singleton.1 hy]; exact hx
  · simp only [if_neg e]
    refine ⟨hT, fun y hy => ?_⟩
    have hy1 := hT.mem hy
    have ha := Ar.apart ok hst hs e
    have z1 := ok.sizes s
    have z2 := ok.sizes t
    exact (hI y hy).keep hy1.2.1 (fun i i1 i2 => hk i (by omega))
end Go.Proofs.YtomgfdfgildkbaaDoor
/- Put, Fill, SetHead, SetPtr, SetRaw over tiled spaces. -/

namespace Go.Proofs.YtomgfdfgildkbaaDoor
set_option linter.unusedVariables false
theorem Ar.put_first (A : Ar) (i v t : Int) : (A.put i v).first t = A.first t := rfl
theorem Ar.put_top (A : Ar) (i v t : Int) : (A.put i v).top t = A.top t := rfl
theorem Ar.put_len (A : Ar) (i v : Int) : (A.put i v).words.length = A.words.length := by unfold Ar.put; simp
theorem Ar.take_first (A : Ar) (s n t : Int) : (A.take s n).first t = A.first t := by
  unfold Ar.take Ar.setTop Ar.first
  (repeat' split) <;> rfl
theorem Ar.setTop_top (B : Ar) {s : Int} (hs : isSp s = true) (v t : Int) : (B.setTop s v).top t = if t = s then v else B.top t := by
  have a : 1 ≤ s ∧ s ≤ 4 := by unfold isSp at hs; exact of_decide_eq_true hs
  obtain ⟨c, ws, t1, t2, t3, t4, fr⟩ := B
  by_cases e : t = s
  · subst e
    rcases (show t = 1 ∨ t = 2 ∨ t = 3 ∨ t = 4 by omega) with rfl | rfl | rfl | rfl <;> simp [Ar.setTop, Ar.top]
  · rw [if_neg e]
    rcases (show s = 1 ∨ s = 2 ∨ s = 3 ∨ s = 4 by omega) with rfl | rfl | rfl | rfl <;> simp [Ar.setTop, Ar.top, e]
theorem Ar.take_top (A : Ar) {s : Int} (hs : isSp s = true) (n t : Int) : (A.take s n).top t = if t = s then A.top s + n else A.top t := by
  unfold Ar.take
  rw [Ar.setTop_top _ hs]
  rfl
theorem Ar.room {A : Ar} (ok : A.Ok) {s n : Int} (hs : isSp s = true) (h1 : 1 ≤ n) (h2 : n ≤ A.free s) : 0 ≤ A.top s ∧ A.top s + n ≤ (A.words.length : Int) ∧ A.top s + n ≤ A.behind s := by
  have hb := ok.top_bd hs h1 h2
  have hl : (A.take s n).words.length = A.words.length := by
    have := hb.2.1
    rw [Ar.take_words] at *
    unfold zeroAt at *
    have hz := ok.sizes s
    have hlen := ok.len
    have e : A.behind s ≤ (A.words.length : Int) := by
      rw [hlen]
      have a : 1 ≤ s ∧ s ≤ 4 := by unfold isSp at hs; exact of_decide_eq_true hs
      obtain ⟨e0, e1, s0, s1, t0, t1⟩ := Cfg.bd ok.cv
      rcases (show s = 1 ∨ s = 2 ∨ s = 3 ∨ s = 4 by omega) with rfl | rfl | rfl | rfl <;> simp [Ar.behind, Cfg.size] <;> omega
    unfold Ar.free at h2
    simp; omega
  unfold Ar.free at h2
  omega
/-- An object is put. -/
theorem Tiled.lay {A : Ar} {Ls : Int → List It} {s : Int} {g : Hd} (ok : A.Ok) (h : Tiled A Ls) (hp : A.putOk s g = true) : Tiled (A.lay s g) (fun t => if t = s then Ls s ++ [⟨A.top s, 2 + g.ptrs + g.raws, some (g, List.replicate g.ptrs.toNat 0, List.replicate g.raws.toNat 0)⟩] else Ls t) := by
  unfold Ar.putOk at hp
  simp only [Bool.and_eq_true, decide_eq_true_eq] at hp
  obtain ⟨⟨hc, hs⟩, hr⟩ := hp
  have f := (chk_iff g).1 hc
  have f1 := f.p0; have f2 := f.r0
  have hm := Ar.room ok hs (show 1 ≤ 2 + g.ptrs + g.raws by omega) hr
  have hl : (A.take s (2 + g.ptrs + g.raws)).words.length = A.words.length := by
    rw [Ar.take_words]; exact zeroAt_length (by omega)
  have hw : ∀ j, (A.lay s g).word j = if j = A.top s + 1 then g.ser else if j = A.top s then enc g else if A.top s ≤ j ∧ j < A.top s + (2 + g.ptrs + g.raws) then 0 else A.word j := fun j => by
    unfold Ar.lay
    rw [word_put _ (by omega) (by rw [Ar.put_len, hl]; omega), word_put _ (by omega) (by rw [hl]; omega), word_take _ (by omega) (by omega) (by omega)]
  refine h.add ok hs rfl (by simp only; omega) hm.2.2 (fun t => ?_) (fun t => ?_) ?_ (fun i hi => ?_)
  · exact Ar.take_first A s _ t
  · exact Ar.take_top A hs _ t
  · unfold It.In
    simp only
    refine ⟨f, by simp; omega, by simp; omega, trivial, ?_, ?_, fun k hk => ?_, fun k hk => ?_⟩
    · rw [hw, if_neg (by omega), if_pos rfl]
    · rw [hw, if_pos rfl]
    · simp only [List.length_replicate] at hk
      rw [hw, if_neg (by omega), if_neg (by omega), if_pos (by omega), List.getD_eq_getElem?_getD, List.getElem?_replicate]
      split <;> rfl
    · simp only [List.length_replicate] at hk
      rw [hw, if_neg (by omega), if_neg (by omega), if_pos (by omega), List.getD_eq_getElem?_getD, List.getElem?_replicate]
      split <;> rfl
  · simp only at hi
    rw [hw, if_neg (by omega), if_neg (by omega), if_neg hi]
/-- A filler is put. -/
theorem Tiled.fill {A : Ar} {Ls : Int → List It} {s n : Int} (ok : A.Ok) (h : Tiled A Ls) (hp : A.fillOk s n = true) : Tiled (A.fill s n) (fun t => if t = s then Ls s ++ [⟨A.top s, n, none⟩] else Ls t) := by
  unfold Ar.fillOk at hp
  simp only [Bool.and_eq_true, decide_eq_true_eq] at hp
  obtain ⟨hs, h1, hr⟩ := hp
  have hm := Ar.room ok hs h1 hr
  have hz := ok.sizes s
  have hl : (A.take s n).words.length = A.words.length := by
    rw [Ar.take_words]; exact zeroAt_length (by omega)
  have hw : ∀ j, (A.fill s n).word j = if j = A.top s then wordT 3 n else if A.top s ≤ j ∧ j < A.top s + n then 0 else A.word j := fun j => by
    unfold Ar.fill
    rw [word_put _ (by omega) (by rw [hl]; omega), word_take _ (by omega) (by omega) (by omega)]
  refine h.add ok hs rfl h1 hm.2.2 (fun t => ?_) (fun t => ?_) ?_ (fun i hi => ?_)
  · exact Ar.take_first A s _ t
  · exact Ar.take_top A hs _ t
  · unfold It.In
    simp only
    exact ⟨by omega, by rw [hw, if_pos rfl]⟩
  · simp only at hi
    rw [hw, if_neg (by omega), if_neg hi]
end Go.Proofs.YtomgfdfgildkbaaDoor
/- SetRaw, SetPtr, SetHead over tiled spaces; an empty arena. -/

namespace Go.Proofs.YtomgfdfgildkbaaDoor
set_option linter.unusedVariables false
theorem Tiled.new {c : Cfg} (h : c.valid = true) : Tiled (Ar.new c) (fun _ => []) := fun s hs => by
  have a : 1 ≤ s ∧ s ≤ 4 := by unfold isSp at hs; exact of_decide_eq_true hs
  refine ⟨?_, fun x hx => by cases hx⟩
  show (Ar.new c).first s = (Ar.new c).top s
  rcases (show s = 1 ∨ s = 2 ∨ s = 3 ∨ s = 4 by omega) with rfl | rfl | rfl | rfl <;> simp [Ar.new, Ar.first, Ar.top]
section
variable {A : Ar} {Ls : Int → List It} {s : Int} {l1 l2 : List It} {x : It} {g : Hd} {ps rs : List Int}
/-- What holds of an object that lies in a tiled space. -/
theorem Tiled.obj (ok : A.Ok) (hs : isSp s = true) (h : Tiled A Ls) (hx : x ∈ Ls s) (e : x.obj = some (g, ps, rs)) : A.isObj x.at_ = true ∧ A.hd x.at_ = g ∧ 1 ≤ x.at_ ∧ x.at_ + x.n ≤ (A.words.length : Int) := by
  obtain ⟨hT, hI⟩ := h s hs
  have hm := hT.mem hx
  obtain ⟨h1, h2, h3⟩ := It.In.isObj ok hs e (hI x hx) hm.1 hm.2.2
  have hf := isObj_facts ok h1
  exact ⟨h1, h3, hf.1, by omega⟩
theorem Tiled.setRaw (ok : A.Ok) (hs : isSp s = true) (h : Tiled A Ls) (hL : Ls s = l1 ++ x :: l2) (e : x.obj = some (g, ps, rs)) {i v : Int} (h0 : 0 ≤ i) (h1 : i < g.raws) : Tiled (A.setRaw x.at_ i v) (fun t => if t = s then l1 ++ ⟨x.at_, x.n, some (g, ps, rs.set i.toNat v)⟩ :: l2 else Ls t) := by
  have hxm : x ∈ Ls s := by rw [hL]; simp
  obtain ⟨q1, q2, q3, q4⟩ := h.obj ok hs hxm e
  have hx := (h s hs).2 x hxm
  unfold It.In at hx
  rw [e] at hx
  obtain ⟨f, p2, p3, p4, p5, p6, p7, p8⟩ := hx
  have := f.p0
  have e1 : A.setRaw x.at_ i v = A.put (x.at_ + 2 + g.ptrs + i) v := by
    unfold Ar.setRaw Ar.rawOk
    rw [q1, q2, decide_eq_true (show 0 ≤ i ∧ i < g.raws from ⟨h0, h1⟩)]; rfl
  rw [e1]
  have hw := word_put A (i := x.at_ + 2 + g.ptrs + i) (v := v) (by omega) (by omega)
  refine h.write ok hs hL (fun _ => rfl) (fun _ => rfl) rfl rfl ?_ (fun j hj => by rw [hw, if_neg (by omega)])
  unfold It.In
  simp only
  refine ⟨f, p2, by simpa using p3, p4, by rw [hw, if_neg (by omega)]; exact p5, by rw [hw, if_neg (by omega)]; exact p6, fun k hk => by rw [hw, if_neg (by omega)]; exact p7 k hk, fun k hk => ?_⟩
  simp only [List.length_set] at hk
  rw [hw]
  by_cases c : k = i.toNat
  · subst c
    rw [if_pos (by omega), List.getD_eq_getElem?_getD, List.getElem?_set_self hk]; rfl
  · rw [if_neg (by omega), List.getD_eq_getElem?_getD, List.getElem?_set_ne (by omega), ← List.getD_eq_getElem?_getD]; exact p8 k hk
theorem Tiled.setPtr (ok : A.Ok) (hs : isSp s = true) (h : Tiled A Ls) (hL : Ls s = l1 ++ x :: l2) (e : x.obj = some (g, ps, rs)) {i v : Int} (h0 : 0 ≤ i) (h1 : i < g.ptrs) (v0 : 0 ≤ v) (v1 : v < (A.words.length : Int)) : Tiled (A.setPtr x.at_ i v) (fun t => if t = s then l1 ++ ⟨x.at_, x.n, some (g, ps.set i.toNat v, rs)⟩ :: l2 else Ls t) := by
  have hxm : x ∈ Ls s := by rw [hL]; simp
  obtain ⟨q1, q2, q3, q4⟩ := h.obj ok hs hxm e
  have hx := (h s hs).2 x hxm
  unfold It.In at hx
  rw [e] at hx
  obtain ⟨f, p2, p3, p4, p5, p6, p7, p8⟩ := hx
  have := f.p0; have := f.r0
  have e1 : A.setPtr x.at_ i v = A.put (x.at_ + 2 + i) v := by
    unfold Ar.setPtr Ar.setPtrOk
    rw [q1, q2, decide_eq_true (show 0 ≤ i ∧ i < g.ptrs from ⟨h0, h1⟩), decide_eq_true (show 0 ≤ v ∧ v < (A.words.length : Int) from ⟨v0, v1⟩)]; rfl
  rw [e1]
  have hw := word_put A (i := x.at_ + 2 + i) (v := v) (by omega) (by omega)
  refine h.write ok hs hL (fun _ => rfl) (fun _ => rfl) rfl rfl ?_ (fun j hj => by rw [hw, if_neg (by omega)])
  unfold It.In
  simp only
  refine ⟨f, by simpa using p2, p3, p4, by rw [hw, if_neg (by omega)]; exact p5, by rw [hw, if_neg (by omega)]; exact p6, fun k hk => ?_, fun k hk => by rw [hw, if_neg (by omega)]; exact p8 k hk⟩
  simp only [List.length_set] at hk
  rw [hw]
  by_cases c : k = i.toNat
  · subst c
    rw [if_pos (by omega), List.getD_eq_getElem?_getD, List.getElem?_set_self hk]; rfl
  · rw [if_neg (by omega), List.getD_eq_getElem?_getD, List.getElem?_set_ne (by omega), ← List.getD_eq_getElem?_getD]; exact p7 k hk
theorem Tiled.setHead (ok : A.Ok) (hs : isSp s = true) (h : Tiled A Ls) (hL : Ls s = l1 ++ x :: l2) (e : x.obj = some (g, ps, rs)) {g' : Hd} (f' : Fine g') (hp : g'.ptrs = g.ptrs) (hr : g'.raws = g.raws) : Tiled (A.setHead x.at_ g') (fun t => if t = s then l1 ++ ⟨x.at_, x.n, some (g', ps, rs)⟩ :: l2 else Ls t) := by
  have hxm : x ∈ Ls s := by rw [hL]; simp
  obtain ⟨q1, q2, q3, q4⟩ := h.obj ok hs hxm e
  have hx := (h s hs).2 x hxm
  unfold It.In at hx
  rw [e] at hx
  obtain ⟨f, p2, p3, p4, p5, p6, p7, p8⟩ := hx
  have := f.p0; have := f.r0
  have e1 : A.setHead x.at_ g' = (A.put x.at_ (enc g')).put (x.at_ + 1) g'.ser := by
    unfold Ar.setHead Ar.setHeadOk
    rw [q1, q2, decide_eq_true ((chk_iff g').2 f'), decide_eq_true hp, decide_eq_true hr]; rfl
  rw [e1]
  have hw : ∀ j, ((A.put x.at_ (enc g')).put (x.at_ + 1) g'.ser).word j = if j = x.at_ + 1 then g'.ser else if j = x.at_ then enc g' else A.word j := fun j => by
    rw [word_put _ (by omega) (by rw [Ar.put_len]; omega), word_put _ (by omega) (by omega)]
  refine h.write ok hs hL (fun _ => rfl) (fun _ => rfl) rfl rfl ?_ (fun j hj => by rw [hw, if_neg (by omega), if_neg (by omega)])
  unfold It.In
  simp only
  exact ⟨f', p2.trans hp.symm, p3.trans hr.symm, by omega, by rw [hw, if_neg (by omega), if_pos rfl], by rw [hw, if_pos rfl], fun k hk => by rw [hw, if_neg (by omega), if_neg (by omega)]; exact p7 k hk, fun k hk => by rw [hp, hw, if_neg (by omega), if_neg (by omega)]; exact p8 k hk⟩
end
end Go.Proofs.YtomgfdfgildkbaaDoor
/- What is read of tiled spaces. -/

namespace Go.Proofs.YtomgfdfgildkbaaDoor
set_option linter.unusedVariables false
section
variable {A : Ar} {Ls : Int → List It} {s : Int} {x : It} {g : Hd} {ps rs : List Int}
theorem Tiled.raw (ok : A.Ok) (hs : isSp s = true) (h : Tiled A Ls) (hx : x ∈ Ls s) (e : x.obj = some (g, ps, rs)) {k : Nat} (hk : k < rs.length) : A.rawOk x.at_ k = true ∧ A.raw x.at_ k = rs.getD k 0 := by
  obtain ⟨q1, q2, q3, q4⟩ := h.obj ok hs hx e
  have hI := (h s hs).2 x hx
  unfold It.In at hI
  rw [e] at hI
  obtain ⟨f, p2, p3, p4, p5, p6, p7, p8⟩ := hI
  have h1 : A.rawOk x.at_ k = true := by unfold Ar.rawOk; rw [q1, q2, decide_eq_true (show 0 ≤ (k : Int) ∧ (k : Int) < g.raws by omega)]; rfl
  refine ⟨h1, ?_⟩
  unfold Ar.raw
  rw [if_pos h1, q2]; exact p8 k hk
theorem Tiled.ptr (ok : A.Ok) (hs : isSp s = true) (h : Tiled A Ls) (hx : x ∈ Ls s) (e : x.obj = some (g, ps, rs)) {k : Nat} (hk : k < ps.length) (hb : ps.getD k 0 < (A.words.length : Int)) : A.ptrOk x.at_ k = true ∧ A.ptr x.at_ k = ps.getD k 0 := by
  obtain ⟨q1, q2, q3, q4⟩ := h.obj ok hs hx e
  have hI := (h s hs).2 x hx
  unfold It.In at hI
  rw [e] at hI
  obtain ⟨f, p2, p3, p4, p5, p6, p7, p8⟩ := hI
  have h1 : A.ptrOk x.at_ k = true := by unfold Ar.ptrOk; rw [q1, q2, p7 k hk, decide_eq_true (show 0 ≤ (k : Int) ∧ (k : Int) < g.ptrs by omega), decide_eq_true hb]; rfl
  refine ⟨h1, ?_⟩
  unfold Ar.ptr
  rw [if_pos h1]; exact p7 k hk
theorem Tiled.all (ok : A.Ok) (hs : isSp s = true) (h : Tiled A Ls) : A.all s = (Ls s).map It.th := by
  unfold Ar.all
  rw [if_pos hs]
  exact things_tile ok hs (Int.le_refl _) (h s hs).1 (h s hs).2
theorem Tiled.objs (ok : A.Ok) (hs : isSp s = true) (h : Tiled A Ls) : A.objs s = objsOf ((Ls s).map It.th) := by
  unfold Ar.objs
  rw [if_pos hs, things_tile ok hs (Int.le_refl _) (h s hs).1 (h s hs).2]
theorem Tiled.good (ok : A.Ok) (hs : isSp s = true) (h : Tiled A Ls) : ∀ y ∈ A.all s, 1 ≤ y.words := by
  intro y hy
  rw [h.all ok hs] at hy
  obtain ⟨z, hz, rfl⟩ := List.mem_map.1 hy
  have := (h s hs).1.mem hz
  unfold It.th
  split <;> exact this.2.1
end
end Go.Proofs.YtomgfdfgildkbaaDoor
/- ArenaHolds: the list of things that were made, in plain words, against what lies in the spaces. No condition. -/

namespace Go.Proofs.YtomgfdfgildkbaaDoor
set_option linter.unusedVariables false
/-- A thing that was put: where, in which space, its header, its fields as written last; the blocks in which the list's copy of them lies. -/
structure Gt where
  at_ : Int
  sp : Int
  hd : Hd
  ps : List Int
  rs : List Int
  pb : Nat
  rb : Nat
def gt0 : Gt := ⟨0, 0, nohd, [], [], 0, 0⟩
instance : Inhabited Gt := ⟨gt0⟩
theorem Ar.Ok.fillA {A : Ar} (ok : A.Ok) {s n : Int} (h : A.fillOk s n = true) : (A.fill s n).Ok := by
  unfold Ar.fillOk at h
  simp only [Bool.and_eq_true, decide_eq_true_eq] at h
  obtain ⟨h1, h2, h3⟩ := h
  have hz := ok.sizes s
  have hfr : A.free s = A.behind s - A.top s := rfl
  exact (ok.take h1 h2 h3).put (A.top s).toNat (by unfold wordT; rw [if_pos (by omega)]; omega)
theorem ArAt.onlyA {w w' : World} {S : List Nat} {b wb : Nat} {A : Ar} (h : ArAt w b wb A) (ho : Only S w w') (h1 : b ∉ S) (h2 : wb ∉ S) : ArAt w' b wb A :=
  ⟨(ho.block _ (lt_of_heap h.st) h1).trans h.st, (ho.block _ (lt_of_heap h.ws) h2).trans h.ws, h.ne⟩
theorem ty_neA {w : World} {j k : Nat} {c1 c2 : Array Value} {t1 t2 : TypeId} {f1 f2 : Nat × Nat} (h1 : w.heap[j]? = some (.cells c1 t1 f1)) (h2 : w.heap[k]? = some (.cells c2 t2 f2)) (h : t1 ≠ t2) : j ≠ k := by
  rintro rfl
  rw [h1] at h2
  cases h2
  exact h rfl
theorem row_blockA {w : World} {B : Nat} {e : TypeId} {sz : Nat} {v : Value} {n : Nat} {xs : List Value} (h : w.ownsRow B e sz v n xs) {k : Nat} (hk : v.ownBlock = some k) : ∃ cs, w.heap[k]? = some (.cells cs e (0, 0)) := by
  rcases h.2 with ⟨h1, _⟩ | ⟨g, cap, cur, hv, _, hg, _⟩
  · rw [h1] at hk; cases hk
  · rw [hv] at hk; cases hk; exact ⟨cur, hg⟩
def Gt.it (q : Gt) : It := ⟨q.at_, 2 + q.hd.ptrs + q.hd.raws, some (q.hd, q.ps, q.rs)⟩
def isO (x : It) : Bool := x.obj.isSome
def inSp (s : Int) (q : Gt) : Bool := decide (q.sp = s)
/-- The spaces hold just these things, each space in the order of making. -/
structure Holds (A : Ar) (Ls : Int → List It) (Q : List Gt) : Prop where
  tiled : Tiled A Ls
  obs : ∀ s, isSp s = true → (Ls s).filter isO = (Q.filter (inSp s)).map Gt.it
  sp : ∀ q ∈ Q, isSp q.sp = true
  rng : ∀ q ∈ Q, ∀ p ∈ q.ps, 0 ≤ p ∧ p < (A.words.length : Int)
theorem Holds.new {c : Cfg} (h : c.valid = true) : Holds (Ar.new c) (fun _ => []) [] :=
  ⟨Tiled.new h, fun _ _ => rfl, fun q hq => by simp at hq, fun q hq => by simp at hq⟩
theorem objsOf_it (l : List It) : objsOf (l.map It.th) = (l.filter isO).map fun x => (x.at_, (x.obj.getD (nohd, [], [])).1) := by
  induction l with
  | nil => rfl
  | cons x l ih =>
    obtain ⟨a, n, o⟩ := x
    unfold objsOf at *
    rcases o with _ | ⟨g, ps, rs⟩
    · simpa [It.th, isO] using ih
    · have e1 : isO ⟨a, n, some (g, ps, rs)⟩ = true := rfl
      rw [List.map_cons, List.filter_cons_of_pos (by rfl), List.filter_cons_of_pos e1, List.map_cons, List.map_cons]
      exact congrArg _ ih
section
variable {A : Ar} {Ls : Int → List It} {Q : List Gt}
theorem Holds.mem (h : Holds A Ls Q) {q : Gt} (hq : q ∈ Q) : q.it ∈ Ls q.sp := by
  have e := h.obs q.sp (h.sp q hq)
  have : q.it ∈ (Ls q.sp).filter isO := by
    rw [e]
    exact List.mem_map.2 ⟨q, List.mem_filter.2 ⟨hq, by simp [inSp]⟩, rfl⟩
  exact (List.mem_filter.1 this).1
/-- What the walk through a space meets. -/
theorem Holds.objs (ok : A.Ok) (h : Holds A Ls Q) {s : Int} (hs : isSp s = true) : A.objs s = (Q.filter (inSp s)).map fun q => (q.at_, q.hd) := by
  rw [h.tiled.objs ok hs, objsOf_it, h.obs s hs, List.map_map]
  rfl
/-- What holds of each thing. -/
structure Gt.Lies (A : Ar) (q : Gt) : Prop where
  obj : A.isObj q.at_ = true
  hd : A.hd q.at_ = q.hd
  lo : 1 ≤ q.at_
  hi : q.at_ < (A.words.length : Int)
  fine : Fine q.hd
  np : (q.ps.length : Int) = q.hd.ptrs
  nr : (q.rs.length : Int) = q.hd.raws
theorem Holds.lies (ok : A.Ok) (h : Holds A Ls Q) {q : Gt} (hq : q ∈ Q) : q.Lies A := by
  have hm := h.mem hq
  have hs := h.sp q hq
  obtain ⟨h1, h2, h3, h4⟩ := h.tiled.obj ok hs hm rfl
  have hI := (h.tiled q.sp hs).2 _ hm
  unfold It.In Gt.it at hI
  simp only at hI
  obtain ⟨f, p1, p2, -⟩ := hI
  have := f.p0; have := f.r0
  unfold Gt.it at h1 h2 h3 h4
  simp only at h1 h2 h3 h4
  exact ⟨h1, h2, h3, by omega, f, p1, p2⟩
theorem Holds.ptr (ok : A.Ok) (h : Holds A Ls Q) {q : Gt} (hq : q ∈ Q) {k : Nat} (hk : k < q.ps.length) : A.ptrOk q.at_ k = true ∧ A.ptr q.at_ k = q.ps.getD k 0 := by
  refine h.tiled.ptr ok (h.sp q hq) (h.mem hq) (x := q.it) rfl hk ?_
  rw [List.getD_eq_getElem?_getD, List.getElem?_eq_getElem hk]
  exact (h.rng q hq _ (List.getElem_mem hk)).2
theorem Holds.raw (ok : A.Ok) (h : Holds A Ls Q) {q : Gt} (hq : q ∈ Q) {k : Nat} (hk : k < q.rs.length) : A.rawOk q.at_ k = true ∧ A.raw q.at_ k = q.rs.getD k 0 :=
  h.tiled.raw ok (h.sp q hq) (h.mem hq) (x := q.it) rfl hk
theorem Holds.swap (h : Holds A Ls Q) : Holds { A with frm := A.to } Ls Q :=
  ⟨fun s hs => ⟨(h.tiled s hs).1, fun x hx => (h.tiled s hs).2 x hx⟩, h.obs, h.sp, h.rng⟩
theorem Ar.fill_len (A : Ar) {s n : Int} (ok : A.Ok) (hs : isSp s = true) (h1 : 1 ≤ n) (h2 : n ≤ A.free s) : (A.fill s n).words.length = A.words.length := by
  have hm := Ar.room ok hs h1 h2
  unfold Ar.fill
  rw [Ar.put_len, Ar.take_words, zeroAt_length (by omega)]
theorem Holds.fill (ok : A.Ok) (h : Holds A Ls Q) {s n : Int} (hp : A.fillOk s n = true) : Holds (A.fill s n) (fun t => if t = s then Ls s ++ [⟨A.top s, n, none⟩] else Ls t) Q := by
  refine ⟨h.tiled.fill ok hp, fun t ht => ?_, h.sp, ?_⟩
  · by_cases e : t = s
    · subst e
      simp only [if_pos]
      rw [List.filter_append, h.obs t ht]
      simp [isO]
    · simp only [if_neg e]; exact h.obs t ht
  · unfold Ar.fillOk at hp
    simp only [Bool.and_eq_true, decide_eq_true_eq] at hp
    rw [Ar.fill_len A ok hp.1 hp.2.1 hp.2.2]; exact h.rng
theorem Ar.lay_lenT (A : Ar) {s : Int} {g : Hd} (ok : A.Ok) (hp : A.putOk s g = true) : (A.lay s g).words.length = A.words.length := by
  unfold Ar.putOk at hp
  simp only [Bool.and_eq_true, decide_eq_true_eq] at hp
  have f := (chk_iff g).1 hp.1.1
  have := f.p0; have := f.r0
  have hm := Ar.room ok hp.1.2 (show 1 ≤ 2 + g.ptrs + g.raws by omega) hp.2
  unfold Ar.lay
  rw [Ar.put_len, Ar.put_len, Ar.take_words, zeroAt_length (by omega)]
theorem Holds.lay (ok : A.Ok) (h : Holds A Ls Q) {s : Int} {g : Hd} (hp : A.putOk s g = true) (pb rb : Nat) : Holds (A.lay s g) (fun t => if t = s then Ls s ++ [⟨A.top s, 2 + g.ptrs + g.raws, some (g, List.replicate g.ptrs.toNat 0, List.replicate g.raws.toNat 0)⟩] else Ls t)
    (Q ++ [⟨A.top s, s, g, List.replicate g.ptrs.toNat 0, List.replicate g.raws.toNat 0, pb, rb⟩]) := by
  have hlen := Ar.lay_lenT A ok hp
  refine ⟨h.tiled.lay ok hp, fun t ht => ?_, fun q hq => ?_, fun q hq p hpp => ?_⟩
  · rw [List.filter_append, List.map_append]
    by_cases e : t = s
    · subst e
      simp only [if_pos]
      rw [List.filter_append, h.obs t ht]
      simp [isO, inSp, Gt.it]
    · simp only [if_neg e]
      rw [h.obs t ht]
      simp [inSp, Ne.symm e]
  · rcases List.mem_append.1 hq with hq | hq
    · exact h.sp q hq
    · rw [List.mem_singleton.1 hq]
      unfold Ar.putOk at hp
      simp only [Bool.and_eq_true, decide_eq_true_eq] at hp
      exact hp.1.2
  · rw [hlen]
    rcases List.mem_append.1 hq with hq | hq
    · exact h.rng q hq p hpp
    · rw [List.mem_singleton.1 hq] at hpp
      simp only [List.mem_replicate] at hpp
      have l := ok.len
      obtain ⟨e0, e1, s0, s1, t0, t1⟩ := Cfg.bd ok.cv
      unfold Cfg.size at l
      omega
theorem split_filter {α : Type} (p : α → Bool) {l m1 m2 : List α} {x : α} (h : l.filter p = m1 ++ x :: m2) : ∃ l1 l2, l = l1 ++ x :: l2 ∧ l1.filter p = m1 ∧ l2.filter p = m2 := by
  obtain ⟨a, b, rfl, h1, h2⟩ := List.filter_eq_append_iff.1 h
  obtain ⟨c, d, rfl, h3, h4, h5⟩ := List.filter_eq_cons_iff.1 h2
  refine ⟨a ++ c, d, by simp, ?_, h5⟩
  rw [List.filter_append, h1, List.filter_eq_nil_iff.2 (fun y hy => by simpa using h3 y hy)]
  simp
/-- The k-th thing in its space. -/
theorem Holds.split (h : Holds A Ls Q) {k : Nat} (hk : k < Q.length) : ∃ l1 l2, Ls (Q.getD k gt0).sp = l1 ++ (Q.getD k gt0).it :: l2 ∧ l1.filter isO = ((Q.take k).filter (inSp (Q.getD k gt0).sp)).map Gt.it ∧ l2.filter isO = ((Q.drop (k + 1)).filter (inSp (Q.getD k gt0).sp)).map Gt.it := by
  have eq : Q = Q.take k ++ Q.getD k gt0 :: Q.drop (k + 1) := by
    rw [List.getD_eq_getElem?_getD, List.getElem?_eq_getElem hk]
    simp
  have hm : Q.getD k gt0 ∈ Q := by rw [List.getD_eq_getElem?_getD, List.getElem?_eq_getElem hk]; exact List.getElem_mem hk
  have e := h.obs _ (h.sp _ hm)
  generalize Q.getD k gt0 = q at *
  have ef : Q.filter (inSp q.sp) = (Q.take k).filter (inSp q.sp) ++ q :: (Q.drop (k + 1)).filter (inSp q.sp) := by
    conv => lhs; rw [eq]
    rw [List.filter_append, List.filter_cons_of_pos (by simp [inSp])]
  rw [ef, List.map_append, List.map_cons] at e
  exact split_filter isO e
theorem set_split {Q : List Gt} {k : Nat} (hk : k < Q.length) (q' : Gt) : Q.set k q' = Q.take k ++ q' :: Q.drop (k + 1) := by
  rw [List.set_eq_take_append_cons_drop, if_pos hk]
/-- The k-th thing is written anew. -/
theorem Holds.write {A' : Ar} (h : Holds A Ls Q) {k : Nat} (hk : k < Q.length) {q' : Gt} {l1 l2 : List It} (h1 : l1.filter isO = ((Q.take k).filter (inSp (Q.getD k gt0).sp)).map Gt.it) (h2 : l2.filter isO = ((Q.drop (k + 1)).filter (inSp (Q.getD k gt0).sp)).map Gt.it)
    (hsp : q'.sp = (Q.getD k gt0).sp) (hT : Tiled A' (fun t => if t = (Q.getD k gt0).sp then l1 ++ q'.it :: l2 else Ls t)) (hl : A'.words.length = A.words.length) (hr : ∀ p ∈ q'.ps, 0 ≤ p ∧ p < (A.words.length : Int)) :
    Holds A' (fun t => if t = (Q.getD k gt0).sp then l1 ++ q'.it :: l2 else Ls t) (Q.set k q') := by
  have eq : Q = Q.take k ++ Q.getD k gt0 :: Q.drop (k + 1) := by
    rw [List.getD_eq_getElem?_getD, List.getElem?_eq_getElem hk]
    simp
  have hm : Q.getD k gt0 ∈ Q := by rw [List.getD_eq_getElem?_getD, List.getElem?_eq_getElem hk]; exact List.getElem_mem hk
  have hme : ∀ q ∈ Q.set k q', q = q' ∨ q ∈ Q := fun q hq => by
    rcases List.mem_or_eq_of_mem_set hq with hq | hq
    · exact .inr hq
    · exact .inl hq
  refine ⟨hT, fun t ht => ?_, fun q hq => ?_, fun q hq p hp => ?_⟩
  · rw [set_split hk]
    by_cases e : t = (Q.getD k gt0).sp
    · subst e
      simp only [if_pos]
      rw [List.filter_append, List.filter_append, List.map_append, List.filter_cons_of_pos (show isO q'.it = true from rfl), List.filter_cons_of_pos (by simp [inSp, hsp]), h1, h2, List.map_cons]
    · simp only [if_neg e]
      have e0 := h.obs t ht
      rw [e0]
      conv => lhs; rw [eq]
      rw [List.filter_append, List.filter_append, List.filter_cons_of_neg (by unfold inSp; rw [decide_eq_true_eq]; exact fun h => e h.symm), List.filter_cons_of_neg (by unfold inSp; rw [decide_eq_true_eq, hsp]; exact fun h => e h.symm)]
  · rcases hme q hq with rfl | hq
    · rw [hsp]; exact h.sp _ hm
    · exact h.sp q hq
  · rw [hl]
    rcases hme q hq with rfl | hq
    · exact hr p hp
    · exact h.rng q hq p hp
theorem Ar.setHead_len (A : Ar) (i : Int) (g : Hd) : (A.setHead i g).words.length = A.words.length := by
  unfold Ar.setHead
  split
  · rw [Ar.put_len, Ar.put_len]
  · rfl
theorem Ar.setPtr_len (A : Ar) (i j v : Int) : (A.setPtr i j v).words.length = A.words.length := by
  unfold Ar.setPtr
  split
  · rw [Ar.put_len]
  · rfl
theorem Ar.setRaw_len (A : Ar) (i j v : Int) : (A.setRaw i j v).words.length = A.words.length := by
  unfold Ar.setRaw
  split
  · rw [Ar.put_len]
  · rfl
theorem getD_mem {k : Nat} (hk : k < Q.length) : Q.getD k gt0 ∈ Q := by rw [List.getD_eq_getElem?_getD, List.getElem?_eq_getElem hk]; exact List.getElem_mem hk
theorem Holds.setHead (ok : A.Ok) (h : Holds A Ls Q) {k : Nat} (hk : k < Q.length) {g : Hd} (f : Fine g) (hp : g.ptrs = (Q.getD k gt0).hd.ptrs) (hr : g.raws = (Q.getD k gt0).hd.raws) :
    ∃ Ls', Holds (A.setHead (Q.getD k gt0).at_ g) Ls' (Q.set k { Q.getD k gt0 with hd := g }) := by
  obtain ⟨l1, l2, hL, h1, h2⟩ := h.split hk
  have hm := getD_mem hk
  have hT := h.tiled.setHead ok (h.sp _ hm) hL (x := (Q.getD k gt0).it) rfl f hp hr
  refine ⟨_, h.write hk h1 h2 (q' := { Q.getD k gt0 with hd := g }) rfl ?_ (Ar.setHead_len A _ g) (fun p hp => h.rng (Q.getD k gt0) hm p hp)⟩
  have e : ({ Q.getD k gt0 with hd := g } : Gt).it = ⟨(Q.getD k gt0).it.at_, (Q.getD k gt0).it.n, some (g, (Q.getD k gt0).ps, (Q.getD k gt0).rs)⟩ := by
    unfold Gt.it
    simp only [hp, hr]
  rw [e]
  exact hT
theorem Holds.setPtr (ok : A.Ok) (h : Holds A Ls Q) {k : Nat} (hk : k < Q.length) {i v : Int} (h0 : 0 ≤ i) (h1 : i < (Q.getD k gt0).hd.ptrs) (v0 : 0 ≤ v) (v1 : v < (A.words.length : Int)) :
    ∃ Ls', Holds (A.setPtr (Q.getD k gt0).at_ i v) Ls' (Q.set k { Q.getD k gt0 with ps := (Q.getD k gt0).ps.set i.toNat v }) := by
  obtain ⟨l1, l2, hL, g1, g2⟩ := h.split hk
  have hm := getD_mem hk
  have hT := h.tiled.setPtr ok (h.sp _ hm) hL (x := (Q.getD k gt0).it) rfl h0 h1 v0 v1
  refine ⟨_, h.write hk g1 g2 (q' := { Q.getD k gt0 with ps := (Q.getD k gt0).ps.set i.toNat v }) rfl hT (Ar.setPtr_len A _ i v) (fun p hp => ?_)⟩
  rcases List.mem_or_eq_of_mem_set hp with hp | hp
  · exact h.rng _ hm p hp
  · rw [hp]; exact ⟨v0, v1⟩
theorem Holds.setRaw (ok : A.Ok) (h : Holds A Ls Q) {k : Nat} (hk : k < Q.length) {i v : Int} (h0 : 0 ≤ i) (h1 : i < (Q.getD k gt0).hd.raws) :
    ∃ Ls', Holds (A.setRaw (Q.getD k gt0).at_ i v) Ls' (Q.set k { Q.getD k gt0 with rs := (Q.getD k gt0).rs.set i.toNat v }) := by
  obtain ⟨l1, l2, hL, g1, g2⟩ := h.split hk
  have hm := getD_mem hk
  have hT := h.tiled.setRaw ok (h.sp _ hm) hL (x := (Q.getD k gt0).it) rfl h0 h1 (v := v)
  exact ⟨_, h.write hk g1 g2 (q' := { Q.getD k gt0 with rs := (Q.getD k gt0).rs.set i.toNat v }) rfl hT (Ar.setRaw_len A _ i v) (fun p hp => h.rng (Q.getD k gt0) hm p hp)⟩
end
end Go.Proofs.YtomgfdfgildkbaaDoor
