/- Plain words for the law ArenaSpaces: the spaces behind one another, what is taken is 0. No condition. -/
import Derived.Test.YtomgfdfgildkbaaDoorGe
import Derived.Test.YtomgfdfgildkbaaDoorArenaW12
namespace Go.Proofs.YtomgfdfgildkbaaDoor
open Go.RowKit

def szOf (c : Cfg) (s : Int) : Int := if s = 1 then c.eden else if s = 2 then c.surv else if s = 3 then c.surv else c.ten
theorem sp_cases {s : Int} (hs : isSp s = true) : s = 1 ∨ s = 2 ∨ s = 3 ∨ s = 4 := by unfold isSp at hs; have := of_decide_eq_true hs; omega
theorem Ar.behind_first (A : Ar) {s : Int} (hs : isSp s = true) : A.behind s = A.first s + szOf A.cfg s := by
  rcases sp_cases hs with rfl | rfl | rfl | rfl <;> simp [Ar.behind, Ar.first, szOf]
theorem szOf_bd {c : Cfg} (h : c.valid = true) (s : Int) : 64 ≤ szOf c s ∧ szOf c s ≤ 65536 := by
  obtain ⟨e0, e1, s0, s1, t0, t1⟩ := Cfg.bd h
  unfold szOf
  repeat' split
  all_goals omega
/-- Where the s-th space begins (5: what lies behind the last). -/
def posOf (c : Cfg) (s : Int) : Int := if s = 1 then 1 else if s = 2 then 1 + c.eden else if s = 3 then 1 + c.eden + c.surv else if s = 4 then 1 + c.eden + c.surv + c.surv else 1 + c.eden + c.surv + c.surv + c.ten
theorem posOf_next {c : Cfg} {s : Int} (hs : isSp s = true) : posOf c (s + 1) = posOf c s + szOf c s := by
  rcases sp_cases hs with rfl | rfl | rfl | rfl <;> simp [posOf, szOf]
theorem posOf_bd {c : Cfg} (h : c.valid = true) (s : Int) : 1 ≤ posOf c s ∧ posOf c s ≤ 262145 := by
  obtain ⟨e0, e1, s0, s1, t0, t1⟩ := Cfg.bd h
  unfold posOf
  repeat' split
  all_goals omega
theorem new_first (c : Cfg) {s : Int} (hs : isSp s = true) : (Ar.new c).first s = posOf c s ∧ (Ar.new c).top s = posOf c s ∧ (Ar.new c).behind s = posOf c s + szOf c s ∧ (Ar.new c).free s = szOf c s := by
  rcases sp_cases hs with rfl | rfl | rfl | rfl <;> simp [Ar.first, Ar.top, Ar.behind, Ar.free, Ar.new, posOf, szOf] <;> omega
theorem new_space {c : Cfg} (h : c.valid = true) (ok : (Ar.new c).Ok) {s : Int} (hs : isSp s = true) : (Ar.new c).space (posOf c s) = s ∧ (Ar.new c).space (posOf c s + szOf c s - 1) = s := by
  obtain ⟨h1, _, h3, _⟩ := new_first c hs
  have hz := szOf_bd h s
  exact ⟨Ar.space_of ok hs (by omega) (by omega), Ar.space_of ok hs (by omega) (by omega)⟩
theorem new_out {c : Cfg} (h : c.valid = true) : (Ar.new c).space 0 = 0 ∧ (Ar.new c).space (posOf c 5) = 0 ∧ (Ar.new c).space (-1) = 0 ∧ (Ar.new c).young 0 = false ∧ (Ar.new c).young (posOf c 5) = false := by
  obtain ⟨e0, e1, s0, s1, t0, t1⟩ := Cfg.bd h
  have h5 : posOf c 5 = 1 + c.eden + c.surv + c.surv + c.ten := by simp [posOf]
  have h1 : (Ar.new c).space 0 = 0 := by simp [Ar.space]
  have h2 : (Ar.new c).space (posOf c 5) = 0 := by
    rw [h5]; unfold Ar.space Ar.new; simp only
    repeat' split
    all_goals omega
  have h3 : (Ar.new c).space (-1) = 0 := by simp [Ar.space]
  refine ⟨h1, h2, h3, ?_, ?_⟩
  · unfold Ar.young; rw [h1]; simp [Ar.new]
  · unfold Ar.young; rw [h2]; simp [Ar.new]
/-- An arena as one of its spaces is seen: where it begins, its size, its top. -/
structure SpIs (A : Ar) (s fs zs tp : Int) : Prop where
  ok : A.Ok
  f : A.first s = fs
  b : A.behind s = fs + zs
  t : A.top s = tp
theorem SpIs.free {A : Ar} {s fs zs tp : Int} (h : SpIs A s fs zs tp) : A.free s = fs + zs - tp := by unfold Ar.free; rw [h.b, h.t]
theorem SpIs.bd {A : Ar} {s fs zs tp : Int} (h : SpIs A s fs zs tp) : 0 ≤ fs ∧ fs ≤ tp ∧ tp ≤ fs + zs ∧ fs + zs ≤ 262145 := by
  have := h.ok.sizes s
  rw [h.f, h.b, h.t] at this
  exact this
theorem Ar.first_cfg {A B : Ar} (h : A.cfg = B.cfg) (s : Int) : A.first s = B.first s ∧ A.behind s = B.behind s := by unfold Ar.first Ar.behind; rw [h]; exact ⟨rfl, rfl⟩
theorem SpIs.take {A : Ar} {s fs zs tp n : Int} (h : SpIs A s fs zs tp) (hs : isSp s = true) (h1 : 1 ≤ n) (h2 : n ≤ fs + zs - tp) : SpIs (A.take s n) s fs zs (tp + n) := by
  obtain ⟨e1, e2⟩ := Ar.first_cfg (A.take_cfg s n) s
  refine ⟨h.ok.take hs h1 (by rw [h.free]; exact h2), e1.trans h.f, e2.trans h.b, ?_⟩
  rw [← h.t]
  rcases sp_cases hs with rfl | rfl | rfl | rfl <;> simp [Ar.take, Ar.setTop, Ar.top]
theorem SpIs.put {A : Ar} {s fs zs tp i v : Int} (h : SpIs A s fs zs tp) (h0 : 0 ≤ v) (h1 : v < 18446744073709551616) : SpIs (A.put i v) s fs zs tp :=
  ⟨h.ok.put i.toNat ⟨h0, h1⟩, h.f, h.b, h.t⟩
theorem SpIs.cut {A : Ar} {s fs zs tp t : Int} (h : SpIs A s fs zs tp) (hs : isSp s = true) (h1 : fs ≤ t) (h2 : t ≤ tp) : SpIs (A.setTop s t) s fs zs t := by
  have hf := h.f
  have ht := h.t
  obtain ⟨cv, len, rng, a1, b1, a2, b2, a3, b3, a4, b4, fr⟩ := h.ok
  have hb := h.b
  rcases sp_cases hs with rfl | rfl | rfl | rfl <;> simp [Ar.first, Ar.top] at hf ht <;>
    refine ⟨⟨cv, len, rng, ?_, ?_, ?_, ?_, ?_, ?_, ?_, ?_, fr⟩, h.f, h.b, by simp [Ar.setTop, Ar.top]⟩ <;> simp [Ar.setTop] <;> omega
theorem take_word {A : Ar} {s n : Int} (ok : A.Ok) (hs : isSp s = true) (h1 : 1 ≤ n) (h2 : n ≤ A.free s) {j : Int} (j0 : 0 ≤ j) (j1 : j < n) : (A.take s n).word (A.top s + j) = 0 := by
  have hz := ok.sizes s
  have hb := ok.top_bd hs h1 h2
  have hl : ((A.take s n).words.length : Int) = (A.words.length : Int) := by
    have e1 := (ok.take hs h1 h2).len
    have e2 := ok.len
    rw [A.take_cfg] at e1; omega
  unfold Ar.word
  rw [if_pos (by omega), A.take_words, List.getD_eq_getElem?_getD]
  have : (zeroAt A.words (A.top s).toNat n.toNat)[(A.top s + j).toNat]? = some 0 := by
    unfold zeroAt
    rw [List.append_assoc, List.getElem?_append_right (by rw [List.length_take]; omega), List.getElem?_append_left (by rw [List.length_take, List.length_replicate]; omega), List.getElem?_replicate, if_pos (by rw [List.length_take]; omega)]
  rw [this]; rfl
theorem put_word_ne {A : Ar} {i j v : Int} (hi : 0 ≤ i) (hij : i ≠ j) : (A.put i v).word j = A.word j := by
  unfold Ar.word Ar.put
  by_cases h : 0 ≤ j
  · rw [if_pos h, if_pos h, List.getD_eq_getElem?_getD, List.getD_eq_getElem?_getD, List.getElem?_set_ne (by omega)]
  · rw [if_neg h, if_neg h]
def modI (n k : Int) : Int := n % k
theorem modI_bd {n : Int} : 0 ≤ modI n 4 ∧ modI n 4 ≤ 3 := by unfold modI; omega
theorem tmod4 {n : Int} (h : n < 0) : -4 < n.tmod 4 ∧ n.tmod 4 ≤ 0 ∧ (n.tmod 4 + 4).tmod 4 = n % 4 ∧ (n.tmod 4 + 4) % 4 = n % 4 := by
  have e : n.tmod 4 = -((-n).tmod 4) := by rw [Int.neg_tmod]; omega
  rw [e, Int.tmod_eq_emod_of_nonneg (show 0 ≤ -n by omega), Int.tmod_eq_emod_of_nonneg (show 0 ≤ -(-n % 4) + 4 by omega)]
  omega
end Go.Proofs.YtomgfdfgildkbaaDoor
