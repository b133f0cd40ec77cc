/- Regions that draw their order, whose stores hit cells that they load: what holds of the world hangs on whether the first store has come up. Plain words on regions, no program. -/
import Derived.OrdersHeld
import Derived.Deep.RegionHeld
namespace Go.Proofs.YtomgfdfgildkbaaDoor
section
variable {P : Program} {ops : Array Oper} {Q : Exit → Act → World → Prop} {md : Region.Mode}
/-- In two stages: T0 till the operation K has come up, T1 behind it. -/
def Two (K : Nat) (T0 T1 : World → Prop) (l : Array Bool) (w : World) : Prop := if l.getD K false = true then T1 w else T0 w
def AnyG (P : Program) (md : Region.Mode) (ops : Array Oper) (Q : Exit → Act → World → Prop) (S : Array Bool → World → Prop) : Nat → Array Bool → Act → World → Prop
  | 0, l, a, w => Region.ready md ops l = [] ∧ Q .normal a w
  | n + 1, l, a, w => (Region.ready md ops l = [] → Q .normal a w) ∧ ∀ i ∈ Region.ready md ops l, wpOp P ops Q i (fun a' w' => S (l.setIfInBounds i true) w' ∧ AnyG P md ops Q S n (l.setIfInBounds i true) a' w') a w
theorem AnyG.any {S : Array Bool → World → Prop} : ∀ (n : Nat) (l : Array Bool) (a : Act) (w : World), AnyG P md ops Q S n l a w → wpAny P md ops Q n l a w
  | 0, _, _, _, h => h
  | n + 1, _, _, _, h => ⟨h.1, fun i hi => wpOp_mono (fun a' w' h' => AnyG.any n _ a' w' h'.2) (h.2 i hi)⟩
/-- Whatever has come up, what it waits for has come up too. -/
def Whole (md : Region.Mode) (ops : Array Oper) (l : Array Bool) : Prop := ∀ j oj, ops[j]? = some oj → l.getD j false = true → ∀ e ∈ oj.after, Region.binds md e = true → l.getD e.on false = true
def wholeB (md : Region.Mode) (ops : Array Oper) (l : Array Bool) : Bool := (List.range ops.size).all fun j => match ops[j]? with | some oj => !(l.getD j false) || oj.after.all fun e => !(Region.binds md e) || l.getD e.on false | none => true
theorem wholeB_spec {l : Array Bool} (h : wholeB md ops l = true) : Whole md ops l := fun j oj hj hl e he hb => by
  have hlt : j < ops.size := (Array.getElem?_eq_some_iff.1 hj).1
  have h1 := List.all_eq_true.1 h j (List.mem_range.2 hlt)
  simp only [hj, hl, Bool.not_true, Bool.false_or] at h1
  have h2 := Array.all_eq_true'.1 h1 e he
  simpa [hb] using h2
theorem Whole.set {l : Array Bool} (h : Whole md ops l) {i : Nat} (hi : i ∈ Region.ready md ops l) : Whole md ops (l.setIfInBounds i true) := fun j oj hj hl e he hb => by
  obtain ⟨_, oi, hoi, hall⟩ := mem_ready.1 hi
  by_cases hij : i = j
  · subst hij
    have : oj = oi := Option.some.inj (hj.symm.trans hoi)
    subst this
    exact getD_set_true (hall e he hb)
  · rw [getD_set_ne false hij] at hl
    exact getD_set_true (h j oj hj hl e he hb)
theorem lists_no {l : Array Bool} {i : Nat} (h : l.getD i true = false) : ¬ l.getD i false = true := by
  intro q
  rcases Nat.lt_or_ge i l.size with c | c
  · simp [c] at h q; rw [h] at q; cases q
  · simp [Array.getElem?_eq_none c] at h
theorem AnyG.first {S : Array Bool → World → Prop} {i : Nat} {oi : Oper} {v : Value} (hi : ops[i]? = some oi) (hsel : ∀ (j : Nat) (o : Oper) cs b, ops[j]? = some o → o.op ≠ .select cs b)
    (hQ : ∀ c a w, Q (.panic c) (a.put oi.dst v) w → Q (.panic c) a w) (hS : ∀ l w, S (l.setIfInBounds i true) w ↔ S l w) :
    ∀ (n : Nat) (l : Array Bool) (a : Act) (w : World),
      (∀ j oj, ops[j]? = some oj → j ≠ i → l.getD j true = false → (∀ e ∈ oj.after, Region.binds md e = true → e.on ≠ i) → oi.apart ops oj = true) →
      i ∈ Region.ready md ops l → Whole md ops l → YieldsIf P ops (fun w => ∃ l, Whole md ops l ∧ l.getD i true = false ∧ S l w) oi v a → S l w →
      AnyG P md ops Q S n (l.setIfInBounds i true) (a.put oi.dst v) w → AnyG P md ops Q S (n + 1) l a w := by
  intro n
  induction n with
  | zero =>
    intro l a w _ hr hc hy hSw H
    have hun := (mem_ready.1 hr).1
    refine ⟨fun h => (by rw [h] at hr; cases hr), fun j hj => ?_⟩
    by_cases hji : j = i
    · subst hji
      exact hy.wpOp hi ⟨l, hc, hun, hSw⟩ ⟨(hS l w).2 hSw, H⟩
    · have := ready_mono hj hji
      rw [H.1] at this
      cases this
  | succ n ih =>
    intro l a w hfree hr hc hy hSw H
    have hun := (mem_ready.1 hr).1
    refine ⟨fun h => (by rw [h] at hr; cases hr), fun j hj => ?_⟩
    by_cases hji : j = i
    · subst hji
      exact hy.wpOp hi ⟨l, hc, hun, hSw⟩ ⟨(hS l w).2 hSw, H⟩
    · have h1 := H.2 j (ready_mono hj hji)
      obtain ⟨hjun, oj, hoj, hall⟩ := mem_ready.1 hj
      have hnot : ∀ e ∈ oj.after, Region.binds md e = true → e.on ≠ i := fun e he hb heq => lists_no hun (by rw [← heq]; exact hall e he hb)
      have h2 := wpOp_putIf hoj (hfree j oj hoj hji hjun hnot) (fun cs b => hsel i oi cs b hi) (fun cs b => hsel j oj cs b hoj) hQ hy h1
      refine wpOp_mono (fun a' w' h3 => ?_) h2
      have hS3 : S (l.setIfInBounds j true) w' := by
        have := h3.2.1
        rw [Array.setIfInBounds_comm _ _ (Ne.symm hji)] at this
        exact (hS _ _).1 this
      refine ⟨hS3, ih (l.setIfInBounds j true) a' w' (fun k ok hk hki hunk hno => ?_) (ready_mono hr (Ne.symm hji)) (hc.set hj) h3.1 hS3 ?_⟩
      · refine hfree k ok hk hki ?_ hno
        by_cases hjk : j = k
        · subst hjk; exact hjun
        · rw [getD_set_ne true hjk] at hunk; exact hunk
      · rw [Array.setIfInBounds_comm _ _ hji]
        exact h3.2.2
theorem two_set {K i : Nat} {T0 T1 : World → Prop} (h : i ≠ K) (l : Array Bool) (w : World) : Two K T0 T1 (l.setIfInBounds i true) w ↔ Two K T0 T1 l w := by
  unfold Two
  rw [getD_set_ne false h]
section
variable {K : Nat} {T0 T1 : World → Prop}
/-- What yields in whatever world is taken first. -/
theorem take_pure {i : Nat} {oi : Oper} {v : Value} {n : Nat} {l : Array Bool} {a : Act} {w : World} (hi : ops[i]? = some oi) (hs : Region.noSelect ops = true) (hf : Region.free md ops l i = true) (hr : (Region.ready md ops l).contains i = true) (hk : i ≠ K) (hc : wholeB md ops l = true)
    (hQ : ∀ c a w, Q (.panic c) (a.put oi.dst v) w → Q (.panic c) a w) (hy : YieldsIf P ops (fun _ => True) oi v a) (hS : Two K T0 T1 l w)
    (h : Two K T0 T1 (l.setIfInBounds i true) w → AnyG P md ops Q (Two K T0 T1) n (l.setIfInBounds i true) (a.put oi.dst v) w) : AnyG P md ops Q (Two K T0 T1) (n + 1) l a w :=
  AnyG.first hi (Region.noSelect_spec hs) hQ (two_set hk) n l a w (Region.free_spec hi hf) (by simpa using hr) (wholeB_spec hc) (hy.imp (fun ⟨h1, h2⟩ => ⟨h1, fun w _ => h2 w trivial⟩) id) hS (h ((two_set hk l w).2 hS))
/-- What the first store waits for is taken ahead of it. -/
theorem take_ahead {i : Nat} {oi oK : Oper} {v : Value} {n : Nat} {l : Array Bool} {a : Act} {w : World} (hi : ops[i]? = some oi) (hK : ops[K]? = some oK) (hw : (oK.after.any fun e => Region.binds md e && e.on == i) = true) (hs : Region.noSelect ops = true) (hf : Region.free md ops l i = true) (hr : (Region.ready md ops l).contains i = true) (hk : i ≠ K) (hc : wholeB md ops l = true)
    (hQ : ∀ c a w, Q (.panic c) (a.put oi.dst v) w → Q (.panic c) a w) (hy : YieldsIf P ops T0 oi v a) (hS : Two K T0 T1 l w)
    (h : Two K T0 T1 (l.setIfInBounds i true) w → AnyG P md ops Q (Two K T0 T1) n (l.setIfInBounds i true) (a.put oi.dst v) w) : AnyG P md ops Q (Two K T0 T1) (n + 1) l a w := by
  refine AnyG.first hi (Region.noSelect_spec hs) hQ (two_set hk) n l a w (Region.free_spec hi hf) (by simpa using hr) (wholeB_spec hc) (hy.imp (fun ⟨h1, h2⟩ => ⟨h1, fun w ⟨l', hl1, hl2, hl3⟩ => h2 w ?_⟩) id) hS (h ((two_set hk l w).2 hS))
  obtain ⟨e, he, hb⟩ := Array.any_eq_true'.1 hw
  simp only [Bool.and_eq_true, beq_iff_eq] at hb
  have hn : ¬ l'.getD K false = true := fun q => lists_no hl2 (by rw [← hb.2]; exact hl1 K oK hK q e he hb.1)
  unfold Two at hl3
  rwa [if_neg hn] at hl3
/-- One operation alone may come up next. -/
theorem one_next {i : Nat} {oi : Oper} {n : Nat} {l : Array Bool} {a : Act} {w : World} (hr : Region.ready md ops l = [i]) (hi : ops[i]? = some oi)
    (h : ∀ K' : Act → World → Prop, Shut (∀ a w, Two K T0 T1 (l.setIfInBounds i true) w → (Two K T0 T1 (l.setIfInBounds i true) w → AnyG P md ops Q (Two K T0 T1) n (l.setIfInBounds i true) a w) → K' a w) → if Region.wanted oi (yielded ops a.tmps) = true then Oper.wp P oi a w K' Q else K' (a.put oi.dst undef) w) :
    AnyG P md ops Q (Two K T0 T1) (n + 1) l a w := by
  refine ⟨fun q => (by rw [hr] at q; cases q), fun j hj => ?_⟩
  rw [hr] at hj
  obtain rfl := List.mem_singleton.1 hj
  exact wpOp_step hi (fun K' hK => h K' (fun a w hS hW => hK a w ⟨hS, hW hS⟩))
theorem none_next {n : Nat} {l : Array Bool} {a : Act} {w : World} (hr : Region.ready md ops l = []) (h : Q .normal a w) : AnyG P md ops Q (Two K T0 T1) n l a w := by
  cases n with
  | zero => exact ⟨hr, h⟩
  | succ n => exact ⟨fun _ => h, by rw [hr]; simp⟩
theorem region_two {id : Nat} {a : Act} {w : World} (K : Nat) (T0 T1 : World → Prop) (hm : P.follows .mixedOrders = true) (hS : Two K T0 T1 (Array.replicate ops.size false) w.drew)
    (h : Two K T0 T1 (Array.replicate ops.size false) w.drew → AnyG P .any ops Q (Two K T0 T1) ops.size (Array.replicate ops.size false) a w.drew) : (Code.region id ops true).wp P Q a w :=
  wp_region_any hm (AnyG.any _ _ _ _ (h hS))
theorem two_0 {l : Array Bool} {w : World} (hl : l.getD K false = false) (h : T0 w) : Two K T0 T1 l w := by unfold Two; rw [hl]; simpa using h
theorem two_1 {l : Array Bool} {w : World} (hl : l.getD K false = true) (h : T1 w) : Two K T0 T1 l w := by unfold Two; rw [hl]; simpa using h
end
end
end Go.Proofs.YtomgfdfgildkbaaDoor
