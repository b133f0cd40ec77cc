/- Merged texts: Lg24, Lg25, Tu1, Tu2, Tu3, Lp1, Lp2, Dl1, Og1, Og2, Og3, Lrk, Leaving. No condition of its own: each text says what it holds. -/
import Derived.Test.YtogpgkoelplknaaDoorGDm4
import Derived.Test.YtogpgkoelplknaaDoorRows
import Derived.ChangeArms
import Derived.DataReads
import Derived.Lib.SmallJoins
import Derived.LaidMore
import Derived.OpenShut
import Derived.Carry
import Derived.Leaving
import Derived.Conc.Holds
import Derived.Lib.LaidTab
import Derived.Deep.DeepHandedRow
import Derived.SevenTiedAt
import Derived.JoinedCond
import Derived.Conc.LeavingOf
section
/- Lens: the document's way to the distances, and to the path: plain words. No condition. -/

namespace Go.Proofs.YtogpgkoelplknaaDoor
open Go.RowKit PLensPaths
set_option linter.unusedVariables false
/-- Round d, the objects below x gone through. -/
structure Lv (G : Gr) (tg d x : Int) (H : List Int) : Prop where
  hl : H.length = G.obs.length + 1
  hd : fa H tg = 1
  z : fa H 0 = 0
  low : ∀ y, 1 ≤ y → y ≤ (G.obs.length : Int) → 0 ≤ fa H y ∧ fa H y ≤ d + 1
  one : ∀ y, 1 ≤ y → y ≤ (G.obs.length : Int) → fa H y = 1 → y = tg
  back : ∀ y, 1 ≤ y → y ≤ (G.obs.length : Int) → 2 ≤ fa H y → ∃ u ∈ wayOf G y, fa H u + 1 = fa H y
  old : ∀ y u, 1 ≤ y → y ≤ (G.obs.length : Int) → u ∈ wayOf G y → 0 < fa H u → fa H u < d → 0 < fa H y ∧ fa H y ≤ fa H u + 1
  cur : ∀ y u, 1 ≤ y → y < x → y ≤ (G.obs.length : Int) → u ∈ wayOf G y → fa H u = d → 0 < fa H y
theorem Lv.set {G : Gr} (R : Rng G) {tg d x : Int} {H : List Int} (h : Lv G tg d x H) (x0 : 1 ≤ x) (x1 : x ≤ (G.obs.length : Int)) (d0 : 1 ≤ d) {u : Int} (hu : u ∈ wayOf G x) (hud : fa H u = d) (hx : fa H x = 0) : Lv G tg d x (H.set x.toNat (d + 1)) := by
  have hl := h.hl
  have fs : ∀ y : Int, 0 ≤ y → fa (H.set x.toNat (d + 1)) y = if y = x then d + 1 else fa H y := fun y hy => fa_set (by omega) hy
  have tx : tg ≠ x := fun e => by have := h.hd; rw [e, hx] at this; omega
  have tr : 0 ≤ tg ∨ tg < 0 := by omega
  have ftg : fa (H.set x.toNat (d + 1)) tg = fa H tg := by
    rcases tr with q | q
    · rw [fs tg q, if_neg tx]
    · have e0 : tg.toNat = (0 : Int).toNat := by omega
      have a : fa (H.set x.toNat (d + 1)) tg = fa (H.set x.toNat (d + 1)) 0 := by unfold fa; rw [e0]
      have b : fa H tg = fa H 0 := by unfold fa; rw [e0]
      rw [a, b, fs 0 (by omega), if_neg (by omega)]
  refine ⟨by simp [hl], by rw [ftg]; exact h.hd, by rw [fs 0 (by omega), if_neg (by omega)]; exact h.z, fun y y0 y1 => ?_, fun y y0 y1 e => ?_, fun y y0 y1 e => ?_, fun y v y0 y1 hv v0 v1 => ?_, fun y v y0 yx y1 hv e => ?_⟩
  · rw [fs y (by omega)]
    split
    · omega
    · exact h.low y y0 y1
  · rw [fs y (by omega)] at e
    split at e
    · omega
    · exact h.one y y0 y1 e
  · rw [fs y (by omega)] at e ⊢
    by_cases q : y = x
    · rw [if_pos q]
      subst q
      have ur := wayOf_rng R y0 y1 hu
      refine ⟨u, hu, ?_⟩
      rw [fs u (by omega), if_neg (fun c => by rw [c, hx] at hud; omega), hud]
    · rw [if_neg q] at e ⊢
      obtain ⟨v, hv, e2⟩ := h.back y y0 y1 e
      have vr := wayOf_rng R y0 y1 hv
      refine ⟨v, hv, ?_⟩
      rw [fs v (by omega), if_neg (fun c => by rw [c, hx] at e2; omega)]
      exact e2
  · have vr := wayOf_rng R y0 y1 hv
    rw [fs v (by omega)] at v0 v1 ⊢
    rw [fs y (by omega)]
    by_cases q : v = x
    · rw [if_pos q] at v1; omega
    · rw [if_neg q] at v0 v1 ⊢
      have := h.old y v y0 y1 hv v0 v1
      by_cases q2 : y = x
      · rw [q2, hx] at this; omega
      · rw [if_neg q2]; exact this
  · have vr := wayOf_rng R y0 y1 hv
    rw [fs v (by omega)] at e
    rw [fs y (by omega)]
    by_cases q : v = x
    · rw [if_pos q] at e; omega
    · rw [if_neg q] at e
      rw [if_neg (by omega)]
      exact h.cur y v y0 yx y1 hv e
theorem Lv.next {G : Gr} {tg d x : Int} {H : List Int} (h : Lv G tg d x H) (hx : ∀ u ∈ wayOf G x, fa H u = d → 0 < fa H x) : Lv G tg d (x + 1) H :=
  ⟨h.hl, h.hd, h.z, h.low, h.one, h.back, h.old, fun y u y0 yx y1 hu e => by
    by_cases q : y < x
    · exact h.cur y u y0 q y1 hu e
    · obtain rfl : y = x := by omega
      exact hx u hu e⟩
theorem Lv.round {G : Gr} {tg d x : Int} {H : List Int} (h : Lv G tg d x H) (hx : (G.obs.length : Int) < x) : Lv G tg (d + 1) 1 H :=
  ⟨h.hl, h.hd, h.z, fun y y0 y1 => by have := h.low y y0 y1; omega, h.one, h.back, fun y u y0 y1 hu u0 u1 => by
    by_cases q : fa H u < d
    · exact h.old y u y0 y1 hu u0 q
    · have a := h.cur y u y0 (by omega) y1 hu (by omega)
      have b := h.low y y0 y1
      exact ⟨a, by omega⟩, fun y u y0 yx => by omega⟩
theorem Lv.start {G : Gr} {tg : Int} (t0 : 1 ≤ tg) (t1 : tg ≤ (G.obs.length : Int)) : Lv G tg 1 1 ((List.replicate (G.obs.length + 1) 0).set tg.toNat 1) := by
  have fr : ∀ y, fa (List.replicate (G.obs.length + 1) 0) y = 0 := fun y => by
    unfold fa
    rw [List.getD_eq_getElem?_getD, List.getElem?_replicate]; split <;> rfl
  have fs : ∀ y : Int, 0 ≤ y → fa ((List.replicate (G.obs.length + 1) 0).set tg.toNat 1) y = if y = tg then 1 else 0 := fun y hy => by
    rw [fa_set (by simp; omega) hy, fr]
  refine ⟨by simp, by rw [fs tg (by omega), if_pos rfl], by rw [fs 0 (by omega), if_neg (by omega)], fun y y0 y1 => ?_, fun y y0 y1 e => ?_, fun y y0 y1 e => ?_, fun y u y0 y1 hu u0 u1 => by omega, fun y u y0 yx => by omega⟩
  · rw [fs y (by omega)]; split <;> omega
  · rw [fs y (by omega)] at e; split at e
    · assumption
    · omega
  · rw [fs y (by omega)] at e; split at e <;> omega
theorem lv_list {G : Gr} (R : Rng G) {tg d x : Int} {H : List Int} (h : Lv G tg d x H) : ∀ (n : Nat) (y : Int), 1 ≤ y → y ≤ (G.obs.length : Int) → fa H y = (n : Int) + 1 → ∃ L : List Int, L.Nodup ∧ L.length = n + 1 ∧ ∀ u ∈ L, (1 ≤ u ∧ u ≤ (G.obs.length : Int)) ∧ fa H u ≤ (n : Int) + 1 := by
  intro n
  induction n with
  | zero => intro y h0 h1 e; exact ⟨[y], by simp, rfl, fun u hu => by simp at hu; subst hu; exact ⟨⟨h0, h1⟩, by omega⟩⟩
  | succ n ih =>
    intro y h0 h1 e
    obtain ⟨u, hu, e2⟩ := h.back y h0 h1 (by omega)
    have ur := wayOf_rng R h0 h1 hu
    obtain ⟨L, l1, l2, l3⟩ := ih u ur.1 ur.2 (by omega)
    refine ⟨y :: L, List.nodup_cons.2 ⟨fun c => by have := (l3 y c).2; omega, l1⟩, by simp [l2], fun v hv => ?_⟩
    rcases List.mem_cons.1 hv with rfl | c
    · exact ⟨⟨h0, h1⟩, by omega⟩
    · have := l3 v c; exact ⟨this.1, by omega⟩
theorem Lv.top {G : Gr} (R : Rng G) {tg d x : Int} {H : List Int} (h : Lv G tg d x H) {y : Int} (h0 : 1 ≤ y) (h1 : y ≤ (G.obs.length : Int)) : fa H y ≤ (G.obs.length : Int) := by
  by_cases q : 1 ≤ fa H y
  · obtain ⟨L, l1, l2, l3⟩ := lv_list R h (fa H y - 1).toNat y h0 h1 (by omega)
    have := nodup_len l1 (fun y hy => (l3 y hy).1)
    omega
  · omega
def less (H : List Int) : List Int := H.map fun x => x - 1
end Go.Proofs.YtogpgkoelplknaaDoor
end
section
/- Lens: middenref17.Path walked. No condition. -/

namespace Go.Proofs.YtogpgkoelplknaaDoor
open Go.RowKit Go.BigFrame PLensPaths Go.Proofs.YtogpgkoelplknaaDoorW.PrintWords Go.Proofs.YtogpgkoelplknaaDoorW.PrintMore
set_option linter.unusedVariables false
end Go.Proofs.YtogpgkoelplknaaDoor
end
section
/- middenlaw17.turned: a world in which ints have turned into ints reads as a graph of the same shape. No condition. -/


namespace Go.Proofs.YtogpgkoelplknaaDoor
open Go.RowKit Go.BigFrame PLensPaths Go.Proofs.YtogpgkoelplknaaDoorW.PrintWords Go.Proofs.YtogpgkoelplknaaDoorW.PrintMore
set_option linter.unusedVariables false
def LikeV (u u' : Value) : Prop := u' = u ∨ ((∃ x, u = .int .i64 x) ∧ ∃ y, u' = .int .i64 y)
def IntSame (w w' : World) : Prop := ∀ a u, w.cell? a = some u → ∃ u', w'.cell? a = some u' ∧ LikeV u u'
theorem LikeV.trans {a b c : Value} (h : LikeV a b) (k : LikeV b c) : LikeV a c := by
  rcases h with rfl | ⟨⟨x, rfl⟩, y, rfl⟩
  · exact k
  · rcases k with rfl | ⟨_, z, rfl⟩
    · exact .inr ⟨⟨x, rfl⟩, y, rfl⟩
    · exact .inr ⟨⟨x, rfl⟩, z, rfl⟩
theorem IntSame.refl (w : World) : IntSame w w := fun a u h => ⟨u, h, .inl rfl⟩
theorem IntSame.trans {w w1 w2 : World} (h : IntSame w w1) (k : IntSame w1 w2) : IntSame w w2 := fun a u hu => by
  obtain ⟨u', h1, h2⟩ := h a u hu
  obtain ⟨u'', h3, h4⟩ := k a u' h1
  exact ⟨u'', h3, h2.trans h4⟩
def LikeC (c c' : List Value) : Prop := c'.length = c.length ∧ ∀ (i : Nat) (u : Value), c[i]? = some u → ∃ u', c'[i]? = some u' ∧ LikeV u u'
/-- What an element's cells say when ints have turned. φ: its shape. -/
def Turns {α β : Type} (d : Kd α) (φ : α → β) (w w' : World) : Prop := ∀ x c c', d.K w x c → LikeC c c' → ∃ x', φ x' = φ x ∧ d.K w' x' c'
theorem row_turns {α β : Type} {d : Kd α} {φ : α → β} {w w' : World} (ht : Turns d φ w w') (hs : IntSame w w') {A : Option Addr} {n : Nat} {xs : List α} (h : d.C w A n xs) : ∃ xs', xs'.map φ = xs.map φ ∧ d.C w' A n xs' := by
  obtain ⟨hl, hb, hr⟩ := h
  rcases Nat.eq_zero_or_pos n with h0 | hp
  · exact ⟨xs, rfl, hl, hb, fun h => by omega⟩
  · obtain ⟨ad, rfl, hc⟩ := hr hp
    have one : ∀ j : Fin n, ∃ p', φ p' = φ (xs[j.1]'(by omega)) ∧ ∃ c', c'.length = d.sz ∧ d.K w' p' c' ∧ ∀ i u, c'[i]? = some u → w'.cell? (ad.add (j.1 * d.sz + i)) = some u := by
      intro j
      obtain ⟨c, c1, c2, c3⟩ := hc j.1 _ (List.getElem?_eq_getElem (show j.1 < xs.length by omega))
      have cell : ∀ i : Fin c.length, ∃ u', w'.cell? (ad.add (j.1 * d.sz + i.1)) = some u' ∧ LikeV c[i.1] u' := fun i => hs _ _ (c3 i.1 _ (List.getElem?_eq_getElem i.2))
      have lc : LikeC c (List.ofFn fun i => Classical.choose (cell i)) := ⟨by simp, fun i u hu => by
        obtain ⟨hi, rfl⟩ := List.getElem?_eq_some_iff.1 hu
        exact ⟨_, by simp [hi], (Classical.choose_spec (cell ⟨i, hi⟩)).2⟩⟩
      obtain ⟨x', e1, e2⟩ := ht _ _ _ c2 lc
      refine ⟨x', e1, _, by simpa using c1, e2, fun i u hu => ?_⟩
      obtain ⟨hi, rfl⟩ := List.getElem?_eq_some_iff.1 hu
      have hi' : i < c.length := by simpa using hi
      have := (Classical.choose_spec (cell ⟨i, hi'⟩)).1
      simpa using this
    refine ⟨List.ofFn fun j => Classical.choose (one j), ?_, by simp, hb, fun _ => ⟨ad, rfl, fun j p hj => ?_⟩⟩
    · apply List.ext_getElem
      · simp; omega
      · intro i h1 h2
        have hi : i < n := by simpa using h1
        have := (Classical.choose_spec (one ⟨i, hi⟩)).1
        simpa using this
    · obtain ⟨hi, rfl⟩ := List.getElem?_eq_some_iff.1 hj
      have hi' : j < n := by simpa using hi
      obtain ⟨c', q1, q2, q3⟩ := (Classical.choose_spec (one ⟨j, hi'⟩)).2
      exact ⟨c', q1, by simpa using q2, q3⟩
theorem like_one {u : Value} {c' : List Value} (h : LikeC [u] c') : ∃ u', c' = [u'] ∧ LikeV u u' := by
  obtain ⟨u', h1, h2⟩ := h.2 0 u rfl
  have hl : c'.length = 1 := h.1
  match c', hl, h1 with
  | [v], _, h1 => exact ⟨v, rfl, by cases h1; exact h2⟩
theorem turns_int (w w' : World) : Turns (Kd.int .i64) (fun _ => ()) w w' := by
  rintro x c c' (rfl : c = [_]) hl
  obtain ⟨u', rfl, q⟩ := like_one hl
  rcases q with rfl | ⟨_, y, rfl⟩
  · exact ⟨x, rfl, rfl⟩
  · exact ⟨y, rfl, rfl⟩
theorem turns_word (w w' : World) : Turns (Kd.int .u64) (fun _ => ()) w w' := by
  rintro x c c' (rfl : c = [_]) hl
  obtain ⟨u', rfl, q⟩ := like_one hl
  rcases q with rfl | ⟨⟨y, e⟩, _⟩
  · exact ⟨x, rfl, rfl⟩
  · cases e
theorem turns_slice {α β : Type} {d : Kd α} {φ : α → β} {w w' : World} (e : Nat) (ht : Turns d φ w w') (hs : IntSame w w') : Turns (Kd.slice e d) (fun xs => xs.map φ) w w' := by
  rintro x c c' ⟨A, c0, rfl, hlc, hC⟩ hl
  obtain ⟨u', rfl, q⟩ := like_one hl
  rcases q with rfl | ⟨⟨y, e⟩, _⟩
  · obtain ⟨xs', e1, e2⟩ := row_turns ht hs hC
    have hlen : xs'.length = x.length := by simpa using congrArg List.length e1
    exact ⟨xs', e1, A, c0, by rw [hlen], by omega, by rw [hlen]; exact e2⟩
  · cases e
theorem like_cons {u : Value} {c c' : List Value} (h : LikeC (u :: c) c') : ∃ u' t', c' = u' :: t' ∧ LikeV u u' ∧ LikeC c t' := by
  obtain ⟨u', h1, h2⟩ := h.2 0 u rfl
  have hl : c'.length = c.length + 1 := by simpa using h.1
  match c', hl, h1 with
  | v :: t', hl, h1 =>
    cases h1
    exact ⟨_, t', rfl, h2, by simpa using hl, fun i x hx => by simpa using h.2 (i + 1) x (by simpa using hx)⟩
theorem like_nil {c' : List Value} (h : LikeC [] c') : c' = [] := List.length_eq_zero_iff.1 h.1
theorem like_int {x : Int} {u' : Value} (h : LikeV (.int .i64 x) u') : ∃ y, u' = .int .i64 y := by
  rcases h with rfl | ⟨_, y, rfl⟩
  · exact ⟨x, rfl⟩
  · exact ⟨y, rfl⟩
theorem like_word {x : Int} {u' : Value} (h : LikeV (.int .u64 x) u') : u' = .int .u64 x := by
  rcases h with rfl | ⟨⟨y, e⟩, _⟩
  · rfl
  · cases e
theorem like_slice {A : Option Addr} {n c : Nat} {u' : Value} (h : LikeV (.slice A n c) u') : u' = .slice A n c := by
  rcases h with rfl | ⟨⟨y, e⟩, _⟩
  · rfl
  · cases e
theorem ints_turn {w w' : World} (hs : IntSame w w') {A : Option Addr} {n : Nat} {xs : List Int} (h : Kd.C (Kd.int .i64) w A n xs) : ∃ xs', xs'.length = xs.length ∧ Kd.C (Kd.int .i64) w' A n xs' := by
  obtain ⟨xs', e, hC⟩ := row_turns (turns_int w w') hs h
  exact ⟨xs', by simpa using congrArg List.length e, hC⟩
theorem words_turn {w w' : World} (hs : IntSame w w') {A : Option Addr} {n : Nat} {xs : List Int} (h : Kd.C (Kd.int .u64) w A n xs) : ∃ xs', xs'.length = xs.length ∧ Kd.C (Kd.int .u64) w' A n xs' := by
  obtain ⟨xs', e, hC⟩ := row_turns (turns_word w w') hs h
  exact ⟨xs', by simpa using congrArg List.length e, hC⟩
theorem turns_list (w w' : World) (hs : IntSame w w') : Turns kInts List.length w w' := by
  intro x c c' hK hl
  obtain ⟨x', e, hK'⟩ := turns_slice 3 (turns_int w w') hs x c c' hK hl
  exact ⟨x', by simpa using congrArg List.length e, hK'⟩
def obShape (o : Ob) : Nat × Nat := (o.f3.length, o.f4.length)
theorem turns_ob (w w' : World) (hs : IntSame w w') : Turns kOb obShape w w' := by
  intro x c c' hK hl
  obtain ⟨A3, c3, A4, c4, rfl, l3, g3, l4, g4⟩ := k59_open hK
  obtain ⟨u0, t0, rfl, v0, hl⟩ := like_cons hl
  obtain ⟨u1, t1, rfl, v1, hl⟩ := like_cons hl
  obtain ⟨u2, t2, rfl, v2, hl⟩ := like_cons hl
  obtain ⟨u3, t3, rfl, v3, hl⟩ := like_cons hl
  obtain ⟨u4, t4, rfl, v4, hl⟩ := like_cons hl
  obtain rfl := like_nil hl
  obtain rfl := like_word v0
  obtain ⟨y1, rfl⟩ := like_int v1
  obtain ⟨y2, rfl⟩ := like_int v2
  obtain rfl := like_slice v3
  obtain rfl := like_slice v4
  obtain ⟨p3, e3, g3'⟩ := ints_turn hs g3
  obtain ⟨p4, e4, g4'⟩ := words_turn hs g4
  rw [← e3] at l3 g3' ⊢
  rw [← e4] at l4 g4' ⊢
  exact ⟨⟨x.f0, y1, y2, p3, p4⟩, by simp [obShape, e3, e4], k59_mk w' ⟨x.f0, y1, y2, p3, p4⟩ l3 g3' l4 g4'⟩
/-- Of the same shape. -/
structure Like (G G' : Gr) : Prop where
  obs : G'.obs.map obShape = G.obs.map obShape
  slots : G'.slots.map (fun fr => fr.map List.length) = G.slots.map (fun fr => fr.map List.length)
  hands : G'.hands.length = G.hands.length
  reg : G'.reg.length = G.reg.length
  queue : G'.queue.length = G.queue.length
theorem gat_turned {w w' : World} {g : Gv} {G : Gr} (h : GAt w g G) (hs : IntSame w w') : ∃ G', Like G G' ∧ G'.next = G.next ∧ GAt w' g G' := by
  obtain ⟨r0, l0, r1, l1, r2, l2, r3, l3, r4, l4⟩ := h
  obtain ⟨o', e0, q0⟩ := row_turns (turns_ob w w' hs) hs r0
  obtain ⟨s', e1, q1⟩ := row_turns (turns_slice 24 (turns_list w w' hs) hs) hs r1
  obtain ⟨h', e2, q2⟩ := ints_turn hs r2
  obtain ⟨p', e3, q3⟩ := ints_turn hs r3
  obtain ⟨t', e4, q4⟩ := ints_turn hs r4
  have f0 : o'.length = G.obs.length := by simpa using congrArg List.length e0
  have f1 : s'.length = G.slots.length := by simpa using congrArg List.length e1
  rw [← f0] at q0 l0
  rw [← f1] at q1 l1
  rw [← e2] at q2 l2
  rw [← e3] at q3 l3
  rw [← e4] at q4 l4
  exact ⟨⟨o', s', h', p', t', G.next⟩, ⟨e0, e1, e2, e3, e4⟩, rfl, q0, l0, q1, l1, q2, l2, q3, l3, q4, l4⟩
theorem Like.ob {G G' : Gr} (h : Like G G') (i : Nat) : (G'.obs.getD i default).f3.length = (G.obs.getD i default).f3.length := by
  have e := congrArg (fun l => l[i]?) h.obs
  simp only [List.getElem?_map] at e
  rw [List.getD_eq_getElem?_getD, List.getD_eq_getElem?_getD]
  cases h1 : G'.obs[i]? with
  | none =>
    cases h2 : G.obs[i]? with
    | none => rfl
    | some o => rw [h1, h2] at e; cases e
  | some o' =>
    cases h2 : G.obs[i]? with
    | none => rw [h1, h2] at e; cases e
    | some o =>
      rw [h1, h2] at e
      simp only [Option.map_some, Option.some.injEq, obShape, Prod.mk.injEq] at e
      exact e.1
theorem Like.olen {G G' : Gr} (h : Like G G') : G'.obs.length = G.obs.length := by simpa using congrArg List.length h.obs
theorem Like.slen {G G' : Gr} (h : Like G G') : G'.slots.length = G.slots.length := by simpa using congrArg List.length h.slots
theorem slotsP_len (l : List (List (List Int))) : (slotsP l).length = ((l.map (fun fr => fr.map List.length)).map List.sum).sum := by
  unfold slotsP
  induction l with
  | nil => rfl
  | cons fr l ih =>
    simp only [List.map_cons, List.flatten_cons, List.length_append, ih, List.sum_cons, List.length_flatten]
theorem Like.slotsP {G G' : Gr} (h : Like G G') : (slotsP G'.slots).length = (slotsP G.slots).length := by rw [slotsP_len, slotsP_len, h.slots]
theorem sumTo_eq {a b : Int → Nat} (h : ∀ x, a x = b x) (n : Nat) : sumTo a n = sumTo b n := by
  have : a = b := funext h
  rw [this]
theorem Like.allPs {G G' : Gr} (h : Like G G') : allPs G' = allPs G := by
  unfold Go.Proofs.YtogpgkoelplknaaDoor.allPs
  rw [h.olen]
  exact sumTo_eq (fun x => h.ob _) _
theorem sumLen_eq (l : List (List Int)) : sumLen l = (l.map List.length).sum := by
  induction l with
  | nil => rfl
  | cons f l ih => simp [sumLen, ih]
theorem Like.mem {α β : Type} {φ : α → β} {l l' : List α} (h : l'.map φ = l.map φ) {x' : α} (hx : x' ∈ l') : ∃ x, x ∈ l ∧ φ x = φ x' := by
  have : φ x' ∈ l'.map φ := List.mem_map_of_mem hx
  rw [h] at this
  obtain ⟨x, h1, h2⟩ := List.mem_map.1 this
  exact ⟨x, h1, h2⟩
theorem Small.turned {G G' : Gr} (s : Small G) (h : Like G G') : Small G' := by
  have bd := s.bd
  refine ⟨⟨by rw [h.olen]; exact bd.n, by rw [h.slen]; exact bd.m, by rw [h.hands]; exact bd.h, by rw [h.reg]; exact bd.r, by rw [h.queue]; exact bd.q, fun o ho => ?_⟩, fun fr hfr => ?_, ?_, ?_⟩
  · obtain ⟨x, h1, h2⟩ := Like.mem h.obs ho
    have := bd.i64 x h1
    unfold obShape at h2
    simp only [Prod.mk.injEq] at h2
    omega
  · obtain ⟨x, h1, h2⟩ := Like.mem h.slots hfr
    obtain ⟨q1, q2, q3⟩ := s.fr x h1
    have h2 : x.map List.length = fr.map List.length := h2
    have hl : x.length = fr.length := by simpa using congrArg List.length h2
    rw [sumLen_eq] at q2
    refine ⟨by omega, by rw [sumLen_eq, ← h2]; exact q2, fun f hf => ?_⟩
    obtain ⟨y, y1, y2⟩ := Like.mem h2.symm hf
    have := q3 y y1
    omega
  · have := s.m
    unfold initP at this ⊢
    simp only [List.length_append] at this ⊢
    rw [h.slotsP, h.allPs, h.hands, h.queue, h.reg]
    exact this
  · have := s.hold
    unfold holdP at this ⊢
    simp only [List.length_append] at this ⊢
    rw [h.slotsP, h.hands, h.queue]
    exact this
end Go.Proofs.YtogpgkoelplknaaDoor
end
section
/- middenlaw17.turned: the stores. No condition. -/

namespace Go.Proofs.YtogpgkoelplknaaDoor
open Go.RowKit Go.BigFrame PLensPaths Go.Proofs.YtogpgkoelplknaaDoorW.PrintWords Go.Proofs.YtogpgkoelplknaaDoorW.PrintMore
set_option linter.unusedVariables false
theorem setCell_blk {w : World} {p : Addr} {c : Array Value} {t : TypeId} {fz : Nat × Nat} (h : w.heap[p.block]? = some (.cells c t fz)) (hp : p.spot = none) (v : Value) : (w.setCell p v).heap[p.block]? = some (.cells (c.setIfInBounds p.off v) t fz) := by
  have hs : p.spot.isSome = false := by rw [hp]; rfl
  unfold World.setCell
  simp only [Array.getElem?_modify, if_pos, h, Option.map_some]
  simp [hs]
theorem cell_blk {w : World} {p : Addr} {u : Value} (h : w.cell? p = some u) : p.spot = none ∧ ∃ c t fz, w.heap[p.block]? = some (.cells c t fz) ∧ c[p.off]? = some u := by
  unfold World.cell? at h
  split at h
  · rename_i c t fz hb
    split at h
    · cases h
    · rename_i hs
      refine ⟨by cases hq : p.spot with | none => rfl | some z => rw [hq] at hs; simp at hs, c, t, fz, hb, h⟩
  · cases h
/-- Ints have turned, at b and above. -/
structure Turn (b : Nat) (w w' : World) : Prop where
  same : IntSame w w'
  fz : ∀ a, w.frozen? a = false → w'.frozen? a = false
  bel : Below b w w'
theorem Turn.refl (b : Nat) (w : World) : Turn b w w := ⟨IntSame.refl w, fun _ h => h, Below.refl _ _⟩
theorem Turn.trans {b : Nat} {w w1 w2 : World} (h : Turn b w w1) (k : Turn b w1 w2) : Turn b w w2 := ⟨h.same.trans k.same, fun a ha => k.fz a (h.fz a ha), h.bel.trans k.bel⟩
theorem Turn.one {b : Nat} {w : World} {p : Addr} {x : Int} (h : w.cell? p = some (.int .i64 x)) (hb : b ≤ p.block) (y : Int) : Turn b w (w.setCell p (.int .i64 y)) := by
  obtain ⟨hp, c, t, fz, h1, h2⟩ := cell_blk h
  have hn := setCell_blk h1 hp (.int .i64 y)
  refine ⟨fun a u hu => ?_, fun a ha => ?_, (Below.refl b w).setCell hb _⟩
  · by_cases e : a.block = p.block
    · obtain ⟨ha, c', t', fz', h3, h4⟩ := cell_blk hu
      rw [e, h1] at h3
      cases h3
      have hc : (w.setCell p (.int .i64 y)).cell? a = (c.setIfInBounds p.off (.int .i64 y))[a.off]? := by
        unfold World.cell?
        rw [e, hn]
        simp [ha]
      by_cases e2 : p.off = a.off
      · rw [e2] at h2 hc
        rw [h2] at h4
        cases h4
        have hlt := (Array.getElem?_eq_some_iff.1 h2).1
        exact ⟨.int .i64 y, by rw [hc]; simp [hlt], .inr ⟨⟨x, rfl⟩, y, rfl⟩⟩
      · exact ⟨u, by rw [hc, Array.getElem?_setIfInBounds_ne e2]; exact h4, .inl rfl⟩
    · exact ⟨u, (cell_far e _).trans hu, .inl rfl⟩
  · by_cases e : a.block = p.block
    · unfold World.frozen? at ha ⊢
      rw [e, h1] at ha
      rw [e, hn]
      exact ha
    · unfold World.frozen? at ha ⊢
      rw [Below.heap_setCell w p _ a.block e]
      exact ha
theorem Turn.alloc {b : Nat} {w : World} (hb : b ≤ w.heap.size) (cs : Array Value) (t : TypeId) : Turn b w (w.alloc (.cells cs t (0, 0))) := by
  have h := (Below.refl w.heap.size w).alloc (Nat.le_refl _) (.cells cs t (0, 0))
  refine ⟨fun a u hu => ⟨u, cell_later h hu, .inl rfl⟩, fun a ha => ?_, h.mono hb⟩
  rcases Nat.lt_trichotomy a.block w.heap.size with q | q | q
  · unfold World.frozen? at ha ⊢
    rw [h.block a.block q]
    exact ha
  · unfold World.frozen?
    rw [q, blk_new w _]
    simp
  · unfold World.frozen?
    have : (w.alloc (.cells cs t (0, 0))).heap[a.block]? = none := Array.getElem?_eq_none (by rw [alloc_sz]; omega)
    rw [this]
theorem Sub.elem {α : Type} {d : Kd α} {e : Nat} {w : World} {b : Nat} {ok : Nat → Prop} {xs : List α} {A : Option Addr} {n c : Nat} (h : (kSub e d).M w b ok xs [.slice A n c]) (z : α) (j : Nat) (hj : j < xs.length) :
    ∃ g cs, A = some ⟨g, 0, none⟩ ∧ b ≤ g ∧ cs.length = d.sz ∧ d.M w b ok (xs.getD j z) cs ∧ (∀ i u, cs[i]? = some u → w.cell? ⟨g, j * d.sz + i, none⟩ = some u) ∧ ∀ o, w.frozen? ⟨g, o, none⟩ = false := by
  obtain ⟨v, full, fl, e1, hR, m, hm, hxs, A', c', cf, hfull, hv, hc⟩ := h
  cases e1
  cases hv
  have hl : xs.length = m := by rw [hxs, List.length_take]; omega
  have hjf : j < fl.length := by omega
  obtain ⟨g, cap, hf, hb, _, cells, hcl⟩ := Kd.R_form hR (by omega)
  rw [hf] at hfull
  cases hfull
  rw [hf] at hR
  obtain ⟨cs, h1, h2, h3, _⟩ := Kd.R_elem hR z (j : Int) (by omega) (by omega)
  have hx : fl.getD (j : Int).toNat z = xs.getD j z := by
    rw [hxs, List.getD_eq_getElem?_getD, List.getD_eq_getElem?_getD, List.getElem?_take_of_lt (by omega)]; rfl
  rw [hx] at h2
  exact ⟨g, cs, rfl, hb, h1, d.M_mono (fun k hk => hk.1) h2, h3, (blk_at hcl).2⟩
theorem kObS_open {w : World} {b : Nat} {ok : Nat → Prop} {x : Ob} {cs : List Value} (h : kObS.M w b ok x cs) : ∃ v3 v4, cs = [.int .u64 x.f0, .int .i64 x.f1, .int .i64 x.f2, v3, v4] ∧ kS1.M w b ok x.f3 [v3] ∧ kSW.M w b ok x.f4 [v4] := by
  obtain ⟨_, _, rfl, rfl, _, _, rfl, rfl, _, _, rfl, rfl, c3, c4, rfl, h3, h4⟩ := h
  obtain ⟨v3, a3, b3, rfl, r3⟩ := h3
  obtain ⟨v4, a4, b4, rfl, r4⟩ := h4
  exact ⟨v3, v4, rfl, ⟨v3, a3, b3, rfl, r3⟩, ⟨v4, a4, b4, rfl, r4⟩⟩
end Go.Proofs.YtogpgkoelplknaaDoor
end
section
/- middenlaw17.turned walked. No condition. -/

namespace Go.Proofs.YtogpgkoelplknaaDoor
open Go.RowKit Go.BigFrame PLensPaths Go.Proofs.YtogpgkoelplknaaDoorW.PrintWords Go.Proofs.YtogpgkoelplknaaDoorW.PrintMore
set_option linter.unusedVariables false
theorem Turn.slice {b : Nat} {w W : World} (h : Turn b w W) {a : Addr} {A : Option Addr} {n c : Nat} (hc : w.cell? a = some (.slice A n c)) : W.cell? a = some (.slice A n c) := by
  obtain ⟨u', h1, h2⟩ := h.same a _ hc
  rw [like_slice h2] at h1
  exact h1
theorem Turn.int {b : Nat} {w W : World} (h : Turn b w W) {a : Addr} {x : Int} (hc : w.cell? a = some (.int .i64 x)) : ∃ y, W.cell? a = some (.int .i64 y) := by
  obtain ⟨u', h1, h2⟩ := h.same a _ hc
  obtain ⟨y, rfl⟩ := like_int h2
  exact ⟨y, h1⟩
/-- A cell of one's own that holds an int. -/
theorem Sub.int {w : World} {b : Nat} {ok : Nat → Prop} {xs : List Int} {A : Option Addr} {n c : Nat} (h : kS1.M w b ok xs [.slice A n c]) (j : Nat) (hj : j < xs.length) :
    ∃ g, A = some ⟨g, 0, none⟩ ∧ b ≤ g ∧ w.cell? ⟨g, j, none⟩ = some (.int .i64 (xs.getD j 0)) ∧ w.frozen? ⟨g, j, none⟩ = false := by
  obtain ⟨g, cs, e, hb, hl, hM, hc, hf⟩ := Sub.elem h 0 j hj
  have hM' : cs = [.int .i64 (xs.getD j 0)] := hM
  subst hM'
  have := hc 0 _ rfl
  exact ⟨g, e, hb, by simpa [Kd.int, Kd.scalar] using this, hf j⟩
theorem Sub.sl {α : Type} {e e' : Nat} {d : Kd α} {w : World} {b : Nat} {ok : Nat → Prop} {xs : List (List α)} {A : Option Addr} {n c : Nat} (h : (kSub e (kSub e' d)).M w b ok xs [.slice A n c]) (j : Nat) (hj : j < xs.length) :
    ∃ g A' c', A = some ⟨g, 0, none⟩ ∧ b ≤ g ∧ w.cell? ⟨g, j, none⟩ = some (.slice A' (xs.getD j []).length c') ∧ (kSub e' d).M w b ok (xs.getD j []) [.slice A' (xs.getD j []).length c'] := by
  obtain ⟨g, cs, q1, hb, hl, hM, hc, hf⟩ := Sub.elem h [] j hj
  obtain ⟨v, full, fl, rfl, r⟩ := hM
  have hM : (kSub e' d).M w b ok (xs.getD j []) [v] := ⟨v, full, fl, rfl, r⟩
  obtain ⟨A', n', c', rfl⟩ := Sub.form hM
  obtain ⟨rfl, -, -⟩ := Sub.reads hM
  have := hc 0 _ rfl
  exact ⟨g, A', c', q1, hb, by simpa [kSub] using this, hM⟩
theorem res_turned (t : Array Value) (w : World) : (results Tryd.f16 t).run Tryd.prog w = .ok (.tuple #[]) w := by
  have h : Tryd.f16.results = #[] := rfl
  simp [results, h, go_sem]
set_option maxRecDepth 100000 in
set_option maxHeartbeats 16000000 in
theorem turned_any (b : Nat) (ok : Nat → Prop) (g : Gv) (G : Gr) (w : World) (h : InAt w b ok g G) (hb : b ≤ w.heap.size) (bd : G.Bd) :
    Calls Tryd.prog 16 #[gval g G] w fun e w' => (∃ v, e = .returned v) ∧ Turn b w w' := by
  have hn := bd.n
  have hh := bd.h
  have hm := bd.m
  obtain ⟨A0, A1, A2, A3, A4, c0, c1, c2, c3, c4⟩ := g
  have hX := blk_new w (.cells #[.slice A0 G.obs.length c0, .slice A1 G.slots.length c1, .slice A2 G.hands.length c2, .slice A3 G.reg.length c3, .slice A4 G.queue.length c4, .int .u64 G.next] 27 (0, 0))
  have hT := Turn.alloc hb #[.slice A0 G.obs.length c0, .slice A1 G.slots.length c1, .slice A2 G.hands.length c2, .slice A3 G.reg.length c3, .slice A4 G.queue.length c4, .int .u64 G.next] 27
  unfold gval gcells
  simp only
  go_enter Tryd.func16, Tryd.ntmps16
  go_upto_region 1 with fail
  generalize w.alloc _ = wA at *
  have q := (blk_at hX).1
  have FB := Lib.hid (fun (W : World) (ht : Turn b wA W) => (⟨ht.slice (q 0), ht.slice (q 1), ht.slice (q 2)⟩ : W.cell? ⟨w.heap.size, 0, none⟩ = some (.slice A0 G.obs.length c0) ∧ W.cell? ⟨w.heap.size, 1, none⟩ = some (.slice A1 G.slots.length c1) ∧ W.cell? ⟨w.heap.size, 2, none⟩ = some (.slice A2 G.hands.length c2)))
  clear q hX
  obtain ⟨k0, k1, k2⟩ := FB.out _ (Turn.refl b wA)
  go_upto_if 9 with (fail)
  go_cut [3] (fun v3 wx => Turn b wA wx)
  case first =>
    by_cases hp : 0 < G.obs.length
    · have dn : decide ((0 : Int) < (G.obs.length : Int)) = true := decide_eq_true (by omega)
      obtain ⟨g0, cs0, e0, hb0, -, hM0, hc0, hf0⟩ := Sub.elem h.m0 default 0 hp
      obtain ⟨v3, v4, rfl, hM3, -⟩ := kObS_open hM0
      obtain ⟨A5, n5, m5, rfl⟩ := Sub.form hM3
      obtain ⟨rfl, l5, -⟩ := Sub.reads hM3
      obtain ⟨g1, cs1, e1, -, -, hM1, hc1, -⟩ := Sub.elem h.m0 default (G.obs.length - 1) (by omega)
      obtain ⟨u3, u4, rfl, -, -⟩ := kObS_open hM1
      simp only at e0 e1
      subst e0
      cases e1
      have x3 := hc0 3 _ rfl
      have y2 := hc1 2 _ rfl
      simp only [Nat.zero_mul, Nat.zero_add] at x3
      have hq := (bd.i64 _ (getD_mem default hp)).1
      generalize (G.obs.getD 0 default).f3 = ps at *
      clear hc0 hc1 hM0 hM1
      have x3A := hT.slice x3
      have hsz : kObS.sz = 5 := rfl
      rw [hsz] at y2
      go_wp2_with fail
      go_loopw [3] (fun kv wx => ∃ k : Nat, k ≤ ps.length ∧ kv = .int .i64 k ∧ Turn b wA wx) (fun kv _ => ps.length - (intOf kv).toNat)
      case atStart => exact ⟨0, by omega, rfl, Turn.refl _ _⟩
      case round =>
        clear k0 k1 k2 x3A
        obtain ⟨k, hk, rfl, ht⟩ := hrel
        obtain ⟨k0, k1, k2⟩ := FB.out _ ht
        have x3r := (hT.trans ht).slice x3
        by_cases hkl : k < ps.length
        · have dk : decide ((k : Int) < (ps.length : Int)) = true := decide_eq_true (by omega)
          have z0 : (0 : Int) ≤ (k : Int) := by omega
          have z1 : (k : Int) < (ps.length : Int) := by omega
          obtain ⟨g3, rfl, hb3, hc3, hf3⟩ := Sub.int hM3 k hkl
          obtain ⟨y, hcy⟩ := (hT.trans ht).int hc3
          have hfy := (hT.trans ht).fz _ hf3
          go_wp2_with fail
          exact ⟨⟨k + 1, by omega, by simp, ht.trans (Turn.one hcy hb3 0)⟩, by simp [intOf]; omega⟩
        · have dk : decide ((k : Int) < (ps.length : Int)) = false := decide_eq_false (by omega)
          obtain ⟨y, hcy⟩ := (hT.trans ht).int y2
          have hfy := (hT.trans ht).fz _ (hf0 ((G.obs.length - 1) * 5 + 2))
          have z0 : (0 : Int) ≤ (G.obs.length : Int) - 1 := by omega
          have z1 : (G.obs.length : Int) - 1 < (G.obs.length : Int) := by omega
          have z2 : ((G.obs.length : Int) - 1).toNat = G.obs.length - 1 := by omega
          go_wp2_with fail
          go_meet
          exact ht.trans (Turn.one hcy hb0 200)
    · have dn : decide ((0 : Int) < (G.obs.length : Int)) = false := decide_eq_false (by omega)
      go_wp2_with fail
      go_meet
      exact Turn.refl _ _
  case rest =>
    clear k0 k1 k2
    have ht := hcut
    clear hcut
    obtain ⟨k0, k1, k2⟩ := FB.out _ ht
    go_upto_if 37 with (fail)
    go_cut [38] (fun v3 wx => Turn b wA wx)
    case first =>
      by_cases hp : 0 < G.hands.length
      · have dn : decide ((0 : Int) < (G.hands.length : Int)) = true := decide_eq_true (by omega)
        obtain ⟨g3, e3, hb3, hc3, hf3⟩ := Sub.int h.m2 (G.hands.length - 1) (by omega)
        simp only at e3
        subst e3
        obtain ⟨y, hcy⟩ := (hT.trans ht).int hc3
        have hfy := (hT.trans ht).fz _ hf3
        have z0 : (0 : Int) ≤ (G.hands.length : Int) - 1 := by omega
        have z1 : (G.hands.length : Int) - 1 < (G.hands.length : Int) := by omega
        have z2 : ((G.hands.length : Int) - 1).toNat = G.hands.length - 1 := by omega
        go_wp2_with fail
        go_meet
        exact ht.trans (Turn.one hcy hb3 0)
      · have dn : decide ((0 : Int) < (G.hands.length : Int)) = false := decide_eq_false (by omega)
        go_wp2_with fail
        go_meet
        exact ht
    case rest =>
      clear k0 k1 k2 ht
      have ht := hcut
      clear hcut
      obtain ⟨k0, k1, k2⟩ := FB.out _ ht
      by_cases h1 : 0 < G.slots.length
      · have d1 : decide ((0 : Int) < (G.slots.length : Int)) = true := decide_eq_true (by omega)
        obtain ⟨g1, P1, p1, e1, hb1, hc1, hM1⟩ := Sub.sl h.m1 0 h1
        simp only at e1
        subst e1
        generalize G.slots.getD 0 [] = fr at *
        have x1 := (hT.trans ht).slice hc1
        by_cases h2 : 0 < fr.length
        · have d2 : decide ((0 : Int) < (fr.length : Int)) = true := decide_eq_true (by omega)
          obtain ⟨g2, P2, p2, rfl, hb2, hc2, hM2⟩ := Sub.sl hM1 0 h2
          generalize fr.getD 0 [] = l at *
          have x2 := (hT.trans ht).slice hc2
          by_cases h3 : 0 < l.length
          · have d3 : decide ((0 : Int) < (l.length : Int)) = true := decide_eq_true (by omega)
            obtain ⟨g3, rfl, hb3, hc3, hf3⟩ := Sub.int hM2 0 h3
            obtain ⟨y, hcy⟩ := (hT.trans ht).int hc3
            have hfy := (hT.trans ht).fz _ hf3
            go_wp2_with fail
            exact ⟨rfl, .tuple #[], res_turned _ _, ⟨_, rfl⟩, hT.trans (ht.trans (Turn.one hcy hb3 0))⟩
          · have d3 : decide ((0 : Int) < (l.length : Int)) = false := decide_eq_false (by omega)
            go_wp2_with fail
            exact ⟨rfl, .tuple #[], res_turned _ _, ⟨_, rfl⟩, hT.trans ht⟩
        · have d2 : decide ((0 : Int) < (fr.length : Int)) = false := decide_eq_false (by omega)
          go_wp2_with fail
          exact ⟨rfl, .tuple #[], res_turned _ _, ⟨_, rfl⟩, hT.trans ht⟩
      · have d1 : decide ((0 : Int) < (G.slots.length : Int)) = false := decide_eq_false (by omega)
        go_wp2_with fail
        exact ⟨rfl, .tuple #[], res_turned _ _, ⟨_, rfl⟩, hT.trans ht⟩
end Go.Proofs.YtogpgkoelplknaaDoor
end
section
/- LensPaths: what both paths answer; same of any two equal lists. No condition. -/

namespace Go.Proofs.YtogpgkoelplknaaDoor
open Go.RowKit Go.BigFrame PLensPaths Go.Proofs.YtogpgkoelplknaaDoorW.PrintWords Go.Proofs.YtogpgkoelplknaaDoorW.PrintMore
set_option linter.unusedVariables false
theorem wrap_all {i : Nat} (h : i < 9223372036854775807) : wrap64 ((i : Int) + 1) = ((i + 1 : Nat) : Int) := by unfold wrap64; omega
theorem same_all (l : List Int) (hl : l.length ≤ 9223372036854775807) : Ev (fun k => middenlaw17_same.f k l l) true := by
  have key : ∀ (d i : Nat), i + d = l.length → Ev (fun k => middenlaw17_same.l0 k l l (i : Int)) true := by
    intro d
    induction d with
    | zero =>
      intro i hi
      exact Ev.step (fun k => by rw [middenlaw17_same.l0, if_neg (by omega)]) (Ev.now _)
    | succ d ih =>
      intro i hi
      exact Ev.step (fun k => by rw [middenlaw17_same.l0, if_pos (by omega), if_pos (by omega), if_pos (by omega), if_pos rfl, wrap_all (by omega)]) (by simpa using ih (i + 1) (by omega))
  have := key l.length 0 (by omega)
  simpa [middenlaw17_same.f] using this
theorem same_any (A : Option Addr) (c : Nat) (A' : Option Addr) (c' : Nat) (l : List Int) (w : World) (h : Kd.C (Kd.int .i64) w A l.length l) (hc : l.length ≤ c) (h' : Kd.C (Kd.int .i64) w A' l.length l) (hc' : l.length ≤ c') :
    Calls Tryd.prog 13 #[.slice A l.length c, .slice A' l.length c'] w fun e w' => e = .returned (.bool true) ∧ ∃ m, w' = w.drewN m := by
  obtain ⟨k, hk⟩ := (same_all l h.2.1).rounds
  exact (middenlaw17_same.calls k A c l A' c' l _ w h hc h' hc' hk).mono fun e w' h => ⟨h.1, h.2.out⟩
def PathOut (p : List Int) (en : Int) (e : Ending) (w' : World) : Prop := ∃ A c, e = .returned (.tuple #[.slice A p.length c, .int .i64 en]) ∧ p.length ≤ c ∧ Kd.C (Kd.int .i64) w' A p.length p
theorem out_nil (en : Int) (w' : World) : PathOut [] en (.returned (.tuple #[nilS, .int .i64 en])) w' := ⟨none, 0, rfl, Nat.le_refl _, rfl, by simp, fun h => by simp at h⟩
theorem out_told {p : List Int} {B : Nat} {D : List Int → Prop} {e : Ending} {w' : World} (h : Told e w' B D) (hD : ∀ q, D q → q = p) : PathOut p 0 e w' := by
  obtain ⟨v, q, rfl, hR, hq⟩ := h
  obtain rfl := hD q hq
  obtain ⟨A, c, rfl, hl, hC⟩ := Kd.R_reads hR
  exact ⟨A, c, rfl, hl, hC⟩
end Go.Proofs.YtogpgkoelplknaaDoor
end
section
/- LensPaths walked. No condition. -/

namespace Go.Proofs.YtogpgkoelplknaaDoor
open Go.RowKit Go.BigFrame PLensPaths Go.Proofs.YtogpgkoelplknaaDoorW.PrintWords Go.Proofs.YtogpgkoelplknaaDoorW.PrintMore
set_option linter.unusedVariables false
abbrev noEx : Nat → Prop := fun _ => False
theorem room_new {w : World} {r B : Nat} (hb : w.heap[r]? = some (.cells #[nilS, nilS, nilS, nilS, nilS, nilS, nilS, nilS] 37 (0, 0))) (hB : B ≤ r) : RoomAt w B r (fun _ => nilS) 0 noEx :=
  ⟨hb, hB, fun h => h, fun i _ => match i with
    | 0 => ⟨[], Kd.R_nil _ _ _ _ _, Nat.le_refl _, fun _ h => by cases h⟩
    | 1 => ⟨[], Kd.R_nil _ _ _ _ _, Nat.le_refl _, fun _ h => by cases h⟩
    | 2 => ⟨[], Kd.R_nil _ _ _ _ _, Nat.le_refl _, fun _ h => by cases h⟩
    | 3 => ⟨[], Kd.R_nil _ _ _ _ _, Nat.le_refl _, fun _ h => by cases h⟩
    | _ + 4 => ⟨[], Kd.R_nil _ _ _ _ _, Nat.le_refl _, fun _ h => by cases h⟩⟩
theorem InAt.below {w w1 : World} {b : Nat} {ok : Nat → Prop} {g : Gv} {G : Gr} (h : InAt w b ok g G) (hb : Below w.heap.size w w1) : InAt w1 b ok g G := ⟨Kd.M_below h.m0 hb, Kd.M_below h.m1 hb, Kd.M_below h.m2 hb, Kd.M_below h.m3 hb, Kd.M_below h.m4 hb⟩
theorem Turn.word {b : Nat} {w W : World} (h : Turn b w W) {a : Addr} {x : Int} (hc : w.cell? a = some (.int .u64 x)) : W.cell? a = some (.int .u64 x) := by
  obtain ⟨u', h1, h2⟩ := h.same a _ hc
  rw [like_word h2] at h1
  exact h1
theorem gval_like (g : Gv) {G G' : Gr} (l : Like G G') (hn : G'.next = G.next) : gval g G' = .agg (gcells g G) := by
  unfold gval gcells
  rw [l.olen, l.slen, l.hands, l.reg, l.queue, hn]
end Go.Proofs.YtogpgkoelplknaaDoor
end
section
/- LensDominators walked. No condition. -/


namespace Go.Proofs.YtogpgkoelplknaaDoor
open Go.RowKit Go.BigFrame PLensPaths Go.Proofs.YtogpgkoelplknaaDoorW.PrintWords Go.Proofs.YtogpgkoelplknaaDoorW.PrintMore
set_option linter.unusedVariables false
open Classical in
theorem both_doms (G : Gr) (s : Small G) : ∃ p en,
    (∀ g w, GAt w g G → Tab w → Calls Tryd.prog 17 #[gval g G] w fun e w' => PathOut p en e w' ∧ Below w.heap.size w w') ∧
    (∀ g w, GAt w g G → Calls Tryd.prog 18 #[gval g G] w fun e w' => PathOut p en e w' ∧ Below w.heap.size w w') := by
  cases hok : okB G with
  | false => exact ⟨[], _, fun g w h tb => (doms_bad g G w h tb s hok).mono fun e w' q => ⟨by rw [q.1]; exact out_nil _ _, q.2⟩, fun g w h => (rdoms_bad g G w h s hok).mono fun e w' q => ⟨by rw [q.1]; exact out_nil _ _, q.2⟩⟩
  | true =>
    by_cases hp : ∃ p, DomL (nxG G) G.obs.length p
    · obtain ⟨p, hP⟩ := hp
      exact ⟨p, 0, fun g w h tb => (doms_good g G w h tb s hok).mono fun e w' q => ⟨out_told q.1 (fun q hq => hq.one hP), q.2⟩, fun g w h => (rdoms_good g G w h s hok).mono fun e w' q => ⟨out_told q.1 (fun q hq => hq.one hP), q.2⟩⟩
    · exact ⟨[], 0, fun g w h tb => (doms_good g G w h tb s hok).mono fun e w' q => ⟨out_told q.1 (fun q hq => absurd ⟨q, hq⟩ hp), q.2⟩, fun g w h => (rdoms_good g G w h s hok).mono fun e w' q => ⟨out_told q.1 (fun q hq => absurd ⟨q, hq⟩ hp), q.2⟩⟩
set_option maxRecDepth 100000 in
set_option maxHeartbeats 16000000 in
theorem law_doms (g : Gv) (G : Gr) (w : World) (h : GAt w g G) (tb : Tab w) (s : Small G) (hc : costG G ≤ 8388608) :
    Calls Tryd.prog 4 #[gval g G] w fun e w' => e = .returned (.bool true) ∧ Below w.heap.size w w' := by
  have bd := s.bd
  obtain ⟨p, en, PI, PR⟩ := both_doms G s
  obtain ⟨A0, A1, A2, A3, A4, c0, c1, c2, c3, c4⟩ := g
  have BX := boxed h
  unfold gcells at BX
  simp only at BX
  have GV : ∀ g : Gv, gval g G = .agg (gcells g G) := fun _ => rfl
  rw [GV]
  unfold gcells
  simp only
  go_enter Tryd.func4, Tryd.ntmps4
  go_upto_region 2 with fail
  obtain ⟨hX, hB, lA, hA⟩ := BX
  have s1 := alloc_sz w (.cells #[.slice A0 G.obs.length c0, .slice A1 G.slots.length c1, .slice A2 G.hands.length c2, .slice A3 G.reg.length c3, .slice A4 G.queue.length c4, .int .u64 G.next] 27 (0, 0))
  generalize w.alloc (.cells #[.slice A0 G.obs.length c0, .slice A1 G.slots.length c1, .slice A2 G.hands.length c2, .slice A3 G.reg.length c3, .slice A4 G.queue.length c4, .int .u64 G.next] 27) = wB at *
  have hR := blk_new wB (.cells #[nilS, nilS, nilS, nilS, nilS, nilS, nilS, nilS] 37 (0, 0))
  have hB2 := (Below.refl wB.heap.size wB).alloc (Nat.le_refl _) (.cells #[nilS, nilS, nilS, nilS, nilS, nilS, nilS, nilS] 37 (0, 0))
  have s2 := alloc_sz wB (.cells #[nilS, nilS, nilS, nilS, nilS, nilS, nilS, nilS] 37 (0, 0))
  generalize wB.alloc _ = wA at *
  have hX2 := box_keep hX hB2
  have hBA := below_then hB hB.size hB2
  rw [s1] at hR s2
  have hr := room_new (B := w.heap.size) hR (by omega)
  clear hX hB lA hA hB2 hR s1
  have hG0 := h
  have CG := Lib.hid (graph_room wA w.heap.size (w.heap.size + 1) _ 0 noEx ⟨A0, A1, A2, A3, A4, c0, c1, c2, c3, c4⟩ G hr (by omega) w hBA (Nat.le_refl _) h bd s.fr (by omega) (fun k hk => hk.elim))
  rw [GV] at CG
  simp only [gcells] at CG
  obtain ⟨cX, fX⟩ := blk_at hX2
  have k0 : wA.cell? ⟨w.heap.size, 0, none⟩ = some (.slice A0 G.obs.length c0) := cX 0
  have k1 : wA.cell? ⟨w.heap.size, 1, none⟩ = some (.slice A1 G.slots.length c1) := cX 1
  have k2 : wA.cell? ⟨w.heap.size, 2, none⟩ = some (.slice A2 G.hands.length c2) := cX 2
  have k3 : wA.cell? ⟨w.heap.size, 3, none⟩ = some (.slice A3 G.reg.length c3) := cX 3
  have k4 : wA.cell? ⟨w.heap.size, 4, none⟩ = some (.slice A4 G.queue.length c4) := cX 4
  have k5 : wA.cell? ⟨w.heap.size, 5, none⟩ = some (.int .u64 G.next) := cX 5
  clear cX fX
  go_upto_region 3 with (go_at_call 10; refine CG.out.mono ?_; rintro e w1 ⟨⟨B0, B1, B2, B3, B4, d0, d1, d2, d3, d4⟩, V1, rfl, hW1, hI⟩; simp only [gval, gcells])
  have hne : ¬ XV (fun _ => nilS) (w.heap.size + 1) w.heap.size := by
    rintro (e | ⟨j, _, e⟩)
    · omega
    · cases e
  have hX1 := (hW1.keep.blk w.heap.size (by omega) hne).trans hX2
  have sz1 := hW1.keep.size
  have hb1 := hBA.trans hW1.bel
  have hr1 := hW1.room
  clear k0 k1 k2 k3 k4 k5 CG hX2
  have hBC := (Below.refl w1.heap.size w1).alloc (Nat.le_refl _) (.cells #[.slice B0 G.obs.length d0, .slice B1 G.slots.length d1, .slice B2 G.hands.length d2, .slice B3 G.reg.length d3, .slice B4 G.queue.length d4, .int .u64 G.next] 27 (0, 0))
  have hYn := blk_new w1 (.cells #[.slice B0 G.obs.length d0, .slice B1 G.slots.length d1, .slice B2 G.hands.length d2, .slice B3 G.reg.length d3, .slice B4 G.queue.length d4, .int .u64 G.next] 27 (0, 0))
  generalize w1.alloc _ = wC at *
  have hX2 := box_keep hX1 hBC
  have hI2 := hI.below hBC
  have hr2 := hr1.below hBC
  have hbC := hb1.trans (hBC.mono (by omega))
  have hG2 := h.below hbC
  have tb2 := tb.below hbC
  have hIn := hI2.reads
  clear hX1 hI hr1 hb1
  have FC := Lib.hid (fun (W : World) (hb : Below wC.heap.size wC W) => (by
    have q1 := (blk_at (box_keep hX2 hb)).1
    have q2 := (blk_at (box_keep hYn hb)).1
    exact ⟨q1 0, q1 1, q1 2, q1 3, q1 4, q1 5, q2 0, q2 1, q2 2, q2 3, q2 4, q2 5⟩ : W.cell? ⟨w.heap.size, 0, none⟩ = some (.slice A0 G.obs.length c0) ∧ W.cell? ⟨w.heap.size, 1, none⟩ = some (.slice A1 G.slots.length c1) ∧ W.cell? ⟨w.heap.size, 2, none⟩ = some (.slice A2 G.hands.length c2) ∧ W.cell? ⟨w.heap.size, 3, none⟩ = some (.slice A3 G.reg.length c3) ∧ W.cell? ⟨w.heap.size, 4, none⟩ = some (.slice A4 G.queue.length c4) ∧ W.cell? ⟨w.heap.size, 5, none⟩ = some (.int .u64 G.next) ∧ W.cell? ⟨w1.heap.size, 0, none⟩ = some (.slice B0 G.obs.length d0) ∧ W.cell? ⟨w1.heap.size, 1, none⟩ = some (.slice B1 G.slots.length d1) ∧ W.cell? ⟨w1.heap.size, 2, none⟩ = some (.slice B2 G.hands.length d2) ∧ W.cell? ⟨w1.heap.size, 3, none⟩ = some (.slice B3 G.reg.length d3) ∧ W.cell? ⟨w1.heap.size, 4, none⟩ = some (.slice B4 G.queue.length d4) ∧ W.cell? ⟨w1.heap.size, 5, none⟩ = some (.int .u64 G.next)))
  have P1 := PI _ wC hIn tb2
  have P2 := fun (W : World) (hb : Below wC.heap.size wC W) => PR _ W (hG2.below hb)
  have Q1 := Lib.hid (fun (W : World) (hb : Below wC.heap.size wC W) => sameGraph_q _ _ G W (hIn.below hb) (hG2.below hb) bd s.fr)
  have Q2 := Lib.hid (fun (W : World) (hb : Below wC.heap.size wC W) => hold_true W w.heap.size (w.heap.size + 1) V1 _ noEx (hr2.below hb) (by omega))
  rw [GV] at P1
  simp only [GV] at P2 Q1
  simp only [gcells] at P1 P2 Q1
  have P1' := Lib.hid P1
  have P2' := Lib.hid P2
  clear P1 P2
  obtain ⟨k0, k1, k2, k3, k4, k5, j0, j1, j2, j3, j4, j5⟩ := FC.out _ (Below.refl _ _)
  go_upto_region 5 with (first
    | (go_at_call 17; refine P1'.out.mono ?_; rintro e w2 ⟨⟨D1, e1, rfl, l1, hD1⟩, b2⟩; obtain ⟨k0, k1, k2, k3, k4, k5, j0, j1, j2, j3, j4, j5⟩ := FC.out _ b2)
    | (go_at_call 18; refine (P2'.out _ b2).mono ?_; rintro e w3 ⟨⟨D2, e2, rfl, l2, hD2⟩, b3'⟩; have b3 := below_then b2 b2.size b3'; obtain ⟨k0, k1, k2, k3, k4, k5, j0, j1, j2, j3, j4, j5⟩ := FC.out _ b3))
  have S1 := Lib.hid (same_any D1 e1 D2 e2 p w3 (Kd.C_below hD1 b3') l1 hD2 l2)
  go_upto_region 7 with (first
    | (go_at_call 13; refine S1.out.mono ?_; rintro e w4 ⟨rfl, m4, e4⟩; have b4 : Below wC.heap.size wC w4 := (by rw [e4]; exact below_drN b3 m4); clear e4; obtain ⟨k0, k1, k2, k3, k4, k5, j0, j1, j2, j3, j4, j5⟩ := FC.out _ b4)
    | (go_at_call 14; refine (Q1.out _ b4).mono ?_; rintro e w5 ⟨rfl, b5'⟩; have b5 := below_then b4 b4.size b5'; obtain ⟨k0, k1, k2, k3, k4, k5, j0, j1, j2, j3, j4, j5⟩ := FC.out _ b5)
    | (go_at_call 15; refine (Q2.out _ b5).mono ?_; rintro e w6 ⟨rfl, b6'⟩; have b6 := below_then b5 b5.size b6'; obtain ⟨k0, k1, k2, k3, k4, k5, j0, j1, j2, j3, j4, j5⟩ := FC.out _ b6))
  have TU := turned_any _ _ _ G w6 (hI2.below b6) (Nat.le_trans (Nat.le_trans sz1 hBC.size) b6.size) bd
  rw [GV] at TU
  simp only [gcells] at TU
  have TU' := Lib.hid TU
  clear TU S1 P1' P2' Q1 Q2
  go_upto_region 8 with (go_at_call 16; refine TU'.out.mono ?_; rintro e w7 ⟨⟨u, rfl⟩, T7⟩)
  have i0 := T7.slice j0
  have i1 := T7.slice j1
  have i2 := T7.slice j2
  have i3 := T7.slice j3
  have i4 := T7.slice j4
  have i5 := T7.word j5
  clear k0 k1 k2 k3 k4 k5 j0 j1 j2 j3 j4 j5 FC TU'
  obtain ⟨G', lk, hnx, hG7⟩ := gat_turned (hIn.below b6) T7.same
  have s' := s.turned lk
  obtain ⟨p', en', PI', PR'⟩ := both_doms G' s'
  have hb7 : Below w.heap.size w w7 := (hbC.trans (b6.mono (by have := hBC.size; omega))).trans (T7.bel.mono (by omega))
  have FD := Lib.hid (fun (W : World) (hb : Below w7.heap.size w7 W) => (⟨cell_later hb i0, cell_later hb i1, cell_later hb i2, cell_later hb i3, cell_later hb i4, cell_later hb i5⟩ : W.cell? ⟨w1.heap.size, 0, none⟩ = some (.slice B0 G.obs.length d0) ∧ W.cell? ⟨w1.heap.size, 1, none⟩ = some (.slice B1 G.slots.length d1) ∧ W.cell? ⟨w1.heap.size, 2, none⟩ = some (.slice B2 G.hands.length d2) ∧ W.cell? ⟨w1.heap.size, 3, none⟩ = some (.slice B3 G.reg.length d3) ∧ W.cell? ⟨w1.heap.size, 4, none⟩ = some (.slice B4 G.queue.length d4) ∧ W.cell? ⟨w1.heap.size, 5, none⟩ = some (.int .u64 G.next)))
  have P1 := PI' _ w7 hG7 (tb.below hb7)
  have P2 := fun (W : World) (hb : Below w7.heap.size w7 W) => PR' _ W (hG7.below hb)
  rw [gval_like _ lk hnx] at P1
  simp only [gval_like _ lk hnx] at P2
  simp only [gcells] at P1 P2
  have P1' := Lib.hid P1
  have P2' := Lib.hid P2
  clear P1 P2
  go_upto_region 10 with (first
    | (go_at_call 17; refine P1'.out.mono ?_; rintro e w8 ⟨⟨D3, e3, rfl, l3, hD3⟩, b8⟩; obtain ⟨i0, i1, i2, i3, i4, i5⟩ := FD.out _ b8)
    | (go_at_call 18; refine (P2'.out _ b8).mono ?_; rintro e w9 ⟨⟨D4, e4, rfl, l4, hD4⟩, b9'⟩; have b9 := below_then b8 b8.size b9'))
  have S2 := Lib.hid (same_any D3 e3 D4 e4 p' w9 (Kd.C_below hD3 b9') l3 hD4 l4)
  go_wp2_with (go_at_call 13; refine S2.out.mono ?_; rintro e w10 ⟨rfl, m10, e10⟩)
  go_ret
  exact ⟨by simp, hb7.trans ((below_drN b9 m10).mono hb7.size)⟩
end Go.Proofs.YtogpgkoelplknaaDoor
end
section
/- What an argument's reading gives: a graph in memory, its bulk. No condition. -/




namespace Go.Proofs.YtogpgkoelplknaaDoor
open Go.RowKit Go.BigFrame PLensPaths Go.Proofs.YtogpgkoelplknaaDoorW.PrintWords Go.Proofs.YtogpgkoelplknaaDoorW.PrintMore
set_option linter.unusedVariables false
theorem bulk_one {H : Type} (d : DataW H) : 1 ≤ Rows.uptoBulk d := by
  cases d with
  | lit l => cases l <;> simp [Rows.uptoBulk]
  | nil => simp [Rows.uptoBulk]
  | ptr d => simp [Rows.uptoBulk]
  | slice elems spare => simp [Rows.uptoBulk]
  | agg parts => simp [Rows.uptoBulk]
  | iface t d => simp [Rows.uptoBulk]
  | map entries => simp [Rows.uptoBulk]
  | held h => simp [Rows.uptoBulk]
/-- What is read at the type t is of the kind d, of a bulk of ν at least. -/
def Opens {α : Type} (d : Kd α) (t : TypeId) (ν : α → Nat) : Prop := ∀ (H : Type) (enc : TypeId × Value → H) (w : World) (base : Nat) (spare : Nat → Bool) (held : Bool) (fuel : Nat) (cs : List Value) (x : DataW H × List MemPlace), DataW.trod enc Tryd.prog w base spare held fuel t cs = some x → ∃ a, d.K w a cs ∧ ν a ≤ Rows.uptoBulk x.1
theorem opens_int {k : IntKind} {t : TypeId} (ht : Tryd.prog.underlying t = some (.int k)) : Opens (Kd.int k) t (fun _ => 1) := by
  intro H enc w base spare held fuel cs x h
  cases fuel with
  | zero => simp [DataW.trod] at h
  | succ n =>
    unfold DataW.trod at h
    rw [ht] at h
    split at h <;> simp_all
    exact ⟨⟨_, rfl⟩, bulk_one _⟩
theorem opens_slice {α : Type} {d : Kd α} {t e : TypeId} {ν : α → Nat} (ht : Tryd.prog.underlying t = some (.slice e)) (hs : Tryd.prog.cellsOf e = d.sz) (ho : Opens d e ν) : Opens (Kd.slice e d) t (fun xs => 1 + (xs.map ν).sum) := by
  intro H enc w base spare held fuel cs x h
  rcases DataW.trod_slice ht h with ⟨rfl, rfl⟩ | ⟨a, len, cap, elems, rest, n, _, rfl, rfl, hb, hl, hm, hlen, hel, _, _⟩
  · exact ⟨[], ⟨none, 0, rfl, Nat.le_refl _, rfl, by simp, fun h => by simp at h⟩, by simpa using bulk_one _⟩
  · have one : ∀ i : Fin len, ∃ p, ν p ≤ Rows.uptoBulk (elems[i.1]'(by omega)).1 ∧ ∃ c, c.length = d.sz ∧ d.K w p c ∧ ∀ j u, c[j]? = some u → w.cell? (a.add (i.1 * d.sz + j)) = some u := by
      intro i
      have h1 := hel i.1 i.2
      rw [List.getElem?_eq_getElem (show i.1 < elems.length by omega)] at h1
      obtain ⟨c, hc, hy⟩ := Option.bind_eq_some_iff.1 h1
      obtain ⟨p, k1, k2⟩ := ho H enc w base spare held n c _ hy
      obtain ⟨_, g1, g2⟩ := World.cells?_some hc
      rw [hs] at g1 g2
      refine ⟨p, k2, c, g1, k1, fun j u hu => ?_⟩
      have hj := (List.getElem?_eq_some_iff.1 hu).1
      rw [← Addr.add_add, g2 j (by omega)]
      exact hu
    have hml : maxLen ≤ 9223372036854775807 := by decide
    refine ⟨List.ofFn fun i => Classical.choose (one i), ⟨some a, cap, ?_, ?_, by simp, by simp; omega, fun _ => ⟨a, rfl, fun j p hj => ?_⟩⟩, ?_⟩
    · simp
    · simpa using hl
    · obtain ⟨hi, rfl⟩ := List.getElem?_eq_some_iff.1 hj
      have hi' : j < len := by simpa using hi
      obtain ⟨c, q1, q2, q3⟩ := (Classical.choose_spec (one ⟨j, hi'⟩)).2
      exact ⟨c, q1, by simpa using q2, q3⟩
    · have e : (List.ofFn fun i => Classical.choose (one i)).map ν = List.ofFn fun i => ν (Classical.choose (one i)) := by simp [List.map_ofFn]; rfl
      have key : ∀ (l : List (DataW H × List MemPlace)) (f : Fin l.length → Nat), (∀ i, f i ≤ Rows.uptoBulk (l[i.1]).1) → (List.ofFn f).sum ≤ Rows.uptoBulkAll (l.map (·.1)) := by
        intro l
        induction l with
        | nil => intro f _; simp
        | cons y l ih =>
          intro f hf
          have h0 := hf ⟨0, by simp⟩
          have h1 := ih (fun i => f i.succ) (fun i => by simpa using hf i.succ)
          simp only [List.ofFn_succ, List.sum_cons, List.map_cons, Rows.uptoBulkAll]
          have h0' : f 0 ≤ Rows.uptoBulk y.1 := h0
          omega
      subst hlen
      have := key elems (fun i => ν (Classical.choose (one i))) (fun i => (Classical.choose_spec (one i)).1)
      simp only [Rows.uptoBulk]
      rw [e]
      omega
theorem opens_ints : Opens kInts 24 (fun xs => 1 + (xs.map fun _ => 1).sum) := opens_slice Tryd.underlying24 (by kernel_rfl) (opens_int Tryd.underlying3)
theorem opens_words : Opens kWords 57 (fun xs => 1 + (xs.map fun _ => 1).sum) := opens_slice Tryd.underlying57 (by kernel_rfl) (opens_int Tryd.underlying25)
theorem cells_ob : Tryd.prog.cellsOf 59 = 5 := by kernel_rfl
theorem cells_one : Tryd.prog.cellsOf 3 = 1 ∧ Tryd.prog.cellsOf 25 = 1 ∧ Tryd.prog.cellsOf 24 = 1 ∧ Tryd.prog.cellsOf 57 = 1 := ⟨by kernel_rfl, by kernel_rfl, by kernel_rfl, by kernel_rfl⟩
def obBulk (o : Ob) : Nat := o.f3.length + o.f4.length + 3
theorem sum_ones (l : List Int) : (l.map fun _ => 1).sum = l.length := by
  induction l with
  | nil => rfl
  | cons x l ih => simp [ih]; omega
set_option maxRecDepth 100000 in
theorem opens_ob : Opens kOb 59 obBulk := by
  intro H enc w base spare held fuel cs x h
  obtain ⟨xs, n, _, hx, hcs, hlen, hg⟩ := DataW.trod_struct Tryd.underlying59 h
  rw [cells_ob] at hcs
  obtain ⟨o1, o2, o3, o4⟩ := cells_one
  match cs, hcs, xs, hlen with
  | [c0, c1, c2, c3, c4], _, [y0, y1, y2, y3, y4], _ =>
    have g0 := hg 0 _ rfl
    have g1 := hg 1 _ rfl
    have g2 := hg 2 _ rfl
    have g3 := hg 3 _ rfl
    have g4 := hg 4 _ rfl
    simp [o1, o2, o3, o4] at g0 g1 g2 g3 g4
    obtain ⟨f0, k0, _⟩ := opens_int (k := .u64) Tryd.underlying25 H enc w base spare held n _ _ g0
    obtain ⟨f1, k1, _⟩ := opens_int (k := .i64) Tryd.underlying3 H enc w base spare held n _ _ g1
    obtain ⟨f2, k2, _⟩ := opens_int (k := .i64) Tryd.underlying3 H enc w base spare held n _ _ g2
    obtain ⟨f3, k3, b3⟩ := opens_ints H enc w base spare held n _ _ g3
    obtain ⟨f4, k4, b4⟩ := opens_words H enc w base spare held n _ _ g4
    have k0' : [c0] = [.int .u64 f0] := k0
    have k1' : [c1] = [.int .i64 f1] := k1
    have k2' : [c2] = [.int .i64 f2] := k2
    obtain ⟨A3, d3, k3', l3, q3⟩ := k3
    obtain ⟨A4, d4, k4', l4, q4⟩ := k4
    cases k0'
    cases k1'
    cases k2'
    cases k3'
    cases k4'
    refine ⟨⟨f0, f1, f2, f3, f4⟩, k59_mk w ⟨f0, f1, f2, f3, f4⟩ l3 q3 l4 q4, ?_⟩
    subst hx
    have b3 : 1 + (f3.map fun _ => 1).sum ≤ Rows.uptoBulk y3.1 := b3
    have b4 : 1 + (f4.map fun _ => 1).sum ≤ Rows.uptoBulk y4.1 := b4
    rw [sum_ones] at b3 b4
    have e0 := bulk_one y0.1
    have e1 := bulk_one y1.1
    have e2 := bulk_one y2.1
    simp only [obBulk, List.map_cons, List.map_nil, Rows.uptoBulk, Rows.uptoBulkAll]
    omega
end Go.Proofs.YtogpgkoelplknaaDoor
end
section
/- An argument that reads as a graph: GAt, and what its bulk bounds. No condition. -/

namespace Go.Proofs.YtogpgkoelplknaaDoor
open Go.RowKit Go.BigFrame PLensPaths Go.Proofs.YtogpgkoelplknaaDoorW.PrintWords Go.Proofs.YtogpgkoelplknaaDoorW.PrintMore
set_option linter.unusedVariables false
theorem opens_obs : Opens (Kd.slice 59 kOb) 22 (fun xs => 1 + (xs.map obBulk).sum) := opens_slice Tryd.underlying22 (by kernel_rfl) opens_ob
theorem opens_rows : Opens kFrames 30 (fun xs => 1 + (xs.map fun l => 1 + (l.map fun _ => 1).sum).sum) := opens_slice Tryd.underlying30 (by kernel_rfl) opens_ints
theorem opens_slots : Opens (Kd.slice 30 kFrames) 23 (fun ys => 1 + (ys.map fun xs => 1 + (xs.map fun l => 1 + (l.map fun _ => 1).sum).sum).sum) := opens_slice Tryd.underlying23 (by kernel_rfl) opens_rows
theorem cells_gr : Tryd.prog.cellsOf 27 = 6 := by kernel_rfl
theorem cells_two : Tryd.prog.cellsOf 22 = 1 ∧ Tryd.prog.cellsOf 23 = 1 := ⟨by kernel_rfl, by kernel_rfl⟩
def rowsBulk (G : Gr) : Nat := (G.slots.map fun xs => 1 + (xs.map fun l => 1 + (l.map fun _ => 1).sum).sum).sum
def bulkG (G : Gr) : Nat := (G.obs.map obBulk).sum + rowsBulk G + G.hands.length + G.reg.length + G.queue.length
set_option maxRecDepth 100000 in
theorem open_graph {H : Type} {enc : TypeId × Value → H} {w : World} {base : Nat} {spare : Nat → Bool} {held : Bool} {fuel : Nat} {cs : List Value} {x : DataW H × List MemPlace} (h : DataW.trod enc Tryd.prog w base spare held fuel 27 cs = some x) :
    ∃ g G, cs = (gcells g G).toList ∧ GAt w g G ∧ bulkG G ≤ Rows.uptoBulk x.1 := by
  obtain ⟨xs, n, _, hx, hcs, hlen, hg⟩ := DataW.trod_struct Tryd.underlying27 h
  rw [cells_gr] at hcs
  obtain ⟨o1, o2, o3, o4⟩ := cells_one
  obtain ⟨o5, o6⟩ := cells_two
  match cs, hcs, xs, hlen with
  | [c0, c1, c2, c3, c4, c5], _, [y0, y1, y2, y3, y4, y5], _ =>
    have g0 := hg 0 _ rfl
    have g1 := hg 1 _ rfl
    have g2 := hg 2 _ rfl
    have g3 := hg 3 _ rfl
    have g4 := hg 4 _ rfl
    have g5 := hg 5 _ rfl
    simp [o2, o3, o5, o6] at g0 g1 g2 g3 g4 g5
    obtain ⟨f0, ⟨A0, d0, k0, l0, r0⟩, b0⟩ := opens_obs H enc w base spare held n _ _ g0
    obtain ⟨f1, ⟨A1, d1, k1, l1, r1⟩, b1⟩ := opens_slots H enc w base spare held n _ _ g1
    obtain ⟨f2, ⟨A2, d2, k2, l2, r2⟩, b2⟩ := opens_ints H enc w base spare held n _ _ g2
    obtain ⟨f3, ⟨A3, d3, k3, l3, r3⟩, b3⟩ := opens_ints H enc w base spare held n _ _ g3
    obtain ⟨f4, ⟨A4, d4, k4, l4, r4⟩, b4⟩ := opens_ints H enc w base spare held n _ _ g4
    obtain ⟨f5, k5, _⟩ := opens_int (k := .u64) Tryd.underlying25 H enc w base spare held n _ _ g5
    have k5' : [c5] = [.int .u64 f5] := k5
    cases k0
    cases k1
    cases k2
    cases k3
    cases k4
    cases k5'
    refine ⟨⟨A0, A1, A2, A3, A4, d0, d1, d2, d3, d4⟩, ⟨f0, f1, f2, f3, f4, f5⟩, rfl, ⟨r0, l0, r1, l1, r2, l2, r3, l3, r4, l4⟩, ?_⟩
    subst hx
    have b0 : 1 + (f0.map obBulk).sum ≤ Rows.uptoBulk y0.1 := b0
    have b1 : 1 + (f1.map fun xs => 1 + (xs.map fun l => 1 + (l.map fun _ => 1).sum).sum).sum ≤ Rows.uptoBulk y1.1 := b1
    have b2 : 1 + (f2.map fun _ => 1).sum ≤ Rows.uptoBulk y2.1 := b2
    have b3 : 1 + (f3.map fun _ => 1).sum ≤ Rows.uptoBulk y3.1 := b3
    have b4 : 1 + (f4.map fun _ => 1).sum ≤ Rows.uptoBulk y4.1 := b4
    rw [sum_ones] at b2 b3 b4
    simp only [bulkG, rowsBulk, List.map_cons, List.map_nil, Rows.uptoBulk, Rows.uptoBulkAll]
    omega
end Go.Proofs.YtogpgkoelplknaaDoor
end
section
/- A graph of a bulk of 2^20 at most is Small. No condition. -/

namespace Go.Proofs.YtogpgkoelplknaaDoor
open Go.RowKit Go.BigFrame PLensPaths Go.Proofs.YtogpgkoelplknaaDoorW.PrintWords Go.Proofs.YtogpgkoelplknaaDoorW.PrintMore
set_option linter.unusedVariables false
theorem sum_mem {α : Type} (f : α → Nat) {l : List α} {x : α} (h : x ∈ l) : f x ≤ (l.map f).sum := by
  induction l with
  | nil => cases h
  | cons y l ih =>
    simp only [List.map_cons, List.sum_cons]
    cases List.mem_cons.1 h with
    | inl e => subst e; omega
    | inr e => have := ih e; omega
theorem sum_ge {α : Type} (f g : α → Nat) {l : List α} (h : ∀ x ∈ l, f x ≤ g x) : (l.map f).sum ≤ (l.map g).sum := by
  induction l with
  | nil => simp
  | cons y l ih =>
    simp only [List.map_cons, List.sum_cons]
    have h1 := h y List.mem_cons_self
    have h2 := ih (fun x hx => h x (List.mem_cons_of_mem _ hx))
    omega
theorem sum_len {α : Type} (f : α → Nat) {l : List α} (h : ∀ x ∈ l, 1 ≤ f x) : l.length ≤ (l.map f).sum := by
  have := sum_ge (fun _ => 1) f h
  have e : (l.map fun _ => 1).sum = l.length := by
    clear this h
    induction l with
    | nil => rfl
    | cons y l ih => simp [ih]; omega
  omega
def rowB (xs : List (List Int)) : Nat := 1 + (xs.map fun l => 1 + (l.map fun _ => 1).sum).sum
theorem rowB_len (xs : List (List Int)) : xs.length + sumLen xs + 1 ≤ rowB xs := by
  unfold rowB
  induction xs with
  | nil => simp [sumLen]
  | cons l xs ih =>
    simp only [List.map_cons, List.sum_cons, List.length_cons, sumLen, sum_ones] at ih ⊢
    omega
theorem sumTo_obs (l : List Ob) : ∀ n, n ≤ l.length → sumTo (fun x => (l.getD (x - 1).toNat default).f3.length) n ≤ ((l.take n).map obBulk).sum := by
  intro n
  induction n with
  | zero => intro _; simp [sumTo]
  | succ n ih =>
    intro hn
    have h1 := ih (by omega)
    rw [take_snocZ l n default (by omega)]
    simp only [sumTo, List.map_append, List.sum_append, List.map_cons, List.map_nil, List.sum_cons, List.sum_nil]
    have e : ((n : Int) + 1 - 1).toNat = n := by omega
    rw [e]
    unfold obBulk at h1 ⊢
    omega
theorem sumLen_mem {l : List (List Int)} {f : List Int} (h : f ∈ l) : f.length ≤ sumLen l := by
  rw [sumLen_eq]
  exact sum_mem List.length h
theorem slotsP_le (l : List (List (List Int))) : (slotsP l).length ≤ (l.map rowB).sum := by
  rw [slotsP_len, List.map_map]
  refine sum_ge _ _ (fun fr _ => ?_)
  have := rowB_len fr
  have e : (List.sum ∘ fun fr : List (List Int) => fr.map List.length) fr = sumLen fr := by simp [sumLen_eq]
  rw [e]
  omega
theorem cost3_le (l : List (List (List Int))) : cost3 l ≤ (l.map rowB).sum + 1 := by
  unfold cost3
  have := sum_ge cost2 rowB (l := l) (fun fr _ => by have := rowB_len fr; unfold cost2; omega)
  omega
theorem small_of {G : Gr} (h : bulkG G ≤ 1048576) : Small G ∧ costG G ≤ 8388608 := by
  have hr : rowsBulk G = (G.slots.map rowB).sum := rfl
  unfold bulkG at h
  rw [hr] at h
  have ho : G.obs.length ≤ (G.obs.map obBulk).sum := sum_len obBulk (fun o _ => by unfold obBulk; omega)
  have hs : G.slots.length ≤ (G.slots.map rowB).sum := sum_len rowB (fun x _ => by have := rowB_len x; omega)
  have hsp := slotsP_le G.slots
  have hc := cost3_le G.slots
  have ha : allPs G ≤ (G.obs.map obBulk).sum := by
    have := sumTo_obs G.obs G.obs.length (Nat.le_refl _)
    rw [List.take_length] at this
    exact this
  refine ⟨⟨⟨by omega, by omega, by omega, by omega, by omega, fun o hm => ?_⟩, fun fr hm => ?_, ?_, ?_⟩, ?_⟩
  · have := sum_mem obBulk hm
    have e : obBulk o = o.f3.length + o.f4.length + 3 := rfl
    omega
  · have h1 := sum_mem rowB hm
    have h2 := rowB_len fr
    refine ⟨by omega, by omega, fun f hf => ?_⟩
    have := sumLen_mem hf
    omega
  · unfold initP
    simp only [List.length_append]
    omega
  · unfold holdP
    simp only [List.length_append]
    omega
  · unfold costG
    omega
end Go.Proofs.YtogpgkoelplknaaDoor
end
section
/- What a row of the Lens laws uses of the tables. -/











namespace Go.Proofs.YtogpgkoelplknaaDoor
open Go.Joins Go.ChangeShapes Go.WideShapes Go.RowKit Go.Deep Go.ChangeAt
theorem own : ownKnob Tryd.prog.godebug = none := by kernel_rfl
theorem laidOut : laidOutB Tryd.prog = true := by kernel_rfl
def laids : List (String × DataW Unit) := [("midden/cell.widths", Rows.laid_midden_cell_widths), ("midden/cell.needs", Rows.laid_midden_cell_needs)]
theorem gWidths : Tryd.prog.globalNamed "midden/cell.widths" = some 0 := by kernel_rfl
theorem gNeeds : Tryd.prog.globalNamed "midden/cell.needs" = some 1 := by kernel_rfl
theorem tWidths : (Tryd.prog.globals[0]?).map (·.type) = some 169 := by kernel_rfl
theorem tNeeds : (Tryd.prog.globals[1]?).map (·.type) = some 174 := by kernel_rfl
/-- The door's own heap meets the condition: three closed facts. -/
theorem door_met (os : Os) (args : Array Value) : laidMetH Tryd.prog laids ((World.doorLaid Tryd.prog 400 os).forCall (fun _ _ => 0) ⟨#[], args, []⟩).memory :=
  laidMetH_of_parts3 (fuel := 8) (laidMet_of_run' 8 (by kernel_rfl) (by kernel_rfl)) (by kernel_rfl) (by kernel_rfl)
theorem tab_of_laid {W : World} (h : laidMetH Tryd.prog laids W) : Tab W := by
  rw [MakeChecks.laidMetH_plain _ _ _ (by kernel_rfl)] at h
  obtain ⟨ps, ⟨g0, t0, cs0, f0, p0, q0, hg0, ht0, hv0, hd0, ⟨g1, t1, cs1, f1, p1, q1, hg1, ht1, hv1, hd1, _, _⟩, _⟩, _, _⟩ := h
  obtain rfl := Option.some.inj (gWidths.symm.trans hg0)
  obtain rfl := Option.some.inj (gNeeds.symm.trans hg1)
  obtain rfl := Option.some.inj (tWidths.symm.trans ht0)
  obtain rfl := Option.some.inj (tNeeds.symm.trans ht1)
  have c0 := Lib.cells_of_tab (zs := [3, 1, 4, 8, 12, 16]) Tryd.underlying169 Tryd.underlying3 (by kernel_rfl) (by kernel_rfl) hd0
  have c1 := Lib.cells_of_tab (zs := [-1, 0, 1, 2, 0]) Tryd.underlying174 Tryd.underlying3 (by kernel_rfl) (by kernel_rfl) hd1
  have w0 := fun j => World.var?_cell hg0 hv0 j
  have w1 := fun j => World.var?_cell hg1 hv1 j
  obtain ⟨l0⟩ := cs0
  obtain ⟨l1⟩ := cs1
  simp only at c0 c1
  subst c0 c1
  have s0 : ∀ g (v : Value), W.cell? ⟨g, 0, none⟩ = some v → g < W.heap.size := by
    intro g v hv
    rcases Nat.lt_or_ge g W.heap.size with h | h
    · exact h
    · simp [World.cell?, Array.getElem?_eq_none h] at hv
  refine ⟨by simpa using w1 0, by simpa using w1 1, by simpa using w1 2, by simpa using w1 3, by simpa using w1 4, by simpa using w0 0, by simpa using w0 1, by simpa using w0 2, by simpa using w0 3, by simpa using w0 4, by simpa using w0 5, s0 _ _ (by simpa using w1 0), s0 _ _ (by simpa using w0 0)⟩
/-- A tied card of a law whose call can come to a go statement. -/
theorem holds_tied_goes (Lk : Looks) {p : Pinned} {s : OpenSpec} {c : OpenClaim} (kinds : List LaidKind) (tests : Bool) (har : Bool × String) (lk : Bool)
    (hc : c.holds p s) (hw : c.wfByText s = true) (htie : c.laidByTextAt Lk p kinds tests)
    (hst : c.start = .entering) (hnb : c.noBlocks = false ∧ c.again = false) (hm : p.checked.prog.mainIs = some (har.1, har.2.toList)) (hn : (!har.1 && har.2.isEmpty && !lk) = false)
    (hl : ∀ f fn, p.checked.prog.funcNamed c.func = some f → p.checked.prog.funcs[f]? = some fn → lk = p.checked.prog.looks [] ∧ ∀ (j : Nat) t, fn.params[j]? = some t → p.checked.prog.wantsStandIn t = false)
    (hg : true = c.goesBy p.checked.prog) :
    Claim7.holds p (.plain s) { stood := { row := c, standIns := [], harness := har, looks := lk }, kinds := [], alts := [], goes := true, laidByText := true, laidKinds := kinds, laidTests := tests, laidLooks := Lk } := by
  have h6 : ∀ r : OpenClaim, Claim7.isSixth { stood := { row := r, standIns := [], harness := har, looks := lk }, kinds := [] } = false := fun r => by simpa [Claim7.isSixth] using hn
  exact ⟨Claim7.tied_new_at Lk kinds tests (Claim7.new_of_sixth hc har lk hst hnb hm (h6 c) hl) hw, fun D hD => (by cases hD), htie, (fun h => by cases h), hg⟩
/-- A call that leaves nothing behind: no goroutine that others would see. -/
theorem leaving_of_handed {a : Assume} {C : Checked} {os : Os} {f : FuncId} {r : Reach} {Pre : World → Array Value → Prop} {Post : World → Array Value → Value → World → Prop} (h : ReturnsInHanded a C os f r Pre Post) : ReturnsInLeavingWide a C os f r Pre Post :=
  fun enter => ReturnsInOpen.mono (fun m w t q => ⟨q.2.1, onlyLeaving_of_quiet q.1, q.2.2⟩) (fun _ q => q) (h enter)
end Go.Proofs.YtogpgkoelplknaaDoor
end
section
/-
  FOR A PROOF OF A STATEMENT WHOSE ROW BEARS 'leaving := true' (the law's call can start goroutines) AND A CONDITION OF ITS SPECIFICATION ('..UptoSaid'). Copy it as <Name>Leaving.lean (put your seat's Name for YtogpgkoelplknaaDoor), name it in GOCLAIM.json's 'order' behind <Name>Rows. (1) 'returnsInLeavingWide_of_cond_sized': Derived/Conc/LeavingOf.lean's 'returnsInLeavingWide_of_change_sized' with the condition handed over beside the reach · (2) 'holds_of_cond_leaving': Derived/JoinedCond.lean's 'OpenClaim.holds_of_cond' with three turns: 'c.leaving = true', 'leavingAtReturn', (1)'s word in the last hypothesis. For '..Said' without a condition: 'OpenClaim.holds_of_wide_leaving' (Derived.Conc.Holds) as it stands. By an AI agent, Sun Nov 15 2026. No person has read it. No macro, syntax, notation, axiom, sorry.
-/



namespace Go.Proofs.YtogpgkoelplknaaDoor.leaving
open Go Go.Conc Go.ChangeShapes

section
variable {H : Type} {enc : TypeId × Value → H}

end

theorem holds_of_cond_leaving {p : Pinned} {s : OpenSpec} {c : OpenClaim} (f : FuncId) (fn : Func)
    (hn : c.program = p.name) (hs : c.sum = p.sum) (hsp : c.spec = s.name)
    (hstart : c.start = .entering) (hout : c.outside = []) (hin : c.inits = []) (hun : c.under = none) (hi4 : c.initsInPlace = [] ∧ c.initsUnfollowed = false ∧ c.initsRecurse = false ∧ c.initsNamed = [] ∧ c.initsPassed = []) (hnb : c.noBlocks = false) (hlv : c.leaving = true) (hfo : c.followed = none) (hnar : c.narrowed = s.cond.isSome) (hstill : c.still = false)
    (hfn : p.checked.prog.funcNamed c.func = some f) (hf : p.checked.prog.funcs[f]? = some fn)
    (closed : joinedFacts p.checked.prog f fn s.bare c = true)
    (hinst : fn.isInstance p.checked.prog c.origin c.targs) (hwrap : fn.isWrapper p.checked.prog c.wrapper c.mainSum)
    (h : ∀ os : Os, os.Started → ∀ (H : Type) (enc : TypeId × Value → H), (∀ a b, enc a = enc b → a = b) → ∀ F : Stop.Interp,
      ReturnsInLeavingWide c.assume p.checked os f .any (c.pre enc p.checked.prog fn s) ((s.at F).post enc p.checked.prog fn c.apart c.fresh c.handsOn c.again)) : c.holds p s := by
  simp only [joinedFacts, Bool.and_eq_true, beq_iff_eq, Array.all_eq_true_iff_forall_mem, List.all_eq_true, decide_eq_true_eq] at closed
  obtain ⟨⟨⟨⟨⟨⟨⟨⟨⟨⟨⟨⟨⟨⟨⟨⟨⟨⟨⟨⟨⟨⟨⟨⟨⟨⟨⟨⟨⟨⟨⟨k1, k2⟩, k3⟩, k4⟩, k5⟩, k6⟩, k7⟩, k8⟩, k9⟩, k10⟩, k11⟩, k12⟩, k13⟩, k14⟩, k15⟩, k16⟩, k17⟩, k17b⟩, k18⟩, k19⟩, k20⟩, k21⟩, k22⟩, k23⟩, k23b⟩, k24⟩, k24b⟩, k24c⟩, k25⟩, k26⟩, k27⟩, k28⟩ := closed
  have hq : ∀ os : Os, Stop.quiet p.checked.prog os := fun os k hk => by rw [k9] at hk; cases hk
  refine ⟨k1, hn, hs, hsp, k2, k3, by unfold OpenClaim.startFits; rw [hstart]; exact k24, by unfold OpenClaim.startTold; rw [hstart]; exact ⟨hin, hun, hi4⟩, f, fn, hfn, hf, ⟨k4, k19⟩, (fun hb => by rw [hnb] at hb; cases hb), by unfold OpenClaim.namedList; rw [hfo]; exact k5, hinst, hwrap,
    k6.trans k7.symm, ⟨k8.trans k9.symm, by unfold Program.envWorded; rw [k9]; rfl, k23b⟩, k10, k11, k12, k13, k14, ⟨k15, k27, k28⟩, ⟨k16, k20⟩, ⟨k17, k21, k25, k26⟩, ⟨k22, k24b, k24c, k17b⟩, (by rw [hout, hnar]; cases hsh : c.shortTexts with | none => simp | some _ => rw [hsh] at k23; cases k23), fun n hn' => varReadable_some (k18 n hn'),
    ⟨_, by unfold OpenClaim.world; rw [hout, hstart]; exact WideRow.started_initial, hq _⟩, [], by unfold OpenClaim.lists; rw [hfo], fun os st _ H enc inj => ?_⟩
  have st' : os.Started := by unfold OpenClaim.world at st; rw [hout, hstart] at st; exact st
  rw [OpenClaim.post_not_still hstill]
  unfold OpenClaim.form
  rw [hstart, k6]
  intro F
  have e1 : c.okInput = Input.okWide := by unfold OpenClaim.okInput; rw [hnb]
  have e2 : c.atReturn p.checked.prog = leavingAtReturn p.checked.prog := by unfold OpenClaim.atReturn; rw [hlv]
  have e3 : c.always p.checked.prog [] = nothingAlways := by unfold OpenClaim.always; rw [hfo]
  have e4 : s.post enc p.checked.prog fn F c.outside c.apart c.fresh c.handsOn c.again = (s.at F).post enc p.checked.prog fn c.apart c.fresh c.handsOn c.again := by rw [hout]; rfl
  rw [e1, e2, e3]
  show ReturnsInOpen _ _ _ _ _ _ _ _ (s.post enc p.checked.prog fn F c.outside c.apart c.fresh c.handsOn c.again) _ _
  rw [e4]
  exact h os st' H enc inj F k24

end Go.Proofs.YtogpgkoelplknaaDoor.leaving
end
