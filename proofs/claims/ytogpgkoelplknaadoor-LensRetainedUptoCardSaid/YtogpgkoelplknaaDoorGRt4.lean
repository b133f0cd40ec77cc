/- Merged texts: Rw1, Rw2, Rt2, Rt3, Rt4, Rt5, Rt6. No condition of its own: each text says what it holds. -/
import Derived.Test.YtogpgkoelplknaaDoorGRt3
import Derived.Deep.RegionWith
section
namespace Go.Proofs.YtogpgkoelplknaaDoor
set_option linter.unusedVariables false
open Classical in
noncomputable def wsum (f : Int -> Int) (p : Int -> Prop) : Nat -> Int
 | 0 => 0
 | m + 1 => wsum f p m + if p ((m : Int) + 1) then f ((m : Int) + 1) else 0
section
variable {f : Int -> Int} {p q : Int -> Prop}
theorem wsum_congr : ∀ {m : Nat}, (∀ y : Int, 1 <= y -> y <= (m : Int) -> (p y ↔ q y)) -> wsum f p m = wsum f q m
 | 0, _ => rfl
 | m + 1, h => by
  unfold wsum
  rw [wsum_congr (m := m) (fun y a b => h y a (by omega))]
  have := h ((m : Int) + 1) (by omega) (by omega)
  by_cases c : p ((m : Int) + 1)
  ·rw [if_pos c, if_pos (this.1 c)]
  ·rw [if_neg c, if_neg (fun e => c (this.2 e))]
theorem wsum_none : ∀ {m : Nat}, (∀ y : Int, 1 <= y -> y <= (m : Int) -> ¬ p y) -> wsum f p m = 0
 | 0, _ => rfl
 | m + 1, h => by
  unfold wsum
  rw [wsum_none (m := m) (fun y a b => h y a (by omega)), if_neg (h _ (by omega) (by omega))]
  rfl
theorem wsum_or {r : Int -> Prop} : ∀ {m : Nat}, (∀ y : Int, 1 <= y -> y <= (m : Int) -> (r y ↔ p y \/ q y)) -> (∀ y : Int, 1 <= y -> y <= (m : Int) -> p y -> ¬ q y) -> wsum f r m = wsum f p m + wsum f q m
 | 0, _, _ => rfl
 | m + 1, h, hd => by
  unfold wsum
  rw [wsum_or (m := m) (fun y a b => h y a (by omega)) (fun y a b => hd y a (by omega))]
  have h1 := h ((m : Int) + 1) (by omega) (by omega)
  have h2 := hd ((m : Int) + 1) (by omega) (by omega)
  by_cases c : p ((m : Int) + 1)
  ·rw [if_pos c, if_pos (h1.2 (.inl c)), if_neg (h2 c)]; omega
  ·by_cases e : q ((m : Int) + 1)
   ·rw [if_neg c, if_pos e, if_pos (h1.2 (.inr e))]; omega
   ·rw [if_neg c, if_neg e, if_neg (fun a => (h1.1 a).elim c e)]; omega
theorem wsum_one {n : Int} : ∀ {m : Nat}, 1 <= n -> n <= (m : Int) -> wsum f (fun y => y = n) m = f n
 | 0, h, k => by omega
 | m + 1, h, k => by
  unfold wsum
  by_cases e : (m : Int) + 1 = n
  ·rw [if_pos e, wsum_none (fun y a b => by omega), e]; omega
  ·rw [if_neg e, wsum_one h (by omega)]; omega
theorem wsum_le (hf : ∀ y : Int, 0 <= f y) : ∀ {m : Nat}, (∀ y : Int, 1 <= y -> y <= (m : Int) -> p y -> q y) -> 0 <= wsum f p m /\ wsum f p m <= wsum f q m
 | 0, _ => ⟨Int.le_refl _, Int.le_refl _⟩
 | m + 1, h => by
  unfold wsum
  have ih := wsum_le (m := m) hf (fun y a b => h y a (by omega))
  have h0 := hf ((m : Int) + 1)
  by_cases c : p ((m : Int) + 1)
  ·rw [if_pos c, if_pos (h _ (by omega) (by omega) c)]; omega
  ·rw [if_neg c]
   split <;> omega
theorem wsum_bd {B : Int} (hf : ∀ y : Int, 0 <= f y /\ f y <= B) : ∀ {m : Nat}, 0 <= wsum f p m /\ wsum f p m <= (m : Int) * B
 | 0 => by unfold wsum; simp
 | m + 1 => by
  unfold wsum
  have ih := wsum_bd (m := m) hf
  have h0 := hf ((m : Int) + 1)
  have e : ((m + 1 : Nat) : Int) * B = (m : Int) * B + B := by rw [Int.natCast_add, Int.add_mul]; simp
  rw [e]
  split <;> omega
end
section
variable {nx : Int -> List Int} {N : Nat}
def Tr (nx : Int -> List Int) (d y : Int) : Prop := Rd nx y /\ Dm nx d y
theorem Doms.cover {U od P : List Int} (H : NxOk nx N) (O : Ord nx od P) (D : Doms nx N U) (ls : ∀ y, Rd nx y -> y ≠ 0 -> fa P (fa U y) < fa P y) {x : Int} (x0 : 1 <= x) : ∀ (k : Nat) (y : Int), fa P y <= k -> Rd nx y -> Dm nx x y -> y ≠ x -> ∃ c, Rd nx c /\ 1 <= c /\ fa U c = x /\ Dm nx c y := by
 intro k
 induction k with
 | zero =>
  intro y hk hy hd hne
  have y0 : y ≠ 0 := fun e => by subst e; have := hd.atZero; omega
  have a := ls y hy y0
  have := O.nn (D.yes y hy y0).2.2.1
  omega
 | succ k ih =>
  intro y hk hy hd hne
  have y0 : y ≠ 0 := fun e => by subst e; have := hd.atZero; omega
  obtain ⟨a1, a2, a3, a4, a5, a6⟩ := D.yes y hy y0
  have hx := a6 x (fun e => hne e.symm) hd
  by_cases e : fa U y = x
  ·exact ⟨y, hy, by have := hy.rng H; omega, e, Dm.refl y⟩
  ·obtain ⟨c, c1, c2, c3, c4⟩ := ih (fa U y) (by have := ls y hy y0; omega) a3 hx e
   exact ⟨c, c1, c2, c3, c4.trans a5⟩
def Ch (nx : Int -> List Int) (U : List Int) (x c : Int) : Prop := Rd nx c /\ fa U c = x
theorem Ch.dis {U : List Int} (D : Doms nx N U) {x c e y : Int} (x0 : 1 <= x) (c0 : 1 <= c) (e0 : 1 <= e) (hc : Ch nx U x c) (he : Ch nx U x e) (hne : c ≠ e) (hy : Rd nx y) (h1 : Dm nx c y) (h2 : Dm nx e y) : False := by
 obtain ⟨_, _, _, c4, c5, c6⟩ := D.yes c hc.1 (by omega)
 obtain ⟨_, _, _, e4, e5, e6⟩ := D.yes e he.1 (by omega)
 rw [hc.2] at c4 c5 c6
 rw [he.2] at e4 e5 e6
 rcases Dm.chain (by omega) (by omega) hy h1 h2 with q | q
 ·exact c4 (Dm.anti hc.1 c5 (e6 c hne q))
 ·exact e4 (Dm.anti he.1 e5 (c6 e (fun a => hne a.symm) q))
noncomputable def tw (nx : Int -> List Int) (N : Nat) (f : Int -> Int) (d : Int) : Int := wsum f (Tr nx d) N
theorem tw_upto {U : List Int} (f : Int -> Int) (D : Doms nx N U) {x : Int} (x0 : 1 <= x) : ∀ m : Nat, m <= N -> wsum (tw nx N f) (Ch nx U x) m = wsum f (fun y => ∃ c : Int, 1 <= c /\ c <= (m : Int) /\ Ch nx U x c /\ Tr nx c y) N
 | 0, _ => by
  rw [wsum_none (p := fun y => ∃ c : Int, 1 <= c /\ c <= ((0 : Nat) : Int) /\ Ch nx U x c /\ Tr nx c y) (fun y a b h => by obtain ⟨c, h1, h2, _⟩ := h; omega)]
  rfl
 | m + 1, hm => by
  have ih := tw_upto f D x0 m (by omega)
  show wsum (tw nx N f) (Ch nx U x) m + _ = _
  rw [ih]
  by_cases c : Ch nx U x ((m : Int) + 1)
  ·rw [if_pos c]
   unfold tw
   refine (wsum_or (fun y y0 y1 => ⟨fun h => ?_, fun h => ?_⟩) (fun y y0 y1 h1 h2 => ?_)).symm
   ·obtain ⟨e, e0, e1, e2, e3⟩ := h
    by_cases q : e = (m : Int) + 1
    ·rw [q] at e3; exact .inr e3
    ·exact .inl ⟨e, e0, by omega, e2, e3⟩
   ·rcases h with ⟨e, e0, e1, e2, e3⟩ | h
    ·exact ⟨e, e0, by omega, e2, e3⟩
    ·exact ⟨_, by omega, by omega, c, h⟩
   ·obtain ⟨e, e0, e1, e2, e3⟩ := h1
    exact Ch.dis D x0 e0 (by omega) e2 c (by omega) e3.1 e3.2 h2.2
  ·rw [if_neg c, Int.add_zero]
   refine wsum_congr fun y y0 y1 => ⟨fun h => ?_, fun h => ?_⟩
   ·obtain ⟨e, e0, e1, e2, e3⟩ := h
    exact ⟨e, e0, by omega, e2, e3⟩
   ·obtain ⟨e, e0, e1, e2, e3⟩ := h
    by_cases q : e = (m : Int) + 1
    ·rw [q] at e2; exact absurd e2 c
    ·exact ⟨e, e0, by omega, e2, e3⟩
theorem tw_eq {U od P : List Int} (f : Int -> Int) (H : NxOk nx N) (O : Ord nx od P) (D : Doms nx N U) (ls : ∀ y, Rd nx y -> y ≠ 0 -> fa P (fa U y) < fa P y) {x : Int} (x0 : 1 <= x) (hx : Rd nx x) : tw nx N f x = f x + wsum (tw nx N f) (Ch nx U x) N := by
 rw [tw_upto f D x0 N (Nat.le_refl _)]
 have xr := hx.rng H
 unfold tw
 rw [<- wsum_one (f := f) (n := x) (m := N) x0 xr.2]
 refine wsum_or (fun y y0 y1 => ⟨fun h => ?_, fun h => ?_⟩) (fun y y0 y1 h1 h2 => ?_)
 ·by_cases e : y = x
  ·exact .inl e
  ·obtain ⟨c, c1, c2, c3, c4⟩ := D.cover H O ls x0 (fa P y).toNat y (by have := O.nn h.1; omega) h.1 h.2 e
   exact .inr ⟨c, c2, (c1.rng H).2, ⟨c1, c3⟩, h.1, c4⟩
 ·rcases h with h | ⟨c, c1, c2, c3, c4⟩
  ·subst h; exact ⟨hx, Dm.refl y⟩
  ·refine ⟨c4.1, ?_⟩
   have := (D.yes c c3.1 (by omega)).2.2.2.2.1
   rw [c3.2] at this
   exact this.trans c4.2
 ·subst h1
  obtain ⟨c, c1, c2, c3, c4⟩ := h2
  obtain ⟨_, _, _, a4, a5, _⟩ := D.yes c c3.1 (by omega)
  rw [c3.2] at a4 a5
  exact a4 (Dm.anti c3.1 a5 c4.2)
structure Sm (nx : Int -> List Int) (N : Nat) (f : Int -> Int) (U P : List Int) (i : Int) (l : List Int) : Prop where
 len : l.length = N
 no : ∀ x : Int, 1 <= x -> x <= (N : Int) -> ¬ Rd nx x -> fa l (x - 1) = 0
 done : ∀ x : Int, 1 <= x -> Rd nx x -> i <= fa P x -> fa l (x - 1) = tw nx N f x
 part : ∀ x : Int, 1 <= x -> Rd nx x -> fa P x < i -> fa l (x - 1) = wsum (tw nx N f) (fun c => Ch nx U x c /\ i <= fa P c) N
theorem Sm.begin {U od P : List Int} (f : Int -> Int) (H : NxOk nx N) (O : Ord nx od P) : Sm nx N f U P (od.length : Int) (List.replicate N 0) := by
 have z : ∀ x, fa (List.replicate N 0) x = 0 := fun x => by
  unfold fa
  rw [List.getD_eq_getElem?_getD, List.getElem?_replicate]; split <;> rfl
 refine ⟨by simp, fun x _ _ _ => z _, fun x x0 hx hi => ?_, fun x x0 hx hi => ?_⟩
 ·have := (O.nn hx).2; omega
 ·rw [z]
  refine (wsum_none fun y y0 y1 h => ?_).symm
  have := (O.nn h.1.1).2
  omega
theorem Sm.step {U od P : List Int} {f : Int -> Int} (H : NxOk nx N) (O : Ord nx od P) (D : Doms nx N U) (ls : ∀ y, Rd nx y -> y ≠ 0 -> fa P (fa U y) < fa P y) {i : Nat} {l : List Int} (h : Sm nx N f U P ((i : Int) + 1) l) {n : Int} (n0 : 1 <= n) (hn : Rd nx n) (hp : fa P n = i) :
  fa l (n - 1) + f n = tw nx N f n /\ (fa U n <= 0 -> Sm nx N f U P (i : Int) (l.set (n - 1).toNat (tw nx N f n))) /\ (0 < fa U n -> fa (l.set (n - 1).toNat (tw nx N f n)) (fa U n - 1) = fa l (fa U n - 1) /\ Sm nx N f U P (i : Int) ((l.set (n - 1).toNat (tw nx N f n)).set (fa U n - 1).toNat (fa l (fa U n - 1) + tw nx N f n))) := by
 have nr := hn.rng H
 obtain ⟨u1, u2, u3, u4, u5, u6⟩ := D.yes n hn (by omega)
 have ul := ls n hn (by omega)
 have e0 : fa l (n - 1) + f n = tw nx N f n := by
  rw [h.part n n0 hn (by omega), tw_eq f H O D ls n0 hn, Int.add_comm]
  congr 1
  refine wsum_congr fun c c0 c1 => ⟨fun a => a.1, fun a => ⟨a, ?_⟩⟩
  have := ls c a.1 (by omega)
  rw [a.2] at this
  omega
 have hs : ∀ x : Int, 1 <= x -> fa (l.set (n - 1).toNat (tw nx N f n)) (x - 1) = if x = n then tw nx N f n else fa l (x - 1) := fun x x0 => by
  rw [fa_set' (by have := h.len; omega) (by omega)]
  by_cases e : x = n
  ·rw [if_pos (by omega), if_pos e]
  ·rw [if_neg (by omega), if_neg e]
 have same : ∀ x : Int, x ≠ fa U n -> wsum (tw nx N f) (fun c => Ch nx U x c /\ (i : Int) <= fa P c) N = wsum (tw nx N f) (fun c => Ch nx U x c /\ (i : Int) + 1 <= fa P c) N := fun x hx => wsum_congr fun c c0 c1 => ⟨fun a => ⟨a.1, by
   have : c ≠ n := fun e => hx (by rw [<- a.1.2, e])
   by_cases q : fa P c = i
   ·exact absurd (O.inj a.1.1 hn (by omega)) this
   ·have := a.2; omega⟩, fun a => ⟨a.1, by have := a.2; omega⟩⟩
 refine ⟨e0, fun hu => ?_, fun hu => ?_⟩
 ·refine ⟨by simp [h.len], fun x x0 x1 hx => ?_, fun x x0 hx hi => ?_, fun x x0 hx hi => ?_⟩
  ·rw [hs x x0, if_neg (show ¬ x = n from fun e => hx (by rw [e]; exact hn))]; exact h.no x x0 x1 hx
  ·rw [hs x x0]
   by_cases e : x = n
   ·rw [if_pos e, e]
   ·rw [if_neg e]
    refine h.done x x0 hx ?_
    by_cases q : fa P x = i
    ·exact absurd (O.inj hx hn (by omega)) e
    ·omega
  ·rw [hs x x0, if_neg (fun e => by rw [e] at hi; omega), h.part x x0 hx (by omega), same x (by omega)]
 ·have hs2 : ∀ x : Int, 1 <= x -> fa ((l.set (n - 1).toNat (tw nx N f n)).set (fa U n - 1).toNat (fa l (fa U n - 1) + tw nx N f n)) (x - 1) = if x = fa U n then fa l (fa U n - 1) + tw nx N f n else if x = n then tw nx N f n else fa l (x - 1) := fun x x0 => by
   rw [fa_set' (by have := h.len; simp; omega) (by omega)]
   by_cases e : x = fa U n
   ·rw [if_pos (by omega), if_pos e]
   ·rw [if_neg (by omega), if_neg e, hs x x0]
  refine ⟨by rw [hs _ (by omega), if_neg u4], ⟨by simp [h.len], fun x x0 x1 hx => ?_, fun x x0 hx hi => ?_, fun x x0 hx hi => ?_⟩⟩
  ·rw [hs2 x x0, if_neg (show ¬ x = fa U n from fun e => hx (by rw [e]; exact u3)), if_neg (show ¬ x = n from fun e => hx (by rw [e]; exact hn))]; exact h.no x x0 x1 hx
  ·rw [hs2 x x0, if_neg (fun e => by rw [e] at hi; omega)]
   by_cases e : x = n
   ·rw [if_pos e, e]
   ·rw [if_neg e]
    refine h.done x x0 hx ?_
    by_cases q : fa P x = i
    ·exact absurd (O.inj hx hn (by omega)) e
    ·omega
  ·rw [hs2 x x0]
   by_cases e : x = fa U n
   ·rw [if_pos e, h.part _ (by omega) u3 (by omega), e, <- wsum_one (f := tw nx N f) (n := n) (m := N) n0 nr.2]
    refine (wsum_or (fun c c0 c1 => ⟨fun a => ?_, fun a => ?_⟩) (fun c c0 c1 a b => ?_)).symm
    ·by_cases q : c = n
     ·exact .inr q
     ·refine .inl ⟨a.1, ?_⟩
      by_cases r : fa P c = i
      ·exact absurd (O.inj a.1.1 hn (by omega)) q
      ·have := a.2; omega
    ·rcases a with a | a
     ·exact ⟨a.1, by have := a.2; omega⟩
     ·subst a; exact ⟨⟨hn, rfl⟩, by omega⟩
    ·subst b
     have := a.2
     omega
   ·rw [if_neg e, if_neg (fun q => by rw [q] at hi; omega), h.part x x0 hx (by omega), same x e]
structure RetL (nx : Int -> List Int) (ek : Int -> Option (Int × Int)) (N : Nat) (f : Int -> Int) (p : List Int) : Prop where
 len : p.length = N
 no : ∀ x : Int, 1 <= x -> x <= (N : Int) -> ¬ Ra nx ek (-1) x -> p.getD (x - 1).toNat 0 = 0
 yes : ∀ x : Int, 1 <= x -> x <= (N : Int) -> Ra nx ek (-1) x -> p.getD (x - 1).toNat 0 = wsum f (Ra nx ek (-1)) N - wsum f (Ra nx ek x) N
theorem RetL.one {ek : Int -> Option (Int × Int)} {f : Int -> Int} {p q : List Int} (hp : RetL nx ek N f p) (hq : RetL nx ek N f q) : p = q := by
 refine List.ext_getElem (by rw [hp.len, hq.len]) fun i h1 h2 => ?_
 have e : p.getD i 0 = q.getD i 0 := by
  have e1 : ((i : Int) + 1 - 1).toNat = i := by omega
  have hl := hp.len
  by_cases c : Ra nx ek (-1) ((i : Int) + 1)
  ·have a := hp.yes _ (by omega) (by omega) c
   have b := hq.yes _ (by omega) (by omega) c
   rw [e1] at a b
   rw [a, b]
  ·have a := hp.no _ (by omega) (by omega) c
   have b := hq.no _ (by omega) (by omega) c
   rw [e1] at a b
   rw [a, b]
 rwa [List.getD_eq_getElem?_getD, List.getD_eq_getElem?_getD, List.getElem?_eq_getElem h1, List.getElem?_eq_getElem h2] at e
theorem Ra.all {ek : Int -> Option (Int × Int)} (H : NxOk nx N) (K : EkOk ek N) {d y : Int} (h : Ra nx ek d y) : Ra nx ek (-1) y := by
 induction h with
 | root hz zd => exact .root hz (by have := H.rng _ _ hz; omega)
 | way hy hz zd ih => exact .way ih hz (by have := H.rng _ _ hz; omega)
 | eph hy he hk v0 vd ih1 ih2 => exact .eph ih1 he ih2 v0 (by omega)
theorem Ra.av {ek : Int -> Option (Int × Int)} (H : NxOk nx N) (K : EkOk ek N) (ne : ∀ y, Ra nx ek (-1) y -> ek y = none) {d y : Int} (d0 : d ≠ 0) (h : Ra nx ek d y) : ∃ k, Av nx d k y := by
 induction h with
 | root hz zd => exact ⟨1, .step (.root d0) hz zd⟩
 | way hy hz zd ih => obtain ⟨k, a⟩ := ih; exact ⟨k + 1, .step a hz zd⟩
 | eph hy he hk v0 vd ih1 ih2 => rw [ne _ (hy.all H K)] at he; cases he
theorem Av.ra {ek : Int -> Option (Int × Int)} (H : NxOk nx N) {d : Int} : ∀ (k : Nat) (y : Int), Av nx d k y -> 1 <= y -> Ra nx ek d y := by
 intro k
 induction k with
 | zero => intro y h y0; cases h; omega
 | succ k ih =>
  intro y h y0
  cases h with
  | @step _ p _ a hy hd =>
   by_cases e : p = 0
   ·rw [e] at hy; exact .root hy hd
   ·exact .way (ih p a (by have := a.rng H; omega)) hy hd
theorem Sm.ret {ek : Int -> Option (Int × Int)} {f : Int -> Int} {U od P l : List Int} (H : NxOk nx N) (K : EkOk ek N) (O : Ord nx od P) (ne : ∀ y, Ra nx ek (-1) y -> ek y = none) (h : Sm nx N f U P 1 l) : RetL nx ek N f l := by
 have rd : ∀ y : Int, 1 <= y -> (Ra nx ek (-1) y ↔ Rd nx y) := fun y y0 => ⟨fun a => a.av H K ne (by omega), fun ⟨k, a⟩ => a.ra H k y y0⟩
 have fe : ∀ x : Int, l.getD (x - 1).toNat 0 = fa l (x - 1) := fun x => rfl
 refine ⟨h.len, fun x x0 x1 hx => ?_, fun x x0 x1 hx => ?_⟩
 ·rw [fe, h.no x x0 x1 (fun a => hx ((rd x x0).2 a))]
 ·have hr := (rd x x0).1 hx
  have hp : 1 <= fa P x := by
   have p0 := O.pl 0 O.hd.1
   rw [O.hd.2] at p0
   have := (O.nn hr).1
   by_cases q : fa P x = 0
   ·have := O.inj hr Rd.zero (by rw [q, p0]; rfl)
    omega
   ·omega
  rw [fe, h.done x x0 hr hp]
  have e : wsum f (Ra nx ek (-1)) N = wsum f (Tr nx x) N + wsum f (Ra nx ek x) N := by
   refine wsum_or (fun y y0 y1 => ⟨fun a => ?_, fun a => ?_⟩) (fun y y0 y1 a b => ?_)
   ·by_cases q : Dm nx x y
    ·exact .inl ⟨(rd y y0).1 a, q⟩
    ·right
     obtain ⟨k, b⟩ := Classical.not_forall.1 q
     exact (Classical.not_not.1 b).ra H k y y0
   ·rcases a with a | a
    ·exact (rd y y0).2 a.1
    ·exact a.all H K
   ·obtain ⟨k, c⟩ := b.av H K ne (by omega)
    exact a.2 k c
  rw [e]
  unfold tw
  omega
end
end Go.Proofs.YtogpgkoelplknaaDoor
end
section
namespace Go.Proofs.YtogpgkoelplknaaDoor
set_option linter.unusedVariables false
section
section
variable {nx : Int -> List Int} {ek : Int -> Option (Int × Int)} {N : Nat} {d : Int} {S S0 S' : List Bool} {M l : List Int}
theorem Ra.ne {y : Int} (h : Ra nx ek d y) : y ≠ d := by
 cases h with
 | root _ h => exact h
 | way _ _ h => exact h
 | eph _ _ _ _ h => exact h
theorem Ra.zero (H : NxOk nx N) (K : EkOk ek N) {y : Int} : Ra nx ek 0 y ↔ Ra nx ek (-1) y := by
 refine ⟨fun h => h.all H K, fun h => ?_⟩
 induction h with
 | root hz zd => exact .root hz (by have := H.rng _ _ hz; omega)
 | way hy hz zd ih => exact .way ih hz (by have := H.rng _ _ hz; omega)
 | eph hy he hk v0 vd ih1 ih2 => exact .eph ih1 he ih2 v0 (by omega)
structure Rq (nx : Int -> List Int) (ek : Int -> Option (Int × Int)) (N : Nat) (d : Int) (S : List Bool) : Prop where
 sl : S.length = N + 1
 snd : ∀ y : Int, 1 <= y -> y <= (N : Int) -> sb S y = true -> Ra nx ek d y
 rt : ∀ z ∈ nx 0, z ≠ d -> sb S z = true
def Cl (nx : Int -> List Int) (ek : Int -> Option (Int × Int)) (d : Int) (S : List Bool) (y : Int) : Prop := (∀ z ∈ nx y, z ≠ d -> sb S z = true) /\ ∀ k v, ek y = some (k, v) -> 0 < k -> k ≠ d -> sb S k = true -> 0 < v -> v ≠ d -> sb S v = true
structure Rr (nx : Int -> List Int) (ek : Int -> Option (Int × Int)) (N : Nat) (d : Int) (S0 S : List Bool) (n : Nat) (more : Bool) : Prop where
 q : Rq nx ek N d S
 prog : more = true -> unb (fun _ => 1) S 0 < unb (fun _ => 1) S0 0
 le : unb (fun _ => 1) S 0 <= unb (fun _ => 1) S0 0
 st : more = false -> ∀ y : Int, 1 <= y -> y < (n : Int) -> sb S y = true -> Cl nx ek d S y
theorem Rq.begin (H : NxOk nx N) {l : List Int} (hl : ∀ z, z ∈ l ↔ z ∈ nx 0 /\ z ≠ d) (sl : S.length = N + 1) (h1 : ∀ z ∈ l, sb S z = true) (h2 : ∀ y : Int, 1 <= y -> y <= (N : Int) -> sb S y = true -> y ∈ l) : Rq nx ek N d S :=
 ⟨sl, fun y y0 y1 hy => by
  have := (hl y).1 (h2 y y0 y1 hy)
  exact .root this.1 this.2, fun z hz zd => h1 z ((hl z).2 ⟨hz, zd⟩)⟩
theorem Rr.begin (h : Rq nx ek N d S) : Rr nx ek N d S S 1 false := ⟨h, fun e => (by cases e), Nat.le_refl _, fun _ y y0 y1 => by omega⟩
theorem Rr.skip {n : Nat} {more : Bool} (h : Rr nx ek N d S0 S n more) (hn : sb S (n : Int) = false) : Rr nx ek N d S0 S (n + 1) more :=
 ⟨h.q, h.prog, h.le, fun e y y0 y1 hy => by
  by_cases q : y = (n : Int)
  ·rw [q, hn] at hy; cases hy
  ·exact h.st e y y0 (by omega) hy⟩
def nextD (nx : Int -> List Int) (ek : Int -> Option (Int × Int)) (d : Int) (S : List Bool) (n : Int) : List Int :=
 nx n ++ match ek n with
  | some (k, v) => if 0 < k /\ k ≠ d /\ sb S k = true /\ 0 < v then [v] else []
  | none => []
theorem Rr.step (H : NxOk nx N) (K : EkOk ek N) {n : Nat} {more more' : Bool} (h : Rr nx ek N d S0 S n more) (n0 : 1 <= n) (n1 : n <= N) (hn : sb S (n : Int) = true) (hm : More N d (nextD nx ek d S (n : Int)) S S' M) (e : more' = true ↔ more = true \/ M ≠ []) : Rr nx ek N d S0 S' (n + 1) more' := by
 have ran := h.q.snd n (by omega) (by omega) hn
 have inx : ∀ z, z ∈ nextD nx ek d S (n : Int) -> z ≠ d -> Ra nx ek d z := fun z hz zd => by
  unfold nextD at hz
  rcases List.mem_append.1 hz with a | a
  ·exact .way ran a zd
  ·split at a
   ·rename_i k v ekn
    split at a
    ·rename_i q
     simp at a
     subst a
     have kr := K.rng _ _ _ ekn
     exact .eph ran ekn (h.q.snd k (by omega) kr.2.1 q.2.2.1) q.2.2.2 zd
    ·cases a
   ·cases a
 have hc := hm.cnt
 have hle := h.le
 refine ⟨⟨by rw [hm.len]; exact h.q.sl, fun y y0 y1 hy => ?_, fun z hz zd => hm.old z (by have := H.rng _ _ hz; omega) (h.q.rt z hz zd)⟩, fun em => ?_, by omega, fun em y y0 y1 hy => ?_⟩
 ·rcases hm.new y (by omega) hy with a | a
  ·exact h.q.snd y y0 y1 a
  ·obtain ⟨a1, _, a3, _⟩ := hm.m y a
   exact inx y a1 a3
 ·rcases e.1 em with a | a
  ·have := h.prog a; omega
  ·have : M.length ≠ 0 := fun q => a (List.length_eq_zero_iff.1 q)
   omega
 ·have mf : more = false := by cases c : more with
   | false => rfl
   | true => rw [e.2 (.inl c)] at em; cases em
  have M0 : M = [] := Classical.byContradiction fun q => by rw [e.2 (.inr q)] at em; cases em
  have es := hm.none M0
  rw [es] at hy ⊢
  by_cases q : y = (n : Int)
  ·subst q
   refine ⟨fun z hz zd => ?_, fun k v ekn k0 kd hk v0 vd => ?_⟩
   ·have := hm.all z (by unfold nextD; exact List.mem_append.2 (.inl hz)) (by have := H.rng _ _ hz; omega) zd
    rwa [es] at this
   ·have := hm.all v (by unfold nextD; rw [ekn]; exact List.mem_append.2 (.inr (by simp only; rw [if_pos ⟨k0, kd, hk, v0⟩]; simp))) v0 vd
    rwa [es] at this
  ·exact h.st mf y y0 (by omega) hy
theorem Rr.over (H : NxOk nx N) (K : EkOk ek N) (h : Rr nx ek N d S0 S (N + 1) false) (y : Int) (y0 : 1 <= y) (y1 : y <= (N : Int)) : sb S y = true ↔ Ra nx ek d y := by
 refine ⟨h.q.snd y y0 y1, fun q => ?_⟩
 clear y0 y1
 induction q with
 | root hz zd => exact h.q.rt _ hz zd
 | @way y z hy hz zd ih =>
  have r := hy.rng H K
  exact (h.st rfl y r.1 (by omega) ih).1 z hz zd
 | @eph y k v hy he hk v0 vd ih1 ih2 =>
  have r := hy.rng H K
  have rk := hk.rng H K
  exact (h.st rfl y r.1 (by omega) ih1).2 k v he (by omega) hk.ne ih2 v0 vd
end
end
end Go.Proofs.YtogpgkoelplknaaDoor
end
section
namespace Go.Proofs.YtogpgkoelplknaaDoor
open Go.RowKit Go.BigFrame PLensPaths Go.Proofs.YtogpgkoelplknaaDoorW.PrintWords Go.Proofs.YtogpgkoelplknaaDoorW.PrintMore
set_option linter.unusedVariables false
section
theorem More.skip {N : Nat} {d n : Int} {l : List Int} {S S' : List Bool} {M : List Int} (h : More N d l S S' M) (hl : S.length = N + 1) (hn : n <= (N : Int)) (q : ¬ (0 < n /\ sb S' n = false /\ n ≠ d)) : More N d (l ++ [n]) S S' M := by
 obtain ⟨S2, M2, e, h2⟩ := h.step (W := []) hl hn
 unfold see1 at e
 rw [if_neg q] at e
 simp only [List.nil_append, Prod.mk.injEq] at e
 obtain ⟨rfl, rfl⟩ := e
 exact h2
theorem More.add {N : Nat} {d n : Int} {l : List Int} {S S' : List Bool} {M : List Int} (h : More N d l S S' M) (hl : S.length = N + 1) (hn : n <= (N : Int)) (q : 0 < n /\ sb S' n = false /\ n ≠ d) : More N d (l ++ [n]) S (S'.set n.toNat true) (M ++ [n]) := by
 obtain ⟨S2, M2, e, h2⟩ := h.step (W := []) hl hn
 unfold see1 at e
 rw [if_pos q] at e
 simp only [List.nil_append, Prod.mk.injEq] at e
 obtain ⟨rfl, rfl⟩ := e
 exact h2
structure KpAt (w : World) (B bi bk bw : Nat) (S : List Bool) (W : List Int) (vS vW kv : Value) : Prop where
 ks : KsAt w B bi bw S W vS vW
 kp : w.heap[bk]? = some (.cells #[kv] 84 (0, 0))
 kB : B <= bk
theorem KpAt.put {w : World} {B bi bk bw : Nat} {S : List Bool} {W : List Int} {gS n cS : Nat} {vW kv : Value} (h : KpAt w B bi bk bw S W (.slice (some ⟨gS, 0, none⟩) n cS) vW kv) (i : Nat) :
  KpAt (w.setCell ⟨gS, i, none⟩ (.bool true)) B bi bk bw (S.set i true) W (.slice (some ⟨gS, 0, none⟩) n cS) vW kv := by
 obtain ⟨cells, hty⟩ := Kd.R_typed h.ks.rs gS rfl
 exact ⟨h.ks.put i, blk_far h.kp (blk_ne h.kp hty (by decide)) _, h.kB⟩
theorem KpAt.app {w w1 : World} {B bi bk bw : Nat} {S : List Bool} {W W1 : List Int} {vS vW v1 kv : Value} (h : KpAt w B bi bk bw S W vS vW kv) (h1 : RI w1 B v1 W1) (hg : w.grownBy w1 vW.ownBlock) : KpAt (w1.setCell ⟨bw, 0, none⟩ v1) B bi bk bw S W1 vS v1 kv := by
 have k1 := blk_grown h.kp hg (Kd.R_ne h.ks.rw h.kp (by decide))
 have ne : bk ≠ bw := blk_ne h.kp h.ks.k (by decide)
 exact ⟨h.ks.app h1 hg, blk_far k1 ne _, h.kB⟩
theorem KpAt.below {w w1 : World} {B bi bk bw : Nat} {S : List Bool} {W : List Int} {vS vW kv : Value} (h : KpAt w B bi bk bw S W vS vW kv) (hb : Below w.heap.size w w1) : KpAt w1 B bi bk bw S W vS vW kv :=
 ⟨⟨box_keep h.ks.s hb, box_keep h.ks.k hb, Kd.R_below h.ks.rs hb, Kd.R_below h.ks.rw hb, h.ks.sB, h.ks.kB⟩, box_keep h.kp hb, h.kB⟩
theorem keep1_any (x : Int) (w : World) : Calls Tryd.prog 60 #[.int .i64 x] w fun e w' => e = .returned (.bool true) /\ w = w' := by
 go_enter Tryd.func60, Tryd.ntmps60
 go_wp2_with fail
 go_ret
 exact ⟨rfl, rfl⟩
theorem keep2_any (x : Int) (i : Nat) (bx : Nat) (w : World) (h : w.cell? ⟨bx, 0, none⟩ = some (.int .i64 (i : Int))) (hi : i <= 1048576) (d : Int) (hd : d = (i : Int) + 1) : Calls Tryd.prog 63 #[.int .i64 x, .pointer (some ⟨bx, 0, none⟩)] w fun e w' => e = .returned (.bool (!decide (x = d))) /\ w = w' := by
 subst hd
 by_cases e : x = (i : Int) + 1
 ·have d1 : decide (x = (i : Int) + 1) = true := decide_eq_true e
  rw [d1]
  subst e
  have d2 : (((i : Int) + 1) == ((i : Int) + 1)) = true := by simp
  go_enter Tryd.func63, Tryd.ntmps63
  go_wp2_with fail
  go_ret
  first | exact ⟨rfl, rfl⟩ | exact ⟨by simp, rfl⟩
 ·have d1 : decide (x = (i : Int) + 1) = false := decide_eq_false e
  rw [d1]
  have d2 : (x == (i : Int) + 1) = false := by simpa using e
  go_enter Tryd.func63, Tryd.ntmps63
  go_wp2_with fail
  go_ret
  first | exact ⟨rfl, rfl⟩ | exact ⟨by simp [e], rfl⟩
theorem own_or {a b : Value} (h : ∀ k, a.ownBlock = some k -> b.ownBlock ≠ some k) : a.ownBlock = none \/ a.ownBlock ≠ b.ownBlock := by
 cases e : a.ownBlock with
 | none => exact .inl rfl
 | some k => exact .inr fun q => h k e q.symm
def Fr (w w' : World) (vS vW : Value) (bw : Nat) : Prop := ∀ k, k < w.heap.size -> vS.ownBlock ≠ some k -> vW.ownBlock ≠ some k -> k ≠ bw -> w'.heap[k]? = w.heap[k]?
theorem Fr.refl (w : World) (vS vW : Value) (bw : Nat) : Fr w w vS vW bw := fun _ _ _ _ _ => rfl
theorem Fr.put {w w1 : World} {vS vW : Value} {bw : Nat} (h : Fr w w1 vS vW bw) {g : Nat} (hg : vS.ownBlock = some g) (i : Nat) (v : Value) : Fr w (w1.setCell ⟨g, i, none⟩ v) vS vW bw := fun k h1 h2 h3 h4 =>
 (Below.heap_setCell w1 ⟨g, i, none⟩ v k (fun e => h2 (by rw [hg, e]))).trans (h k h1 h2 h3 h4)
theorem Fr.app {w w1 w2 : World} {vS vW vX : Value} {bw : Nat} (h : Fr w w1 vS vW bw) (hg : w1.grownBy w2 vX.ownBlock) (hx : vX.ownBlock = vW.ownBlock \/ ∃ b, vX.ownBlock = some b /\ w.heap.size <= b) (hs : w.heap.size <= w1.heap.size) (v : Value) : Fr w (w2.setCell ⟨bw, 0, none⟩ v) vS vW bw := fun k h1 h2 h3 h4 => by
 rw [Below.heap_setCell w2 ⟨bw, 0, none⟩ v k h4, hg.block k (by omega) (fun e => ?_)]
 ·exact h k h1 h2 h3 h4
 ·rcases hx with q | ⟨b, q, hb⟩
  ·exact h3 (by rw [<- q, <- e])
  ·rw [q] at e
   cases e
   omega
theorem Fr.trans {w w1 w2 : World} {vS vW vX : Value} {bw : Nat} (h : Fr w w1 vS vW bw) (h2 : Fr w1 w2 vS vX bw) (hx : vX.ownBlock = vW.ownBlock \/ ∃ b, vX.ownBlock = some b /\ w.heap.size <= b) (hs : w.heap.size <= w1.heap.size) : Fr w w2 vS vW bw := fun k a b c d =>
 (h2 k (by omega) b (fun e => by
  rcases hx with q | ⟨y, q, hb⟩
  ·exact c (by rw [<- q, e])
  ·rw [q] at e
   cases e
   omega) d).trans (h k a b c d)
theorem own_next {a b v : Value} {N0 N1 : Nat} (h : ∀ k, a.ownBlock = some k -> b.ownBlock ≠ some k) (hB : ∀ k, a.ownBlock = some k -> k < N0) (hat : v.ownBlock = b.ownBlock \/ ∃ x, v.ownBlock = some x /\ N1 <= x) (hN : N0 <= N1) : ∀ k, a.ownBlock = some k -> v.ownBlock ≠ some k := fun k hk e => by
 rcases hat with q | ⟨x, q, hx⟩
 ·exact h k hk (q ▸ e)
 ·rw [q] at e
  cases e
  have := hB k hk
  omega
theorem own_at {b c v : Value} {N0 N1 : Nat} (h : b.ownBlock = c.ownBlock \/ ∃ x, b.ownBlock = some x /\ N0 <= x) (hat : v.ownBlock = b.ownBlock \/ ∃ x, v.ownBlock = some x /\ N1 <= x) (hN : N0 <= N1) : v.ownBlock = c.ownBlock \/ ∃ x, v.ownBlock = some x /\ N0 <= x := by
 rcases hat with q | ⟨x, q, hx⟩
 ·rw [q]; exact h
 ·exact .inr ⟨x, q, by omega⟩
theorem size_set {w1 w2 : World} {N0 : Nat} (h : N0 <= w1.heap.size) (h2 : w1.heap.size <= w2.heap.size) (p : Addr) (v : Value) : N0 <= (w2.setCell p v).heap.size := by
 simp [World.setCell]
 omega
theorem cell_below2 {B : Nat} {w W : World} {a : Addr} {v : Value} (hb : Below B w W) (ha : a.block < B) (h : w.cell? a = some v) : W.cell? a = some v := by
 have := hb.block a.block ha
 simp only [World.cell?, this] at h ⊢
 exact h
set_option maxRecDepth 100000 in
set_option maxHeartbeats 8000000 in
theorem see1_any (w0 w : World) (B bi bk bw n : Nat) (S : List Bool) (W : List Int) (vS vW : Value) (A : Option Addr) (c : Nat) (l : List Int) (d : Int) (hd : d = -1) (hK : KpAt w B bi bk bw S W vS vW (.func (.func 60) #[] #[])) (hSl : S.length = n + 1) (hl : RI w B (.slice A l.length c) l) (hlw : ∀ k, (Value.slice A l.length c).ownBlock = some k -> vW.ownBlock ≠ some k) (hb : Below B w0 w)
  (hx : ∀ x ∈ l, x <= (n : Int)) (hn : n <= 1048576) (hlen : W.length + l.length <= 16777216) :
  Calls Tryd.prog 89 #[.slice A l.length c, .pointer (some ⟨bi, 0, none⟩), .pointer (some ⟨bk, 0, none⟩), .pointer (some ⟨bw, 0, none⟩)] w fun e w' => e = .returned (.tuple #[]) /\ (∃ S' M vW', KpAt w' B bi bk bw S' (W ++ M) vS vW' (.func (.func 60) #[] #[]) /\ More n d l S S' M /\ (vW'.ownBlock = vW.ownBlock \/ ∃ b, vW'.ownBlock = some b /\ w.heap.size <= b)) /\ Below B w0 w' /\ Fr w w' vS vW bw /\ w.heap.size <= w'.heap.size := by
 obtain ⟨gS, cS, rfl, gS0, gS1⟩ := RB_form hK.ks.rs (by omega)
 rw [hSl] at hK
 have hl63 := Kd.C_max (Kd.R_reads' hl).2.2
 have HM0 := Lib.hid (show More n d (l.take 0) S S [] from More.nil)
 have hKW : KpAt w B bi bk bw S (W ++ []) (.slice (some ⟨gS, 0, none⟩) (n + 1) cS) vW (.func (.func 60) #[] #[]) := by rw [List.append_nil]; exact hK
 have HS := Lib.hid hSl
 have hwB : ∀ k, (Value.slice A l.length c).ownBlock = some k -> k < w.heap.size := fun k hk => (RI_lt hl k hk).2
 clear hK
 go_enter Tryd.func89, Tryd.ntmps89
 go_wp2_with fail
 go_loopw [9] (fun iv wx => ∃ (i : Nat) (S' : List Bool) (M : List Int) (vW' : Value), i <= l.length /\ iv = .int .i64 i /\ Hid (More n d (l.take i) S S' M) /\ KpAt wx B bi bk bw S' (W ++ M) (.slice (some ⟨gS, 0, none⟩) (n + 1) cS) vW' (.func (.func 60) #[] #[]) /\ RI wx B (.slice A l.length c) l /\ (∀ k, (Value.slice A l.length c).ownBlock = some k -> vW'.ownBlock ≠ some k) /\ (vW'.ownBlock = vW.ownBlock \/ ∃ b, vW'.ownBlock = some b /\ w.heap.size <= b) /\ w.heap.size <= wx.heap.size /\ M.length <= i /\ Fr w wx (.slice (some ⟨gS, 0, none⟩) (n + 1) cS) vW bw /\ Below B w0 wx) (fun iv _ => l.length - (intOf iv).toNat)
 case atStart => exact ⟨0, S, [], vW, by omega, rfl, HM0, hKW, hl, hlw, .inl rfl, Nat.le_refl _, by simp, Fr.refl _ _ _ _, hb⟩
 case round =>
  clear hKW hb HM0 hl hlw
  obtain ⟨i, S', M, vW', hi, rfl, hMo, hK, hl, hlw, hat, hsz, hMl, hFr, hb⟩ := hrel
  have HFr := Lib.hid hFr
  clear hFr
  have HMo := Lib.hid hMo
  by_cases hlt : i < l.length
  ·have dlt : decide ((i : Int) < (l.length : Int)) = true := decide_eq_true (by omega)
   have i0 : (0 : Int) <= (i : Int) := by omega
   have i1 : (i : Int) < (l.length : Int) := by omega
   obtain ⟨cs, fs⟩ := blk_at hK.ks.s
   obtain ⟨ck, fk⟩ := blk_at hK.ks.k
   obtain ⟨cp, fp⟩ := blk_at hK.kp
   obtain ⟨ad, rfl, hc⟩ := int_at (Kd.R_reads' hl).2.2 i hlt
   have hxb := hx _ (getD_mem 0 hlt)
   have HT := Lib.hid (take_snocD l i hlt)
   generalize l.getD i 0 = x at *
   by_cases hx0 : 0 < x
   ·obtain ⟨m, rfl⟩ : ∃ m : Nat, x = (m : Int) := ⟨x.toNat, by omega⟩
    obtain ⟨hcS, hfS⟩ := RB_cell hK.ks.rs m (by omega)
    have d0 : decide (0 < m) = true := decide_eq_true (by omega)
    have m0 : (0 : Int) <= (m : Int) := by omega
    have m1 : (m : Int) < (n : Int) + 1 := by omega
    have m2 : 0 < m := by omega
    cases hs : S'.getD m false with
    | true =>
     rw [hs] at hcS
     have HE := Lib.hid (show More n d (l.take (i + 1)) S S' M by rw [HT.out]; exact hMo.out.skip HS.out hxb (fun q => by have := q.2.1; unfold sb at this; rw [Int.toNat_natCast, hs] at this; cases this))
     clear hs
     go_wp2_with fail
     go_roundw
     case rel => exact ⟨i + 1, S', M, vW', by omega, by go_num, HE, hK, hl, hlw, hat, hsz, by omega, HFr.out, hb⟩
     case measure => simp [intOf]; omega
    | false =>
     rw [hs] at hcS
     by_cases hnd : (m : Int) = d
     ·omega
     ·have q3 : 0 < (m : Int) /\ sb S' (m : Int) = false /\ (m : Int) ≠ d := ⟨hx0, by unfold sb; rw [Int.toNat_natCast]; exact hs, hnd⟩
      have HE := Lib.hid (show More n d (l.take (i + 1)) S (S'.set m true) (M ++ [(m : Int)]) by rw [HT.out]; exact hMo.out.add HS.out hxb q3)
      have KP := Lib.hid (keep1_any (m : Int) wr)
      clear hnd hs q3
      go_upto_region 5 with (go_at_call 60; refine KP.out.mono ?_; rintro e w2 ⟨rfl, rfl⟩)
      have hK1 := hK.put m
      have hb1 := hb.setCell (p := ⟨gS, m, none⟩) gS0 (.bool true)
      obtain ⟨tcs, hty⟩ := Kd.R_typed hK.ks.rs gS rfl
      have HF1 := Lib.hid (HFr.out.put (g := gS) rfl m (.bool true))
      have hl1 := Kd.R_set hl hty (by decide) m (.bool true)
      have hsz1 : w.heap.size <= (wr.setCell ⟨gS, m, none⟩ (.bool true)).heap.size := by simpa [World.setCell] using hsz
      have hszB : B <= (wr.setCell ⟨gS, m, none⟩ (.bool true)).heap.size := by have := blk_lt hK1.ks.k; have := hK1.ks.kB; omega
      generalize wr.setCell ⟨gS, m, none⟩ (.bool true) = w1 at *
      clear hK hb cs fs ck fk cp fp hcS hfS hc hl hty KP
      obtain ⟨cs, fs⟩ := blk_at hK1.ks.s
      obtain ⟨ck, fk⟩ := blk_at hK1.ks.k
      have hwl : (W ++ M).length <= 1099511627776 := by simp; omega
      obtain ⟨WM, hWM⟩ : ∃ WM, WM = W ++ M := ⟨_, rfl⟩
      rw [<- hWM] at hK1 hwl
      have HWM := Lib.hid hWM
      clear hWM
      go_upto_region 6 with (at_builtin; go_loud (refine app_int (w0 := w0) B rfl _ _ rfl vW' WM (m : Int) rfl rfl hK1.ks.rw hb1 hszB hwl ?_); intro v2 w2 hR2 hb2 hg2 hat2; have hK2 := hK1.app hR2 hg2; have k2 := blk_grown hK1.ks.k hg2 (Kd.R_ne hK1.ks.rw hK1.ks.k (by decide)); have hl2 := Kd.R_set (RI_other hl1 hg2 (own_or hlw)) k2 (by decide) 0 v2; have hlw2 := own_next hlw hwB hat2 hsz1; have hatt := own_at hat hat2 hsz1; have hb3 := hb2.setCell (p := ⟨bw, 0, none⟩) hK1.ks.kB v2; have HF2 := Lib.hid (HF1.out.app hg2 hat hsz1 v2); have hsz2 := size_set hsz1 hg2.size ⟨bw, 0, none⟩ v2; clear cs fs ck fk hat2; obtain ⟨ck, fk⟩ := blk_at k2; obtain ⟨g2, c2, rfl, -⟩ := RI_form hR2 (by simp))
      rw [show (WM ++ [(m : Int)]).length = WM.length + 1 by simp] at hK2 hb3 hl2 hsz2 hlw2 hatt HF2
      go_wp2_with fail
      go_roundw
      case rel => exact ⟨i + 1, S'.set m true, M ++ [(m : Int)], _, by omega, by go_num, HE, by rw [<- List.append_assoc, <- HWM.out]; exact hK2, hl2, hlw2, hatt, hsz2, by simp; omega, HF2.out, hb3⟩
      case measure => simp [intOf]; omega
   ·have d0 : decide ((0 : Int) < x) = false := decide_eq_false hx0
    have HE := Lib.hid (show More n d (l.take (i + 1)) S S' M by rw [HT.out]; exact hMo.out.skip HS.out hxb (fun q => hx0 q.1))
    go_wp2_with fail
    go_roundw
    case rel => exact ⟨i + 1, S', M, vW', by omega, by go_num, HE, hK, hl, hlw, hat, hsz, by omega, HFr.out, hb⟩
    case measure => simp [intOf]; omega
  ·have dlt : decide ((i : Int) < (l.length : Int)) = false := decide_eq_false (by omega)
   have hmm := hMo.out
   rw [List.take_of_length_le (by omega)] at hmm
   have HF := Lib.hid hmm
   clear hmm
   go_wp2_with fail
   go_end0
   exact ⟨rfl, ⟨S', M, vW', by rw [HS.out]; exact hK, HF.out, hat⟩, hb, by rw [HS.out]; exact HFr.out, hsz⟩
set_option maxRecDepth 100000 in
set_option maxHeartbeats 8000000 in
theorem see2_any (w0 w : World) (B bi bk bw n : Nat) (S : List Bool) (W : List Int) (vS vW : Value) (A : Option Addr) (c : Nat) (l : List Int) (d : Int) (bx ix : Nat) (hbx : w0.cell? ⟨bx, 0, none⟩ = some (.int .i64 (ix : Int))) (hbB : bx < B) (hix : ix <= 1048576) (hd : d = (ix : Int) + 1) (hK : KpAt w B bi bk bw S W vS vW (.func (.func 63) #[] #[.pointer (some ⟨bx, 0, none⟩)])) (hSl : S.length = n + 1) (hl : RI w B (.slice A l.length c) l) (hlw : ∀ k, (Value.slice A l.length c).ownBlock = some k -> vW.ownBlock ≠ some k) (hb : Below B w0 w)
  (hx : ∀ x ∈ l, x <= (n : Int)) (hn : n <= 1048576) (hlen : W.length + l.length <= 16777216) :
  Calls Tryd.prog 89 #[.slice A l.length c, .pointer (some ⟨bi, 0, none⟩), .pointer (some ⟨bk, 0, none⟩), .pointer (some ⟨bw, 0, none⟩)] w fun e w' => e = .returned (.tuple #[]) /\ (∃ S' M vW', KpAt w' B bi bk bw S' (W ++ M) vS vW' (.func (.func 63) #[] #[.pointer (some ⟨bx, 0, none⟩)]) /\ More n d l S S' M /\ (vW'.ownBlock = vW.ownBlock \/ ∃ b, vW'.ownBlock = some b /\ w.heap.size <= b)) /\ Below B w0 w' /\ Fr w w' vS vW bw /\ w.heap.size <= w'.heap.size := by
 obtain ⟨gS, cS, rfl, gS0, gS1⟩ := RB_form hK.ks.rs (by omega)
 rw [hSl] at hK
 have hl63 := Kd.C_max (Kd.R_reads' hl).2.2
 have KEEP := Lib.hid (fun (x : Int) (W : World) (hb : Below B w0 W) => keep2_any x ix bx W (cell_below2 hb hbB hbx) hix d hd)
 have HM0 := Lib.hid (show More n d (l.take 0) S S [] from More.nil)
 have hKW : KpAt w B bi bk bw S (W ++ []) (.slice (some ⟨gS, 0, none⟩) (n + 1) cS) vW (.func (.func 63) #[] #[.pointer (some ⟨bx, 0, none⟩)]) := by rw [List.append_nil]; exact hK
 have HS := Lib.hid hSl
 have hwB : ∀ k, (Value.slice A l.length c).ownBlock = some k -> k < w.heap.size := fun k hk => (RI_lt hl k hk).2
 clear hK
 go_enter Tryd.func89, Tryd.ntmps89
 go_wp2_with fail
 go_loopw [9] (fun iv wx => ∃ (i : Nat) (S' : List Bool) (M : List Int) (vW' : Value), i <= l.length /\ iv = .int .i64 i /\ Hid (More n d (l.take i) S S' M) /\ KpAt wx B bi bk bw S' (W ++ M) (.slice (some ⟨gS, 0, none⟩) (n + 1) cS) vW' (.func (.func 63) #[] #[.pointer (some ⟨bx, 0, none⟩)]) /\ RI wx B (.slice A l.length c) l /\ (∀ k, (Value.slice A l.length c).ownBlock = some k -> vW'.ownBlock ≠ some k) /\ (vW'.ownBlock = vW.ownBlock \/ ∃ b, vW'.ownBlock = some b /\ w.heap.size <= b) /\ w.heap.size <= wx.heap.size /\ M.length <= i /\ Fr w wx (.slice (some ⟨gS, 0, none⟩) (n + 1) cS) vW bw /\ Below B w0 wx) (fun iv _ => l.length - (intOf iv).toNat)
 case atStart => exact ⟨0, S, [], vW, by omega, rfl, HM0, hKW, hl, hlw, .inl rfl, Nat.le_refl _, by simp, Fr.refl _ _ _ _, hb⟩
 case round =>
  clear hKW hb HM0 hl hlw
  obtain ⟨i, S', M, vW', hi, rfl, hMo, hK, hl, hlw, hat, hsz, hMl, hFr, hb⟩ := hrel
  have HFr := Lib.hid hFr
  clear hFr
  have HMo := Lib.hid hMo
  by_cases hlt : i < l.length
  ·have dlt : decide ((i : Int) < (l.length : Int)) = true := decide_eq_true (by omega)
   have i0 : (0 : Int) <= (i : Int) := by omega
   have i1 : (i : Int) < (l.length : Int) := by omega
   obtain ⟨cs, fs⟩ := blk_at hK.ks.s
   obtain ⟨ck, fk⟩ := blk_at hK.ks.k
   obtain ⟨cp, fp⟩ := blk_at hK.kp
   obtain ⟨ad, rfl, hc⟩ := int_at (Kd.R_reads' hl).2.2 i hlt
   have hxb := hx _ (getD_mem 0 hlt)
   have HT := Lib.hid (take_snocD l i hlt)
   generalize l.getD i 0 = x at *
   by_cases hx0 : 0 < x
   ·obtain ⟨m, rfl⟩ : ∃ m : Nat, x = (m : Int) := ⟨x.toNat, by omega⟩
    obtain ⟨hcS, hfS⟩ := RB_cell hK.ks.rs m (by omega)
    have d0 : decide (0 < m) = true := decide_eq_true (by omega)
    have m0 : (0 : Int) <= (m : Int) := by omega
    have m1 : (m : Int) < (n : Int) + 1 := by omega
    have m2 : 0 < m := by omega
    cases hs : S'.getD m false with
    | true =>
     rw [hs] at hcS
     have HE := Lib.hid (show More n d (l.take (i + 1)) S S' M by rw [HT.out]; exact hMo.out.skip HS.out hxb (fun q => by have := q.2.1; unfold sb at this; rw [Int.toNat_natCast, hs] at this; cases this))
     clear hs
     go_wp2_with fail
     go_roundw
     case rel => exact ⟨i + 1, S', M, vW', by omega, by go_num, HE, hK, hl, hlw, hat, hsz, by omega, HFr.out, hb⟩
     case measure => simp [intOf]; omega
    | false =>
     rw [hs] at hcS
     by_cases hnd : (m : Int) = d
     ·have HE := Lib.hid (show More n d (l.take (i + 1)) S S' M by rw [HT.out]; exact hMo.out.skip HS.out hxb (fun q => q.2.2 hnd))
      have dk : decide ((m : Int) = d) = true := decide_eq_true hnd
      have KP := Lib.hid (KEEP.out (m : Int) _ hb)
      rw [dk] at KP
      clear hnd hs
      go_wp2_with (go_at_call 63; refine KP.out.mono ?_; rintro e w2 ⟨rfl, rfl⟩)
      go_roundw
      case rel => exact ⟨i + 1, S', M, vW', by omega, by go_num, HE, hK, hl, hlw, hat, hsz, by omega, HFr.out, hb⟩
      case measure => simp [intOf]; omega
     ·have q3 : 0 < (m : Int) /\ sb S' (m : Int) = false /\ (m : Int) ≠ d := ⟨hx0, by unfold sb; rw [Int.toNat_natCast]; exact hs, hnd⟩
      have HE := Lib.hid (show More n d (l.take (i + 1)) S (S'.set m true) (M ++ [(m : Int)]) by rw [HT.out]; exact hMo.out.add HS.out hxb q3)
      have KP := Lib.hid (KEEP.out (m : Int) _ hb)
      rw [show decide ((m : Int) = d) = false from decide_eq_false hnd] at KP
      clear hnd hs q3
      go_upto_region 5 with (go_at_call 63; refine KP.out.mono ?_; rintro e w2 ⟨rfl, rfl⟩)
      have hK1 := hK.put m
      have hb1 := hb.setCell (p := ⟨gS, m, none⟩) gS0 (.bool true)
      obtain ⟨tcs, hty⟩ := Kd.R_typed hK.ks.rs gS rfl
      have HF1 := Lib.hid (HFr.out.put (g := gS) rfl m (.bool true))
      have hl1 := Kd.R_set hl hty (by decide) m (.bool true)
      have hsz1 : w.heap.size <= (wr.setCell ⟨gS, m, none⟩ (.bool true)).heap.size := by simpa [World.setCell] using hsz
      have hszB : B <= (wr.setCell ⟨gS, m, none⟩ (.bool true)).heap.size := by have := blk_lt hK1.ks.k; have := hK1.ks.kB; omega
      generalize wr.setCell ⟨gS, m, none⟩ (.bool true) = w1 at *
      clear hK hb cs fs ck fk cp fp hcS hfS hc hl hty KP
      obtain ⟨cs, fs⟩ := blk_at hK1.ks.s
      obtain ⟨ck, fk⟩ := blk_at hK1.ks.k
      have hwl : (W ++ M).length <= 1099511627776 := by simp; omega
      obtain ⟨WM, hWM⟩ : ∃ WM, WM = W ++ M := ⟨_, rfl⟩
      rw [<- hWM] at hK1 hwl
      have HWM := Lib.hid hWM
      clear hWM
      go_upto_region 6 with (at_builtin; go_loud (refine app_int (w0 := w0) B rfl _ _ rfl vW' WM (m : Int) rfl rfl hK1.ks.rw hb1 hszB hwl ?_); intro v2 w2 hR2 hb2 hg2 hat2; have hK2 := hK1.app hR2 hg2; have k2 := blk_grown hK1.ks.k hg2 (Kd.R_ne hK1.ks.rw hK1.ks.k (by decide)); have hl2 := Kd.R_set (RI_other hl1 hg2 (own_or hlw)) k2 (by decide) 0 v2; have hlw2 := own_next hlw hwB hat2 hsz1; have hatt := own_at hat hat2 hsz1; have hb3 := hb2.setCell (p := ⟨bw, 0, none⟩) hK1.ks.kB v2; have HF2 := Lib.hid (HF1.out.app hg2 hat hsz1 v2); have hsz2 := size_set hsz1 hg2.size ⟨bw, 0, none⟩ v2; clear cs fs ck fk hat2; obtain ⟨ck, fk⟩ := blk_at k2; obtain ⟨g2, c2, rfl, -⟩ := RI_form hR2 (by simp))
      rw [show (WM ++ [(m : Int)]).length = WM.length + 1 by simp] at hK2 hb3 hl2 hsz2 hlw2 hatt HF2
      go_wp2_with fail
      go_roundw
      case rel => exact ⟨i + 1, S'.set m true, M ++ [(m : Int)], _, by omega, by go_num, HE, by rw [<- List.append_assoc, <- HWM.out]; exact hK2, hl2, hlw2, hatt, hsz2, by simp; omega, HF2.out, hb3⟩
      case measure => simp [intOf]; omega
   ·have d0 : decide ((0 : Int) < x) = false := decide_eq_false hx0
    have HE := Lib.hid (show More n d (l.take (i + 1)) S S' M by rw [HT.out]; exact hMo.out.skip HS.out hxb (fun q => hx0 q.1))
    go_wp2_with fail
    go_roundw
    case rel => exact ⟨i + 1, S', M, vW', by omega, by go_num, HE, hK, hl, hlw, hat, hsz, by omega, HFr.out, hb⟩
    case measure => simp [intOf]; omega
  ·have dlt : decide ((i : Int) < (l.length : Int)) = false := decide_eq_false (by omega)
   have hmm := hMo.out
   rw [List.take_of_length_le (by omega)] at hmm
   have HF := Lib.hid hmm
   clear hmm
   go_wp2_with fail
   go_end0
   exact ⟨rfl, ⟨S', M, vW', by rw [HS.out]; exact hK, HF.out, hat⟩, hb, by rw [HS.out]; exact HFr.out, hsz⟩
end
section
def ekG (G : Gr) (y : Int) : Option (Int × Int) := if (G.obs.getD (y - 1).toNat default).f1 = 3 /\ 2 <= (G.obs.getD (y - 1).toNat default).f3.length then some ((G.obs.getD (y - 1).toNat default).f3.getD 0 0, (G.obs.getD (y - 1).toNat default).f3.getD 1 0) else none
theorem ek_ok {G : Gr} (R : Rng G) : EkOk (ekG G) G.obs.length := by
 refine ⟨fun y k v h => ?_⟩
 unfold ekG at h
 split at h
 ·rename_i q
  cases h
  by_cases hp : (y - 1).toNat < G.obs.length
  ·have r := R.ps _ (getD_mem (l := G.obs) default hp)
   have a := r _ (getD_mem (l := (G.obs.getD (y - 1).toNat default).f3) 0 (i := 0) (by omega))
   have b := r _ (getD_mem (l := (G.obs.getD (y - 1).toNat default).f3) 0 (i := 1) (by omega))
   omega
  ·have : G.obs.getD (y - 1).toNat default = default := by rw [List.getD_eq_getElem?_getD, List.getElem?_eq_none (by omega)]; rfl
   rw [this] at q
   exact absurd q.2 (by decide)
 ·cases h
set_option maxRecDepth 100000 in
set_option maxHeartbeats 8000000 in
theorem del1_any (g : Gv) (G : Gr) (w0 w : World) (bg bi bk bw bs : Nat) (S : List Bool) (Wk : List Int) (vS vW : Value) (d : Int) (hd : d = -1) (hX : w0.heap[bg]? = some (.cells (gcells g G) 27 (0, 0))) (hA : GAt w0 g G) (s : Small G) (K : EkOk (ekG G) G.obs.length)
  (hK : KpAt w w0.heap.size bi bk bw S Wk vS vW (.func (.func 60) #[] #[])) (hsee : w.heap[bs]? = some (.cells #[.func (.func 89) #[] #[.pointer (some ⟨bi, 0, none⟩), .pointer (some ⟨bk, 0, none⟩), .pointer (some ⟨bw, 0, none⟩)]] 127 (0, 0))) (hb : Below w0.heap.size w0 w) (hSl : S.length = G.obs.length + 1) (hlen : Wk.length <= 8388608)
  (y kk v : Int) (y0 : 1 <= y) (y1 : y <= (G.obs.length : Int)) (hek : ekG G y = some (kk, v)) :
  Calls Tryd.prog 90 #[.int .i64 y, .pointer (some ⟨bg, 0, none⟩), .pointer (some ⟨bi, 0, none⟩), .pointer (some ⟨bs, 0, none⟩)] w fun e w' => ((kk = 0 \/ sb S kk = false) /\ e = .returned (.bool false) /\ w' = w) \/ ((kk ≠ 0 /\ sb S kk = true) /\ e = .returned (.bool true) /\ (∃ S' M vW', KpAt w' w0.heap.size bi bk bw S' (Wk ++ M) vS vW' (.func (.func 60) #[] #[]) /\ More G.obs.length d [v] S S' M /\ (vW'.ownBlock = vW.ownBlock \/ ∃ b, vW'.ownBlock = some b /\ w.heap.size <= b)) /\ Below w0.heap.size w0 w' /\ Fr w w' vS vW bw /\ w.heap.size <= w'.heap.size) := by
 have bd := s.bd
 have hn := bd.n
 have kr := K.rng _ _ _ hek
 obtain ⟨i, rfl⟩ : ∃ i : Nat, y = (i : Int) + 1 := ⟨(y - 1).toNat, by omega⟩
 have hlt : i < G.obs.length := by omega
 unfold ekG at hek
 rw [show ((i : Int) + 1 - 1).toNat = i by omega] at hek
 split at hek
 case isFalse => cases hek
 rename_i hq
 obtain ⟨hq1, hq2⟩ := hq
 simp only [Option.some.injEq, Prod.mk.injEq] at hek
 obtain ⟨hkk, hv⟩ := hek
 obtain ⟨A0, A1, A2, A3, A4, c0, c1, c2, c3, c4⟩ := g
 unfold gcells at hX
 simp only at hX
 obtain ⟨ao, P3, p3, P4, p4, e0, k0, k1, k2, k3, k4, l3, C3, l4, C4⟩ := ob_at hA.r0 i hlt
 simp only at e0
 subst e0
 obtain ⟨ap, hP, cp0⟩ := int_at C3 0 (by omega)
 obtain ⟨ap', hP', cp1⟩ := int_at C3 1 (by omega)
 subst hP
 cases hP'
 rw [hkk] at cp0
 rw [hv] at cp1
 have j3 := cell_later hb k3
 have cp0' := cell_later hb cp0
 have cp1' := cell_later hb cp1
 have cp00 : w.cell? ap = some (.int .i64 kk) := cp0'
 have cp11 : w.cell? ⟨ap.block, ap.off + 1, none⟩ = some (.int .i64 v) := cp1'
 obtain ⟨cX, fX⟩ := blk_at (box_keep hX hb)
 obtain ⟨cs, fs⟩ := blk_at hK.ks.s
 obtain ⟨ce, fe⟩ := blk_at hsee
 have ce2 : ∀ x : Obj, (w.alloc x).cell? ⟨bs, 0, none⟩ = some (.func (.func 89) #[] #[.pointer (some ⟨bi, 0, none⟩), .pointer (some ⟨bk, 0, none⟩), .pointer (some ⟨bw, 0, none⟩)]) := fun x => (blk_at (box_keep hsee ((Below.refl _ _).alloc (Nat.le_refl _) x))).1 0
 clear k0 k1 k2 k3 k4 C3 C4 cp0 cp1 hkk hv hq1
 generalize G.obs.getD i default = o at *
 obtain ⟨f0, f1, f2, ps, rs⟩ := o
 simp only at *
 have hq2' : (2 : Int) <= (ps.length : Int) := by omega
 have i0 : (0 : Int) <= (i : Int) := by omega
 have i1 : (i : Int) < (G.obs.length : Int) := by omega
 have ew : IntKind.i64.wrap ((i : Int) + 1 - 1) = (i : Int) := by rw [IntKind.wrap_i64]; omega
 have ew2 : IntKind.i64.wrap (i : Int) = (i : Int) := w64' (by omega)
 have z1 : (0 : Int) < (ps.length : Int) := by omega
 have z2 : (1 : Int) < (ps.length : Int) := by omega
 obtain ⟨gS, cS, rfl, gS0, gS1⟩ := RB_form hK.ks.rs (by omega)
 rw [hSl] at hK cs
 obtain ⟨kn, rfl⟩ : ∃ n : Nat, kk = (n : Int) := ⟨kk.toNat, by omega⟩
 obtain ⟨hcS, hfS⟩ := RB_cell hK.ks.rs kn (by omega)
 have m0 : (0 : Int) <= (kn : Int) := by omega
 have m1 : (kn : Int) < (G.obs.length : Int) + 1 := by omega
 have esb : sb S (kn : Int) = S.getD kn false := by unfold sb; rw [Int.toNat_natCast]
 by_cases hz : kn = 0
 ·subst hz
  have d1 : (((0 : Nat) : Int) == 0) = true := rfl
  clear esb
  go_enter Tryd.func90, Tryd.ntmps90
  go_wp2_with fail
  go_ret
  exact .inl ⟨.inl rfl, rfl, rfl⟩
 ·have d1 : ((kn : Int) == 0) = false := by simp; omega
  have d2 : ¬ (kn : Int) = 0 := by omega
  have ES := Lib.hid esb
  clear esb
  cases hs : S.getD kn false with
  | false =>
   rw [hs] at hcS
   have HS := Lib.hid (show sb S (kn : Int) = false by rw [ES.out, hs])
   clear hs
   go_enter Tryd.func90, Tryd.ntmps90
   go_wp2_with fail
   go_ret
   exact .inl ⟨.inr HS.out, rfl, rfl⟩
  | true =>
   rw [hs] at hcS
   have HS := Lib.hid (show sb S (kn : Int) = true by rw [ES.out, hs])
   have hszB : w0.heap.size <= w.heap.size := hb.size
   have SC := Lib.hid (fun (W : World) (hbW : Below w.heap.size w W) (A : Option Addr) (hl : RI W w0.heap.size (.slice A [v].length 1) [v]) (hfr : ∀ k, (Value.slice A [v].length 1).ownBlock = some k -> w.heap.size <= k) => see1_any w0 W w0.heap.size bi bk bw G.obs.length S Wk _ vW A 1 [v] d hd (hK.below hbW) hSl hl (fun k hk e => by have := Kd.R_lt hK.ks.rw k e; have := hfr k hk; omega) (hb.trans (hbW.mono hszB)) (fun x hx => by simp at hx; subst hx; exact kr.2.2.2) hn (by simp; omega))
   have W1 : Below w.heap.size w (w.alloc (.cells #[.int .i64 v] 3)).drew := ((Below.refl _ _).alloc (Nat.le_refl _) _).drew
   have SC1 := Lib.hid (SC.out _ W1 (some ⟨w.heap.size, 0, none⟩) (Kd.R_drew (RI_lit w w0.heap.size v hszB)) (fun k hk => by simp [Value.ownBlock] at hk; omega))
   simp only [List.length_singleton] at SC1
   clear hs SC
   go_enter Tryd.func90, Tryd.ntmps90
   go_upto_region 4 with fail
   go_cut [36] (fun q wx => (∃ S' M vW', KpAt wx w0.heap.size bi bk bw S' (Wk ++ M) (.slice (some ⟨gS, 0, none⟩) (G.obs.length + 1) cS) vW' (.func (.func 60) #[] #[]) /\ More G.obs.length d [v] S S' M /\ (vW'.ownBlock = vW.ownBlock \/ ∃ b, vW'.ownBlock = some b /\ w.heap.size <= b)) /\ Below w0.heap.size w0 wx /\ Fr w wx (.slice (some ⟨gS, 0, none⟩) (G.obs.length + 1) cS) vW bw /\ w.heap.size <= wx.heap.size)
   case first =>
    go_region_with (go_at_call 89; refine SC1.out.mono ?_; rintro e w2 ⟨rfl, ⟨S', M, vW', hK2, hM2, hat2⟩, hb2, hF2, hs2⟩)
    all_goals go_wp2_with fail
    all_goals go_meet
    all_goals exact ⟨⟨S', M, vW', hK2, hM2, own_at (.inl rfl) hat2 W1.size⟩, hb2, (fun k a b c d => (hF2 k (Nat.lt_of_lt_of_le a W1.size) b c d).trans (W1.block k a)), Nat.le_trans W1.size hs2⟩
   case rest =>
    obtain ⟨⟨S', M, vW', hK2, hM2, hat2⟩, hb2, hF2, hs2⟩ := hcut
    have HF2 := Lib.hid hF2
    clear hF2
    go_wp2_with fail
    go_ret
    exact .inr ⟨⟨d2, HS.out⟩, rfl, ⟨S', M, vW', by rw [hSl]; exact hK2, hM2, hat2⟩, hb2, by rw [hSl]; exact HF2.out, hs2⟩
set_option maxRecDepth 100000 in
set_option maxHeartbeats 8000000 in
theorem del2_any (g : Gv) (G : Gr) (w0 w : World) (bg bi bk bw bs : Nat) (S : List Bool) (Wk : List Int) (vS vW : Value) (d : Int) (bx ix : Nat) (hbx : w0.cell? ⟨bx, 0, none⟩ = some (.int .i64 (ix : Int))) (hbB : bx < w0.heap.size) (hix : ix <= 1048576) (hd : d = (ix : Int) + 1) (hX : w0.heap[bg]? = some (.cells (gcells g G) 27 (0, 0))) (hA : GAt w0 g G) (s : Small G) (K : EkOk (ekG G) G.obs.length)
  (hK : KpAt w w0.heap.size bi bk bw S Wk vS vW (.func (.func 63) #[] #[.pointer (some ⟨bx, 0, none⟩)])) (hsee : w.heap[bs]? = some (.cells #[.func (.func 89) #[] #[.pointer (some ⟨bi, 0, none⟩), .pointer (some ⟨bk, 0, none⟩), .pointer (some ⟨bw, 0, none⟩)]] 127 (0, 0))) (hb : Below w0.heap.size w0 w) (hSl : S.length = G.obs.length + 1) (hlen : Wk.length <= 8388608)
  (y kk v : Int) (y0 : 1 <= y) (y1 : y <= (G.obs.length : Int)) (hek : ekG G y = some (kk, v)) :
  Calls Tryd.prog 90 #[.int .i64 y, .pointer (some ⟨bg, 0, none⟩), .pointer (some ⟨bi, 0, none⟩), .pointer (some ⟨bs, 0, none⟩)] w fun e w' => ((kk = 0 \/ sb S kk = false) /\ e = .returned (.bool false) /\ w' = w) \/ ((kk ≠ 0 /\ sb S kk = true) /\ e = .returned (.bool true) /\ (∃ S' M vW', KpAt w' w0.heap.size bi bk bw S' (Wk ++ M) vS vW' (.func (.func 63) #[] #[.pointer (some ⟨bx, 0, none⟩)]) /\ More G.obs.length d [v] S S' M /\ (vW'.ownBlock = vW.ownBlock \/ ∃ b, vW'.ownBlock = some b /\ w.heap.size <= b)) /\ Below w0.heap.size w0 w' /\ Fr w w' vS vW bw /\ w.heap.size <= w'.heap.size) := by
 have bd := s.bd
 have hn := bd.n
 have kr := K.rng _ _ _ hek
 obtain ⟨i, rfl⟩ : ∃ i : Nat, y = (i : Int) + 1 := ⟨(y - 1).toNat, by omega⟩
 have hlt : i < G.obs.length := by omega
 unfold ekG at hek
 rw [show ((i : Int) + 1 - 1).toNat = i by omega] at hek
 split at hek
 case isFalse => cases hek
 rename_i hq
 obtain ⟨hq1, hq2⟩ := hq
 simp only [Option.some.injEq, Prod.mk.injEq] at hek
 obtain ⟨hkk, hv⟩ := hek
 obtain ⟨A0, A1, A2, A3, A4, c0, c1, c2, c3, c4⟩ := g
 unfold gcells at hX
 simp only at hX
 obtain ⟨ao, P3, p3, P4, p4, e0, k0, k1, k2, k3, k4, l3, C3, l4, C4⟩ := ob_at hA.r0 i hlt
 simp only at e0
 subst e0
 obtain ⟨ap, hP, cp0⟩ := int_at C3 0 (by omega)
 obtain ⟨ap', hP', cp1⟩ := int_at C3 1 (by omega)
 subst hP
 cases hP'
 rw [hkk] at cp0
 rw [hv] at cp1
 have j3 := cell_later hb k3
 have cp0' := cell_later hb cp0
 have cp1' := cell_later hb cp1
 have cp00 : w.cell? ap = some (.int .i64 kk) := cp0'
 have cp11 : w.cell? ⟨ap.block, ap.off + 1, none⟩ = some (.int .i64 v) := cp1'
 obtain ⟨cX, fX⟩ := blk_at (box_keep hX hb)
 obtain ⟨cs, fs⟩ := blk_at hK.ks.s
 obtain ⟨ce, fe⟩ := blk_at hsee
 have ce2 : ∀ x : Obj, (w.alloc x).cell? ⟨bs, 0, none⟩ = some (.func (.func 89) #[] #[.pointer (some ⟨bi, 0, none⟩), .pointer (some ⟨bk, 0, none⟩), .pointer (some ⟨bw, 0, none⟩)]) := fun x => (blk_at (box_keep hsee ((Below.refl _ _).alloc (Nat.le_refl _) x))).1 0
 clear k0 k1 k2 k3 k4 C3 C4 cp0 cp1 hkk hv hq1
 generalize G.obs.getD i default = o at *
 obtain ⟨f0, f1, f2, ps, rs⟩ := o
 simp only at *
 have hq2' : (2 : Int) <= (ps.length : Int) := by omega
 have i0 : (0 : Int) <= (i : Int) := by omega
 have i1 : (i : Int) < (G.obs.length : Int) := by omega
 have ew : IntKind.i64.wrap ((i : Int) + 1 - 1) = (i : Int) := by rw [IntKind.wrap_i64]; omega
 have ew2 : IntKind.i64.wrap (i : Int) = (i : Int) := w64' (by omega)
 have z1 : (0 : Int) < (ps.length : Int) := by omega
 have z2 : (1 : Int) < (ps.length : Int) := by omega
 obtain ⟨gS, cS, rfl, gS0, gS1⟩ := RB_form hK.ks.rs (by omega)
 rw [hSl] at hK cs
 obtain ⟨kn, rfl⟩ : ∃ n : Nat, kk = (n : Int) := ⟨kk.toNat, by omega⟩
 obtain ⟨hcS, hfS⟩ := RB_cell hK.ks.rs kn (by omega)
 have m0 : (0 : Int) <= (kn : Int) := by omega
 have m1 : (kn : Int) < (G.obs.length : Int) + 1 := by omega
 have esb : sb S (kn : Int) = S.getD kn false := by unfold sb; rw [Int.toNat_natCast]
 by_cases hz : kn = 0
 ·subst hz
  have d1 : (((0 : Nat) : Int) == 0) = true := rfl
  clear esb
  go_enter Tryd.func90, Tryd.ntmps90
  go_wp2_with fail
  go_ret
  exact .inl ⟨.inl rfl, rfl, rfl⟩
 ·have d1 : ((kn : Int) == 0) = false := by simp; omega
  have d2 : ¬ (kn : Int) = 0 := by omega
  have ES := Lib.hid esb
  clear esb
  cases hs : S.getD kn false with
  | false =>
   rw [hs] at hcS
   have HS := Lib.hid (show sb S (kn : Int) = false by rw [ES.out, hs])
   clear hs
   go_enter Tryd.func90, Tryd.ntmps90
   go_wp2_with fail
   go_ret
   exact .inl ⟨.inr HS.out, rfl, rfl⟩
  | true =>
   rw [hs] at hcS
   have HS := Lib.hid (show sb S (kn : Int) = true by rw [ES.out, hs])
   have hszB : w0.heap.size <= w.heap.size := hb.size
   have SC := Lib.hid (fun (W : World) (hbW : Below w.heap.size w W) (A : Option Addr) (hl : RI W w0.heap.size (.slice A [v].length 1) [v]) (hfr : ∀ k, (Value.slice A [v].length 1).ownBlock = some k -> w.heap.size <= k) => see2_any w0 W w0.heap.size bi bk bw G.obs.length S Wk _ vW A 1 [v] d bx ix hbx hbB hix hd (hK.below hbW) hSl hl (fun k hk e => by have := Kd.R_lt hK.ks.rw k e; have := hfr k hk; omega) (hb.trans (hbW.mono hszB)) (fun x hx => by simp at hx; subst hx; exact kr.2.2.2) hn (by simp; omega))
   have W1 : Below w.heap.size w (w.alloc (.cells #[.int .i64 v] 3)).drew := ((Below.refl _ _).alloc (Nat.le_refl _) _).drew
   have SC1 := Lib.hid (SC.out _ W1 (some ⟨w.heap.size, 0, none⟩) (Kd.R_drew (RI_lit w w0.heap.size v hszB)) (fun k hk => by simp [Value.ownBlock] at hk; omega))
   simp only [List.length_singleton] at SC1
   clear hs SC
   go_enter Tryd.func90, Tryd.ntmps90
   go_upto_region 4 with fail
   go_cut [36] (fun q wx => (∃ S' M vW', KpAt wx w0.heap.size bi bk bw S' (Wk ++ M) (.slice (some ⟨gS, 0, none⟩) (G.obs.length + 1) cS) vW' (.func (.func 63) #[] #[.pointer (some ⟨bx, 0, none⟩)]) /\ More G.obs.length d [v] S S' M /\ (vW'.ownBlock = vW.ownBlock \/ ∃ b, vW'.ownBlock = some b /\ w.heap.size <= b)) /\ Below w0.heap.size w0 wx /\ Fr w wx (.slice (some ⟨gS, 0, none⟩) (G.obs.length + 1) cS) vW bw /\ w.heap.size <= wx.heap.size)
   case first =>
    go_region_with (go_at_call 89; refine SC1.out.mono ?_; rintro e w2 ⟨rfl, ⟨S', M, vW', hK2, hM2, hat2⟩, hb2, hF2, hs2⟩)
    all_goals go_wp2_with fail
    all_goals go_meet
    all_goals exact ⟨⟨S', M, vW', hK2, hM2, own_at (.inl rfl) hat2 W1.size⟩, hb2, (fun k a b c d => (hF2 k (Nat.lt_of_lt_of_le a W1.size) b c d).trans (W1.block k a)), Nat.le_trans W1.size hs2⟩
   case rest =>
    obtain ⟨⟨S', M, vW', hK2, hM2, hat2⟩, hb2, hF2, hs2⟩ := hcut
    have HF2 := Lib.hid hF2
    clear hF2
    go_wp2_with fail
    go_ret
    exact .inr ⟨⟨d2, HS.out⟩, rfl, ⟨S', M, vW', by rw [hSl]; exact hK2, hM2, hat2⟩, hb2, by rw [hSl]; exact HF2.out, hs2⟩
end
section
def seeV (bi bk bw : Nat) : Value := .func (.func 89) #[] #[.pointer (some ⟨bi, 0, none⟩), .pointer (some ⟨bk, 0, none⟩), .pointer (some ⟨bw, 0, none⟩)]
theorem RI_keep {w w' : World} {B : Nat} {v : Value} {l : List Int} (h : RI w B v l) (hs : w.heap.size <= w'.heap.size) (hk : ∀ k, v.ownBlock = some k -> w'.heap[k]? = w.heap[k]?) : RI w' B v l := by
 have h1 : Kd.R (Kd.int .i64) 3 w B (fun k => v.ownBlock = some k) v l := by
  have := Kd.R_tight (e := 3) rfl h
  exact Kd.R_mono this (fun k q => q.symm)
 exact Kd.R_mono (Kd.R_move h1 hk) (fun _ _ => trivial)
structure EvAt (w0 w : World) (bi bk bw bs : Nat) (S : List Bool) (Wk : List Int) (vS vW kv : Value) (vT : Value) (T : List Int) : Prop where
 k : KpAt w w0.heap.size bi bk bw S Wk vS vW kv
 see : w.heap[bs]? = some (.cells #[seeV bi bk bw] 127 (0, 0))
 t : RI w w0.heap.size vT T
 ne : ∀ k, vT.ownBlock = some k -> vW.ownBlock ≠ some k
 b : Below w0.heap.size w0 w
def Stays (G : Gr) (S : List Bool) (y : Int) : Prop := ∀ k v, ekG G y = some (k, v) -> k = 0 \/ sb S k = false
theorem EvAt.del {w0 w w' : World} {bi bk bw bs : Nat} {S S' : List Bool} {Wk Wk' : List Int} {vS vW vW' kv vT : Value} {T : List Int} (h : EvAt w0 w bi bk bw bs S Wk vS vW kv vT T) (hk : KpAt w' w0.heap.size bi bk bw S' Wk' vS vW' kv) (hb : Below w0.heap.size w0 w') (hF : Fr w w' vS vW bw) (hs : w.heap.size <= w'.heap.size)
  (hat : vW'.ownBlock = vW.ownBlock \/ ∃ b, vW'.ownBlock = some b /\ w.heap.size <= b) : EvAt w0 w' bi bk bw bs S' Wk' vS vW' kv vT T := by
 have ws : bs < w.heap.size := blk_lt h.see
 refine ⟨hk, ?_, ?_, own_next h.ne (fun k hk => (RI_lt h.t k hk).2) hat (Nat.le_refl _), hb⟩
 ·refine (hF bs ws (fun e => ?_) (fun e => ?_) (fun e => ?_)).trans h.see
  ·exact Kd.R_ne h.k.ks.rs h.see (by decide) e.symm
  ·exact Kd.R_ne h.k.ks.rw h.see (by decide) e.symm
  ·exact blk_ne h.see h.k.ks.k (by decide) e
 ·refine RI_keep h.t hs fun k hk => ?_
  obtain ⟨cs, hty⟩ := Kd.R_typed h.t k hk
  refine hF k (RI_lt h.t k hk).2 (fun e => ?_) (h.ne k hk) (fun e => ?_)
  ·exact Kd.R_ne h.k.ks.rs hty (by decide) e.symm
  ·rw [e] at hty; exact blk_ne hty h.k.ks.k (by decide) rfl
set_option maxRecDepth 100000 in
set_option maxHeartbeats 8000000 in
theorem index1_any (g : Gv) (G : Gr) (w0 w : World) (bg bi bk bw bs : Nat) (S : List Bool) (Wk : List Int) (vS vW : Value) (d : Int) (hd : d = -1) (hX : w0.heap[bg]? = some (.cells (gcells g G) 27 (0, 0))) (hA : GAt w0 g G) (s : Small G) (K : EkOk (ekG G) G.obs.length) (hSl : S.length = G.obs.length + 1) (hlen : Wk.length <= 8388608)
  (vT : Value) (T : List Int) (hE : EvAt w0 w bi bk bw bs S Wk vS vW (.func (.func 60) #[] #[]) vT T) (hT : ∀ y ∈ T, 1 <= y /\ y <= (G.obs.length : Int) /\ ∃ k v, ekG G y = some (k, v)) (hTl : T.length <= 8388608) :
  Calls Tryd.prog 117 #[vT, .func (.func 90) #[] #[.pointer (some ⟨bg, 0, none⟩), .pointer (some ⟨bi, 0, none⟩), .pointer (some ⟨bs, 0, none⟩)]] w fun e w' =>
   (e = .returned (.int .i64 (-1)) /\ (∀ y ∈ T, Stays G S y) /\ w' = w) \/ (∃ i : Nat, i < T.length /\ e = .returned (.int .i64 (i : Int)) /\ (∀ j, j < i -> Stays G S (T.getD j 0)) /\ ∃ kk v, ekG G (T.getD i 0) = some (kk, v) /\ kk ≠ 0 /\ sb S kk = true /\ ∃ S' M vW', EvAt w0 w' bi bk bw bs S' (Wk ++ M) vS vW' (.func (.func 60) #[] #[]) vT T /\ More G.obs.length d [v] S S' M) := by
 have DC := Lib.hid (fun (y kk v : Int) (y0 : 1 <= y) (y1 : y <= (G.obs.length : Int)) (hek : ekG G y = some (kk, v)) => del1_any g G w0 w bg bi bk bw bs S Wk vS vW d hd hX hA s K hE.k hE.see hE.b hSl hlen y kk v y0 y1 hek)
 have EV := Lib.hid hE
 obtain ⟨A, c, rfl⟩ := Kd.R_slice hE.t
 have hC := (Kd.R_reads' hE.t).2.2
 have HT := Lib.hid hT
 clear hE hT hX hA
 go_enter Tryd.func117, Tryd.ntmps117
 go_wp2_with fail
 go_loopw [8] (fun iv wx => ∃ i : Nat, i <= T.length /\ iv = .int .i64 i /\ Hid (∀ j, j < i -> Stays G S (T.getD j 0)) /\ wx = w) (fun iv _ => T.length - (intOf iv).toNat)
 case atStart => exact ⟨0, by omega, rfl, Lib.hid (fun j hj => by omega), rfl⟩
 case round =>
  obtain ⟨i, hi, rfl, hS, rfl⟩ := hrel
  by_cases hlt : i < T.length
  ·have dlt : decide ((i : Int) < (T.length : Int)) = true := decide_eq_true (by omega)
   have i0 : (0 : Int) <= (i : Int) := by omega
   have i1 : (i : Int) < (T.length : Int) := by omega
   obtain ⟨ad, rfl, hc⟩ := int_at hC i hlt
   obtain ⟨y0, y1, kk, v, hek⟩ := HT.out _ (getD_mem 0 hlt)
   have D1 := Lib.hid (DC.out _ kk v y0 y1 hek)
   have HS2 := Lib.hid (fun (q : Stays G S (T.getD i 0)) j (hj : j < i + 1) => (show Stays G S (T.getD j 0) from by
    by_cases e : j = i
    ·rw [e]; exact q
    ·exact hS.out j (by omega)))
   by_cases q : kk = 0 \/ sb S kk = false
   ·have HN := Lib.hid (HS2.out (fun k' v' e => by rw [hek] at e; cases e; exact q))
    have D2 := Lib.hid (D1.out.mono (R' := fun e w' => e = .returned (.bool false) /\ w' = wr) (fun e w' h => by
     rcases h with ⟨_, h1, h2⟩ | ⟨⟨h1, h2⟩, _⟩
     ·exact ⟨h1, h2⟩
     ·rcases q with q | q
      ·exact absurd q h1
      ·rw [q] at h2; cases h2))
    clear D1 q hek
    generalize T.getD i 0 = y at *
    go_wp2_with (go_at_call 90; refine D2.out.mono ?_; rintro e w2 ⟨rfl, rfl⟩)
    go_roundw
    case rel => exact ⟨i + 1, by omega, by go_num, HN, trivial⟩
    case measure => simp [intOf]; omega
   ·have hq : kk ≠ 0 /\ sb S kk = true := ⟨fun e => q (.inl e), by cases e : sb S kk with
     | true => rfl
     | false => exact absurd (.inr e) q⟩
    have D2 := Lib.hid (D1.out.mono (R' := fun e w' => e = .returned (.bool true) /\ ∃ S' M vW', EvAt w0 w' bi bk bw bs S' (Wk ++ M) vS vW' (.func (.func 60) #[] #[]) (.slice (some ad) T.length c) T /\ More G.obs.length d [v] S S' M) (fun e w' h => by
     rcases h with ⟨h0, _⟩ | ⟨_, h1, ⟨S', M, vW', k1, k2, k3⟩, k4, k5, k6⟩
     ·exact absurd h0 q
     ·exact ⟨h1, S', M, vW', EV.out.del k1 k4 k5 k6 k3, k2⟩))
    have HEK := Lib.hid (show ∃ kk v', ekG G (T.getD i 0) = some (kk, v') /\ kk ≠ 0 /\ sb S kk = true /\ v' = v from ⟨kk, v, hek, hq.1, hq.2, rfl⟩)
    clear D1 q hq hek HS2
    obtain ⟨y, hy⟩ : ∃ y, y = T.getD i 0 := ⟨_, rfl⟩
    rw [<- hy] at D2 hc
    clear hy
    go_upto_region 5 with (go_at_call 90; refine D2.out.mono ?_; rintro e w2 ⟨rfl, hex⟩)
    have HX := Lib.hid hex
    clear hex
    go_wp2_with fail
    go_ret
    obtain ⟨kk', v', e1, e2, e3, rfl⟩ := HEK.out
    exact .inr ⟨i, hlt, rfl, hS.out, kk', v', e1, e2, e3, HX.out⟩
  ·have dlt : decide ((i : Int) < (T.length : Int)) = false := decide_eq_false (by omega)
   have HA := Lib.hid (show ∀ y ∈ T, Stays G S y from fun y hy => by
    obtain ⟨j, hj, e⟩ := List.getElem_of_mem hy
    have := hS.out j (by omega)
    rwa [List.getD_eq_getElem?_getD, List.getElem?_eq_getElem hj, show (some T[j]).getD 0 = T[j] from rfl, e] at this)
   go_wp2_with fail
   go_ret
   exact .inl ⟨rfl, HA.out, rfl⟩
set_option maxRecDepth 100000 in
set_option maxHeartbeats 8000000 in
theorem index2_any (g : Gv) (G : Gr) (w0 w : World) (bg bi bk bw bs : Nat) (S : List Bool) (Wk : List Int) (vS vW : Value) (d : Int) (bx ix : Nat) (hbx : w0.cell? ⟨bx, 0, none⟩ = some (.int .i64 (ix : Int))) (hbB : bx < w0.heap.size) (hix : ix <= 1048576) (hd : d = (ix : Int) + 1) (hX : w0.heap[bg]? = some (.cells (gcells g G) 27 (0, 0))) (hA : GAt w0 g G) (s : Small G) (K : EkOk (ekG G) G.obs.length) (hSl : S.length = G.obs.length + 1) (hlen : Wk.length <= 8388608)
  (vT : Value) (T : List Int) (hE : EvAt w0 w bi bk bw bs S Wk vS vW (.func (.func 63) #[] #[.pointer (some ⟨bx, 0, none⟩)]) vT T) (hT : ∀ y ∈ T, 1 <= y /\ y <= (G.obs.length : Int) /\ ∃ k v, ekG G y = some (k, v)) (hTl : T.length <= 8388608) :
  Calls Tryd.prog 117 #[vT, .func (.func 90) #[] #[.pointer (some ⟨bg, 0, none⟩), .pointer (some ⟨bi, 0, none⟩), .pointer (some ⟨bs, 0, none⟩)]] w fun e w' =>
   (e = .returned (.int .i64 (-1)) /\ (∀ y ∈ T, Stays G S y) /\ w' = w) \/ (∃ i : Nat, i < T.length /\ e = .returned (.int .i64 (i : Int)) /\ (∀ j, j < i -> Stays G S (T.getD j 0)) /\ ∃ kk v, ekG G (T.getD i 0) = some (kk, v) /\ kk ≠ 0 /\ sb S kk = true /\ ∃ S' M vW', EvAt w0 w' bi bk bw bs S' (Wk ++ M) vS vW' (.func (.func 63) #[] #[.pointer (some ⟨bx, 0, none⟩)]) vT T /\ More G.obs.length d [v] S S' M) := by
 have DC := Lib.hid (fun (y kk v : Int) (y0 : 1 <= y) (y1 : y <= (G.obs.length : Int)) (hek : ekG G y = some (kk, v)) => del2_any g G w0 w bg bi bk bw bs S Wk vS vW d bx ix hbx hbB hix hd hX hA s K hE.k hE.see hE.b hSl hlen y kk v y0 y1 hek)
 have EV := Lib.hid hE
 obtain ⟨A, c, rfl⟩ := Kd.R_slice hE.t
 have hC := (Kd.R_reads' hE.t).2.2
 have HT := Lib.hid hT
 clear hE hT hX hA
 go_enter Tryd.func117, Tryd.ntmps117
 go_wp2_with fail
 go_loopw [8] (fun iv wx => ∃ i : Nat, i <= T.length /\ iv = .int .i64 i /\ Hid (∀ j, j < i -> Stays G S (T.getD j 0)) /\ wx = w) (fun iv _ => T.length - (intOf iv).toNat)
 case atStart => exact ⟨0, by omega, rfl, Lib.hid (fun j hj => by omega), rfl⟩
 case round =>
  obtain ⟨i, hi, rfl, hS, rfl⟩ := hrel
  by_cases hlt : i < T.length
  ·have dlt : decide ((i : Int) < (T.length : Int)) = true := decide_eq_true (by omega)
   have i0 : (0 : Int) <= (i : Int) := by omega
   have i1 : (i : Int) < (T.length : Int) := by omega
   obtain ⟨ad, rfl, hc⟩ := int_at hC i hlt
   obtain ⟨y0, y1, kk, v, hek⟩ := HT.out _ (getD_mem 0 hlt)
   have D1 := Lib.hid (DC.out _ kk v y0 y1 hek)
   have HS2 := Lib.hid (fun (q : Stays G S (T.getD i 0)) j (hj : j < i + 1) => (show Stays G S (T.getD j 0) from by
    by_cases e : j = i
    ·rw [e]; exact q
    ·exact hS.out j (by omega)))
   by_cases q : kk = 0 \/ sb S kk = false
   ·have HN := Lib.hid (HS2.out (fun k' v' e => by rw [hek] at e; cases e; exact q))
    have D2 := Lib.hid (D1.out.mono (R' := fun e w' => e = .returned (.bool false) /\ w' = wr) (fun e w' h => by
     rcases h with ⟨_, h1, h2⟩ | ⟨⟨h1, h2⟩, _⟩
     ·exact ⟨h1, h2⟩
     ·rcases q with q | q
      ·exact absurd q h1
      ·rw [q] at h2; cases h2))
    clear D1 q hek
    generalize T.getD i 0 = y at *
    go_wp2_with (go_at_call 90; refine D2.out.mono ?_; rintro e w2 ⟨rfl, rfl⟩)
    go_roundw
    case rel => exact ⟨i + 1, by omega, by go_num, HN, trivial⟩
    case measure => simp [intOf]; omega
   ·have hq : kk ≠ 0 /\ sb S kk = true := ⟨fun e => q (.inl e), by cases e : sb S kk with
     | true => rfl
     | false => exact absurd (.inr e) q⟩
    have D2 := Lib.hid (D1.out.mono (R' := fun e w' => e = .returned (.bool true) /\ ∃ S' M vW', EvAt w0 w' bi bk bw bs S' (Wk ++ M) vS vW' (.func (.func 63) #[] #[.pointer (some ⟨bx, 0, none⟩)]) (.slice (some ad) T.length c) T /\ More G.obs.length d [v] S S' M) (fun e w' h => by
     rcases h with ⟨h0, _⟩ | ⟨_, h1, ⟨S', M, vW', k1, k2, k3⟩, k4, k5, k6⟩
     ·exact absurd h0 q
     ·exact ⟨h1, S', M, vW', EV.out.del k1 k4 k5 k6 k3, k2⟩))
    have HEK := Lib.hid (show ∃ kk v', ekG G (T.getD i 0) = some (kk, v') /\ kk ≠ 0 /\ sb S kk = true /\ v' = v from ⟨kk, v, hek, hq.1, hq.2, rfl⟩)
    clear D1 q hq hek HS2
    obtain ⟨y, hy⟩ : ∃ y, y = T.getD i 0 := ⟨_, rfl⟩
    rw [<- hy] at D2 hc
    clear hy
    go_upto_region 5 with (go_at_call 90; refine D2.out.mono ?_; rintro e w2 ⟨rfl, hex⟩)
    have HX := Lib.hid hex
    clear hex
    go_wp2_with fail
    go_ret
    obtain ⟨kk', v', e1, e2, e3, rfl⟩ := HEK.out
    exact .inr ⟨i, hlt, rfl, hS.out, kk', v', e1, e2, e3, HX.out⟩
  ·have dlt : decide ((i : Int) < (T.length : Int)) = false := decide_eq_false (by omega)
   have HA := Lib.hid (show ∀ y ∈ T, Stays G S y from fun y hy => by
    obtain ⟨j, hj, e⟩ := List.getElem_of_mem hy
    have := hS.out j (by omega)
    rwa [List.getD_eq_getElem?_getD, List.getElem?_eq_getElem hj, show (some T[j]).getD 0 = T[j] from rfl, e] at this)
   go_wp2_with fail
   go_ret
   exact .inl ⟨rfl, HA.out, rfl⟩
end
section
theorem KpAt.far {w : World} {B bi bk bw : Nat} {S : List Bool} {W : List Int} {vS vW kv : Value} (h : KpAt w B bi bk bw S W vS vW kv) {g : Nat} {cells : Array Value} (hty : w.heap[g]? = some (.cells cells 3 (0, 0))) (hne : vW.ownBlock ≠ some g) (i : Nat) (v : Value) : KpAt (w.setCell ⟨g, i, none⟩ v) B bi bk bw S W vS vW kv :=
 ⟨⟨blk_far h.ks.s (blk_ne h.ks.s hty (by decide)) v, blk_far h.ks.k (blk_ne h.ks.k hty (by decide)) v, Kd.R_set h.ks.rs hty (by decide) i v, RI_far h.ks.rw (p := ⟨g, i, none⟩) hne v, h.ks.sB, h.ks.kB⟩, blk_far h.kp (blk_ne h.kp hty (by decide)) v, h.kB⟩
theorem EvAt.put {w0 w : World} {bi bk bw bs g n c : Nat} {S : List Bool} {Wk : List Int} {vS vW kv : Value} {T : List Int} (h : EvAt w0 w bi bk bw bs S Wk vS vW kv (.slice (some ⟨g, 0, none⟩) n c) T) (i : Nat) (x : Int) : EvAt w0 (w.setCell ⟨g, i, none⟩ (.int .i64 x)) bi bk bw bs S Wk vS vW kv (.slice (some ⟨g, 0, none⟩) n c) (T.set i x) := by
 obtain ⟨cells, hty⟩ := Kd.R_typed h.t g rfl
 exact ⟨h.k.far hty (h.ne g rfl) i _, blk_far h.see (blk_ne h.see hty (by decide)) _, (RI_put h.t i x).1, h.ne, h.b.setCell (p := ⟨g, i, none⟩) (Kd.R_base h.t g rfl) _⟩
structure Dl (G : Gr) (d : Int) (S : List Bool) (Wk A R : List Int) : Prop where
 rc : Rc (nxG G) (ekG G) G.obs.length d S Wk (A ++ R)
 st : Wk = [] -> ∀ y ∈ A, Stays G S y
theorem Dl.keep {G : Gr} {d y : Int} {S : List Bool} {Wk A R : List Int} (h : Dl G d S Wk A (y :: R)) (hs : Stays G S y) : Dl G d S Wk (A ++ [y]) R :=
 ⟨by rw [List.append_assoc]; exact h.rc, fun e x hx => by
  rcases List.mem_append.1 hx with q | q
  ·exact h.st e x q
  ·simp at q; subst q; exact hs⟩
theorem Dl.drop {G : Gr} {d y k v : Int} {S S' : List Bool} {Wk A R M : List Int} (H : NxOk (nxG G) G.obs.length) (K : EkOk (ekG G) G.obs.length) (h : Dl G d S Wk A (y :: R)) (he : ekG G y = some (k, v)) (hk : sb S k = true) (k0 : k ≠ 0) (hm : More G.obs.length d [v] S S' M) : Dl G d S' (Wk ++ M) A R :=
 ⟨h.rc.let H K he hk k0 hm, fun e x hx => by
  obtain ⟨e1, e2⟩ := List.append_eq_nil_iff.1 e
  rw [hm.none e2]
  exact h.st e1 x hx⟩
end
section
theorem first_bad (p : Int -> Prop) : ∀ (T : List Int), (∀ y ∈ T, p y) \/ ∃ i, i < T.length /\ (∀ j, j < i -> p (T.getD j 0)) /\ ¬ p (T.getD i 0)
 | [] => .inl fun y h => by cases h
 | x :: T => by
  by_cases hx : p x
  ·rcases first_bad p T with h | ⟨i, h1, h2, h3⟩
   ·exact .inl fun y hy => by
     rcases List.mem_cons.1 hy with e | e
     ·rw [e]; exact hx
     ·exact h y e
   ·refine .inr ⟨i + 1, by simp; omega, fun j hj => ?_, by simpa using h3⟩
    cases j with
    | zero => simpa using hx
    | succ j => simpa using h2 j (by omega)
  ·exact .inr ⟨0, by simp, fun j hj => by omega, by simpa using hx⟩
theorem EvAt.clear {w0 : World} {bi bk bw bs g n c : Nat} {S : List Bool} {Wk : List Int} {vS vW kv : Value} : ∀ (m o : Nat) {w : World} {T : List Int}, EvAt w0 w bi bk bw bs S Wk vS vW kv (.slice (some ⟨g, 0, none⟩) n c) T -> ∃ T', T'.length = T.length /\ T'.take o = T.take o /\ EvAt w0 (w.setCells g o (List.replicate m (.int .i64 0))) bi bk bw bs S Wk vS vW kv (.slice (some ⟨g, 0, none⟩) n c) T' := by
 intro m
 induction m with
 | zero => intro o w T h; exact ⟨T, rfl, rfl, h⟩
 | succ m ih =>
  intro o w T h
  obtain ⟨T', h1, h2, h3⟩ := ih (o + 1) (h.put o 0)
  refine ⟨T', by simpa using h1, ?_, h3⟩
  have e := congrArg (List.take o) h2
  rw [List.take_take, List.take_take, Nat.min_eq_left (Nat.le_succ o)] at e
  rw [e, List.take_set_of_le (Nat.le_refl o)]
theorem EvAt.cut {w0 w : World} {bi bk bw bs g n c : Nat} {S : List Bool} {Wk : List Int} {vS vW kv : Value} {T : List Int} (h : EvAt w0 w bi bk bw bs S Wk vS vW kv (.slice (some ⟨g, 0, none⟩) n c) T) {i : Nat} (hi : i <= T.length) : EvAt w0 w bi bk bw bs S Wk vS vW kv (.slice (some ⟨g, 0, none⟩) i c) (T.take i) :=
 ⟨h.k, h.see, Kd.R_take h.t (m := i) hi, h.ne, h.b⟩
def uo (S : List Bool) : Nat := unb (fun _ => 1) S 0
theorem stays_not {G : Gr} {S : List Bool} {y : Int} (h : ¬ Stays G S y) : ∃ k v, ekG G y = some (k, v) /\ k ≠ 0 /\ sb S k = true := by
 unfold Stays at h
 cases e : ekG G y with
 | none => exact absurd (fun k v q => by rw [e] at q; cases q) h
 | some p =>
  obtain ⟨k, v⟩ := p
  refine ⟨k, v, rfl, fun q => h fun k' v' e2 => ?_, ?_⟩
  ·rw [e] at e2; cases e2; exact .inl q
  ·cases e3 : sb S k with
   | true => rfl
   | false => exact absurd (fun k' v' e2 => by rw [e] at e2; cases e2; exact .inr e3) h
theorem stays_lone {G : Gr} {S : List Bool} {y k v : Int} (h : Stays G S y) (e : ekG G y = some (k, v)) (k0 : k ≠ 0) (hk : sb S k = true) : False := by
 rcases h k v e with q | q
 ·exact k0 q
 ·rw [q] at hk; cases hk
set_option maxRecDepth 100000 in
set_option maxHeartbeats 8000000 in
theorem delete1_any (g : Gv) (G : Gr) (w0 w : World) (bg bi bk bw bs : Nat) (S : List Bool) (Wk : List Int) (vS vW : Value) (d : Int) (hd : d = -1) (hX : w0.heap[bg]? = some (.cells (gcells g G) 27 (0, 0))) (hA : GAt w0 g G) (s : Small G) (K : EkOk (ekG G) G.obs.length) (H : NxOk (nxG G) G.obs.length)
  (vT : Value) (T : List Int) (hE : EvAt w0 w bi bk bw bs S Wk vS vW (.func (.func 60) #[] #[]) vT T) (hR : Rc (nxG G) (ekG G) G.obs.length d S Wk T) (hcnt : Wk.length + T.length + uo S <= G.obs.length + 1) :
  Calls Tryd.prog 80 #[vT, .func (.func 90) #[] #[.pointer (some ⟨bg, 0, none⟩), .pointer (some ⟨bi, 0, none⟩), .pointer (some ⟨bs, 0, none⟩)]] w fun e w' =>
   ∃ (v' : Value) (S' : List Bool) (Wk' : List Int) (vW' : Value) (T' : List Int), e = .returned v' /\ EvAt w0 w' bi bk bw bs S' Wk' vS vW' (.func (.func 60) #[] #[]) v' T' /\ Rc (nxG G) (ekG G) G.obs.length d S' Wk' T' /\ (Wk' = [] -> ∀ y ∈ T', Stays G S' y) /\ uo S' + Wk'.length = uo S + Wk.length /\ T'.length <= T.length := by
 have bn := s.bd.n
 have hEk : ∀ y ∈ T, 1 <= y /\ y <= (G.obs.length : Int) /\ ∃ k v, ekG G y = some (k, v) := fun y hy => by
  obtain ⟨a, b, _, c⟩ := hR.wE y hy
  exact ⟨a, b, c⟩
 have IC := index1_any g G w0 w bg bi bk bw bs S Wk vS vW d hd hX hA s K hR.sl (by omega) vT T hE hEk (by omega)
 have DC := Lib.hid (fun (W : World) (S' : List Bool) (Wk' : List Int) (vW' v' : Value) (T' : List Int) (h : EvAt w0 W bi bk bw bs S' Wk' vS vW' (.func (.func 60) #[] #[]) v' T') (sl : S'.length = G.obs.length + 1) (hl : Wk'.length <= 8388608) (y kk v : Int) (y0 : 1 <= y) (y1 : y <= (G.obs.length : Int)) (hek : ekG G y = some (kk, v)) => del1_any g G w0 W bg bi bk bw bs S' Wk' vS vW' d hd hX hA s K h.k h.see h.b sl hl y kk v y0 y1 hek)
 have hTn : T.length <= 2097152 := by omega
 have EK := Lib.hid hEk
 have CN := Lib.hid hcnt
 clear hEk hcnt
 rcases first_bad (Stays G S) T with hall | ⟨a, ha, hst, hbad⟩
 ·have IX := Lib.hid (IC.mono (R' := fun e w' => e = .returned (.int .i64 (-1)) /\ w = w') (fun e w' h => by
   rcases h with ⟨h1, _, h2⟩ | ⟨i, hi, _, _, kk, v, e1, e2, e3, _⟩
   ·exact ⟨h1, h2.symm⟩
   ·exact (stays_lone (hall _ (getD_mem 0 hi)) e1 e2 e3).elim))
  have HA := Lib.hid hall
  have HE := Lib.hid hE
  have HR := Lib.hid hR
  obtain ⟨A, c, rfl⟩ := Kd.R_slice hE.t
  clear IC hall DC hX hA hE hR
  go_enter Tryd.func80, Tryd.ntmps80
  go_wp2_with (go_at_call 117; refine IX.out.mono ?_; rintro e w2 ⟨rfl, rfl⟩)
  go_ret
  exact ⟨_, S, Wk, vW, T, rfl, HE.out, HR.out, fun _ => HA.out, rfl, Nat.le_refl _⟩
 ·obtain ⟨k0, v0, ek0, kn0, ks0⟩ := stays_not hbad
  have IX := Lib.hid (IC.mono (R' := fun e w' => e = .returned (.int .i64 (a : Int)) /\ ∃ S' M vW', EvAt w0 w' bi bk bw bs S' (Wk ++ M) vS vW' (.func (.func 60) #[] #[]) vT T /\ More G.obs.length d [v0] S S' M) (fun e w' h => by
   rcases h with ⟨_, h1, _⟩ | ⟨i, hi, h0, hs, kk, v, e1, e2, e3, S', M, vW', h4, h5⟩
   ·exact (hbad (h1 _ (getD_mem 0 ha))).elim
   ·have : i = a := by
     rcases Nat.lt_trichotomy i a with q | q | q
     ·exact (stays_lone (hst i q) e1 e2 e3).elim
     ·exact q
     ·exact (hbad (hs a q)).elim
    subst this
    rw [ek0] at e1
    cases e1
    exact ⟨h0, S', M, vW', h4, h5⟩))
  have HD0 := Lib.hid (fun (S' : List Bool) (M : List Int) (hm : More G.obs.length d [v0] S S' M) => (show Dl G d S' (Wk ++ M) (T.take a) (T.drop (a + 1)) from Dl.drop H K (A := T.take a) (R := T.drop (a + 1)) (y := T.getD a 0) ⟨by rw [<- drop_cons 0 ha, List.take_append_drop]; exact hR, fun _ y hy => by
   obtain ⟨j, hj, e⟩ := List.getElem_of_mem hy
   have hj2 : j < a := by simp at hj; omega
   have := hst j hj2
   rw [List.getElem_take] at e
   rwa [List.getD_eq_getElem?_getD, List.getElem?_eq_getElem (by omega), show (some (T[j]'(by omega))).getD 0 = T[j]'(by omega) from rfl, e] at this⟩ ek0 ks0 kn0 hm))
  have HSL := Lib.hid hR.sl
  obtain ⟨g', cap, rfl, g0, g1, -⟩ := RI_form hE.t (by omega)
  obtain ⟨-, hnc, hC⟩ := Kd.R_reads' hE.t
  clear IC hst hbad hE hR hC hX hA ek0 kn0 ks0
  generalize hn : T.length = n at *
  have HN := Lib.hid hn
  clear hn
  have dm : ((a : Int) == -1) = false := by rw [beq_eq_false_iff_ne]; omega
  go_enter Tryd.func80, Tryd.ntmps80
  go_wp2_with (go_at_call 117; refine IX.out.mono ?_; rintro e w2 ⟨rfl, hex⟩)
  obtain ⟨S1, M1, vW1, hE1, hM1⟩ := hex
  have HD1 := Lib.hid (HD0.out S1 M1 hM1)
  have HC1 := Lib.hid (show uo S1 + (Wk ++ M1).length = uo S + Wk.length from by have := hM1.cnt; unfold uo; rw [List.length_append]; omega)
  clear hM1 HD0 IX
  generalize Wk ++ M1 = Wk1 at *
  go_loopw [5, 6] (fun iv jv wx => ∃ (i j : Nat) (T' : List Int) (S' : List Bool) (Wk' : List Int) (vW' : Value), i < j /\ j <= n /\ iv = .int .i64 i /\ jv = .int .i64 j /\ T'.length = n /\ T'.drop j = T.drop j /\ Hid (Dl G d S' Wk' (T'.take i) (T.drop j)) /\ Hid (uo S' + Wk'.length = uo S + Wk.length) /\ EvAt w0 wx bi bk bw bs S' Wk' vS vW' (.func (.func 60) #[] #[]) (.slice (some ⟨g', 0, none⟩) n cap) T') (fun _ jv _ => n - (intOf jv).toNat)
  case atStart => exact ⟨a, a + 1, T, S1, Wk1, vW1, by omega, by omega, rfl, by go_num, HN.out, rfl, HD1, HC1, hE1⟩
  case round =>
   clear hE1 HD1 HC1
   obtain ⟨i, j, T', S', Wk', vW', hij, hj, rfl, rfl, hl, hdr, HDl, HCn, hE⟩ := hrel
   have HL := Lib.hid hl
   have HD := Lib.hid hdr
   have HEv := Lib.hid hE
   have hT := hE.t
   clear hl hdr hE
   by_cases hlj : j < n
   ·have dlt : decide ((j : Int) < (n : Int)) = true := decide_eq_true (by omega)
    have j0 : (0 : Int) <= (j : Int) := by omega
    have j1 : (j : Int) < (n : Int) := by omega
    have i0 : (0 : Int) <= (i : Int) := by omega
    have i1 : (i : Int) < (n : Int) := by omega
    obtain ⟨hcj, -⟩ := Kd.R_celln (d := (0 : Int)) hT (j : Int) (by omega) (by omega)
    obtain ⟨hci, hfi⟩ := Kd.R_celln (d := (0 : Int)) hT (i : Int) (by omega) (by omega)
    simp only [Int.toNat_natCast, rdOf] at hcj hci hfi
    have hx : T'.getD j 0 = T.getD j 0 := by
     have := congrArg (fun l => l.getD 0 0) HD.out
     simpa [List.getD_eq_getElem?_getD, List.getElem?_drop] using this
    have HD2 := Lib.hid (show T'.drop (j + 1) = T.drop (j + 1) by rw [<- List.drop_drop, <- List.drop_drop, HD.out])
    rw [hx] at hcj
    obtain ⟨y0, y1, kk, v, hek⟩ := EK.out _ (getD_mem 0 (l := T) (i := j) (by have := HN.out; omega))
    have D1 := DC.out wr S' Wk' vW' _ T' HEv.out HDl.out.rc.sl (by have := HCn.out; have := CN.out; omega) _ kk v y0 y1 hek
    have HDj := Lib.hid (show Dl G d S' Wk' (T'.take i) (T.getD j 0 :: T.drop (j + 1)) from by rw [<- drop_cons 0 (by have := HN.out; omega)]; exact HDl.out)
    clear hx hT
    obtain ⟨x, hxx⟩ : ∃ x, x = T.getD j 0 := ⟨_, rfl⟩
    rw [<- hxx] at D1 hcj HDj hek y0 y1
    clear hxx
    by_cases q : kk = 0 \/ sb S' kk = false
    ·have D2 := Lib.hid (D1.mono (R' := fun e w' => e = .returned (.bool false) /\ wr = w') (fun e w' h => by
      rcases h with ⟨_, h1, h2⟩ | ⟨⟨h1, h2⟩, _⟩
      ·exact ⟨h1, h2.symm⟩
      ·rcases q with q | q
       ·exact absurd q h1
       ·rw [q] at h2; cases h2))
     have HK := Lib.hid (HDj.out.keep (fun k' v' e => by rw [hek] at e; cases e; exact q))
     clear D1 q hek
     go_upto_region 10 with (go_at_call 90; refine D2.out.mono ?_; rintro e w2 ⟨rfl, rfl⟩)
     have HE1 := Lib.hid (HEv.out.put i x)
     generalize wr.setCell ⟨g', i, none⟩ (.int .i64 x) = w3 at *
     clear hcj hci hfi D2
     go_wp2_with fail
     go_roundw
     case rel => exact ⟨i + 1, j + 1, T'.set i x, S', Wk', vW', by omega, by omega, by go_num, by go_num, by simp [HL.out], by rw [List.drop_set_of_lt (by omega)]; exact HD2.out, Lib.hid (by rw [take_set_snoc (by have := HL.out; omega)]; exact HK.out), HCn, HE1.out⟩
     case measure => simp [intOf]; omega
    ·have hq : kk ≠ 0 /\ sb S' kk = true := ⟨fun e => q (.inl e), by cases e : sb S' kk with
      | true => rfl
      | false => exact absurd (.inr e) q⟩
     have D2 := Lib.hid (D1.mono (R' := fun e w' => e = .returned (.bool true) /\ ∃ S2 M vW2, EvAt w0 w' bi bk bw bs S2 (Wk' ++ M) vS vW2 (.func (.func 60) #[] #[]) (.slice (some ⟨g', 0, none⟩) n cap) T' /\ More G.obs.length d [v] S' S2 M) (fun e w' h => by
      rcases h with ⟨h0, _⟩ | ⟨_, h1, ⟨S2, M, vW2, k1, k2, k3⟩, k4, k5, k6⟩
      ·exact absurd h0 q
      ·exact ⟨h1, S2, M, vW2, HEv.out.del k1 k4 k5 k6 k3, k2⟩))
     have HK := Lib.hid (fun (S2 : List Bool) (M : List Int) (hm : More G.obs.length d [v] S' S2 M) => (⟨HDj.out.drop H K hek hq.2 hq.1 hm, by have := hm.cnt; have := HCn.out; unfold uo at *; rw [List.length_append]; omega⟩ : Dl G d S2 (Wk' ++ M) (T'.take i) (T.drop (j + 1)) /\ uo S2 + (Wk' ++ M).length = uo S + Wk.length))
     clear D1 q hek hq hci hfi
     go_upto_region 9 with (go_at_call 90; refine D2.out.mono ?_; rintro e w2 ⟨rfl, hex⟩)
     have HX := Lib.hid hex
     clear hex hcj D2
     go_wp2_with fail
     go_roundw
     case rel =>
      obtain ⟨S2, M, vW2, h1, h2⟩ := HX.out
      have h3 := HK.out S2 M h2
      exact ⟨i, j + 1, T', S2, Wk' ++ M, vW2, by omega, by omega, rfl, by go_num, HL.out, HD2.out, Lib.hid h3.1, Lib.hid h3.2, h1⟩
     case measure => simp [intOf]; omega
   ·have dlt : decide ((j : Int) < (n : Int)) = false := decide_eq_false (by omega)
    obtain rfl : j = n := by omega
    have hcel : ∀ k, k < j - i -> wr.cell? ⟨g', i + k, none⟩ = some (.int .i64 (T'.getD (i + k) 0)) /\ wr.frozen? ⟨g', i + k, none⟩ = false := fun k hk => by
     have := Kd.R_celln (d := (0 : Int)) hT ((i + k : Nat) : Int) (by omega) (by omega)
     simp only [rdOf, Int.toNat_natCast] at this
     exact this
    have hcl : ∀ ty, (Builtin.clear_ #[24] ty #[.slice (some ⟨g', i, none⟩) (j - i) (cap - i)]).run Tryd.prog wr = .ok (.tuple #[]) (wr.setCells g' i (List.replicate (j - i) (.int .i64 0))) :=
     fun ty => Lib.run_clear_slice wr 24 3 ty (.int .i64 0) Tryd.underlying24 zeroI rfl rfl g' i (j - i) (cap - i) (by omega) (fun k hk => by rw [(hcel k hk).1]; rfl) (fun k hk => (hcel k hk).2)
    clear hcel hT
    obtain ⟨T3, t1, t2, hE3⟩ := HEv.out.clear (j - i) i
    have HE4 := Lib.hid (hE3.cut (i := i) (by have := HL.out; omega))
    have HZ := Lib.hid (show Dl G d S' Wk' (T3.take i) [] from by rw [t2]; have := HDl.out; rwa [List.drop_of_length_le (by have := HN.out; omega)] at this)
    have hlen : (T3.take i).length <= j := by simp; omega
    clear t1 t2 hE3 HDl
    have q0 : (0 : Int) <= (i : Int) := by omega
    have q1 : (i : Int) <= (j : Int) := by omega
    have q2 : (i : Int) <= (cap : Int) := by omega
    have q3 : ¬ cap = i := by omega
    generalize T3.take i = T4 at *
    have HLn := Lib.hid hlen
    clear hlen
    go_wp2_with fail
    go_ret
    exact ⟨_, S', Wk', vW', T4, rfl, HE4.out, by have := HZ.out.rc; rwa [List.append_nil] at this, HZ.out.st, HCn.out, by have := HN.out; have := HLn.out; omega⟩
set_option maxRecDepth 100000 in
set_option maxHeartbeats 8000000 in
theorem delete2_any (g : Gv) (G : Gr) (w0 w : World) (bg bi bk bw bs : Nat) (S : List Bool) (Wk : List Int) (vS vW : Value) (d : Int) (bx ix : Nat) (hbx : w0.cell? ⟨bx, 0, none⟩ = some (.int .i64 (ix : Int))) (hbB : bx < w0.heap.size) (hix : ix <= 1048576) (hd : d = (ix : Int) + 1) (hX : w0.heap[bg]? = some (.cells (gcells g G) 27 (0, 0))) (hA : GAt w0 g G) (s : Small G) (K : EkOk (ekG G) G.obs.length) (H : NxOk (nxG G) G.obs.length)
  (vT : Value) (T : List Int) (hE : EvAt w0 w bi bk bw bs S Wk vS vW (.func (.func 63) #[] #[.pointer (some ⟨bx, 0, none⟩)]) vT T) (hR : Rc (nxG G) (ekG G) G.obs.length d S Wk T) (hcnt : Wk.length + T.length + uo S <= G.obs.length + 1) :
  Calls Tryd.prog 80 #[vT, .func (.func 90) #[] #[.pointer (some ⟨bg, 0, none⟩), .pointer (some ⟨bi, 0, none⟩), .pointer (some ⟨bs, 0, none⟩)]] w fun e w' =>
   ∃ (v' : Value) (S' : List Bool) (Wk' : List Int) (vW' : Value) (T' : List Int), e = .returned v' /\ EvAt w0 w' bi bk bw bs S' Wk' vS vW' (.func (.func 63) #[] #[.pointer (some ⟨bx, 0, none⟩)]) v' T' /\ Rc (nxG G) (ekG G) G.obs.length d S' Wk' T' /\ (Wk' = [] -> ∀ y ∈ T', Stays G S' y) /\ uo S' + Wk'.length = uo S + Wk.length /\ T'.length <= T.length := by
 have bn := s.bd.n
 have hEk : ∀ y ∈ T, 1 <= y /\ y <= (G.obs.length : Int) /\ ∃ k v, ekG G y = some (k, v) := fun y hy => by
  obtain ⟨a, b, _, c⟩ := hR.wE y hy
  exact ⟨a, b, c⟩
 have IC := index2_any g G w0 w bg bi bk bw bs S Wk vS vW d bx ix hbx hbB hix hd hX hA s K hR.sl (by omega) vT T hE hEk (by omega)
 have DC := Lib.hid (fun (W : World) (S' : List Bool) (Wk' : List Int) (vW' v' : Value) (T' : List Int) (h : EvAt w0 W bi bk bw bs S' Wk' vS vW' (.func (.func 63) #[] #[.pointer (some ⟨bx, 0, none⟩)]) v' T') (sl : S'.length = G.obs.length + 1) (hl : Wk'.length <= 8388608) (y kk v : Int) (y0 : 1 <= y) (y1 : y <= (G.obs.length : Int)) (hek : ekG G y = some (kk, v)) => del2_any g G w0 W bg bi bk bw bs S' Wk' vS vW' d bx ix hbx hbB hix hd hX hA s K h.k h.see h.b sl hl y kk v y0 y1 hek)
 have hTn : T.length <= 2097152 := by omega
 have EK := Lib.hid hEk
 have CN := Lib.hid hcnt
 clear hEk hcnt
 rcases first_bad (Stays G S) T with hall | ⟨a, ha, hst, hbad⟩
 ·have IX := Lib.hid (IC.mono (R' := fun e w' => e = .returned (.int .i64 (-1)) /\ w = w') (fun e w' h => by
   rcases h with ⟨h1, _, h2⟩ | ⟨i, hi, _, _, kk, v, e1, e2, e3, _⟩
   ·exact ⟨h1, h2.symm⟩
   ·exact (stays_lone (hall _ (getD_mem 0 hi)) e1 e2 e3).elim))
  have HA := Lib.hid hall
  have HE := Lib.hid hE
  have HR := Lib.hid hR
  obtain ⟨A, c, rfl⟩ := Kd.R_slice hE.t
  clear IC hall DC hX hA hE hR
  go_enter Tryd.func80, Tryd.ntmps80
  go_wp2_with (go_at_call 117; refine IX.out.mono ?_; rintro e w2 ⟨rfl, rfl⟩)
  go_ret
  exact ⟨_, S, Wk, vW, T, rfl, HE.out, HR.out, fun _ => HA.out, rfl, Nat.le_refl _⟩
 ·obtain ⟨k0, v0, ek0, kn0, ks0⟩ := stays_not hbad
  have IX := Lib.hid (IC.mono (R' := fun e w' => e = .returned (.int .i64 (a : Int)) /\ ∃ S' M vW', EvAt w0 w' bi bk bw bs S' (Wk ++ M) vS vW' (.func (.func 63) #[] #[.pointer (some ⟨bx, 0, none⟩)]) vT T /\ More G.obs.length d [v0] S S' M) (fun e w' h => by
   rcases h with ⟨_, h1, _⟩ | ⟨i, hi, h0, hs, kk, v, e1, e2, e3, S', M, vW', h4, h5⟩
   ·exact (hbad (h1 _ (getD_mem 0 ha))).elim
   ·have : i = a := by
     rcases Nat.lt_trichotomy i a with q | q | q
     ·exact (stays_lone (hst i q) e1 e2 e3).elim
     ·exact q
     ·exact (hbad (hs a q)).elim
    subst this
    rw [ek0] at e1
    cases e1
    exact ⟨h0, S', M, vW', h4, h5⟩))
  have HD0 := Lib.hid (fun (S' : List Bool) (M : List Int) (hm : More G.obs.length d [v0] S S' M) => (show Dl G d S' (Wk ++ M) (T.take a) (T.drop (a + 1)) from Dl.drop H K (A := T.take a) (R := T.drop (a + 1)) (y := T.getD a 0) ⟨by rw [<- drop_cons 0 ha, List.take_append_drop]; exact hR, fun _ y hy => by
   obtain ⟨j, hj, e⟩ := List.getElem_of_mem hy
   have hj2 : j < a := by simp at hj; omega
   have := hst j hj2
   rw [List.getElem_take] at e
   rwa [List.getD_eq_getElem?_getD, List.getElem?_eq_getElem (by omega), show (some (T[j]'(by omega))).getD 0 = T[j]'(by omega) from rfl, e] at this⟩ ek0 ks0 kn0 hm))
  have HSL := Lib.hid hR.sl
  obtain ⟨g', cap, rfl, g0, g1, -⟩ := RI_form hE.t (by omega)
  obtain ⟨-, hnc, hC⟩ := Kd.R_reads' hE.t
  clear IC hst hbad hE hR hC hX hA ek0 kn0 ks0
  generalize hn : T.length = n at *
  have HN := Lib.hid hn
  clear hn
  have dm : ((a : Int) == -1) = false := by rw [beq_eq_false_iff_ne]; omega
  go_enter Tryd.func80, Tryd.ntmps80
  go_wp2_with (go_at_call 117; refine IX.out.mono ?_; rintro e w2 ⟨rfl, hex⟩)
  obtain ⟨S1, M1, vW1, hE1, hM1⟩ := hex
  have HD1 := Lib.hid (HD0.out S1 M1 hM1)
  have HC1 := Lib.hid (show uo S1 + (Wk ++ M1).length = uo S + Wk.length from by have := hM1.cnt; unfold uo; rw [List.length_append]; omega)
  clear hM1 HD0 IX
  generalize Wk ++ M1 = Wk1 at *
  go_loopw [5, 6] (fun iv jv wx => ∃ (i j : Nat) (T' : List Int) (S' : List Bool) (Wk' : List Int) (vW' : Value), i < j /\ j <= n /\ iv = .int .i64 i /\ jv = .int .i64 j /\ T'.length = n /\ T'.drop j = T.drop j /\ Hid (Dl G d S' Wk' (T'.take i) (T.drop j)) /\ Hid (uo S' + Wk'.length = uo S + Wk.length) /\ EvAt w0 wx bi bk bw bs S' Wk' vS vW' (.func (.func 63) #[] #[.pointer (some ⟨bx, 0, none⟩)]) (.slice (some ⟨g', 0, none⟩) n cap) T') (fun _ jv _ => n - (intOf jv).toNat)
  case atStart => exact ⟨a, a + 1, T, S1, Wk1, vW1, by omega, by omega, rfl, by go_num, HN.out, rfl, HD1, HC1, hE1⟩
  case round =>
   clear hE1 HD1 HC1
   obtain ⟨i, j, T', S', Wk', vW', hij, hj, rfl, rfl, hl, hdr, HDl, HCn, hE⟩ := hrel
   have HL := Lib.hid hl
   have HD := Lib.hid hdr
   have HEv := Lib.hid hE
   have hT := hE.t
   clear hl hdr hE
   by_cases hlj : j < n
   ·have dlt : decide ((j : Int) < (n : Int)) = true := decide_eq_true (by omega)
    have j0 : (0 : Int) <= (j : Int) := by omega
    have j1 : (j : Int) < (n : Int) := by omega
    have i0 : (0 : Int) <= (i : Int) := by omega
    have i1 : (i : Int) < (n : Int) := by omega
    obtain ⟨hcj, -⟩ := Kd.R_celln (d := (0 : Int)) hT (j : Int) (by omega) (by omega)
    obtain ⟨hci, hfi⟩ := Kd.R_celln (d := (0 : Int)) hT (i : Int) (by omega) (by omega)
    simp only [Int.toNat_natCast, rdOf] at hcj hci hfi
    have hx : T'.getD j 0 = T.getD j 0 := by
     have := congrArg (fun l => l.getD 0 0) HD.out
     simpa [List.getD_eq_getElem?_getD, List.getElem?_drop] using this
    have HD2 := Lib.hid (show T'.drop (j + 1) = T.drop (j + 1) by rw [<- List.drop_drop, <- List.drop_drop, HD.out])
    rw [hx] at hcj
    obtain ⟨y0, y1, kk, v, hek⟩ := EK.out _ (getD_mem 0 (l := T) (i := j) (by have := HN.out; omega))
    have D1 := DC.out wr S' Wk' vW' _ T' HEv.out HDl.out.rc.sl (by have := HCn.out; have := CN.out; omega) _ kk v y0 y1 hek
    have HDj := Lib.hid (show Dl G d S' Wk' (T'.take i) (T.getD j 0 :: T.drop (j + 1)) from by rw [<- drop_cons 0 (by have := HN.out; omega)]; exact HDl.out)
    clear hx hT
    obtain ⟨x, hxx⟩ : ∃ x, x = T.getD j 0 := ⟨_, rfl⟩
    rw [<- hxx] at D1 hcj HDj hek y0 y1
    clear hxx
    by_cases q : kk = 0 \/ sb S' kk = false
    ·have D2 := Lib.hid (D1.mono (R' := fun e w' => e = .returned (.bool false) /\ wr = w') (fun e w' h => by
      rcases h with ⟨_, h1, h2⟩ | ⟨⟨h1, h2⟩, _⟩
      ·exact ⟨h1, h2.symm⟩
      ·rcases q with q | q
       ·exact absurd q h1
       ·rw [q] at h2; cases h2))
     have HK := Lib.hid (HDj.out.keep (fun k' v' e => by rw [hek] at e; cases e; exact q))
     clear D1 q hek
     go_upto_region 10 with (go_at_call 90; refine D2.out.mono ?_; rintro e w2 ⟨rfl, rfl⟩)
     have HE1 := Lib.hid (HEv.out.put i x)
     generalize wr.setCell ⟨g', i, none⟩ (.int .i64 x) = w3 at *
     clear hcj hci hfi D2
     go_wp2_with fail
     go_roundw
     case rel => exact ⟨i + 1, j + 1, T'.set i x, S', Wk', vW', by omega, by omega, by go_num, by go_num, by simp [HL.out], by rw [List.drop_set_of_lt (by omega)]; exact HD2.out, Lib.hid (by rw [take_set_snoc (by have := HL.out; omega)]; exact HK.out), HCn, HE1.out⟩
     case measure => simp [intOf]; omega
    ·have hq : kk ≠ 0 /\ sb S' kk = true := ⟨fun e => q (.inl e), by cases e : sb S' kk with
      | true => rfl
      | false => exact absurd (.inr e) q⟩
     have D2 := Lib.hid (D1.mono (R' := fun e w' => e = .returned (.bool true) /\ ∃ S2 M vW2, EvAt w0 w' bi bk bw bs S2 (Wk' ++ M) vS vW2 (.func (.func 63) #[] #[.pointer (some ⟨bx, 0, none⟩)]) (.slice (some ⟨g', 0, none⟩) n cap) T' /\ More G.obs.length d [v] S' S2 M) (fun e w' h => by
      rcases h with ⟨h0, _⟩ | ⟨_, h1, ⟨S2, M, vW2, k1, k2, k3⟩, k4, k5, k6⟩
      ·exact absurd h0 q
      ·exact ⟨h1, S2, M, vW2, HEv.out.del k1 k4 k5 k6 k3, k2⟩))
     have HK := Lib.hid (fun (S2 : List Bool) (M : List Int) (hm : More G.obs.length d [v] S' S2 M) => (⟨HDj.out.drop H K hek hq.2 hq.1 hm, by have := hm.cnt; have := HCn.out; unfold uo at *; rw [List.length_append]; omega⟩ : Dl G d S2 (Wk' ++ M) (T'.take i) (T.drop (j + 1)) /\ uo S2 + (Wk' ++ M).length = uo S + Wk.length))
     clear D1 q hek hq hci hfi
     go_upto_region 9 with (go_at_call 90; refine D2.out.mono ?_; rintro e w2 ⟨rfl, hex⟩)
     have HX := Lib.hid hex
     clear hex hcj D2
     go_wp2_with fail
     go_roundw
     case rel =>
      obtain ⟨S2, M, vW2, h1, h2⟩ := HX.out
      have h3 := HK.out S2 M h2
      exact ⟨i, j + 1, T', S2, Wk' ++ M, vW2, by omega, by omega, rfl, by go_num, HL.out, HD2.out, Lib.hid h3.1, Lib.hid h3.2, h1⟩
     case measure => simp [intOf]; omega
   ·have dlt : decide ((j : Int) < (n : Int)) = false := decide_eq_false (by omega)
    obtain rfl : j = n := by omega
    have hcel : ∀ k, k < j - i -> wr.cell? ⟨g', i + k, none⟩ = some (.int .i64 (T'.getD (i + k) 0)) /\ wr.frozen? ⟨g', i + k, none⟩ = false := fun k hk => by
     have := Kd.R_celln (d := (0 : Int)) hT ((i + k : Nat) : Int) (by omega) (by omega)
     simp only [rdOf, Int.toNat_natCast] at this
     exact this
    have hcl : ∀ ty, (Builtin.clear_ #[24] ty #[.slice (some ⟨g', i, none⟩) (j - i) (cap - i)]).run Tryd.prog wr = .ok (.tuple #[]) (wr.setCells g' i (List.replicate (j - i) (.int .i64 0))) :=
     fun ty => Lib.run_clear_slice wr 24 3 ty (.int .i64 0) Tryd.underlying24 zeroI rfl rfl g' i (j - i) (cap - i) (by omega) (fun k hk => by rw [(hcel k hk).1]; rfl) (fun k hk => (hcel k hk).2)
    clear hcel hT
    obtain ⟨T3, t1, t2, hE3⟩ := HEv.out.clear (j - i) i
    have HE4 := Lib.hid (hE3.cut (i := i) (by have := HL.out; omega))
    have HZ := Lib.hid (show Dl G d S' Wk' (T3.take i) [] from by rw [t2]; have := HDl.out; rwa [List.drop_of_length_le (by have := HN.out; omega)] at this)
    have hlen : (T3.take i).length <= j := by simp; omega
    clear t1 t2 hE3 HDl
    have q0 : (0 : Int) <= (i : Int) := by omega
    have q1 : (i : Int) <= (j : Int) := by omega
    have q2 : (i : Int) <= (cap : Int) := by omega
    have q3 : ¬ cap = i := by omega
    generalize T3.take i = T4 at *
    have HLn := Lib.hid hlen
    clear hlen
    go_wp2_with fail
    go_ret
    exact ⟨_, S', Wk', vW', T4, rfl, HE4.out, by have := HZ.out.rc; rwa [List.append_nil] at this, HZ.out.st, HCn.out, by have := HN.out; have := HLn.out; omega⟩
end
end Go.Proofs.YtogpgkoelplknaaDoor
end
