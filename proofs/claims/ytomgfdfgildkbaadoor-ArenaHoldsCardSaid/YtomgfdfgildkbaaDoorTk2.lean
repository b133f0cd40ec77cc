/- A walk through a space's objects with a taker. -/
import Derived.Test.YtomgfdfgildkbaaDoorTk1
namespace Go.Proofs.YtomgfdfgildkbaaDoor
open Go.RowKit Go.BigFrame

/-- What a taker holds behind a walk: it takes till it is done. -/
def Tk.over : Tk → List (Int × Hd) → Tk
  | T, [] => T
  | T, x :: l => if (T.take x.1 x.2).done then T.take x.1 x.2 else (T.take x.1 x.2).over l
def Tk.run (T : Tk) (l : List (Int × Hd)) : Tk := l.foldl (fun T x => T.take x.1 x.2) T
theorem Tk.run_snoc (T : Tk) (l : List (Int × Hd)) (x : Int × Hd) : T.run (l ++ [x]) = (T.run l).take x.1 x.2 := by simp [Tk.run]
/-- As long as none of the beginnings made it done. -/
def Tk.open_ (T : Tk) (l : List (Int × Hd)) : Prop := ∀ p, p <+: l → (T.run p).done = false
theorem Tk.over_open {T : Tk} {l m : List (Int × Hd)} (h : ∀ p, p <+: l → p ≠ [] → (T.run p).done = false) : T.over (l ++ m) = (T.run l).over m := by
  induction l generalizing T with
  | nil => rfl
  | cons x l ih =>
    have h1 : (T.take x.1 x.2).done = false := h [x] (by simp) (by simp)
    show (if (T.take x.1 x.2).done then T.take x.1 x.2 else (T.take x.1 x.2).over (l ++ m)) = _
    rw [h1]
    show (T.take x.1 x.2).over (l ++ m) = _
    rw [ih (T := T.take x.1 x.2) (fun p hp hn => h (x :: p) (by simpa using hp) (by simp))]
    rfl
theorem Tk.over_stop {T : Tk} {l m : List (Int × Hd)} {x : Int × Hd} (h : ∀ p, p <+: l → p ≠ [] → (T.run p).done = false) (hd : (T.run (l ++ [x])).done = true) : T.over (l ++ x :: m) = T.run (l ++ [x]) := by
  rw [Tk.over_open h, Tk.run_snoc]
  rw [Tk.run_snoc] at hd
  show (if ((T.run l).take x.1 x.2).done then (T.run l).take x.1 x.2 else _) = _
  rw [hd]; rfl
theorem Tk.run_len {T : Tk} (hl : T.at_.length = T.hd.length) (l : List (Int × Hd)) : (T.run l).at_.length = (T.run l).hd.length := by
  induction l generalizing T with
  | nil => exact hl
  | cons x l ih => exact ih (T := T.take x.1 x.2) (Tk.take_len hl _ _)
theorem Tk.run_le (T : Tk) (l : List (Int × Hd)) : (T.run l).at_.length ≤ T.at_.length + l.length := by
  induction l generalizing T with
  | nil => simp [Tk.run]
  | cons x l ih =>
    have := ih (T.take x.1 x.2)
    have h2 : (T.take x.1 x.2).at_.length ≤ T.at_.length + 1 := by unfold Tk.take; split <;> simp
    show ((T.take x.1 x.2).run l).at_.length ≤ _
    simp only [List.length_cons]; omega
theorem Frame.of_only {fp : List Nat} {w w' : World} (h : Only fp w w') (ht : ∀ k ∈ fp, ∃ cs ty, w.heap[k]? = some (Obj.cells cs ty (0, 0)) ∧ ty ≠ 193) : Frame fp w w' :=
  ⟨h.size, h.block, fun k cs fr hk => h.block k (lt_of_heap hk) (fun hm => by obtain ⟨cs', ty, h1, h2⟩ := ht k hm; rw [h1] at hk; cases hk; exact h2 rfl),
    h.size, fun k o hk ho => (h.block k (lt_of_heap hk) (fun hm => by obtain ⟨cs', ty, h1, h2⟩ := ht k hm; rw [h1] at hk; cases hk; cases ho)).trans hk⟩
theorem TkAt.types {w : World} {b o : Nat} {ty : TypeId} {B : Nat} {T : Tk} {v1 v2 : Value} (h : TkAt w b o ty B T v1 v2) (hty : ty ≠ 193) : ∀ k ∈ fpOf b v1 v2, ∃ cs ty, w.heap[k]? = some (Obj.cells cs ty (0, 0)) ∧ ty ≠ 193 := fun k hk => by
  rcases mem_fp.1 hk with rfl | hk | hk
  · obtain ⟨cs, hb⟩ := h.hb; exact ⟨cs, ty, hb, hty⟩
  · rcases h.r1.2 with ⟨hn, _⟩ | ⟨g, cap, cur, hv, _, hg, _⟩
    · rw [hn] at hk; cases hk
    · rw [hv] at hk; cases hk; exact ⟨cur, _, hg, by decide⟩
  · rcases h.r2.2 with ⟨hn, _⟩ | ⟨g, cap, cur, hv, _, hg, _⟩
    · rw [hn] at hk; cases hk
    · rw [hv] at hk; cases hk; exact ⟨cur, _, hg, by decide⟩
theorem only_own {β : Type} {S : List Nat} {w : World} {B : Nat} (hB : w.heap.size ≤ B) : OwnFrom B (fun (_ : β) W => Only S w W) := fun _ X Y row hs hg hr =>
  ⟨hg.os.trans hs.os, hg.tape.trans hs.tape, hg.output.trans hs.output, Nat.le_trans hs.size hg.size, fun k hk hn => (hg.block k (Nat.lt_of_lt_of_le hk hs.size) (fun e => by have := (hr k e.symm).1; omega)).trans (hs.block k hk hn)⟩
theorem cells_turn {X Y : World} {row : Option Nat} {B k : Nat} {cs : Array Value} {ty : TypeId} {fr : Nat × Nat} (h : X.heap[k]? = some (Obj.cells cs ty fr)) (hg : X.grownBy Y row) (hr : ∀ r, row = some r → B ≤ r ∧ ∃ o : Obj, X.heap[r]? = some o ∧ o.isCells = false) : Y.heap[k]? = X.heap[k]? :=
  hg.block k (lt_of_heap h) (fun e => by obtain ⟨o, ho, hc⟩ := (hr k e.symm).2; rw [h] at ho; cases ho; cases hc)
theorem TkAt.turn {X Y : World} {row : Option Nat} {B0 : Nat} {b o : Nat} {ty : TypeId} {B : Nat} {T : Tk} {v1 v2 : Value} (h : TkAt X b o ty B T v1 v2) (hg : X.grownBy Y row) (hr : ∀ r, row = some r → B0 ≤ r ∧ ∃ o : Obj, X.heap[r]? = some o ∧ o.isCells = false) : TkAt Y b o ty B T v1 v2 := by
  refine h.same fun k hk => ?_
  rcases mem_fp.1 hk with rfl | hk | hk
  · obtain ⟨cs, hb⟩ := h.hb; exact cells_turn hb hg hr
  · rcases h.r1.2 with ⟨hn, _⟩ | ⟨g, cap, cur, hv, _, hg', _⟩
    · rw [hn] at hk; cases hk
    · rw [hv] at hk; cases hk; exact cells_turn hg' hg hr
  · rcases h.r2.2 with ⟨hn, _⟩ | ⟨g, cap, cur, hv, _, hg', _⟩
    · rw [hn] at hk; cases hk
    · rw [hv] at hk; cases hk; exact cells_turn hg' hg hr
theorem Ar.things_len (A : Ar) (s : Int) (n : Nat) : ∀ i, (A.top s - i).toNat = n → (A.things s i).length ≤ n := by
  induction n using Nat.strongRecOn with
  | ind n ih =>
    intro i hi
    by_cases h : i < A.top s
    · by_cases h2 : 0 < (A.th s i).words
      · rw [A.things_on h h2]
        have := ih (A.top s - (i + (A.th s i).words)).toNat (by omega) _ rfl
        simp only [List.length_cons]; omega
      · rw [A.things_bad h h2]; simp; omega
    · rw [A.things_end h]; simp
theorem Ar.objs_len {A : Ar} (ok : A.Ok) (s : Int) : (A.objs s).length ≤ 262145 := by
  unfold Ar.objs
  split
  · have h := A.things_len s _ (A.first s) rfl
    obtain ⟨_, h1, h2⟩ := ok.top_le s
    have h3 : (objsOf (A.things s (A.first s))).length ≤ (A.things s (A.first s)).length := by
      unfold objsOf; rw [List.length_map]; exact List.length_filter_le _ _
    omega
  · simp
/-- What a walk with a taker leaves. -/
structure TkWalked (w w' : World) (b o : Nat) (ty : TypeId) (B : Nat) (T : Tk) (fp0 : List Nat) : Prop where
  t : ∃ u1 u2, TkAt w' b o ty B T u1 u2 ∧ ∀ k ∈ fpOf b u1 u2, k ∈ fp0 ∨ w.heap.size ≤ k
  c : ∀ j, j < o ∨ o + 6 ≤ j → w'.cell? ⟨b, j, none⟩ = w.cell? ⟨b, j, none⟩
  only : Only fp0 w w'
set_option maxRecDepth 100000 in
set_option maxHeartbeats 4000000 in
theorem obj1_take (b wb bs ba : Nat) (A : Ar) (s : Int) (S : List Nat) (m1 : b ∈ S) (m2 : wb ∈ S) (m3 : bs ∈ S) (m4 : ba ∈ S) (m5 : 1 ∈ S) (m6 : 0 ∈ S) (ok : A.Ok) (w : World) (tb : Tab w) (hA : ArAt w b wb A)
    (hbs : w.cell? ⟨bs, 0, none⟩ = some (.int .i64 s)) (hba : w.cell? ⟨ba, 0, none⟩ = some (.pointer (some ⟨b, 0, none⟩))) (hS : ∀ k ∈ S, k < w.heap.size)
    (t o : Nat) (ty : TypeId) (B : Nat) (T : Tk) (v1 v2 : Value) (hT : TkAt w t o ty B T v1 v2) (hty : ty ≠ 193) (hB : B ≤ w.heap.size) (hd0 : ∀ k ∈ S, k ∉ fpOf t v1 v2) (hl : T.at_.length = T.hd.length) (hn : T.at_.length ≤ 500000) :
    Calls Tryd.prog 152 #[.func (.func 136) #[.pointer (some ⟨t, o, none⟩)] #[], .pointer (some ⟨ba, 0, none⟩), .pointer (some ⟨bs, 0, none⟩)] w fun e w' => e = .returned (.tuple #[]) ∧ TkWalked w w' t o ty B (T.over (A.objs s)) (fpOf t v1 v2) := by
  have C := obj1_calls b wb bs ba A s S m1 m2 m3 m4 m5 m6 ok w tb hA hbs hba hS 136 #[.pointer (some ⟨t, o, none⟩)] #[] (enters_of Tryd.func136 (by kernel_rfl) rfl)
    (fun pre fp W => (∀ p, p <+: pre → p ≠ [] → (T.run p).done = false) ∧ (∃ u1 u2, fp = fpOf t u1 u2 ∧ TkAt W t o ty B (T.run pre) u1 u2 ∧ ∀ k ∈ fpOf t u1 u2, k ∈ fpOf t v1 v2 ∨ w.heap.size ≤ k) ∧ (∀ j, j < o ∨ o + 6 ≤ j → W.cell? ⟨t, j, none⟩ = w.cell? ⟨t, j, none⟩) ∧ Only (fpOf t v1 v2) w W)
    (fun pre W => ∃ q x, pre = q ++ [x] ∧ (∀ p, p <+: q → p ≠ [] → (T.run p).done = false) ∧ (T.run pre).done = true ∧ TkWalked w W t o ty B (T.run pre) (fpOf t v1 v2))
    ?_ ?_ ?_ (fpOf t v1 v2) hd0 ?_ ?_
  · refine C.mono fun e w' ⟨h1, h2⟩ => ⟨h1, ?_⟩
    rcases h2 with ⟨fp, h3, ⟨u1, u2, _, h4, h5⟩, h6, h7⟩ | ⟨pre, hp, q, x, rfl, h3, h4, h5⟩
    · have ho : T.over (A.objs s) = T.run (A.objs s) := by
        have := Tk.over_open (m := []) h3
        rw [List.append_nil] at this
        exact this
      rw [ho]
      exact ⟨⟨u1, u2, h4, h5⟩, h6, h7⟩
    · obtain ⟨m, hm⟩ := hp
      have ho : T.over (A.objs s) = T.run (q ++ [x]) := by
        rw [← hm, List.append_assoc]
        exact Tk.over_stop h3 h4
      rw [ho]
      exact h5
  · intro st X Y row hs hg hr
    obtain ⟨h1, ⟨u1, u2, h2, h3, h4⟩, h5, h6⟩ := hs
    obtain ⟨cs, hb⟩ := h3.hb
    have eb := cells_turn hb hg hr
    exact ⟨h1, ⟨u1, u2, h2, h3.turn hg hr, h4⟩, fun j hj => (World.cell?_of_block (a := ⟨t, j, none⟩) eb).trans (h5 j hj), only_own (Nat.le_refl _) () X Y row h6 hg hr⟩
  · intro pre X Y row hs hg hr
    obtain ⟨q, x, h0, h1, h2, ⟨u1, u2, h3, h4⟩, h5, h6⟩ := hs
    obtain ⟨cs, hb⟩ := h3.hb
    have eb := cells_turn hb hg hr
    exact ⟨q, x, h0, h1, h2, ⟨u1, u2, h3.turn hg hr, h4⟩, fun j hj => (World.cell?_of_block (a := ⟨t, j, none⟩) eb).trans (h5 j hj), only_own (Nat.le_refl _) () X Y row h6 hg hr⟩
  · rintro pre fp W ⟨_, ⟨u1, u2, rfl, h3, _⟩, _⟩ k hk
    exact (h3.lt k hk).1
  · rintro pre fp x W ⟨h1, ⟨u1, u2, rfl, h3, h4⟩, h5, h6⟩ hpre hk
    have hlen : pre.length < (A.objs s).length := by
      obtain ⟨m, hm⟩ := hpre
      rw [← hm]; simp
    have h262 := A.objs_len ok s
    have hle := Tk.run_le T pre
    have K := take_any t o ty B (T.run pre) u1 u2 x.1 x.2 W h3 (Nat.le_trans hB h6.size) (by omega) (Tk.run_len hl pre)
    have ht := h3.types hty
    have hlt : ∀ k ∈ fpOf t u1 u2, k ∈ fpOf t v1 v2 ∨ w.heap.size ≤ k := h4
    have ea : (#[Value.pointer (some ⟨t, o, none⟩)] ++ (#[Value.int .i64 x.1, x.2.val] ++ #[]) : Array Value) = #[.pointer (some ⟨t, o, none⟩), .int .i64 x.1, x.2.val] := rfl
    rw [ea]
    refine K.mono fun e W' ⟨he, u1', u2', h7, h8, h9, h10⟩ => ⟨?_, Frame.of_only h10 ht⟩
    have h11 : Only (fpOf t v1 v2) w W' := ⟨h10.os.trans h6.os, h10.tape.trans h6.tape, h10.output.trans h6.output, Nat.le_trans h6.size h10.size, fun k hk hn => (h10.block k (Nat.lt_of_lt_of_le hk h6.size) (fun hm => by
      rcases hlt k hm with q | q
      · exact hn q
      · omega)).trans (h6.block k hk hn)⟩
    have h12 : ∀ k ∈ fpOf t u1' u2', k ∈ fpOf t v1 v2 ∨ w.heap.size ≤ k := fun k hk => by
      rcases h8 k hk with q | q
      · exact hlt k q
      · right; have := h6.size; omega
    rw [← Tk.run_snoc] at he h7
    cases hd : (T.run (pre ++ [x])).done with
    | false =>
      left
      refine ⟨by rw [he, hd]; rfl, fpOf t u1' u2', ⟨fun p hp hn => ?_, ⟨u1', u2', rfl, h7, h12⟩, fun j hj => (h9 j hj).trans (h5 j hj), h11⟩, h8⟩
      rcases List.prefix_concat_iff.1 hp with q | q
      · rw [q]; exact hd
      · exact h1 p q hn
    | true =>
      right
      exact ⟨by rw [he, hd]; rfl, pre, x, rfl, h1, rfl, ⟨u1', u2', h7, h12⟩, fun j hj => (h9 j hj).trans (h5 j hj), h11⟩
  · exact ⟨fun p hp hn => absurd (List.prefix_nil.1 hp) hn, ⟨v1, v2, rfl, hT, fun k hk => .inl hk⟩, fun _ _ => rfl, .refl _ _⟩
end Go.Proofs.YtomgfdfgildkbaaDoor
