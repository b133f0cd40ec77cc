/- A walk through a space's objects with a within. -/
import Derived.Test.YtomgfdfgildkbaaDoorTk3
namespace Go.Proofs.YtomgfdfgildkbaaDoor
open Go.RowKit Go.BigFrame

theorem Tk.take_ge (T : Tk) (x : Int) (h : Hd) : T.at_.length ≤ (T.take x h).at_.length := by unfold Tk.take; split <;> simp
theorem Tk.run_ge (T : Tk) (l : List (Int × Hd)) : T.at_.length ≤ (T.run l).at_.length := by
  induction l generalizing T with
  | nil => exact Nat.le_refl _
  | cons x l ih => exact Nat.le_trans (T.take_ge x.1 x.2) (ih (T.take x.1 x.2))
theorem Tk.run_ne {stop most : Int} {l : List (Int × Hd)} (h : l ≠ []) : ((Tk.new stop most).run l).at_ ≠ [] := by
  cases l with
  | nil => exact absurd rfl h
  | cons x l =>
    have h1 := ((Tk.new stop most).take x.1 x.2).run_ge l
    have h2 : ((Tk.new stop most).take x.1 x.2).at_.length = 1 := by simp [Tk.take, Tk.new]
    intro e
    have h3 : (((Tk.new stop most).take x.1 x.2).run l).at_.length = 0 := by
      show ((Tk.new stop most).run (x :: l)).at_.length = 0
      rw [e]; rfl
    omega
/-- What a walk with a within leaves. -/
structure WiWalked (w w' : World) (b B : Nat) (T M : Tk) : Prop where
  t : ∃ u1 u2 z1 z2, TkAt w' b 1 184 B T u1 u2 ∧ TkAt w' b 7 184 B M z1 z2
  only : Only [b] w w'
set_option maxRecDepth 100000 in
set_option maxHeartbeats 4000000 in
theorem obj1_within (a wb bs ba : Nat) (A : Ar) (s : Int) (S : List Nat) (m1 : a ∈ S) (m2 : wb ∈ S) (m3 : bs ∈ S) (m4 : ba ∈ S) (m5 : 1 ∈ S) (m6 : 0 ∈ S) (ok : A.Ok) (w : World) (tb : Tab w) (hA : ArAt w a wb A)
    (hbs : w.cell? ⟨bs, 0, none⟩ = some (.int .i64 s)) (hba : w.cell? ⟨ba, 0, none⟩ = some (.pointer (some ⟨a, 0, none⟩))) (hS : ∀ k ∈ S, k < w.heap.size)
    (b B : Nat) (stop most : Int) (Z : Tk) (hT : TkAt w b 1 184 B (Tk.new stop most) (.slice none 0 0) (.slice none 0 0)) (hM : TkAt w b 7 184 B Z (.slice none 0 0) (.slice none 0 0))
    (hit : w.cell? ⟨b, 0, none⟩ = some (.func (.func 152) #[] #[.pointer (some ⟨ba, 0, none⟩), .pointer (some ⟨bs, 0, none⟩)])) (hd0 : b ∉ S) :
    Calls Tryd.prog 152 #[.func (.func 137) #[.pointer (some ⟨b, 0, none⟩)] #[], .pointer (some ⟨ba, 0, none⟩), .pointer (some ⟨bs, 0, none⟩)] w fun e w' => e = .returned (.tuple #[]) ∧ WiWalked w w' b B ((Tk.new stop most).over (A.objs s)) (if A.objs s = [] then Z else (Tk.new stop most).over (A.objs s)) := by
  have ez : fpOf b (.slice none 0 0) (.slice none 0 0) = [b] := rfl
  have C := obj1_calls a wb bs ba A s S m1 m2 m3 m4 m5 m6 ok w tb hA hbs hba hS 137 #[.pointer (some ⟨b, 0, none⟩)] #[] (enters_of Tryd.func137 (by kernel_rfl) rfl)
    (fun pre fp W => (∀ p, p <+: pre → p ≠ [] → ((Tk.new stop most).run p).done = false) ∧ (∃ u1 u2 z1 z2, fp = fpOf b u1 u2 ++ fpOf b z1 z2 ∧ TkAt W b 1 184 B ((Tk.new stop most).run pre) u1 u2 ∧ TkAt W b 7 184 B (if pre = [] then Z else (Tk.new stop most).over (A.objs s)) z1 z2 ∧
      (∀ k ∈ fpOf b u1 u2 ++ fpOf b z1 z2, k = b ∨ w.heap.size ≤ k) ∧ (∀ k ∈ fpOf b z1 z2, k ∈ fpOf b u1 u2 → k = b) ∧ (pre = [] → u1 = .slice none 0 0 ∧ u2 = .slice none 0 0)) ∧ W.cell? ⟨b, 0, none⟩ = w.cell? ⟨b, 0, none⟩ ∧ Only [b] w W)
    (fun pre W => ∃ q x, pre = q ++ [x] ∧ (∀ p, p <+: q → p ≠ [] → ((Tk.new stop most).run p).done = false) ∧ ((Tk.new stop most).run pre).done = true ∧ WiWalked w W b B ((Tk.new stop most).run pre) ((Tk.new stop most).over (A.objs s)))
    ?_ ?_ ?_ [b, b] (fun k hk hm => by simp at hm; subst hm; exact hd0 hk) ?_ ?_
  · refine C.mono fun e w' ⟨h1, h2⟩ => ⟨h1, ?_⟩
    rcases h2 with ⟨fp, h3, ⟨u1, u2, z1, z2, _, h4, h5, _⟩, _, h7⟩ | ⟨pre, hp, q, x, rfl, h3, h4, ⟨u1, u2, z1, z2, h5, h6⟩, h7⟩
    · have ho : (Tk.new stop most).over (A.objs s) = (Tk.new stop most).run (A.objs s) := by
        have := Tk.over_open (m := []) h3
        rw [List.append_nil] at this
        exact this
      refine ⟨⟨u1, u2, z1, z2, ?_, h5⟩, h7⟩
      rw [ho]; exact h4
    · obtain ⟨m, hm⟩ := hp
      have ho : (Tk.new stop most).over (A.objs s) = (Tk.new stop most).run (q ++ [x]) := by
        rw [← hm, List.append_assoc]
        exact Tk.over_stop h3 h4
      have hne : A.objs s ≠ [] := by rw [← hm]; simp
      rw [if_neg hne]
      exact ⟨⟨u1, u2, z1, z2, by rw [ho]; exact h5, h6⟩, h7⟩
  · intro st X Y row hs hg hr
    obtain ⟨h1, ⟨u1, u2, z1, z2, h2, h3, h4, h5, h6, h7⟩, h8, h9⟩ := hs
    obtain ⟨cs, hb⟩ := h3.hb
    have eb := cells_turn hb hg hr
    exact ⟨h1, ⟨u1, u2, z1, z2, h2, h3.turn hg hr, h4.turn hg hr, h5, h6, h7⟩, (World.cell?_of_block (a := ⟨b, 0, none⟩) eb).trans h8, only_own (Nat.le_refl _) () X Y row h9 hg hr⟩
  · intro pre X Y row hs hg hr
    obtain ⟨q, x, h0, h1, h2, ⟨u1, u2, z1, z2, h3, h4⟩, h6⟩ := hs
    exact ⟨q, x, h0, h1, h2, ⟨u1, u2, z1, z2, h3.turn hg hr, h4.turn hg hr⟩, only_own (Nat.le_refl _) () X Y row h6 hg hr⟩
  · rintro pre fp W ⟨_, ⟨u1, u2, z1, z2, rfl, h3, h4, _⟩, _⟩ k hk
    rcases List.mem_append.1 hk with q | q
    · exact (h3.lt k q).1
    · exact (h4.lt k q).1
  · rintro pre fp x W ⟨h1, ⟨u1, u2, z1, z2, rfl, h3, h4, h5, h6, h7⟩, h8, h9⟩ hpre hk
    have hlen : pre.length < (A.objs s).length := by
      obtain ⟨m, hm⟩ := hpre
      rw [← hm]; simp
    have h262 := A.objs_len ok s
    have hle := Tk.run_le (Tk.new stop most) pre
    have hl0 : (Tk.new stop most).at_.length = 0 := rfl
    have hw := h9.size
    have bB := h3.bB
    have lb := (h3.lt b (mem_fp.2 (.inl rfl))).1
    have ht : ∀ k ∈ fpOf b u1 u2 ++ fpOf b z1 z2, ∃ cs ty, W.heap[k]? = some (Obj.cells cs ty (0, 0)) ∧ ty ≠ 193 := fun k hk => by
      rcases List.mem_append.1 hk with q | q
      · exact h3.types (by decide) k q
      · exact h4.types (by decide) k q
    have ea : (#[Value.pointer (some ⟨b, 0, none⟩)] ++ (#[Value.int .i64 x.1, x.2.val] ++ #[]) : Array Value) = #[.pointer (some ⟨b, 0, none⟩), .int .i64 x.1, x.2.val] := rfl
    rw [ea]
    by_cases hp : pre = []
    · subst hp
      obtain ⟨rfl, rfl⟩ := h7 rfl
      have h4' : TkAt W b 7 184 B Z z1 z2 := h4
      have K := within_first a wb bs ba A s S m1 m2 m3 m4 m5 m6 ok W (tb.kept hk m5 m6) (hA.kept hk m1 m2) (hk.cell m3 hbs) (hk.cell m4 hba) (fun k hk' => by have := hS k hk'; omega) b B stop most Z z1 z2 h3 h4' (h8.trans hit) hd0 x.1 x.2
      refine K.mono fun e W' ⟨he, p1, p2, q1, q2, g1, g2, g3, g4, g5, g6, g7⟩ => ⟨?_, Frame.of_only (g7.mono (fun k hk => by simp at hk; subst hk; exact List.mem_append_left _ (mem_fp.2 (.inl rfl)))) ht⟩
      have hO := h9.trans g7
      have h3' : ∀ p, p <+: ([] : List (Int × Hd)) → p ≠ [] → ((Tk.new stop most).run p).done = false := h1
      cases hd : ((Tk.new stop most).take x.1 x.2).done with
      | false =>
        left
        refine ⟨by rw [he, hd]; rfl, _, ⟨fun p hp hn => ?_, ⟨p1, p2, q1, q2, rfl, g1, by simpa using g2, fun k hk => ?_, g5, fun e => by simp at e⟩, g6.trans h8, hO⟩, fun k hk => ?_⟩
        · rcases List.prefix_concat_iff.1 hp with q | q
          · rw [q]; exact hd
          · exact h3' p q hn
        · rcases List.mem_append.1 hk with q | q
          · rcases g3 k q with r | r
            · exact .inl r
            · right; omega
          · rcases g4 k q with r | r
            · exact .inl r
            · right; omega
        · rcases List.mem_append.1 hk with q | q
          · rcases g3 k q with r | r
            · left; subst r; exact List.mem_append_left _ (mem_fp.2 (.inl rfl))
            · exact .inr r
          · rcases g4 k q with r | r
            · left; subst r; exact List.mem_append_left _ (mem_fp.2 (.inl rfl))
            · exact .inr r
      | true =>
        right
        exact ⟨by rw [he, hd]; rfl, [], x, rfl, h3', hd, ⟨p1, p2, q1, q2, g1, g2⟩, hO⟩
    · have h3n := Tk.run_ne (stop := stop) (most := most) hp
      have K := within_on b B ((Tk.new stop most).run pre) u1 u2 x.1 x.2 W h3 (by omega) (by omega) (Tk.run_len rfl pre) h3n
      have h4' : TkAt W b 7 184 B ((Tk.new stop most).over (A.objs s)) z1 z2 := by rw [if_neg hp] at h4; exact h4
      clear h4
      refine K.mono fun e W' ⟨he, p1, p2, g1, g2, g3, g4⟩ => ⟨?_, Frame.of_only (g4.mono (fun k hk => List.mem_append_left _ hk)) ht⟩
      have hO : Only [b] w W' := ⟨g4.os.trans h9.os, g4.tape.trans h9.tape, g4.output.trans h9.output, Nat.le_trans h9.size g4.size, fun k hk hn => (g4.block k (by omega) (fun hm => by
        rcases h5 k (List.mem_append_left _ hm) with q | q
        · exact hn (by simp [q])
        · omega)).trans (h9.block k hk hn)⟩
      have hz := h4'.beside g1.hb (fun j q1 q2 => g3 j (.inr q1)) (fun k hk => g4.block k (by
          rcases hk with hk | hk
          · exact (h4'.lt k (mem_fp.2 (.inr (.inl hk)))).1
          · exact (h4'.lt k (mem_fp.2 (.inr (.inr hk)))).1) (fun hm => by
          have hkb := h6 k (by rcases hk with hk | hk <;> simp [mem_fp, hk]) hm
          subst hkb
          rcases hk with hk | hk
          · exact h4'.n1 hk
          · exact h4'.n2 hk))
      rw [← Tk.run_snoc] at he g1
      cases hd : ((Tk.new stop most).run (pre ++ [x])).done with
      | false =>
        left
        refine ⟨by rw [he, hd]; rfl, _, ⟨fun p hp' hn => ?_, ⟨p1, p2, z1, z2, rfl, g1, by simpa using hz, fun k hk => ?_, fun k hk hu => ?_, fun e => by simp at e⟩, (g3 0 (.inl (by decide))).trans h8, hO⟩, fun k hk => ?_⟩
        · rcases List.prefix_concat_iff.1 hp' with q | q
          · rw [q]; exact hd
          · exact h1 p q hn
        · rcases List.mem_append.1 hk with q | q
          · rcases g2 k q with r | r
            · exact h5 k (List.mem_append_left _ r)
            · right; omega
          · exact h5 k (List.mem_append_right _ q)
        · rcases g2 k hu with r | r
          · exact h6 k hk r
          · have := (h4'.lt k hk).1; omega
        · rcases List.mem_append.1 hk with q | q
          · rcases g2 k q with r | r
            · exact .inl (List.mem_append_left _ r)
            · exact .inr r
          · exact .inl (List.mem_append_right _ q)
      | true =>
        right
        exact ⟨by rw [he, hd]; rfl, pre, x, rfl, h1, rfl, ⟨p1, p2, z1, z2, g1, hz⟩, hO⟩
  · exact ⟨fun p hp hn => absurd (List.prefix_nil.1 hp) hn, ⟨_, _, _, _, rfl, hT, hM, fun k hk => by simp [ez] at hk; exact .inl hk, fun k hk _ => by simpa [ez] using hk, fun _ => ⟨rfl, rfl⟩⟩, rfl, .refl _ _⟩
end Go.Proofs.YtomgfdfgildkbaaDoor
