/- The iterator arena.Objects$1 called with a function value (a method value, a closure): it gives that function just the space's objects, one by one. -/
import Derived.Test.YtomgfdfgildkbaaDoorArenaIt3
namespace Go.Proofs.YtomgfdfgildkbaaDoor
open Go.RowKit Go.BigFrame
attribute [local go_sem] Oper.semAt_some

/-- What a call that may write the blocks fp alone leaves as it was. -/
structure Frame (fp : List Nat) (w w' : World) : Prop where
  size : w.heap.size ≤ w'.heap.size
  blk : ∀ k, k < w.heap.size → k ∉ fp → w'.heap[k]? = w.heap[k]?
  thg : ∀ (k : Nat) (cs : Array Value) (fr : Nat × Nat), w.heap[k]? = some (Obj.cells cs 193 fr) → w'.heap[k]? = w.heap[k]?
  oth : KeepsOthers w w'
theorem Frame.kept {fp S : List Nat} {w w' : World} (h : Frame fp w w') (hd : ∀ k ∈ S, k ∉ fp) : KeptT S w w' := ⟨h.size, fun k hk hl => h.blk k hl (hd k hk), h.thg⟩
theorem objsOf_snoc (pre : List Th) (x : Th) : objsOf (pre ++ [x]) = if x.obj then objsOf pre ++ [(x.at_, x.hd)] else objsOf pre := by
  unfold objsOf
  rw [List.filter_append]
  cases hx : x.obj <;> simp [hx]
theorem objsOf_prefix {l m : List Th} (h : l <+: m) : objsOf l <+: objsOf m := by
  obtain ⟨t, rfl⟩ := h
  unfold objsOf
  rw [List.filter_append, List.map_append]
  exact ⟨_, rfl⟩
theorem Ar.objs_all (A : Ar) (s : Int) : A.objs s = objsOf (A.all s) := by
  unfold Ar.objs Ar.all
  split <;> rfl
theorem keptT_own {β : Type} {S : List Nat} {w : World} {B : Nat} (hS : w.heap.size ≤ B) (hS2 : ∀ k ∈ S, k < B) : OwnFrom B (fun (_ : β) W => KeptT S w W) := fun _ X Y row hs hg hr => by
  have e : ∀ k, k < X.heap.size → k < B → Y.heap[k]? = X.heap[k]? := fun k hk hb => hg.block k hk (fun e => by have := (hr k e.symm).1; omega)
  refine ⟨Nat.le_trans hs.size hg.size, fun k hk hl => ?_, fun k cs fr hk => ?_⟩
  · rw [e k (by have := hs.size; omega) (hS2 k hk)]; exact hs.blk k hk hl
  · have hl := lt_of_heap hk
    rw [e k (by have := hs.size; omega) (by omega)]; exact hs.thg k cs fr hk
theorem walk_mk (b : Nat) (s : Int) (w : World) : Calls Tryd.prog 142 #[.pointer (some ⟨b, 0, none⟩), .int .i64 s] w fun e w' => e = .returned (.func (.func 163) #[] #[.pointer (some ⟨w.heap.size + 1, 0, none⟩), .pointer (some ⟨w.heap.size, 0, none⟩)]) ∧ w' = (w.alloc (.cells #[.pointer (some ⟨b, 0, none⟩)] 47)).alloc (.cells #[.int .i64 s] 3) := by
  go_enter Tryd.func142, Tryd.ntmps142
  go_wp2
  go_ret
  exact ⟨rfl, rfl⟩
theorem objects_mk (b : Nat) (s : Int) (w : World) : Calls Tryd.prog 115 #[.pointer (some ⟨b, 0, none⟩), .int .i64 s] w fun e w' => e = .returned (.func (.func 152) #[] #[.pointer (some ⟨w.heap.size, 0, none⟩), .pointer (some ⟨w.heap.size + 1, 0, none⟩)]) ∧ w' = (w.alloc (.cells #[.pointer (some ⟨b, 0, none⟩)] 47)).alloc (.cells #[.int .i64 s] 3) := by
  go_enter Tryd.func115, Tryd.ntmps115
  go_wp2
  go_ret
  exact ⟨rfl, rfl⟩

set_option maxRecDepth 100000 in
set_option maxHeartbeats 4000000 in
theorem obj1_calls (b wb bs ba : Nat) (A : Ar) (s : Int) (S : List Nat) (m1 : b ∈ S) (m2 : wb ∈ S) (m3 : bs ∈ S) (m4 : ba ∈ S) (m5 : 1 ∈ S) (m6 : 0 ∈ S) (ok : A.Ok) (w : World) (tb : Tab w) (hA : ArAt w b wb A)
    (hbs : w.cell? ⟨bs, 0, none⟩ = some (.int .i64 s)) (hba : w.cell? ⟨ba, 0, none⟩ = some (.pointer (some ⟨b, 0, none⟩))) (hS : ∀ k ∈ S, k < w.heap.size)
    (f : FuncId) (bd cp : Array Value) (eg : ∀ args w, (callFunc f args).run Tryd.prog w = .ok (.enter f args) w)
    (J : List (Int × Hd) → List Nat → World → Prop) (Jx : List (Int × Hd) → World → Prop) (hJ : OwnFrom w.heap.size (fun (st : List (Int × Hd) × List Nat) W => J st.1 st.2 W)) (hJx : OwnFrom w.heap.size Jx)
    (hfp : ∀ pre fp W, J pre fp W → ∀ k ∈ fp, k < W.heap.size) (fp0 : List Nat) (hd0 : ∀ k ∈ S, k ∉ fp0)
    (hY : ∀ pre fp x W, J pre fp W → pre ++ [x] <+: A.objs s → KeptT S w W → Calls Tryd.prog f (bd ++ (#[.int .i64 x.1, x.2.val] ++ cp)) W fun e W' =>
      ((e = .returned (.bool true) ∧ ∃ fp', J (pre ++ [x]) fp' W' ∧ ∀ k ∈ fp', k ∈ fp ∨ W.heap.size ≤ k) ∨ (e = .returned (.bool false) ∧ Jx (pre ++ [x]) W')) ∧ Frame fp W W')
    (h0 : J [] fp0 w) :
    Calls Tryd.prog 152 #[.func (.func f) bd cp, .pointer (some ⟨ba, 0, none⟩), .pointer (some ⟨bs, 0, none⟩)] w fun e W' => e = .returned (.tuple #[]) ∧ ((∃ fp, J (A.objs s) fp W') ∨ ∃ pre, pre <+: A.objs s ∧ Jx pre W') := by
  have WM := Lib.hid (fun w => walk_mk b s w)
  have lba := World.block_lt_of_cell? w ⟨ba, 0, none⟩ hba
  have lbs := World.block_lt_of_cell? w ⟨bs, 0, none⟩ hbs
  obtain ⟨n, hn⟩ : ∃ n : Nat, n = 7 := ⟨_, rfl⟩
  clear hn
  refine (callsIn_wide (n := n)).1 ?_
  refine callsIn_of_wp_marks Tryd.func152 rfl trivial ?_ rfl
  simp only [Tryd.ntmps152, List.size_toArray, List.length_cons, List.length_nil, Nat.reduceAdd, Nat.reduceSub, Array.replicate_succ, Array.replicate_zero, List.push_toArray, List.append_toArray, List.nil_append, List.cons_append]
  gi_wp2_with fail
  refine ⟨trivial, (fun h => by cases h), (callsIn_wide.2 (WM.out _)).mono ?_⟩
  rintro e w1 ⟨rfl, rfl⟩
  clear WM
  gi_wp2_with fail
  have b0 := heap_one w (.cells #[.func (.func f) bd cp] 145)
  have b1 := heap_two (w.alloc (.cells #[.func (.func f) bd cp] 145)) (.cells #[.pointer (some ⟨b, 0, none⟩)] 47) (.cells #[.int .i64 s] 3)
  have hz : (((w.alloc (.cells #[.func (.func f) bd cp] 145)).alloc (.cells #[.pointer (some ⟨b, 0, none⟩)] 47)).alloc (.cells #[.int .i64 s] 3)).heap.size = w.heap.size + 3 := by simp
  have hb : Below w.heap.size w (((w.alloc (.cells #[.func (.func f) bd cp] 145)).alloc (.cells #[.pointer (some ⟨b, 0, none⟩)] 47)).alloc (.cells #[.int .i64 s] 3)) := (((Below.refl _ w).alloc (Nat.le_refl _) _).alloc (by simp) _).alloc (by simp; omega) _
  have hq : ∀ k, k < w.heap.size + 1 → (((w.alloc (.cells #[.func (.func f) bd cp] 145)).alloc (.cells #[.pointer (some ⟨b, 0, none⟩)] 47)).alloc (.cells #[.int .i64 s] 3)).heap[k]? = (w.alloc (.cells #[.func (.func f) bd cp] 145)).heap[k]? := fun k hk => by
    rw [Below.heap_alloc _ _ _ (by simp; omega), Below.heap_alloc _ _ _ (by simp; omega)]
  replace b0 := (hq _ (by omega)).trans b0
  obtain ⟨b1, b2⟩ := b1
  simp only [World.size_alloc] at b1 b2
  clear hq
  generalize ((w.alloc (.cells #[.func (.func f) bd cp] 145)).alloc (.cells #[.pointer (some ⟨b, 0, none⟩)] 47)).alloc (.cells #[.int .i64 s] 3) = W0 at *
  have hJ0 : J [] fp0 W0 := hJ ([], fp0) _ _ none h0 (grown_of_below hb) (fun r e => by cases e)
  obtain ⟨c0, d0⟩ := hcell b0
  obtain ⟨c1, d1⟩ := hcell b1
  obtain ⟨c2, d2⟩ := hcell b2
  have hdisj : ∀ k ∈ S ++ [w.heap.size, w.heap.size + 1, w.heap.size + 1 + 1], k ∉ fp0 := fun k hk hf => by
    have := hfp _ _ _ h0 k hf
    rcases List.mem_append.1 hk with h | h
    · exact hd0 k h hf
    · simp at h; omega
  have hlt : ∀ k ∈ S ++ [w.heap.size, w.heap.size + 1, w.heap.size + 1 + 1], k < W0.heap.size := fun k hk => by
    rcases List.mem_append.1 hk with h | h
    · have := hS k h; omega
    · simp at h; omega
  have IN := fun k (h : k ∈ S) => (List.mem_append_left [w.heap.size, w.heap.size + 1, w.heap.size + 1 + 1] h)
  refine range_gives (gf := 163) (lb := #[.pointer (some ⟨w.heap.size + 1 + 1, 0, none⟩), .pointer (some ⟨w.heap.size + 1, 0, none⟩)]) (S := S ++ [w.heap.size, w.heap.size + 1, w.heap.size + 1 + 1]) (xs := A.all s) rfl (enters_of Tryd.func163 (by kernel_rfl) rfl)
    (walk1_gives b wb (w.heap.size + 1 + 1) (w.heap.size + 1) A s _ (IN _ m1) (IN _ m2) (by simp) (by simp) (IN _ m5) (IN _ m6) ok W0 (tb.below hb) (hA.below hb) (by rw [c2]; rfl) (by rw [c1]; rfl)) hlt (fun _ => rfl)
    (fun pre W => (∃ fp, J (objsOf pre) fp W ∧ ∀ k ∈ S ++ [w.heap.size, w.heap.size + 1, w.heap.size + 1 + 1], k ∉ fp) ∧ KeptT (S ++ [w.heap.size, w.heap.size + 1, w.heap.size + 1 + 1]) W0 W)
    (fun c pre W => c = .ret ∧ Jx (objsOf pre) W)
    (OwnFrom.and (fun pre X Y row hs hg hr => by obtain ⟨fp, h1, h2⟩ := hs; exact ⟨fp, hJ (objsOf pre, fp) X Y row h1 hg (fun r e => ⟨by have := (hr r e).1; omega, (hr r e).2⟩), h2⟩) (keptT_own (Nat.le_refl _) hlt))
    (fun c pre X Y row hs hg hr => ⟨hs.1, hJx _ X Y row hs.2 hg (fun r e => ⟨by have := (hr r e).1; omega, (hr r e).2⟩)⟩)
    ⟨⟨fp0, hJ0, hdisj⟩, .refl _ _⟩
    (fun x a' W => ∃ Bx, W0.heap.size ≤ Bx ∧ W.heap[Bx]? = some (.cells x.cells 193 (0, 0)) ∧ a' = { tmps := #[.func (.func f) bd cp, .pointer (some ⟨ba, 0, none⟩), .pointer (some ⟨bs, 0, none⟩), .pointer (some ⟨w.heap.size, 0, none⟩), .pointer (some ⟨Bx, 0, none⟩), .pointer (some ⟨b, 0, none⟩), .int .i64 s, .func (.func 163) #[] #[.pointer (some ⟨w.heap.size + 1 + 1, 0, none⟩), .pointer (some ⟨w.heap.size + 1, 0, none⟩)], x.val, undef, undef, undef, undef, undef, undef, undef, undef, undef, undef, undef], defers := [] })
    (fun x a' _ X Y row hs hg hr => by
      obtain ⟨Bx, h1, h2, h3⟩ := hs
      refine ⟨Bx, h1, (hg.block Bx (lt_of_heap h2) (fun e => ?_)).trans h2, h3⟩
      obtain ⟨o, ho, hc⟩ := (hr Bx e.symm).2
      rw [h2] at ho; cases ho; cases hc)
    ?assign ?body ?done ?stop
  case assign =>
    rintro m l pre ⟨xa, xw, ⟨x0, x1, x2, x3, x4, x5, x6⟩, xo⟩ W K ⟨⟨fp, hj, hdj⟩, hk⟩ hpre hK
    simp only [Th.val, Th.cells]
    gi_wp2
    have hb1 : ∀ X, Below W.heap.size W (W.alloc X) := fun X => (Below.refl _ W).alloc (Nat.le_refl _) X
    have hsz := hk.size
    refine hK _ _ ((KeepsOthers.alloc _ _).from _) (.below (hb1 _)) ⟨⟨fp, ?_, hdj⟩, hk.trans (.below (hb1 _))⟩ ⟨W.heap.size, hsz, heap_one W _, rfl⟩
    exact hJ (_, fp) _ _ none hj (grown_of_below (hb1 _)) (fun r e => by cases e)
  case body =>
    rintro m l pre x a' W hl ⟨r, hr⟩ ⟨⟨fp, hj, hdj⟩, hk⟩ ⟨Bx, hBx, hX, rfl⟩ hpre
    have hcy := hk.cell (b := w.heap.size) (o := 0) (by simp) (by rw [c0]; rfl)
    have hYx := hY (objsOf pre) fp (x.at_, x.hd) W hj
    have hsn := objsOf_snoc pre x
    have hpr := objsOf_prefix hpre
    rw [← A.objs_all, hsn] at hpr
    obtain ⟨xa, xw, ⟨x0, x1, x2, x3, x4, x5, x6⟩, xo⟩ := x
    unfold Th.cells at hX
    simp only at hX hsn hpr hYx
    obtain ⟨cX, dX⟩ := hcell hX
    cases xo with
    | false =>
      gi_wp2
      refine ⟨fun _ h => (by cases h), ?_⟩
      gi_wp2
      exact ⟨KeepsFrom.refl _ _, .refl _ _, ⟨fp, by rw [hsn]; exact hj, hdj⟩, hk⟩
    | true =>
      have hkw : KeptT S w W := ⟨by have := hk.size; omega, fun k h1 h2 => (hk.blk k (IN k h1) (by omega)).trans (hb.block k h2), fun k cs fr h1 => (hk.thg k cs fr ((hb.block k (lt_of_heap h1)).trans h1)).trans (hb.block k (lt_of_heap h1))⟩
      replace hYx := hYx (by simpa using hpr) hkw
      gi_wp2_with fail
      refine ⟨trivial, (fun h => by cases h), ((callsIn_wide.2 hYx).inRound l).mono ?_⟩
      rintro e W' ⟨(⟨rfl, fp', hj', hn'⟩ | ⟨rfl, hjx⟩), hf⟩
      · have hd' : ∀ k ∈ S ++ [w.heap.size, w.heap.size + 1, w.heap.size + 1 + 1], k ∉ fp' := fun k h1 h2 => by
          rcases hn' k h2 with h3 | h3
          · exact hdj k h1 h3
          · have := hlt k h1; have := hk.size; omega
        have hkt := hf.kept hdj
        gi_wp2_with fail
        exact ⟨hf.oth.from _, hkt, ⟨fp', by rw [hsn]; exact hj', hd'⟩, hk.trans hkt⟩
      · gi_wp2_with fail
        exact ⟨hf.oth.from _, rfl, by rw [hsn]; exact hjx⟩
  case done =>
    rintro D W hD ⟨⟨fp, hj, hdj⟩, hk⟩ hK
    gi_wp2
    refine ⟨by simp, .inl ⟨_, _, rfl, run_takeDeferred hK, ?_⟩⟩
    refine ⟨_, results_none rfl _ _ _, rfl, .inl ⟨fp, ?_⟩⟩
    rw [A.objs_all]
    exact hJ.putObj (s := (_, fp)) _ hj (by omega) hK rfl
  case stop =>
    rintro D c pre W hD hpre ⟨rfl, hjx⟩ hK
    gi_wp2
    refine ⟨by simp, .inl ⟨_, _, rfl, run_takeDeferred hK, ?_⟩⟩
    refine ⟨_, results_none rfl _ _ _, rfl, .inr ⟨objsOf pre, ?_, ?_⟩⟩
    · rw [A.objs_all]; exact objsOf_prefix hpre
    · exact hJx.putObj _ hjx (by omega) hK rfl
end Go.Proofs.YtomgfdfgildkbaaDoor
