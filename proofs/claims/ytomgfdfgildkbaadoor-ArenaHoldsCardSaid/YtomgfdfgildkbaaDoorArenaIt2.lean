/- A range over one of this program's iterators: an iterator that gives a known list, and the loop over it (no bound on the depth). -/
import Derived.Test.YtomgfdfgildkbaaDoorArenaIt1
import Derived.RangeFuncLeaves
import Derived.RangeFuncCalls
import Derived.Shelf.Abstract
import Derived.WalkKit
import Derived.OwnWalkIn
import Derived.TacticsInMore
import Derived.LoopNIn
import Derived.LoopIn
namespace Go.Proofs.YtomgfdfgildkbaaDoor
open Go.RowKit

/-- The closure gf with the captured lb gives just the list xs, one by one; it may be stopped; between two rounds some blocks stay. -/
def Gives {α : Type} (gf : FuncId) (lb : Array Value) (encs : α → Array Value) (S : List Nat) (xs : List α) (w : World) : Prop :=
  ∀ (n l : Nat) (J Jx : List α → World → Prop) (W : World), Below w.heap.size w W → OwnFrom W.heap.size J → OwnFrom W.heap.size Jx →
    (∀ (m : Nat) (pre : List α) (x : α) (W1 : World), J pre W1 → pre ++ [x] <+: xs → YieldAt Fence.wide m Tryd.prog l (encs x) W1 fun e W' =>
      (e = .returned (.bool true) ∧ J (pre ++ [x]) W' ∧ KeptT S W1 W') ∨ (e = .returned (.bool false) ∧ Jx (pre ++ [x]) W')) →
    J [] W →
    CallsIn Fence.wide n Tryd.prog gf (#[.func (.yield l) #[] #[]] ++ lb) W fun e W' => (∃ v, e = .returned v) ∧ (J xs W' ∨ ∃ pre, pre <+: xs ∧ Jx pre W')
theorem keeps_loop {A B : World} {row : Option Nat} {B0 l : Nat} {o : Obj} (hg : A.grownBy B row) (hr : ∀ r, row = some r → B0 ≤ r ∧ ∃ o : Obj, A.heap[r]? = some o ∧ o.isCells = false) (hl : A.heap[l]? = some o) (h : l < B0) : B.heap[l]? = some o :=
  (hg.block l (lt_of_heap hl) (fun e => by have := (hr l e.symm).1; omega)).trans hl
/-- How a round may be left. -/
def roundEnd {α : Type} (B : Nat) (S : List Nat) (I : List α → World → Prop) (Ix : Code → List α → World → Prop) (xs : List α) (W : World) : Exit → Act → World → Prop
  | .normal, _, W' => KeepsFrom B W W' ∧ KeptT S W W' ∧ I xs W'
  | .ret, _, W' => KeepsFrom B W W' ∧ Ix .ret xs W'
  | .exit id, _, W' => KeepsFrom B W W' ∧ Ix (.exit id) xs W'
  | .goto t, _, W' => KeepsFrom B W W' ∧ Ix (.goto t) xs W'
  | .panic _, _, _ => False
  | .outgrown, _, _ => False
theorem range_gives {α : Type} {n : Nat} {g : Operand} {ps : Array Tmp} {assign body : Code} {Q : Exit → Act → World → Prop} {a : Act} {w : World} {gf : FuncId} {lb : Array Value} {encs : α → Array Value} {S : List Nat} {xs : List α}
    (hg : a.eval g = .func (.func gf) #[] lb) (eg : ∀ args w, (callFunc gf args).run Tryd.prog w = .ok (.enter gf args) w) (hseq : Gives gf lb encs S xs w) (hS : ∀ k ∈ S, k < w.heap.size) (hps : ∀ x, (encs x).size = ps.size)
    (I : List α → World → Prop) (Ix : Code → List α → World → Prop) (hI : OwnFrom w.heap.size I) (hIx : ∀ c, OwnFrom w.heap.size (Ix c)) (h0 : I [] w) (Ax : α → Act → World → Prop) (hAx : ∀ x a', OwnFrom w.heap.size (fun (_ : Unit) W => Ax x a' W))
    (hassign : ∀ (m l : Nat) (pre : List α) (x : α) (W : World) (K : Act → World → Prop), I pre W → pre ++ [x] <+: xs → (∀ a' W', KeepsFrom w.heap.size W W' → KeptT S W W' → I pre W' → Ax x a' W' → K a' W') →
      assign.wpIn (Fence.wide.inRound l) m Tryd.prog (Exit.then K (fun _ _ _ => False)) { tmps := (ps.zip (encs x)).foldl (fun t (p, v) => t.setIfInBounds p v) a.tmps, defers := [] } W)
    (hbody : ∀ (m l : Nat) (pre : List α) (x : α) (a' : Act) (W : World), w.heap.size ≤ l → (∃ r, W.heap[l]? = some (.loop r)) → I pre W → Ax x a' W → pre ++ [x] <+: xs → body.wpIn (Fence.wide.inRound l) m Tryd.prog (roundEnd w.heap.size S I Ix (pre ++ [x]) W) a' W)
    (hdone : ∀ (D : Nat) (W : World), w.heap.size ≤ D → I xs W → W.heap[D]? = some (.deferred (some [])) → Q .normal { a with defers := { target := .collected D, args := #[] } :: a.defers } W)
    (hstop : ∀ (D : Nat) (c : Code) (pre : List α) (W : World), w.heap.size ≤ D → pre <+: xs → Ix c pre W → W.heap[D]? = some (.deferred (some [])) → c.wpIn Fence.wide n Tryd.prog Q { a with defers := { target := .collected D, args := #[] } :: a.defers } W) :
    (Code.rangeFunc g ps assign body).wpIn Fence.wide n Tryd.prog Q a w := by
  refine wpIn_rangeFunc fun fn hfn => ?_
  obtain ⟨D, hD⟩ : ∃ D, w.heap.size = D := ⟨_, rfl⟩
  obtain ⟨rc, hrc⟩ : ∃ rc : LoopState → Option Code → Loop, rc = fun st pe => { state := st, pending := pe, fn, tmps := a.tmps, params := ps, assign, body, defers := D } := ⟨_, rfl⟩
  have hL1 : ((w.alloc (.deferred (some []))).alloc (.loop (rc .ready none))).heap[D + 1]? = some (.loop (rc .ready none)) := by
    rw [← hD]; exact (heap_two w _ _).2
  have hK1 : ((w.alloc (.deferred (some []))).alloc (.loop (rc .ready none))).heap[D]? = some (.deferred (some [])) := by
    rw [← hD]; exact (heap_two w _ _).1
  have hb1 : Below w.heap.size w ((w.alloc (.deferred (some []))).alloc (.loop (rc .ready none))) := ((Below.refl _ w).alloc (Nat.le_refl _) _).alloc (by simp) _
  have hI1 : I [] ((w.alloc (.deferred (some []))).alloc (.loop (rc .ready none))) := hI.alloc _ (hI.alloc _ h0)
  have hz : ((w.alloc (.deferred (some []))).alloc (.loop (rc .ready none))).heap.size = D + 2 := by simp [← hD]
  have hent : (Instr.enterLoop fn a.tmps ps assign body none).run Tryd.prog w = .ok (D + 1, [{ target := .collected D, args := #[] }]) ((w.alloc (.deferred (some []))).alloc (.loop (rc .ready none))) := by
    rw [hrc, ← hD]; exact run_enterLoop_outer _ _ _ _ _
  generalize (w.alloc (.deferred (some []))).alloc (.loop (rc .ready none)) = W1 at *
  refine ⟨D + 1, [{ target := .collected D, args := #[] }], W1, { target := .fn (.func gf) lb, args := #[.func (.yield (D + 1)) #[] #[]] }, W1, gf, #[.func (.yield (D + 1)) #[] #[]] ++ lb, W1, hent, ?_, ?_, ?_, (fun h => by cases h), ?_⟩
  · simp only [resolve, hg]
    simp [go_sem]
  · intro _ _; trivial
  · simp [invoke, go_sem, eg]
  have kl : ∀ {A B : World} {row : Option Nat} {o : Obj} {l : Nat}, A.grownBy B row → (∀ r, row = some r → W1.heap.size ≤ r ∧ ∃ o : Obj, A.heap[r]? = some o ∧ o.isCells = false) → A.heap[l]? = some o → l < D + 2 → B.heap[l]? = some o :=
    fun hg' hr hl hlt => keeps_loop hg' hr hl (by omega)
  have dn : ∀ {A : World} {row : Option Nat}, (∀ r, row = some r → W1.heap.size ≤ r ∧ ∃ o : Obj, A.heap[r]? = some o ∧ o.isCells = false) → (∀ r, row = some r → w.heap.size ≤ r ∧ ∃ o : Obj, A.heap[r]? = some o ∧ o.isCells = false) :=
    fun hr r e => ⟨by have := (hr r e).1; omega, (hr r e).2⟩
  refine (hseq (n - 1) (D + 1) (fun pre W => I pre W ∧ W.heap[D + 1]? = some (.loop (rc .ready none)) ∧ W.heap[D]? = some (.deferred (some [])))
      (fun pre W => ∃ c, Ix c pre W ∧ W.heap[D + 1]? = some (.loop (rc .done (some c))) ∧ W.heap[D]? = some (.deferred (some []))) W1 hb1
      (fun s A B row hs hg' hr => ⟨hI s A B row hs.1 hg' (dn hr), kl hg' hr hs.2.1 (by omega), kl hg' hr hs.2.2 (by omega)⟩)
      (fun s A B row hs hg' hr => by obtain ⟨c, hc, hl, hk⟩ := hs; exact ⟨c, hIx c s A B row hc hg' (dn hr), kl hg' hr hl (by omega), kl hg' hr hk (by omega)⟩)
      ?_ ⟨hI1, hL1, hK1⟩).mono ?_
  · rintro m pre x W ⟨hi, hl, hk⟩ hpre
    have hy := run_yield (P := Tryd.prog) (args := encs x) hl (by rw [hrc]; exact hps x)
    have hfr : ∀ st pe, (rc st pe).fn = fn ∧ (rc st pe).tmps = a.tmps ∧ (rc st pe).params = ps ∧ (rc st pe).assign = assign ∧ (rc st pe).body = body := fun _ _ => by rw [hrc]; exact ⟨rfl, rfl, rfl, rfl, rfl⟩
    rw [(hfr _ _).1, (hfr _ _).2.1, (hfr _ _).2.2.1, (hfr _ _).2.2.2.1, (hfr _ _).2.2.2.2] at hy
    refine ⟨fn, _, assign, body, hy, roundIn_of_wpIn hfn (hassign _ _ pre x W _ hi hpre ?_)⟩
    intro a' Wa kf kt hia hax
    have hla := kf.same _ _ (by omega) hl rfl
    have hka := kf.same _ _ (by omega) hk rfl
    have hlt := lt_of_heap hla
    have hst : ∀ st pe st', ({ rc st pe with state := st' } : Loop) = rc st' pe := fun _ _ _ => by rw [hrc]
    have hbr := run_beginRound (P := Tryd.prog) hla (by rw [hrc])
    rw [hst] at hbr
    refine ⟨_, hbr, ?_⟩
    have hl2 : (Wa.putObj (D + 1) (.loop (rc .busy none))).heap[D + 1]? = some (.loop (rc .busy none)) := World.putObj_heap_same hlt
    have hk2 : (Wa.putObj (D + 1) (.loop (rc .busy none))).heap[D]? = some (.deferred (some [])) := (World.putObj_heap_other (by omega)).trans hka
    have kt2 : KeptT S W (Wa.putObj (D + 1) (.loop (rc .busy none))) := kt.trans (.putObj _ _ _ _ (fun k hk => by have := hS k hk; omega) hla rfl)
    refine wpIn_mono (hbody _ _ pre x a' _ (by omega) ⟨_, hl2⟩ (hI.putObj _ hia (by omega) hla rfl) ((hAx x a').putObj (s := ()) _ hax (by omega) hla rfl) hpre) ?_
    generalize Wa.putObj (D + 1) (.loop (rc .busy none)) = W2 at *
    have fin : ∀ (jump : Option Code) (W3 : World), KeepsFrom w.heap.size W2 W3 →
        (Instr.endRound (D + 1) jump).run Tryd.prog W3 = .ok (.bool jump.isNone) (W3.putObj (D + 1) (.loop (rc (if jump.isNone then .ready else .done) jump))) ∧ W3.heap[D + 1]? = some (.loop (rc .busy none)) ∧
        (W3.putObj (D + 1) (.loop (rc (if jump.isNone then .ready else .done) jump))).heap[D + 1]? = some (.loop (rc (if jump.isNone then .ready else .done) jump)) ∧
        (W3.putObj (D + 1) (.loop (rc (if jump.isNone then .ready else .done) jump))).heap[D]? = some (.deferred (some [])) := fun jump W3 k3 => by
      have hl3 := k3.same _ _ (by omega) hl2 rfl
      have he := run_endRound (P := Tryd.prog) jump hl3
      have hjp : ({ rc .busy none with state := if jump.isNone then .ready else .done, pending := jump } : Loop) = rc (if jump.isNone then .ready else .done) jump := by rw [hrc]
      first | rw [hjp] at he | skip
      exact ⟨by first | exact he | (rw [hrc] at he ⊢; exact he), hl3, World.putObj_heap_same (lt_of_heap hl3), (World.putObj_heap_other (by omega)).trans (k3.same _ _ (by omega) hk2 rfl)⟩
    rintro e a3 W3 hp
    cases e with
    | normal =>
      obtain ⟨k3, t3, i3⟩ := hp
      obtain ⟨hr, hl3, hl4, hk4⟩ := fin none W3 k3
      exact ⟨_, _, hr, .inl ⟨rfl, ⟨hI.putObj _ i3 (by omega) hl3 rfl, hl4, hk4⟩, (kt2.trans t3).trans (.putObj _ _ _ _ (fun k hk => by have := hS k hk; omega) hl3 rfl)⟩⟩
    | ret =>
      obtain ⟨k3, i3⟩ := hp
      obtain ⟨hr, hl3, hl4, hk4⟩ := fin (some .ret) W3 k3
      exact ⟨_, _, hr, .inr ⟨rfl, .ret, (hIx _).putObj _ i3 (by omega) hl3 rfl, hl4, hk4⟩⟩
    | exit id =>
      obtain ⟨k3, i3⟩ := hp
      obtain ⟨hr, hl3, hl4, hk4⟩ := fin (some (.exit id)) W3 k3
      exact ⟨_, _, hr, .inr ⟨rfl, .exit id, (hIx _).putObj _ i3 (by omega) hl3 rfl, hl4, hk4⟩⟩
    | goto t =>
      obtain ⟨k3, i3⟩ := hp
      obtain ⟨hr, hl3, hl4, hk4⟩ := fin (some (.goto t)) W3 k3
      exact ⟨_, _, hr, .inr ⟨rfl, .goto t, (hIx _).putObj _ i3 (by omega) hl3 rfl, hl4, hk4⟩⟩
    | panic ch => exact hp.elim
    | outgrown => exact hp.elim
  · rintro e W2 ⟨⟨v, rfl⟩, (⟨hi, hl, hk⟩ | ⟨pre, hpre, c, hi, hl, hk⟩)⟩
    · have he := run_endLoop (P := Tryd.prog) hl (by rw [hrc]; simp)
      rw [show (rc .ready none).pending = none by rw [hrc]] at he
      refine ⟨none, _, he, hdone D _ (by omega) (hI.putObj _ hi (by omega) hl rfl) ((World.putObj_heap_other (by omega)).trans hk)⟩
    · have he := run_endLoop (P := Tryd.prog) hl (by rw [hrc]; simp)
      rw [show (rc .done (some c)).pending = some c by rw [hrc]] at he
      refine ⟨some c, _, he, hstop D c pre _ (by omega) hpre ((hIx c).putObj _ hi (by omega) hl rfl) ((World.putObj_heap_other (by omega)).trans hk)⟩
end Go.Proofs.YtomgfdfgildkbaaDoor
