/- Merged texts: ArenaIt1, ArenaIt2, ArenaIt3, ArenaIt4, Tk1, Tk2, Tk3, Tk4, Tk5, Tk5b, Tk6. -/
import Derived.Test.YtomgfdfgildkbaaDoorArenaW8
import Derived.RangeFuncNested
import Derived.RangeFuncLeaves
import Derived.RangeFuncCalls
import Derived.Shelf.Abstract
import Derived.WalkKit
import Derived.OwnWalkIn
import Derived.TacticsInMore
import Derived.LoopNIn
import Derived.LoopIn
import Derived.Sort.CutIn
import Derived.Sort.BigQuietIn
import Derived.Deep.AppendLies
import Derived.Deep.RegionHeld3
import Derived.StillTailTactics
import Derived.Deep.RegionLaw
import Derived.BigRegion
/- Plain words: what a walk through a space meets; what a round of a walk keeps. No condition. -/


namespace Go.Proofs.YtomgfdfgildkbaaDoor
open Go.RowKit

/-- What the walk meets: where, how many words (0: it fails there), whether it is an object. -/
structure Th where
  at_ : Int
  words : Int
  hd : Hd
  obj : Bool
def Th.cells (x : Th) : Array Value := #[.int .i64 x.at_, .int .i64 x.words, .int .u64 x.hd.ser, .int .i64 x.hd.kind, .int .i64 x.hd.ptrs, .int .i64 x.hd.raws, .int .i64 x.hd.age, .int .i64 x.hd.site, .bool x.hd.held, .bool x.obj]
def Th.val (x : Th) : Value := .agg x.cells
def Ar.fw (A : Ar) (s i : Int) : Int := if (numT 3 (A.word i)).2 = true ∧ (numT 3 (A.word i)).1 ≤ A.top s - i then (numT 3 (A.word i)).1 else 0
def Ar.th (A : Ar) (s i : Int) : Th := if A.isObj i then ⟨i, A.osz i, A.hd i, true⟩ else ⟨i, A.fw s i, nohd, false⟩
theorem Ar.fw_bd (A : Ar) (s i : Int) (h : i < A.top s) : 0 ≤ A.fw s i ∧ i + A.fw s i ≤ A.top s := by
  unfold Ar.fw
  split
  · rename_i q
    unfold numT at *
    split at q
    · rename_i r
      rw [if_pos r] at *
      simp only at *
      omega
    · simp at q
  · omega
theorem Ar.th_at (A : Ar) (s i : Int) : (A.th s i).at_ = i := by unfold Ar.th; split <;> rfl
def Ar.things (A : Ar) (s i : Int) : List Th :=
  if i < A.top s then (if 0 < (A.th s i).words then A.th s i :: A.things s (i + (A.th s i).words) else [A.th s i]) else []
termination_by (A.top s - i).toNat
decreasing_by omega
theorem Ar.things_end (A : Ar) {s i : Int} (h : ¬ i < A.top s) : A.things s i = [] := by rw [Ar.things]; simp [h]
theorem Ar.things_on (A : Ar) {s i : Int} (h : i < A.top s) (h2 : 0 < (A.th s i).words) : A.things s i = A.th s i :: A.things s (i + (A.th s i).words) := by rw [Ar.things]; simp [h, h2]
theorem Ar.things_bad (A : Ar) {s i : Int} (h : i < A.top s) (h2 : ¬ 0 < (A.th s i).words) : A.things s i = [A.th s i] := by rw [Ar.things]; simp [h, h2]
/-- The objects alone: where, with what header. -/
def objsOf (l : List Th) : List (Int × Hd) := (l.filter (·.obj)).map fun x => (x.at_, x.hd)
def Ar.objs (A : Ar) (s : Int) : List (Int × Hd) := if isSp s then objsOf (A.things s (A.first s)) else []
def Ar.all (A : Ar) (s : Int) : List Th := if isSp s then A.things s (A.first s) else []

/-- What a round of a walk keeps: some blocks; whatever thing lay. -/
structure KeptT (S : List Nat) (w w' : World) : Prop where
  size : w.heap.size ≤ w'.heap.size
  blk : ∀ k ∈ S, k < w.heap.size → w'.heap[k]? = w.heap[k]?
  thg : ∀ (k : Nat) (cs : Array Value) (fr : Nat × Nat), w.heap[k]? = some (Obj.cells cs 193 fr) → w'.heap[k]? = w.heap[k]?
theorem KeptT.refl (S : List Nat) (w : World) : KeptT S w w := ⟨Nat.le_refl _, fun _ _ _ => rfl, fun _ _ _ _ => rfl⟩
theorem KeptT.trans {S : List Nat} {a b c : World} (h : KeptT S a b) (k : KeptT S b c) : KeptT S a c :=
  ⟨Nat.le_trans h.size k.size, fun i hi hl => (k.blk i hi (Nat.lt_of_lt_of_le hl h.size)).trans (h.blk i hi hl), fun i cs fr hi => (k.thg i cs fr ((h.thg i cs fr hi).trans hi)).trans (h.thg i cs fr hi)⟩
theorem KeptT.of_heap {S : List Nat} {w w' : World} (hs : w.heap.size ≤ w'.heap.size) (h : ∀ k, k < w.heap.size → w'.heap[k]? = w.heap[k]?) : KeptT S w w' :=
  ⟨hs, fun k _ hl => h k hl, fun k _ _ hk => h k (lt_of_heap hk)⟩
theorem KeptT.below {S : List Nat} {w w' : World} (h : Below w.heap.size w w') : KeptT S w w' := .of_heap h.size h.block
theorem KeptT.putObj {S : List Nat} (W : World) (l : Nat) (o o' : Obj) (hS : ∀ k ∈ S, k < l) (h : W.heap[l]? = some o) (ho : o.isCells = false) : KeptT S W (W.putObj l o') := by
  have e : ∀ k, k ≠ l → (W.putObj l o').heap[k]? = W.heap[k]? := fun k hk => World.putObj_heap_other hk
  refine ⟨by simp [World.putObj], fun k hk _ => e k (by have := hS k hk; omega), fun k cs fr hk => e k ?_⟩
  rintro rfl
  rw [h] at hk
  cases hk
  cases ho
theorem ArAt.kept {w w' : World} {b wb : Nat} {A : Ar} {S : List Nat} (h : ArAt w b wb A) (k : KeptT S w w') (h1 : b ∈ S) (h2 : wb ∈ S) : ArAt w' b wb A :=
  ⟨(k.blk _ h1 (lt_of_heap h.st)).trans h.st, (k.blk _ h2 (lt_of_heap h.ws)).trans h.ws, h.ne⟩
theorem KeptT.cell {S : List Nat} {w w' : World} (k : KeptT S w w') {b o : Nat} {v : Value} (hb : b ∈ S) (h : w.cell? ⟨b, o, none⟩ = some v) : w'.cell? ⟨b, o, none⟩ = some v := by
  have hl : b < w.heap.size := World.block_lt_of_cell? w ⟨b, o, none⟩ h
  have e := k.blk b hb hl
  rw [← h]
  simp only [World.cell?, e]
theorem Tab.kept {w w' : World} {S : List Nat} (h : Tab w) (k : KeptT S w w') (h1 : 1 ∈ S) (h2 : 0 ∈ S) : Tab w' := by
  obtain ⟨n0, n1, n2, n3, n4, w0, w1, w2, w3, w4, w5, hs, ht⟩ := h
  have := k.size
  exact ⟨k.cell h1 n0, k.cell h1 n1, k.cell h1 n2, k.cell h1 n3, k.cell h1 n4, k.cell h2 w0, k.cell h2 w1, k.cell h2 w2, k.cell h2 w3, k.cell h2 w4, k.cell h2 w5, by omega, by omega⟩
end Go.Proofs.YtomgfdfgildkbaaDoor
/- A range over one of this program's iterators: an iterator that gives a known list, and the loop over it (no bound on the depth). -/









namespace Go.Proofs.YtomgfdfgildkbaaDoor
open Go.RowKit

/-- The closure gf with the captured lb gives just the list xs, one by one; it may be stopped; between two rounds some blocks stay. -/
def Gives {α : Type} (gf : FuncId) (lb : Array Value) (encs : α → Array Value) (S : List Nat) (xs : List α) (w : World) : Prop :=
  ∀ (n l : Nat) (J Jx : List α → World → Prop) (W : World), Below w.heap.size w W → OwnFrom W.heap.size J → OwnFrom W.heap.size Jx →
    (∀ (m : Nat) (pre : List α) (x : α) (W1 : World), J pre W1 → pre ++ [x] <+: xs → YieldAt Fence.wide m Tryd.prog l (encs x) W1 fun e W' =>
      (e = .returned (.bool true) ∧ J (pre ++ [x]) W' ∧ KeptT S W1 W') ∨ (e = .returned (.bool false) ∧ Jx (pre ++ [x]) W')) →
    J [] W →
    CallsIn Fence.wide n Tryd.prog gf (#[.func (.yield l) #[] #[]] ++ lb) W fun e W' => (∃ v, e = .returned v) ∧ (J xs W' ∨ ∃ pre, pre <+: xs ∧ Jx pre W')
theorem keeps_loop {A B : World} {row : Option Nat} {B0 l : Nat} {o : Obj} (hg : A.grownBy B row) (hr : ∀ r, row = some r → B0 ≤ r ∧ ∃ o : Obj, A.heap[r]? = some o ∧ o.isCells = false) (hl : A.heap[l]? = some o) (h : l < B0) : B.heap[l]? = some o :=
  (hg.block l (lt_of_heap hl) (fun e => by have := (hr l e.symm).1; omega)).trans hl
/-- How a round may be left. -/
def roundEnd {α : Type} (B : Nat) (S : List Nat) (I : List α → World → Prop) (Ix : Code → List α → World → Prop) (xs : List α) (W : World) : Exit → Act → World → Prop
  | .normal, _, W' => KeepsFrom B W W' ∧ KeptT S W W' ∧ I xs W'
  | .ret, _, W' => KeepsFrom B W W' ∧ Ix .ret xs W'
  | .exit id, _, W' => KeepsFrom B W W' ∧ Ix (.exit id) xs W'
  | .goto t, _, W' => KeepsFrom B W W' ∧ Ix (.goto t) xs W'
  | .panic _, _, _ => False
  | .outgrown, _, _ => False
theorem range_gives {α : Type} {n : Nat} {g : Operand} {ps : Array Tmp} {assign body : Code} {Q : Exit → Act → World → Prop} {a : Act} {w : World} {gf : FuncId} {lb : Array Value} {encs : α → Array Value} {S : List Nat} {xs : List α}
    (hg : a.eval g = .func (.func gf) #[] lb) (eg : ∀ args w, (callFunc gf args).run Tryd.prog w = .ok (.enter gf args) w) (hseq : Gives gf lb encs S xs w) (hS : ∀ k ∈ S, k < w.heap.size) (hps : ∀ x, (encs x).size = ps.size)
    (I : List α → World → Prop) (Ix : Code → List α → World → Prop) (hI : OwnFrom w.heap.size I) (hIx : ∀ c, OwnFrom w.heap.size (Ix c)) (h0 : I [] w) (Ax : α → Act → World → Prop) (hAx : ∀ x a', OwnFrom w.heap.size (fun (_ : Unit) W => Ax x a' W))
    (hassign : ∀ (m l : Nat) (pre : List α) (x : α) (W : World) (K : Act → World → Prop), I pre W → pre ++ [x] <+: xs → (∀ a' W', KeepsFrom w.heap.size W W' → KeptT S W W' → I pre W' → Ax x a' W' → K a' W') →
      assign.wpIn (Fence.wide.inRound l) m Tryd.prog (Exit.then K (fun _ _ _ => False)) { tmps := (ps.zip (encs x)).foldl (fun t (p, v) => t.setIfInBounds p v) a.tmps, defers := [] } W)
    (hbody : ∀ (m l : Nat) (pre : List α) (x : α) (a' : Act) (W : World), w.heap.size ≤ l → (∃ r, W.heap[l]? = some (.loop r)) → I pre W → Ax x a' W → pre ++ [x] <+: xs → body.wpIn (Fence.wide.inRound l) m Tryd.prog (roundEnd w.heap.size S I Ix (pre ++ [x]) W) a' W)
    (hdone : ∀ (D : Nat) (W : World), w.heap.size ≤ D → I xs W → W.heap[D]? = some (.deferred (some [])) → Q .normal { a with defers := { target := .collected D, args := #[] } :: a.defers } W)
    (hstop : ∀ (D : Nat) (c : Code) (pre : List α) (W : World), w.heap.size ≤ D → pre <+: xs → Ix c pre W → W.heap[D]? = some (.deferred (some [])) → c.wpIn Fence.wide n Tryd.prog Q { a with defers := { target := .collected D, args := #[] } :: a.defers } W) :
    (Code.rangeFunc g ps assign body).wpIn Fence.wide n Tryd.prog Q a w := by
  refine wpIn_rangeFunc fun fn hfn => ?_
  obtain ⟨D, hD⟩ : ∃ D, w.heap.size = D := ⟨_, rfl⟩
  obtain ⟨rc, hrc⟩ : ∃ rc : LoopState → Option Code → Loop, rc = fun st pe => { state := st, pending := pe, fn, tmps := a.tmps, params := ps, assign, body, defers := D } := ⟨_, rfl⟩
  have hL1 : ((w.alloc (.deferred (some []))).alloc (.loop (rc .ready none))).heap[D + 1]? = some (.loop (rc .ready none)) := by
    rw [← hD]; exact (heap_two w _ _).2
  have hK1 : ((w.alloc (.deferred (some []))).alloc (.loop (rc .ready none))).heap[D]? = some (.deferred (some [])) := by
    rw [← hD]; exact (heap_two w _ _).1
  have hb1 : Below w.heap.size w ((w.alloc (.deferred (some []))).alloc (.loop (rc .ready none))) := ((Below.refl _ w).alloc (Nat.le_refl _) _).alloc (by simp) _
  have hI1 : I [] ((w.alloc (.deferred (some []))).alloc (.loop (rc .ready none))) := hI.alloc _ (hI.alloc _ h0)
  have hz : ((w.alloc (.deferred (some []))).alloc (.loop (rc .ready none))).heap.size = D + 2 := by simp [← hD]
  have hent : (Instr.enterLoop fn a.tmps ps assign body none).run Tryd.prog w = .ok (D + 1, [{ target := .collected D, args := #[] }]) ((w.alloc (.deferred (some []))).alloc (.loop (rc .ready none))) := by
    rw [hrc, ← hD]; exact run_enterLoop_outer _ _ _ _ _
  generalize (w.alloc (.deferred (some []))).alloc (.loop (rc .ready none)) = W1 at *
  refine ⟨D + 1, [{ target := .collected D, args := #[] }], W1, { target := .fn (.func gf) lb, args := #[.func (.yield (D + 1)) #[] #[]] }, W1, gf, #[.func (.yield (D + 1)) #[] #[]] ++ lb, W1, hent, ?_, ?_, ?_, (fun h => by cases h), ?_⟩
  · simp only [resolve, hg]
    simp [go_sem]
  · intro _ _; trivial
  · simp [invoke, go_sem, eg]
  have kl : ∀ {A B : World} {row : Option Nat} {o : Obj} {l : Nat}, A.grownBy B row → (∀ r, row = some r → W1.heap.size ≤ r ∧ ∃ o : Obj, A.heap[r]? = some o ∧ o.isCells = false) → A.heap[l]? = some o → l < D + 2 → B.heap[l]? = some o :=
    fun hg' hr hl hlt => keeps_loop hg' hr hl (by omega)
  have dn : ∀ {A : World} {row : Option Nat}, (∀ r, row = some r → W1.heap.size ≤ r ∧ ∃ o : Obj, A.heap[r]? = some o ∧ o.isCells = false) → (∀ r, row = some r → w.heap.size ≤ r ∧ ∃ o : Obj, A.heap[r]? = some o ∧ o.isCells = false) :=
    fun hr r e => ⟨by have := (hr r e).1; omega, (hr r e).2⟩
  refine (hseq (n - 1) (D + 1) (fun pre W => I pre W ∧ W.heap[D + 1]? = some (.loop (rc .ready none)) ∧ W.heap[D]? = some (.deferred (some [])))
      (fun pre W => ∃ c, Ix c pre W ∧ W.heap[D + 1]? = some (.loop (rc .done (some c))) ∧ W.heap[D]? = some (.deferred (some []))) W1 hb1
      (fun s A B row hs hg' hr => ⟨hI s A B row hs.1 hg' (dn hr), kl hg' hr hs.2.1 (by omega), kl hg' hr hs.2.2 (by omega)⟩)
      (fun s A B row hs hg' hr => by obtain ⟨c, hc, hl, hk⟩ := hs; exact ⟨c, hIx c s A B row hc hg' (dn hr), kl hg' hr hl (by omega), kl hg' hr hk (by omega)⟩)
      ?_ ⟨hI1, hL1, hK1⟩).mono ?_
  · rintro m pre x W ⟨hi, hl, hk⟩ hpre
    have hy := run_yield (P := Tryd.prog) (args := encs x) hl (by rw [hrc]; exact hps x)
    have hfr : ∀ st pe, (rc st pe).fn = fn ∧ (rc st pe).tmps = a.tmps ∧ (rc st pe).params = ps ∧ (rc st pe).assign = assign ∧ (rc st pe).body = body := fun _ _ => by rw [hrc]; exact ⟨rfl, rfl, rfl, rfl, rfl⟩
    rw [(hfr _ _).1, (hfr _ _).2.1, (hfr _ _).2.2.1, (hfr _ _).2.2.2.1, (hfr _ _).2.2.2.2] at hy
    refine ⟨fn, _, assign, body, hy, roundIn_of_wpIn hfn (hassign _ _ pre x W _ hi hpre ?_)⟩
    intro a' Wa kf kt hia hax
    have hla := kf.same _ _ (by omega) hl rfl
    have hka := kf.same _ _ (by omega) hk rfl
    have hlt := lt_of_heap hla
    have hst : ∀ st pe st', ({ rc st pe with state := st' } : Loop) = rc st' pe := fun _ _ _ => by rw [hrc]
    have hbr := run_beginRound (P := Tryd.prog) hla (by rw [hrc])
    rw [hst] at hbr
    refine ⟨_, hbr, ?_⟩
    have hl2 : (Wa.putObj (D + 1) (.loop (rc .busy none))).heap[D + 1]? = some (.loop (rc .busy none)) := World.putObj_heap_same hlt
    have hk2 : (Wa.putObj (D + 1) (.loop (rc .busy none))).heap[D]? = some (.deferred (some [])) := (World.putObj_heap_other (by omega)).trans hka
    have kt2 : KeptT S W (Wa.putObj (D + 1) (.loop (rc .busy none))) := kt.trans (.putObj _ _ _ _ (fun k hk => by have := hS k hk; omega) hla rfl)
    refine wpIn_mono (hbody _ _ pre x a' _ (by omega) ⟨_, hl2⟩ (hI.putObj _ hia (by omega) hla rfl) ((hAx x a').putObj (s := ()) _ hax (by omega) hla rfl) hpre) ?_
    generalize Wa.putObj (D + 1) (.loop (rc .busy none)) = W2 at *
    have fin : ∀ (jump : Option Code) (W3 : World), KeepsFrom w.heap.size W2 W3 →
        (Instr.endRound (D + 1) jump).run Tryd.prog W3 = .ok (.bool jump.isNone) (W3.putObj (D + 1) (.loop (rc (if jump.isNone then .ready else .done) jump))) ∧ W3.heap[D + 1]? = some (.loop (rc .busy none)) ∧
        (W3.putObj (D + 1) (.loop (rc (if jump.isNone then .ready else .done) jump))).heap[D + 1]? = some (.loop (rc (if jump.isNone then .ready else .done) jump)) ∧
        (W3.putObj (D + 1) (.loop (rc (if jump.isNone then .ready else .done) jump))).heap[D]? = some (.deferred (some [])) := fun jump W3 k3 => by
      have hl3 := k3.same _ _ (by omega) hl2 rfl
      have he := run_endRound (P := Tryd.prog) jump hl3
      have hjp : ({ rc .busy none with state := if jump.isNone then .ready else .done, pending := jump } : Loop) = rc (if jump.isNone then .ready else .done) jump := by rw [hrc]
      first | rw [hjp] at he | skip
      exact ⟨by first | exact he | (rw [hrc] at he ⊢; exact he), hl3, World.putObj_heap_same (lt_of_heap hl3), (World.putObj_heap_other (by omega)).trans (k3.same _ _ (by omega) hk2 rfl)⟩
    rintro e a3 W3 hp
    cases e with
    | normal =>
      obtain ⟨k3, t3, i3⟩ := hp
      obtain ⟨hr, hl3, hl4, hk4⟩ := fin none W3 k3
      exact ⟨_, _, hr, .inl ⟨rfl, ⟨hI.putObj _ i3 (by omega) hl3 rfl, hl4, hk4⟩, (kt2.trans t3).trans (.putObj _ _ _ _ (fun k hk => by have := hS k hk; omega) hl3 rfl)⟩⟩
    | ret =>
      obtain ⟨k3, i3⟩ := hp
      obtain ⟨hr, hl3, hl4, hk4⟩ := fin (some .ret) W3 k3
      exact ⟨_, _, hr, .inr ⟨rfl, .ret, (hIx _).putObj _ i3 (by omega) hl3 rfl, hl4, hk4⟩⟩
    | exit id =>
      obtain ⟨k3, i3⟩ := hp
      obtain ⟨hr, hl3, hl4, hk4⟩ := fin (some (.exit id)) W3 k3
      exact ⟨_, _, hr, .inr ⟨rfl, .exit id, (hIx _).putObj _ i3 (by omega) hl3 rfl, hl4, hk4⟩⟩
    | goto t =>
      obtain ⟨k3, i3⟩ := hp
      obtain ⟨hr, hl3, hl4, hk4⟩ := fin (some (.goto t)) W3 k3
      exact ⟨_, _, hr, .inr ⟨rfl, .goto t, (hIx _).putObj _ i3 (by omega) hl3 rfl, hl4, hk4⟩⟩
    | panic ch => exact hp.elim
    | outgrown => exact hp.elim
  · rintro e W2 ⟨⟨v, rfl⟩, (⟨hi, hl, hk⟩ | ⟨pre, hpre, c, hi, hl, hk⟩)⟩
    · have he := run_endLoop (P := Tryd.prog) hl (by rw [hrc]; simp)
      rw [show (rc .ready none).pending = none by rw [hrc]] at he
      refine ⟨none, _, he, hdone D _ (by omega) (hI.putObj _ hi (by omega) hl rfl) ((World.putObj_heap_other (by omega)).trans hk)⟩
    · have he := run_endLoop (P := Tryd.prog) hl (by rw [hrc]; simp)
      rw [show (rc .done (some c)).pending = some c by rw [hrc]] at he
      refine ⟨some c, _, he, hstop D c pre _ (by omega) hpre ((hIx c).putObj _ hi (by omega) hl rfl) ((World.putObj_heap_other (by omega)).trans hk)⟩
end Go.Proofs.YtomgfdfgildkbaaDoor
/- The iterator arena.walk$1: it gives just what stands in the space, one by one. -/



namespace Go.Proofs.YtomgfdfgildkbaaDoor
open Go.RowKit Go.BigFrame
attribute [local go_sem] Oper.semAt_some

theorem ArAt.sp {w : World} {b wb : Nat} {A : Ar} (h : ArAt w b wb A) {s : Int} (hs : isSp s = true) : w.cell? ⟨b, 15 + s.toNat * 3, none⟩ = some (.int .i64 (A.first s)) ∧ w.cell? ⟨b, 15 + s.toNat * 3 + 1, none⟩ = some (.int .i64 (A.behind s)) ∧ w.cell? ⟨b, 15 + s.toNat * 3 + 2, none⟩ = some (.int .i64 (A.top s)) := by
  obtain ⟨hc, _⟩ := h.cells
  have s1 : 1 ≤ s ∧ s ≤ 4 := by unfold isSp at hs; exact of_decide_eq_true hs
  rcases (show s = 1 ∨ s = 2 ∨ s = 3 ∨ s = 4 by omega) with rfl | rfl | rfl | rfl <;> refine ⟨?_, ?_, ?_⟩ <;> rw [hc] <;> rfl
theorem ArAt.wsl {w : World} {b wb : Nat} {A : Ar} (h : ArAt w b wb A) : w.cell? ⟨b, 14, none⟩ = some (.slice (some ⟨wb, 0, none⟩) A.words.length A.words.length) := by
  obtain ⟨hc, _⟩ := h.cells
  rw [hc]; rfl
theorem set10 {W : World} {b : Nat} {c0 c1 c2 c3 c4 c5 c6 c7 c8 c9 : Value} {t : TypeId} (h : W.heap[b]? = some (.cells #[c0, c1, c2, c3, c4, c5, c6, c7, c8, c9] t (0, 0))) (v0 v1 v2 v3 v4 v5 v6 v7 v8 v9 : Value) :
    (((((((((((W.setCell ⟨b, 0, none⟩ v0).setCell ⟨b, 1, none⟩ v1).setCell ⟨b, 2, none⟩ v2).setCell ⟨b, 3, none⟩ v3).setCell ⟨b, 4, none⟩ v4).setCell ⟨b, 5, none⟩ v5).setCell ⟨b, 6, none⟩ v6).setCell ⟨b, 7, none⟩ v7).setCell ⟨b, 8, none⟩ v8).setCell ⟨b, 9, none⟩ v9)).heap[b]? = some (.cells #[v0, v1, v2, v3, v4, v5, v6, v7, v8, v9] t (0, 0)) := by
  have h0 := block_set h 0 v0
  have h1 := block_set h0 1 v1
  have h2 := block_set h1 2 v2
  have h3 := block_set h2 3 v3
  have h4 := block_set h3 4 v4
  have h5 := block_set h4 5 v5
  have h6 := block_set h5 6 v6
  have h7 := block_set h6 7 v7
  have h8 := block_set h7 8 v8
  have h9 := block_set h8 9 v9
  simpa using h9
theorem set10_below {W a : World} {b B : Nat} (v0 v1 v2 v3 v4 v5 v6 v7 v8 v9 : Value) (h : Below B a W) (hb : B ≤ b) :
    Below B a ((((((((((W.setCell ⟨b, 0, none⟩ v0).setCell ⟨b, 1, none⟩ v1).setCell ⟨b, 2, none⟩ v2).setCell ⟨b, 3, none⟩ v3).setCell ⟨b, 4, none⟩ v4).setCell ⟨b, 5, none⟩ v5).setCell ⟨b, 6, none⟩ v6).setCell ⟨b, 7, none⟩ v7).setCell ⟨b, 8, none⟩ v8).setCell ⟨b, 9, none⟩ v9) := by
  have h0 := Below.setCell (p := ⟨b, 0, none⟩) h hb v0
  have h1 := Below.setCell (p := ⟨b, 1, none⟩) h0 hb v1
  have h2 := Below.setCell (p := ⟨b, 2, none⟩) h1 hb v2
  have h3 := Below.setCell (p := ⟨b, 3, none⟩) h2 hb v3
  have h4 := Below.setCell (p := ⟨b, 4, none⟩) h3 hb v4
  have h5 := Below.setCell (p := ⟨b, 5, none⟩) h4 hb v5
  have h6 := Below.setCell (p := ⟨b, 6, none⟩) h5 hb v6
  have h7 := Below.setCell (p := ⟨b, 7, none⟩) h6 hb v7
  have h8 := Below.setCell (p := ⟨b, 8, none⟩) h7 hb v8
  have h9 := Below.setCell (p := ⟨b, 9, none⟩) h8 hb v9
  exact h9
theorem Ar.Ok.top_le {A : Ar} (ok : A.Ok) (s : Int) : A.top s ≤ (A.words.length : Int) ∧ 0 ≤ A.first s ∧ A.top s ≤ 262145 := by
  obtain ⟨h1, h2, h3, h4, h5⟩ := ok.tops
  obtain ⟨h6, h7, h8, h9⟩ := ok.sizes s
  refine ⟨?_, h6, by omega⟩
  unfold Ar.top
  repeat' split
  all_goals omega
theorem Ar.space_of {A : Ar} (ok : A.Ok) {s i : Int} (hs : isSp s = true) (h1 : A.first s ≤ i) (h2 : i < A.behind s) : A.space i = s := by
  obtain ⟨e0, e1, s0, s1, t0, t1⟩ := Cfg.bd ok.cv
  have s1 : 1 ≤ s ∧ s ≤ 4 := by unfold isSp at hs; exact of_decide_eq_true hs
  rcases (show s = 1 ∨ s = 2 ∨ s = 3 ∨ s = 4 by omega) with rfl | rfl | rfl | rfl <;> simp [Ar.first, Ar.behind] at h1 h2 <;> unfold Ar.space <;> (repeat' split) <;> omega
theorem grown_of_below {w w' : World} (h : Below w.heap.size w w') : w.grownBy w' none := ⟨h.os, h.tape, h.output, h.size, fun k hk _ => h.block k hk⟩
set_option maxRecDepth 100000 in
set_option maxHeartbeats 4000000 in
theorem walk1_gives (b wb bs ba : Nat) (A : Ar) (s : Int) (S : List Nat) (m1 : b ∈ S) (m2 : wb ∈ S) (m3 : bs ∈ S) (m4 : ba ∈ S) (m5 : 1 ∈ S) (m6 : 0 ∈ S) (ok : A.Ok) (w : World) (tb : Tab w) (hA : ArAt w b wb A)
    (hbs : w.cell? ⟨bs, 0, none⟩ = some (.int .i64 s)) (hba : w.cell? ⟨ba, 0, none⟩ = some (.pointer (some ⟨b, 0, none⟩))) :
    Gives 163 #[.pointer (some ⟨bs, 0, none⟩), .pointer (some ⟨ba, 0, none⟩)] (fun x : Th => #[x.val]) S (A.all s) w := by
  intro n l J Jx W hW hJ hJx hY h0
  replace tb := tb.below hW
  replace hA := hA.below hW
  replace hbs := (hW.cell (p := ⟨bs, 0, none⟩) (World.block_lt_of_cell? w ⟨bs, 0, none⟩ hbs)).trans hbs
  replace hba := (hW.cell (p := ⟨ba, 0, none⟩) (World.block_lt_of_cell? w ⟨ba, 0, none⟩ hba)).trans hba
  have IS := Lib.hid (is_any s W)
  have OB := Lib.hid (fun (i : Int) (W' : World) (k : KeptT S W W') => object_any b wb A i W' (tb.kept k m5 m6) (hA.kept k m1 m2) ok)
  clear hW
  refine callsIn_of_wp Tryd.func163 rfl trivial ?_ rfl
  simp only [Tryd.ntmps163, List.size_toArray, List.length_cons, List.length_nil, Nat.reduceAdd, Nat.reduceSub, Array.replicate_succ, Array.replicate_zero, List.push_toArray, List.append_toArray, List.nil_append, List.cons_append]
  by_cases hs : isSp s = true
  · rw [hs] at IS
    obtain ⟨c1, c2, c3⟩ := hA.sp hs
    have s1 : 1 ≤ s ∧ s ≤ 4 := by unfold isSp at hs; exact of_decide_eq_true hs
    have s0 : (0 : Int) ≤ s := by omega
    have s5 : s < (5 : Int) := by omega
    gi_wp2_with fail
    refine ⟨trivial, (fun h => by cases h), (callsIn_wide.2 IS.out).mono ?_⟩
    rintro e w1 ⟨rfl, rfl⟩
    gi_wp2_with fail
    gi_big_quiet_th (fail)
    clear c1 c2 c3 IS
    have DR : ∀ (pre : List Th) (W' : World) (q : Nat), J pre W' → J pre (W'.drewN q) := fun pre W' q h => hJ pre W' _ none h ⟨rfl, rfl, rfl, Nat.le_refl _, fun _ _ _ => rfl⟩ (fun r e => by cases e)
    gi_wp2_with fail
    gi_loopw [4] (fun p wr => ∃ (pre : List Th) (i : Int), p = .int .i64 i ∧ A.all s = pre ++ A.things s i ∧ A.first s ≤ i ∧ J pre wr ∧ KeptT S W wr) (fun p _ => (A.top s - intOf p).toNat)
    case atStart =>
      refine ⟨[], A.first s, rfl, ?_, Int.le_refl _, DR _ _ _ h0, .below (below_drewN (Below.refl _ _) _)⟩
      unfold Ar.all; rw [if_pos hs]; rfl
    case round =>
      obtain ⟨pre, i, rfl, hx, hi, hJr, hk⟩ := hrel
      have hA' := hA.kept hk m1 m2
      obtain ⟨c1, c2, c3⟩ := hA'.sp hs
      have cs := hk.cell m3 hbs
      have ca := hk.cell m4 hba
      by_cases hlt : i < A.top s
      · gi_wp2_with fail
        gi_big_quiet_th (fail)
        replace hJr := DR _ _ nq hJr
        replace hk := hk.trans (.below (below_drewN (Below.refl _ wr) nq))
        clear cs ca c1 c2 c3 hA'
        generalize wr.drewN nq = w2 at *
        gi_upto_region 4 with fail
        have hX := heap_one w2 (.cells #[.int .i64 i, .int .i64 0, .int .u64 0, .int .i64 0, .int .i64 0, .int .i64 0, .int .i64 0, .int .i64 0, .bool false, .bool false] 193)
        have hb2 := (Below.refl w2.heap.size w2).alloc (Nat.le_refl _) (.cells #[.int .i64 i, .int .i64 0, .int .u64 0, .int .i64 0, .int .i64 0, .int .i64 0, .int .i64 0, .int .i64 0, .bool false, .bool false] 193)
        generalize w2.alloc (.cells #[.int .i64 i, .int .i64 0, .int .u64 0, .int .i64 0, .int .i64 0, .int .i64 0, .int .i64 0, .int .i64 0, .bool false, .bool false] 193) = w3 at *
        have HK := Lib.hid (fun (wx : World) (h : Below w2.heap.size w2 wx) => hk.trans (.below h))
        have HJ := Lib.hid (fun (wx : World) (h : Below w2.heap.size w2 wx) => hJ _ _ _ none hJr (grown_of_below h) (fun r e => by cases e))
        have cs := (HK.out _ hb2).cell m3 hbs
        have ca := (HK.out _ hb2).cell m4 hba
        generalize w2.heap.size = p at *
        clear hJr hk
        gi_wp2_with fail
        refine ⟨trivial, (fun h => by cases h), (callsIn_wide.2 (OB.out i w3 (HK.out _ hb2))).mono ?_⟩
        rintro e w4 ⟨rfl, hb⟩
        have hb4 := hb2.trans (hb.mono (Nat.le_of_lt (lt_of_heap hX)))
        replace hX := (hb.block _ (lt_of_heap hX)).trans hX
        clear hb hb2 cs ca w3
        generalize hhd : A.hd i = h9 at *
        obtain ⟨x0, x1, x2, x3, x4, x5, x6⟩ := h9
        unfold Hd.val
        simp only
        gi_upto_if 39 with fail
        have hbH := (Below.refl w4.heap.size w4).alloc (Nat.le_refl _) (.cells #[.int .u64 x0, .int .i64 x1, .int .i64 x2, .int .i64 x3, .int .i64 x4, .int .i64 x5, .bool x6] 24)
        have hH := heap_one w4 (.cells #[.int .u64 x0, .int .i64 x1, .int .i64 x2, .int .i64 x3, .int .i64 x4, .int .i64 x5, .bool x6] 24)
        have hpq := lt_of_heap hX
        replace hX := (hbH.block _ hpq).trans hX
        have hb5 := hb4.trans (hbH.mono (Nat.le_of_lt hpq))
        generalize w4.alloc (.cells #[.int .u64 x0, .int .i64 x1, .int .i64 x2, .int .i64 x3, .int .i64 x4, .int .i64 x5, .bool x6] 24) = w5 at *
        generalize w4.heap.size = q at *
        clear hbH hb4 w4
        gi_cut [6, 8] from 21 (fun _ _ wx => Below p w2 wx ∧ wx.heap[p]? = some (.cells (A.th s i).cells 193 (0, 0)))
        case first =>
          by_cases ho : A.isObj i = true
          · have hth : A.th s i = ⟨i, A.osz i, ⟨x0, x1, x2, x3, x4, x5, x6⟩, true⟩ := by unfold Ar.th; rw [if_pos ho, hhd]
            rw [ho]
            obtain ⟨cX, fX⟩ := hcell hX
            obtain ⟨cH, fH⟩ := hcell hH
            have hosl : A.osl wb i = .slice (some ⟨wb, i.toNat, none⟩) (A.osz i).toNat (A.osz i).toNat := by unfold Ar.osl; rw [ho]; rfl
            have hsz : ((A.osz i).toNat : Int) = A.osz i := by have f := (isObj_facts ok ho).2.2.2.1; have := f.p0; have := f.r0; have := (isObj_facts ok ho).2.2.2.2.1; omega
            rw [hosl]
            gi_wp2_with fail
            gi_meet
            refine ⟨set10_below _ _ _ _ _ _ _ _ _ _ hb5 (Nat.le_refl _), ?_⟩
            rw [hth]
            have h10 := set10 hX (.int .i64 i) (.int .i64 (A.osz i)) (.int .u64 x0) (.int .i64 x1) (.int .i64 x2) (.int .i64 x3) (.int .i64 x4) (.int .i64 x5) (.bool x6) (.bool true)
            exact h10
          · have ho : A.isObj i = false := by simpa using ho
            have hth : A.th s i = ⟨i, A.fw s i, nohd, false⟩ := by unfold Ar.th; rw [ho]; rfl
            rw [ho]
            have hA5 := hA.kept (HK.out _ hb5) m1 m2
            have cs := (HK.out _ hb5).cell m3 hbs
            have ca := (HK.out _ hb5).cell m4 hba
            obtain ⟨c1, c2, c3⟩ := hA5.sp hs
            have cw := hA5.wsl
            obtain ⟨tl, fi, tm⟩ := ok.top_le s
            have i0 : (0 : Int) ≤ i := by omega
            have i1 : i < (A.words.length : Int) := by omega
            have i2 : i ≤ 262145 := by omega
            have cv := hA5.word i0 i1
            have FI := Lib.hid (fun w => filled_any (A.word i) w (ok.word i).1 (ok.word i).2)
            have hfw : A.fw s i = if (numT 3 (A.word i)).2 = true ∧ (numT 3 (A.word i)).1 ≤ A.top s - i then (numT 3 (A.word i)).1 else 0 := rfl
            generalize numT 3 (A.word i) = nt at *
            obtain ⟨fn, fo⟩ := nt
            simp only at FI hfw
            generalize A.word i = wv at *
            gi_wp2_with fail
            refine ⟨trivial, (fun h => by cases h), (callsIn_wide.2 (FI.out _)).mono ?_⟩
            rintro e w6 ⟨rfl, rfl⟩
            gi_upto_region 8 with fail
            cases fo with
            | false =>
              have hz : A.fw s i = 0 := by rw [hfw]; simp
              gi_big_quiet_th (fail)
              gi_wp2_with fail
              gi_meet
              refine ⟨below_drewN hb5 _, ?_⟩
              rw [hth, hz]
              exact hX
            | true =>
              by_cases qf : fn ≤ A.top s - i
              · have hz : A.fw s i = fn := by rw [hfw, if_pos ⟨rfl, qf⟩]
                obtain ⟨cX, fX⟩ := hcell hX
                have qd : decide (fn ≤ A.top s - i) = true := by simp; omega
                gi_big_quiet_th (fail)
                gi_wp2_with fail
                gi_meet
                refine ⟨Below.setCell (p := ⟨p, 1, none⟩) (below_drewN hb5 _) (Nat.le_refl _) _, ?_⟩
                rw [hth, hz]
                exact (block_set (w := w5.drewN nq) hX 1 (.int .i64 fn)).trans (by simp [Th.cells, nohd])
              · have hz : A.fw s i = 0 := by rw [hfw, if_neg (by simp; omega)]
                have qd : decide (fn ≤ A.top s - i) = false := by simp; omega
                gi_big_quiet_th (fail)
                gi_wp2_with fail
                gi_meet
                refine ⟨below_drewN hb5 _, ?_⟩
                rw [hth, hz]
                exact hX
        case rest =>
          obtain ⟨hbw, hXw⟩ := hcut
          clear hb5 hX hH hhd x0 x1 x2 x3 x4 x5 x6
          generalize wc = w6 at *
          have hJ6 := HJ.out _ hbw
          have hk6 := HK.out _ hbw
          obtain ⟨tl, fi, tm⟩ := ok.top_le s
          have hw0 : 0 ≤ (A.th s i).words ∧ i + (A.th s i).words ≤ A.top s := by
            unfold Ar.th
            split
            · rename_i ho
              have f := (isObj_facts ok ho).2.2.2.1
              have := f.p0
              have := f.r0
              have h5 := (isObj_facts ok ho).2.2.2.2.1
              unfold Ar.isObj at ho
              simp only [Bool.and_eq_true, decide_eq_true_eq] at ho
              have h6 := ok.sizes s
              rw [Ar.space_of ok hs hi (by omega)] at ho
              refine ⟨by simp only; omega, by simp only; omega⟩
            · exact A.fw_bd s i hlt
          have hat := A.th_at s i
          have hpre : pre ++ [A.th s i] <+: A.all s := by
            rw [hx]
            by_cases hw : 0 < (A.th s i).words
            · rw [A.things_on hlt hw]; exact ⟨A.things s (i + (A.th s i).words), by simp⟩
            · rw [A.things_bad hlt hw]; exact List.prefix_refl _
          have hon := fun h => A.things_on hlt h
          have hoff := fun h => A.things_bad hlt h
          generalize A.th s i = x at *
          obtain ⟨fn, tmps, assign, body, hy, hR⟩ := hY (n - 1) pre x w6 hJ6 hpre
          obtain ⟨xa, xw, ⟨x0, x1, x2, x3, x4, x5, x6⟩, xo⟩ := x
          obtain rfl : xa = i := hat
          unfold Th.cells at hXw
          unfold Th.val Th.cells at hy
          simp only at hXw hy hw0 hon hoff
          obtain ⟨cX, fX⟩ := hcell hXw
          gi_wp2_with fail
          refine ⟨(fun h => by cases h), hR.mono ?_⟩
          rintro e w7 (⟨rfl, hJ7, hk7⟩ | ⟨rfl, hJx7⟩)
          · replace hXw := (hk7.thg p _ _ hXw).trans hXw
            clear cX fX hy hR
            obtain ⟨cX, fX⟩ := hcell hXw
            by_cases hw : 0 < xw
            · have hq : (xw == 0) = false := by simp; omega
              have hw1 := hw0.2
              have hx0 : 0 ≤ xa := by omega
              gi_wp2_with fail
              exact ⟨⟨pre ++ [⟨xa, xw, ⟨x0, x1, x2, x3, x4, x5, x6⟩, xo⟩], xa + xw, rfl, by rw [hx, hon hw]; simp, by omega, hJ7, hk6.trans hk7⟩, by simp [intOf]; omega⟩
            · obtain rfl : xw = 0 := by omega
              gi_wp2_with fail
              refine bodyPost_ret (results_none rfl _ _ _) rfl ?_
              refine ⟨⟨_, rfl⟩, .inl ?_⟩
              rw [hx, hoff hw]
              exact hJ7
          · gi_wp2_with fail
            refine bodyPost_ret (results_none rfl _ _ _) rfl ?_
            exact ⟨⟨_, rfl⟩, .inr ⟨_, hpre, hJx7⟩⟩
      · have hnil := A.things_end hlt
        gi_wp2_with fail
        gi_big_quiet_th (fail)
        gi_wp2_with fail
        go_end0
        refine ⟨⟨_, rfl⟩, .inl ?_⟩
        rw [hx, hnil, List.append_nil]
        exact DR _ _ _ hJr
  · have hs' : isSp s = false := by simpa using hs
    rw [hs'] at IS
    gi_wp2_with fail
    refine ⟨trivial, (fun h => by cases h), (callsIn_wide.2 IS.out).mono ?_⟩
    rintro e w1 ⟨rfl, rfl⟩
    gi_wp2_with fail
    refine bodyPost_ret (results_none rfl _ _ _) rfl ?_
    refine ⟨⟨_, rfl⟩, .inl ?_⟩
    unfold Ar.all; rw [if_neg hs]
    exact h0
end Go.Proofs.YtomgfdfgildkbaaDoor
/- The iterator arena.Objects$1 called with a function value (a method value, a closure): it gives that function just the space's objects, one by one. -/

namespace Go.Proofs.YtomgfdfgildkbaaDoor
open Go.RowKit Go.BigFrame
attribute [local go_sem] Oper.semAt_some

/-- What a call that may write the blocks fp alone leaves as it was. -/
structure Frame (fp : List Nat) (w w' : World) : Prop where
  size : w.heap.size ≤ w'.heap.size
  blk : ∀ k, k < w.heap.size → k ∉ fp → w'.heap[k]? = w.heap[k]?
  thg : ∀ (k : Nat) (cs : Array Value) (fr : Nat × Nat), w.heap[k]? = some (Obj.cells cs 193 fr) → w'.heap[k]? = w.heap[k]?
  oth : KeepsOthers w w'
theorem Frame.kept {fp S : List Nat} {w w' : World} (h : Frame fp w w') (hd : ∀ k ∈ S, k ∉ fp) : KeptT S w w' := ⟨h.size, fun k hk hl => h.blk k hl (hd k hk), h.thg⟩
theorem objsOf_snoc (pre : List Th) (x : Th) : objsOf (pre ++ [x]) = if x.obj then objsOf pre ++ [(x.at_, x.hd)] else objsOf pre := by
  unfold objsOf
  rw [List.filter_append]
  cases hx : x.obj <;> simp [hx]
theorem objsOf_prefix {l m : List Th} (h : l <+: m) : objsOf l <+: objsOf m := by
  obtain ⟨t, rfl⟩ := h
  unfold objsOf
  rw [List.filter_append, List.map_append]
  exact ⟨_, rfl⟩
theorem Ar.objs_all (A : Ar) (s : Int) : A.objs s = objsOf (A.all s) := by
  unfold Ar.objs Ar.all
  split <;> rfl
theorem keptT_own {β : Type} {S : List Nat} {w : World} {B : Nat} (hS : w.heap.size ≤ B) (hS2 : ∀ k ∈ S, k < B) : OwnFrom B (fun (_ : β) W => KeptT S w W) := fun _ X Y row hs hg hr => by
  have e : ∀ k, k < X.heap.size → k < B → Y.heap[k]? = X.heap[k]? := fun k hk hb => hg.block k hk (fun e => by have := (hr k e.symm).1; omega)
  refine ⟨Nat.le_trans hs.size hg.size, fun k hk hl => ?_, fun k cs fr hk => ?_⟩
  · rw [e k (by have := hs.size; omega) (hS2 k hk)]; exact hs.blk k hk hl
  · have hl := lt_of_heap hk
    rw [e k (by have := hs.size; omega) (by omega)]; exact hs.thg k cs fr hk
theorem walk_mk (b : Nat) (s : Int) (w : World) : Calls Tryd.prog 142 #[.pointer (some ⟨b, 0, none⟩), .int .i64 s] w fun e w' => e = .returned (.func (.func 163) #[] #[.pointer (some ⟨w.heap.size + 1, 0, none⟩), .pointer (some ⟨w.heap.size, 0, none⟩)]) ∧ w' = (w.alloc (.cells #[.pointer (some ⟨b, 0, none⟩)] 47)).alloc (.cells #[.int .i64 s] 3) := by
  go_enter Tryd.func142, Tryd.ntmps142
  go_wp2
  go_ret
  exact ⟨rfl, rfl⟩
theorem objects_mk (b : Nat) (s : Int) (w : World) : Calls Tryd.prog 115 #[.pointer (some ⟨b, 0, none⟩), .int .i64 s] w fun e w' => e = .returned (.func (.func 152) #[] #[.pointer (some ⟨w.heap.size, 0, none⟩), .pointer (some ⟨w.heap.size + 1, 0, none⟩)]) ∧ w' = (w.alloc (.cells #[.pointer (some ⟨b, 0, none⟩)] 47)).alloc (.cells #[.int .i64 s] 3) := by
  go_enter Tryd.func115, Tryd.ntmps115
  go_wp2
  go_ret
  exact ⟨rfl, rfl⟩

set_option maxRecDepth 100000 in
set_option maxHeartbeats 4000000 in
theorem obj1_calls (b wb bs ba : Nat) (A : Ar) (s : Int) (S : List Nat) (m1 : b ∈ S) (m2 : wb ∈ S) (m3 : bs ∈ S) (m4 : ba ∈ S) (m5 : 1 ∈ S) (m6 : 0 ∈ S) (ok : A.Ok) (w : World) (tb : Tab w) (hA : ArAt w b wb A)
    (hbs : w.cell? ⟨bs, 0, none⟩ = some (.int .i64 s)) (hba : w.cell? ⟨ba, 0, none⟩ = some (.pointer (some ⟨b, 0, none⟩))) (hS : ∀ k ∈ S, k < w.heap.size)
    (f : FuncId) (bd cp : Array Value) (eg : ∀ args w, (callFunc f args).run Tryd.prog w = .ok (.enter f args) w)
    (J : List (Int × Hd) → List Nat → World → Prop) (Jx : List (Int × Hd) → World → Prop) (hJ : OwnFrom w.heap.size (fun (st : List (Int × Hd) × List Nat) W => J st.1 st.2 W)) (hJx : OwnFrom w.heap.size Jx)
    (hfp : ∀ pre fp W, J pre fp W → ∀ k ∈ fp, k < W.heap.size) (fp0 : List Nat) (hd0 : ∀ k ∈ S, k ∉ fp0)
    (hY : ∀ pre fp x W, J pre fp W → pre ++ [x] <+: A.objs s → KeptT S w W → Calls Tryd.prog f (bd ++ (#[.int .i64 x.1, x.2.val] ++ cp)) W fun e W' =>
      ((e = .returned (.bool true) ∧ ∃ fp', J (pre ++ [x]) fp' W' ∧ ∀ k ∈ fp', k ∈ fp ∨ W.heap.size ≤ k) ∨ (e = .returned (.bool false) ∧ Jx (pre ++ [x]) W')) ∧ Frame fp W W')
    (h0 : J [] fp0 w) :
    Calls Tryd.prog 152 #[.func (.func f) bd cp, .pointer (some ⟨ba, 0, none⟩), .pointer (some ⟨bs, 0, none⟩)] w fun e W' => e = .returned (.tuple #[]) ∧ ((∃ fp, J (A.objs s) fp W') ∨ ∃ pre, pre <+: A.objs s ∧ Jx pre W') := by
  have WM := Lib.hid (fun w => walk_mk b s w)
  have lba := World.block_lt_of_cell? w ⟨ba, 0, none⟩ hba
  have lbs := World.block_lt_of_cell? w ⟨bs, 0, none⟩ hbs
  obtain ⟨n, hn⟩ : ∃ n : Nat, n = 7 := ⟨_, rfl⟩
  clear hn
  refine (callsIn_wide (n := n)).1 ?_
  refine callsIn_of_wp_marks Tryd.func152 rfl trivial ?_ rfl
  simp only [Tryd.ntmps152, List.size_toArray, List.length_cons, List.length_nil, Nat.reduceAdd, Nat.reduceSub, Array.replicate_succ, Array.replicate_zero, List.push_toArray, List.append_toArray, List.nil_append, List.cons_append]
  gi_wp2_with fail
  refine ⟨trivial, (fun h => by cases h), (callsIn_wide.2 (WM.out _)).mono ?_⟩
  rintro e w1 ⟨rfl, rfl⟩
  clear WM
  gi_wp2_with fail
  have b0 := heap_one w (.cells #[.func (.func f) bd cp] 145)
  have b1 := heap_two (w.alloc (.cells #[.func (.func f) bd cp] 145)) (.cells #[.pointer (some ⟨b, 0, none⟩)] 47) (.cells #[.int .i64 s] 3)
  have hz : (((w.alloc (.cells #[.func (.func f) bd cp] 145)).alloc (.cells #[.pointer (some ⟨b, 0, none⟩)] 47)).alloc (.cells #[.int .i64 s] 3)).heap.size = w.heap.size + 3 := by simp
  have hb : Below w.heap.size w (((w.alloc (.cells #[.func (.func f) bd cp] 145)).alloc (.cells #[.pointer (some ⟨b, 0, none⟩)] 47)).alloc (.cells #[.int .i64 s] 3)) := (((Below.refl _ w).alloc (Nat.le_refl _) _).alloc (by simp) _).alloc (by simp; omega) _
  have hq : ∀ k, k < w.heap.size + 1 → (((w.alloc (.cells #[.func (.func f) bd cp] 145)).alloc (.cells #[.pointer (some ⟨b, 0, none⟩)] 47)).alloc (.cells #[.int .i64 s] 3)).heap[k]? = (w.alloc (.cells #[.func (.func f) bd cp] 145)).heap[k]? := fun k hk => by
    rw [Below.heap_alloc _ _ _ (by simp; omega), Below.heap_alloc _ _ _ (by simp; omega)]
  replace b0 := (hq _ (by omega)).trans b0
  obtain ⟨b1, b2⟩ := b1
  simp only [World.size_alloc] at b1 b2
  clear hq
  generalize ((w.alloc (.cells #[.func (.func f) bd cp] 145)).alloc (.cells #[.pointer (some ⟨b, 0, none⟩)] 47)).alloc (.cells #[.int .i64 s] 3) = W0 at *
  have hJ0 : J [] fp0 W0 := hJ ([], fp0) _ _ none h0 (grown_of_below hb) (fun r e => by cases e)
  obtain ⟨c0, d0⟩ := hcell b0
  obtain ⟨c1, d1⟩ := hcell b1
  obtain ⟨c2, d2⟩ := hcell b2
  have hdisj : ∀ k ∈ S ++ [w.heap.size, w.heap.size + 1, w.heap.size + 1 + 1], k ∉ fp0 := fun k hk hf => by
    have := hfp _ _ _ h0 k hf
    rcases List.mem_append.1 hk with h | h
    · exact hd0 k h hf
    · simp at h; omega
  have hlt : ∀ k ∈ S ++ [w.heap.size, w.heap.size + 1, w.heap.size + 1 + 1], k < W0.heap.size := fun k hk => by
    rcases List.mem_append.1 hk with h | h
    · have := hS k h; omega
    · simp at h; omega
  have IN := fun k (h : k ∈ S) => (List.mem_append_left [w.heap.size, w.heap.size + 1, w.heap.size + 1 + 1] h)
  refine range_gives (gf := 163) (lb := #[.pointer (some ⟨w.heap.size + 1 + 1, 0, none⟩), .pointer (some ⟨w.heap.size + 1, 0, none⟩)]) (S := S ++ [w.heap.size, w.heap.size + 1, w.heap.size + 1 + 1]) (xs := A.all s) rfl (enters_of Tryd.func163 (by kernel_rfl) rfl)
    (walk1_gives b wb (w.heap.size + 1 + 1) (w.heap.size + 1) A s _ (IN _ m1) (IN _ m2) (by simp) (by simp) (IN _ m5) (IN _ m6) ok W0 (tb.below hb) (hA.below hb) (by rw [c2]; rfl) (by rw [c1]; rfl)) hlt (fun _ => rfl)
    (fun pre W => (∃ fp, J (objsOf pre) fp W ∧ ∀ k ∈ S ++ [w.heap.size, w.heap.size + 1, w.heap.size + 1 + 1], k ∉ fp) ∧ KeptT (S ++ [w.heap.size, w.heap.size + 1, w.heap.size + 1 + 1]) W0 W)
    (fun c pre W => c = .ret ∧ Jx (objsOf pre) W)
    (OwnFrom.and (fun pre X Y row hs hg hr => by obtain ⟨fp, h1, h2⟩ := hs; exact ⟨fp, hJ (objsOf pre, fp) X Y row h1 hg (fun r e => ⟨by have := (hr r e).1; omega, (hr r e).2⟩), h2⟩) (keptT_own (Nat.le_refl _) hlt))
    (fun c pre X Y row hs hg hr => ⟨hs.1, hJx _ X Y row hs.2 hg (fun r e => ⟨by have := (hr r e).1; omega, (hr r e).2⟩)⟩)
    ⟨⟨fp0, hJ0, hdisj⟩, .refl _ _⟩
    (fun x a' W => ∃ Bx, W0.heap.size ≤ Bx ∧ W.heap[Bx]? = some (.cells x.cells 193 (0, 0)) ∧ a' = { tmps := #[.func (.func f) bd cp, .pointer (some ⟨ba, 0, none⟩), .pointer (some ⟨bs, 0, none⟩), .pointer (some ⟨w.heap.size, 0, none⟩), .pointer (some ⟨Bx, 0, none⟩), .pointer (some ⟨b, 0, none⟩), .int .i64 s, .func (.func 163) #[] #[.pointer (some ⟨w.heap.size + 1 + 1, 0, none⟩), .pointer (some ⟨w.heap.size + 1, 0, none⟩)], x.val, undef, undef, undef, undef, undef, undef, undef, undef, undef, undef, undef], defers := [] })
    (fun x a' _ X Y row hs hg hr => by
      obtain ⟨Bx, h1, h2, h3⟩ := hs
      refine ⟨Bx, h1, (hg.block Bx (lt_of_heap h2) (fun e => ?_)).trans h2, h3⟩
      obtain ⟨o, ho, hc⟩ := (hr Bx e.symm).2
      rw [h2] at ho; cases ho; cases hc)
    ?assign ?body ?done ?stop
  case assign =>
    rintro m l pre ⟨xa, xw, ⟨x0, x1, x2, x3, x4, x5, x6⟩, xo⟩ W K ⟨⟨fp, hj, hdj⟩, hk⟩ hpre hK
    simp only [Th.val, Th.cells]
    gi_wp2
    have hb1 : ∀ X, Below W.heap.size W (W.alloc X) := fun X => (Below.refl _ W).alloc (Nat.le_refl _) X
    have hsz := hk.size
    refine hK _ _ ((KeepsOthers.alloc _ _).from _) (.below (hb1 _)) ⟨⟨fp, ?_, hdj⟩, hk.trans (.below (hb1 _))⟩ ⟨W.heap.size, hsz, heap_one W _, rfl⟩
    exact hJ (_, fp) _ _ none hj (grown_of_below (hb1 _)) (fun r e => by cases e)
  case body =>
    rintro m l pre x a' W hl ⟨r, hr⟩ ⟨⟨fp, hj, hdj⟩, hk⟩ ⟨Bx, hBx, hX, rfl⟩ hpre
    have hcy := hk.cell (b := w.heap.size) (o := 0) (by simp) (by rw [c0]; rfl)
    have hYx := hY (objsOf pre) fp (x.at_, x.hd) W hj
    have hsn := objsOf_snoc pre x
    have hpr := objsOf_prefix hpre
    rw [← A.objs_all, hsn] at hpr
    obtain ⟨xa, xw, ⟨x0, x1, x2, x3, x4, x5, x6⟩, xo⟩ := x
    unfold Th.cells at hX
    simp only at hX hsn hpr hYx
    obtain ⟨cX, dX⟩ := hcell hX
    cases xo with
    | false =>
      gi_wp2
      refine ⟨fun _ h => (by cases h), ?_⟩
      gi_wp2
      exact ⟨KeepsFrom.refl _ _, .refl _ _, ⟨fp, by rw [hsn]; exact hj, hdj⟩, hk⟩
    | true =>
      have hkw : KeptT S w W := ⟨by have := hk.size; omega, fun k h1 h2 => (hk.blk k (IN k h1) (by omega)).trans (hb.block k h2), fun k cs fr h1 => (hk.thg k cs fr ((hb.block k (lt_of_heap h1)).trans h1)).trans (hb.block k (lt_of_heap h1))⟩
      replace hYx := hYx (by simpa using hpr) hkw
      gi_wp2_with fail
      refine ⟨trivial, (fun h => by cases h), ((callsIn_wide.2 hYx).inRound l).mono ?_⟩
      rintro e W' ⟨(⟨rfl, fp', hj', hn'⟩ | ⟨rfl, hjx⟩), hf⟩
      · have hd' : ∀ k ∈ S ++ [w.heap.size, w.heap.size + 1, w.heap.size + 1 + 1], k ∉ fp' := fun k h1 h2 => by
          rcases hn' k h2 with h3 | h3
          · exact hdj k h1 h3
          · have := hlt k h1; have := hk.size; omega
        have hkt := hf.kept hdj
        gi_wp2_with fail
        exact ⟨hf.oth.from _, hkt, ⟨fp', by rw [hsn]; exact hj', hd'⟩, hk.trans hkt⟩
      · gi_wp2_with fail
        exact ⟨hf.oth.from _, rfl, by rw [hsn]; exact hjx⟩
  case done =>
    rintro D W hD ⟨⟨fp, hj, hdj⟩, hk⟩ hK
    gi_wp2
    refine ⟨by simp, .inl ⟨_, _, rfl, run_takeDeferred hK, ?_⟩⟩
    refine ⟨_, results_none rfl _ _ _, rfl, .inl ⟨fp, ?_⟩⟩
    rw [A.objs_all]
    exact hJ.putObj (s := (_, fp)) _ hj (by omega) hK rfl
  case stop =>
    rintro D c pre W hD hpre ⟨rfl, hjx⟩ hK
    gi_wp2
    refine ⟨by simp, .inl ⟨_, _, rfl, run_takeDeferred hK, ?_⟩⟩
    refine ⟨_, results_none rfl _ _ _, rfl, .inr ⟨objsOf pre, ?_, ?_⟩⟩
    · rw [A.objs_all]; exact objsOf_prefix hpre
    · exact hJx.putObj _ hjx (by omega) hK rfl
end Go.Proofs.YtomgfdfgildkbaaDoor
/- The walk of middenlaw3's taker: it takes an address and a header, up to where it stops. -/






namespace Go.Proofs.YtomgfdfgildkbaaDoor
open Go.RowKit Go.BigFrame

structure Tk where
  at_ : List Int
  hd : List Hd
  stop : Int
  most : Int
  done : Bool
  deaf : Bool
def hdL (h : Hd) : List Value := [.int .u64 h.ser, .int .i64 h.kind, .int .i64 h.ptrs, .int .i64 h.raws, .int .i64 h.age, .int .i64 h.site, .bool h.held]
def Tk.take (T : Tk) (x : Int) (h : Hd) : Tk :=
  if T.done then { T with deaf := true } else { T with at_ := T.at_ ++ [x], hd := T.hd ++ [h], done := decide ((T.at_.length : Int) + 1 = T.stop) || decide (T.most < (T.at_.length : Int) + 1) }
def fpOf (b : Nat) (v1 v2 : Value) : List Nat := b :: (v1.ownBlock.toList ++ v2.ownBlock.toList)
structure TkAt (w : World) (b o : Nat) (ty : TypeId) (B : Nat) (T : Tk) (v1 v2 : Value) : Prop where
  hb : ∃ cs, w.heap[b]? = some (.cells cs ty (0, 0))
  c0 : w.cell? ⟨b, o, none⟩ = some v1
  c1 : w.cell? ⟨b, o + 1, none⟩ = some v2
  c2 : w.cell? ⟨b, o + 2, none⟩ = some (.int .i64 T.stop)
  c3 : w.cell? ⟨b, o + 3, none⟩ = some (.int .i64 T.most)
  c4 : w.cell? ⟨b, o + 4, none⟩ = some (.bool T.done)
  c5 : w.cell? ⟨b, o + 5, none⟩ = some (.bool T.deaf)
  r1 : w.ownsRow B 3 1 v1 T.at_.length (T.at_.map (Value.int .i64))
  r2 : w.ownsRow B 24 7 v2 T.hd.length (T.hd.flatMap hdL)
  n1 : v1.ownBlock ≠ some b
  n2 : v2.ownBlock ≠ some b
  n12 : ∀ k, v1.ownBlock = some k → v2.ownBlock ≠ some k
  bB : B ≤ b
theorem infoInt : (Tryd.prog.info? 3).map (fun i => (i.zero, i.size, i.bytes)) = some (some (.int .i64 0), 1, 8) := by kernel_rfl
theorem infoHead : (Tryd.prog.info? 24).map (fun i => (i.zero, i.size, i.bytes)) = some (some (.agg #[.int .u64 0, .int .i64 0, .int .i64 0, .int .i64 0, .int .i64 0, .int .i64 0, .bool false]), 7, 56) := by kernel_rfl
theorem cell_ne {w : World} {b k j : Nat} {v : Value} (h : k ≠ j) : (w.setCell ⟨b, k, none⟩ v).cell? ⟨b, j, none⟩ = w.cell? ⟨b, j, none⟩ :=
  World.cell?_setCell_other w _ _ v (by intro e; cases e; exact h rfl)
theorem cell_eq {w : World} {b k : Nat} {v u : Value} (h : w.cell? ⟨b, k, none⟩ = some u) : (w.setCell ⟨b, k, none⟩ v).cell? ⟨b, k, none⟩ = some v := World.cell?_setCell_same w _ v h
theorem ownsRow_heap {w w' : World} {B : Nat} {e : TypeId} {sz : Nat} {v : Value} {n : Nat} {xs : List Value} (h : w.ownsRow B e sz v n xs) (he : ∀ k, v.ownBlock = some k → w'.heap[k]? = w.heap[k]?) : w'.ownsRow B e sz v n xs := by
  refine ⟨h.1, ?_⟩
  rcases h.2 with hn | ⟨g, cap, cur, hv, hb, hg, rest⟩
  · exact .inl hn
  · exact .inr ⟨g, cap, cur, hv, hb, (he g (by rw [hv]; rfl)).trans hg, rest⟩
theorem mem_fp {b : Nat} {v1 v2 : Value} {k : Nat} : k ∈ fpOf b v1 v2 ↔ k = b ∨ v1.ownBlock = some k ∨ v2.ownBlock = some k := by
  simp [fpOf, Option.mem_toList]
theorem TkAt.same {w w' : World} {b o : Nat} {ty : TypeId} {B : Nat} {T : Tk} {v1 v2 : Value} (h : TkAt w b o ty B T v1 v2) (e : ∀ k ∈ fpOf b v1 v2, w'.heap[k]? = w.heap[k]?) : TkAt w' b o ty B T v1 v2 := by
  have eb : w'.heap[b]? = w.heap[b]? := e b (mem_fp.2 (.inl rfl))
  have c : ∀ j, w'.cell? ⟨b, j, none⟩ = w.cell? ⟨b, j, none⟩ := fun j => World.cell?_of_block (a := ⟨b, j, none⟩) eb
  obtain ⟨cs, hb⟩ := h.hb
  exact ⟨⟨cs, eb.trans hb⟩, (c _).trans h.c0, (c _).trans h.c1, (c _).trans h.c2, (c _).trans h.c3, (c _).trans h.c4, (c _).trans h.c5, ownsRow_heap h.r1 fun k hk => e k (mem_fp.2 (.inr (.inl hk))), ownsRow_heap h.r2 fun k hk => e k (mem_fp.2 (.inr (.inr hk))), h.n1, h.n2, h.n12, h.bB⟩
theorem TkAt.lt {w : World} {b o : Nat} {ty : TypeId} {B : Nat} {T : Tk} {v1 v2 : Value} (h : TkAt w b o ty B T v1 v2) : ∀ k ∈ fpOf b v1 v2, k < w.heap.size ∧ B ≤ k := fun k hk => by
  rcases mem_fp.1 hk with rfl | hk | hk
  · exact ⟨World.block_lt_of_cell? w ⟨k, o, none⟩ h.c0, h.bB⟩
  · exact ⟨(h.r1.lt k hk).2, (h.r1.lt k hk).1⟩
  · exact ⟨(h.r2.lt k hk).2, (h.r2.lt k hk).1⟩
theorem TkAt.below {w w' : World} {b o : Nat} {ty : TypeId} {B : Nat} {T : Tk} {v1 v2 : Value} (h : TkAt w b o ty B T v1 v2) (hb : Below w.heap.size w w') : TkAt w' b o ty B T v1 v2 := h.same fun k hk => hb.block k (h.lt k hk).1
theorem TkAt.setDeaf {w : World} {b o : Nat} {ty : TypeId} {B : Nat} {T : Tk} {v1 v2 : Value} (h : TkAt w b o ty B T v1 v2) : TkAt (w.setCell ⟨b, o + 5, none⟩ (.bool true)) b o ty B { T with deaf := true } v1 v2 := by
  obtain ⟨cs, hb⟩ := h.hb
  refine ⟨⟨_, block_set hb _ _⟩, (cell_ne (by omega)).trans h.c0, (cell_ne (by omega)).trans h.c1, (cell_ne (by omega)).trans h.c2, (cell_ne (by omega)).trans h.c3, (cell_ne (by omega)).trans h.c4, cell_eq h.c5, ownsRow_heap h.r1 fun k hk => block_set_ne (fun e => h.n1 (by rw [hk, e])), ownsRow_heap h.r2 fun k hk => block_set_ne (fun e => h.n2 (by rw [hk, e])), h.n1, h.n2, h.n12, h.bB⟩
theorem TkAt.app1 {wB w1 : World} {b o : Nat} {ty : TypeId} {B : Nat} {T : Tk} {v1 v2 : Value} (h : TkAt wB b o ty B T v1 v2) (hg : wB.grownBy w1 v1.ownBlock) {s1 : Value} {g1 : Nat} {l : List Int} (hs : s1.ownBlock = some g1) (hat : v1.ownBlock = some g1 ∨ g1 = wB.heap.size)
    (hown : w1.ownsRow B 3 1 s1 (T.at_ ++ l).length ((T.at_ ++ l).map (Value.int .i64))) : TkAt (w1.setCell ⟨b, o, none⟩ s1) b o ty B { T with at_ := T.at_ ++ l } s1 v2 := by
  obtain ⟨cs, hb⟩ := h.hb
  have lb := lt_of_heap hb
  have e1 : ∀ j, w1.cell? ⟨b, j, none⟩ = wB.cell? ⟨b, j, none⟩ := fun j => hg.cell_far ⟨b, j, none⟩ lb (fun e => h.n1 e.symm)
  have hb1 := (hg.block b lb (fun e => h.n1 e.symm)).trans hb
  have nb : g1 ≠ b := by
    rcases hat with e | e
    · intro q; exact h.n1 (by rw [e, q])
    · omega
  have n2' : ∀ k, v2.ownBlock = some k → k ≠ g1 := fun k hk e => by
    rcases hat with q | q
    · exact h.n12 g1 q (by rw [hk, e])
    · have := (h.r2.lt k hk).2; omega
  refine ⟨⟨_, block_set hb1 _ _⟩, cell_eq ((e1 _).trans h.c0), (cell_ne (by omega)).trans ((e1 _).trans h.c1), (cell_ne (by omega)).trans ((e1 _).trans h.c2), (cell_ne (by omega)).trans ((e1 _).trans h.c3), (cell_ne (by omega)).trans ((e1 _).trans h.c4), (cell_ne (by omega)).trans ((e1 _).trans h.c5),
    ownsRow_heap hown fun k hk => block_set_ne (by rw [hs] at hk; cases hk; exact nb), ownsRow_heap h.r2 fun k hk => (block_set_ne (fun e => h.n2 (by rw [hk, e]))).trans (hg.block k (h.r2.lt k hk).2 (fun e => h.n12 k e.symm hk)), by rw [hs]; intro e; cases e; exact nb rfl, h.n2, fun k hk e => by rw [hs] at hk; cases hk; exact n2' _ e rfl, h.bB⟩
theorem TkAt.app2 {wB w1 : World} {b o : Nat} {ty : TypeId} {B : Nat} {T : Tk} {v1 v2 : Value} (h : TkAt wB b o ty B T v1 v2) (hg : wB.grownBy w1 v2.ownBlock) {s1 : Value} {g1 : Nat} {l : List Hd} (hs : s1.ownBlock = some g1) (hat : v2.ownBlock = some g1 ∨ g1 = wB.heap.size)
    (hown : w1.ownsRow B 24 7 s1 (T.hd ++ l).length ((T.hd ++ l).flatMap hdL)) : TkAt (w1.setCell ⟨b, o + 1, none⟩ s1) b o ty B { T with hd := T.hd ++ l } v1 s1 := by
  obtain ⟨cs, hb⟩ := h.hb
  have lb := lt_of_heap hb
  have e1 : ∀ j, w1.cell? ⟨b, j, none⟩ = wB.cell? ⟨b, j, none⟩ := fun j => hg.cell_far ⟨b, j, none⟩ lb (fun e => h.n2 e.symm)
  have hb1 := (hg.block b lb (fun e => h.n2 e.symm)).trans hb
  have nb : g1 ≠ b := by
    rcases hat with e | e
    · intro q; exact h.n2 (by rw [e, q])
    · omega
  have n1' : ∀ k, v1.ownBlock = some k → k ≠ g1 := fun k hk e => by
    rcases hat with q | q
    · exact h.n12 k hk (by rw [q, e])
    · have := (h.r1.lt k hk).2; omega
  refine ⟨⟨_, block_set hb1 _ _⟩, (cell_ne (by omega)).trans ((e1 _).trans h.c0), cell_eq ((e1 _).trans h.c1), (cell_ne (by omega)).trans ((e1 _).trans h.c2), (cell_ne (by omega)).trans ((e1 _).trans h.c3), (cell_ne (by omega)).trans ((e1 _).trans h.c4), (cell_ne (by omega)).trans ((e1 _).trans h.c5),
    ownsRow_heap h.r1 fun k hk => (block_set_ne (fun e => h.n1 (by rw [hk, e]))).trans (hg.block k (h.r1.lt k hk).2 (fun e => h.n12 k hk e.symm)), ownsRow_heap hown fun k hk => block_set_ne (by rw [hs] at hk; cases hk; exact nb), h.n1, by rw [hs]; intro e; cases e; exact nb rfl, fun k hk e => by rw [hs] at e; cases e; exact n1' _ hk rfl, h.bB⟩
theorem TkAt.setDone {w : World} {b o : Nat} {ty : TypeId} {B : Nat} {T : Tk} {v1 v2 : Value} (h : TkAt w b o ty B T v1 v2) (d : Bool) : TkAt (w.setCell ⟨b, o + 4, none⟩ (.bool d)) b o ty B { T with done := d } v1 v2 := by
  obtain ⟨cs, hb⟩ := h.hb
  refine ⟨⟨_, block_set hb _ _⟩, (cell_ne (by omega)).trans h.c0, (cell_ne (by omega)).trans h.c1, (cell_ne (by omega)).trans h.c2, (cell_ne (by omega)).trans h.c3, cell_eq h.c4, (cell_ne (by omega)).trans h.c5, ownsRow_heap h.r1 fun k hk => block_set_ne (fun e => h.n1 (by rw [hk, e])), ownsRow_heap h.r2 fun k hk => block_set_ne (fun e => h.n2 (by rw [hk, e])), h.n1, h.n2, h.n12, h.bB⟩
theorem Only.grown {S : List Nat} {a w w' : World} {row : Option Nat} (h : Only S a w) (hg : w.grownBy w' row) (hr : ∀ k, row = some k → k ∈ S) : Only S a w' :=
  ⟨hg.os.trans h.os, hg.tape.trans h.tape, hg.output.trans h.output, Nat.le_trans h.size hg.size, fun k hk hn => (hg.block k (Nat.lt_of_lt_of_le hk h.size) (fun e => hn (hr k e.symm))).trans (h.block k hk hn)⟩
set_option maxRecDepth 100000 in
set_option maxHeartbeats 4000000 in
theorem take_done (b o : Nat) (ty : TypeId) (B : Nat) (T : Tk) (v1 v2 : Value) (x : Int) (h : Hd) (w : World) (hT : TkAt w b o ty B T v1 v2) (hd : T.done = true) :
    Calls Tryd.prog 136 #[.pointer (some ⟨b, o, none⟩), .int .i64 x, h.val] w fun e w' => e = .returned (.bool false) ∧ TkAt w' b o ty B { T with deaf := true } v1 v2 ∧ (∀ j, j < o ∨ o + 6 ≤ j → w'.cell? ⟨b, j, none⟩ = w.cell? ⟨b, j, none⟩) ∧ Only [b] w w' := by
  obtain ⟨x0, x1, x2, x3, x4, x5, x6⟩ := h
  unfold Hd.val
  simp only
  have lb : b < w.heap.size := World.block_lt_of_cell? w ⟨b, o, none⟩ hT.c0
  have c4 := hT.c4
  have c5 := hT.c5
  rw [hd] at c4
  have f5 : w.frozen? ⟨b, o + 5, none⟩ = false := by obtain ⟨cs, hb⟩ := hT.hb; exact (hcell hb).2 _
  go_enter Tryd.func136, Tryd.ntmps136
  go_wp2
  go_ret
  have hO : Only [b] w (w.setCell ⟨b, o + 5, none⟩ (.bool true)) := (Only.refl [b] w).setCell (by simp) _
  refine ⟨rfl, hT.setDeaf.below ((Below.refl _ _).alloc (Nat.le_refl _) _), fun j hj => ?_, hO.alloc _⟩
  have hbA := (Below.refl (w.setCell ⟨b, o + 5, none⟩ (.bool true)).heap.size (w.setCell ⟨b, o + 5, none⟩ (.bool true))).alloc (Nat.le_refl _) (.cells #[.int .u64 x0, .int .i64 x1, .int .i64 x2, .int .i64 x3, .int .i64 x4, .int .i64 x5, .bool x6] 24)
  exact (hbA.cell (p := ⟨b, j, none⟩) (by simpa using lb)).trans (cell_ne (by omega))
set_option maxRecDepth 100000 in
set_option maxHeartbeats 8000000 in
theorem take_on (b o : Nat) (ty : TypeId) (B : Nat) (T : Tk) (v1 v2 : Value) (x : Int) (h : Hd) (w : World) (hT : TkAt w b o ty B T v1 v2) (hB : B ≤ w.heap.size) (hd : T.done = false) (hn : T.at_.length ≤ 1000000) (hn2 : T.hd.length ≤ 1000000) :
    Calls Tryd.prog 136 #[.pointer (some ⟨b, o, none⟩), .int .i64 x, h.val] w fun e w' => e = .returned (.bool (!(T.take x h).done)) ∧ ∃ v1' v2', TkAt w' b o ty B (T.take x h) v1' v2' ∧ (∀ k ∈ fpOf b v1' v2', k ∈ fpOf b v1 v2 ∨ w.heap.size ≤ k) ∧ (∀ j, j < o ∨ o + 6 ≤ j → w'.cell? ⟨b, j, none⟩ = w.cell? ⟨b, j, none⟩) ∧ Only (fpOf b v1 v2) w w' := by
  obtain ⟨x0, x1, x2, x3, x4, x5, x6⟩ := h
  unfold Hd.val
  simp only
  obtain ⟨i1, hi1, hz1, hs1, hy1⟩ := info_parts infoInt
  obtain ⟨i2, hi2, hz2, hs2, hy2⟩ := info_parts infoHead
  have lb : b < w.heap.size := World.block_lt_of_cell? w ⟨b, o, none⟩ hT.c0
  have c4 := hT.c4
  have c0 := hT.c0
  rw [hd] at c4
  obtain ⟨cs, hb⟩ := hT.hb
  have ff := (hcell hb).2
  go_enter Tryd.func136, Tryd.ntmps136
  go_upto_region 4 with fail
  have hbA := (Below.refl w.heap.size w).alloc (Nat.le_refl _) (.cells #[.int .u64 x0, .int .i64 x1, .int .i64 x2, .int .i64 x3, .int .i64 x4, .int .i64 x5, .bool x6] 24)
  have hH := heap_one w (.cells #[.int .u64 x0, .int .i64 x1, .int .i64 x2, .int .i64 x3, .int .i64 x4, .int .i64 x5, .bool x6] 24)
  have hTA := hT.below hbA
  generalize w.alloc (.cells #[.int .u64 x0, .int .i64 x1, .int .i64 x2, .int .i64 x3, .int .i64 x4, .int .i64 x5, .bool x6] 24) = wA at *
  clear c0 c4 ff hb
  have c0 := hTA.c0
  obtain ⟨cs, hb⟩ := hTA.hb
  have ff := (hcell hb).2
  have lA := lt_of_heap hb
  have lH := lt_of_heap hH
  have bA : B ≤ wA.heap.size := by omega
  have hTB := hTA.below ((Below.refl wA.heap.size wA).alloc (Nat.le_refl _) (.cells #[.int .i64 x] 3))
  have hHB := ((Below.refl wA.heap.size wA).alloc (Nat.le_refl _) (.cells #[.int .i64 x] 3)).block _ lH
  go_upto_region 5 with (at_builtin; refine wpList_append_lies _ rfl _ _ 59 rfl B 3 i1 (.int .i64 0) 1 8 Tryd.underlying59 hi1 hz1 hs1 hy1 rfl (by decide) v1 T.at_.length _ rfl (hTA.r1.alloc _) ⟨wA.heap.size, 0, none⟩ 1 1 [.int .i64 x] rfl rfl (cell_one_new _ _ _) (fun u hu => by simp at hu; subst hu; rfl) (by decide) (by unfold maxLen; omega) (by omega) (by simp; omega) (wA.heap.size + 1) (by simp) ?_; intro g1 cap1 w1 hown1 hgrow1 hat1 hlt1; obtain ⟨cs1, hb1⟩ := hTB.hb; replace hb1 := (hgrow1.block b (by simp; omega) (fun e => hT.n1 e.symm)).trans hb1; have f1 := (hcell hb1).2; have cc := (hgrow1.cell_far ⟨b, o, none⟩ (by simp; omega) (fun e => hT.n1 e.symm)).trans hTB.c0)
  have hT2 := hTB.app1 (l := [x]) hgrow1 rfl (by simpa using hat1) (by simpa using hown1)
  have hH2 := (block_set_ne (o := o) (v := .slice (some ⟨g1, 0, none⟩) (T.at_.length + 1) cap1) (show w.heap.size ≠ b by omega)).trans ((hgrow1.block w.heap.size (by simp; omega) (fun e => by have := (hT.r1.lt _ e.symm).2; omega)).trans (hHB.trans hH))
  have hO2 : Only (fpOf b v1 v2) w (w1.setCell ⟨b, o, none⟩ (.slice (some ⟨g1, 0, none⟩) (T.at_.length + 1) cap1)) :=
    Only.setCell (p := ⟨b, o, none⟩) (((Only.of_below hbA).alloc _).grown hgrow1 (fun k hk => mem_fp.2 (.inr (.inl hk)))) (mem_fp.2 (.inl rfl)) _
  have hg1 : v1.ownBlock = some g1 ∨ w.heap.size ≤ g1 := by
    rcases hat1 with q | q
    · exact .inl q
    · right; omega
  have hC2 : ∀ j, j < o ∨ o + 6 ≤ j → (w1.setCell ⟨b, o, none⟩ (.slice (some ⟨g1, 0, none⟩) (T.at_.length + 1) cap1)).cell? ⟨b, j, none⟩ = w.cell? ⟨b, j, none⟩ := fun j hj => by
    rw [cell_ne (by omega)]
    exact (hgrow1.cell_far ⟨b, j, none⟩ (by simp; omega) (fun e => hT.n1 e.symm)).trans ((((Below.refl wA.heap.size wA).alloc (Nat.le_refl _) (.cells #[.int .i64 x] 3)).cell (p := ⟨b, j, none⟩) lA).trans (hbA.cell (p := ⟨b, j, none⟩) lb))
  have hv2 := fun k hk => (hT.r2.lt k hk).2
  have lsz := hO2.size
  clear hT hTA hTB hHB hbA hH hb hown1 hgrow1 hat1 hlt1 hb1 f1 cc c0 ff lA lH bA cs1 cs
  generalize w1.setCell ⟨b, o, none⟩ (.slice (some ⟨g1, 0, none⟩) (T.at_.length + 1) cap1) = w2 at *
  have c1 := hT2.c1
  have ch := (hcell hH2).1
  have lq := lt_of_heap hH2
  obtain ⟨cs2, hb2⟩ := hT2.hb
  have lb2 := lt_of_heap hb2
  have f2 := (hcell hb2).2
  have bB2 : B ≤ w2.heap.size := by have := hT2.bB; omega
  have r2 := hT2.r2
  simp only at r2 c1
  have nq2 : some w.heap.size ≠ v2.ownBlock := fun e => by have := hv2 _ e.symm; omega
  have nb2 : some b ≠ v2.ownBlock := fun e => hT2.n2 e.symm
  have fo2 := f2 (o + 1)
  go_cut [] from 24 (fun wx => ∃ u1 u2, TkAt wx b o ty B { T with at_ := T.at_ ++ [x], hd := T.hd ++ [⟨x0, x1, x2, x3, x4, x5, x6⟩] } u1 u2 ∧ (∀ k ∈ fpOf b u1 u2, k ∈ fpOf b v1 v2 ∨ w.heap.size ≤ k) ∧ (∀ j, j < o ∨ o + 6 ≤ j → wx.cell? ⟨b, j, none⟩ = w.cell? ⟨b, j, none⟩) ∧ Only (fpOf b v1 v2) w wx)
  case first =>
    go_region_law (refine step_append_lies _ (by rfl) _ _ 138 (by rfl) B 24 i2 _ 7 56 Tryd.underlying138 hi2 hz2 hs2 hy2 rfl (by decide) v2 T.hd.length _ (by rfl) ((r2.alloc _).drew) ⟨w2.heap.size, 0, none⟩ 1 1 (hdL ⟨x0, x1, x2, x3, x4, x5, x6⟩) (by rfl) (by rfl) (World.news_of_block (cs := #[.int .u64 x0, .int .i64 x1, .int .i64 x2, .int .i64 x3, .int .i64 x4, .int .i64 x5, .bool x6]) (t := 24) (fr := (0, 0)) (heap_alloc_new w2 _)) (by simp [hdL, Value.oneCell']) (by omega) (by unfold maxLen; omega) (by omega) (by simp; omega) (w2.heap.size + 1) (by simp) ?_; intro g2 cap2 w3 hown2 hgrow2 hat2 hlt2; have q1 := hgrow2.cell_far ⟨b, o + 1, none⟩ (by simp; omega) nb2; have q2 := hgrow2.frozen_far ⟨b, o + 1, none⟩ (by simp; omega) nb2)
    all_goals
      go_wp2_with fail
      go_meet
      have hbX := ((Below.refl w2.heap.size w2).alloc (Nat.le_refl _) (.cells #[.int .u64 x0, .int .i64 x1, .int .i64 x2, .int .i64 x3, .int .i64 x4, .int .i64 x5, .bool x6] 24)).drew
      refine ⟨_, _, (hT2.below hbX).app2 (l := [⟨x0, x1, x2, x3, x4, x5, x6⟩]) hgrow2 rfl (by simpa using hat2) (by simpa [List.flatMap_append] using hown2), fun k hk => ?_, fun j hj => ?_, ?_⟩
      · rcases mem_fp.1 hk with rfl | hk | hk
        · exact .inl (mem_fp.2 (.inl rfl))
        · cases hk
          rcases hg1 with q | q
          · exact .inl (mem_fp.2 (.inr (.inl q)))
          · exact .inr q
        · cases hk
          rcases hat2 with q | q
          · exact .inl (mem_fp.2 (.inr (.inr q)))
          · right; show w.heap.size ≤ g2; omega
      · rw [cell_ne (by omega)]
        exact (hgrow2.cell_far ⟨b, j, none⟩ (by simp; omega) nb2).trans ((hbX.cell (p := ⟨b, j, none⟩) lb2).trans (hC2 j hj))
      · exact Only.setCell (p := ⟨b, o + 1, none⟩) (((hO2.alloc _).drew).grown hgrow2 (fun k hk => mem_fp.2 (.inr (.inr hk)))) (mem_fp.2 (.inl rfl)) _
  case rest =>
    obtain ⟨u1, u2, hT3, hfp, hC3, hO3⟩ := hcut
    clear hT2 hO2 hC2 hH2 hv2 c1 ch lq hb2 lb2 f2 bB2 r2 nb2 fo2 nq2
    obtain ⟨g3, cap3, rfl, -, -⟩ := hT3.r1.form (by simp)
    have lb3 := (hT3.lt b (mem_fp.2 (.inl rfl))).1
    obtain ⟨cs3, hb3⟩ := hT3.hb
    have f3 := (hcell hb3).2
    have k0 := hT3.c0
    have k2 := hT3.c2
    have k3 := hT3.c3
    have k4 := hT3.c4
    have ht : T.take x ⟨x0, x1, x2, x3, x4, x5, x6⟩ = { T with at_ := T.at_ ++ [x], hd := T.hd ++ [⟨x0, x1, x2, x3, x4, x5, x6⟩], done := decide ((T.at_.length : Int) + 1 = T.stop) || decide (T.most < (T.at_.length : Int) + 1) } := by unfold Tk.take; rw [hd]; rfl
    simp only [List.length_append, List.length_cons, List.length_nil] at k0 k2 k3 k4
    have FIN := Lib.hid (fun (d : Bool) (hq : (decide ((T.at_.length : Int) + 1 = T.stop) || decide (T.most < (T.at_.length : Int) + 1)) = d) =>
      (⟨_, u2, by
          have hz := (hT3.setDone d).below ((Below.refl (wc.setCell ⟨b, o + 4, none⟩ (.bool d)).heap.size (wc.setCell ⟨b, o + 4, none⟩ (.bool d))).drew)
          rw [ht, hq]; exact hz, hfp, fun j hj => (cell_ne (by omega)).trans (hC3 j hj), (Only.setCell (p := ⟨b, o + 4, none⟩) hO3 (mem_fp.2 (.inl rfl)) _).drew⟩ :
        ∃ v1' v2', TkAt (wc.setCell ⟨b, o + 4, none⟩ (.bool d)).drew b o ty B (T.take x ⟨x0, x1, x2, x3, x4, x5, x6⟩) v1' v2' ∧ (∀ k ∈ fpOf b v1' v2', k ∈ fpOf b v1 v2 ∨ w.heap.size ≤ k) ∧ (∀ j, j < o ∨ o + 6 ≤ j → (wc.setCell ⟨b, o + 4, none⟩ (.bool d)).drew.cell? ⟨b, j, none⟩ = w.cell? ⟨b, j, none⟩) ∧ Only (fpOf b v1 v2) w (wc.setCell ⟨b, o + 4, none⟩ (.bool d)).drew))
    have hdn : (T.take x ⟨x0, x1, x2, x3, x4, x5, x6⟩).done = (decide ((T.at_.length : Int) + 1 = T.stop) || decide (T.most < (T.at_.length : Int) + 1)) := by rw [ht]
    have HDN := Lib.hid hdn
    clear hdn ht hC3 hO3 hfp hT3
    by_cases q1 : (T.at_.length : Int) + 1 = T.stop
    · have e1 : ((T.at_.length : Int) + 1 == T.stop) = true := by simpa using q1
      have hq : (decide ((T.at_.length : Int) + 1 = T.stop) || decide (T.most < (T.at_.length : Int) + 1)) = true := by simp [q1]
      have F := Lib.hid (FIN.out true hq)
      have HD := Lib.hid (HDN.out.trans hq)
      clear FIN HDN hq q1
      go_upto_region 6 with fail
      go_big_region
      go_wp2_with fail
      go_ret
      exact ⟨by rw [HD.out]; rfl, F.out⟩
    · have e1 : ((T.at_.length : Int) + 1 == T.stop) = false := by simpa using q1
      by_cases q2 : T.most < (T.at_.length : Int) + 1
      · have e2 : decide (T.most < (T.at_.length : Int) + 1) = true := by simpa using q2
        have hq : (decide ((T.at_.length : Int) + 1 = T.stop) || decide (T.most < (T.at_.length : Int) + 1)) = true := by simp [q2]
        have F := Lib.hid (FIN.out true hq)
        have HD := Lib.hid (HDN.out.trans hq)
        clear FIN HDN hq q1 q2
        go_upto_region 6 with fail
        go_big_region
        go_wp2_with fail
        go_ret
        exact ⟨by rw [HD.out]; rfl, F.out⟩
      · have e2 : decide (T.most < (T.at_.length : Int) + 1) = false := by simpa using q2
        have hq : (decide ((T.at_.length : Int) + 1 = T.stop) || decide (T.most < (T.at_.length : Int) + 1)) = false := by simp [q1, q2]
        have F := Lib.hid (FIN.out false hq)
        have HD := Lib.hid (HDN.out.trans hq)
        clear FIN HDN hq q1 q2
        go_upto_region 6 with fail
        go_big_region
        go_wp2_with fail
        go_ret
        exact ⟨by rw [HD.out]; rfl, F.out⟩
theorem Tk.take_len {T : Tk} (hl : T.at_.length = T.hd.length) (x : Int) (h : Hd) : (T.take x h).at_.length = (T.take x h).hd.length := by
  unfold Tk.take; split <;> simp [hl]
theorem take_any (b o : Nat) (ty : TypeId) (B : Nat) (T : Tk) (v1 v2 : Value) (x : Int) (h : Hd) (w : World) (hT : TkAt w b o ty B T v1 v2) (hB : B ≤ w.heap.size) (hn : T.at_.length ≤ 1000000) (hl : T.at_.length = T.hd.length) :
    Calls Tryd.prog 136 #[.pointer (some ⟨b, o, none⟩), .int .i64 x, h.val] w fun e w' => e = .returned (.bool (!(T.take x h).done)) ∧ ∃ v1' v2', TkAt w' b o ty B (T.take x h) v1' v2' ∧ (∀ k ∈ fpOf b v1' v2', k ∈ fpOf b v1 v2 ∨ w.heap.size ≤ k) ∧ (∀ j, j < o ∨ o + 6 ≤ j → w'.cell? ⟨b, j, none⟩ = w.cell? ⟨b, j, none⟩) ∧ Only (fpOf b v1 v2) w w' := by
  by_cases hd : T.done = true
  · refine (take_done b o ty B T v1 v2 x h w hT hd).mono fun e w' ⟨h1, h2, h3, h4⟩ => ?_
    have ht : T.take x h = { T with deaf := true } := by unfold Tk.take; rw [if_pos hd]
    rw [ht]
    exact ⟨by rw [h1]; simp [hd], v1, v2, h2, fun k hk => .inl hk, h3, h4.mono (fun k hk => by simp at hk; rw [hk]; exact mem_fp.2 (.inl rfl))⟩
  · exact take_on b o ty B T v1 v2 x h w hT hB (by simpa using hd) hn (by omega)
end Go.Proofs.YtomgfdfgildkbaaDoor
/- A walk through a space's objects with a taker. -/

namespace Go.Proofs.YtomgfdfgildkbaaDoor
open Go.RowKit Go.BigFrame

/-- What a taker holds behind a walk: it takes till it is done. -/
def Tk.over : Tk → List (Int × Hd) → Tk
  | T, [] => T
  | T, x :: l => if (T.take x.1 x.2).done then T.take x.1 x.2 else (T.take x.1 x.2).over l
def Tk.run (T : Tk) (l : List (Int × Hd)) : Tk := l.foldl (fun T x => T.take x.1 x.2) T
theorem Tk.run_snoc (T : Tk) (l : List (Int × Hd)) (x : Int × Hd) : T.run (l ++ [x]) = (T.run l).take x.1 x.2 := by simp [Tk.run]
/-- As long as none of the beginnings made it done. -/
def Tk.open_ (T : Tk) (l : List (Int × Hd)) : Prop := ∀ p, p <+: l → (T.run p).done = false
theorem Tk.over_open {T : Tk} {l m : List (Int × Hd)} (h : ∀ p, p <+: l → p ≠ [] → (T.run p).done = false) : T.over (l ++ m) = (T.run l).over m := by
  induction l generalizing T with
  | nil => rfl
  | cons x l ih =>
    have h1 : (T.take x.1 x.2).done = false := h [x] (by simp) (by simp)
    show (if (T.take x.1 x.2).done then T.take x.1 x.2 else (T.take x.1 x.2).over (l ++ m)) = _
    rw [h1]
    show (T.take x.1 x.2).over (l ++ m) = _
    rw [ih (T := T.take x.1 x.2) (fun p hp hn => h (x :: p) (by simpa using hp) (by simp))]
    rfl
theorem Tk.over_stop {T : Tk} {l m : List (Int × Hd)} {x : Int × Hd} (h : ∀ p, p <+: l → p ≠ [] → (T.run p).done = false) (hd : (T.run (l ++ [x])).done = true) : T.over (l ++ x :: m) = T.run (l ++ [x]) := by
  rw [Tk.over_open h, Tk.run_snoc]
  rw [Tk.run_snoc] at hd
  show (if ((T.run l).take x.1 x.2).done then (T.run l).take x.1 x.2 else _) = _
  rw [hd]; rfl
theorem Tk.run_len {T : Tk} (hl : T.at_.length = T.hd.length) (l : List (Int × Hd)) : (T.run l).at_.length = (T.run l).hd.length := by
  induction l generalizing T with
  | nil => exact hl
  | cons x l ih => exact ih (T := T.take x.1 x.2) (Tk.take_len hl _ _)
theorem Tk.run_le (T : Tk) (l : List (Int × Hd)) : (T.run l).at_.length ≤ T.at_.length + l.length := by
  induction l generalizing T with
  | nil => simp [Tk.run]
  | cons x l ih =>
    have := ih (T.take x.1 x.2)
    have h2 : (T.take x.1 x.2).at_.length ≤ T.at_.length + 1 := by unfold Tk.take; split <;> simp
    show ((T.take x.1 x.2).run l).at_.length ≤ _
    simp only [List.length_cons]; omega
theorem Frame.of_only {fp : List Nat} {w w' : World} (h : Only fp w w') (ht : ∀ k ∈ fp, ∃ cs ty, w.heap[k]? = some (Obj.cells cs ty (0, 0)) ∧ ty ≠ 193) : Frame fp w w' :=
  ⟨h.size, h.block, fun k cs fr hk => h.block k (lt_of_heap hk) (fun hm => by obtain ⟨cs', ty, h1, h2⟩ := ht k hm; rw [h1] at hk; cases hk; exact h2 rfl),
    h.size, fun k o hk ho => (h.block k (lt_of_heap hk) (fun hm => by obtain ⟨cs', ty, h1, h2⟩ := ht k hm; rw [h1] at hk; cases hk; cases ho)).trans hk⟩
theorem TkAt.types {w : World} {b o : Nat} {ty : TypeId} {B : Nat} {T : Tk} {v1 v2 : Value} (h : TkAt w b o ty B T v1 v2) (hty : ty ≠ 193) : ∀ k ∈ fpOf b v1 v2, ∃ cs ty, w.heap[k]? = some (Obj.cells cs ty (0, 0)) ∧ ty ≠ 193 := fun k hk => by
  rcases mem_fp.1 hk with rfl | hk | hk
  · obtain ⟨cs, hb⟩ := h.hb; exact ⟨cs, ty, hb, hty⟩
  · rcases h.r1.2 with ⟨hn, _⟩ | ⟨g, cap, cur, hv, _, hg, _⟩
    · rw [hn] at hk; cases hk
    · rw [hv] at hk; cases hk; exact ⟨cur, _, hg, by decide⟩
  · rcases h.r2.2 with ⟨hn, _⟩ | ⟨g, cap, cur, hv, _, hg, _⟩
    · rw [hn] at hk; cases hk
    · rw [hv] at hk; cases hk; exact ⟨cur, _, hg, by decide⟩
theorem only_own {β : Type} {S : List Nat} {w : World} {B : Nat} (hB : w.heap.size ≤ B) : OwnFrom B (fun (_ : β) W => Only S w W) := fun _ X Y row hs hg hr =>
  ⟨hg.os.trans hs.os, hg.tape.trans hs.tape, hg.output.trans hs.output, Nat.le_trans hs.size hg.size, fun k hk hn => (hg.block k (Nat.lt_of_lt_of_le hk hs.size) (fun e => by have := (hr k e.symm).1; omega)).trans (hs.block k hk hn)⟩
theorem cells_turn {X Y : World} {row : Option Nat} {B k : Nat} {cs : Array Value} {ty : TypeId} {fr : Nat × Nat} (h : X.heap[k]? = some (Obj.cells cs ty fr)) (hg : X.grownBy Y row) (hr : ∀ r, row = some r → B ≤ r ∧ ∃ o : Obj, X.heap[r]? = some o ∧ o.isCells = false) : Y.heap[k]? = X.heap[k]? :=
  hg.block k (lt_of_heap h) (fun e => by obtain ⟨o, ho, hc⟩ := (hr k e.symm).2; rw [h] at ho; cases ho; cases hc)
theorem TkAt.turn {X Y : World} {row : Option Nat} {B0 : Nat} {b o : Nat} {ty : TypeId} {B : Nat} {T : Tk} {v1 v2 : Value} (h : TkAt X b o ty B T v1 v2) (hg : X.grownBy Y row) (hr : ∀ r, row = some r → B0 ≤ r ∧ ∃ o : Obj, X.heap[r]? = some o ∧ o.isCells = false) : TkAt Y b o ty B T v1 v2 := by
  refine h.same fun k hk => ?_
  rcases mem_fp.1 hk with rfl | hk | hk
  · obtain ⟨cs, hb⟩ := h.hb; exact cells_turn hb hg hr
  · rcases h.r1.2 with ⟨hn, _⟩ | ⟨g, cap, cur, hv, _, hg', _⟩
    · rw [hn] at hk; cases hk
    · rw [hv] at hk; cases hk; exact cells_turn hg' hg hr
  · rcases h.r2.2 with ⟨hn, _⟩ | ⟨g, cap, cur, hv, _, hg', _⟩
    · rw [hn] at hk; cases hk
    · rw [hv] at hk; cases hk; exact cells_turn hg' hg hr
theorem Ar.things_len (A : Ar) (s : Int) (n : Nat) : ∀ i, (A.top s - i).toNat = n → (A.things s i).length ≤ n := by
  induction n using Nat.strongRecOn with
  | ind n ih =>
    intro i hi
    by_cases h : i < A.top s
    · by_cases h2 : 0 < (A.th s i).words
      · rw [A.things_on h h2]
        have := ih (A.top s - (i + (A.th s i).words)).toNat (by omega) _ rfl
        simp only [List.length_cons]; omega
      · rw [A.things_bad h h2]; simp; omega
    · rw [A.things_end h]; simp
theorem Ar.objs_len {A : Ar} (ok : A.Ok) (s : Int) : (A.objs s).length ≤ 262145 := by
  unfold Ar.objs
  split
  · have h := A.things_len s _ (A.first s) rfl
    obtain ⟨_, h1, h2⟩ := ok.top_le s
    have h3 : (objsOf (A.things s (A.first s))).length ≤ (A.things s (A.first s)).length := by
      unfold objsOf; rw [List.length_map]; exact List.length_filter_le _ _
    omega
  · simp
/-- What a walk with a taker leaves. -/
structure TkWalked (w w' : World) (b o : Nat) (ty : TypeId) (B : Nat) (T : Tk) (fp0 : List Nat) : Prop where
  t : ∃ u1 u2, TkAt w' b o ty B T u1 u2 ∧ ∀ k ∈ fpOf b u1 u2, k ∈ fp0 ∨ w.heap.size ≤ k
  c : ∀ j, j < o ∨ o + 6 ≤ j → w'.cell? ⟨b, j, none⟩ = w.cell? ⟨b, j, none⟩
  only : Only fp0 w w'
set_option maxRecDepth 100000 in
set_option maxHeartbeats 4000000 in
theorem obj1_take (b wb bs ba : Nat) (A : Ar) (s : Int) (S : List Nat) (m1 : b ∈ S) (m2 : wb ∈ S) (m3 : bs ∈ S) (m4 : ba ∈ S) (m5 : 1 ∈ S) (m6 : 0 ∈ S) (ok : A.Ok) (w : World) (tb : Tab w) (hA : ArAt w b wb A)
    (hbs : w.cell? ⟨bs, 0, none⟩ = some (.int .i64 s)) (hba : w.cell? ⟨ba, 0, none⟩ = some (.pointer (some ⟨b, 0, none⟩))) (hS : ∀ k ∈ S, k < w.heap.size)
    (t o : Nat) (ty : TypeId) (B : Nat) (T : Tk) (v1 v2 : Value) (hT : TkAt w t o ty B T v1 v2) (hty : ty ≠ 193) (hB : B ≤ w.heap.size) (hd0 : ∀ k ∈ S, k ∉ fpOf t v1 v2) (hl : T.at_.length = T.hd.length) (hn : T.at_.length ≤ 500000) :
    Calls Tryd.prog 152 #[.func (.func 136) #[.pointer (some ⟨t, o, none⟩)] #[], .pointer (some ⟨ba, 0, none⟩), .pointer (some ⟨bs, 0, none⟩)] w fun e w' => e = .returned (.tuple #[]) ∧ TkWalked w w' t o ty B (T.over (A.objs s)) (fpOf t v1 v2) := by
  have C := obj1_calls b wb bs ba A s S m1 m2 m3 m4 m5 m6 ok w tb hA hbs hba hS 136 #[.pointer (some ⟨t, o, none⟩)] #[] (enters_of Tryd.func136 (by kernel_rfl) rfl)
    (fun pre fp W => (∀ p, p <+: pre → p ≠ [] → (T.run p).done = false) ∧ (∃ u1 u2, fp = fpOf t u1 u2 ∧ TkAt W t o ty B (T.run pre) u1 u2 ∧ ∀ k ∈ fpOf t u1 u2, k ∈ fpOf t v1 v2 ∨ w.heap.size ≤ k) ∧ (∀ j, j < o ∨ o + 6 ≤ j → W.cell? ⟨t, j, none⟩ = w.cell? ⟨t, j, none⟩) ∧ Only (fpOf t v1 v2) w W)
    (fun pre W => ∃ q x, pre = q ++ [x] ∧ (∀ p, p <+: q → p ≠ [] → (T.run p).done = false) ∧ (T.run pre).done = true ∧ TkWalked w W t o ty B (T.run pre) (fpOf t v1 v2))
    ?_ ?_ ?_ (fpOf t v1 v2) hd0 ?_ ?_
  · refine C.mono fun e w' ⟨h1, h2⟩ => ⟨h1, ?_⟩
    rcases h2 with ⟨fp, h3, ⟨u1, u2, _, h4, h5⟩, h6, h7⟩ | ⟨pre, hp, q, x, rfl, h3, h4, h5⟩
    · have ho : T.over (A.objs s) = T.run (A.objs s) := by
        have := Tk.over_open (m := []) h3
        rw [List.append_nil] at this
        exact this
      rw [ho]
      exact ⟨⟨u1, u2, h4, h5⟩, h6, h7⟩
    · obtain ⟨m, hm⟩ := hp
      have ho : T.over (A.objs s) = T.run (q ++ [x]) := by
        rw [← hm, List.append_assoc]
        exact Tk.over_stop h3 h4
      rw [ho]
      exact h5
  · intro st X Y row hs hg hr
    obtain ⟨h1, ⟨u1, u2, h2, h3, h4⟩, h5, h6⟩ := hs
    obtain ⟨cs, hb⟩ := h3.hb
    have eb := cells_turn hb hg hr
    exact ⟨h1, ⟨u1, u2, h2, h3.turn hg hr, h4⟩, fun j hj => (World.cell?_of_block (a := ⟨t, j, none⟩) eb).trans (h5 j hj), only_own (Nat.le_refl _) () X Y row h6 hg hr⟩
  · intro pre X Y row hs hg hr
    obtain ⟨q, x, h0, h1, h2, ⟨u1, u2, h3, h4⟩, h5, h6⟩ := hs
    obtain ⟨cs, hb⟩ := h3.hb
    have eb := cells_turn hb hg hr
    exact ⟨q, x, h0, h1, h2, ⟨u1, u2, h3.turn hg hr, h4⟩, fun j hj => (World.cell?_of_block (a := ⟨t, j, none⟩) eb).trans (h5 j hj), only_own (Nat.le_refl _) () X Y row h6 hg hr⟩
  · rintro pre fp W ⟨_, ⟨u1, u2, rfl, h3, _⟩, _⟩ k hk
    exact (h3.lt k hk).1
  · rintro pre fp x W ⟨h1, ⟨u1, u2, rfl, h3, h4⟩, h5, h6⟩ hpre hk
    have hlen : pre.length < (A.objs s).length := by
      obtain ⟨m, hm⟩ := hpre
      rw [← hm]; simp
    have h262 := A.objs_len ok s
    have hle := Tk.run_le T pre
    have K := take_any t o ty B (T.run pre) u1 u2 x.1 x.2 W h3 (Nat.le_trans hB h6.size) (by omega) (Tk.run_len hl pre)
    have ht := h3.types hty
    have hlt : ∀ k ∈ fpOf t u1 u2, k ∈ fpOf t v1 v2 ∨ w.heap.size ≤ k := h4
    have ea : (#[Value.pointer (some ⟨t, o, none⟩)] ++ (#[Value.int .i64 x.1, x.2.val] ++ #[]) : Array Value) = #[.pointer (some ⟨t, o, none⟩), .int .i64 x.1, x.2.val] := rfl
    rw [ea]
    refine K.mono fun e W' ⟨he, u1', u2', h7, h8, h9, h10⟩ => ⟨?_, Frame.of_only h10 ht⟩
    have h11 : Only (fpOf t v1 v2) w W' := ⟨h10.os.trans h6.os, h10.tape.trans h6.tape, h10.output.trans h6.output, Nat.le_trans h6.size h10.size, fun k hk hn => (h10.block k (Nat.lt_of_lt_of_le hk h6.size) (fun hm => by
      rcases hlt k hm with q | q
      · exact hn q
      · omega)).trans (h6.block k hk hn)⟩
    have h12 : ∀ k ∈ fpOf t u1' u2', k ∈ fpOf t v1 v2 ∨ w.heap.size ≤ k := fun k hk => by
      rcases h8 k hk with q | q
      · exact hlt k q
      · right; have := h6.size; omega
    rw [← Tk.run_snoc] at he h7
    cases hd : (T.run (pre ++ [x])).done with
    | false =>
      left
      refine ⟨by rw [he, hd]; rfl, fpOf t u1' u2', ⟨fun p hp hn => ?_, ⟨u1', u2', rfl, h7, h12⟩, fun j hj => (h9 j hj).trans (h5 j hj), h11⟩, h8⟩
      rcases List.prefix_concat_iff.1 hp with q | q
      · rw [q]; exact hd
      · exact h1 p q hn
    | true =>
      right
      exact ⟨by rw [he, hd]; rfl, pre, x, rfl, h1, rfl, ⟨u1', u2', h7, h12⟩, fun j hj => (h9 j hj).trans (h5 j hj), h11⟩
  · exact ⟨fun p hp hn => absurd (List.prefix_nil.1 hp) hn, ⟨v1, v2, rfl, hT, fun k hk => .inl hk⟩, fun _ _ => rfl, .refl _ _⟩
end Go.Proofs.YtomgfdfgildkbaaDoor
/- The walk of middenlaw3's within: a walk gone through once more within its first step. -/

namespace Go.Proofs.YtomgfdfgildkbaaDoor
open Go.RowKit Go.BigFrame

theorem TkAt.beside {w w' : World} {b o : Nat} {ty : TypeId} {B : Nat} {T : Tk} {v1 v2 : Value} (h : TkAt w b o ty B T v1 v2) (hb : ∃ cs, w'.heap[b]? = some (.cells cs ty (0, 0))) (hc : ∀ j, o ≤ j → j < o + 6 → w'.cell? ⟨b, j, none⟩ = w.cell? ⟨b, j, none⟩)
    (hr : ∀ k, v1.ownBlock = some k ∨ v2.ownBlock = some k → w'.heap[k]? = w.heap[k]?) : TkAt w' b o ty B T v1 v2 :=
  ⟨hb, (hc _ (by omega) (by omega)).trans h.c0, (hc _ (by omega) (by omega)).trans h.c1, (hc _ (by omega) (by omega)).trans h.c2, (hc _ (by omega) (by omega)).trans h.c3, (hc _ (by omega) (by omega)).trans h.c4, (hc _ (by omega) (by omega)).trans h.c5,
    ownsRow_heap h.r1 fun k hk => hr k (.inl hk), ownsRow_heap h.r2 fun k hk => hr k (.inr hk), h.n1, h.n2, h.n12, h.bB⟩
def Tk.new (stop most : Int) : Tk := ⟨[], [], stop, most, false, false⟩
set_option maxRecDepth 100000 in
set_option maxHeartbeats 4000000 in
/-- The rest of within.take: the outer taker takes. -/
theorem within_on (b : Nat) (B : Nat) (T : Tk) (v1 v2 : Value) (x : Int) (h : Hd) (w : World) (hT : TkAt w b 1 184 B T v1 v2) (hB : B ≤ w.heap.size) (hn : T.at_.length ≤ 1000000) (hl : T.at_.length = T.hd.length) (h0 : T.at_ ≠ []) :
    Calls Tryd.prog 137 #[.pointer (some ⟨b, 0, none⟩), .int .i64 x, h.val] w fun e w' => e = .returned (.bool (!(T.take x h).done)) ∧ ∃ v1' v2', TkAt w' b 1 184 B (T.take x h) v1' v2' ∧ (∀ k ∈ fpOf b v1' v2', k ∈ fpOf b v1 v2 ∨ w.heap.size ≤ k) ∧ (∀ j, j < 1 ∨ 7 ≤ j → w'.cell? ⟨b, j, none⟩ = w.cell? ⟨b, j, none⟩) ∧ Only (fpOf b v1 v2) w w' := by
  have TA := Lib.hid (fun (W : World) (hT : TkAt W b 1 184 B T v1 v2) (hB : B ≤ W.heap.size) => take_any b 1 184 B T v1 v2 x h W hT hB hn hl)
  have hlen : 0 < T.at_.length := by cases hq : T.at_ with
    | nil => exact absurd hq h0
    | cons a l => simp
  obtain ⟨g, cap, rfl, -, -⟩ := hT.r1.form hlen
  have c0 := hT.c0
  have lb := World.block_lt_of_cell? w ⟨b, 1, none⟩ hT.c0
  have hq : ((T.at_.length : Int) == 0) = false := by simp; omega
  obtain ⟨x0, x1, x2, x3, x4, x5, x6⟩ := h
  unfold Hd.val at TA ⊢
  simp only at TA ⊢
  generalize hz : T.at_.length = z at *
  clear hl hz hn h0
  go_enter Tryd.func137, Tryd.ntmps137
  go_upto_region 4 with fail
  have hbA := (Below.refl w.heap.size w).alloc (Nat.le_refl _) (.cells #[.int .u64 x0, .int .i64 x1, .int .i64 x2, .int .i64 x3, .int .i64 x4, .int .i64 x5, .bool x6] 24)
  have hH := heap_one w (.cells #[.int .u64 x0, .int .i64 x1, .int .i64 x2, .int .i64 x3, .int .i64 x4, .int .i64 x5, .bool x6] 24)
  generalize w.alloc (.cells #[.int .u64 x0, .int .i64 x1, .int .i64 x2, .int .i64 x3, .int .i64 x4, .int .i64 x5, .bool x6] 24) = wA at *
  obtain ⟨cH, fH⟩ := hcell hH
  have lH := lt_of_heap hH
  have FIN := Lib.hid (TA.out wA.drew (hT.below (hbA.drew)) (by have := hbA.size; show B ≤ wA.heap.size; omega))
  clear TA
  refine wp_region_still_tail 5 (by kernel_rfl) (by kernel_rfl) ?_
  simp only [List.take_succ_cons, List.take_zero, List.drop_succ_cons, List.drop_zero]
  iterate 5 still_step
  refine wpStill_nil ?_
  change wpList _ _ _ _ _ wA.drew
  have hbD := hbA.drew
  generalize wA.drew = wD at *
  go_wp2_with fail
  refine FIN.out.mono ?_
  rintro e w' ⟨rfl, u1, u2, h1, h2, h3, h4⟩
  go_wp2_with fail
  go_ret
  refine ⟨rfl, u1, u2, h1, fun k hk => ?_, fun j hj => (h3 j hj).trans (hbD.cell (p := ⟨b, j, none⟩) lb), (Only.of_below hbD).trans h4⟩
  rcases h2 k hk with q | q
  · exact .inl q
  · right; have := hbD.size; omega
theorem six_cells {w : World} {b : Nat} {ty : TypeId} {B : Nat} {Z : Tk} {y1 y2 : Value} (h : TkAt w b 7 ty B Z y1 y2) (stop most : Int) :
    TkAt ((((((w.setCell ⟨b, 7, none⟩ (.slice none 0 0)).setCell ⟨b, 8, none⟩ (.slice none 0 0)).setCell ⟨b, 9, none⟩ (.int .i64 stop)).setCell ⟨b, 10, none⟩ (.int .i64 most)).setCell ⟨b, 11, none⟩ (.bool false)).setCell ⟨b, 12, none⟩ (.bool false)) b 7 ty B (Tk.new stop most) (.slice none 0 0) (.slice none 0 0) ∧ (∀ j, j < 7 → ((((((w.setCell ⟨b, 7, none⟩ (.slice none 0 0)).setCell ⟨b, 8, none⟩ (.slice none 0 0)).setCell ⟨b, 9, none⟩ (.int .i64 stop)).setCell ⟨b, 10, none⟩ (.int .i64 most)).setCell ⟨b, 11, none⟩ (.bool false)).setCell ⟨b, 12, none⟩ (.bool false)).cell? ⟨b, j, none⟩ = w.cell? ⟨b, j, none⟩) ∧ Only [b] w ((((((w.setCell ⟨b, 7, none⟩ (.slice none 0 0)).setCell ⟨b, 8, none⟩ (.slice none 0 0)).setCell ⟨b, 9, none⟩ (.int .i64 stop)).setCell ⟨b, 10, none⟩ (.int .i64 most)).setCell ⟨b, 11, none⟩ (.bool false)).setCell ⟨b, 12, none⟩ (.bool false)) ∧ (∀ k, k ≠ b → ((((((w.setCell ⟨b, 7, none⟩ (.slice none 0 0)).setCell ⟨b, 8, none⟩ (.slice none 0 0)).setCell ⟨b, 9, none⟩ (.int .i64 stop)).setCell ⟨b, 10, none⟩ (.int .i64 most)).setCell ⟨b, 11, none⟩ (.bool false)).setCell ⟨b, 12, none⟩ (.bool false)).heap[k]? = w.heap[k]?) := by
  obtain ⟨cs, hb⟩ := h.hb
  have k0 := cell_eq (v := .slice none 0 0) h.c0
  have k1 : (w.setCell ⟨b, 7, none⟩ (.slice none 0 0)).cell? ⟨b, 8, none⟩ = some y2 := (cell_ne (by decide)).trans h.c1
  have hO : Only [b] w ((((((w.setCell ⟨b, 7, none⟩ (.slice none 0 0)).setCell ⟨b, 8, none⟩ (.slice none 0 0)).setCell ⟨b, 9, none⟩ (.int .i64 stop)).setCell ⟨b, 10, none⟩ (.int .i64 most)).setCell ⟨b, 11, none⟩ (.bool false)).setCell ⟨b, 12, none⟩ (.bool false)) := by
    have o0 := Only.setCell (p := ⟨b, 7, none⟩) (Only.refl [b] w) (by simp) (.slice none 0 0)
    have o1 := Only.setCell (p := ⟨b, 8, none⟩) o0 (by simp) (.slice none 0 0)
    have o2 := Only.setCell (p := ⟨b, 9, none⟩) o1 (by simp) (.int .i64 stop)
    have o3 := Only.setCell (p := ⟨b, 10, none⟩) o2 (by simp) (.int .i64 most)
    have o4 := Only.setCell (p := ⟨b, 11, none⟩) o3 (by simp) (.bool false)
    exact Only.setCell (p := ⟨b, 12, none⟩) o4 (by simp) (.bool false)
  refine ⟨⟨⟨_, block_set (block_set (block_set (block_set (block_set (block_set hb _ _) _ _) _ _) _ _) _ _) _ _⟩, ?_, ?_, ?_, ?_, ?_, ?_, World.ownsRow_nil _ _ _ _, World.ownsRow_nil _ _ _ _, by simp [Value.ownBlock], by simp [Value.ownBlock], by simp [Value.ownBlock], h.bB⟩, fun j hj => ?_, hO, fun k hk => ?_⟩
  · rw [cell_ne (by decide), cell_ne (by decide), cell_ne (by decide), cell_ne (by decide), cell_ne (by decide)]; exact k0
  · rw [cell_ne (by decide), cell_ne (by decide), cell_ne (by decide), cell_ne (by decide)]; exact cell_eq k1
  · rw [cell_ne (by decide), cell_ne (by decide), cell_ne (by decide)]; exact cell_eq ((cell_ne (by decide)).trans ((cell_ne (by decide)).trans h.c2))
  · rw [cell_ne (by decide), cell_ne (by decide)]; exact cell_eq ((cell_ne (by decide)).trans ((cell_ne (by decide)).trans ((cell_ne (by decide)).trans h.c3)))
  · rw [cell_ne (by decide)]; exact cell_eq ((cell_ne (by decide)).trans ((cell_ne (by decide)).trans ((cell_ne (by decide)).trans ((cell_ne (by decide)).trans h.c4))))
  · exact cell_eq ((cell_ne (by decide)).trans ((cell_ne (by decide)).trans ((cell_ne (by decide)).trans ((cell_ne (by decide)).trans ((cell_ne (by decide)).trans h.c5)))))
  · rw [cell_ne (by omega), cell_ne (by omega), cell_ne (by omega), cell_ne (by omega), cell_ne (by omega), cell_ne (by omega)]
  · rw [block_set_ne hk, block_set_ne hk, block_set_ne hk, block_set_ne hk, block_set_ne hk, block_set_ne hk]
set_option maxRecDepth 100000 in
set_option maxHeartbeats 4000000 in
theorem within_first (a wb bs ba : Nat) (A : Ar) (s : Int) (S : List Nat) (m1 : a ∈ S) (m2 : wb ∈ S) (m3 : bs ∈ S) (m4 : ba ∈ S) (m5 : 1 ∈ S) (m6 : 0 ∈ S) (ok : A.Ok) (w : World) (tb : Tab w) (hA : ArAt w a wb A)
    (hbs : w.cell? ⟨bs, 0, none⟩ = some (.int .i64 s)) (hba : w.cell? ⟨ba, 0, none⟩ = some (.pointer (some ⟨a, 0, none⟩))) (hS : ∀ k ∈ S, k < w.heap.size)
    (b B : Nat) (stop most : Int) (Z : Tk) (y1 y2 : Value) (hT : TkAt w b 1 184 B (Tk.new stop most) (.slice none 0 0) (.slice none 0 0)) (hM : TkAt w b 7 184 B Z y1 y2)
    (hit : w.cell? ⟨b, 0, none⟩ = some (.func (.func 152) #[] #[.pointer (some ⟨ba, 0, none⟩), .pointer (some ⟨bs, 0, none⟩)])) (hd0 : b ∉ S) (x : Int) (h : Hd) :
    Calls Tryd.prog 137 #[.pointer (some ⟨b, 0, none⟩), .int .i64 x, h.val] w fun e w' => e = .returned (.bool (!((Tk.new stop most).take x h).done)) ∧ ∃ u1 u2 z1 z2, TkAt w' b 1 184 B ((Tk.new stop most).take x h) u1 u2 ∧ TkAt w' b 7 184 B ((Tk.new stop most).over (A.objs s)) z1 z2 ∧
      (∀ k ∈ fpOf b u1 u2, k = b ∨ w.heap.size ≤ k) ∧ (∀ k ∈ fpOf b z1 z2, k = b ∨ w.heap.size ≤ k) ∧ (∀ k ∈ fpOf b z1 z2, k ∈ fpOf b u1 u2 → k = b) ∧ w'.cell? ⟨b, 0, none⟩ = w.cell? ⟨b, 0, none⟩ ∧ Only [b] w w' := by
  have hmf : ∀ (fn : Fn) (first cap : Array Value) (w : World), (Instr.makeFunc fn first cap).run Tryd.prog w = .ok (.func fn first cap) w := fun _ _ _ _ => rfl
  have lb : b < w.heap.size := World.block_lt_of_cell? w ⟨b, 1, none⟩ hT.c0
  have bB := hT.bB
  have c0 := hT.c0
  have c2 : w.cell? ⟨b, 3, none⟩ = some (.int .i64 stop) := hT.c2
  have c3 : w.cell? ⟨b, 4, none⟩ = some (.int .i64 most) := hT.c3
  obtain ⟨cs, hbb⟩ := hT.hb
  have ff := (hcell hbb).2
  have m7 : w.cell? ⟨b, 7, none⟩ = some y1 := hM.c0
  have m8 : w.cell? ⟨b, 8, none⟩ = some y2 := hM.c1
  have m9 : w.cell? ⟨b, 9, none⟩ = some (.int .i64 Z.stop) := hM.c2
  have m10 : w.cell? ⟨b, 10, none⟩ = some (.int .i64 Z.most) := hM.c3
  have m11 : w.cell? ⟨b, 11, none⟩ = some (.bool Z.done) := hM.c4
  have m12 : w.cell? ⟨b, 12, none⟩ = some (.bool Z.deaf) := hM.c5
  obtain ⟨x0, x1, x2, x3, x4, x5, x6⟩ := h
  unfold Hd.val
  simp only
  go_enter Tryd.func137, Tryd.ntmps137
  go_upto_region 2 with fail
  have hbA := (Below.refl w.heap.size w).alloc (Nat.le_refl _) (.cells #[.int .u64 x0, .int .i64 x1, .int .i64 x2, .int .i64 x3, .int .i64 x4, .int .i64 x5, .bool x6] 24)
  have hH := heap_one w (.cells #[.int .u64 x0, .int .i64 x1, .int .i64 x2, .int .i64 x3, .int .i64 x4, .int .i64 x5, .bool x6] 24)
  have kb : ∀ j, (w.alloc (.cells #[.int .u64 x0, .int .i64 x1, .int .i64 x2, .int .i64 x3, .int .i64 x4, .int .i64 x5, .bool x6] 24)).cell? ⟨b, j, none⟩ = w.cell? ⟨b, j, none⟩ := fun j => hbA.cell (p := ⟨b, j, none⟩) lb
  have kf : ∀ j, (w.alloc (.cells #[.int .u64 x0, .int .i64 x1, .int .i64 x2, .int .i64 x3, .int .i64 x4, .int .i64 x5, .bool x6] 24)).frozen? ⟨b, j, none⟩ = false := fun j => (hbA.frozen (p := ⟨b, j, none⟩) lb).trans (ff j)
  generalize w.alloc (.cells #[.int .u64 x0, .int .i64 x1, .int .i64 x2, .int .i64 x3, .int .i64 x4, .int .i64 x5, .bool x6] 24) = wA at *
  replace c2 := (kb _).trans c2
  replace c3 := (kb _).trans c3
  replace m7 := (kb _).trans m7
  replace m8 := (kb _).trans m8
  replace m9 := (kb _).trans m9
  replace m10 := (kb _).trans m10
  replace m11 := (kb _).trans m11
  replace m12 := (kb _).trans m12
  clear c0 ff hbb kb
  go_big_region
  have hMA := hM.below hbA
  obtain ⟨hM6, hC6, hO6, hK6⟩ := six_cells hMA stop most
  have lbA : b < wA.heap.size := by have := hbA.size; omega
  generalize ((((((wA.setCell ⟨b, 7, none⟩ (.slice none 0 0)).setCell ⟨b, 8, none⟩ (.slice none 0 0)).setCell ⟨b, 9, none⟩ (.int .i64 stop)).setCell ⟨b, 10, none⟩ (.int .i64 most)).setCell ⟨b, 11, none⟩ (.bool false)).setCell ⟨b, 12, none⟩ (.bool false)) = wS at *
  replace hM6 := hM6.below (Below.refl wS.heap.size wS).drew
  replace hO6 := (Only.of_below (S := [b]) hbA).trans hO6.drew
  have hC6' : ∀ j, j < 7 → wS.drew.cell? ⟨b, j, none⟩ = w.cell? ⟨b, j, none⟩ := fun j hj => (hC6 j hj).trans (hbA.cell (p := ⟨b, j, none⟩) lb)
  have hH6 := (hK6 w.heap.size (by omega)).trans hH
  replace hH6 : wS.drew.heap[w.heap.size]? = some (Obj.cells #[.int .u64 x0, .int .i64 x1, .int .i64 x2, .int .i64 x3, .int .i64 x4, .int .i64 x5, .bool x6] 24 (0, 0)) := hH6
  clear hC6 hK6 hMA hH kf m7 m8 m9 m10 m11 m12 c2 c3 lbA hbA
  generalize wS.drew = w6 at *
  have hfr := Frame.of_only hO6 (fun k hk => by simp at hk; subst hk; obtain ⟨cs, hb⟩ := hM.hb; exact ⟨cs, _, hb, by decide⟩)
  have hkt := hfr.kept (S := S) (fun k hk hm => by simp at hm; subst hm; exact hd0 hk)
  have hT6 := hT.beside (w' := w6) hM6.hb (fun j h1 h2 => hC6' j (by omega)) (fun k hk => by simp [Value.ownBlock] at hk)
  have hdr := (Below.refl w6.heap.size w6).drew
  have hTD := hT6.below hdr
  have hMD := hM6.below hdr
  have hOD := hO6.drew
  have HCD : ∀ j, j < 7 → w6.drew.cell? ⟨b, j, none⟩ = w.cell? ⟨b, j, none⟩ := hC6'
  have hHD : w6.drew.heap[w.heap.size]? = some (Obj.cells #[.int .u64 x0, .int .i64 x1, .int .i64 x2, .int .i64 x3, .int .i64 x4, .int .i64 x5, .bool x6] 24 (0, 0)) := hH6
  have OT := Lib.hid (obj1_take a wb bs ba A s S m1 m2 m3 m4 m5 m6 ok w6.drew ((tb.kept hkt m5 m6).below hdr) ((hA.kept hkt m1 m2).below hdr) (hkt.cell m3 hbs) (hkt.cell m4 hba) (fun k hk => by have := hS k hk; have := hkt.size; show k < w6.heap.size; omega) b 7 184 B (Tk.new stop most) (.slice none 0 0) (.slice none 0 0) hMD (by decide) (by have := hMD.bB; have := hkt.size; show B ≤ w6.heap.size; omega)
    (fun k hk hm => by simp [fpOf, Value.ownBlock] at hm; subst hm; exact hd0 hk) rfl (by simp [Tk.new]))
  have hit6 := (hC6' 0 (by decide)).trans hit
  have TA := Lib.hid (fun (W : World) (hT : TkAt W b 1 184 B (Tk.new stop most) (.slice none 0 0) (.slice none 0 0)) (hB : B ≤ W.heap.size) => take_any b 1 184 B (Tk.new stop most) (.slice none 0 0) (.slice none 0 0) x ⟨x0, x1, x2, x3, x4, x5, x6⟩ W hT hB (by simp [Tk.new]) rfl)
  unfold Hd.val at TA
  simp only at TA
  have HC6 := Lib.hid HCD
  have HIT := Lib.hid hit
  clear hfr hkt tb hA hbs hba hT hM hit hS hC6' hT6 hM6 hO6 hdr HCD
  go_upto_region 3 with fail
  refine wp_region_still_tail 8 (by kernel_rfl) (by kernel_rfl) ?_
  simp only [List.take_succ_cons, List.take_zero, List.drop_succ_cons, List.drop_zero]
  iterate 8 still_step
  refine wpStill_nil ?_
  change wpList _ _ _ _ _ w6.drew
  clear hit6 hH6
  generalize w6.drew = wD at *
  go_wp2_with fail
  refine OT.out.mono ?_
  rintro e w7 ⟨rfl, ⟨z1, z2, hz, hzk⟩, hzc, hzo⟩
  have ez : fpOf b (.slice none 0 0) (.slice none 0 0) = [b] := rfl
  rw [ez] at hzk hzo
  clear OT
  have hT7 := hTD.beside (w' := w7) hz.hb (fun j h1 h2 => hzc j (by omega)) (fun k hk => by simp [Value.ownBlock] at hk)
  have lqD := lt_of_heap hHD
  have hH7 := (hzo.block _ lqD (by simp; omega)).trans hHD
  have lq7 := lt_of_heap hH7
  obtain ⟨cH, fH⟩ := hcell hH7
  have TA7 := Lib.hid (TA.out w7.drew (hT7.below (Below.refl w7.heap.size w7).drew) (by show B ≤ w7.heap.size; omega))
  clear TA
  go_upto_region 4 with fail
  refine wp_region_still_tail 5 (by kernel_rfl) (by kernel_rfl) ?_
  simp only [List.take_succ_cons, List.take_zero, List.drop_succ_cons, List.drop_zero]
  iterate 5 still_step
  refine wpStill_nil ?_
  change wpList _ _ _ _ _ w7.drew
  have hz8 := hz.below (Below.refl w7.heap.size w7).drew
  have hzo8 := hzo.drew
  have hzc8 : ∀ j, j < 7 ∨ 7 + 6 ≤ j → w7.drew.cell? ⟨b, j, none⟩ = wD.cell? ⟨b, j, none⟩ := hzc
  have HZC := Lib.hid hzc8
  clear hzc hzc8 hz hzo hT7 hH7 cH fH lq7
  generalize w7.drew = w8 at *
  go_wp2_with fail
  refine TA7.out.mono ?_
  rintro e w9 ⟨rfl, u1, u2, h1, h2, h3, h4⟩
  rw [ez] at h2 h4
  go_wp2_with fail
  go_ret
  refine ⟨rfl, u1, u2, z1, z2, h1, ?_, ?_, ?_, ?_, ?_, ?_⟩
  · refine hz8.beside h1.hb (fun j q1 q2 => h3 j (.inr q1)) (fun k hk => h4.block k ?_ ?_)
    · rcases hk with hk | hk
      · exact (hz8.lt k (mem_fp.2 (.inr (.inl hk)))).1
      · exact (hz8.lt k (mem_fp.2 (.inr (.inr hk)))).1
    · intro hm
      simp at hm
      subst hm
      rcases hk with hk | hk
      · exact hz8.n1 hk
      · exact hz8.n2 hk
  · intro k hk
    rcases h2 k hk with q | q
    · exact .inl (by simpa using q)
    · right; have := hOD.size; have := hzo8.size; omega
  · intro k hk
    rcases hzk k hk with q | q
    · exact .inl (by simpa using q)
    · right; have := hOD.size; omega
  · intro k hk hu
    rcases h2 k hu with q | q
    · simpa using q
    · have := (hz8.lt k hk).1; omega
  · exact (h3 0 (.inl (by decide))).trans ((HZC.out 0 (.inl (by decide))).trans (HC6.out 0 (by decide)))
  · exact hOD.trans (hzo8.trans h4)
end Go.Proofs.YtomgfdfgildkbaaDoor
/- A walk through a space's objects with a within. -/

namespace Go.Proofs.YtomgfdfgildkbaaDoor
open Go.RowKit Go.BigFrame

theorem Tk.take_ge (T : Tk) (x : Int) (h : Hd) : T.at_.length ≤ (T.take x h).at_.length := by unfold Tk.take; split <;> simp
theorem Tk.run_ge (T : Tk) (l : List (Int × Hd)) : T.at_.length ≤ (T.run l).at_.length := by
  induction l generalizing T with
  | nil => exact Nat.le_refl _
  | cons x l ih => exact Nat.le_trans (T.take_ge x.1 x.2) (ih (T.take x.1 x.2))
theorem Tk.run_ne {stop most : Int} {l : List (Int × Hd)} (h : l ≠ []) : ((Tk.new stop most).run l).at_ ≠ [] := by
  cases l with
  | nil => exact absurd rfl h
  | cons x l =>
    have h1 := ((Tk.new stop most).take x.1 x.2).run_ge l
    have h2 : ((Tk.new stop most).take x.1 x.2).at_.length = 1 := by simp [Tk.take, Tk.new]
    intro e
    have h3 : (((Tk.new stop most).take x.1 x.2).run l).at_.length = 0 := by
      show ((Tk.new stop most).run (x :: l)).at_.length = 0
      rw [e]; rfl
    omega
/-- What a walk with a within leaves. -/
structure WiWalked (w w' : World) (b B : Nat) (T M : Tk) : Prop where
  t : ∃ u1 u2 z1 z2, TkAt w' b 1 184 B T u1 u2 ∧ TkAt w' b 7 184 B M z1 z2
  only : Only [b] w w'
set_option maxRecDepth 100000 in
set_option maxHeartbeats 4000000 in
theorem obj1_within (a wb bs ba : Nat) (A : Ar) (s : Int) (S : List Nat) (m1 : a ∈ S) (m2 : wb ∈ S) (m3 : bs ∈ S) (m4 : ba ∈ S) (m5 : 1 ∈ S) (m6 : 0 ∈ S) (ok : A.Ok) (w : World) (tb : Tab w) (hA : ArAt w a wb A)
    (hbs : w.cell? ⟨bs, 0, none⟩ = some (.int .i64 s)) (hba : w.cell? ⟨ba, 0, none⟩ = some (.pointer (some ⟨a, 0, none⟩))) (hS : ∀ k ∈ S, k < w.heap.size)
    (b B : Nat) (stop most : Int) (Z : Tk) (hT : TkAt w b 1 184 B (Tk.new stop most) (.slice none 0 0) (.slice none 0 0)) (hM : TkAt w b 7 184 B Z (.slice none 0 0) (.slice none 0 0))
    (hit : w.cell? ⟨b, 0, none⟩ = some (.func (.func 152) #[] #[.pointer (some ⟨ba, 0, none⟩), .pointer (some ⟨bs, 0, none⟩)])) (hd0 : b ∉ S) :
    Calls Tryd.prog 152 #[.func (.func 137) #[.pointer (some ⟨b, 0, none⟩)] #[], .pointer (some ⟨ba, 0, none⟩), .pointer (some ⟨bs, 0, none⟩)] w fun e w' => e = .returned (.tuple #[]) ∧ WiWalked w w' b B ((Tk.new stop most).over (A.objs s)) (if A.objs s = [] then Z else (Tk.new stop most).over (A.objs s)) := by
  have ez : fpOf b (.slice none 0 0) (.slice none 0 0) = [b] := rfl
  have C := obj1_calls a wb bs ba A s S m1 m2 m3 m4 m5 m6 ok w tb hA hbs hba hS 137 #[.pointer (some ⟨b, 0, none⟩)] #[] (enters_of Tryd.func137 (by kernel_rfl) rfl)
    (fun pre fp W => (∀ p, p <+: pre → p ≠ [] → ((Tk.new stop most).run p).done = false) ∧ (∃ u1 u2 z1 z2, fp = fpOf b u1 u2 ++ fpOf b z1 z2 ∧ TkAt W b 1 184 B ((Tk.new stop most).run pre) u1 u2 ∧ TkAt W b 7 184 B (if pre = [] then Z else (Tk.new stop most).over (A.objs s)) z1 z2 ∧
      (∀ k ∈ fpOf b u1 u2 ++ fpOf b z1 z2, k = b ∨ w.heap.size ≤ k) ∧ (∀ k ∈ fpOf b z1 z2, k ∈ fpOf b u1 u2 → k = b) ∧ (pre = [] → u1 = .slice none 0 0 ∧ u2 = .slice none 0 0)) ∧ W.cell? ⟨b, 0, none⟩ = w.cell? ⟨b, 0, none⟩ ∧ Only [b] w W)
    (fun pre W => ∃ q x, pre = q ++ [x] ∧ (∀ p, p <+: q → p ≠ [] → ((Tk.new stop most).run p).done = false) ∧ ((Tk.new stop most).run pre).done = true ∧ WiWalked w W b B ((Tk.new stop most).run pre) ((Tk.new stop most).over (A.objs s)))
    ?_ ?_ ?_ [b, b] (fun k hk hm => by simp at hm; subst hm; exact hd0 hk) ?_ ?_
  · refine C.mono fun e w' ⟨h1, h2⟩ => ⟨h1, ?_⟩
    rcases h2 with ⟨fp, h3, ⟨u1, u2, z1, z2, _, h4, h5, _⟩, _, h7⟩ | ⟨pre, hp, q, x, rfl, h3, h4, ⟨u1, u2, z1, z2, h5, h6⟩, h7⟩
    · have ho : (Tk.new stop most).over (A.objs s) = (Tk.new stop most).run (A.objs s) := by
        have := Tk.over_open (m := []) h3
        rw [List.append_nil] at this
        exact this
      refine ⟨⟨u1, u2, z1, z2, ?_, h5⟩, h7⟩
      rw [ho]; exact h4
    · obtain ⟨m, hm⟩ := hp
      have ho : (Tk.new stop most).over (A.objs s) = (Tk.new stop most).run (q ++ [x]) := by
        rw [← hm, List.append_assoc]
        exact Tk.over_stop h3 h4
      have hne : A.objs s ≠ [] := by rw [← hm]; simp
      rw [if_neg hne]
      exact ⟨⟨u1, u2, z1, z2, by rw [ho]; exact h5, h6⟩, h7⟩
  · intro st X Y row hs hg hr
    obtain ⟨h1, ⟨u1, u2, z1, z2, h2, h3, h4, h5, h6, h7⟩, h8, h9⟩ := hs
    obtain ⟨cs, hb⟩ := h3.hb
    have eb := cells_turn hb hg hr
    exact ⟨h1, ⟨u1, u2, z1, z2, h2, h3.turn hg hr, h4.turn hg hr, h5, h6, h7⟩, (World.cell?_of_block (a := ⟨b, 0, none⟩) eb).trans h8, only_own (Nat.le_refl _) () X Y row h9 hg hr⟩
  · intro pre X Y row hs hg hr
    obtain ⟨q, x, h0, h1, h2, ⟨u1, u2, z1, z2, h3, h4⟩, h6⟩ := hs
    exact ⟨q, x, h0, h1, h2, ⟨u1, u2, z1, z2, h3.turn hg hr, h4.turn hg hr⟩, only_own (Nat.le_refl _) () X Y row h6 hg hr⟩
  · rintro pre fp W ⟨_, ⟨u1, u2, z1, z2, rfl, h3, h4, _⟩, _⟩ k hk
    rcases List.mem_append.1 hk with q | q
    · exact (h3.lt k q).1
    · exact (h4.lt k q).1
  · rintro pre fp x W ⟨h1, ⟨u1, u2, z1, z2, rfl, h3, h4, h5, h6, h7⟩, h8, h9⟩ hpre hk
    have hlen : pre.length < (A.objs s).length := by
      obtain ⟨m, hm⟩ := hpre
      rw [← hm]; simp
    have h262 := A.objs_len ok s
    have hle := Tk.run_le (Tk.new stop most) pre
    have hl0 : (Tk.new stop most).at_.length = 0 := rfl
    have hw := h9.size
    have bB := h3.bB
    have lb := (h3.lt b (mem_fp.2 (.inl rfl))).1
    have ht : ∀ k ∈ fpOf b u1 u2 ++ fpOf b z1 z2, ∃ cs ty, W.heap[k]? = some (Obj.cells cs ty (0, 0)) ∧ ty ≠ 193 := fun k hk => by
      rcases List.mem_append.1 hk with q | q
      · exact h3.types (by decide) k q
      · exact h4.types (by decide) k q
    have ea : (#[Value.pointer (some ⟨b, 0, none⟩)] ++ (#[Value.int .i64 x.1, x.2.val] ++ #[]) : Array Value) = #[.pointer (some ⟨b, 0, none⟩), .int .i64 x.1, x.2.val] := rfl
    rw [ea]
    by_cases hp : pre = []
    · subst hp
      obtain ⟨rfl, rfl⟩ := h7 rfl
      have h4' : TkAt W b 7 184 B Z z1 z2 := h4
      have K := within_first a wb bs ba A s S m1 m2 m3 m4 m5 m6 ok W (tb.kept hk m5 m6) (hA.kept hk m1 m2) (hk.cell m3 hbs) (hk.cell m4 hba) (fun k hk' => by have := hS k hk'; omega) b B stop most Z z1 z2 h3 h4' (h8.trans hit) hd0 x.1 x.2
      refine K.mono fun e W' ⟨he, p1, p2, q1, q2, g1, g2, g3, g4, g5, g6, g7⟩ => ⟨?_, Frame.of_only (g7.mono (fun k hk => by simp at hk; subst hk; exact List.mem_append_left _ (mem_fp.2 (.inl rfl)))) ht⟩
      have hO := h9.trans g7
      have h3' : ∀ p, p <+: ([] : List (Int × Hd)) → p ≠ [] → ((Tk.new stop most).run p).done = false := h1
      cases hd : ((Tk.new stop most).take x.1 x.2).done with
      | false =>
        left
        refine ⟨by rw [he, hd]; rfl, _, ⟨fun p hp hn => ?_, ⟨p1, p2, q1, q2, rfl, g1, by simpa using g2, fun k hk => ?_, g5, fun e => by simp at e⟩, g6.trans h8, hO⟩, fun k hk => ?_⟩
        · rcases List.prefix_concat_iff.1 hp with q | q
          · rw [q]; exact hd
          · exact h3' p q hn
        · rcases List.mem_append.1 hk with q | q
          · rcases g3 k q with r | r
            · exact .inl r
            · right; omega
          · rcases g4 k q with r | r
            · exact .inl r
            · right; omega
        · rcases List.mem_append.1 hk with q | q
          · rcases g3 k q with r | r
            · left; subst r; exact List.mem_append_left _ (mem_fp.2 (.inl rfl))
            · exact .inr r
          · rcases g4 k q with r | r
            · left; subst r; exact List.mem_append_left _ (mem_fp.2 (.inl rfl))
            · exact .inr r
      | true =>
        right
        exact ⟨by rw [he, hd]; rfl, [], x, rfl, h3', hd, ⟨p1, p2, q1, q2, g1, g2⟩, hO⟩
    · have h3n := Tk.run_ne (stop := stop) (most := most) hp
      have K := within_on b B ((Tk.new stop most).run pre) u1 u2 x.1 x.2 W h3 (by omega) (by omega) (Tk.run_len rfl pre) h3n
      have h4' : TkAt W b 7 184 B ((Tk.new stop most).over (A.objs s)) z1 z2 := by rw [if_neg hp] at h4; exact h4
      clear h4
      refine K.mono fun e W' ⟨he, p1, p2, g1, g2, g3, g4⟩ => ⟨?_, Frame.of_only (g4.mono (fun k hk => List.mem_append_left _ hk)) ht⟩
      have hO : Only [b] w W' := ⟨g4.os.trans h9.os, g4.tape.trans h9.tape, g4.output.trans h9.output, Nat.le_trans h9.size g4.size, fun k hk hn => (g4.block k (by omega) (fun hm => by
        rcases h5 k (List.mem_append_left _ hm) with q | q
        · exact hn (by simp [q])
        · omega)).trans (h9.block k hk hn)⟩
      have hz := h4'.beside g1.hb (fun j q1 q2 => g3 j (.inr q1)) (fun k hk => g4.block k (by
          rcases hk with hk | hk
          · exact (h4'.lt k (mem_fp.2 (.inr (.inl hk)))).1
          · exact (h4'.lt k (mem_fp.2 (.inr (.inr hk)))).1) (fun hm => by
          have hkb := h6 k (by rcases hk with hk | hk <;> simp [mem_fp, hk]) hm
          subst hkb
          rcases hk with hk | hk
          · exact h4'.n1 hk
          · exact h4'.n2 hk))
      rw [← Tk.run_snoc] at he g1
      cases hd : ((Tk.new stop most).run (pre ++ [x])).done with
      | false =>
        left
        refine ⟨by rw [he, hd]; rfl, _, ⟨fun p hp' hn => ?_, ⟨p1, p2, z1, z2, rfl, g1, by simpa using hz, fun k hk => ?_, fun k hk hu => ?_, fun e => by simp at e⟩, (g3 0 (.inl (by decide))).trans h8, hO⟩, fun k hk => ?_⟩
        · rcases List.prefix_concat_iff.1 hp' with q | q
          · rw [q]; exact hd
          · exact h1 p q hn
        · rcases List.mem_append.1 hk with q | q
          · rcases g2 k q with r | r
            · exact h5 k (List.mem_append_left _ r)
            · right; omega
          · exact h5 k (List.mem_append_right _ q)
        · rcases g2 k hu with r | r
          · exact h6 k hk r
          · have := (h4'.lt k hk).1; omega
        · rcases List.mem_append.1 hk with q | q
          · rcases g2 k q with r | r
            · exact .inl (List.mem_append_left _ r)
            · exact .inr r
          · exact .inl (List.mem_append_right _ q)
      | true =>
        right
        exact ⟨by rw [he, hd]; rfl, pre, x, rfl, h1, rfl, ⟨p1, p2, z1, z2, g1, hz⟩, hO⟩
  · exact ⟨fun p hp hn => absurd (List.prefix_nil.1 hp) hn, ⟨_, _, _, _, rfl, hT, hM, fun k hk => by simp [ez] at hk; exact .inl hk, fun k hk _ => by simpa [ez] using hk, fun _ => ⟨rfl, rfl⟩⟩, rfl, .refl _ _⟩
end Go.Proofs.YtomgfdfgildkbaaDoor
/- middenlaw3.sameHead; the cells of a row of headers. -/

namespace Go.Proofs.YtomgfdfgildkbaaDoor
open Go.RowKit Go.BigFrame

def hdEq (g h : Hd) : Bool := decide (g.ser = h.ser ∧ g.kind = h.kind ∧ g.ptrs = h.ptrs ∧ g.raws = h.raws ∧ g.age = h.age ∧ g.site = h.site ∧ g.held = h.held)
theorem hdEq_iff {g h : Hd} : hdEq g h = true ↔ g = h := by
  unfold hdEq
  rw [decide_eq_true_iff]
  constructor
  · intro ⟨h1, h2, h3, h4, h5, h6, h7⟩
    cases g; cases h; simp_all
  · rintro rfl; simp
set_option maxRecDepth 100000 in
set_option maxHeartbeats 4000000 in
theorem sameHead_any (g h : Hd) (w : World) : Calls Tryd.prog 96 #[g.val, h.val] w fun e w' => e = .returned (.bool (hdEq g h)) ∧ Below w.heap.size w w' := by
  obtain ⟨a0, a1, a2, a3, a4, a5, a6⟩ := g
  obtain ⟨b0, b1, b2, b3, b4, b5, b6⟩ := h
  have H0 : hdEq ⟨a0, a1, a2, a3, a4, a5, a6⟩ ⟨b0, b1, b2, b3, b4, b5, b6⟩ = decide (a0 = b0 ∧ a1 = b1 ∧ a2 = b2 ∧ a3 = b3 ∧ a4 = b4 ∧ a5 = b5 ∧ a6 = b6) := rfl
  unfold Hd.val
  simp only
  generalize hdEq ⟨a0, a1, a2, a3, a4, a5, a6⟩ ⟨b0, b1, b2, b3, b4, b5, b6⟩ = r at *
  have H := Lib.hid H0
  clear H0
  by_cases e0 : a0 = b0
  case neg =>
    have q0 : (a0 == b0) = false := by simpa using e0
    have hr : r = false := by rw [H.out]; simp [e0]
    have HR := Lib.hid hr
    clear H hr e0
    go_enter Tryd.func96, Tryd.ntmps96
    go_wp2
    go_ret
    exact ⟨ret_bool HR.out.symm, ((Below.refl _ _).alloc (Nat.le_refl _) _).alloc (by simp) _⟩
  subst e0
  by_cases e1 : a1 = b1
  case neg =>
    have q1 : (a1 == b1) = false := by simpa using e1
    have hr : r = false := by rw [H.out]; simp [e1]
    have HR := Lib.hid hr
    clear H hr e1
    go_enter Tryd.func96, Tryd.ntmps96
    go_wp2
    go_ret
    exact ⟨ret_bool HR.out.symm, ((Below.refl _ _).alloc (Nat.le_refl _) _).alloc (by simp) _⟩
  subst e1
  by_cases e2 : a2 = b2
  case neg =>
    have q2 : (a2 == b2) = false := by simpa using e2
    have hr : r = false := by rw [H.out]; simp [e2]
    have HR := Lib.hid hr
    clear H hr e2
    go_enter Tryd.func96, Tryd.ntmps96
    go_wp2
    go_ret
    exact ⟨ret_bool HR.out.symm, ((Below.refl _ _).alloc (Nat.le_refl _) _).alloc (by simp) _⟩
  subst e2
  by_cases e3 : a3 = b3
  case neg =>
    have q3 : (a3 == b3) = false := by simpa using e3
    have hr : r = false := by rw [H.out]; simp [e3]
    have HR := Lib.hid hr
    clear H hr e3
    go_enter Tryd.func96, Tryd.ntmps96
    go_wp2
    go_ret
    exact ⟨ret_bool HR.out.symm, ((Below.refl _ _).alloc (Nat.le_refl _) _).alloc (by simp) _⟩
  subst e3
  by_cases e4 : a4 = b4
  case neg =>
    have q4 : (a4 == b4) = false := by simpa using e4
    have hr : r = false := by rw [H.out]; simp [e4]
    have HR := Lib.hid hr
    clear H hr e4
    go_enter Tryd.func96, Tryd.ntmps96
    go_wp2
    go_ret
    exact ⟨ret_bool HR.out.symm, ((Below.refl _ _).alloc (Nat.le_refl _) _).alloc (by simp) _⟩
  subst e4
  by_cases e5 : a5 = b5
  case neg =>
    have q5 : (a5 == b5) = false := by simpa using e5
    have hr : r = false := by rw [H.out]; simp [e5]
    have HR := Lib.hid hr
    clear H hr e5
    go_enter Tryd.func96, Tryd.ntmps96
    go_wp2
    go_ret
    exact ⟨ret_bool HR.out.symm, ((Below.refl _ _).alloc (Nat.le_refl _) _).alloc (by simp) _⟩
  subst e5
  by_cases e6 : a6 = b6
  case neg =>
    have q6 : (a6 == b6) = false := by simpa using e6
    have hr : r = false := by rw [H.out]; simp [e6]
    have HR := Lib.hid hr
    clear H hr e6
    go_enter Tryd.func96, Tryd.ntmps96
    go_wp2
    go_ret
    exact ⟨ret_bool HR.out.symm, ((Below.refl _ _).alloc (Nat.le_refl _) _).alloc (by simp) _⟩
  subst e6
  have hr : r = true := by rw [H.out]; simp
  have HR := Lib.hid hr
  clear H hr
  go_enter Tryd.func96, Tryd.ntmps96
  go_wp2
  go_ret
  exact ⟨ret_bool HR.out.symm, ((Below.refl _ _).alloc (Nat.le_refl _) _).alloc (by simp) _⟩
theorem hdL_get (l : List Hd) (i j : Nat) (hi : i < l.length) (hj : j < 7) : (l.flatMap hdL)[i * 7 + j]? = (hdL (l.getD i nohd))[j]? := by
  induction l generalizing i with
  | nil => simp at hi
  | cons a l ih =>
    rw [List.flatMap_cons]
    have hl : (hdL a).length = 7 := rfl
    cases i with
    | zero => rw [List.getElem?_append_left (by omega)]; simp
    | succ i =>
      rw [List.getElem?_append_right (by omega), hl, show (i + 1) * 7 + j - 7 = i * 7 + j by omega, ih i (by simpa using hi)]
      simp
end Go.Proofs.YtomgfdfgildkbaaDoor
/- middenlaw3's within.same, where both walks gave the same. -/

namespace Go.Proofs.YtomgfdfgildkbaaDoor
open Go.RowKit Go.BigFrame

theorem row_form {w : World} {B : Nat} {e : TypeId} {sz : Nat} {v : Value} {n : Nat} {xs : List Value} (h : w.ownsRow B e sz v n xs) : ∃ p cap, v = .slice p n cap := by
  rcases h.2 with ⟨h1, rfl⟩ | ⟨g, cap, cur, hv, _⟩
  · exact ⟨none, 0, h1⟩
  · exact ⟨_, cap, hv⟩
theorem row_int {w : World} {B g cap n : Nat} {l : List Int} (h : w.ownsRow B 3 1 (.slice (some ⟨g, 0, none⟩) n cap) n (l.map (Value.int .i64))) {i : Nat} (hi : i < l.length) : w.cell? ⟨g, i, none⟩ = some (.int .i64 (l.getD i 0)) := by
  have hl := h.1
  simp at hl
  rw [h.cellAt i (by omega)]
  simp [hi]
theorem row_hd {w : World} {B g cap n : Nat} {l : List Hd} (h : w.ownsRow B 24 7 (.slice (some ⟨g, 0, none⟩) n cap) n (l.flatMap hdL)) {i : Nat} (hi : i < l.length) {j : Nat} (hj : j < 7) (hn : n = l.length) : w.cell? ⟨g, i * 7 + j, none⟩ = (hdL (l.getD i nohd))[j]? := by
  rw [h.cellAt (i * 7 + j) (by omega)]
  exact hdL_get l i j hi hj
set_option maxRecDepth 100000 in
set_option maxHeartbeats 4000000 in
theorem same_true (r t B : Nat) (T M : Tk) (u1 u2 z1 z2 v1 v2 : Value) (w : World) (h1 : TkAt w r 1 184 B T u1 u2) (h7 : TkAt w r 7 184 B M z1 z2) (hT : TkAt w t 0 140 B T v1 v2) (hM : M.at_ = T.at_) (hn : T.at_.length ≤ 262145) :
    Calls Tryd.prog 138 #[.pointer (some ⟨r, 0, none⟩), .pointer (some ⟨t, 0, none⟩)] w fun e w' => e = .returned (.bool true) ∧ Below w.heap.size w w' := by
  obtain ⟨p1, n1, rfl⟩ := row_form h1.r1
  obtain ⟨p2, n2, rfl⟩ := row_form h7.r1
  obtain ⟨p3, n3, rfl⟩ := row_form hT.r1
  have c1 := h1.c0
  have c7 := h7.c0
  have ct := hT.c0
  rw [hM] at c7
  have r1 := h1.r1
  have r7 := h7.r1
  have rt := hT.r1
  rw [hM] at r7
  have HR := Lib.hid (⟨r1, r7, rt⟩ : _ ∧ _ ∧ _)
  clear h1 h7 hT hM r1 r7 rt
  generalize hl : T.at_.length = n at *
  go_enter Tryd.func138, Tryd.ntmps138
  go_upto_region 1 with fail
  go_big_region
  go_wp2_with fail
  have k1 : w.drew.cell? ⟨r, 1, none⟩ = _ := c1
  have k7 : w.drew.cell? ⟨r, 7, none⟩ = _ := c7
  have kt : w.drew.cell? ⟨t, 0, none⟩ = _ := ct
  have hd := (Below.refl w.heap.size w).drew
  have HR' := Lib.hid (⟨HR.out.1.drew, HR.out.2.1.drew, HR.out.2.2.drew⟩ : _ ∧ _ ∧ _)
  clear HR c1 c7 ct
  generalize w.drew = w1 at *
  go_loopw [5] (fun i wx => ∃ k : Nat, k ≤ n ∧ i = .int .i64 k ∧ ∃ m, wx = w1.drewN m) (fun i _ => n - (intOf i).toNat)
  case atStart => exact ⟨0, Nat.zero_le _, rfl, 0, rfl⟩
  case round =>
    obtain ⟨k, hk, rfl, m, rfl⟩ := hrel
    by_cases hlt : k < n
    · obtain ⟨q1, q7, qt⟩ := HR'.out
      obtain ⟨g1, cp1, e1, -, -⟩ := q1.form (by omega)
      obtain ⟨g2, cp2, e2, -, -⟩ := q7.form (by omega)
      obtain ⟨g3, cp3, e3, -, -⟩ := qt.form (by omega)
      cases e1
      cases e2
      cases e3
      have a1 := row_int q1 (i := k) (by omega)
      have a2 := row_int q7 (i := k) (by omega)
      have a3 := row_int qt (i := k) (by omega)
      have k0 : (0 : Int) ≤ (k : Int) := Int.natCast_nonneg _
      have k1' : (k : Int) < (n : Int) := by omega
      generalize T.at_.getD k 0 = av at *
      clear q1 q7 qt
      have b1 : (w1.drewN m).cell? ⟨g1, k, none⟩ = _ := a1
      have b2 : (w1.drewN m).cell? ⟨g2, k, none⟩ = _ := a2
      have b3 : (w1.drewN m).cell? ⟨g3, k, none⟩ = _ := a3
      have m1 : (w1.drewN m).cell? ⟨r, 1, none⟩ = _ := k1
      have m7 : (w1.drewN m).cell? ⟨r, 7, none⟩ = _ := k7
      have mt : (w1.drewN m).cell? ⟨t, 0, none⟩ = _ := kt
      go_upto_region 6 with fail
      go_big_region
      go_wp2_with fail
      exact ⟨⟨k + 1, by omega, by go_num, m + 1, rfl⟩, by simp [intOf]; omega⟩
    · obtain rfl : k = n := by omega
      have mt : (w1.drewN m).cell? ⟨t, 0, none⟩ = _ := kt
      go_wp2_with fail
      go_ret
      exact ⟨rfl, below_drewN hd _⟩
end Go.Proofs.YtomgfdfgildkbaaDoor
/- middenlaw3.objects: what Objects gives, gone through twice, and once more within itself. -/

namespace Go.Proofs.YtomgfdfgildkbaaDoor
open Go.RowKit Go.BigFrame

theorem TkAt.fresh {w : World} {b B : Nat} {ty : TypeId} {stop most : Int} (hb : w.heap[b]? = some (.cells #[.slice none 0 0, .slice none 0 0, .int .i64 stop, .int .i64 most, .bool false, .bool false] ty (0, 0))) (bB : B ≤ b) : TkAt w b 0 ty B (Tk.new stop most) (.slice none 0 0) (.slice none 0 0) := by
  have hc := (hcell hb).1
  exact ⟨⟨_, hb⟩, by rw [hc]; rfl, by rw [hc]; rfl, by rw [hc]; rfl, by rw [hc]; rfl, by rw [hc]; rfl, by rw [hc]; rfl, World.ownsRow_nil _ _ _ _, World.ownsRow_nil _ _ _ _, by simp [Value.ownBlock], by simp [Value.ownBlock], by simp [Value.ownBlock], bB⟩
theorem Tk.run_deaf {l : List (Int × Hd)} : ∀ {T : Tk}, T.deaf = false → T.done = false → (T.over l).deaf = false := by
  induction l with
  | nil => intro T h _; exact h
  | cons x l ih =>
    intro T h hd
    have h1 : (T.take x.1 x.2).deaf = false := by unfold Tk.take; rw [hd]; exact h
    show (if (T.take x.1 x.2).done then T.take x.1 x.2 else (T.take x.1 x.2).over l).deaf = false
    cases hd' : (T.take x.1 x.2).done with
    | true => exact h1
    | false => exact ih h1 hd'
theorem Tk.over_len {l : List (Int × Hd)} : ∀ {T : Tk}, T.at_.length = T.hd.length → (T.over l).at_.length = (T.over l).hd.length ∧ (T.over l).at_.length ≤ T.at_.length + l.length := by
  induction l with
  | nil => intro T h; exact ⟨h, Nat.le_refl _⟩
  | cons x l ih =>
    intro T h
    have h1 := Tk.take_len h x.1 x.2
    have h2 : (T.take x.1 x.2).at_.length ≤ T.at_.length + 1 := by unfold Tk.take; split <;> simp
    show (if (T.take x.1 x.2).done then T.take x.1 x.2 else (T.take x.1 x.2).over l).at_.length = _ ∧ _
    cases hd' : (T.take x.1 x.2).done with
    | true =>
      have e : T.over (x :: l) = T.take x.1 x.2 := by show (if (T.take x.1 x.2).done then T.take x.1 x.2 else _) = _; rw [hd']; rfl
      rw [e]
      exact ⟨h1, by simp only [List.length_cons]; omega⟩
    | false =>
      have e : T.over (x :: l) = (T.take x.1 x.2).over l := by show (if (T.take x.1 x.2).done then T.take x.1 x.2 else _) = _; rw [hd']; rfl
      rw [e]
      have h3 := ih h1
      exact ⟨h3.1, by simp only [List.length_cons]; omega⟩
theorem eql_func (f : Fn) (b c : Array Value) (w : World) : (binOp .eql 159 (.func f b c) .nilFunc).run Tryd.prog w = .ok (.bool false) w := by kernel_rfl
theorem TkAt.freshW {w : World} {b B : Nat} {f : Value} {stop most : Int} (hb : w.heap[b]? = some (.cells #[f, .slice none 0 0, .slice none 0 0, .int .i64 stop, .int .i64 most, .bool false, .bool false, .slice none 0 0, .slice none 0 0, .int .i64 0, .int .i64 0, .bool false, .bool false] 184 (0, 0))) (bB : B ≤ b) :
    TkAt w b 1 184 B (Tk.new stop most) (.slice none 0 0) (.slice none 0 0) ∧ TkAt w b 7 184 B (Tk.new 0 0) (.slice none 0 0) (.slice none 0 0) := by
  have hc := (hcell hb).1
  exact ⟨⟨⟨_, hb⟩, by rw [hc]; rfl, by rw [hc]; rfl, by rw [hc]; rfl, by rw [hc]; rfl, by rw [hc]; rfl, by rw [hc]; rfl, World.ownsRow_nil _ _ _ _, World.ownsRow_nil _ _ _ _, by simp [Value.ownBlock], by simp [Value.ownBlock], by simp [Value.ownBlock], bB⟩,
    ⟨⟨_, hb⟩, by rw [hc]; rfl, by rw [hc]; rfl, by rw [hc]; rfl, by rw [hc]; rfl, by rw [hc]; rfl, by rw [hc]; rfl, World.ownsRow_nil _ _ _ _, World.ownsRow_nil _ _ _ _, by simp [Value.ownBlock], by simp [Value.ownBlock], by simp [Value.ownBlock], bB⟩⟩
set_option maxRecDepth 100000 in
set_option maxHeartbeats 8000000 in
theorem objects_any (a wb : Nat) (A : Ar) (s stop most : Int) (w : World) (tb : Tab w) (hA : ArAt w a wb A) (ok : A.Ok) :
    Calls Tryd.prog 89 #[.pointer (some ⟨a, 0, none⟩), .int .i64 s, .int .i64 stop, .int .i64 most] w fun e w' => ∃ t v1 v2, e = .returned (.tuple #[.pointer (some ⟨t, 0, none⟩), .bool true]) ∧ TkAt w' t 0 140 w.heap.size ((Tk.new stop most).over (A.objs s)) v1 v2 ∧ Below w.heap.size w w' := by
  have hmf : ∀ (fn : Fn) (first cap : Array Value) (w : World), (Instr.makeFunc fn first cap).run Tryd.prog w = .ok (.func fn first cap) w := fun _ _ _ _ => rfl
  have OM := Lib.hid (fun w => objects_mk a s w)
  have EF := eql_func
  have hs1 := tb.hs
  have hs2 := tb.ht
  have la := lt_of_heap hA.st
  have lwb := lt_of_heap hA.ws
  go_enter Tryd.func89, Tryd.ntmps89
  go_wp2_with fail
  refine (OM.out _).mono ?_
  rintro e w2 ⟨rfl, hw2⟩
  have hX := heap_one w (.cells #[.slice none 0 0, .slice none 0 0, .int .i64 stop, .int .i64 most, .bool false, .bool false] 140)
  have hb1 := (Below.refl w.heap.size w).alloc (Nat.le_refl _) (.cells #[.slice none 0 0, .slice none 0 0, .int .i64 stop, .int .i64 most, .bool false, .bool false] 140)
  have hz1 : (w.alloc (.cells #[.slice none 0 0, .slice none 0 0, .int .i64 stop, .int .i64 most, .bool false, .bool false] 140)).heap.size = w.heap.size + 1 := by simp
  generalize w.alloc (.cells #[.slice none 0 0, .slice none 0 0, .int .i64 stop, .int .i64 most, .bool false, .bool false] 140) = w1 at *
  obtain ⟨hbx, hby⟩ := heap_two w1 (.cells #[.pointer (some ⟨a, 0, none⟩)] 47) (.cells #[.int .i64 s] 3)
  have hb2 := ((Below.refl w1.heap.size w1).alloc (Nat.le_refl _) (.cells #[.pointer (some ⟨a, 0, none⟩)] 47)).alloc (by simp) (.cells #[.int .i64 s] 3)
  have hz2 : ((w1.alloc (.cells #[.pointer (some ⟨a, 0, none⟩)] 47)).alloc (.cells #[.int .i64 s] 3)).heap.size = w1.heap.size + 2 := by simp
  rw [← hw2] at hbx hby hb2 hz2
  clear hw2
  rw [hz1] at hbx hby hb2 hz2 ⊢
  have hX2 := (hb2.block _ (by omega)).trans hX
  have hB2 := hb1.trans (hb2.mono (by omega))
  have hT2 := TkAt.fresh (B := w.heap.size) hX2 (Nat.le_refl _)
  have mS : ∀ k ∈ [a, wb, 1, 0, w.heap.size + 1, w.heap.size + 1 + 1], k < w2.heap.size := fun k hk => by simp at hk; omega
  have OT := Lib.hid (obj1_take a wb (w.heap.size + 1 + 1) (w.heap.size + 1) A s [a, wb, 1, 0, w.heap.size + 1, w.heap.size + 1 + 1] (by simp) (by simp) (by simp) (by simp) (by simp) (by simp) ok w2 (tb.below hB2) (hA.below hB2) (by rw [(hcell hby).1]; rfl) (by rw [(hcell hbx).1]; rfl) mS
    w.heap.size 0 140 w.heap.size (Tk.new stop most) (.slice none 0 0) (.slice none 0 0) hT2 (by decide) (by omega) (fun k hk hm => by simp [fpOf, Value.ownBlock] at hm hk; omega) rfl (by simp [Tk.new]))
  have hbx2 := hbx
  have hby2 := hby
  clear hb1 hb2 hX hX2 hz1 OM hT2 w1
  go_wp2_with fail
  refine OT.out.mono ?_
  rintro e w3 ⟨rfl, hW3⟩
  obtain ⟨⟨u1, u2, hT3, hfp3⟩, -, ho3⟩ := hW3
  have ez : ∀ b, fpOf b (.slice none 0 0) (.slice none 0 0) = [b] := fun _ => rfl
  rw [ez] at hfp3 ho3
  have hlen := (Tk.over_len (l := A.objs s) (T := Tk.new stop most) rfl)
  have hdeaf := Tk.run_deaf (l := A.objs s) (T := Tk.new stop most) rfl rfl
  have h262 := A.objs_len ok s
  have hl0 : (Tk.new stop most).at_.length = 0 := rfl
  have hn262 : ((Tk.new stop most).over (A.objs s)).hd.length ≤ 262145 := by rw [hl0] at hlen; omega
  have hemp : A.objs s = [] → (Tk.new stop most).over (A.objs s) = Tk.new stop most := fun e => by rw [e]; rfl
  have OT2 := Lib.hid (fun (W : World) (hB : Below w.heap.size w W) (h1 : W.heap[w.heap.size + 1]? = some (Obj.cells #[.pointer (some ⟨a, 0, none⟩)] 47 (0, 0))) (h2 : W.heap[w.heap.size + 1 + 1]? = some (Obj.cells #[.int .i64 s] 3 (0, 0))) (q : Nat) (hq : w.heap.size + 3 ≤ q) (hT : TkAt W q 0 140 w.heap.size (Tk.new stop most) (.slice none 0 0) (.slice none 0 0)) =>
    obj1_take a wb (w.heap.size + 1 + 1) (w.heap.size + 1) A s [a, wb, 1, 0, w.heap.size + 1, w.heap.size + 1 + 1] (by simp) (by simp) (by simp) (by simp) (by simp) (by simp) ok W (tb.below hB) (hA.below hB) (by rw [(hcell h2).1]; rfl) (by rw [(hcell h1).1]; rfl) (fun k hk => by have := hB.size; have := lt_of_heap h2; simp at hk; omega)
      q 0 140 w.heap.size (Tk.new stop most) (.slice none 0 0) (.slice none 0 0) hT (by decide) hB.size (fun k hk hm => by simp [fpOf, Value.ownBlock] at hm hk; omega) rfl (by simp [Tk.new]))
  have OW := Lib.hid (fun (W : World) (hB : Below w.heap.size w W) (h1 : W.heap[w.heap.size + 1]? = some (Obj.cells #[.pointer (some ⟨a, 0, none⟩)] 47 (0, 0))) (h2 : W.heap[w.heap.size + 1 + 1]? = some (Obj.cells #[.int .i64 s] 3 (0, 0))) (q : Nat) (hq : w.heap.size + 3 ≤ q) (Z : Tk) (hT : TkAt W q 1 184 w.heap.size (Tk.new stop most) (.slice none 0 0) (.slice none 0 0)) (hM : TkAt W q 7 184 w.heap.size Z (.slice none 0 0) (.slice none 0 0))
      (hit : W.cell? ⟨q, 0, none⟩ = some (.func (.func 152) #[] #[.pointer (some ⟨w.heap.size + 1, 0, none⟩), .pointer (some ⟨w.heap.size + 1 + 1, 0, none⟩)])) =>
    obj1_within a wb (w.heap.size + 1 + 1) (w.heap.size + 1) A s [a, wb, 1, 0, w.heap.size + 1, w.heap.size + 1 + 1] (by simp) (by simp) (by simp) (by simp) (by simp) (by simp) ok W (tb.below hB) (hA.below hB) (by rw [(hcell h2).1]; rfl) (by rw [(hcell h1).1]; rfl) (fun k hk => by have := hB.size; have := lt_of_heap h2; simp at hk; omega)
      q w.heap.size stop most Z hT hM hit (fun hk => by simp at hk; omega))
  have HE := Lib.hid hemp
  clear hemp hA tb OT hl0
  generalize hT1 : (Tk.new stop most).over (A.objs s) = T1 at *
  have hB3 := hB2.trans (ho3.below (B := w.heap.size) (by omega) (by simp))
  have hbx3 := (ho3.block (w.heap.size + 1) (by omega) (by simp)).trans hbx2
  have hby3 := (ho3.block (w.heap.size + 1 + 1) (by omega) (by simp; omega)).trans hby2
  have hz3 := ho3.size
  have hf3 : ∀ k ∈ fpOf w.heap.size u1 u2, k = w.heap.size ∨ w.heap.size + 3 ≤ k := fun k hk => by
    rcases hfp3 k hk with q | q
    · exact .inl (by simpa using q)
    · right; omega
  have HT1 := Lib.hid hT1
  clear hbx2 hby2 hbx hby ho3 hfp3 hT1
  go_upto_region 7 with fail
  have hX4 := heap_one w3 (.cells #[.slice none 0 0, .slice none 0 0, .int .i64 stop, .int .i64 most, .bool false, .bool false] 140)
  have hb4 := (Below.refl w3.heap.size w3).alloc (Nat.le_refl _) (.cells #[.slice none 0 0, .slice none 0 0, .int .i64 stop, .int .i64 most, .bool false, .bool false] 140)
  generalize w3.alloc (.cells #[.slice none 0 0, .slice none 0 0, .int .i64 stop, .int .i64 most, .bool false, .bool false] 140) = w4 at *
  have hB4 := hB3.trans (hb4.mono (by omega))
  have OTq := Lib.hid (OT2.out w4 hB4 ((hb4.block _ (by omega)).trans hbx3) ((hb4.block _ (by omega)).trans hby3) w3.heap.size (by omega) (TkAt.fresh hX4 (by omega)))
  have hT4 := hT3.below hb4
  have hbx4 := (hb4.block _ (by omega)).trans hbx3
  have hby4 := (hb4.block _ (by omega)).trans hby3
  have lq4 := lt_of_heap hX4
  have hf3' : ∀ k ∈ fpOf w.heap.size u1 u2, k < w3.heap.size := fun k hk => (hT3.lt k hk).1
  generalize w3.heap.size = q at *
  clear hb4 hX4 hB3 hT3 hbx3 hby3 OT2 w3
  go_wp2_with fail
  refine OTq.out.mono ?_
  rintro e w5 ⟨rfl, ⟨y1, y2, hT5, hfp5⟩, -, ho5⟩
  rw [ez] at hfp5 ho5
  have hU5 := hT4.same (w' := w5) (fun k hk => ho5.block k (by have := hf3' k hk; omega) (by have := hf3' k hk; simp; omega))
  have hB5 := hB4.trans (ho5.below (B := w.heap.size) (by omega) (by simp; omega))
  have hbx5 := (ho5.block (w.heap.size + 1) (by omega) (by simp; omega)).trans hbx4
  have hby5 := (ho5.block (w.heap.size + 1 + 1) (by omega) (by simp; omega)).trans hby4
  clear hT4 hbx4 hby4 ho5 hfp5 hB4 OTq hf3 hf3' lq4 w4
  obtain ⟨p1, n1, rfl⟩ := row_form hU5.r1
  obtain ⟨p2, n2, rfl⟩ := row_form hU5.r2
  obtain ⟨p3, n3, rfl⟩ := row_form hT5.r1
  obtain ⟨p4, n4, rfl⟩ := row_form hT5.r2
  have cu0 := hU5.c0
  have cu1 := hU5.c1
  have cu5 := hU5.c5
  have cy0 := hT5.c0
  have cy1 := hT5.c1
  have cy5 := hT5.c5
  rw [hdeaf] at cu5 cy5
  have lt5 := (hU5.lt w.heap.size (mem_fp.2 (.inl rfl))).1
  have lq5 := (hT5.lt q (mem_fp.2 (.inl rfl))).1
  go_upto_region 8 with fail
  go_big_region
  go_wp2_with fail
  have hdr := (Below.refl w5.heap.size w5).drew
  replace hU5 := hU5.below hdr
  replace hT5 := hT5.below hdr
  have hB6 := hB5.drew
  have lt6 : w.heap.size < w5.drew.heap.size := lt5
  have lq6 : q < w5.drew.heap.size := lq5
  have hbx6 : w5.drew.heap[w.heap.size + 1]? = _ := hbx5
  have hby6 : w5.drew.heap[w.heap.size + 1 + 1]? = _ := hby5
  clear cu0 cu1 cu5 cy0 cy1 cy5 hdr hB5 hbx5 hby5 lt5 lq5
  generalize w5.drew = w6 at *
  have SHE := Lib.hid (fun (h : Hd) (W : World) => (sameHead_any h h W).mono (R' := fun e w' => e = .returned (.bool true) ∧ Below W.heap.size W w') fun e w' ⟨h1, h2⟩ => ⟨by rw [h1, hdEq_iff.2 rfl], h2⟩)
  go_loopw [13] (fun i wx => ∃ k : Nat, k ≤ T1.hd.length ∧ i = .int .i64 k ∧ Below w6.heap.size w6 wx) (fun i _ => T1.hd.length - (intOf i).toNat)
  case atStart => exact ⟨0, Nat.zero_le _, rfl, Below.refl _ _⟩
  case round =>
    obtain ⟨k, hk, rfl, hbr⟩ := hrel
    have hUr := hU5.below hbr
    have hTr := hT5.below hbr
    have c0 := hUr.c0
    have c1 := hUr.c1
    have d0 := hTr.c0
    have d1 := hTr.c1
    by_cases hlt : k < T1.hd.length
    · obtain ⟨g1, cp1, e1, -, -⟩ := hUr.r1.form (by omega)
      obtain ⟨g2, cp2, e2, -, -⟩ := hUr.r2.form (by omega)
      obtain ⟨g3, cp3, e3, -, -⟩ := hTr.r1.form (by omega)
      obtain ⟨g4, cp4, e4, -, -⟩ := hTr.r2.form (by omega)
      cases e1
      cases e2
      cases e3
      cases e4
      rw [hlen.1] at c0 d0
      go_upto_region 13 with fail
      have a1 := row_int hUr.r1 (i := k) (by omega)
      have a3 := row_int hTr.r1 (i := k) (by omega)
      have b2 := fun j (hj : j < 7) => row_hd hUr.r2 (i := k) (by omega) hj rfl
      have b4 := fun j (hj : j < 7) => row_hd hTr.r2 (i := k) (by omega) hj rfl
      generalize T1.at_.getD k 0 = av at *
      generalize T1.hd.getD k nohd = h9 at *
      obtain ⟨x0, x1, x2, x3, x4, x5, x6⟩ := h9
      have b20 : wr.cell? ⟨g2, k * 7, none⟩ = some (.int .u64 x0) := b2 0 (by decide)
      have b21 : wr.cell? ⟨g2, k * 7 + 1, none⟩ = some (.int .i64 x1) := b2 1 (by decide)
      have b22 : wr.cell? ⟨g2, k * 7 + 2, none⟩ = some (.int .i64 x2) := b2 2 (by decide)
      have b23 : wr.cell? ⟨g2, k * 7 + 3, none⟩ = some (.int .i64 x3) := b2 3 (by decide)
      have b24 : wr.cell? ⟨g2, k * 7 + 4, none⟩ = some (.int .i64 x4) := b2 4 (by decide)
      have b25 : wr.cell? ⟨g2, k * 7 + 5, none⟩ = some (.int .i64 x5) := b2 5 (by decide)
      have b26 : wr.cell? ⟨g2, k * 7 + 6, none⟩ = some (.bool x6) := b2 6 (by decide)
      have b40 : wr.cell? ⟨g4, k * 7, none⟩ = some (.int .u64 x0) := b4 0 (by decide)
      have b41 : wr.cell? ⟨g4, k * 7 + 1, none⟩ = some (.int .i64 x1) := b4 1 (by decide)
      have b42 : wr.cell? ⟨g4, k * 7 + 2, none⟩ = some (.int .i64 x2) := b4 2 (by decide)
      have b43 : wr.cell? ⟨g4, k * 7 + 3, none⟩ = some (.int .i64 x3) := b4 3 (by decide)
      have b44 : wr.cell? ⟨g4, k * 7 + 4, none⟩ = some (.int .i64 x4) := b4 4 (by decide)
      have b45 : wr.cell? ⟨g4, k * 7 + 5, none⟩ = some (.int .i64 x5) := b4 5 (by decide)
      have b46 : wr.cell? ⟨g4, k * 7 + 6, none⟩ = some (.bool x6) := b4 6 (by decide)
      have k0 : (0 : Int) ≤ (k : Int) := Int.natCast_nonneg _
      have k1 : (k : Int) < (T1.hd.length : Int) := by omega
      clear b2 b4 hU5 hT5 hUr hTr
      have KEEP := Lib.hid (fun (W : World) (hb : Below wr.heap.size wr W) => (⟨(hb.cell (p := ⟨w.heap.size, 0, none⟩) (World.block_lt_of_cell? wr ⟨w.heap.size, 0, none⟩ c0)).trans c0, (hb.cell (p := ⟨w.heap.size, 1, none⟩) (World.block_lt_of_cell? wr ⟨w.heap.size, 1, none⟩ c1)).trans c1, (hb.cell (p := ⟨q, 0, none⟩) (World.block_lt_of_cell? wr ⟨q, 0, none⟩ d0)).trans d0, (hb.cell (p := ⟨q, 1, none⟩) (World.block_lt_of_cell? wr ⟨q, 1, none⟩ d1)).trans d1, (hb.cell (p := ⟨g1, k, none⟩) (World.block_lt_of_cell? wr ⟨g1, k, none⟩ a1)).trans a1, (hb.cell (p := ⟨g3, k, none⟩) (World.block_lt_of_cell? wr ⟨g3, k, none⟩ a3)).trans a3, (hb.cell (p := ⟨g2, k * 7, none⟩) (World.block_lt_of_cell? wr ⟨g2, k * 7, none⟩ b20)).trans b20, (hb.cell (p := ⟨g2, k * 7 + 1, none⟩) (World.block_lt_of_cell? wr ⟨g2, k * 7 + 1, none⟩ b21)).trans b21, (hb.cell (p := ⟨g2, k * 7 + 2, none⟩) (World.block_lt_of_cell? wr ⟨g2, k * 7 + 2, none⟩ b22)).trans b22, (hb.cell (p := ⟨g2, k * 7 + 3, none⟩) (World.block_lt_of_cell? wr ⟨g2, k * 7 + 3, none⟩ b23)).trans b23, (hb.cell (p := ⟨g2, k * 7 + 4, none⟩) (World.block_lt_of_cell? wr ⟨g2, k * 7 + 4, none⟩ b24)).trans b24, (hb.cell (p := ⟨g2, k * 7 + 5, none⟩) (World.block_lt_of_cell? wr ⟨g2, k * 7 + 5, none⟩ b25)).trans b25, (hb.cell (p := ⟨g2, k * 7 + 6, none⟩) (World.block_lt_of_cell? wr ⟨g2, k * 7 + 6, none⟩ b26)).trans b26, (hb.cell (p := ⟨g4, k * 7, none⟩) (World.block_lt_of_cell? wr ⟨g4, k * 7, none⟩ b40)).trans b40, (hb.cell (p := ⟨g4, k * 7 + 1, none⟩) (World.block_lt_of_cell? wr ⟨g4, k * 7 + 1, none⟩ b41)).trans b41, (hb.cell (p := ⟨g4, k * 7 + 2, none⟩) (World.block_lt_of_cell? wr ⟨g4, k * 7 + 2, none⟩ b42)).trans b42, (hb.cell (p := ⟨g4, k * 7 + 3, none⟩) (World.block_lt_of_cell? wr ⟨g4, k * 7 + 3, none⟩ b43)).trans b43, (hb.cell (p := ⟨g4, k * 7 + 4, none⟩) (World.block_lt_of_cell? wr ⟨g4, k * 7 + 4, none⟩ b44)).trans b44, (hb.cell (p := ⟨g4, k * 7 + 5, none⟩) (World.block_lt_of_cell? wr ⟨g4, k * 7 + 5, none⟩ b45)).trans b45, (hb.cell (p := ⟨g4, k * 7 + 6, none⟩) (World.block_lt_of_cell? wr ⟨g4, k * 7 + 6, none⟩ b46)).trans b46, hb⟩ : W.cell? ⟨w.heap.size, 0, none⟩ = some (.slice (some ⟨g1, 0, none⟩) T1.hd.length n1) ∧ W.cell? ⟨w.heap.size, 1, none⟩ = some (.slice (some ⟨g2, 0, none⟩) T1.hd.length n2) ∧ W.cell? ⟨q, 0, none⟩ = some (.slice (some ⟨g3, 0, none⟩) T1.hd.length n3) ∧ W.cell? ⟨q, 1, none⟩ = some (.slice (some ⟨g4, 0, none⟩) T1.hd.length n4) ∧ W.cell? ⟨g1, k, none⟩ = some (.int .i64 av) ∧ W.cell? ⟨g3, k, none⟩ = some (.int .i64 av) ∧ W.cell? ⟨g2, k * 7, none⟩ = some (.int .u64 x0) ∧ W.cell? ⟨g2, k * 7 + 1, none⟩ = some (.int .i64 x1) ∧ W.cell? ⟨g2, k * 7 + 2, none⟩ = some (.int .i64 x2) ∧ W.cell? ⟨g2, k * 7 + 3, none⟩ = some (.int .i64 x3) ∧ W.cell? ⟨g2, k * 7 + 4, none⟩ = some (.int .i64 x4) ∧ W.cell? ⟨g2, k * 7 + 5, none⟩ = some (.int .i64 x5) ∧ W.cell? ⟨g2, k * 7 + 6, none⟩ = some (.bool x6) ∧ W.cell? ⟨g4, k * 7, none⟩ = some (.int .u64 x0) ∧ W.cell? ⟨g4, k * 7 + 1, none⟩ = some (.int .i64 x1) ∧ W.cell? ⟨g4, k * 7 + 2, none⟩ = some (.int .i64 x2) ∧ W.cell? ⟨g4, k * 7 + 3, none⟩ = some (.int .i64 x3) ∧ W.cell? ⟨g4, k * 7 + 4, none⟩ = some (.int .i64 x4) ∧ W.cell? ⟨g4, k * 7 + 5, none⟩ = some (.int .i64 x5) ∧ W.cell? ⟨g4, k * 7 + 6, none⟩ = some (.bool x6) ∧ Below wr.heap.size wr W))
      have SHW := Lib.hid (fun (W : World) (hb : Below wr.heap.size wr W) => (SHE.out ⟨x0, x1, x2, x3, x4, x5, x6⟩ W).mono (R' := fun e w' => e = .returned (.bool true) ∧ Below wr.heap.size wr w') fun e w' ⟨h1, h2⟩ => ⟨h1, hb.trans (h2.mono hb.size)⟩)
      unfold Hd.val at SHW
      simp only at SHW
      clear SHE
      go_region_held3 (fun W => W.cell? ⟨w.heap.size, 0, none⟩ = some (.slice (some ⟨g1, 0, none⟩) T1.hd.length n1) ∧ W.cell? ⟨w.heap.size, 1, none⟩ = some (.slice (some ⟨g2, 0, none⟩) T1.hd.length n2) ∧ W.cell? ⟨q, 0, none⟩ = some (.slice (some ⟨g3, 0, none⟩) T1.hd.length n3) ∧ W.cell? ⟨q, 1, none⟩ = some (.slice (some ⟨g4, 0, none⟩) T1.hd.length n4) ∧ W.cell? ⟨g1, k, none⟩ = some (.int .i64 av) ∧ W.cell? ⟨g3, k, none⟩ = some (.int .i64 av) ∧ W.cell? ⟨g2, k * 7, none⟩ = some (.int .u64 x0) ∧ W.cell? ⟨g2, k * 7 + 1, none⟩ = some (.int .i64 x1) ∧ W.cell? ⟨g2, k * 7 + 2, none⟩ = some (.int .i64 x2) ∧ W.cell? ⟨g2, k * 7 + 3, none⟩ = some (.int .i64 x3) ∧ W.cell? ⟨g2, k * 7 + 4, none⟩ = some (.int .i64 x4) ∧ W.cell? ⟨g2, k * 7 + 5, none⟩ = some (.int .i64 x5) ∧ W.cell? ⟨g2, k * 7 + 6, none⟩ = some (.bool x6) ∧ W.cell? ⟨g4, k * 7, none⟩ = some (.int .u64 x0) ∧ W.cell? ⟨g4, k * 7 + 1, none⟩ = some (.int .i64 x1) ∧ W.cell? ⟨g4, k * 7 + 2, none⟩ = some (.int .i64 x2) ∧ W.cell? ⟨g4, k * 7 + 3, none⟩ = some (.int .i64 x3) ∧ W.cell? ⟨g4, k * 7 + 4, none⟩ = some (.int .i64 x4) ∧ W.cell? ⟨g4, k * 7 + 5, none⟩ = some (.int .i64 x5) ∧ W.cell? ⟨g4, k * 7 + 6, none⟩ = some (.bool x6) ∧ Below wr.heap.size wr W) (first | exact KEEP.out _ (Below.refl _ _).drew | exact KEEP.out _ (Below.refl _ _) | exact KEEP.out _ (by assumption)) (first | (go_at_call 96; refine (SHW.out _ ?_).mono ?_; (first | assumption | exact (Below.refl _ _).drew | exact (Below.refl _ _)); rintro e w' ⟨rfl, hb9⟩))
      all_goals
        go_wp2_with fail
        exact ⟨⟨k + 1, by omega, by go_num, hbr.trans (hb9.mono hbr.size)⟩, by simp [intOf]; omega⟩
    · obtain rfl : k = T1.hd.length := by omega
      go_upto_region 16 with fail
      have hX7 := heap_one wr (.cells #[.func (.func 152) #[] #[.pointer (some ⟨w.heap.size + 1, 0, none⟩), .pointer (some ⟨w.heap.size + 1 + 1, 0, none⟩)], .slice none 0 0, .slice none 0 0, .int .i64 stop, .int .i64 most, .bool false, .bool false, .slice none 0 0, .slice none 0 0, .int .i64 0, .int .i64 0, .bool false, .bool false] 184)
      have hb7 := (Below.refl wr.heap.size wr).alloc (Nat.le_refl _) (.cells #[.func (.func 152) #[] #[.pointer (some ⟨w.heap.size + 1, 0, none⟩), .pointer (some ⟨w.heap.size + 1 + 1, 0, none⟩)], .slice none 0 0, .slice none 0 0, .int .i64 stop, .int .i64 most, .bool false, .bool false, .slice none 0 0, .slice none 0 0, .int .i64 0, .int .i64 0, .bool false, .bool false] 184)
      generalize wr.alloc (.cells #[.func (.func 152) #[] #[.pointer (some ⟨w.heap.size + 1, 0, none⟩), .pointer (some ⟨w.heap.size + 1 + 1, 0, none⟩)], .slice none 0 0, .slice none 0 0, .int .i64 stop, .int .i64 most, .bool false, .bool false, .slice none 0 0, .slice none 0 0, .int .i64 0, .int .i64 0, .bool false, .bool false] 184) = w7 at *
      have hwr := hbr.size
      have hB7 := (hB6.trans (hbr.mono (by omega))).trans (hb7.mono (by omega))
      have hbx7 := (hb7.block _ (by omega)).trans ((hbr.block _ (lt_of_heap hbx6)).trans hbx6)
      have hby7 := (hb7.block _ (by have := lt_of_heap hby6; omega)).trans ((hbr.block _ (lt_of_heap hby6)).trans hby6)
      have hU7 := hUr.below hb7
      have hT7 := hTr.below hb7
      obtain ⟨hWt, hWm⟩ := TkAt.freshW (B := w.heap.size) hX7 (by omega)
      have OWr := Lib.hid (OW.out w7 hB7 hbx7 hby7 wr.heap.size (by have := lt_of_heap hby6; omega) (Tk.new 0 0) hWt hWm (by rw [(hcell hX7).1]; rfl))
      have lU : ∀ k ∈ fpOf w.heap.size (.slice p1 T1.at_.length n1) (.slice p2 T1.hd.length n2), k < wr.heap.size := fun k hk => (hUr.lt k hk).1
      have lT : ∀ k ∈ fpOf q (.slice p3 T1.at_.length n3) (.slice p4 T1.hd.length n4), k < wr.heap.size := fun k hk => (hTr.lt k hk).1
      have lr7 := lt_of_heap hX7
      clear hUr hTr c0 c1 d0 d1 hX7 hWt hWm hb7 OW hU5 hT5 hbx7 hby7 SHE
      generalize wr.heap.size = r at *
      clear hwr hbx6 hby6 hB6 lt6 lq6
      go_wp2_with fail
      refine OWr.out.mono ?_
      rintro e w8 ⟨rfl, ⟨j1, j2, j3, j4, hJ1, hJ7⟩, ho8⟩
      have hU8 := hU7.same (w' := w8) (fun k hk => ho8.block k (by have := lU k hk; omega) (by have := lU k hk; simp; omega))
      have hT8 := hT7.same (w' := w8) (fun k hk => ho8.block k (by have := lT k hk; omega) (by have := lT k hk; simp; omega))
      have lUt := lU w.heap.size (mem_fp.2 (.inl rfl))
      have hB8 := hB7.trans (ho8.below (B := w.heap.size) hB7.size (by simp; omega))
      have hMat : (if A.objs s = [] then Tk.new 0 0 else T1).at_ = T1.at_ := by
        by_cases h0 : A.objs s = []
        · rw [if_pos h0, HE.out h0]; rfl
        · rw [if_neg h0]
      have SM := Lib.hid (fun (W : World) (hb : Below w8.heap.size w8 W) => same_true r w.heap.size w.heap.size T1 _ j1 j2 j3 j4 _ _ W (hJ1.below hb) (hJ7.below hb) (hU8.below hb) hMat (by omega))
      have cu5 := hU8.c5
      have cy5 := hT8.c5
      rw [hdeaf] at cu5 cy5
      have HU8 := Lib.hid hU8
      have HB8 := Lib.hid hB8
      clear hU8 hT8 hU7 hT7 hJ1 hJ7 ho8 hMat hB7 hB8 lU lT lUt OWr HE lr7 w7
      go_wp2_with fail
      refine (SM.out _ (Below.refl _ _)).mono ?_
      rintro e w9 ⟨rfl, hb9⟩
      go_wp2_with fail
      go_ret2
      exact ⟨w.heap.size, _, _, rfl, by rw [HT1.out]; exact HU8.out.below hb9, HB8.out.trans (hb9.mono HB8.out.size)⟩
end Go.Proofs.YtomgfdfgildkbaaDoor
