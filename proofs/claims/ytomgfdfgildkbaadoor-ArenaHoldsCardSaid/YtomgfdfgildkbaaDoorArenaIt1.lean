/- Plain words: what a walk through a space meets; what a round of a walk keeps. No condition. -/
import Derived.Test.YtomgfdfgildkbaaDoorArenaW8
import Derived.RangeFuncNested
namespace Go.Proofs.YtomgfdfgildkbaaDoor
open Go.RowKit

/-- What the walk meets: where, how many words (0: it fails there), whether it is an object. -/
structure Th where
  at_ : Int
  words : Int
  hd : Hd
  obj : Bool
def Th.cells (x : Th) : Array Value := #[.int .i64 x.at_, .int .i64 x.words, .int .u64 x.hd.ser, .int .i64 x.hd.kind, .int .i64 x.hd.ptrs, .int .i64 x.hd.raws, .int .i64 x.hd.age, .int .i64 x.hd.site, .bool x.hd.held, .bool x.obj]
def Th.val (x : Th) : Value := .agg x.cells
def Ar.fw (A : Ar) (s i : Int) : Int := if (numT 3 (A.word i)).2 = true ∧ (numT 3 (A.word i)).1 ≤ A.top s - i then (numT 3 (A.word i)).1 else 0
def Ar.th (A : Ar) (s i : Int) : Th := if A.isObj i then ⟨i, A.osz i, A.hd i, true⟩ else ⟨i, A.fw s i, nohd, false⟩
theorem Ar.fw_bd (A : Ar) (s i : Int) (h : i < A.top s) : 0 ≤ A.fw s i ∧ i + A.fw s i ≤ A.top s := by
  unfold Ar.fw
  split
  · rename_i q
    unfold numT at *
    split at q
    · rename_i r
      rw [if_pos r] at *
      simp only at *
      omega
    · simp at q
  · omega
theorem Ar.th_at (A : Ar) (s i : Int) : (A.th s i).at_ = i := by unfold Ar.th; split <;> rfl
def Ar.things (A : Ar) (s i : Int) : List Th :=
  if i < A.top s then (if 0 < (A.th s i).words then A.th s i :: A.things s (i + (A.th s i).words) else [A.th s i]) else []
termination_by (A.top s - i).toNat
decreasing_by omega
theorem Ar.things_end (A : Ar) {s i : Int} (h : ¬ i < A.top s) : A.things s i = [] := by rw [Ar.things]; simp [h]
theorem Ar.things_on (A : Ar) {s i : Int} (h : i < A.top s) (h2 : 0 < (A.th s i).words) : A.things s i = A.th s i :: A.things s (i + (A.th s i).words) := by rw [Ar.things]; simp [h, h2]
theorem Ar.things_bad (A : Ar) {s i : Int} (h : i < A.top s) (h2 : ¬ 0 < (A.th s i).words) : A.things s i = [A.th s i] := by rw [Ar.things]; simp [h, h2]
/-- The objects alone: where, with what header. -/
def objsOf (l : List Th) : List (Int × Hd) := (l.filter (·.obj)).map fun x => (x.at_, x.hd)
def Ar.objs (A : Ar) (s : Int) : List (Int × Hd) := if isSp s then objsOf (A.things s (A.first s)) else []
def Ar.all (A : Ar) (s : Int) : List Th := if isSp s then A.things s (A.first s) else []

/-- What a round of a walk keeps: some blocks; whatever thing lay. -/
structure KeptT (S : List Nat) (w w' : World) : Prop where
  size : w.heap.size ≤ w'.heap.size
  blk : ∀ k ∈ S, k < w.heap.size → w'.heap[k]? = w.heap[k]?
  thg : ∀ (k : Nat) (cs : Array Value) (fr : Nat × Nat), w.heap[k]? = some (Obj.cells cs 193 fr) → w'.heap[k]? = w.heap[k]?
theorem KeptT.refl (S : List Nat) (w : World) : KeptT S w w := ⟨Nat.le_refl _, fun _ _ _ => rfl, fun _ _ _ _ => rfl⟩
theorem KeptT.trans {S : List Nat} {a b c : World} (h : KeptT S a b) (k : KeptT S b c) : KeptT S a c :=
  ⟨Nat.le_trans h.size k.size, fun i hi hl => (k.blk i hi (Nat.lt_of_lt_of_le hl h.size)).trans (h.blk i hi hl), fun i cs fr hi => (k.thg i cs fr ((h.thg i cs fr hi).trans hi)).trans (h.thg i cs fr hi)⟩
theorem KeptT.of_heap {S : List Nat} {w w' : World} (hs : w.heap.size ≤ w'.heap.size) (h : ∀ k, k < w.heap.size → w'.heap[k]? = w.heap[k]?) : KeptT S w w' :=
  ⟨hs, fun k _ hl => h k hl, fun k _ _ hk => h k (lt_of_heap hk)⟩
theorem KeptT.below {S : List Nat} {w w' : World} (h : Below w.heap.size w w') : KeptT S w w' := .of_heap h.size h.block
theorem KeptT.putObj {S : List Nat} (W : World) (l : Nat) (o o' : Obj) (hS : ∀ k ∈ S, k < l) (h : W.heap[l]? = some o) (ho : o.isCells = false) : KeptT S W (W.putObj l o') := by
  have e : ∀ k, k ≠ l → (W.putObj l o').heap[k]? = W.heap[k]? := fun k hk => World.putObj_heap_other hk
  refine ⟨by simp [World.putObj], fun k hk _ => e k (by have := hS k hk; omega), fun k cs fr hk => e k ?_⟩
  rintro rfl
  rw [h] at hk
  cases hk
  cases ho
theorem ArAt.kept {w w' : World} {b wb : Nat} {A : Ar} {S : List Nat} (h : ArAt w b wb A) (k : KeptT S w w') (h1 : b ∈ S) (h2 : wb ∈ S) : ArAt w' b wb A :=
  ⟨(k.blk _ h1 (lt_of_heap h.st)).trans h.st, (k.blk _ h2 (lt_of_heap h.ws)).trans h.ws, h.ne⟩
theorem KeptT.cell {S : List Nat} {w w' : World} (k : KeptT S w w') {b o : Nat} {v : Value} (hb : b ∈ S) (h : w.cell? ⟨b, o, none⟩ = some v) : w'.cell? ⟨b, o, none⟩ = some v := by
  have hl : b < w.heap.size := World.block_lt_of_cell? w ⟨b, o, none⟩ h
  have e := k.blk b hb hl
  rw [← h]
  simp only [World.cell?, e]
theorem Tab.kept {w w' : World} {S : List Nat} (h : Tab w) (k : KeptT S w w') (h1 : 1 ∈ S) (h2 : 0 ∈ S) : Tab w' := by
  obtain ⟨n0, n1, n2, n3, n4, w0, w1, w2, w3, w4, w5, hs, ht⟩ := h
  have := k.size
  exact ⟨k.cell h1 n0, k.cell h1 n1, k.cell h1 n2, k.cell h1 n3, k.cell h1 n4, k.cell h2 w0, k.cell h2 w1, k.cell h2 w2, k.cell h2 w3, k.cell h2 w4, k.cell h2 w5, by omega, by omega⟩
end Go.Proofs.YtomgfdfgildkbaaDoor
