/- Plain words for package buffer: buffers as numbers; how they lie in memory. No condition. -/
import Derived.Test.YtomgfdfgildkbaaDoorArenaP
namespace Go.Proofs.YtomgfdfgildkbaaDoor
open Go.RowKit

def restsC (l : List (Int × Int)) : Array Value := (l.flatMap fun r => [Value.int .i64 r.1, Value.int .i64 r.2]).toArray
structure Bu where
  size : Int
  rests : List (Int × Int)
structure BuAt (w : World) (b rb : Nat) (B : Bu) : Prop where
  st : w.heap[b]? = some (.cells #[.int .i64 B.size, .slice (some ⟨rb, 0, none⟩) B.rests.length B.rests.length] 129 (0, 0))
  rs : w.heap[rb]? = some (.cells (restsC B.rests) 132 (0, 0))
  ne : b ≠ rb
structure Bu.Ok (B : Bu) : Prop where
  n1 : 1 ≤ B.rests.length
  n8 : B.rests.length ≤ 8
  s0 : 0 ≤ B.size
  s1 : B.size ≤ 65536
def Bu.new (n s : Int) : Bu := ⟨s, List.replicate n.toNat (0, 0)⟩
def Bu.rest (B : Bu) (t : Int) : Int × Int := if 0 ≤ t then B.rests.getD t.toNat (0, 0) else (0, 0)
def Bu.is (B : Bu) (t : Int) : Bool := decide (0 ≤ t ∧ t < (B.rests.length : Int))
theorem BuAt.below {w w' : World} {b rb : Nat} {B : Bu} (h : BuAt w b rb B) (hb : Below w.heap.size w w') : BuAt w' b rb B :=
  ⟨(hb.block _ (lt_of_heap h.st)).trans h.st, (hb.block _ (lt_of_heap h.rs)).trans h.rs, h.ne⟩
theorem restsC_get (l : List (Int × Int)) (k : Nat) (h : k < l.length) : (restsC l)[2 * k]? = some (.int .i64 (l.getD k (0, 0)).1) ∧ (restsC l)[2 * k + 1]? = some (.int .i64 (l.getD k (0, 0)).2) := by
  unfold restsC
  induction l generalizing k with
  | nil => simp at h
  | cons r l ih =>
    cases k with
    | zero => simp
    | succ k =>
      have := ih k (by simpa using h)
      simp only [List.flatMap_cons, List.getElem?_toArray] at this ⊢
      constructor
      · rw [show 2 * (k + 1) = 2 * k + 2 by omega]
        simpa using this.1
      · rw [show 2 * (k + 1) + 1 = (2 * k + 1) + 2 by omega]
        simpa using this.2
theorem restsC_zero (n : Nat) : restsC (List.replicate n (0, 0)) = (List.replicate (2 * n) (Value.int .i64 0)).toArray := by
  unfold restsC
  congr 1
  induction n with
  | zero => rfl
  | succ n ih =>
    rw [List.replicate_succ, List.flatMap_cons, ih, show 2 * (n + 1) = (2 * n) + 1 + 1 by omega, List.replicate_succ, List.replicate_succ]
    rfl
theorem BuAt.cells {w : World} {b rb : Nat} {B : Bu} (h : BuAt w b rb B) : (∀ o, w.cell? ⟨b, o, none⟩ = (#[.int .i64 B.size, .slice (some ⟨rb, 0, none⟩) B.rests.length B.rests.length] : Array Value)[o]?) ∧ (∀ o, w.frozen? ⟨b, o, none⟩ = false) := hcell h.st
theorem BuAt.rcell {w : World} {b rb : Nat} {B : Bu} (h : BuAt w b rb B) {t : Int} (ht : B.is t = true) : w.cell? ⟨rb, t.toNat * 2, none⟩ = some (.int .i64 (B.rest t).1) ∧ w.cell? ⟨rb, t.toNat * 2 + 1, none⟩ = some (.int .i64 (B.rest t).2) := by
  unfold Bu.is at ht
  have ht := of_decide_eq_true ht
  have hg := restsC_get B.rests t.toNat (by omega)
  have hc := (hcell h.rs).1
  unfold Bu.rest
  rw [if_pos ht.1]
  exact ⟨by rw [hc, Nat.mul_comm, hg.1], by rw [hc, Nat.mul_comm, hg.2]⟩
end Go.Proofs.YtomgfdfgildkbaaDoor
