/- Plain words: what laying an object does to an arena. No condition. -/
import Derived.Test.YtomgfdfgildkbaaDoorBufW4
namespace Go.Proofs.YtomgfdfgildkbaaDoor
open Go.RowKit

theorem Ar.rest_top (A : Ar) (x y s : Int) : (A.rest x y).top s = A.top s := by unfold Ar.rest; split <;> rfl
theorem Ar.rest_free (A : Ar) (x y s : Int) : (A.rest x y).free s = A.free s := by unfold Ar.rest; split <;> rfl
theorem Ar.blit_top (A : Ar) (x : Int) (xs : List Int) (s : Int) : (A.blit x xs).top s = A.top s := rfl
theorem Ar.blit_free (A : Ar) (x : Int) (xs : List Int) (s : Int) : (A.blit x xs).free s = A.free s := rfl
theorem Ar.take_top1 (A : Ar) (n : Int) : (A.take 1 n).top 1 = A.top 1 + n := by simp [Ar.take, Ar.setTop, Ar.top]
theorem Ar.take_free1 (A : Ar) (n : Int) : (A.take 1 n).free 1 = A.free 1 - n := by simp [Ar.take, Ar.setTop, Ar.top, Ar.free, Ar.behind]; omega
theorem Ar.rest_len (A : Ar) (x y : Int) : (A.rest x y).words.length = A.words.length := by unfold Ar.rest Ar.put; split <;> simp
theorem blit_mem {l : List Int} {o : Nat} {xs : List Int} {v : Int} (h : v ∈ blit l o xs) : v ∈ l ∨ v ∈ xs := by
  unfold blit at h
  simp only [List.mem_append] at h
  rcases h with (h | h) | h
  · exact .inl (List.mem_of_mem_take h)
  · exact .inr h
  · exact .inl (List.mem_of_mem_drop h)
theorem Ar.Ok.blit {A : Ar} (ok : A.Ok) {x : Int} {xs : List Int} (h0 : 0 ≤ x) (h : x + xs.length ≤ (A.words.length : Int)) (hx : ∀ v ∈ xs, 0 ≤ v ∧ v < 18446744073709551616) : (A.blit x xs).Ok := by
  refine ⟨ok.cv, ?_, ?_, ok.a1, ok.b1, ok.a2, ok.b2, ok.a3, ok.b3, ok.a4, ok.b4, ok.fr⟩
  · rw [Ar.blit_len h0 h]; exact ok.len
  · intro v hv
    rcases blit_mem hv with h | h
    · exact ok.rng v h
    · exact hx v h
theorem objW_range {m s : Int} {n : Nat} (hm : 0 ≤ m ∧ m < 18446744073709551616) (hs : 0 ≤ s ∧ s < 18446744073709551616) : ∀ v ∈ objW m s n, 0 ≤ v ∧ v < 18446744073709551616 := by
  intro v hv
  unfold objW at hv
  simp only [List.mem_cons, List.mem_replicate] at hv
  rcases hv with rfl | rfl | ⟨_, rfl⟩
  · exact hm
  · exact hs
  · decide
theorem Ar.Ok.rest {A : Ar} (ok : A.Ok) {x y : Int} (h : y ≤ 1099511627776) : (A.rest x y).Ok := by
  unfold Ar.rest
  split
  · exact ok.put x.toNat (by unfold wordT; split <;> omega)
  · exact ok
end Go.Proofs.YtomgfdfgildkbaaDoor
