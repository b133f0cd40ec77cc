/- Plain words for buffer.Put: words laid over words; a thread's rest turned. No condition. -/
import Derived.Test.YtomgfdfgildkbaaDoorBufW2
import Derived.Laws.CopyRow
namespace Go.Proofs.YtomgfdfgildkbaaDoor
open Go.RowKit

def blit (l : List Int) (o : Nat) (xs : List Int) : List Int := l.take o ++ xs ++ l.drop (o + xs.length)
theorem blit_length {l : List Int} {o : Nat} {xs : List Int} (h : o + xs.length ≤ l.length) : (blit l o xs).length = l.length := by
  unfold blit; simp; omega
theorem blit_nil (l : List Int) (o : Nat) : blit l o [] = l := by unfold blit; simp
theorem blit_get {l : List Int} {o : Nat} {xs : List Int} (h : o + xs.length ≤ l.length) (j : Nat) : (blit l o xs)[j]? = if j < o then l[j]? else if j < o + xs.length then xs[j - o]? else l[j]? := by
  unfold blit
  by_cases c : j < o
  · rw [if_pos c, List.append_assoc, List.getElem?_append_left (by simp; omega), List.getElem?_take_of_lt c]
  · rw [if_neg c]
    by_cases d : j < o + xs.length
    · rw [if_pos d, List.append_assoc, List.getElem?_append_right (by simp; omega), List.getElem?_append_left (by simp; omega)]
      congr 1; simp; omega
    · rw [if_neg d, List.getElem?_append_right (by simp; omega), List.getElem?_drop]
      congr 1; simp; omega
theorem blit_step {l : List Int} {o : Nat} {xs : List Int} (h : o + xs.length ≤ l.length) {k : Nat} (hk : k < xs.length) : (blit l o (xs.take k)).set (o + k) (xs.getD k 0) = blit l o (xs.take (k + 1)) := by
  have h1 : o + (xs.take k).length ≤ l.length := by simp; omega
  have h2 : o + (xs.take (k + 1)).length ≤ l.length := by simp; omega
  apply List.ext_getElem?
  intro j
  rw [List.getElem?_set, blit_length h1, blit_get h1, blit_get h2]
  have e1 : (xs.take k).length = k := by simp; omega
  have e2 : (xs.take (k + 1)).length = k + 1 := by simp; omega
  rw [e1, e2]
  by_cases c : o + k = j
  · subst c
    rw [if_pos rfl, if_pos (by omega), if_neg (by omega), if_pos (by omega)]
    rw [show o + k - o = k by omega, List.getElem?_take_of_lt (by omega), List.getD_eq_getElem?_getD, List.getElem?_eq_getElem hk]
    rfl
  · rw [if_neg c]
    by_cases d : j < o
    · rw [if_pos d, if_pos d]
    · rw [if_neg d, if_neg d]
      by_cases q : j < o + k
      · rw [if_pos q, if_pos (by omega), List.getElem?_take_of_lt (by omega), List.getElem?_take_of_lt (by omega)]
      · rw [if_neg q, if_neg (by omega)]
def objW (m s : Int) (n : Nat) : List Int := m :: s :: List.replicate (n - 2) 0
def Ar.blit (A : Ar) (i : Int) (xs : List Int) : Ar := { A with words := Go.Proofs.YtomgfdfgildkbaaDoor.blit A.words i.toNat xs }
def Bu.setRest (B : Bu) (t : Int) (r : Int × Int) : Bu := { B with rests := B.rests.set t.toNat r }
theorem restsC_cons (r : Int × Int) (l : List (Int × Int)) : (restsC (r :: l)).toList = .int .i64 r.1 :: .int .i64 r.2 :: (restsC l).toList := by simp [restsC]
theorem restsC_set (l : List (Int × Int)) (k : Nat) (x y : Int) : ((restsC l).setIfInBounds (k * 2) (.int .i64 x)).setIfInBounds (k * 2 + 1) (.int .i64 y) = restsC (l.set k (x, y)) := by
  apply Array.ext'
  simp only [Array.toList_setIfInBounds]
  induction l generalizing k with
  | nil => simp [restsC]
  | cons r l ih =>
    cases k with
    | zero => simp [restsC_cons]
    | succ k =>
      rw [restsC_cons, List.set_cons_succ, restsC_cons, ← ih k, show (k + 1) * 2 = k * 2 + 1 + 1 by omega]
      simp
theorem BuAt.set {w : World} {b rb : Nat} {B : Bu} (h : BuAt w b rb B) (t x y : Int) : BuAt ((w.setCell ⟨rb, t.toNat * 2, none⟩ (.int .i64 x)).setCell ⟨rb, t.toNat * 2 + 1, none⟩ (.int .i64 y)) b rb (B.setRest t (x, y)) := by
  refine ⟨?_, ?_, h.ne⟩
  · rw [block_set_ne h.ne, block_set_ne h.ne, h.st]; simp [Bu.setRest]
  · rw [block_set (block_set h.rs _ _) _ _, restsC_set]; rfl
theorem restsC_set' (l : List (Int × Int)) (k : Nat) (x y : Int) : ((restsC l).setIfInBounds (k * 2 + 1) (.int .i64 y)).setIfInBounds (k * 2) (.int .i64 x) = restsC (l.set k (x, y)) := by
  rw [← restsC_set]
  apply Array.ext'
  simp only [Array.toList_setIfInBounds]
  exact List.set_comm _ _ (by omega)
theorem BuAt.set' {w : World} {b rb : Nat} {B : Bu} (h : BuAt w b rb B) (t x y : Int) : BuAt ((w.setCell ⟨rb, t.toNat * 2 + 1, none⟩ (.int .i64 y)).setCell ⟨rb, t.toNat * 2, none⟩ (.int .i64 x)) b rb (B.setRest t (x, y)) := by
  refine ⟨?_, ?_, h.ne⟩
  · rw [block_set_ne h.ne, block_set_ne h.ne, h.st]; simp [Bu.setRest]
  · rw [block_set (block_set h.rs _ _) _ _, restsC_set']; rfl
/-- The four blocks of a pair of buffers and an arena are four. -/
structure Apart (b rb a wb : Nat) : Prop where
  ba : b ≠ a
  bw : b ≠ wb
  ra : rb ≠ a
  rw : rb ≠ wb
theorem BuAt.only {w w' : World} {b rb : Nat} {B : Bu} {S : List Nat} (h : BuAt w b rb B) (hO : Only S w w') (h1 : b ∉ S) (h2 : rb ∉ S) : BuAt w' b rb B :=
  ⟨(hO.block _ (lt_of_heap h.st) h1).trans h.st, (hO.block _ (lt_of_heap h.rs) h2).trans h.rs, h.ne⟩
theorem ArAt.only {w w' : World} {b wb : Nat} {A : Ar} {S : List Nat} (h : ArAt w b wb A) (hO : Only S w w') (h1 : b ∉ S) (h2 : wb ∉ S) : ArAt w' b wb A :=
  ⟨(hO.block _ (lt_of_heap h.st) h1).trans h.st, (hO.block _ (lt_of_heap h.ws) h2).trans h.ws, h.ne⟩
theorem sizeU64 : (Tryd.prog.info? 22).map (·.size) = some 1 := by kernel_rfl
theorem copy2 (W : World) (po ps n : Nat) (m s : Int) (ty : TypeId) (Ho : W.heap[po]? = some (.cells (u64s (List.replicate n 0)) 22 (0, 0))) (Hs : W.heap[ps]? = some (.cells #[.int .u64 m, .int .u64 s] 22 (0, 0))) (n2 : 2 ≤ n) :
    (Builtin.copy_ #[98, 98] ty #[.slice (some ⟨po, 0, none⟩) n n, .slice (some ⟨ps, 0, none⟩) 2 2]).run Tryd.prog W = .ok (goInt 2) (W.setRow po (u64s (objW m s n))) := by
  have h := run_copy_row (P := Tryd.prog) W 98 98 ty 22 po 0 n n ⟨ps, 0, none⟩ 2 2 (u64s (List.replicate n 0)) 22 [.int .u64 m, .int .u64 s] Tryd.underlying98 sizeU64 Ho
    (by simp [Nat.min_def]; omega) (fun j v hj => by
      have := (hcell Hs).1 j
      rw [show (Addr.add ⟨ps, 0, none⟩ j) = ⟨ps, j, none⟩ by simp [Addr.add]; exact fun q => q.symm]
      rw [this]; rw [← hj]; simp) (by simp [u64s]; omega) (by simp [Value.oneCell'])
  have e : ((u64s (List.replicate n 0)).toList.take 0 ++ [Value.int .u64 m, .int .u64 s] ++ (u64s (List.replicate n 0)).toList.drop (0 + 2)).toArray = u64s (objW m s n) := by
    simp [u64s, objW, List.drop_replicate]
  rw [h]
  exact congrArg (fun q => Result.ok (goInt 2) (W.setRow po q)) e
end Go.Proofs.YtomgfdfgildkbaaDoor
