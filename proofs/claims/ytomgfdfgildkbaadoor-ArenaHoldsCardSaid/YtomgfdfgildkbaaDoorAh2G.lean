/- ArenaHolds: how the list of things lies in memory. No condition. -/
import Derived.Test.YtomgfdfgildkbaaDoorGn
import Derived.Test.YtomgfdfgildkbaaDoorTk6
import Derived.Laws.OwnMore
namespace Go.Proofs.YtomgfdfgildkbaaDoor
open Go.RowKit Go.BigFrame
set_option linter.unusedVariables false
def i64s (l : List Int) : Array Value := (l.map (Value.int .i64)).toArray
theorem i64s_get {l : List Int} {i : Nat} (h : i < l.length) : (i64s l)[i]? = some (.int .i64 (l.getD i 0)) := by simp [i64s, h]
theorem i64s_set (l : List Int) (i : Nat) (v : Int) : (i64s l).setIfInBounds i (.int .i64 v) = i64s (l.set i v) := by
  apply Array.ext_getElem?
  intro j
  simp only [i64s, Array.getElem?_setIfInBounds, List.getElem?_toArray, List.size_toArray, List.length_map, List.getElem?_map, List.getElem?_set]
  by_cases h : i = j <;> simp [h]
def Gt.cells (q : Gt) : List Value := .int .i64 q.at_ :: .int .i64 q.sp :: (hdL q.hd ++ [.slice (some ⟨q.pb, 0, none⟩) q.ps.length q.ps.length, .slice (some ⟨q.rb, 0, none⟩) q.rs.length q.rs.length])
theorem Gt.cells_len (q : Gt) : q.cells.length = 11 := rfl
theorem gts_len (Q : List Gt) : (Q.flatMap Gt.cells).length = Q.length * 11 := by
  induction Q with
  | nil => rfl
  | cons q l ih => rw [List.flatMap_cons, List.length_append, ih, Gt.cells_len, List.length_cons]; omega
theorem gts_get (Q : List Gt) (i j : Nat) (hi : i < Q.length) (hj : j < 11) : (Q.flatMap Gt.cells)[i * 11 + j]? = (Q.getD i gt0).cells[j]? := by
  induction Q generalizing i with
  | nil => simp at hi
  | cons a l ih =>
    rw [List.flatMap_cons]
    have hl := a.cells_len
    cases i with
    | zero => rw [List.getElem?_append_left (by omega)]; simp
    | succ i =>
      rw [List.getElem?_append_right (by omega), hl, show (i + 1) * 11 + j - 11 = i * 11 + j by omega, ih i (by simpa using hi)]
      simp
/-- The blocks in which the list of things lies. -/
def tfp (v : Value) (Q : List Gt) : List Nat := v.ownBlock.toList ++ (Q.map Gt.pb ++ Q.map Gt.rb)
structure ThsAt (w : World) (B wb : Nat) (v : Value) (Q : List Gt) : Prop where
  row : w.ownsRow B 143 11 v Q.length (Q.flatMap Gt.cells)
  bp : ∀ q ∈ Q, w.heap[q.pb]? = some (.cells (i64s q.ps) 3 (0, 0))
  br : ∀ q ∈ Q, w.heap[q.rb]? = some (.cells (u64s q.rs) 22 (0, 0))
  gp : ∀ q ∈ Q, B ≤ q.pb
  gr : ∀ q ∈ Q, B ≤ q.rb ∧ q.rb ≠ wb
  np : (Q.map Gt.pb).Nodup
  nr : (Q.map Gt.rb).Nodup
theorem mem_tfp {v : Value} {Q : List Gt} {k : Nat} : k ∈ tfp v Q ↔ v.ownBlock = some k ∨ (∃ q ∈ Q, q.pb = k) ∨ ∃ q ∈ Q, q.rb = k := by
  simp [tfp, Option.mem_toList]
theorem ThsAt.nil (w : World) (B wb : Nat) : ThsAt w B wb (.slice none 0 0) [] :=
  ⟨World.ownsRow_nil _ _ _ _, fun q hq => by simp at hq, fun q hq => by simp at hq, fun q hq => by simp at hq, fun q hq => by simp at hq, by simp, by simp⟩
section
variable {w w' : World} {B wb : Nat} {v : Value} {Q : List Gt}
theorem ThsAt.lt (h : ThsAt w B wb v Q) : ∀ k ∈ tfp v Q, B ≤ k ∧ k < w.heap.size := fun k hk => by
  rcases mem_tfp.1 hk with hk | ⟨q, hq, rfl⟩ | ⟨q, hq, rfl⟩
  · exact h.row.lt k hk
  · exact ⟨h.gp q hq, lt_of_heap (h.bp q hq)⟩
  · exact ⟨(h.gr q hq).1, lt_of_heap (h.br q hq)⟩
theorem ThsAt.keep (h : ThsAt w B wb v Q) (e : ∀ k ∈ tfp v Q, w'.heap[k]? = w.heap[k]?) : ThsAt w' B wb v Q :=
  ⟨ownsRow_heap h.row fun k hk => e k (mem_tfp.2 (.inl hk)), fun q hq => (e _ (mem_tfp.2 (.inr (.inl ⟨q, hq, rfl⟩)))).trans (h.bp q hq), fun q hq => (e _ (mem_tfp.2 (.inr (.inr ⟨q, hq, rfl⟩)))).trans (h.br q hq), h.gp, h.gr, h.np, h.nr⟩
theorem ThsAt.below (h : ThsAt w B wb v Q) (hb : Below w.heap.size w w') : ThsAt w' B wb v Q := h.keep fun k hk => hb.block k (h.lt k hk).2
/-- The list's blocks are none of the arena's. -/
theorem ThsAt.far {a : Nat} {A : Ar} (h : ThsAt w B wb v Q) (hA : ArAt w a wb A) : ∀ k ∈ tfp v Q, k ≠ a ∧ k ≠ wb := fun k hk => by
  rcases mem_tfp.1 hk with hk | ⟨q, hq, rfl⟩ | ⟨q, hq, rfl⟩
  · obtain ⟨cs, hc⟩ := row_blockA h.row hk
    exact ⟨ty_neA hc hA.st (by decide), ty_neA hc hA.ws (by decide)⟩
  · exact ⟨ty_neA (h.bp q hq) hA.st (by decide), ty_neA (h.bp q hq) hA.ws (by decide)⟩
  · exact ⟨ty_neA (h.br q hq) hA.st (by decide), (h.gr q hq).2⟩
theorem ThsAt.only {a : Nat} {A : Ar} (h : ThsAt w B wb v Q) (hA : ArAt w a wb A) (ho : Only [a, wb] w w') : ThsAt w' B wb v Q :=
  h.keep fun k hk => ho.block k (h.lt k hk).2 (by have := h.far hA k hk; simp [this])
theorem ArAt.onlyT {a : Nat} {A : Ar} (hA : ArAt w a wb A) (h : ThsAt w B wb v Q) (ho : Only (tfp v Q) w w') : ArAt w' a wb A :=
  hA.onlyA ho (fun hm => (h.far hA a hm).1 rfl) (fun hm => (h.far hA wb hm).2 rfl)
theorem ThsAt.cell {g cap : Nat} (h : ThsAt w B wb (.slice (some ⟨g, 0, none⟩) Q.length cap) Q) {i j : Nat} (hi : i < Q.length) (hj : j < 11) : w.cell? ⟨g, i * 11 + j, none⟩ = (Q.getD i gt0).cells[j]? := by
  rw [h.row.cellAt _ (by omega), gts_get Q i j hi hj]
theorem ThsAt.pcell (h : ThsAt w B wb v Q) {q : Gt} (hq : q ∈ Q) {i : Nat} (hi : i < q.ps.length) : w.cell? ⟨q.pb, i, none⟩ = some (.int .i64 (q.ps.getD i 0)) := by
  rw [(hcell (h.bp q hq)).1, i64s_get hi]
theorem ThsAt.rcell (h : ThsAt w B wb v Q) {q : Gt} (hq : q ∈ Q) {i : Nat} (hi : i < q.rs.length) : w.cell? ⟨q.rb, i, none⟩ = some (.int .u64 (q.rs.getD i 0)) := by
  rw [(hcell (h.br q hq)).1, u64s_get hi]
theorem ThsAt.form (h : ThsAt w B wb v Q) (h0 : 0 < Q.length) : ∃ g cap, v = .slice (some ⟨g, 0, none⟩) Q.length cap := by
  obtain ⟨g, cap, e, -, -⟩ := h.row.form (by omega)
  exact ⟨g, cap, e⟩
end
end Go.Proofs.YtomgfdfgildkbaaDoor
