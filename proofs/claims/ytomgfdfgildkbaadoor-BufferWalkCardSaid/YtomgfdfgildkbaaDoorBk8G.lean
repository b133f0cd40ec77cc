/- BufferWalk: one call of a script; one object more in the list. No condition. -/
import Derived.Test.YtomgfdfgildkbaaDoorBk7G
import Derived.Deep.AppendLies
namespace Go.Proofs.YtomgfdfgildkbaaDoor
open Go.RowKit Go.BigFrame
set_option linter.unusedVariables false
/-- One call of a script. -/
structure Ct where
  kind : Int
  t : Int
  hd : Hd
  n : Int
  i : Int
  w : Int
def Ct.cells (o : Ct) : Array Value := #[.int .i64 o.kind, .int .i64 o.t, .int .u64 o.hd.ser, .int .i64 o.hd.kind, .int .i64 o.hd.ptrs, .int .i64 o.hd.raws, .int .i64 o.hd.age, .int .i64 o.hd.site, .bool o.hd.held, .int .i64 o.n, .int .i64 o.i, .int .u64 o.w]
def Ct.val (o : Ct) : Value := .agg o.cells
def ct0 : Ct := ⟨0, 0, nohd, 0, 0, 0⟩
instance : Inhabited Ct := ⟨ct0⟩
structure Ct.Bd (o : Ct) : Prop where
  t : I64 o.t
  h1 : I64 o.hd.kind
  h2 : I64 o.hd.ptrs
  h3 : I64 o.hd.raws
  h4 : I64 o.hd.age
  h5 : I64 o.hd.site
  n : I64 o.n
  i : I64 o.i
  w : 0 ≤ o.w ∧ o.w < 18446744073709551616
  s : 0 ≤ o.hd.ser ∧ o.hd.ser < 18446744073709551616
theorem infoLaid : (Tryd.prog.info? 100).map (fun i => (i.zero, i.size, i.bytes)) = some (some (.agg #[.int .i64 0, .int .u64 0, .int .i64 0, .int .i64 0, .int .i64 0, .int .i64 0, .int .i64 0, .bool false, .slice none 0 0]), 9, 88) := by kernel_rfl
theorem Only.cellB {S : List Nat} {w w' : World} (h : Only S w w') {b o : Nat} {v : Value} (hb : b ∉ S) (hc : w.cell? ⟨b, o, none⟩ = some v) : w'.cell? ⟨b, o, none⟩ = some v :=
  (World.cell?_of_block (a := ⟨b, o, none⟩) (h.block b (World.block_lt_of_cell? w ⟨b, o, none⟩ hc) hb)).trans hc
/-- A world but for what eden holds. -/
structure WoPre (w : World) (x D : Nat) (G : Wg) : Prop where
  hx : w.heap[x]? = some (.cells G.cells 96 (0, 0))
  pair : PairAt w G.b G.rb G.B G.a G.wb G.A
  lds : LdsAt w D G.wb G.v G.Q
  len : G.B.rests.length = G.n
  gx : D ≤ x
  ga : D ≤ G.a
  gw : D ≤ G.wb
  gb : D ≤ G.b
  gr : D ≤ G.rb
theorem WoAt.pre {w : World} {x D : Nat} {G : Wg} (h : WoAt w x D G) : WoPre w x D G := ⟨h.hx, h.pair, h.lds, h.len, h.gx, h.ga, h.gw, h.gb, h.gr⟩
theorem WoPre.turn {w w' : World} {x D : Nat} {G : Wg} (h : WoPre w x D G) {A' : Ar} {B' : Bu} (hp : PairAt w' G.b G.rb B' G.a G.wb A') (hO : Only [G.rb, G.a, G.wb] w w') (hl : B'.rests.length = G.B.rests.length) : WoPre w' x D { G with A := A', B := B' } := by
  have hA := h.pair.hA
  have hB := h.pair.hB
  have e1 : ∀ (k : Nat) (cs : Array Value) (t : TypeId), w.heap[k]? = some (Obj.cells cs t (0, 0)) → t ≠ 125 → t ≠ 132 → k ≠ G.wb → w'.heap[k]? = w.heap[k]? := fun k cs t hk t1 t2 nw =>
    hO.block k (lt_of_heap hk) (by
      have a1 := ty_neA hk hA.st t1
      have a2 := ty_neA hk hB.rs t2
      simp only [List.mem_cons, List.not_mem_nil, or_false]; omega)
  refine ⟨(e1 x _ _ h.hx (by decide) (by decide) (ty_neA h.hx hA.ws (by decide))).trans h.hx, hp, h.lds.keep fun k hk => ?_, hl.trans h.len, h.gx, h.ga, h.gw, h.gb, h.gr⟩
  rcases mem_lfp.1 hk with hk | ⟨q, hq, rfl⟩
  · obtain ⟨cs, hc⟩ := row_blockA h.lds.row hk
    exact e1 k _ _ hc (by decide) (by decide) (ty_neA hc hA.ws (by decide))
  · exact e1 _ _ _ (h.lds.br q hq) (by decide) (by decide) (h.lds.gr q hq).2
theorem WoPre.below {w w' : World} {x D : Nat} {G : Wg} (h : WoPre w x D G) (hb : Below w.heap.size w w') : WoPre w' x D G :=
  ⟨(hb.block _ (lt_of_heap h.hx)).trans h.hx, h.pair.below hb, h.lds.below hb, h.len, h.gx, h.ga, h.gw, h.gb, h.gr⟩
theorem LdsAt.snoc {w w' : World} {D wb g ka : Nat} {v : Value} {Q : List Lt} {q : Lt} (h : LdsAt w D wb v Q) (hr : w'.ownsRow D 100 9 (.slice (some ⟨g, 0, none⟩) (Q.length + 1) ka) (Q.length + 1) (Q.flatMap Lt.cells ++ q.cells)) (hk : ∀ k ∈ Q.map Lt.rb, w'.heap[k]? = w.heap[k]?)
    (hr2 : w'.heap[q.rb]? = some (.cells (u64s q.rs) 22 (0, 0))) (gr : w.heap.size ≤ q.rb) (hD : D ≤ w.heap.size) (hwb : wb < w.heap.size) : LdsAt w' D wb (.slice (some ⟨g, 0, none⟩) (Q.length + 1) ka) (Q ++ [q]) := by
  refine ⟨by simpa using hr, fun y hy => ?_, fun y hy => ?_, ?_⟩
  · rcases List.mem_append.1 hy with hy | hy
    · exact (hk _ (List.mem_map.2 ⟨y, hy, rfl⟩)).trans (h.br y hy)
    · rw [List.mem_singleton.1 hy]; exact hr2
  · rcases List.mem_append.1 hy with hy | hy
    · exact h.gr y hy
    · rw [List.mem_singleton.1 hy]; exact ⟨by omega, by omega⟩
  · rw [List.map_append]
    refine List.nodup_append.2 ⟨h.nr, by simp, fun z hz y hy e => ?_⟩
    obtain ⟨u, hu, rfl⟩ := List.mem_map.1 hz
    have := lt_of_heap (h.br u hu)
    simp at hy
    omega
/-- The list has grown by what was put. -/
theorem WoPre.grow {w w' : World} {x D g ka : Nat} {G : Wg} {q : Lt} (h : WoPre w x D G) (hE : ∃ Ls, Eden G.A G.B Ls (G.Q ++ [q])) (hr : w'.ownsRow D 100 9 (.slice (some ⟨g, 0, none⟩) (G.Q.length + 1) ka) (G.Q.length + 1) (G.Q.flatMap Lt.cells ++ q.cells))
    (hx : w'.heap[x]? = some (.cells #[.pointer (some ⟨G.a, 0, none⟩), .pointer (some ⟨G.b, 0, none⟩), .int .i64 G.n, .slice (some ⟨g, 0, none⟩) (G.Q.length + 1) ka] 96 (0, 0)))
    (hk : ∀ k, k < w.heap.size → k ≠ x → G.v.ownBlock ≠ some k → w'.heap[k]? = w.heap[k]?) (hr2 : w'.heap[q.rb]? = some (.cells (u64s q.rs) 22 (0, 0))) (gr : w.heap.size ≤ q.rb) : WoAt w' x D { G with v := .slice (some ⟨g, 0, none⟩) (G.Q.length + 1) ka, Q := G.Q ++ [q] } := by
  have hA := h.pair.hA
  have hB := h.pair.hB
  have fr : ∀ (k : Nat) (cs : Array Value) (t : TypeId), w.heap[k]? = some (Obj.cells cs t (0, 0)) → t ≠ 96 → t ≠ 100 → w'.heap[k]? = w.heap[k]? := fun k cs t hc t1 t2 =>
    hk k (lt_of_heap hc) (ty_neA hc h.hx t1) (fun e => by obtain ⟨cs2, hc2⟩ := row_blockA h.lds.row e; exact ty_neA hc hc2 t2 rfl)
  have lwb := lt_of_heap hA.ws
  refine ⟨hx, h.pair.keep (fr _ _ _ hA.st (by decide) (by decide)) (fr _ _ _ hA.ws (by decide) (by decide)) (fr _ _ _ hB.st (by decide) (by decide)) (fr _ _ _ hB.rs (by decide) (by decide)), ?_, hE, h.len, h.gx, h.ga, h.gw, h.gb, h.gr⟩
  refine h.lds.snoc hr (fun k hk2 => ?_) hr2 gr (by have := lt_of_heap h.hx; have := h.gx; omega) lwb
  obtain ⟨y, hy, rfl⟩ := List.mem_map.1 hk2
  exact fr _ _ _ (h.lds.br y hy) (by decide) (by decide)
/-- What a call of a script leaves. -/
def Steps (w w' : World) (x D : Nat) (G : Wg) : Prop := ∃ G', WoAt w' x D G' ∧ G'.n = G.n ∧ G'.B.size = G.B.size ∧ Below D w w'
theorem putB_len (B : Bu) (A : Ar) (t : Int) (g : Hd) : (putB B A t g).2.1.rests.length = B.rests.length ∧ (putB B A t g).2.1.size = B.size := by
  unfold putB
  split
  · split
    · unfold Bu.setRest; simp
    · split
      · unfold Bu.setRest; simp
      · exact ⟨rfl, rfl⟩
  · exact ⟨rfl, rfl⟩
end Go.Proofs.YtomgfdfgildkbaaDoor
