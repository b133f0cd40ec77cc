/- ArenaHolds: the state of the law. No condition. -/
import Derived.Test.YtomgfdfgildkbaaDoorAh4G
import Derived.Test.YtomgfdfgildkbaaDoorAh5G
import Derived.Test.YtomgfdfgildkbaaDoorAh8G
namespace Go.Proofs.YtomgfdfgildkbaaDoor
open Go.RowKit Go.BigFrame
set_option linter.unusedVariables false
def dt0 : Dt := ⟨0, 0, 0, 0, 0, 0, nohd⟩
/-- A list of things to do that came in. -/
def DosAt (w : World) (v : Value) (l : List Dt) : Prop :=
  ∃ p cap, v = .slice p l.length cap ∧ ∀ i, i < l.length → ∃ b off, p = some ⟨b, off, none⟩ ∧ ∀ j, j < 13 → w.cell? ⟨b, off + i * 13 + j, none⟩ = (l.getD i dt0).cells[j]?
theorem DosAt.below {w w' : World} {v : Value} {l : List Dt} (h : DosAt w v l) (hb : Below w.heap.size w w') : DosAt w' v l := by
  obtain ⟨p, cap, hv, hc⟩ := h
  refine ⟨p, cap, hv, fun i hi => ?_⟩
  obtain ⟨b, off, hp, hx⟩ := hc i hi
  refine ⟨b, off, hp, fun j hj => ?_⟩
  have h1 := hx j hj
  have h2 : ∃ u, (l.getD i dt0).cells[j]? = some u := ⟨_, Array.getElem?_eq_getElem (show j < (l.getD i dt0).cells.size by simpa [Dt.cells] using hj)⟩
  obtain ⟨u, hu⟩ := h2
  rw [hu] at h1 ⊢
  exact (hb.cell (p := ⟨b, off + i * 13 + j, none⟩) (World.block_lt_of_cell? w ⟨b, off + i * 13 + j, none⟩ h1)).trans h1
theorem Holds.chk {A : Ar} {Ls : Int → List It} {Q : List Gt} (ok : A.Ok) (h : Holds A Ls Q) : chkFrom A 1 = (0, 0) := by
  have z : ∀ s, isSp s = true → ¬ 0 < badOf (A.all s) := fun s hs => by
    rw [badOf_none fun x hx => by have := h.tiled.good ok hs x hx; omega]; decide
  rw [chkFrom_on A (by decide) (z 1 (by decide)), chkFrom_on A (by decide) (z (1 + 1) (by decide)), chkFrom_on A (by decide) (z (1 + 1 + 1) (by decide)), chkFrom_on A (by decide) (z (1 + 1 + 1 + 1) (by decide)), chkFrom_end A (by decide)]
/-- The arena, and the list of what was made. -/
def HoAt (w : World) (a wb B : Nat) (v : Value) (n : Nat) : Prop := ∃ A Ls Q, ArAt w a wb A ∧ A.Ok ∧ Holds A Ls Q ∧ ThsAt w B wb v Q ∧ Q.length ≤ n
theorem HoAt.below {w w' : World} {a wb B : Nat} {v : Value} {n : Nat} (h : HoAt w a wb B v n) (hb : Below w.heap.size w w') : HoAt w' a wb B v n := by
  obtain ⟨A, Ls, Q, h1, h2, h3, h4, h5⟩ := h
  exact ⟨A, Ls, Q, h1.below hb, h2, h3, h4.below hb, h5⟩
theorem tfp_ge {w : World} {B wb a : Nat} {v : Value} {Q : List Gt} (h : ThsAt w B wb v Q) (ha : B ≤ a) (hw : B ≤ wb) : ∀ k ∈ a :: wb :: tfp v Q, B ≤ k := fun k hk => by
  rcases List.mem_cons.1 hk with rfl | hk
  · exact ha
  rcases List.mem_cons.1 hk with rfl | hk
  · exact hw
  · exact (h.lt k hk).1
section
variable {w0 w w' : World} {a wb : Nat} {A : Ar} {Ls : Int → List It} {v : Value} {Q : List Gt} {n : Nat}
theorem HoAt.of_left (hl : Left w w' a wb w0.heap.size v Q) (hT : ThsAt w w0.heap.size wb v Q) (hb : Below w0.heap.size w0 w) (ha : w0.heap.size ≤ a) (hw : w0.heap.size ≤ wb) (hn : Q.length ≤ n) : HoAt w' a wb w0.heap.size v n ∧ Below w0.heap.size w0 w' := by
  obtain ⟨A', Ls', Q', h1, h2, h3, h4, h5, h6, h7⟩ := hl
  exact ⟨⟨A', Ls', Q', h1, h2, h3, h4, by omega⟩, hb.trans (h7.below hb.size (tfp_ge hT ha hw))⟩
theorem HoAt.of_only (hA : ArAt w a wb A) (hT : ThsAt w w0.heap.size wb v Q) (hb : Below w0.heap.size w0 w) (ha : w0.heap.size ≤ a) (hw : w0.heap.size ≤ wb) (hn : Q.length ≤ n) {A' : Ar} {Ls' : Int → List It} (hA' : ArAt w' a wb A') (ok' : A'.Ok) (hH' : Holds A' Ls' Q) (ho : Only [a, wb] w w') : HoAt w' a wb w0.heap.size v n ∧ Below w0.heap.size w0 w' :=
  ⟨⟨A', Ls', Q, hA', ok', hH', hT.only hA ho, hn⟩, hb.trans (ho.below hb.size (fun k hk => by simp at hk; rcases hk with rfl | rfl <;> assumption))⟩
end
theorem Ar.Ok.swapA {A : Ar} (ok : A.Ok) : ({ A with frm := A.to } : Ar).Ok := by
  obtain ⟨h1, h2, h3, h4, h5, h6, h7, h8, h9, h10, h11, h12⟩ := ok
  exact ⟨h1, h2, h3, h4, h5, h6, h7, h8, h9, h10, h11, by show A.to = 2 ∨ A.to = 3; unfold Ar.to; omega⟩
theorem Ar.fill_topA {A : Ar} {s n : Int} (hp : A.fillOk s n = true) : (A.fill s n).top s = A.top s + n := by
  unfold Ar.fillOk at hp
  simp only [Bool.and_eq_true, decide_eq_true_eq] at hp
  have := Ar.take_top A hp.1 n s
  rw [if_pos rfl] at this
  exact this
end Go.Proofs.YtomgfdfgildkbaaDoor
