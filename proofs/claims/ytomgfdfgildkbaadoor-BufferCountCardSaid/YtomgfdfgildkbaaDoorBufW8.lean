/- Buffers and an arena together: what Put does, as a step of a pair. -/
import Derived.Test.YtomgfdfgildkbaaDoorBufW7
namespace Go.Proofs.YtomgfdfgildkbaaDoor
open Go.RowKit Go.BigFrame

structure PairAt (w : World) (b rb : Nat) (B : Bu) (a wb : Nat) (A : Ar) : Prop where
  hB : BuAt w b rb B
  hA : ArAt w a wb A
  okB : B.Ok
  okA : A.Ok
  ap : Apart b rb a wb
theorem PairAt.below {w w' : World} {b rb : Nat} {B : Bu} {a wb : Nat} {A : Ar} (h : PairAt w b rb B a wb A) (hb : Below w.heap.size w w') : PairAt w' b rb B a wb A :=
  ⟨h.hB.below hb, h.hA.below hb, h.okB, h.okA, h.ap⟩
theorem Bu.Ok.set {B : Bu} (h : B.Ok) (t : Int) (r : Int × Int) : (B.setRest t r).Ok := by
  refine ⟨?_, ?_, h.s0, h.s1⟩ <;> simp only [Bu.setRest, List.length_set]
  · exact h.n1
  · exact h.n8
/-- The arena behind an object of n words that was laid at x, y words having been left there. -/
def Ar.laid (A : Ar) (x y n : Int) (g : Hd) : Ar := (A.blit x (objW (enc g) g.ser n.toNat)).rest (x + n) (y - n)
theorem Ar.laid_top (A : Ar) (x y n : Int) (g : Hd) (s : Int) : (A.laid x y n g).top s = A.top s := by unfold Ar.laid; rw [Ar.rest_top, Ar.blit_top]
theorem Ar.laid_free (A : Ar) (x y n : Int) (g : Hd) (s : Int) : (A.laid x y n g).free s = A.free s := by unfold Ar.laid; rw [Ar.rest_free, Ar.blit_free]
theorem objW_length {m s : Int} {n : Nat} (h : 2 ≤ n) : (objW m s n).length = n := by simp [objW]; omega
theorem Ar.laid_len {A : Ar} {x y n : Int} {g : Hd} (h0 : 0 ≤ x) (h2 : 2 ≤ n) (h : x + n ≤ (A.words.length : Int)) : (A.laid x y n g).words.length = A.words.length := by
  unfold Ar.laid; rw [Ar.rest_len, Ar.blit_len h0 (by rw [objW_length (by omega)]; omega)]
theorem Ar.Ok.laid {A : Ar} (ok : A.Ok) {x y n : Int} {g : Hd} (f : Fine g) (h0 : 0 ≤ x) (h2 : 2 ≤ n) (h : x + n ≤ (A.words.length : Int)) (hy : y - n ≤ 1099511627776) (hs : 0 ≤ g.ser ∧ g.ser < 18446744073709551616) : (A.laid x y n g).Ok := by
  unfold Ar.laid
  have eb := enc_bd f
  exact Ar.Ok.rest (Ar.Ok.blit ok h0 (by rw [objW_length (by omega)]; omega) (objW_range ⟨eb.1, by omega⟩ hs)) hy
theorem put_old (b rb : Nat) (B : Bu) (a wb : Nat) (A : Ar) (t : Int) (g : Hd) (w : World) (tb : Tab w) (h : PairAt w b rb B a wb A) (ht : B.is t = true) (f : Fine g) (hs : 0 ≤ g.ser ∧ g.ser < 18446744073709551616)
    (n x y : Int) (hn : n = 2 + g.ptrs + g.raws) (hr : B.rest t = (x, y)) (x1 : 1 ≤ x) (x2 : x + y ≤ (A.words.length : Int)) (ny : n ≤ y) :
    Calls Tryd.prog 37 #[.pointer (some ⟨b, 0, none⟩), .pointer (some ⟨a, 0, none⟩), .int .i64 t, g.val] w fun e w' => e = .returned (.tuple #[.int .i64 x, .bool true]) ∧ PairAt w' b rb (B.setRest t (x + n, y - n)) a wb (A.laid x y n g) ∧ Only [rb, a, wb] w w' := by
  have hl := h.okA.tops.2.2.2.2
  have n2 : 2 ≤ n := by have := f.p0; have := f.r0; omega
  refine (put_lay b rb B a wb A t g w tb h.hB h.hA h.okA h.ap ht f n x y A hn x1 x2 (by omega) ny (.inl ⟨by rw [hr]; exact ny, hr.symm, rfl⟩)).mono fun e w' ⟨h1, h2, h3, h4⟩ => ⟨h1, ⟨h2, h3, h.okB.set t _, h.okA.laid f (by omega) n2 (by omega) (by omega) hs, h.ap⟩, h4⟩
theorem put_fresh (b rb : Nat) (B : Bu) (a wb : Nat) (A : Ar) (t : Int) (g : Hd) (w : World) (tb : Tab w) (h : PairAt w b rb B a wb A) (ht : B.is t = true) (f : Fine g) (hs : 0 ≤ g.ser ∧ g.ser < 18446744073709551616)
    (n y : Int) (hn : n = 2 + g.ptrs + g.raws) (hr : (B.rest t).2 < n) (h2 : n ≤ A.free 1) (h3 : n ≤ B.size) (hy : y = (if B.size < A.free 1 then B.size else A.free 1)) :
    Calls Tryd.prog 37 #[.pointer (some ⟨b, 0, none⟩), .pointer (some ⟨a, 0, none⟩), .int .i64 t, g.val] w fun e w' => e = .returned (.tuple #[.int .i64 (A.top 1), .bool true]) ∧ PairAt w' b rb (B.setRest t (A.top 1 + n, y - n)) a wb ((A.take 1 y).laid (A.top 1) y n g) ∧ Only [rb, a, wb] w w' := by
  have n2 : 2 ≤ n := by have := f.p0; have := f.r0; omega
  have y1 : 1 ≤ y := by rw [hy]; split <;> omega
  have y2 : y ≤ A.free 1 := by rw [hy]; split <;> omega
  have ny : n ≤ y := by rw [hy]; split <;> omega
  obtain ⟨t1, t2, t3⟩ := h.okA.top_bd (s := 1) rfl y1 y2
  have ok2 := h.okA.take (s := 1) (n := y) rfl y1 y2
  refine (put_lay b rb B a wb A t g w tb h.hB h.hA h.okA h.ap ht f n (A.top 1) y (A.take 1 y) hn t1 t2 (by omega) ny (.inr ⟨hr, h2, h3, hy, rfl, rfl⟩)).mono fun e w' ⟨h1, h2, h3, h4⟩ => ⟨h1, ⟨h2, h3, h.okB.set t _, ok2.laid f (by omega) n2 (by omega) (by omega) hs, h.ap⟩, h4⟩
end Go.Proofs.YtomgfdfgildkbaaDoor
