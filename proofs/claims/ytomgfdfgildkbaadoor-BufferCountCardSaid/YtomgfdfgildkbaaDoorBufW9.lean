/- Two buffers and an arena, told by numbers. -/
import Derived.Test.YtomgfdfgildkbaaDoorBufW8
namespace Go.Proofs.YtomgfdfgildkbaaDoor
open Go.RowKit Go.BigFrame

structure Sum2 (B : Bu) (A : Ar) (sz top free len : Int) (r0 r1 : Int × Int) : Prop where
  s : B.size = sz
  l : B.rests = [r0, r1]
  t : A.top 1 = top
  f : A.free 1 = free
  n : (A.words.length : Int) = len
def pick2 {α : Type} (t : Int) (r0 r1 : α) : α := if t = 0 then r0 else r1
theorem Sum2.is {B : Bu} {A : Ar} {sz top free len : Int} {r0 r1 : Int × Int} (h : Sum2 B A sz top free len r0 r1) {t : Int} (ht : t = 0 ∨ t = 1) : B.is t = true ∧ B.rest t = pick2 t r0 r1 := by
  unfold Bu.is Bu.rest pick2
  rw [h.l]
  rcases ht with rfl | rfl <;> simp
theorem Sum2.set {B : Bu} {A A' : Ar} {sz top free len top' free' : Int} {r0 r1 : Int × Int} (h : Sum2 B A sz top free len r0 r1) {t : Int} (ht : t = 0 ∨ t = 1) (r : Int × Int) (h1 : A'.top 1 = top') (h2 : A'.free 1 = free') (h3 : A'.words.length = A.words.length) :
    Sum2 (B.setRest t r) A' sz top' free' len (pick2 t r r0) (pick2 t r1 r) := by
  refine ⟨h.s, ?_, h1, h2, by rw [h3]; exact h.n⟩
  unfold Bu.setRest pick2
  simp only
  rw [h.l]
  rcases ht with rfl | rfl <;> simp
theorem Ar.take_len1 {A : Ar} (ok : A.Ok) {y : Int} (h1 : 1 ≤ y) (h2 : y ≤ A.free 1) : (A.take 1 y).words.length = A.words.length := by
  have h := (ok.take (s := 1) rfl h1 h2).len
  have := ok.len
  have e : (A.take 1 y).cfg = A.cfg := by simp [Ar.take, Ar.setTop]
  rw [e] at h
  omega
theorem step_old (b rb : Nat) (B : Bu) (a wb : Nat) (A : Ar) (t : Int) (g : Hd) (w : World) (tb : Tab w) (h : PairAt w b rb B a wb A) (f : Fine g) (hs : 0 ≤ g.ser ∧ g.ser < 18446744073709551616)
    {sz top free len : Int} {r0 r1 : Int × Int} (S : Sum2 B A sz top free len r0 r1) (ht : t = 0 ∨ t = 1)
    (n x y : Int) (hn : n = 2 + g.ptrs + g.raws) (hr : pick2 t r0 r1 = (x, y)) (x1 : 1 ≤ x) (x2 : x + y ≤ len) (ny : n ≤ y) :
    Calls Tryd.prog 37 #[.pointer (some ⟨b, 0, none⟩), .pointer (some ⟨a, 0, none⟩), .int .i64 t, g.val] w fun e w' => e = .returned (.tuple #[.int .i64 x, .bool true]) ∧ (∃ B' A', PairAt w' b rb B' a wb A' ∧ Sum2 B' A' sz top free len (pick2 t (x + n, y - n) r0) (pick2 t r1 (x + n, y - n))) ∧ Only [rb, a, wb] w w' := by
  obtain ⟨i1, i2⟩ := S.is ht
  have hl := S.n
  have n2 : 2 ≤ n := by have := f.p0; have := f.r0; omega
  refine (put_old b rb B a wb A t g w tb h i1 f hs n x y hn (i2.trans hr) x1 (by omega) ny).mono fun e w' ⟨h1, h2, h3⟩ => ⟨h1, ⟨_, _, h2, S.set ht _ ?_ ?_ ?_⟩, h3⟩
  · rw [Ar.laid_top]; exact S.t
  · rw [Ar.laid_free]; exact S.f
  · exact Ar.laid_len (by omega) n2 (by omega)
theorem step_fresh (b rb : Nat) (B : Bu) (a wb : Nat) (A : Ar) (t : Int) (g : Hd) (w : World) (tb : Tab w) (h : PairAt w b rb B a wb A) (f : Fine g) (hs : 0 ≤ g.ser ∧ g.ser < 18446744073709551616)
    {sz top free len : Int} {r0 r1 : Int × Int} (S : Sum2 B A sz top free len r0 r1) (ht : t = 0 ∨ t = 1)
    (n : Int) (hn : n = 2 + g.ptrs + g.raws) (hr : (pick2 t r0 r1).2 < n) (h2 : sz ≤ free) (h3 : n ≤ sz) :
    Calls Tryd.prog 37 #[.pointer (some ⟨b, 0, none⟩), .pointer (some ⟨a, 0, none⟩), .int .i64 t, g.val] w fun e w' => e = .returned (.tuple #[.int .i64 top, .bool true]) ∧ (∃ B' A', PairAt w' b rb B' a wb A' ∧ Sum2 B' A' sz (top + sz) (free - sz) len (pick2 t (top + n, sz - n) r0) (pick2 t r1 (top + n, sz - n))) ∧ Only [rb, a, wb] w w' := by
  obtain ⟨i1, i2⟩ := S.is ht
  have hl := S.n
  have n2 : 2 ≤ n := by have := f.p0; have := f.r0; omega
  have e1 := S.t
  have e2 := S.f
  have e3 := S.s
  have hy : sz = (if B.size < A.free 1 then B.size else A.free 1) := by split <;> omega
  obtain ⟨t1, t2, t3⟩ := h.okA.top_bd (s := 1) (n := sz) rfl (by omega) (by omega)
  have tl := Ar.take_len1 h.okA (y := sz) (by omega) (by omega)
  have P := put_fresh b rb B a wb A t g w tb h i1 f hs n sz hn (by rw [i2]; exact hr) (by omega) (by omega) hy
  rw [e1] at P
  refine P.mono fun e w' ⟨h1, h2, h3⟩ => ⟨h1, ⟨_, _, h2, S.set ht _ ?_ ?_ ?_⟩, h3⟩
  · rw [Ar.laid_top, Ar.take_top1, e1]
  · rw [Ar.laid_free, Ar.take_free1, e2]
  · rw [Ar.laid_len (by omega) n2 (by omega), tl]
end Go.Proofs.YtomgfdfgildkbaaDoor
