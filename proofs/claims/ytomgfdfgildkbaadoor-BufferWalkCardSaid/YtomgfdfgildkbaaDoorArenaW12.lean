/- The walks of package arena, twelfth part: Put, Fill. -/
import Derived.Test.YtomgfdfgildkbaaDoorArenaW11
namespace Go.Proofs.YtomgfdfgildkbaaDoor
open Go.RowKit Go.BigFrame

def Ar.putOk (A : Ar) (s : Int) (g : Hd) : Bool := decide (chk g = 0) && isSp s && decide (2 + g.ptrs + g.raws ≤ A.free s)
/-- An object laid at the top of the space s. -/
def Ar.lay (A : Ar) (s : Int) (g : Hd) : Ar := ((A.take s (2 + g.ptrs + g.raws)).put (A.top s) (enc g)).put (A.top s + 1) g.ser
def Ar.fillOk (A : Ar) (s n : Int) : Bool := isSp s && decide (1 ≤ n ∧ n ≤ A.free s)
def Ar.fill (A : Ar) (s n : Int) : Ar := (A.take s n).put (A.top s) (wordT 3 n)
theorem sizeW_enc {g : Hd} (f : Fine g) : sizeW (enc g) = 2 + g.ptrs + g.raws := by unfold sizeW; rw [isHd_enc f, dec_enc f]; rfl

theorem Ar.Ok.top_bd {A : Ar} (ok : A.Ok) {s n : Int} (hs : isSp s = true) (h1 : 1 ≤ n) (h2 : n ≤ A.free s) : 1 ≤ A.top s ∧ A.top s + n ≤ ((A.take s n).words.length : Int) ∧ ((A.take s n).words.length : Int) ≤ 262145 := by
  have hz := ok.sizes s
  have ok2 := ok.take hs h1 h2
  have h3 := ok2.tops
  unfold isSp at hs
  have hs' : s = 1 ∨ s = 2 ∨ s = 3 ∨ s = 4 := by have := of_decide_eq_true hs; omega
  obtain ⟨cv, len, rng, a1, b1, a2, b2, a3, b3, a4, b4, fr⟩ := ok
  obtain ⟨e0, e1, s0, s1, t0, t1⟩ := Cfg.bd cv
  rcases hs' with rfl | rfl | rfl | rfl <;> simp [Ar.take, Ar.setTop, Ar.top] at h3 ⊢ <;> omega

set_option maxHeartbeats 1000000 in
theorem put_yes (b wb : Nat) (A : Ar) (s : Int) (g : Hd) (w : World) (tb : Tab w) (h : ArAt w b wb A) (ok : A.Ok) (f : Fine g) (hs : isSp s = true) (hn : 2 + g.ptrs + g.raws ≤ A.free s) :
    Calls Tryd.prog 85 #[.pointer (some ⟨b, 0, none⟩), .int .i64 s, g.val] w fun e w' => e = .returned (.tuple #[.int .i64 (A.top s), .bool true]) ∧ ArAt w' b wb (A.lay s g) ∧ Only [b, wb] w w' := by
  have P := Lib.hid (fun W (hb : Below w.heap.size w W) => pack_yes g W (tb.below hb) f)
  have eb := enc_bd f
  have Z := fun W (hb : Below w.heap.size w W) => size_any (enc g) W (tb.below hb) eb.1 (by omega)
  rw [sizeW_enc f] at Z
  have h1 : 1 ≤ 2 + g.ptrs + g.raws := by have := f.p0; have := f.r0; omega
  have T := Lib.hid (fun W (hb : Below w.heap.size w W) => take_yes b wb A s (2 + g.ptrs + g.raws) W (h.below hb) ok hs h1 hn)
  have ZZ := Lib.hid Z
  obtain ⟨t1, t2, t3⟩ := ok.top_bd hs h1 hn
  have hlb := lt_of_heap h.st
  have hlw := lt_of_heap h.ws
  have hne := h.ne
  have p0 := f.p0
  have p1 := f.p1
  have r0 := f.r0
  have r1 := f.r1
  unfold Ar.lay
  have HG := Lib.hid (fun (W : World) (hA : ArAt W b wb (A.take s (2 + g.ptrs + g.raws))) => hA.word (i := A.top s) (by omega) (by omega))
  have HG1 := fun (W : World) (hA : ArAt W b wb (A.take s (2 + g.ptrs + g.raws))) => hA.word (i := A.top s + 1) (by omega) (by omega)
  have HG1' := Lib.hid HG1
  have t4 : A.top s + 1 < ((A.take s (2 + g.ptrs + g.raws)).words.length : Int) := by omega
  generalize A.take s (2 + g.ptrs + g.raws) = A2 at *
  generalize A.top s = tp at *
  generalize enc g = x at *
  obtain ⟨gser, gkind, gptrs, graws, gage, gsite, gheld⟩ := g
  unfold Hd.val at *
  simp only at *
  generalize A2.word tp = m at *
  generalize A2.word (tp + 1) = m1 at *
  clear Z HG1 h ok f eb hs hn h1 t2
  go_enter Tryd.func85, Tryd.ntmps85
  go_wp2_with fail
  refine (P.out _ ((Below.refl _ _).alloc (Nat.le_refl _) _)).mono ?_
  rintro e w1 ⟨rfl, hb⟩
  obtain ⟨hX, hb1, hz1⟩ := kept_new hb
  clear hb
  go_wp2_with fail
  refine (ZZ.out _ hb1).mono ?_
  rintro e w2 ⟨rfl, hb⟩
  have hX2 := (hb.block _ hz1).trans hX
  have hb2 := hb1.trans (hb.mono hb1.size)
  clear hb
  go_wp2_with fail
  refine (T.out _ hb2).mono ?_
  rintro e w3 ⟨rfl, hA, hO⟩
  have hX3 : w3.heap[w.heap.size]? = _ := (hO.block _ (lt_of_heap hX2) (by simp; omega)).trans hX2
  obtain ⟨hk, hkf⟩ := hcell hX3
  obtain ⟨hc, hf⟩ := hA.cells
  unfold arCells at hc
  have hw0 := HG.out _ hA
  have hw1 := HG1'.out _ hA
  have hwf := hA.wfree
  have HN := Lib.hid (hA.put2 tp.toNat (tp + 1).toNat tp x gser rfl rfl)
  have hO2 : Only [b, wb] w w3 := (Only.of_below hb2).trans hO
  clear hO hX hX2 hX3
  go_wp2_with fail
  go_region
  all_goals
    go_wp2
    go_ret2
    exact ⟨rfl, HN.out.drew, ((hO2.setCell (by simp) _).setCell (by simp) _).drew⟩

theorem put_no (b wb : Nat) (A : Ar) (s : Int) (g : Hd) (w : World) (tb : Tab w) (h : ArAt w b wb A) (ok : A.Ok) (f : Fine g) (hn : ¬ (isSp s = true ∧ 1 ≤ 2 + g.ptrs + g.raws ∧ 2 + g.ptrs + g.raws ≤ A.free s)) :
    Calls Tryd.prog 85 #[.pointer (some ⟨b, 0, none⟩), .int .i64 s, g.val] w fun e w' => e = .returned (.tuple #[.int .i64 0, .bool false]) ∧ Below w.heap.size w w' := by
  have P := Lib.hid (fun W (hb : Below w.heap.size w W) => pack_yes g W (tb.below hb) f)
  have eb := enc_bd f
  have Z := fun W (hb : Below w.heap.size w W) => size_any (enc g) W (tb.below hb) eb.1 (by omega)
  rw [sizeW_enc f] at Z
  have T := Lib.hid (fun W (hb : Below w.heap.size w W) => take_no b wb A s (2 + g.ptrs + g.raws) W (h.below hb) ok hn)
  have ZZ := Lib.hid Z
  generalize enc g = x at *
  generalize 2 + g.ptrs + g.raws = n at *
  obtain ⟨gser, gkind, gptrs, graws, gage, gsite, gheld⟩ := g
  unfold Hd.val at *
  simp only at *
  clear Z h ok f eb hn
  go_enter Tryd.func85, Tryd.ntmps85
  go_wp2_with fail
  refine (P.out _ ((Below.refl _ _).alloc (Nat.le_refl _) _)).mono ?_
  rintro e w1 ⟨rfl, hb⟩
  obtain ⟨hX, hb1, hz1⟩ := kept_new hb
  clear hb hX
  go_wp2_with fail
  refine (ZZ.out _ hb1).mono ?_
  rintro e w2 ⟨rfl, hb⟩
  have hb2 := hb1.trans (hb.mono hb1.size)
  clear hb
  go_wp2_with fail
  refine (T.out _ hb2).mono ?_
  rintro e w3 ⟨rfl, hb⟩
  have hb3 := hb2.trans (hb.mono hb2.size)
  clear hb
  go_wp2_with fail
  go_ret2
  exact ⟨rfl, hb3⟩

theorem put_bad (b : Nat) (s : Int) (g : Hd) (w : World) (tb : Tab w) (hc : ¬ chk g = 0) :
    Calls Tryd.prog 85 #[.pointer (some ⟨b, 0, none⟩), .int .i64 s, g.val] w fun e w' => e = .returned (.tuple #[.int .i64 0, .bool false]) ∧ Below w.heap.size w w' := by
  have P := Lib.hid (fun W (hb : Below w.heap.size w W) => pack_any g W (tb.below hb))
  have hc1 : (chk g != 0) = true := by simpa using hc
  have hc2 : (chk g == 0) = false := by simpa using hc
  generalize pack g = x at *
  generalize chk g = c at *
  obtain ⟨gser, gkind, gptrs, graws, gage, gsite, gheld⟩ := g
  unfold Hd.val at *
  simp only at *
  clear hc
  go_enter Tryd.func85, Tryd.ntmps85
  go_wp2_with fail
  refine (P.out _ ((Below.refl _ _).alloc (Nat.le_refl _) _)).mono ?_
  rintro e w1 ⟨rfl, hb⟩
  obtain ⟨hX, hb1, hz1⟩ := kept_new hb
  clear hb hX
  go_wp2_with fail
  go_ret2
  exact ⟨rfl, hb1⟩

theorem put_any (b wb : Nat) (A : Ar) (s : Int) (g : Hd) (w : World) (tb : Tab w) (h : ArAt w b wb A) (ok : A.Ok) :
    Calls Tryd.prog 85 #[.pointer (some ⟨b, 0, none⟩), .int .i64 s, g.val] w fun e w' => e = .returned (.tuple #[.int .i64 (if A.putOk s g then A.top s else 0), .bool (A.putOk s g)]) ∧ ArAt w' b wb (if A.putOk s g then A.lay s g else A) ∧ Only [b, wb] w w' := by
  by_cases hc : chk g = 0
  · have f := (chk_iff g).1 hc
    have h2 : 1 ≤ 2 + g.ptrs + g.raws := by have := f.p0; have := f.r0; omega
    by_cases hn : isSp s = true ∧ 1 ≤ 2 + g.ptrs + g.raws ∧ 2 + g.ptrs + g.raws ≤ A.free s
    · have e1 : A.putOk s g = true := by unfold Ar.putOk; rw [decide_eq_true hc, hn.1, decide_eq_true hn.2.2]; rfl
      rw [e1, if_pos rfl, if_pos rfl]
      exact put_yes b wb A s g w tb h ok f hn.1 hn.2.2
    · have e1 : A.putOk s g = false := by
        unfold Ar.putOk
        by_cases q : isSp s = true
        · rw [decide_eq_false (show ¬ 2 + g.ptrs + g.raws ≤ A.free s from fun x => hn ⟨q, h2, x⟩)]; simp
        · simp [q]
      rw [e1, if_neg (by simp), if_neg (by simp)]
      exact (put_no b wb A s g w tb h ok f hn).mono fun e w' ⟨h1, h2⟩ => ⟨h1, h.below h2, Only.of_below h2⟩
  · have e1 : A.putOk s g = false := by unfold Ar.putOk; rw [decide_eq_false hc]; rfl
    rw [e1, if_neg (by simp), if_neg (by simp)]
    exact (put_bad b s g w tb hc).mono fun e w' ⟨h1, h2⟩ => ⟨h1, h.below h2, Only.of_below h2⟩

theorem fill_yes (b wb : Nat) (A : Ar) (s n : Int) (w : World) (h : ArAt w b wb A) (ok : A.Ok) (hs : isSp s = true) (h1 : 1 ≤ n) (hn : n ≤ A.free s) :
    Calls Tryd.prog 53 #[.pointer (some ⟨b, 0, none⟩), .int .i64 s, .int .i64 n] w fun e w' => e = .returned (.bool true) ∧ ArAt w' b wb (A.fill s n) ∧ Only [b, wb] w w' := by
  have G := Lib.hid (fun W => filler_any n W)
  have T := Lib.hid (take_yes b wb A s n w h ok hs h1 hn)
  obtain ⟨t1, t2, t3⟩ := ok.top_bd hs h1 hn
  have hfr : n ≤ 262145 := by have := ok.sizes s; unfold Ar.free at hn; omega
  have hwn : wordT 3 n = 3 + 4 * n := by unfold wordT; rw [if_pos (by omega)]
  have hw3 : (wordT 3 n == 0) = false := by rw [hwn]; simp; omega
  unfold Ar.fill Ar.put
  have HG := Lib.hid (fun (W : World) (hA : ArAt W b wb (A.take s n)) => hA.word (i := A.top s) (by omega) (by omega))
  have t4 : A.top s < ((A.take s n).words.length : Int) := by omega
  generalize A.take s n = A2 at *
  generalize A.top s = tp at *
  generalize wordT 3 n = x at *
  generalize A2.word tp = m at *
  clear h ok hs hn h1 t2 hwn
  go_enter Tryd.func53, Tryd.ntmps53
  go_wp2_with fail
  refine (G.out _).mono ?_
  rintro e w1 ⟨rfl, rfl⟩
  go_wp2_with fail
  refine T.out.mono ?_
  rintro e w3 ⟨rfl, hA, hO⟩
  obtain ⟨hc, hf⟩ := hA.cells
  unfold arCells at hc
  have hw0 := HG.out _ hA
  have hwf := hA.wfree
  have HN := Lib.hid (hA.setWord tp.toNat x)
  go_wp2_with fail
  go_ret
  exact ⟨rfl, HN.out, hO.setCell (by simp) _⟩

theorem fill_no (b wb : Nat) (A : Ar) (s n : Int) (w : World) (h : ArAt w b wb A) (ok : A.Ok) (hn : ¬ (isSp s = true ∧ 1 ≤ n ∧ n ≤ A.free s)) :
    Calls Tryd.prog 53 #[.pointer (some ⟨b, 0, none⟩), .int .i64 s, .int .i64 n] w fun e w' => e = .returned (.bool false) ∧ Below w.heap.size w w' := by
  have G := fun W => filler_any n W
  have T := Lib.hid (take_no b wb A s n w h ok hn)
  by_cases c : wordT 3 n = 0
  · rw [c] at G
    have GG := Lib.hid G
    clear G h ok hn c T
    go_enter Tryd.func53, Tryd.ntmps53
    go_wp2_with fail
    refine (GG.out _).mono ?_
    rintro e w1 ⟨rfl, rfl⟩
    go_wp2_with fail
    go_ret
    exact ⟨rfl, Below.refl _ _⟩
  · have hw3 : (wordT 3 n == 0) = false := by simpa using c
    have GG := Lib.hid G
    generalize wordT 3 n = x at *
    clear G h ok hn c
    go_enter Tryd.func53, Tryd.ntmps53
    go_wp2_with fail
    refine (GG.out _).mono ?_
    rintro e w1 ⟨rfl, rfl⟩
    go_wp2_with fail
    refine T.out.mono ?_
    rintro e w3 ⟨rfl, hb⟩
    go_wp2_with fail
    go_ret
    exact ⟨rfl, hb⟩

theorem fill_any (b wb : Nat) (A : Ar) (s n : Int) (w : World) (h : ArAt w b wb A) (ok : A.Ok) :
    Calls Tryd.prog 53 #[.pointer (some ⟨b, 0, none⟩), .int .i64 s, .int .i64 n] w fun e w' => e = .returned (.bool (A.fillOk s n)) ∧ ArAt w' b wb (if A.fillOk s n then A.fill s n else A) ∧ Only [b, wb] w w' := by
  by_cases hn : isSp s = true ∧ 1 ≤ n ∧ n ≤ A.free s
  · have e1 : A.fillOk s n = true := by unfold Ar.fillOk; rw [hn.1, decide_eq_true hn.2]; rfl
    rw [e1, if_pos rfl]
    exact fill_yes b wb A s n w h ok hn.1 hn.2.1 hn.2.2
  · have e1 : A.fillOk s n = false := by
      unfold Ar.fillOk
      by_cases q : isSp s = true
      · rw [decide_eq_false (show ¬ (1 ≤ n ∧ n ≤ A.free s) from fun x => hn ⟨q, x⟩)]; simp
      · simp [q]
    rw [e1, if_neg (by simp)]
    exact (fill_no b wb A s n w h ok hn).mono fun e w' ⟨h1, h2⟩ => ⟨h1, h.below h2, Only.of_below h2⟩
end Go.Proofs.YtomgfdfgildkbaaDoor
