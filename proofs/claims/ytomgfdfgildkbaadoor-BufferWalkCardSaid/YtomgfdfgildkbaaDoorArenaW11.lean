/- The walks of package arena, eleventh part: SetHead, Put, Fill. -/
import Derived.Test.YtomgfdfgildkbaaDoorArenaW10
import Derived.Test.YtomgfdfgildkbaaDoorCellW5
namespace Go.Proofs.YtomgfdfgildkbaaDoor
open Go.RowKit Go.BigFrame

def Ar.setHeadOk (A : Ar) (i : Int) (h : Hd) : Bool := A.isObj i && decide (chk h = 0) && decide (h.ptrs = (A.hd i).ptrs) && decide (h.raws = (A.hd i).raws)
def Ar.setHead (A : Ar) (i : Int) (h : Hd) : Ar := if A.setHeadOk i h then (A.put i (enc h)).put (i + 1) h.ser else A

theorem ArAt.put2 {w : World} {b wb : Nat} {A : Ar} (h : ArAt w b wb A) (k k2 : Nat) (i x y : Int) (hk : k = i.toNat) (hk2 : k2 = (i + 1).toNat) : ArAt ((w.setCell ⟨wb, k, none⟩ (.int .u64 x)).setCell ⟨wb, k2, none⟩ (.int .u64 y)) b wb ((A.put i x).put (i + 1) y) := by
  have h2 := (h.setWord k x).setWord k2 y
  unfold Ar.put
  rw [← hk2, ← hk]
  exact h2

set_option maxHeartbeats 1000000 in
theorem setHead_yes (b wb : Nat) (A : Ar) (i : Int) (g : Hd) (w : World) (tb : Tab w) (h : ArAt w b wb A) (ok : A.Ok) (ho : A.isObj i = true) (fg : Fine g) (hp : g.ptrs = (A.hd i).ptrs) (hr : g.raws = (A.hd i).raws) :
    Calls Tryd.prog 93 #[.pointer (some ⟨b, 0, none⟩), .int .i64 i, g.val] w fun e w' => e = .returned (.bool true) ∧ ArAt w' b wb ((A.put i (enc g)).put (i + 1) g.ser) ∧ Only [b, wb] w w' := by
  have O := fun W (hb : Below w.heap.size w W) => object_any b wb A i W (tb.below hb) (h.below hb) ok
  have P := Lib.hid (fun W (hb : Below w.heap.size w W) => pack_yes g W (tb.below hb) fg)
  obtain ⟨h1, h2, h3, f, e4, e5⟩ := isObj_facts ok ho
  have e6 : A.osl wb i = .slice (some ⟨wb, i.toNat, none⟩) (A.osz i).toNat (A.osz i).toNat := by unfold Ar.osl; rw [if_pos ho]
  rw [e6, ho] at O
  have hz : 2 ≤ A.osz i := by have := f.p0; have := f.r0; omega
  have HW0 := Lib.hid (fun W (hb : Below w.heap.size w W) => (h.below hb).word (i := i) (by omega) (by omega))
  have HW1 := fun W (hb : Below w.heap.size w W) => (h.below hb).word (i := i + 1) (by omega) (by omega)
  rw [show (i + 1).toNat = i.toNat + 1 by omega] at HW1
  have HW1' := Lib.hid HW1
  have HF := Lib.hid (fun W (hb : Below w.heap.size w W) => (h.below hb).wfree)
  have HH := Lib.hid (fun W (hb : Below w.heap.size w W) => h.below hb)
  have HC := Lib.hid (fun W (hb : Below w.heap.size w W) => (h.below hb).facts)
  generalize A.osz i = n at *
  generalize A.word i = m at *
  generalize A.word (i + 1) = m1 at *
  generalize A.hd i = d at *
  generalize hex : enc g = x at *
  have HX := Lib.hid hex
  clear hex
  obtain ⟨gser, gkind, gptrs, graws, gage, gsite, gheld⟩ := g
  unfold Hd.val at *
  simp only at *
  subst hp hr
  have OO := Lib.hid O
  clear O HW1 e4 e5 e6 h ok tb ho f fg
  go_enter Tryd.func93, Tryd.ntmps93
  go_wp2_with fail
  refine (OO.out _ ((Below.refl _ _).alloc (Nat.le_refl _) _)).mono ?_
  rintro e w1 ⟨rfl, hb⟩
  obtain ⟨hX, hb1, hz1⟩ := kept_new hb
  obtain ⟨hk, hkf⟩ := hcell hX
  clear hb
  go_wp2_with fail
  refine (P.out _ (hb1.alloc hb1.size _)).mono ?_
  rintro e w2 ⟨rfl, hb⟩
  obtain ⟨hY, hb2', hz2⟩ := kept_new hb
  have hb2 : Below w.heap.size w w2 := hb1.trans (hb2'.mono hb1.size)
  have hX2 := (hb2'.block _ hz1).trans hX
  obtain ⟨hk2, hkf2⟩ := hcell hX2
  obtain ⟨hy2, hyf2⟩ := hcell hY
  obtain ⟨hc2, hl2, hm2⟩ := HC.out _ hb2
  have hw0 := HW0.out _ hb2
  have hw1 := HW1'.out _ hb2
  have hwf := HF.out _ hb2
  have HN := Lib.hid ((HH.out _ hb2).put2 i.toNat (i.toNat + 1) i x gser rfl (by omega))
  clear hb hb2' hk hkf
  go_wp2_with fail
  go_region
  all_goals
    go_wp2
    go_ret
    exact ⟨rfl, HN.out.drew, (((Only.of_below hb2).setCell (by simp) _).setCell (by simp) _).drew⟩

theorem setHead_nil (b wb : Nat) (A : Ar) (i : Int) (g : Hd) (w : World) (tb : Tab w) (h : ArAt w b wb A) (ok : A.Ok) (ho : A.isObj i = false) :
    Calls Tryd.prog 93 #[.pointer (some ⟨b, 0, none⟩), .int .i64 i, g.val] w fun e w' => e = .returned (.bool false) ∧ Below w.heap.size w w' := by
  have O := fun W (hb : Below w.heap.size w W) => object_any b wb A i W (tb.below hb) (h.below hb) ok
  have P := fun W (hb : Below w.heap.size w W) => pack_any g W (tb.below hb)
  have hsl : ∃ a n, A.osl wb i = .slice a n n := by unfold Ar.osl; split <;> exact ⟨_, _, rfl⟩
  obtain ⟨a, n, e6⟩ := hsl
  rw [e6, ho] at O
  generalize A.hd i = d at *
  generalize pack g = x at *
  generalize chk g = cg at *
  obtain ⟨gser, gkind, gptrs, graws, gage, gsite, gheld⟩ := g
  unfold Hd.val at *
  simp only at *
  have OO := Lib.hid O
  have PP := Lib.hid P
  clear O P e6 h ok tb ho
  go_enter Tryd.func93, Tryd.ntmps93
  go_wp2_with fail
  refine (OO.out _ ((Below.refl _ _).alloc (Nat.le_refl _) _)).mono ?_
  rintro e w1 ⟨rfl, hb⟩
  obtain ⟨hX, hb1, hz1⟩ := kept_new hb
  obtain ⟨hk, hkf⟩ := hcell hX
  clear hb
  go_wp2_with fail
  refine (PP.out _ (hb1.alloc hb1.size _)).mono ?_
  rintro e w2 ⟨rfl, hb⟩
  obtain ⟨hY, hb2', hz2⟩ := kept_new hb
  have hb2 : Below w.heap.size w w2 := hb1.trans (hb2'.mono hb1.size)
  have hX2 := (hb2'.block _ hz1).trans hX
  obtain ⟨hk2, hkf2⟩ := hcell hX2
  obtain ⟨hy2, hyf2⟩ := hcell hY
  clear hb hb2' hk hkf
  go_wp2_with fail
  go_ret
  exact ⟨rfl, hb2⟩

theorem setHead_chk (b wb : Nat) (A : Ar) (i : Int) (g : Hd) (w : World) (tb : Tab w) (h : ArAt w b wb A) (ok : A.Ok) (ho : A.isObj i = true) (hc : ¬ chk g = 0) :
    Calls Tryd.prog 93 #[.pointer (some ⟨b, 0, none⟩), .int .i64 i, g.val] w fun e w' => e = .returned (.bool false) ∧ Below w.heap.size w w' := by
  have O := fun W (hb : Below w.heap.size w W) => object_any b wb A i W (tb.below hb) (h.below hb) ok
  have P := fun W (hb : Below w.heap.size w W) => pack_any g W (tb.below hb)
  have hsl : ∃ a n, A.osl wb i = .slice a n n := by unfold Ar.osl; split <;> exact ⟨_, _, rfl⟩
  obtain ⟨a, n, e6⟩ := hsl
  rw [e6, ho] at O
  have hc1 : (chk g == 0) = false := by simpa using hc
  have hc2 : (chk g != 0) = true := by simpa using hc
  generalize A.hd i = d at *
  generalize pack g = x at *
  generalize chk g = cg at *
  obtain ⟨gser, gkind, gptrs, graws, gage, gsite, gheld⟩ := g
  unfold Hd.val at *
  simp only at *
  have OO := Lib.hid O
  have PP := Lib.hid P
  clear O P e6 h ok tb ho hc
  go_enter Tryd.func93, Tryd.ntmps93
  go_wp2_with fail
  refine (OO.out _ ((Below.refl _ _).alloc (Nat.le_refl _) _)).mono ?_
  rintro e w1 ⟨rfl, hb⟩
  obtain ⟨hX, hb1, hz1⟩ := kept_new hb
  obtain ⟨hk, hkf⟩ := hcell hX
  clear hb
  go_wp2_with fail
  refine (PP.out _ (hb1.alloc hb1.size _)).mono ?_
  rintro e w2 ⟨rfl, hb⟩
  obtain ⟨hY, hb2', hz2⟩ := kept_new hb
  have hb2 : Below w.heap.size w w2 := hb1.trans (hb2'.mono hb1.size)
  have hX2 := (hb2'.block _ hz1).trans hX
  obtain ⟨hk2, hkf2⟩ := hcell hX2
  obtain ⟨hy2, hyf2⟩ := hcell hY
  clear hb hb2' hk hkf
  go_wp2_with fail
  go_ret
  exact ⟨rfl, hb2⟩

theorem setHead_ptrs (b wb : Nat) (A : Ar) (i : Int) (g : Hd) (w : World) (tb : Tab w) (h : ArAt w b wb A) (ok : A.Ok) (ho : A.isObj i = true) (hc : chk g = 0) (hp : ¬ g.ptrs = (A.hd i).ptrs) :
    Calls Tryd.prog 93 #[.pointer (some ⟨b, 0, none⟩), .int .i64 i, g.val] w fun e w' => e = .returned (.bool false) ∧ Below w.heap.size w w' := by
  have O := fun W (hb : Below w.heap.size w W) => object_any b wb A i W (tb.below hb) (h.below hb) ok
  have P := fun W (hb : Below w.heap.size w W) => pack_any g W (tb.below hb)
  have hsl : ∃ a n, A.osl wb i = .slice a n n := by unfold Ar.osl; split <;> exact ⟨_, _, rfl⟩
  obtain ⟨a, n, e6⟩ := hsl
  rw [e6, ho] at O
  rw [hc] at P
  have hp1 : (g.ptrs == (A.hd i).ptrs) = false := by simpa using hp
  have hp2 : (g.ptrs != (A.hd i).ptrs) = true := by simpa using hp
  generalize A.hd i = d at *
  generalize pack g = x at *
  generalize chk g = cg at *
  obtain ⟨gser, gkind, gptrs, graws, gage, gsite, gheld⟩ := g
  unfold Hd.val at *
  simp only at *
  have OO := Lib.hid O
  have PP := Lib.hid P
  clear O P e6 h ok tb ho hc hp
  go_enter Tryd.func93, Tryd.ntmps93
  go_wp2_with fail
  refine (OO.out _ ((Below.refl _ _).alloc (Nat.le_refl _) _)).mono ?_
  rintro e w1 ⟨rfl, hb⟩
  obtain ⟨hX, hb1, hz1⟩ := kept_new hb
  obtain ⟨hk, hkf⟩ := hcell hX
  clear hb
  go_wp2_with fail
  refine (PP.out _ (hb1.alloc hb1.size _)).mono ?_
  rintro e w2 ⟨rfl, hb⟩
  obtain ⟨hY, hb2', hz2⟩ := kept_new hb
  have hb2 : Below w.heap.size w w2 := hb1.trans (hb2'.mono hb1.size)
  have hX2 := (hb2'.block _ hz1).trans hX
  obtain ⟨hk2, hkf2⟩ := hcell hX2
  obtain ⟨hy2, hyf2⟩ := hcell hY
  clear hb hb2' hk hkf
  go_wp2_with fail
  go_ret
  exact ⟨rfl, hb2⟩

theorem setHead_raws (b wb : Nat) (A : Ar) (i : Int) (g : Hd) (w : World) (tb : Tab w) (h : ArAt w b wb A) (ok : A.Ok) (ho : A.isObj i = true) (hc : chk g = 0) (hp : g.ptrs = (A.hd i).ptrs) (hr : ¬ g.raws = (A.hd i).raws) :
    Calls Tryd.prog 93 #[.pointer (some ⟨b, 0, none⟩), .int .i64 i, g.val] w fun e w' => e = .returned (.bool false) ∧ Below w.heap.size w w' := by
  have O := fun W (hb : Below w.heap.size w W) => object_any b wb A i W (tb.below hb) (h.below hb) ok
  have P := fun W (hb : Below w.heap.size w W) => pack_any g W (tb.below hb)
  have hsl : ∃ a n, A.osl wb i = .slice a n n := by unfold Ar.osl; split <;> exact ⟨_, _, rfl⟩
  obtain ⟨a, n, e6⟩ := hsl
  rw [e6, ho] at O
  rw [hc] at P
  have hp1 : (g.ptrs == (A.hd i).ptrs) = true := by simpa using hp
  have hp2 : (g.ptrs != (A.hd i).ptrs) = false := by simpa using hp
  have hr1 : (g.raws == (A.hd i).raws) = false := by simpa using hr
  have hr2 : (g.raws != (A.hd i).raws) = true := by simpa using hr
  generalize A.hd i = d at *
  generalize pack g = x at *
  generalize chk g = cg at *
  obtain ⟨gser, gkind, gptrs, graws, gage, gsite, gheld⟩ := g
  unfold Hd.val at *
  simp only at *
  have OO := Lib.hid O
  have PP := Lib.hid P
  clear O P e6 h ok tb ho hc hp hr
  go_enter Tryd.func93, Tryd.ntmps93
  go_wp2_with fail
  refine (OO.out _ ((Below.refl _ _).alloc (Nat.le_refl _) _)).mono ?_
  rintro e w1 ⟨rfl, hb⟩
  obtain ⟨hX, hb1, hz1⟩ := kept_new hb
  obtain ⟨hk, hkf⟩ := hcell hX
  clear hb
  go_wp2_with fail
  refine (PP.out _ (hb1.alloc hb1.size _)).mono ?_
  rintro e w2 ⟨rfl, hb⟩
  obtain ⟨hY, hb2', hz2⟩ := kept_new hb
  have hb2 : Below w.heap.size w w2 := hb1.trans (hb2'.mono hb1.size)
  have hX2 := (hb2'.block _ hz1).trans hX
  obtain ⟨hk2, hkf2⟩ := hcell hX2
  obtain ⟨hy2, hyf2⟩ := hcell hY
  clear hb hb2' hk hkf
  go_wp2_with fail
  go_ret
  exact ⟨rfl, hb2⟩

theorem setHead_any (b wb : Nat) (A : Ar) (i : Int) (g : Hd) (w : World) (tb : Tab w) (h : ArAt w b wb A) (ok : A.Ok) :
    Calls Tryd.prog 93 #[.pointer (some ⟨b, 0, none⟩), .int .i64 i, g.val] w fun e w' => e = .returned (.bool (A.setHeadOk i g)) ∧ ArAt w' b wb (A.setHead i g) ∧ Only [b, wb] w w' := by
  unfold Ar.setHead
  by_cases ho : A.isObj i = true
  · by_cases hc : chk g = 0
    · by_cases hp : g.ptrs = (A.hd i).ptrs
      · by_cases hr : g.raws = (A.hd i).raws
        · have e1 : A.setHeadOk i g = true := by unfold Ar.setHeadOk; rw [ho, decide_eq_true hc, decide_eq_true hp, decide_eq_true hr]; rfl
          rw [e1, if_pos rfl]
          exact setHead_yes b wb A i g w tb h ok ho ((chk_iff g).1 hc) hp hr
        · have e1 : A.setHeadOk i g = false := by unfold Ar.setHeadOk; rw [decide_eq_false hr]; simp
          rw [e1, if_neg (by simp)]
          exact (setHead_raws b wb A i g w tb h ok ho hc hp hr).mono fun e w' ⟨h1, h2⟩ => ⟨h1, h.below h2, Only.of_below h2⟩
      · have e1 : A.setHeadOk i g = false := by unfold Ar.setHeadOk; rw [decide_eq_false hp]; simp
        rw [e1, if_neg (by simp)]
        exact (setHead_ptrs b wb A i g w tb h ok ho hc hp).mono fun e w' ⟨h1, h2⟩ => ⟨h1, h.below h2, Only.of_below h2⟩
    · have e1 : A.setHeadOk i g = false := by unfold Ar.setHeadOk; rw [decide_eq_false hc]; simp
      rw [e1, if_neg (by simp)]
      exact (setHead_chk b wb A i g w tb h ok ho hc).mono fun e w' ⟨h1, h2⟩ => ⟨h1, h.below h2, Only.of_below h2⟩
  · have ho' : A.isObj i = false := by simpa using ho
    have e1 : A.setHeadOk i g = false := by unfold Ar.setHeadOk; rw [ho']; rfl
    rw [e1, if_neg (by simp)]
    exact (setHead_nil b wb A i g w tb h ok ho').mono fun e w' ⟨h1, h2⟩ => ⟨h1, h.below h2, Only.of_below h2⟩
end Go.Proofs.YtomgfdfgildkbaaDoor
