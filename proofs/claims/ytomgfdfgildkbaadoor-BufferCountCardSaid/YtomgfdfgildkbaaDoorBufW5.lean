/- The walks of package buffer: Put where nothing is laid, or where the object goes past the buffers. -/
import Derived.Test.YtomgfdfgildkbaaDoorBufW3
import Derived.Deep.RegionHeld3
import Derived.Deep.DeepCutAuto
namespace Go.Proofs.YtomgfdfgildkbaaDoor
open Go.RowKit Go.BigFrame

set_option maxRecDepth 100000 in
set_option maxHeartbeats 1000000 in
theorem put_noThread (b rb : Nat) (B : Bu) (a : Nat) (t : Int) (g : Hd) (w : World) (tb : Tab w) (hB : BuAt w b rb B) (ht : B.is t = false) :
    Calls Tryd.prog 37 #[.pointer (some ⟨b, 0, none⟩), .pointer (some ⟨a, 0, none⟩), .int .i64 t, g.val] w fun e w' => e = .returned (.tuple #[.int .i64 0, .bool false]) ∧ Below w.heap.size w w' := by
  have P := Lib.hid (fun W (hb : Below w.heap.size w W) => pack_any g W (tb.below hb))
  have I := fun W (hb : Below w.heap.size w W) => is_buf b rb B t W (hB.below hb)
  rw [ht] at I
  replace I := Lib.hid I
  generalize pack g = m at *
  generalize chk g = er at *
  obtain ⟨gser, gkind, gptrs, graws, gage, gsite, gheld⟩ := g
  unfold Hd.val at *
  simp only at *
  clear hB ht
  go_enter_defers Tryd.func37, Tryd.ntmps37
  go_wp2_with fail
  refine (P.out _ (((Below.refl _ _).alloc (Nat.le_refl _) _).alloc (by simp) _)).mono ?_
  rintro e w1 ⟨rfl, hb⟩
  obtain ⟨H5, H7, hb1, hlt⟩ := kept_new2 hb
  clear hb
  go_wp2_with fail
  refine (I.out _ hb1).mono ?_
  rintro e w2 ⟨rfl, rfl⟩
  go_wp2_with fail
  exact ⟨_, results_tmp2 rfl _ _ _, rfl, hb1⟩
set_option maxRecDepth 100000 in
set_option maxHeartbeats 1000000 in
theorem put_badHead (b rb : Nat) (B : Bu) (a : Nat) (t : Int) (g : Hd) (w : World) (tb : Tab w) (hB : BuAt w b rb B) (ht : B.is t = true) (hg : chk g ≠ 0) :
    Calls Tryd.prog 37 #[.pointer (some ⟨b, 0, none⟩), .pointer (some ⟨a, 0, none⟩), .int .i64 t, g.val] w fun e w' => e = .returned (.tuple #[.int .i64 0, .bool false]) ∧ Below w.heap.size w w' := by
  have P := Lib.hid (fun W (hb : Below w.heap.size w W) => pack_any g W (tb.below hb))
  have I := fun W (hb : Below w.heap.size w W) => is_buf b rb B t W (hB.below hb)
  rw [ht] at I
  replace I := Lib.hid I
  generalize pack g = m at *
  have d1 : (chk g == 0) = false := by simpa using hg
  have d2 : (chk g != 0) = true := by simpa using hg
  generalize chk g = er at *
  obtain ⟨gser, gkind, gptrs, graws, gage, gsite, gheld⟩ := g
  unfold Hd.val at *
  simp only at *
  clear hB ht hg
  go_enter_defers Tryd.func37, Tryd.ntmps37
  go_wp2_with fail
  refine (P.out _ (((Below.refl _ _).alloc (Nat.le_refl _) _).alloc (by simp) _)).mono ?_
  rintro e w1 ⟨rfl, hb⟩
  obtain ⟨H5, H7, hb1, hlt⟩ := kept_new2 hb
  clear hb
  go_wp2_with fail
  refine (I.out _ hb1).mono ?_
  rintro e w2 ⟨rfl, rfl⟩
  go_wp2_with fail
  exact ⟨_, results_tmp2 rfl _ _ _, rfl, hb1⟩
theorem allocF5 (w : World) (X : Obj) : (w.alloc X).heap[w.heap.size]? = some X ∧ (∀ b, b < w.heap.size → (w.alloc X).heap[b]? = w.heap[b]?) ∧ (w.alloc X).heap.size = w.heap.size + 1 := by
  refine ⟨?_, fun b hb => ?_, ?_⟩
  · show (w.heap.push X)[w.heap.size]? = _; simp
  · exact ((Below.refl _ w).alloc (Nat.le_refl _) X).block b hb
  · simp
set_option maxRecDepth 100000 in
set_option maxHeartbeats 2000000 in
theorem put_full (b rb : Nat) (B : Bu) (a wb : Nat) (A : Ar) (t : Int) (g : Hd) (w : World) (tb : Tab w) (hB : BuAt w b rb B) (hA : ArAt w a wb A) (okA : A.Ok) (ht : B.is t = true) (f : Fine g)
    (n : Int) (hn : n = 2 + g.ptrs + g.raws) (q1 : (B.rest t).2 < n) (q2 : A.free 1 < n) :
    Calls Tryd.prog 37 #[.pointer (some ⟨b, 0, none⟩), .pointer (some ⟨a, 0, none⟩), .int .i64 t, g.val] w fun e w' => e = .returned (.tuple #[.int .i64 0, .bool false]) ∧ Below w.heap.size w w' := by
  have P := Lib.hid (fun W (hb : Below w.heap.size w W) => pack_yes g W (tb.below hb) f)
  have eb := enc_bd f
  have Z := fun W (hb : Below w.heap.size w W) => size_any (enc g) W (tb.below hb) eb.1 (by omega)
  rw [sizeW_enc f, ← hn] at Z
  replace Z := Lib.hid Z
  have I := fun W (hb : Below w.heap.size w W) => is_buf b rb B t W (hB.below hb)
  rw [ht] at I
  replace I := Lib.hid I
  have F := Lib.hid (fun W (hb : Below w.heap.size w W) => free_any a wb A 1 W (hA.below hb) okA)
  have hmf : ∀ (fn : Fn) (first cap : Array Value) (w : World), (Instr.makeFunc fn first cap).run Tryd.prog w = .ok (.func fn first cap) w := fun _ _ _ _ => rfl
  obtain ⟨gser, gkind, gptrs, graws, gage, gsite, gheld⟩ := g
  unfold Hd.val at *
  simp only at *
  have n2 : 2 ≤ n := by have := f.p0; have := f.r0; simp only at *; omega
  clear hn
  generalize enc _ = m at *
  have hfr0 : A.free 1 = A.free 1 := rfl
  generalize hfr : A.free 1 = fr at *
  have HFR := Lib.hid hfr
  clear hfr hfr0
  go_enter_defers Tryd.func37, Tryd.ntmps37
  go_wp2_with fail
  refine (P.out _ (((Below.refl _ _).alloc (Nat.le_refl _) _).alloc (by simp) _)).mono ?_
  rintro e w1 ⟨rfl, hb⟩
  obtain ⟨H5, H7, hb1, hlt⟩ := kept_new2 hb
  clear hb
  go_wp2_with fail
  refine (I.out _ hb1).mono ?_
  rintro e w2 ⟨rfl, rfl⟩
  obtain ⟨c5, f5⟩ := hcell H5
  go_upto_region 4 with fail
  have KEEP := Lib.hid (fun (W : World) (hb : Below w1.heap.size w1 W) => (⟨(hcell ((hb.block _ (lt_of_heap H5)).trans H5)).1, hb⟩ : (∀ o, W.cell? ⟨w.heap.size, o, none⟩ = (#[.pointer (some ⟨a, 0, none⟩)] : Array Value)[o]?) ∧ Below w1.heap.size w1 W))
  have ZZ := Lib.hid (fun W (hb : Below w1.heap.size w1 W) => (Z.out W (hb1.trans (hb.mono hb1.size))).mono (R' := fun e w' => e = .returned (.int .i64 n) ∧ Below w1.heap.size w1 w') fun e w' ⟨h1, h2⟩ => ⟨h1, hb.trans (h2.mono hb.size)⟩)
  have FF := Lib.hid (fun W (hb : Below w1.heap.size w1 W) => (F.out W (hb1.trans (hb.mono hb1.size))).mono (R' := fun e w' => e = .returned (.int .i64 fr) ∧ Below w1.heap.size w1 w') fun e w' ⟨h1, h2⟩ => ⟨h1, hb.trans (h2.mono hb.size)⟩)
  go_cut [12, 13] from 35 to 38 (fun s s2 wx => s = .int .i64 n ∧ s2 = .int .i64 fr ∧ Below w1.heap.size w1 wx)
  case first =>
    clear f hB hA okA ht eb hb1 H5 H7 I F Z P
    go_region_held3 (fun W => (∀ o, W.cell? ⟨w.heap.size, o, none⟩ = (#[.pointer (some ⟨a, 0, none⟩)] : Array Value)[o]?) ∧ Below w1.heap.size w1 W) (first | exact KEEP.out _ (Below.refl _ _).drew | exact KEEP.out _ (Below.refl _ _) | exact KEEP.out _ (by assumption)) (first | (go_at_call 18; refine (ZZ.out _ ?_).mono ?_; (first | assumption | exact (Below.refl _ _).drew | exact (Below.refl _ _)); rintro e w' ⟨rfl, hb⟩) | (go_at_call 45; refine (FF.out _ ?_).mono ?_; (first | assumption | exact (Below.refl _ _).drew | exact (Below.refl _ _)); rintro e w' ⟨rfl, hb⟩))
    all_goals
      go_wp2_with fail
      go_meet
      exact ⟨rfl, rfl, by assumption⟩
  obtain ⟨rfl, rfl, hb2⟩ := hcut
  clear ZZ FF KEEP
  generalize wc = w2 at *
  replace H5 := (hb2.block _ (lt_of_heap H5)).trans H5
  replace H7 := (hb2.block _ (lt_of_heap H7)).trans H7
  replace hb2 := hb1.trans (hb2.mono hb1.size)
  clear hb1 hlt c5 f5 P I Z F
  have hla := lt_of_heap hA.st
  have hlw := lt_of_heap hA.ws
  have hlb := lt_of_heap hB.st
  have hlr := lt_of_heap hB.rs
  replace hA := hA.below hb2
  replace hB := hB.below hb2
  have hO : True := trivial
  have l5 : w.heap.size + 1 < w2.heap.size := lt_of_heap H7
  have hr := hB.rcell ht
  obtain ⟨hc, hf⟩ := hB.cells
  have ht2 : 0 ≤ t ∧ t < (B.rests.length : Int) := by unfold Bu.is at ht; exact of_decide_eq_true ht
  go_upto_region 11 with fail
  obtain ⟨H14, ho, hs⟩ := allocF5 w2 (.cells #[.pointer (some ⟨rb, t.toNat * 2, none⟩)] 130)
  replace H5 := (ho _ (lt_of_heap H5)).trans H5
  replace H7 := (ho _ (lt_of_heap H7)).trans H7
  have hbb := ((Below.refl w2.heap.size w2).alloc (Nat.le_refl _) (.cells #[.pointer (some ⟨rb, t.toNat * 2, none⟩)] 130))
  replace hA := hA.below hbb
  replace hB := hB.below hbb
  have hb3 := hbb
  have hb4 := hb2.trans (hb3.mono hb2.size)
  clear hb3 hO
  clear hbb hr hc hf
  generalize (w2.alloc (.cells #[.pointer (some ⟨rb, t.toNat * 2, none⟩)] 130)) = w3 at *
  generalize w2.heap.size = p14 at *
  have hr := hB.rcell ht
  obtain ⟨hc, hf⟩ := hB.cells
  obtain ⟨c14, f14⟩ := hcell H14
  have rf := (hcell hB.rs).2
  clear ho
  have d1 : decide (n ≤ (B.rest t).2) = false := by simpa using q1
  have d2 : decide (fr < n) = true := by have := HFR.out; simp; omega
  have hr1 := hr.1
  have hr2 := hr.2
  go_wp2_with fail
  exact ⟨_, results_tmp2 rfl _ _ _, rfl, hb4⟩
set_option maxRecDepth 100000 in
set_option maxHeartbeats 2000000 in
theorem put_big (b rb : Nat) (B : Bu) (a wb : Nat) (A : Ar) (t : Int) (g : Hd) (w : World) (tb : Tab w) (hB : BuAt w b rb B) (hA : ArAt w a wb A) (okA : A.Ok) (ht : B.is t = true) (f : Fine g)
    (n : Int) (hn : n = 2 + g.ptrs + g.raws) (q1 : (B.rest t).2 < n) (q2 : n ≤ A.free 1) (q3 : B.size < n) :
    Calls Tryd.prog 37 #[.pointer (some ⟨b, 0, none⟩), .pointer (some ⟨a, 0, none⟩), .int .i64 t, g.val] w fun e w' => e = .returned (.tuple #[.int .i64 (A.top 1), .bool true]) ∧ ArAt w' a wb (A.lay 1 g) ∧ Only [a, wb] w w' := by
  have PY := Lib.hid (fun W (hb : Below w.heap.size w W) (hA : ArAt W a wb A) => put_yes a wb A 1 g W (tb.below hb) hA okA f rfl (by omega))
  generalize A.lay 1 g = A3 at *
  generalize A.top 1 = tp at *
  have P := Lib.hid (fun W (hb : Below w.heap.size w W) => pack_yes g W (tb.below hb) f)
  have eb := enc_bd f
  have Z := fun W (hb : Below w.heap.size w W) => size_any (enc g) W (tb.below hb) eb.1 (by omega)
  rw [sizeW_enc f, ← hn] at Z
  replace Z := Lib.hid Z
  have I := fun W (hb : Below w.heap.size w W) => is_buf b rb B t W (hB.below hb)
  rw [ht] at I
  replace I := Lib.hid I
  have F := Lib.hid (fun W (hb : Below w.heap.size w W) => free_any a wb A 1 W (hA.below hb) okA)
  have hmf : ∀ (fn : Fn) (first cap : Array Value) (w : World), (Instr.makeFunc fn first cap).run Tryd.prog w = .ok (.func fn first cap) w := fun _ _ _ _ => rfl
  obtain ⟨gser, gkind, gptrs, graws, gage, gsite, gheld⟩ := g
  unfold Hd.val at *
  simp only at *
  have n2 : 2 ≤ n := by have := f.p0; have := f.r0; simp only at *; omega
  clear hn
  generalize enc _ = m at *
  have hfr0 : A.free 1 = A.free 1 := rfl
  generalize hfr : A.free 1 = fr at *
  have HFR := Lib.hid hfr
  clear hfr hfr0
  go_enter_defers Tryd.func37, Tryd.ntmps37
  go_wp2_with fail
  refine (P.out _ (((Below.refl _ _).alloc (Nat.le_refl _) _).alloc (by simp) _)).mono ?_
  rintro e w1 ⟨rfl, hb⟩
  obtain ⟨H5, H7, hb1, hlt⟩ := kept_new2 hb
  clear hb
  go_wp2_with fail
  refine (I.out _ hb1).mono ?_
  rintro e w2 ⟨rfl, rfl⟩
  obtain ⟨c5, f5⟩ := hcell H5
  go_upto_region 4 with fail
  have KEEP := Lib.hid (fun (W : World) (hb : Below w1.heap.size w1 W) => (⟨(hcell ((hb.block _ (lt_of_heap H5)).trans H5)).1, hb⟩ : (∀ o, W.cell? ⟨w.heap.size, o, none⟩ = (#[.pointer (some ⟨a, 0, none⟩)] : Array Value)[o]?) ∧ Below w1.heap.size w1 W))
  have ZZ := Lib.hid (fun W (hb : Below w1.heap.size w1 W) => (Z.out W (hb1.trans (hb.mono hb1.size))).mono (R' := fun e w' => e = .returned (.int .i64 n) ∧ Below w1.heap.size w1 w') fun e w' ⟨h1, h2⟩ => ⟨h1, hb.trans (h2.mono hb.size)⟩)
  have FF := Lib.hid (fun W (hb : Below w1.heap.size w1 W) => (F.out W (hb1.trans (hb.mono hb1.size))).mono (R' := fun e w' => e = .returned (.int .i64 fr) ∧ Below w1.heap.size w1 w') fun e w' ⟨h1, h2⟩ => ⟨h1, hb.trans (h2.mono hb.size)⟩)
  go_cut [12, 13] from 35 to 38 (fun s s2 wx => s = .int .i64 n ∧ s2 = .int .i64 fr ∧ Below w1.heap.size w1 wx)
  case first =>
    clear f hB hA okA ht eb hb1 H5 H7 I F Z P
    go_region_held3 (fun W => (∀ o, W.cell? ⟨w.heap.size, o, none⟩ = (#[.pointer (some ⟨a, 0, none⟩)] : Array Value)[o]?) ∧ Below w1.heap.size w1 W) (first | exact KEEP.out _ (Below.refl _ _).drew | exact KEEP.out _ (Below.refl _ _) | exact KEEP.out _ (by assumption)) (first | (go_at_call 18; refine (ZZ.out _ ?_).mono ?_; (first | assumption | exact (Below.refl _ _).drew | exact (Below.refl _ _)); rintro e w' ⟨rfl, hb⟩) | (go_at_call 45; refine (FF.out _ ?_).mono ?_; (first | assumption | exact (Below.refl _ _).drew | exact (Below.refl _ _)); rintro e w' ⟨rfl, hb⟩))
    all_goals
      go_wp2_with fail
      go_meet
      exact ⟨rfl, rfl, by assumption⟩
  obtain ⟨rfl, rfl, hb2⟩ := hcut
  clear ZZ FF KEEP
  generalize wc = w2 at *
  replace H5 := (hb2.block _ (lt_of_heap H5)).trans H5
  replace H7 := (hb2.block _ (lt_of_heap H7)).trans H7
  replace hb2 := hb1.trans (hb2.mono hb1.size)
  clear hb1 hlt c5 f5 P I Z F
  have hla := lt_of_heap hA.st
  have hlw := lt_of_heap hA.ws
  have hlb := lt_of_heap hB.st
  have hlr := lt_of_heap hB.rs
  replace hA := hA.below hb2
  replace hB := hB.below hb2
  have hO : True := trivial
  have l5 : w.heap.size + 1 < w2.heap.size := lt_of_heap H7
  have hr := hB.rcell ht
  obtain ⟨hc, hf⟩ := hB.cells
  have ht2 : 0 ≤ t ∧ t < (B.rests.length : Int) := by unfold Bu.is at ht; exact of_decide_eq_true ht
  go_upto_region 11 with fail
  obtain ⟨H14, ho, hs⟩ := allocF5 w2 (.cells #[.pointer (some ⟨rb, t.toNat * 2, none⟩)] 130)
  replace H5 := (ho _ (lt_of_heap H5)).trans H5
  replace H7 := (ho _ (lt_of_heap H7)).trans H7
  have hbb := ((Below.refl w2.heap.size w2).alloc (Nat.le_refl _) (.cells #[.pointer (some ⟨rb, t.toNat * 2, none⟩)] 130))
  replace hA := hA.below hbb
  replace hB := hB.below hbb
  have hb3 := hbb
  have hb4 := hb2.trans (hb3.mono hb2.size)
  clear hb3 hO
  clear hbb hr hc hf
  generalize (w2.alloc (.cells #[.pointer (some ⟨rb, t.toNat * 2, none⟩)] 130)) = w3 at *
  generalize w2.heap.size = p14 at *
  have hr := hB.rcell ht
  obtain ⟨hc, hf⟩ := hB.cells
  obtain ⟨c14, f14⟩ := hcell H14
  have rf := (hcell hB.rs).2
  clear ho
  have d1 : decide (n ≤ (B.rest t).2) = false := by simpa using q1
  have d2 : decide (fr < n) = false := by have := HFR.out; simp; omega
  have d3 : decide (B.size < n) = true := by simpa using q3
  have hr1 := hr.1
  have hr2 := hr.2
  obtain ⟨c5, f5⟩ := hcell H5
  obtain ⟨c7, f7⟩ := hcell H7
  go_wp2_with fail
  refine (PY.out _ (hb4) hA).mono ?_
  rintro e w4 ⟨rfl, hA4, hO4⟩
  go_wp2_with fail
  exact ⟨_, results_tmp2 rfl _ _ _, rfl, hA4, (Only.of_below (hb4)).trans hO4⟩
end Go.Proofs.YtomgfdfgildkbaaDoor
