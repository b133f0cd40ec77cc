/- The walk of BufferAll. -/
import Derived.Test.YtomgfdfgildkbaaDoorGk
import Derived.Test.YtomgfdfgildkbaaDoorGl
import Derived.Test.YtomgfdfgildkbaaDoorGm
namespace Go.Proofs.YtomgfdfgildkbaaDoor
open Go.RowKit Go.BigFrame
set_option linter.unusedVariables false

def cl0 : Cl := ⟨0, 0, nohd, 0, 0, 0⟩
/-- A script that came in. -/
def ClsAt (w : World) (v : Value) (l : List Cl) : Prop :=
  ∃ p cap, v = .slice p l.length cap ∧ ∀ i, i < l.length → ∃ b off, p = some ⟨b, off, none⟩ ∧ ∀ j, j < 12 → w.cell? ⟨b, off + i * 12 + j, none⟩ = (l.getD i cl0).cells[j]?
theorem ClsAt.below {w w' : World} {v : Value} {l : List Cl} (h : ClsAt w v l) (hb : Below w.heap.size w w') : ClsAt w' v l := by
  obtain ⟨p, cap, hv, hc⟩ := h
  refine ⟨p, cap, hv, fun i hi => ?_⟩
  obtain ⟨b, off, hp, hx⟩ := hc i hi
  refine ⟨b, off, hp, fun j hj => ?_⟩
  have h1 := hx j hj
  have h2 : ∃ u, (l.getD i cl0).cells[j]? = some u := ⟨_, Array.getElem?_eq_getElem (show j < (l.getD i cl0).cells.size by simpa [Cl.cells] using hj)⟩
  obtain ⟨u, hu⟩ := h2
  rw [hu] at h1 ⊢
  exact (hb.cell (p := ⟨b, off + i * 12 + j, none⟩) (World.block_lt_of_cell? w ⟨b, off + i * 12 + j, none⟩ h1)).trans h1

set_option maxRecDepth 100000 in
set_option maxHeartbeats 16000000 in
theorem bufferAll_yes (c : Cfg) (th sz : Int) (v : Value) (l : List Cl) (w : World) (tb0 : Tab w) (hv : ClsAt w v l) (hbd : ∀ o ∈ l, o.Bd) (hl : (l.length : Int) ≤ 9223372036854775807) (h1 : 1 ≤ th) (h2 : th ≤ 8) (h3 : 0 ≤ sz) (h4 : sz ≤ 65536) : Calls Tryd.prog 13 #[c.val, .int .i64 th, .int .i64 sz, v] w fun e w' => e = .returned (.bool true) ∧ Below w.heap.size w w' := by
  have tb := Lib.hid tb0
  have CF := Lib.hid (fun (W : World) => config13_any c W)
  have NA := Lib.hid (fun (c' : Cfg) (hc : c'.valid = true) (W : World) => new_yes c' W hc)
  have NR := Lib.hid (fun (c' : Cfg) (hc : c'.valid = true) (W : World) => rnew_yes c' W hc)
  have NB := Lib.hid (fun (W : World) => bufNew_yes th sz W h1 h2 h3 h4)
  have NV := Lib.hid (fun (W : World) => rbNew_yes th sz W h1 h2 h3 h4)
  obtain ⟨pv, cap, rfl, hcells⟩ := hv
  have HV := Lib.hid (fun (W : World) (hb : Below w.heap.size w W) => ClsAt.below ⟨pv, cap, rfl, hcells⟩ hb)
  have HBD := Lib.hid hbd
  clear tb0 hcells hbd
  obtain ⟨q0, q1, q2, q3, q4, q5, q6, q7, q8, q9, q10, q11, q12, q13⟩ := c
  unfold Cfg.val Cfg.cells at CF ⊢
  simp only at CF ⊢
  have hX := heap_one w (.cells #[.int .i64 q0, .int .i64 q1, .int .i64 q2, .int .i64 q3, .int .i64 q4, .int .i64 q5, .int .i64 q6, .int .i64 q7, .int .i64 q8, .int .i64 q9, .int .i64 q10, .int .i64 q11, .int .i64 q12, .int .i64 q13] 45)
  have hb := (Below.refl w.heap.size w).alloc (Nat.le_refl _) (.cells #[.int .i64 q0, .int .i64 q1, .int .i64 q2, .int .i64 q3, .int .i64 q4, .int .i64 q5, .int .i64 q6, .int .i64 q7, .int .i64 q8, .int .i64 q9, .int .i64 q10, .int .i64 q11, .int .i64 q12, .int .i64 q13] 45)
  go_enter Tryd.func13, Tryd.ntmps13
  go_upto_region 1 with fail
  generalize w.alloc (.cells #[.int .i64 q0, .int .i64 q1, .int .i64 q2, .int .i64 q3, .int .i64 q4, .int .i64 q5, .int .i64 q6, .int .i64 q7, .int .i64 q8, .int .i64 q9, .int .i64 q10, .int .i64 q11, .int .i64 q12, .int .i64 q13] 45) = w1 at *
  obtain ⟨cX, fX⟩ := hcell hX
  go_wp2_with fail
  refine (CF.out _).mono ?_
  rintro e w2 ⟨⟨p0, p1, p2, p3, p4, p5, p6, p7, p8, p9, p10, p11, p12, p13⟩, rfl, hv, hq⟩
  have hX2 := (hq.block _ (lt_of_heap hX)).trans hX
  have b2 := hb.trans (hq.mono hb.size)
  clear cX fX hX hq CF hb
  obtain ⟨cX, fX⟩ := hcell hX2
  have hX3 := set14 hX2 (.int .i64 p0) (.int .i64 p1) (.int .i64 p2) (.int .i64 p3) (.int .i64 p4) (.int .i64 p5) (.int .i64 p6) (.int .i64 p7) (.int .i64 p8) (.int .i64 p9) (.int .i64 p10) (.int .i64 p11) (.int .i64 p12) (.int .i64 p13)
  have b3 := Below.setCell (p := ⟨w.heap.size, 13, none⟩) (Below.setCell (p := ⟨w.heap.size, 12, none⟩) (Below.setCell (p := ⟨w.heap.size, 11, none⟩) (Below.setCell (p := ⟨w.heap.size, 10, none⟩) (Below.setCell (p := ⟨w.heap.size, 9, none⟩) (Below.setCell (p := ⟨w.heap.size, 8, none⟩) (Below.setCell (p := ⟨w.heap.size, 7, none⟩) (Below.setCell (p := ⟨w.heap.size, 6, none⟩) (Below.setCell (p := ⟨w.heap.size, 5, none⟩) (Below.setCell (p := ⟨w.heap.size, 4, none⟩) (Below.setCell (p := ⟨w.heap.size, 3, none⟩) (Below.setCell (p := ⟨w.heap.size, 2, none⟩) (Below.setCell (p := ⟨w.heap.size, 1, none⟩) (Below.setCell (p := ⟨w.heap.size, 0, none⟩) (b2) (Nat.le_refl _) (.int .i64 p0)) (Nat.le_refl _) (.int .i64 p1)) (Nat.le_refl _) (.int .i64 p2)) (Nat.le_refl _) (.int .i64 p3)) (Nat.le_refl _) (.int .i64 p4)) (Nat.le_refl _) (.int .i64 p5)) (Nat.le_refl _) (.int .i64 p6)) (Nat.le_refl _) (.int .i64 p7)) (Nat.le_refl _) (.int .i64 p8)) (Nat.le_refl _) (.int .i64 p9)) (Nat.le_refl _) (.int .i64 p10)) (Nat.le_refl _) (.int .i64 p11)) (Nat.le_refl _) (.int .i64 p12)) (Nat.le_refl _) (.int .i64 p13)
  have NA1 := Lib.hid (NA.out ⟨p0, p1, p2, p3, p4, p5, p6, p7, p8, p9, p10, p11, p12, p13⟩ hv)
  have NR1 := Lib.hid (NR.out ⟨p0, p1, p2, p3, p4, p5, p6, p7, p8, p9, p10, p11, p12, p13⟩ hv)
  have OKA := Lib.hid (Ar.new_ok hv)
  clear NA NR hv
  generalize Ar.new ⟨p0, p1, p2, p3, p4, p5, p6, p7, p8, p9, p10, p11, p12, p13⟩ = A0 at *
  go_upto_region 2 with fail
  generalize ((((((((((((((w2.setCell ⟨w.heap.size, 0, none⟩ (.int .i64 p0)).setCell ⟨w.heap.size, 1, none⟩ (.int .i64 p1)).setCell ⟨w.heap.size, 2, none⟩ (.int .i64 p2)).setCell ⟨w.heap.size, 3, none⟩ (.int .i64 p3)).setCell ⟨w.heap.size, 4, none⟩ (.int .i64 p4)).setCell ⟨w.heap.size, 5, none⟩ (.int .i64 p5)).setCell ⟨w.heap.size, 6, none⟩ (.int .i64 p6)).setCell ⟨w.heap.size, 7, none⟩ (.int .i64 p7)).setCell ⟨w.heap.size, 8, none⟩ (.int .i64 p8)).setCell ⟨w.heap.size, 9, none⟩ (.int .i64 p9)).setCell ⟨w.heap.size, 10, none⟩ (.int .i64 p10)).setCell ⟨w.heap.size, 11, none⟩ (.int .i64 p11)).setCell ⟨w.heap.size, 12, none⟩ (.int .i64 p12)).setCell ⟨w.heap.size, 13, none⟩ (.int .i64 p13)) = w3 at *
  clear cX fX hX2 b2
  obtain ⟨cX, fX⟩ := hcell hX3
  unfold Cfg.val Cfg.cells at NA1 NR1
  simp only at NA1 NR1
  go_wp2_with fail
  refine (NA1.out _).mono ?_
  rintro e w4 ⟨a, wb, rfl, hA, a1, a2, hq⟩
  have hX4 := (hq.block _ (lt_of_heap hX3)).trans hX3
  have b4 := b3.trans (hq.mono b3.size)
  have s3 := b3.size
  clear cX fX hX3 hq b3 NA1
  obtain ⟨cX, fX⟩ := hcell hX4
  go_wp2_with fail
  refine (NR1.out _).mono ?_
  rintro e w5 ⟨r, cs, rfl, hR, r1, r2, hq⟩
  have hA5 := hA.below hq
  have b5 := b4.trans (hq.mono b4.size)
  have s4 := b4.size
  have la := lt_of_heap hA.st
  have lw := lt_of_heap hA.ws
  clear cX fX hX4 hq b4 NR1 hA
  go_wp2_with fail
  refine (NB.out _).mono ?_
  rintro e w6 ⟨b, rb, rfl, hB, c1, c2, hq⟩
  have hA6 := hA5.below hq
  have hR6 := hR.below hq
  have b6 := b5.trans (hq.mono b5.size)
  have s5 := b5.size
  have LT := hR.lt
  have lb := lt_of_heap hB.st
  have lrb := lt_of_heap hB.rs
  have la5 := lt_of_heap hA5.st
  have lw5 := lt_of_heap hA5.ws
  clear hq b5 NB hA5 hR
  go_wp2_with fail
  refine (NV.out _).mono ?_
  rintro e w7 ⟨v, ab, sb, rfl, hV, d1, d2, d3, hq⟩
  have hA7 := hA6.below hq
  have hR7 := hR6.below hq
  have hB7 := hB.below hq
  have b7 := b6.trans (hq.mono b6.size)
  have s6 := b6.size
  clear hq b6 NV hA6 hR6 hB
  have hge : ∀ j ∈ rfp r cs, w4.heap.size ≤ j := fun j hj => by
    simp only [rfp, List.mem_cons, List.not_mem_nil, or_false] at hj
    rcases hj with rfl | rfl | rfl | rfl | rfl
    · exact r1
    · exact r2 1 rfl
    · exact r2 2 rfl
    · exact r2 3 rfl
    · exact r2 4 rfl
  have hN := (Below.refl w7.heap.size w7).alloc (Nat.le_refl _) (.cells #[.pointer (some ⟨a, 0, none⟩), .pointer (some ⟨b, 0, none⟩), .pointer (some ⟨r, 0, none⟩), .pointer (some ⟨v, 0, none⟩), .slice none 0 0] 111)
  have hH : Hf (w7.alloc (.cells #[.pointer (some ⟨a, 0, none⟩), .pointer (some ⟨b, 0, none⟩), .pointer (some ⟨r, 0, none⟩), .pointer (some ⟨v, 0, none⟩), .slice none 0 0] 111)) w7.heap.size ⟨a, wb, b, rb, r, cs, v, ab, sb⟩ (Bu.new th sz) A0 (Bu.new th sz) A0 [] (.slice none 0 0) w.heap.size := by
    refine ⟨heap_one w7 _, ⟨hB7.below hN, hA7.below hN, Bu.new_ok h1 h2 h3 h4, OKA.out, ⟨?_, ?_, ?_, ?_⟩⟩, hV.below hN, hR7.below hN, Bu.new_ok h1 h2 h3 h4, OKA.out, World.ownsRow_nil _ _ _ _, fun hm => ?_, by simp [Value.ownBlock], by simp [Value.ownBlock], b7.size, fun j hj => ?_⟩
    · show b ≠ a; omega
    · show b ≠ wb; omega
    · show rb ≠ a; omega
    · show rb ≠ wb; omega
    · have := hge wb hm; omega
    · simp only [Ad.all, Ad.s1, Ad.s2, List.cons_append, List.nil_append, List.mem_cons] at hj
      rcases hj with rfl | rfl | rfl | rfl | rfl | rfl | rfl | hj
      · omega
      · omega
      · omega
      · omega
      · omega
      · omega
      · omega
      · have := hge j hj; omega
  have hI : Inv (Bu.new th sz) A0 [] := ⟨RestsIn.new th sz A0, by
    have e : sumR (Bu.new th sz) = 0 := by have q := sumR_retire (Bu.new th sz); rwa [show (Bu.new th sz).retire = Bu.new th sz by simp [Bu.retire, Bu.new]] at q
    rw [e]; have := OKA.out.a1; have e2 : A0.top 1 = A0.t1 := by simp [Ar.top]
    simp; omega⟩
  have AF := Lib.hid (⟨_, _, _, _, hH, hI, b7.alloc b7.size _⟩ : After w7.heap.size ⟨a, wb, b, rb, r, cs, v, ab, sb⟩ w.heap.size w (w7.alloc (.cells #[.pointer (some ⟨a, 0, none⟩), .pointer (some ⟨b, 0, none⟩), .pointer (some ⟨r, 0, none⟩), .pointer (some ⟨v, 0, none⟩), .slice none 0 0] 111)))
  clear hH hI hN hA7 hR7 hB7 hV hge LT d1 d2 d3 c1 c2 r1 r2 a1 a2 la lw lb lrb la5 lw5 OKA b7 s3 s4 s5 s6
  go_upto_region 11 with fail
  generalize w7.alloc (.cells #[.pointer (some ⟨a, 0, none⟩), .pointer (some ⟨b, 0, none⟩), .pointer (some ⟨r, 0, none⟩), .pointer (some ⟨v, 0, none⟩), .slice none 0 0] 111) = w8 at *
  generalize w7.heap.size = p at *
  generalize hk : (⟨a, wb, b, rb, r, cs, v, ab, sb⟩ : Ad) = k at *
  have HKA := Lib.hid (show k.a = a ∧ k.r = r by rw [← hk]; exact ⟨rfl, rfl⟩)
  clear hk
  have PL := Lib.hid (fun (o : Cl) (bd : o.Bd) (W : World) (h : After p k w.heap.size w W) => (by
    obtain ⟨B, A, L, atv, hH, hI, hb⟩ := h
    exact (plays_any p k B A L atv w.heap.size o W (tb.out.below hb) hH hI bd).mono fun e w' ⟨h1, h2⟩ => by
      obtain ⟨B', A', L', atv', hH', hI', hb'⟩ := h2
      exact ⟨h1, B', A', L', atv', hH', hI', hb.trans hb'⟩ : Calls Tryd.prog 72 #[.pointer (some ⟨p, 0, none⟩), o.val] W fun e w' => e = .returned (.bool true) ∧ After p k w.heap.size w w'))
  have AB := Lib.hid (fun (W : World) (h : After p k w.heap.size w W) => (by obtain ⟨B, A, L, atv, hH, hI, hb⟩ := h; exact hb : Below w.heap.size w W))
  have AL := Lib.hid (fun (W : World) (h : After p k w.heap.size w W) => (by
    obtain ⟨B, A, L, atv, hH, hI, hb⟩ := h
    have q := alike_any k.a k.wb k.r k.c A W (tb.out.below hb) hH.pr.hA hH.rf hH.okA
    rw [HKA.out.1, HKA.out.2] at q
    exact q.mono fun e w' ⟨h1, h2⟩ => ⟨h1, hb.trans (h2.mono hb.size)⟩ : Calls Tryd.prog 73 #[.pointer (some ⟨a, 0, none⟩), .pointer (some ⟨r, 0, none⟩)] W fun e w' => e = .returned (.bool true) ∧ Below w.heap.size w w'))
  go_wp2_with fail
  go_loopw [18] (fun iv wx => ∃ i : Nat, i ≤ l.length ∧ iv = .int .i64 i ∧ After p k w.heap.size w wx) (fun iv _ => l.length - (intOf iv).toNat)
  case atStart => exact ⟨0, Nat.zero_le _, rfl, AF.out⟩
  case round =>
    obtain ⟨i, hi, rfl, hAf⟩ := hrel
    by_cases hlt : i < l.length
    · have dlt : decide ((i : Int) < (l.length : Int)) = true := by simpa using hlt
      obtain ⟨p', cap', he, hce⟩ := HV.out wr (AB.out _ hAf)
      cases he
      obtain ⟨bb, off, rfl, hce⟩ := hce i hlt
      have hbk := HBD.out (l.getD i cl0) (by rw [List.getD_eq_getElem?_getD, List.getElem?_eq_getElem hlt]; exact List.getElem_mem hlt)
      generalize l.getD i cl0 = o at *
      have PLo := Lib.hid (PL.out o hbk wr hAf)
      obtain ⟨o0, o1, ⟨x0, x1, x2, x3, x4, x5, x6⟩, o2, o3, o4⟩ := o
      unfold Cl.val Cl.cells at PLo
      simp only at PLo
      have k0 : (0 : Int) ≤ (i : Int) := Int.natCast_nonneg _
      have k1 : (i : Int) < (l.length : Int) := by omega
      have z0 : wr.cell? ⟨bb, off + i * 12, none⟩ = some (.int .i64 o0) := hce 0 (by decide)
      have z1 : wr.cell? ⟨bb, off + i * 12 + 1, none⟩ = some (.int .i64 o1) := hce 1 (by decide)
      have z2 : wr.cell? ⟨bb, off + i * 12 + 2, none⟩ = some (.int .u64 x0) := hce 2 (by decide)
      have z3 : wr.cell? ⟨bb, off + i * 12 + 3, none⟩ = some (.int .i64 x1) := hce 3 (by decide)
      have z4 : wr.cell? ⟨bb, off + i * 12 + 4, none⟩ = some (.int .i64 x2) := hce 4 (by decide)
      have z5 : wr.cell? ⟨bb, off + i * 12 + 5, none⟩ = some (.int .i64 x3) := hce 5 (by decide)
      have z6 : wr.cell? ⟨bb, off + i * 12 + 6, none⟩ = some (.int .i64 x4) := hce 6 (by decide)
      have z7 : wr.cell? ⟨bb, off + i * 12 + 7, none⟩ = some (.int .i64 x5) := hce 7 (by decide)
      have z8 : wr.cell? ⟨bb, off + i * 12 + 8, none⟩ = some (.bool x6) := hce 8 (by decide)
      have z9 : wr.cell? ⟨bb, off + i * 12 + 9, none⟩ = some (.int .i64 o2) := hce 9 (by decide)
      have z10 : wr.cell? ⟨bb, off + i * 12 + 10, none⟩ = some (.int .i64 o3) := hce 10 (by decide)
      have z11 : wr.cell? ⟨bb, off + i * 12 + 11, none⟩ = some (.int .u64 o4) := hce 11 (by decide)
      clear hce PL AL
      go_wp2_with fail
      refine PLo.out.mono ?_
      rintro e w9 ⟨rfl, hA9⟩
      go_wp2_with fail
      exact ⟨⟨i + 1, by omega, by go_num, hA9⟩, by simp [intOf]; omega⟩
    · have dlt : decide ((i : Int) < (l.length : Int)) = false := by simpa using hlt
      clear HV HBD
      go_wp2_with fail
      go_loopw [19] (fun iv wx => ∃ j : Int, 0 ≤ j ∧ j ≤ th ∧ iv = .int .i64 j ∧ After p k w.heap.size w wx) (fun iv _ => (th - intOf iv).toNat)
      case atStart => exact ⟨0, by decide, by omega, rfl, hAf⟩
      case round =>
        obtain ⟨j, j0, j1, rfl, hAj⟩ := hrel
        by_cases hjl : j < th
        · have djl : decide (j < th) = true := by simpa using hjl
          have P1 := Lib.hid (fun (W : World) (h : After p k w.heap.size w W) => PL.out ⟨3, j, ⟨0, 0, 0, 0, 0, 0, false⟩, 0, 0, 0⟩ ⟨show (-9223372036854775808 : Int) ≤ 0 ∧ (0 : Int) < 9223372036854775808 from by decide, show (0 : Int) ≤ 0 ∧ (0 : Int) < 18446744073709551616 from by decide, show (0 : Int) ≤ 0 ∧ (0 : Int) < 18446744073709551616 from by decide⟩ W h)
          have P2 := Lib.hid (fun (W : World) (h : After p k w.heap.size w W) => PL.out ⟨2, j, ⟨0, 0, 0, 0, 0, 0, false⟩, 0, 0, 0⟩ ⟨show (-9223372036854775808 : Int) ≤ 0 ∧ (0 : Int) < 9223372036854775808 from by decide, show (0 : Int) ≤ 0 ∧ (0 : Int) < 18446744073709551616 from by decide, show (0 : Int) ≤ 0 ∧ (0 : Int) < 18446744073709551616 from by decide⟩ W h)
          unfold Cl.val Cl.cells at P1 P2
          simp only at P1 P2
          clear PL AL
          go_wp2_with fail
          refine (P1.out _ hAj).mono ?_
          rintro e w9 ⟨rfl, hA9⟩
          go_wp2_with fail
          refine (P2.out _ hA9).mono ?_
          rintro e w10 ⟨rfl, hA10⟩
          go_wp2_with fail
          exact ⟨⟨j + 1, by omega, by omega, rfl, hA10⟩, by simp [intOf]; omega⟩
        · have djl : decide (j < th) = false := by simpa using hjl
          clear PL
          go_wp2_with fail
          refine (AL.out _ hAj).mono ?_
          rintro e w9 ⟨rfl, hb9⟩
          go_wp2_with fail
          go_ret
          exact ⟨rfl, hb9⟩

set_option maxRecDepth 100000 in
set_option maxHeartbeats 16000000 in
theorem bufferAll_no (c : Cfg) (th sz : Int) (v : Value) (l : List Cl) (w : World) (tb0 : Tab w) (hv : ClsAt w v l) (hbd : ∀ o ∈ l, o.Bd) (hn : ¬ (1 ≤ th ∧ th ≤ 8 ∧ 0 ≤ sz ∧ sz ≤ 65536)) : Calls Tryd.prog 13 #[c.val, .int .i64 th, .int .i64 sz, v] w fun e w' => e = .returned (.bool true) ∧ Below w.heap.size w w' := by
  have tb := Lib.hid tb0
  have CF := Lib.hid (fun (W : World) => config13_any c W)
  have NA := Lib.hid (fun (c' : Cfg) (hc : c'.valid = true) (W : World) => new_yes c' W hc)
  have NR := Lib.hid (fun (c' : Cfg) (hc : c'.valid = true) (W : World) => rnew_yes c' W hc)
  have NB := Lib.hid (fun (W : World) => bufNew_no th sz W hn)
  have NV := Lib.hid (fun (W : World) => rbNew_no th sz W hn)
  obtain ⟨pv, cap, rfl, hcells⟩ := hv
  have HV := Lib.hid (fun (W : World) (hb : Below w.heap.size w W) => ClsAt.below ⟨pv, cap, rfl, hcells⟩ hb)
  have HBD := Lib.hid hbd
  clear tb0 hcells hbd hn
  obtain ⟨q0, q1, q2, q3, q4, q5, q6, q7, q8, q9, q10, q11, q12, q13⟩ := c
  unfold Cfg.val Cfg.cells at CF ⊢
  simp only at CF ⊢
  have hX := heap_one w (.cells #[.int .i64 q0, .int .i64 q1, .int .i64 q2, .int .i64 q3, .int .i64 q4, .int .i64 q5, .int .i64 q6, .int .i64 q7, .int .i64 q8, .int .i64 q9, .int .i64 q10, .int .i64 q11, .int .i64 q12, .int .i64 q13] 45)
  have hb := (Below.refl w.heap.size w).alloc (Nat.le_refl _) (.cells #[.int .i64 q0, .int .i64 q1, .int .i64 q2, .int .i64 q3, .int .i64 q4, .int .i64 q5, .int .i64 q6, .int .i64 q7, .int .i64 q8, .int .i64 q9, .int .i64 q10, .int .i64 q11, .int .i64 q12, .int .i64 q13] 45)
  go_enter Tryd.func13, Tryd.ntmps13
  go_upto_region 1 with fail
  generalize w.alloc (.cells #[.int .i64 q0, .int .i64 q1, .int .i64 q2, .int .i64 q3, .int .i64 q4, .int .i64 q5, .int .i64 q6, .int .i64 q7, .int .i64 q8, .int .i64 q9, .int .i64 q10, .int .i64 q11, .int .i64 q12, .int .i64 q13] 45) = w1 at *
  obtain ⟨cX, fX⟩ := hcell hX
  go_wp2_with fail
  refine (CF.out _).mono ?_
  rintro e w2 ⟨⟨p0, p1, p2, p3, p4, p5, p6, p7, p8, p9, p10, p11, p12, p13⟩, rfl, hv, hq⟩
  have hX2 := (hq.block _ (lt_of_heap hX)).trans hX
  have b2 := hb.trans (hq.mono hb.size)
  clear cX fX hX hq CF hb
  obtain ⟨cX, fX⟩ := hcell hX2
  have hX3 := set14 hX2 (.int .i64 p0) (.int .i64 p1) (.int .i64 p2) (.int .i64 p3) (.int .i64 p4) (.int .i64 p5) (.int .i64 p6) (.int .i64 p7) (.int .i64 p8) (.int .i64 p9) (.int .i64 p10) (.int .i64 p11) (.int .i64 p12) (.int .i64 p13)
  have b3 := Below.setCell (p := ⟨w.heap.size, 13, none⟩) (Below.setCell (p := ⟨w.heap.size, 12, none⟩) (Below.setCell (p := ⟨w.heap.size, 11, none⟩) (Below.setCell (p := ⟨w.heap.size, 10, none⟩) (Below.setCell (p := ⟨w.heap.size, 9, none⟩) (Below.setCell (p := ⟨w.heap.size, 8, none⟩) (Below.setCell (p := ⟨w.heap.size, 7, none⟩) (Below.setCell (p := ⟨w.heap.size, 6, none⟩) (Below.setCell (p := ⟨w.heap.size, 5, none⟩) (Below.setCell (p := ⟨w.heap.size, 4, none⟩) (Below.setCell (p := ⟨w.heap.size, 3, none⟩) (Below.setCell (p := ⟨w.heap.size, 2, none⟩) (Below.setCell (p := ⟨w.heap.size, 1, none⟩) (Below.setCell (p := ⟨w.heap.size, 0, none⟩) (b2) (Nat.le_refl _) (.int .i64 p0)) (Nat.le_refl _) (.int .i64 p1)) (Nat.le_refl _) (.int .i64 p2)) (Nat.le_refl _) (.int .i64 p3)) (Nat.le_refl _) (.int .i64 p4)) (Nat.le_refl _) (.int .i64 p5)) (Nat.le_refl _) (.int .i64 p6)) (Nat.le_refl _) (.int .i64 p7)) (Nat.le_refl _) (.int .i64 p8)) (Nat.le_refl _) (.int .i64 p9)) (Nat.le_refl _) (.int .i64 p10)) (Nat.le_refl _) (.int .i64 p11)) (Nat.le_refl _) (.int .i64 p12)) (Nat.le_refl _) (.int .i64 p13)
  have NA1 := Lib.hid (NA.out ⟨p0, p1, p2, p3, p4, p5, p6, p7, p8, p9, p10, p11, p12, p13⟩ hv)
  have NR1 := Lib.hid (NR.out ⟨p0, p1, p2, p3, p4, p5, p6, p7, p8, p9, p10, p11, p12, p13⟩ hv)
  have OKA := Lib.hid (Ar.new_ok hv)
  clear NA NR hv
  generalize Ar.new ⟨p0, p1, p2, p3, p4, p5, p6, p7, p8, p9, p10, p11, p12, p13⟩ = A0 at *
  go_upto_region 2 with fail
  generalize ((((((((((((((w2.setCell ⟨w.heap.size, 0, none⟩ (.int .i64 p0)).setCell ⟨w.heap.size, 1, none⟩ (.int .i64 p1)).setCell ⟨w.heap.size, 2, none⟩ (.int .i64 p2)).setCell ⟨w.heap.size, 3, none⟩ (.int .i64 p3)).setCell ⟨w.heap.size, 4, none⟩ (.int .i64 p4)).setCell ⟨w.heap.size, 5, none⟩ (.int .i64 p5)).setCell ⟨w.heap.size, 6, none⟩ (.int .i64 p6)).setCell ⟨w.heap.size, 7, none⟩ (.int .i64 p7)).setCell ⟨w.heap.size, 8, none⟩ (.int .i64 p8)).setCell ⟨w.heap.size, 9, none⟩ (.int .i64 p9)).setCell ⟨w.heap.size, 10, none⟩ (.int .i64 p10)).setCell ⟨w.heap.size, 11, none⟩ (.int .i64 p11)).setCell ⟨w.heap.size, 12, none⟩ (.int .i64 p12)).setCell ⟨w.heap.size, 13, none⟩ (.int .i64 p13)) = w3 at *
  clear cX fX hX2 b2
  obtain ⟨cX, fX⟩ := hcell hX3
  unfold Cfg.val Cfg.cells at NA1 NR1
  simp only at NA1 NR1
  go_wp2_with fail
  refine (NA1.out _).mono ?_
  rintro e w4 ⟨a, wb, rfl, hA, a1, a2, hq⟩
  have hX4 := (hq.block _ (lt_of_heap hX3)).trans hX3
  have b4 := b3.trans (hq.mono b3.size)
  have s3 := b3.size
  clear cX fX hX3 hq b3 NA1
  obtain ⟨cX, fX⟩ := hcell hX4
  go_wp2_with fail
  refine (NR1.out _).mono ?_
  rintro e w5 ⟨r, cs, rfl, hR, r1, r2, hq⟩
  have hA5 := hA.below hq
  have b5 := b4.trans (hq.mono b4.size)
  have s4 := b4.size
  have la := lt_of_heap hA.st
  have lw := lt_of_heap hA.ws
  clear cX fX hX4 hq b4 NR1 hA
  go_wp2_with fail
  refine (NB.out _).mono ?_
  rintro e w6 ⟨rfl, rfl⟩
  go_wp2_with fail
  refine (NV.out _).mono ?_
  rintro e w7 ⟨rfl, rfl⟩
  clear hA5 hR
  go_wp2_with fail
  go_ret
  exact ⟨rfl, b5⟩

theorem bufferAll_walk (c : Cfg) (th sz : Int) (v : Value) (l : List Cl) (w : World) (tb : Tab w) (hv : ClsAt w v l) (hbd : ∀ o ∈ l, o.Bd) (hl : (l.length : Int) ≤ 9223372036854775807) : Calls Tryd.prog 13 #[c.val, .int .i64 th, .int .i64 sz, v] w fun e w' => e = .returned (.bool true) ∧ Below w.heap.size w w' := by
  by_cases h : 1 ≤ th ∧ th ≤ 8 ∧ 0 ≤ sz ∧ sz ≤ 65536
  · exact bufferAll_yes c th sz v l w tb hv hbd hl h.1 h.2.1 h.2.2.1 h.2.2.2
  · exact bufferAll_no c th sz v l w tb hv hbd h
end Go.Proofs.YtomgfdfgildkbaaDoor
