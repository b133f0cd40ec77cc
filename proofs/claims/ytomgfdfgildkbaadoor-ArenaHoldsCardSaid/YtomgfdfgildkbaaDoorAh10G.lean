/- The walk of ArenaHolds. No condition. -/
import Derived.Test.YtomgfdfgildkbaaDoorAh9G
import Derived.Test.YtomgfdfgildkbaaDoorLaw3a
import Derived.Deep.CutBlock
namespace Go.Proofs.YtomgfdfgildkbaaDoor
open Go.RowKit Go.BigFrame
set_option linter.unusedVariables false
set_option maxRecDepth 100000 in
set_option maxHeartbeats 4000000 in
theorem arenaHolds_no (c : Cfg) (v : Value) (w : World) (tb : Tab w) (hc : c.valid = false) : Calls Tryd.prog 9 #[c.val, v] w fun e w' => e = .returned (.bool true) ∧ Below w.heap.size w w' := by
  have KN := Lib.hid (fun (W : World) (tb : Tab W) => known3_any W tb)
  have V := fun W => valid_any c W
  rw [hc] at V
  have NN := fun W => new_no c W hc
  obtain ⟨q0, q1, q2, q3, q4, q5, q6, q7, q8, q9, q10, q11, q12, q13⟩ := c
  unfold Cfg.val Cfg.cells at *
  simp only at *
  have VV := Lib.hid V
  have NV := Lib.hid NN
  clear V NN hc
  have hX := heap_one w (.cells #[.int .i64 q0, .int .i64 q1, .int .i64 q2, .int .i64 q3, .int .i64 q4, .int .i64 q5, .int .i64 q6, .int .i64 q7, .int .i64 q8, .int .i64 q9, .int .i64 q10, .int .i64 q11, .int .i64 q12, .int .i64 q13] 45)
  have hb := (Below.refl w.heap.size w).alloc (Nat.le_refl _) (.cells #[.int .i64 q0, .int .i64 q1, .int .i64 q2, .int .i64 q3, .int .i64 q4, .int .i64 q5, .int .i64 q6, .int .i64 q7, .int .i64 q8, .int .i64 q9, .int .i64 q10, .int .i64 q11, .int .i64 q12, .int .i64 q13] 45)
  go_enter Tryd.func9, Tryd.ntmps9
  go_upto_region 1 with fail
  generalize w.alloc (.cells #[.int .i64 q0, .int .i64 q1, .int .i64 q2, .int .i64 q3, .int .i64 q4, .int .i64 q5, .int .i64 q6, .int .i64 q7, .int .i64 q8, .int .i64 q9, .int .i64 q10, .int .i64 q11, .int .i64 q12, .int .i64 q13] 45) = w1 at *
  go_wp2_with fail
  refine (KN.out _ (tb.below hb)).mono ?_
  rintro e w2 ⟨rfl, hq⟩
  have hb2 := hb.trans (hq.mono hb.size)
  have hX2 := (hq.block _ (lt_of_heap hX)).trans hX
  clear hq hX
  obtain ⟨cX, fX⟩ := hcell hX2
  go_wp2_with fail
  refine (VV.out _).mono ?_
  rintro e w3 ⟨rfl, hq⟩
  have hb3 := hb2.trans (hq.mono hb2.size)
  have hX3 := (hq.block _ (lt_of_heap hX2)).trans hX2
  clear hq hX2 cX fX
  obtain ⟨cX, fX⟩ := hcell hX3
  go_wp2_with fail
  refine (NV.out _).mono ?_
  rintro e w4 ⟨rfl, hq⟩
  have hb4 := hb3.trans (hq.mono hb3.size)
  clear hq
  go_wp2_with fail
  go_ret
  exact ⟨rfl, hb4⟩
set_option maxRecDepth 100000 in
set_option maxHeartbeats 16000000 in
theorem arenaHolds_yes (c : Cfg) (v : Value) (l : List Dt) (w : World) (tb0 : Tab w) (hv : DosAt w v l) (hl : (l.length : Int) ≤ 9223372036854775807) (hbd : ∀ o ∈ l, o.Bd) (hc : c.valid = true) : Calls Tryd.prog 9 #[c.val, v] w fun e w' => e = .returned (.bool true) ∧ Below w.heap.size w w' := by
  have tb := Lib.hid tb0
  have KN := Lib.hid (fun (W : World) (tb : Tab W) => known3_any W tb)
  have V := fun W => valid_any c W
  rw [hc] at V
  have NN := fun W => new_yes c W hc
  have okN := Ar.new_ok3 hc
  have hoN := Holds.new hc
  obtain ⟨p, cap, rfl, hcells⟩ := hv
  have HV := Lib.hid (fun (W : World) (hb : Below w.heap.size w W) => DosAt.below ⟨p, cap, rfl, hcells⟩ hb)
  have HBD := Lib.hid hbd
  clear tb0 hcells hbd hc
  generalize Ar.new c = A0 at *
  obtain ⟨q0, q1, q2, q3, q4, q5, q6, q7, q8, q9, q10, q11, q12, q13⟩ := c
  unfold Cfg.val Cfg.cells at *
  simp only at *
  have VV := Lib.hid V
  have NV := Lib.hid NN
  clear V NN
  have hX := heap_one w (.cells #[.int .i64 q0, .int .i64 q1, .int .i64 q2, .int .i64 q3, .int .i64 q4, .int .i64 q5, .int .i64 q6, .int .i64 q7, .int .i64 q8, .int .i64 q9, .int .i64 q10, .int .i64 q11, .int .i64 q12, .int .i64 q13] 45)
  have hb := (Below.refl w.heap.size w).alloc (Nat.le_refl _) (.cells #[.int .i64 q0, .int .i64 q1, .int .i64 q2, .int .i64 q3, .int .i64 q4, .int .i64 q5, .int .i64 q6, .int .i64 q7, .int .i64 q8, .int .i64 q9, .int .i64 q10, .int .i64 q11, .int .i64 q12, .int .i64 q13] 45)
  go_enter Tryd.func9, Tryd.ntmps9
  go_upto_region 1 with fail
  generalize w.alloc (.cells #[.int .i64 q0, .int .i64 q1, .int .i64 q2, .int .i64 q3, .int .i64 q4, .int .i64 q5, .int .i64 q6, .int .i64 q7, .int .i64 q8, .int .i64 q9, .int .i64 q10, .int .i64 q11, .int .i64 q12, .int .i64 q13] 45) = w1 at *
  go_wp2_with fail
  refine (KN.out _ (tb.out.below hb)).mono ?_
  rintro e w2 ⟨rfl, hq⟩
  have hb2 := hb.trans (hq.mono hb.size)
  have hX2 := (hq.block _ (lt_of_heap hX)).trans hX
  clear hq hX
  obtain ⟨cX, fX⟩ := hcell hX2
  go_wp2_with fail
  refine (VV.out _).mono ?_
  rintro e w3 ⟨rfl, hq⟩
  have hb3 := hb2.trans (hq.mono hb2.size)
  have hX3 := (hq.block _ (lt_of_heap hX2)).trans hX2
  clear hq hX2 cX fX
  obtain ⟨cX, fX⟩ := hcell hX3
  go_wp2_with fail
  refine (NV.out _).mono ?_
  rintro e w4 ⟨a, wb, rfl, hA4, ga, gw, hq⟩
  have hb4 := hb3.trans (hq.mono hb3.size)
  have ha : w.heap.size ≤ a := Nat.le_trans hb3.size ga
  have hw : w.heap.size ≤ wb := Nat.le_trans hb3.size gw
  have st0 : HoAt w4 a wb w.heap.size (.slice none 0 0) 0 := ⟨A0, _, [], hA4, okN, hoN, ThsAt.nil _ _ _, by simp⟩
  clear hq cX fX hX3 VV NV KN ga gw okN hoN hb hb2 hb3 hA4
  go_wp2_with fail
  go_loopw [5, 8, 9] (fun okv av iv wx => ∃ k : Nat, k ≤ l.length ∧ k ≤ 60 ∧ iv = .int .i64 k ∧ okv = .bool true ∧ HoAt wx a wb w.heap.size av k ∧ Below w.heap.size w wx) (fun _ _ iv _ => l.length - (intOf iv).toNat)
  case atStart => exact ⟨0, by omega, by omega, rfl, rfl, st0, hb4⟩
  case round =>
    clear st0 hb4
    obtain ⟨k, hk, hk60, rfl, rfl, hst, hbr⟩ := hrel
    generalize u8 = av at *
    by_cases hlt : k < l.length ∧ k < 60
    · obtain ⟨hlt, h60⟩ := hlt
      have dlt : decide ((k : Int) < (l.length : Int)) = true := by simpa using hlt
      have d60 : decide ((k : Int) < 60) = true := by simp; omega
      obtain ⟨p', cap', he, hce⟩ := HV.out wr hbr
      cases he
      obtain ⟨b, off, rfl, hce⟩ := hce k hlt
      have hbk := HBD.out (l.getD k dt0) (by rw [List.getD_eq_getElem?_getD, List.getElem?_eq_getElem hlt]; exact List.getElem_mem hlt)
      generalize l.getD k dt0 = o at *
      obtain ⟨o0, o1, o2, o3, o4, o5, ⟨x0, x1, x2, x3, x4, x5, x6⟩⟩ := o
      have k0 : (0 : Int) ≤ (k : Int) := Int.natCast_nonneg _
      have k1 : (k : Int) < (l.length : Int) := by omega
      have z0 : wr.cell? ⟨b, off + k * 13, none⟩ = some (.int .i64 o0) := hce 0 (by decide)
      have z1 : wr.cell? ⟨b, off + k * 13 + 1, none⟩ = some (.int .i64 o1) := hce 1 (by decide)
      have z2 : wr.cell? ⟨b, off + k * 13 + 2, none⟩ = some (.int .i64 o2) := hce 2 (by decide)
      have z3 : wr.cell? ⟨b, off + k * 13 + 3, none⟩ = some (.int .i64 o3) := hce 3 (by decide)
      have z4 : wr.cell? ⟨b, off + k * 13 + 4, none⟩ = some (.int .i64 o4) := hce 4 (by decide)
      have z5 : wr.cell? ⟨b, off + k * 13 + 5, none⟩ = some (.int .u64 o5) := hce 5 (by decide)
      have z6 : wr.cell? ⟨b, off + k * 13 + 6, none⟩ = some (.int .u64 x0) := hce 6 (by decide)
      have z7 : wr.cell? ⟨b, off + k * 13 + 7, none⟩ = some (.int .i64 x1) := hce 7 (by decide)
      have z8 : wr.cell? ⟨b, off + k * 13 + 8, none⟩ = some (.int .i64 x2) := hce 8 (by decide)
      have z9 : wr.cell? ⟨b, off + k * 13 + 9, none⟩ = some (.int .i64 x3) := hce 9 (by decide)
      have z10 : wr.cell? ⟨b, off + k * 13 + 10, none⟩ = some (.int .i64 x4) := hce 10 (by decide)
      have z11 : wr.cell? ⟨b, off + k * 13 + 11, none⟩ = some (.int .i64 x5) := hce 11 (by decide)
      have z12 : wr.cell? ⟨b, off + k * 13 + 12, none⟩ = some (.bool x6) := hce 12 (by decide)
      clear hce
      have hO := heap_one wr (.cells #[.int .i64 o0, .int .i64 o1, .int .i64 o2, .int .i64 o3, .int .i64 o4, .int .u64 o5, .int .u64 x0, .int .i64 x1, .int .i64 x2, .int .i64 x3, .int .i64 x4, .int .i64 x5, .bool x6] 69)
      have bO := (Below.refl wr.heap.size wr).alloc (Nat.le_refl _) (.cells #[.int .i64 o0, .int .i64 o1, .int .i64 o2, .int .i64 o3, .int .i64 o4, .int .u64 o5, .int .u64 x0, .int .i64 x1, .int .i64 x2, .int .i64 x3, .int .i64 x4, .int .i64 x5, .bool x6] 69)
      have laq : a < wr.heap.size ∧ wb < wr.heap.size := by
        obtain ⟨A, Ls, Q, hA, -⟩ := hst
        exact ⟨lt_of_heap hA.st, lt_of_heap hA.ws⟩
      go_upto_block 2 with fail
      generalize wr.alloc (.cells #[.int .i64 o0, .int .i64 o1, .int .i64 o2, .int .i64 o3, .int .i64 o4, .int .u64 o5, .int .u64 x0, .int .i64 x1, .int .i64 x2, .int .i64 x3, .int .i64 x4, .int .i64 x5, .bool x6] 69) = w1 at *
      have hb1 := hbr.trans (bO.mono hbr.size)
      have hst1 := hst.below bO
      clear z0 z1 z2 z3 z4 z5 z6 z7 z8 z9 z10 z11 z12 bO hbr hst
      generalize wr.heap.size = q at *
      obtain ⟨cO, fO⟩ := hcell hO
      obtain ⟨A, Ls, Q, hA, ok, hH, hT, hn⟩ := hst1
      go_cut [5, 8, 11, 12, 13] from 54 to 149 (fun okv av' _ _ _ wx => okv = .bool true ∧ HoAt wx a wb w.heap.size av' (k + 1) ∧ Below w.heap.size w wx)
      case first =>
        by_cases h1 : o0 = 1
        · subst h1
          by_cases hp : A.putOk o1 ⟨x0, x1, x2, x3, x4, x5, x6⟩ = true
          · have MY := Lib.hid (made_yes a wb w.heap.size A _ Q ⟨1, o1, o2, o3, o4, o5, ⟨x0, x1, x2, x3, x4, x5, x6⟩⟩ w1 (tb.out.below hb1) hA ok hT hb1.size (by omega) hp hbk.s)
            have hH' := hH.lay ok hp
            have ok' := ok.layA hp hbk.s
            unfold Dt.val Dt.cells at MY
            simp only at MY
            generalize A.lay o1 ⟨x0, x1, x2, x3, x4, x5, x6⟩ = A' at *
            have FIN := Lib.hid (fun (pb rb : Nat) (v' : Value) (W : World) (hA' : ArAt W a wb A') (hT' : ThsAt W w.heap.size wb v' (Q ++ [⟨A.top o1, o1, ⟨x0, x1, x2, x3, x4, x5, x6⟩, List.replicate x2.toNat 0, List.replicate x3.toNat 0, pb, rb⟩])) (ho : Only (a :: wb :: av.ownBlock.toList) w1 W) =>
              (⟨⟨A', _, _, hA', ok', hH' pb rb, hT', by simp; omega⟩, hb1.trans (ho.below hb1.size (fun j hj => by
                simp only [List.mem_cons, Option.mem_toList] at hj
                rcases hj with rfl | rfl | hj
                · exact ha
                · exact hw
                · exact (hT.row.lt j hj).1))⟩ : HoAt W a wb w.heap.size v' (k + 1) ∧ Below w.heap.size w W))
            clear hH' ok' hp
            go_wp2_with fail
            refine MY.out.mono ?_
            rintro e w2 ⟨v', pb, rb, rfl, hA2, hT2, ho⟩
            obtain ⟨f1, f2⟩ := FIN.out pb rb v' w2 hA2 hT2 ho
            clear hT2 ho FIN hA2
            go_wp2_with fail
            go_meet
            exact ⟨rfl, f1, f2⟩
          · have hp' : A.putOk o1 ⟨x0, x1, x2, x3, x4, x5, x6⟩ = false := by simpa using hp
            have MY := Lib.hid (made_no a wb A av ⟨1, o1, o2, o3, o4, o5, ⟨x0, x1, x2, x3, x4, x5, x6⟩⟩ w1 (tb.out.below hb1) hA ok hp')
            unfold Dt.val Dt.cells at MY
            simp only at MY
            clear hp hp'
            go_wp2_with fail
            refine MY.out.mono ?_
            rintro e w2 ⟨rfl, hA2, ho⟩
            obtain ⟨f1, f2⟩ := HoAt.of_only hA hT hb1 ha hw (Nat.le_succ_of_le hn) hA2 ok hH ho
            go_wp2_with fail
            go_meet
            exact ⟨rfl, f1, f2⟩
        have d1 : (o0 == 1) = false := by simpa using h1
        by_cases h2 : o0 = 2
        · subst h2
          have hz := ok.sizes o1
          have hz2 := ok.sizes o1
          have TT := Lib.hid (fun (W : World) (h : ArAt W a wb A) => top_any a wb A o1 W h)
          have FL' := fun (W : World) (h : ArAt W a wb A) => fill_any a wb A o1 o2 W h ok
          have nq : q ∉ [a, wb] := by simp; omega
          have bn := hbk.n
          simp only at bn
          have t0 : 0 ≤ A.top o1 := by omega
          have t1 : A.top o1 ≤ 262145 := by omega
          by_cases hp : A.fillOk o1 o2 = true
          · have TV' := fun (W : World) (h : ArAt W a wb (A.fill o1 o2)) => top_any a wb (A.fill o1 o2) o1 W h
            rw [Ar.fill_topA hp] at TV'
            rw [hp] at FL'
            simp only [if_true] at FL'
            have TV := Lib.hid TV'
            have FL := Lib.hid FL'
            have okF := ok.fillA hp
            have hHF := hH.fill ok hp
            unfold Ar.fillOk at hp
            simp only [Bool.and_eq_true, decide_eq_true_eq] at hp
            obtain ⟨hs, n1, n2⟩ := hp
            unfold isSp at hs
            obtain ⟨s1, s2⟩ := of_decide_eq_true hs
            have n3 : o2 ≤ 262145 := by unfold Ar.free at n2; omega
            clear hs n2 hz hz2 TV' FL'
            generalize A.fill o1 o2 = AF at *
            generalize A.top o1 = tp at *
            have e1 : decide (1 ≤ o1) = true := by simpa using s1
            have e2 : decide (o1 ≤ 4) = true := by simpa using s2
            have e3 : decide (1 ≤ o2) = true := by simpa using n1
            have e4 : IntKind.i64.wrap (tp + o2) = tp + o2 := by rw [IntKind.wrap_i64]; omega
            have e5 : (tp + o2 == tp + o2) = true := by simp
            have E := Lib.hid (And.intro e1 (And.intro e2 (And.intro e3 (And.intro e4 e5))))
            go_wp2_with fail
            refine (TT.out _ hA).mono ?_
            rintro e w2 ⟨rfl, hq⟩
            have hA2 := hA.below hq
            have hO2 := (hq.block _ (lt_of_heap hO)).trans hO
            have ho1 := Only.of_below (S := [a, wb]) hq
            clear cO fO hq
            obtain ⟨cO, fO⟩ := hcell hO2
            go_wp2_with fail
            refine (FL.out _ hA2).mono ?_
            rintro e w3 ⟨rfl, hA3, ho2⟩
            have hO3 := (ho2.block _ (lt_of_heap hO2) nq).trans hO2
            have ho3 := ho1.trans ho2
            clear cO fO
            obtain ⟨cO, fO⟩ := hcell hO3
            have c1 : w3.cell? ⟨q, 1, none⟩ = some (.int .i64 o1) := by rw [cO]; rfl
            have c2 : w3.cell? ⟨q, 2, none⟩ = some (.int .i64 o2) := by rw [cO]; rfl
            have KE := Lib.hid (fun (W : World) (hb : Below w3.heap.size w3 W) => (⟨(hb.cell (p := ⟨q, 1, none⟩) (World.block_lt_of_cell? w3 ⟨q, 1, none⟩ c1)).trans c1, (hb.cell (p := ⟨q, 2, none⟩) (World.block_lt_of_cell? w3 ⟨q, 2, none⟩ c2)).trans c2, hb⟩ : W.cell? ⟨q, 1, none⟩ = some (.int .i64 o1) ∧ W.cell? ⟨q, 2, none⟩ = some (.int .i64 o2) ∧ Below w3.heap.size w3 W))
            have T3 := Lib.hid (fun (W : World) (hb : Below w3.heap.size w3 W) => (TV.out W (hA3.below hb)).mono (R' := fun e w' => e = .returned (.int .i64 (tp + o2)) ∧ Below w3.heap.size w3 w') fun e w' ⟨h1, h2⟩ => ⟨h1, hb.trans (h2.mono hb.size)⟩)
            have HF := Lib.hid (fun (W : World) (hb : Below w3.heap.size w3 W) => HoAt.of_only hA hT hb1 ha hw (Nat.le_succ_of_le hn) (hA3.below hb) okF hHF (ho3.trans (Only.of_below hb)))
            clear cO fO hO2 hO3 hA2 hA3 ho1 ho2 ho3
            go_upto_region 17 with fail
            clear c1 c2
            refine wp_region_held_drew (S := fun W => W.cell? ⟨q, 1, none⟩ = some (.int .i64 o1) ∧ W.cell? ⟨q, 2, none⟩ = some (.int .i64 o2) ∧ Below w3.heap.size w3 W) (by kernel_rfl) (KE.out _ (Below.refl _ _).drew) (fun hHeld => ?_)
            refine wpAnyH_take (i := 0) (oi := ?oi1) (v := ?vv1) ?hi1 (by kernel_rfl) (by kernel_rfl) (by kernel_rfl) ?hQ1 ?hy1 (by assumption) ?rest1
            case hi1 => (simp only [List.getElem?_toArray, List.getElem?_cons_zero]; rfl)
            case hQ1 => exact fun _ _ _ h => h
            case hy1 => (first | exact Or.inl ⟨by rfl, by intro w hSw; (try dsimp only at hSw); go_simp; with_reducible rfl⟩ | (refine Or.inr ⟨by rfl, ?_⟩; rfl))
            simp only [Act.put, List.setIfInBounds_toArray, List.set_cons_zero, List.set_cons_succ]
            refine wpAnyH_take (i := 1) (oi := ?oi2) (v := ?vv2) ?hi2 (by kernel_rfl) (by kernel_rfl) (by kernel_rfl) ?hQ2 ?hy2 (by assumption) ?rest2
            case hi2 => (simp only [List.getElem?_toArray, List.getElem?_cons_succ, List.getElem?_cons_zero]; rfl)
            case hQ2 => exact fun _ _ _ h => h
            case hy2 => (first | exact Or.inl ⟨by rfl, by intro w hSw; (try dsimp only at hSw); go_simp; with_reducible rfl⟩ | (refine Or.inr ⟨by rfl, ?_⟩; rfl))
            simp only [Act.put, List.setIfInBounds_toArray, List.set_cons_zero, List.set_cons_succ]
            refine wpAnyH_take (i := 2) (oi := ?oi3) (v := ?vv3) ?hi3 (by kernel_rfl) (by kernel_rfl) (by kernel_rfl) ?hQ3 ?hy3 (by assumption) ?rest3
            case hi3 => (simp only [List.getElem?_toArray, List.getElem?_cons_succ, List.getElem?_cons_zero]; rfl)
            case hQ3 => exact fun _ _ _ h => h
            case hy3 => (first | exact Or.inl ⟨by rfl, by intro w hSw; (try dsimp only at hSw); go_simp; with_reducible rfl⟩ | (refine Or.inr ⟨by rfl, ?_⟩; rfl))
            simp only [Act.put, List.setIfInBounds_toArray, List.set_cons_zero, List.set_cons_succ]
            refine wpAnyH_take (i := 3) (oi := ?oi4) (v := ?vv4) ?hi4 (by kernel_rfl) (by kernel_rfl) (by kernel_rfl) ?hQ4 ?hy4 (by assumption) ?rest4
            case hi4 => (simp only [List.getElem?_toArray, List.getElem?_cons_succ, List.getElem?_cons_zero]; rfl)
            case hQ4 => exact fun _ _ _ h => h
            case hy4 => (first | exact Or.inl ⟨by rfl, by intro w hSw; (try dsimp only at hSw); go_simp; with_reducible rfl⟩ | (refine Or.inr ⟨by rfl, ?_⟩; rfl))
            simp only [Act.put, List.setIfInBounds_toArray, List.set_cons_zero, List.set_cons_succ]
            refine wpAnyH_take (i := 4) (oi := ?oi5) (v := ?vv5) ?hi5 (by kernel_rfl) (by kernel_rfl) (by kernel_rfl) ?hQ5 ?hy5 (by assumption) ?rest5
            case hi5 => (simp only [List.getElem?_toArray, List.getElem?_cons_succ, List.getElem?_cons_zero]; rfl)
            case hQ5 => exact fun _ _ _ h => h
            case hy5 => (first | exact Or.inl ⟨by rfl, by intro w hSw; (try dsimp only at hSw); go_simp; with_reducible rfl⟩ | (refine Or.inr ⟨by rfl, ?_⟩; rfl))
            simp only [Act.put, List.setIfInBounds_toArray, List.set_cons_zero, List.set_cons_succ]
            refine wpAnyH_take (i := 5) (oi := ?oi6) (v := ?vv6) ?hi6 (by kernel_rfl) (by kernel_rfl) (by kernel_rfl) ?hQ6 ?hy6 (by assumption) ?rest6
            case hi6 => (simp only [List.getElem?_toArray, List.getElem?_cons_succ, List.getElem?_cons_zero]; rfl)
            case hQ6 => exact fun _ _ _ h => h
            case hy6 => (first | exact Or.inl ⟨by rfl, by intro w hSw; (try dsimp only at hSw); go_simp; with_reducible rfl⟩ | (refine Or.inr ⟨by rfl, ?_⟩; rfl))
            simp only [Act.put, List.setIfInBounds_toArray, List.set_cons_zero, List.set_cons_succ]
            refine wpAnyH_take (i := 6) (oi := ?oi7) (v := ?vv7) ?hi7 (by kernel_rfl) (by kernel_rfl) (by kernel_rfl) ?hQ7 ?hy7 (by assumption) ?rest7
            case hi7 => (simp only [List.getElem?_toArray, List.getElem?_cons_succ, List.getElem?_cons_zero]; rfl)
            case hQ7 => exact fun _ _ _ h => h
            case hy7 => (first | exact Or.inl ⟨by rfl, by intro w hSw; (try dsimp only at hSw); go_simp; with_reducible rfl⟩ | (refine Or.inr ⟨by rfl, ?_⟩; rfl))
            simp only [Act.put, List.setIfInBounds_toArray, List.set_cons_zero, List.set_cons_succ]
            refine wpAnyH_take (i := 7) (oi := ?oi8) (v := ?vv8) ?hi8 (by kernel_rfl) (by kernel_rfl) (by kernel_rfl) ?hQ8 ?hy8 (by assumption) ?rest8
            case hi8 => (simp only [List.getElem?_toArray, List.getElem?_cons_succ, List.getElem?_cons_zero]; rfl)
            case hQ8 => exact fun _ _ _ h => h
            case hy8 => (first | exact Or.inl ⟨by rfl, by intro w hSw; (try dsimp only at hSw); go_simp; with_reducible rfl⟩ | (refine Or.inr ⟨by rfl, ?_⟩; rfl))
            simp only [Act.put, List.setIfInBounds_toArray, List.set_cons_zero, List.set_cons_succ]
            refine wpAnyH_take (i := 8) (oi := ?oi9) (v := ?vv9) ?hi9 (by kernel_rfl) (by kernel_rfl) (by kernel_rfl) ?hQ9 ?hy9 (by assumption) ?rest9
            case hi9 => (simp only [List.getElem?_toArray, List.getElem?_cons_succ, List.getElem?_cons_zero]; rfl)
            case hQ9 => exact fun _ _ _ h => h
            case hy9 => (first | exact Or.inl ⟨by rfl, by intro w hSw; (try dsimp only at hSw); go_simp; with_reducible rfl⟩ | (refine Or.inr ⟨by rfl, ?_⟩; rfl))
            simp only [Act.put, List.setIfInBounds_toArray, List.set_cons_zero, List.set_cons_succ]
            refine wpAnyH_take (i := 9) (oi := ?oi10) (v := ?vv10) ?hi10 (by kernel_rfl) (by kernel_rfl) (by kernel_rfl) ?hQ10 ?hy10 (by assumption) ?rest10
            case hi10 => (simp only [List.getElem?_toArray, List.getElem?_cons_succ, List.getElem?_cons_zero]; rfl)
            case hQ10 => exact fun _ _ _ h => h
            case hy10 => (first | exact Or.inl ⟨by rfl, by intro w hSw; (try dsimp only at hSw); go_simp; with_reducible rfl⟩ | (refine Or.inr ⟨by rfl, ?_⟩; rfl))
            simp only [Act.put, List.setIfInBounds_toArray, List.set_cons_zero, List.set_cons_succ]
            refine wpAnyH_take (i := 10) (oi := ?oi11) (v := ?vv11) ?hi11 (by kernel_rfl) (by kernel_rfl) (by kernel_rfl) ?hQ11 ?hy11 (by assumption) ?rest11
            case hi11 => (simp only [List.getElem?_toArray, List.getElem?_cons_succ, List.getElem?_cons_zero]; rfl)
            case hQ11 => exact fun _ _ _ h => h
            case hy11 => (first | exact Or.inl ⟨by rfl, by intro w hSw; (try dsimp only at hSw); go_simp; with_reducible rfl⟩ | (refine Or.inr ⟨by rfl, ?_⟩; rfl))
            simp only [Act.put, List.setIfInBounds_toArray, List.set_cons_zero, List.set_cons_succ]
            refine wpAnyH_take (i := 11) (oi := ?oi12) (v := ?vv12) ?hi12 (by kernel_rfl) (by kernel_rfl) (by kernel_rfl) ?hQ12 ?hy12 (by assumption) ?rest12
            case hi12 => (simp only [List.getElem?_toArray, List.getElem?_cons_succ, List.getElem?_cons_zero]; rfl)
            case hQ12 => exact fun _ _ _ h => h
            case hy12 => (first | exact Or.inl ⟨by rfl, by intro w hSw; (try dsimp only at hSw); go_simp; with_reducible rfl⟩ | (refine Or.inr ⟨by rfl, ?_⟩; rfl))
            simp only [Act.put, List.setIfInBounds_toArray, List.set_cons_zero, List.set_cons_succ]
            refine wpAnyH_take (i := 12) (oi := ?oi13) (v := ?vv13) ?hi13 (by kernel_rfl) (by kernel_rfl) (by kernel_rfl) ?hQ13 ?hy13 (by assumption) ?rest13
            case hi13 => (simp only [List.getElem?_toArray, List.getElem?_cons_succ, List.getElem?_cons_zero]; rfl)
            case hQ13 => exact fun _ _ _ h => h
            case hy13 => (first | exact Or.inl ⟨by rfl, by intro w hSw; (try dsimp only at hSw); go_simp; with_reducible rfl⟩ | (refine Or.inr ⟨by rfl, ?_⟩; rfl))
            simp only [Act.put, List.setIfInBounds_toArray, List.set_cons_zero, List.set_cons_succ]
            refine wpAnyH_take (i := 13) (oi := ?oi14) (v := ?vv14) ?hi14 (by kernel_rfl) (by kernel_rfl) (by kernel_rfl) ?hQ14 ?hy14 (by assumption) ?rest14
            case hi14 => (simp only [List.getElem?_toArray, List.getElem?_cons_succ, List.getElem?_cons_zero]; rfl)
            case hQ14 => exact fun _ _ _ h => h
            case hy14 => (first | exact Or.inl ⟨by rfl, by intro w hSw; (try dsimp only at hSw); go_simp; with_reducible rfl⟩ | (refine Or.inr ⟨by rfl, ?_⟩; rfl))
            simp only [Act.put, List.setIfInBounds_toArray, List.set_cons_zero, List.set_cons_succ]
            refine wpAnyH_take (i := 14) (oi := ?oi15) (v := ?vv15) ?hi15 (by kernel_rfl) (by kernel_rfl) (by kernel_rfl) ?hQ15 ?hy15 (by assumption) ?rest15
            case hi15 => (simp only [List.getElem?_toArray, List.getElem?_cons_succ, List.getElem?_cons_zero]; rfl)
            case hQ15 => exact fun _ _ _ h => h
            case hy15 => (first | exact Or.inl ⟨by rfl, by intro w hSw; (try dsimp only at hSw); go_simp; with_reducible rfl⟩ | (refine Or.inr ⟨by rfl, ?_⟩; rfl))
            simp only [Act.put, List.setIfInBounds_toArray, List.set_cons_zero, List.set_cons_succ]
            refine wpAnyH_take (i := 15) (oi := ?oi16) (v := ?vv16) ?hi16 (by kernel_rfl) (by kernel_rfl) (by kernel_rfl) ?hQ16 ?hy16 (by assumption) ?rest16
            case hi16 => (simp only [List.getElem?_toArray, List.getElem?_cons_succ, List.getElem?_cons_zero]; rfl)
            case hQ16 => exact fun _ _ _ h => h
            case hy16 => (first | exact Or.inl ⟨by rfl, by intro w hSw; (try dsimp only at hSw); go_simp; with_reducible rfl⟩ | (refine Or.inr ⟨by rfl, ?_⟩; rfl))
            simp only [Act.put, List.setIfInBounds_toArray, List.set_cons_zero, List.set_cons_succ]
            refine wpAnyH_take (i := 16) (oi := ?oi17) (v := ?vv17) ?hi17 (by kernel_rfl) (by kernel_rfl) (by kernel_rfl) ?hQ17 ?hy17 (by assumption) ?rest17
            case hi17 => (simp only [List.getElem?_toArray, List.getElem?_cons_succ, List.getElem?_cons_zero]; rfl)
            case hQ17 => exact fun _ _ _ h => h
            case hy17 => (first | exact Or.inl ⟨by rfl, by intro w hSw; (try dsimp only at hSw); go_simp; with_reducible rfl⟩ | (refine Or.inr ⟨by rfl, ?_⟩; rfl))
            simp only [Act.put, List.setIfInBounds_toArray, List.set_cons_zero, List.set_cons_succ]
            refine wpAnyH_take (i := 17) (oi := ?oi18) (v := ?vv18) ?hi18 (by kernel_rfl) (by kernel_rfl) (by kernel_rfl) ?hQ18 ?hy18 (by assumption) ?rest18
            case hi18 => (simp only [List.getElem?_toArray, List.getElem?_cons_succ, List.getElem?_cons_zero]; rfl)
            case hQ18 => exact fun _ _ _ h => h
            case hy18 => (first | exact Or.inl ⟨by rfl, by intro w hSw; (try dsimp only at hSw); go_simp; with_reducible rfl⟩ | (refine Or.inr ⟨by rfl, ?_⟩; rfl))
            simp only [Act.put, List.setIfInBounds_toArray, List.set_cons_zero, List.set_cons_succ]
            refine wpAnyH_take (i := 19) (oi := ?oi19) (v := ?vv19) ?hi19 (by kernel_rfl) (by kernel_rfl) (by kernel_rfl) ?hQ19 ?hy19 (by assumption) ?rest19
            case hi19 => (simp only [List.getElem?_toArray, List.getElem?_cons_succ, List.getElem?_cons_zero]; rfl)
            case hQ19 => exact fun _ _ _ h => h
            case hy19 => (first | exact Or.inl ⟨by rfl, by intro w hSw; (try dsimp only at hSw); go_simp; with_reducible rfl⟩ | (refine Or.inr ⟨by rfl, ?_⟩; rfl))
            simp only [Act.put, List.setIfInBounds_toArray, List.set_cons_zero, List.set_cons_succ]
            refine wpAnyH_take (i := 20) (oi := ?oi20) (v := ?vv20) ?hi20 (by kernel_rfl) (by kernel_rfl) (by kernel_rfl) ?hQ20 ?hy20 (by assumption) ?rest20
            case hi20 => (simp only [List.getElem?_toArray, List.getElem?_cons_succ, List.getElem?_cons_zero]; rfl)
            case hQ20 => exact fun _ _ _ h => h
            case hy20 => (first | exact Or.inl ⟨by rfl, by intro w hSw; (try dsimp only at hSw); go_simp; with_reducible rfl⟩ | (refine Or.inr ⟨by rfl, ?_⟩; rfl))
            simp only [Act.put, List.setIfInBounds_toArray, List.set_cons_zero, List.set_cons_succ]
            refine wpAnyH_take (i := 21) (oi := ?oi21) (v := ?vv21) ?hi21 (by kernel_rfl) (by kernel_rfl) (by kernel_rfl) ?hQ21 ?hy21 (by assumption) ?rest21
            case hi21 => (simp only [List.getElem?_toArray, List.getElem?_cons_succ, List.getElem?_cons_zero]; rfl)
            case hQ21 => exact fun _ _ _ h => h
            case hy21 => (first | exact Or.inl ⟨by rfl, by intro w hSw; (try dsimp only at hSw); go_simp; with_reducible rfl⟩ | (refine Or.inr ⟨by rfl, ?_⟩; rfl))
            simp only [Act.put, List.setIfInBounds_toArray, List.set_cons_zero, List.set_cons_succ]
            refine wpAnyH_take (i := 22) (oi := ?oi22) (v := ?vv22) ?hi22 (by kernel_rfl) (by kernel_rfl) (by kernel_rfl) ?hQ22 ?hy22 (by assumption) ?rest22
            case hi22 => (simp only [List.getElem?_toArray, List.getElem?_cons_succ, List.getElem?_cons_zero]; rfl)
            case hQ22 => exact fun _ _ _ h => h
            case hy22 => (first | exact Or.inl ⟨by rfl, by intro w hSw; (try dsimp only at hSw); go_simp; with_reducible rfl⟩ | (refine Or.inr ⟨by rfl, ?_⟩; rfl))
            simp only [Act.put, List.setIfInBounds_toArray, List.set_cons_zero, List.set_cons_succ]
            obtain ⟨_, _, hbw⟩ := hHeld
            refine wpAnyH_ready (rs := [18]) (by kernel_rfl) (by simp) ?_
            refine AllReadyH.cons (o := ?oc23) ?hi23 ?step23 AllReadyH.nil
            case hi23 => (simp only [List.getElem?_toArray, List.getElem?_cons_succ, List.getElem?_cons_zero]; rfl)
            intro K hK
            go_simp
            refine (T3.out _ hbw).mono ?_
            rintro e w9 ⟨rfl, hq9⟩
            refine hK.out _ _ (KE.out _ hq9) (fun hHeld => ?_)
            clear hK K hbw
            try simp only [Act.put, List.setIfInBounds_toArray, List.set_cons_zero, List.set_cons_succ]
            refine wpAnyH_take (i := 23) (oi := ?oi24) (v := ?vv24) ?hi24 (by kernel_rfl) (by kernel_rfl) (by kernel_rfl) ?hQ24 ?hy24 (by assumption) ?rest24
            case hi24 => (simp only [List.getElem?_toArray, List.getElem?_cons_succ, List.getElem?_cons_zero]; rfl)
            case hQ24 => exact fun _ _ _ h => h
            case hy24 => (first | exact Or.inl ⟨by rfl, by intro w hSw; (try dsimp only at hSw); go_simp; with_reducible rfl⟩ | (refine Or.inr ⟨by rfl, ?_⟩; rfl))
            simp only [Act.put, List.setIfInBounds_toArray, List.set_cons_zero, List.set_cons_succ]
            refine wpAnyH_take (i := 24) (oi := ?oi25) (v := ?vv25) ?hi25 (by kernel_rfl) (by kernel_rfl) (by kernel_rfl) ?hQ25 ?hy25 (by assumption) ?rest25
            case hi25 => (simp only [List.getElem?_toArray, List.getElem?_cons_succ, List.getElem?_cons_zero]; rfl)
            case hQ25 => exact fun _ _ _ h => h
            case hy25 => (first | exact Or.inl ⟨by rfl, by intro w hSw; (try dsimp only at hSw); go_simp; with_reducible rfl⟩ | (refine Or.inr ⟨by rfl, ?_⟩; rfl))
            simp only [Act.put, List.setIfInBounds_toArray, List.set_cons_zero, List.set_cons_succ]
            refine wpAnyH_take (i := 25) (oi := ?oi26) (v := ?vv26) ?hi26 (by kernel_rfl) (by kernel_rfl) (by kernel_rfl) ?hQ26 ?hy26 (by assumption) ?rest26
            case hi26 => (simp only [List.getElem?_toArray, List.getElem?_cons_succ, List.getElem?_cons_zero]; rfl)
            case hQ26 => exact fun _ _ _ h => h
            case hy26 => (first | exact Or.inl ⟨by rfl, by intro w hSw; (try dsimp only at hSw); go_simp; with_reducible rfl⟩ | (refine Or.inr ⟨by rfl, ?_⟩; rfl))
            simp only [Act.put, List.setIfInBounds_toArray, List.set_cons_zero, List.set_cons_succ]
            refine wpAnyH_take (i := 26) (oi := ?oi27) (v := ?vv27) ?hi27 (by kernel_rfl) (by kernel_rfl) (by kernel_rfl) ?hQ27 ?hy27 (by assumption) ?rest27
            case hi27 => (simp only [List.getElem?_toArray, List.getElem?_cons_succ, List.getElem?_cons_zero]; rfl)
            case hQ27 => exact fun _ _ _ h => h
            case hy27 => (first | exact Or.inl ⟨by rfl, by intro w hSw; (try dsimp only at hSw); go_simp; with_reducible rfl⟩ | (refine Or.inr ⟨by rfl, ?_⟩; rfl))
            simp only [Act.put, List.setIfInBounds_toArray, List.set_cons_zero, List.set_cons_succ]
            refine wpAnyH_take (i := 27) (oi := ?oi28) (v := ?vv28) ?hi28 (by kernel_rfl) (by kernel_rfl) (by kernel_rfl) ?hQ28 ?hy28 (by assumption) ?rest28
            case hi28 => (simp only [List.getElem?_toArray, List.getElem?_cons_succ, List.getElem?_cons_zero]; rfl)
            case hQ28 => exact fun _ _ _ h => h
            case hy28 => (first | exact Or.inl ⟨by rfl, by intro w hSw; (try dsimp only at hSw); go_simp; with_reducible rfl⟩ | (refine Or.inr ⟨by rfl, ?_⟩; rfl))
            simp only [Act.put, List.setIfInBounds_toArray, List.set_cons_zero, List.set_cons_succ]
            refine wpAnyH_take (i := 28) (oi := ?oi29) (v := ?vv29) ?hi29 (by kernel_rfl) (by kernel_rfl) (by kernel_rfl) ?hQ29 ?hy29 (by assumption) ?rest29
            case hi29 => (simp only [List.getElem?_toArray, List.getElem?_cons_succ, List.getElem?_cons_zero]; rfl)
            case hQ29 => exact fun _ _ _ h => h
            case hy29 => (first | exact Or.inl ⟨by rfl, by intro w hSw; (try dsimp only at hSw); go_simp; with_reducible rfl⟩ | (refine Or.inr ⟨by rfl, ?_⟩; rfl))
            simp only [Act.put, List.setIfInBounds_toArray, List.set_cons_zero, List.set_cons_succ]
            refine wpAnyH_take (i := 29) (oi := ?oi30) (v := ?vv30) ?hi30 (by kernel_rfl) (by kernel_rfl) (by kernel_rfl) ?hQ30 ?hy30 (by assumption) ?rest30
            case hi30 => (simp only [List.getElem?_toArray, List.getElem?_cons_succ, List.getElem?_cons_zero]; rfl)
            case hQ30 => exact fun _ _ _ h => h
            case hy30 => (first | exact Or.inl ⟨by rfl, by intro w hSw; (try dsimp only at hSw); go_simp; with_reducible rfl⟩ | (refine Or.inr ⟨by rfl, ?_⟩; rfl))
            simp only [Act.put, List.setIfInBounds_toArray, List.set_cons_zero, List.set_cons_succ]
            refine wpAnyH_take (i := 30) (oi := ?oi31) (v := ?vv31) ?hi31 (by kernel_rfl) (by kernel_rfl) (by kernel_rfl) ?hQ31 ?hy31 (by assumption) ?rest31
            case hi31 => (simp only [List.getElem?_toArray, List.getElem?_cons_succ, List.getElem?_cons_zero]; rfl)
            case hQ31 => exact fun _ _ _ h => h
            case hy31 => (first | exact Or.inl ⟨by rfl, by intro w hSw; (try dsimp only at hSw); go_simp; with_reducible rfl⟩ | (refine Or.inr ⟨by rfl, ?_⟩; rfl))
            simp only [Act.put, List.setIfInBounds_toArray, List.set_cons_zero, List.set_cons_succ]
            refine wpAnyH_take (i := 31) (oi := ?oi32) (v := ?vv32) ?hi32 (by kernel_rfl) (by kernel_rfl) (by kernel_rfl) ?hQ32 ?hy32 (by assumption) ?rest32
            case hi32 => (simp only [List.getElem?_toArray, List.getElem?_cons_succ, List.getElem?_cons_zero]; rfl)
            case hQ32 => exact fun _ _ _ h => h
            case hy32 => (first | exact Or.inl ⟨by rfl, by intro w hSw; (try dsimp only at hSw); go_simp; with_reducible rfl⟩ | (refine Or.inr ⟨by rfl, ?_⟩; rfl))
            simp only [Act.put, List.setIfInBounds_toArray, List.set_cons_zero, List.set_cons_succ]
            refine wpAnyH_take (i := 32) (oi := ?oi33) (v := ?vv33) ?hi33 (by kernel_rfl) (by kernel_rfl) (by kernel_rfl) ?hQ33 ?hy33 (by assumption) ?rest33
            case hi33 => (simp only [List.getElem?_toArray, List.getElem?_cons_succ, List.getElem?_cons_zero]; rfl)
            case hQ33 => exact fun _ _ _ h => h
            case hy33 => (first | exact Or.inl ⟨by rfl, by intro w hSw; (try dsimp only at hSw); go_simp; with_reducible rfl⟩ | (refine Or.inr ⟨by rfl, ?_⟩; rfl))
            simp only [Act.put, List.setIfInBounds_toArray, List.set_cons_zero, List.set_cons_succ]
            refine wpAnyH_take (i := 33) (oi := ?oi34) (v := ?vv34) ?hi34 (by kernel_rfl) (by kernel_rfl) (by kernel_rfl) ?hQ34 ?hy34 (by assumption) ?rest34
            case hi34 => (simp only [List.getElem?_toArray, List.getElem?_cons_succ, List.getElem?_cons_zero]; rfl)
            case hQ34 => exact fun _ _ _ h => h
            case hy34 => (first | exact Or.inl ⟨by rfl, by intro w hSw; (try dsimp only at hSw); go_simp; with_reducible rfl⟩ | (refine Or.inr ⟨by rfl, ?_⟩; rfl))
            simp only [Act.put, List.setIfInBounds_toArray, List.set_cons_zero, List.set_cons_succ]
            refine wpAnyH_take (i := 34) (oi := ?oi35) (v := ?vv35) ?hi35 (by kernel_rfl) (by kernel_rfl) (by kernel_rfl) ?hQ35 ?hy35 (by assumption) ?rest35
            case hi35 => (simp only [List.getElem?_toArray, List.getElem?_cons_succ, List.getElem?_cons_zero]; rfl)
            case hQ35 => exact fun _ _ _ h => h
            case hy35 => (first | exact Or.inl ⟨by rfl, by intro w hSw; (try dsimp only at hSw); go_simp; with_reducible rfl⟩ | (refine Or.inr ⟨by rfl, ?_⟩; rfl))
            simp only [Act.put, List.setIfInBounds_toArray, List.set_cons_zero, List.set_cons_succ]
            refine wpAnyH_take (i := 35) (oi := ?oi36) (v := ?vv36) ?hi36 (by kernel_rfl) (by kernel_rfl) (by kernel_rfl) ?hQ36 ?hy36 (by assumption) ?rest36
            case hi36 => (simp only [List.getElem?_toArray, List.getElem?_cons_succ, List.getElem?_cons_zero]; rfl)
            case hQ36 => exact fun _ _ _ h => h
            case hy36 => (first | exact Or.inl ⟨by rfl, by intro w hSw; (try dsimp only at hSw); go_simp; with_reducible rfl⟩ | (refine Or.inr ⟨by rfl, ?_⟩; rfl))
            simp only [Act.put, List.setIfInBounds_toArray, List.set_cons_zero, List.set_cons_succ]
            refine wpAnyH_take (i := 36) (oi := ?oi37) (v := ?vv37) ?hi37 (by kernel_rfl) (by kernel_rfl) (by kernel_rfl) ?hQ37 ?hy37 (by assumption) ?rest37
            case hi37 => (simp only [List.getElem?_toArray, List.getElem?_cons_succ, List.getElem?_cons_zero]; rfl)
            case hQ37 => exact fun _ _ _ h => h
            case hy37 => (first | exact Or.inl ⟨by rfl, by intro w hSw; (try dsimp only at hSw); go_simp; with_reducible rfl⟩ | (refine Or.inr ⟨by rfl, ?_⟩; rfl))
            simp only [Act.put, List.setIfInBounds_toArray, List.set_cons_zero, List.set_cons_succ]
            refine wpAnyH_take (i := 37) (oi := ?oi38) (v := ?vv38) ?hi38 (by kernel_rfl) (by kernel_rfl) (by kernel_rfl) ?hQ38 ?hy38 (by assumption) ?rest38
            case hi38 => (simp only [List.getElem?_toArray, List.getElem?_cons_succ, List.getElem?_cons_zero]; rfl)
            case hQ38 => exact fun _ _ _ h => h
            case hy38 => (first | exact Or.inl ⟨by rfl, by intro w hSw; (try dsimp only at hSw); go_simp; with_reducible rfl⟩ | (refine Or.inr ⟨by rfl, ?_⟩; rfl))
            simp only [Act.put, List.setIfInBounds_toArray, List.set_cons_zero, List.set_cons_succ]
            obtain ⟨_, _, hbw⟩ := hHeld
            refine wpAnyH_done (by kernel_rfl) ?_ _
            go_wp2_with fail
            go_meet
            exact ⟨rfl, HF.out _ hbw⟩
          · have hpf : A.fillOk o1 o2 = false := by simpa using hp
            rw [hpf] at FL'
            simp only [Bool.false_eq_true, if_false] at FL'
            have TV := TT
            have FL := Lib.hid FL'
            have okF := ok
            have hHF := hH
            have hwr : ∃ u : Int, IntKind.i64.wrap (A.top o1 + o2) = u ∧ (1 ≤ o2 → (A.top o1 == u) = false) := ⟨_, rfl, fun h => by rw [IntKind.wrap_i64]; simp; omega⟩
            obtain ⟨u, hu, hne⟩ := hwr
            clear FL' hz hz2
            generalize A.top o1 = tp at *
            have UU := Lib.hid hu
            clear hu hp hpf
            by_cases s1 : 1 ≤ o1
            · have e1 : decide (1 ≤ o1) = true := by simpa using s1
              by_cases s2 : o1 ≤ 4
              · have e2 : decide (o1 ≤ 4) = true := by simpa using s2
                by_cases s3 : 1 ≤ o2
                · have e3 : decide (1 ≤ o2) = true := by simpa using s3
                  have e4 := UU.out
                  have e5 := hne s3
                  clear hne
                  go_wp2_with fail
                  refine (TT.out _ hA).mono ?_
                  rintro e w2 ⟨rfl, hq⟩
                  have hA2 := hA.below hq
                  have hO2 := (hq.block _ (lt_of_heap hO)).trans hO
                  have ho1 := Only.of_below (S := [a, wb]) hq
                  clear cO fO hq
                  obtain ⟨cO, fO⟩ := hcell hO2
                  go_wp2_with fail
                  refine (FL.out _ hA2).mono ?_
                  rintro e w3 ⟨rfl, hA3, ho2⟩
                  have hO3 := (ho2.block _ (lt_of_heap hO2) nq).trans hO2
                  have ho3 := ho1.trans ho2
                  clear cO fO
                  obtain ⟨cO, fO⟩ := hcell hO3
                  have c1 : w3.cell? ⟨q, 1, none⟩ = some (.int .i64 o1) := by rw [cO]; rfl
                  have c2 : w3.cell? ⟨q, 2, none⟩ = some (.int .i64 o2) := by rw [cO]; rfl
                  have KE := Lib.hid (fun (W : World) (hb : Below w3.heap.size w3 W) => (⟨(hb.cell (p := ⟨q, 1, none⟩) (World.block_lt_of_cell? w3 ⟨q, 1, none⟩ c1)).trans c1, (hb.cell (p := ⟨q, 2, none⟩) (World.block_lt_of_cell? w3 ⟨q, 2, none⟩ c2)).trans c2, hb⟩ : W.cell? ⟨q, 1, none⟩ = some (.int .i64 o1) ∧ W.cell? ⟨q, 2, none⟩ = some (.int .i64 o2) ∧ Below w3.heap.size w3 W))
                  have T3 := Lib.hid (fun (W : World) (hb : Below w3.heap.size w3 W) => (TV.out W (hA3.below hb)).mono (R' := fun e w' => e = .returned (.int .i64 tp) ∧ Below w3.heap.size w3 w') fun e w' ⟨h1, h2⟩ => ⟨h1, hb.trans (h2.mono hb.size)⟩)
                  have HF := Lib.hid (fun (W : World) (hb : Below w3.heap.size w3 W) => HoAt.of_only hA hT hb1 ha hw (Nat.le_succ_of_le hn) (hA3.below hb) okF hHF (ho3.trans (Only.of_below hb)))
                  clear cO fO hO2 hO3 hA2 hA3 ho1 ho2 ho3
                  go_upto_region 17 with fail
                  clear c1 c2
                  refine wp_region_held_drew (S := fun W => W.cell? ⟨q, 1, none⟩ = some (.int .i64 o1) ∧ W.cell? ⟨q, 2, none⟩ = some (.int .i64 o2) ∧ Below w3.heap.size w3 W) (by kernel_rfl) (KE.out _ (Below.refl _ _).drew) (fun hHeld => ?_)
                  refine wpAnyH_take (i := 0) (oi := ?oi39) (v := ?vv39) ?hi39 (by kernel_rfl) (by kernel_rfl) (by kernel_rfl) ?hQ39 ?hy39 (by assumption) ?rest39
                  case hi39 => (simp only [List.getElem?_toArray, List.getElem?_cons_zero]; rfl)
                  case hQ39 => exact fun _ _ _ h => h
                  case hy39 => (first | exact Or.inl ⟨by rfl, by intro w hSw; (try dsimp only at hSw); go_simp; with_reducible rfl⟩ | (refine Or.inr ⟨by rfl, ?_⟩; rfl))
                  simp only [Act.put, List.setIfInBounds_toArray, List.set_cons_zero, List.set_cons_succ]
                  refine wpAnyH_take (i := 1) (oi := ?oi40) (v := ?vv40) ?hi40 (by kernel_rfl) (by kernel_rfl) (by kernel_rfl) ?hQ40 ?hy40 (by assumption) ?rest40
                  case hi40 => (simp only [List.getElem?_toArray, List.getElem?_cons_succ, List.getElem?_cons_zero]; rfl)
                  case hQ40 => exact fun _ _ _ h => h
                  case hy40 => (first | exact Or.inl ⟨by rfl, by intro w hSw; (try dsimp only at hSw); go_simp; with_reducible rfl⟩ | (refine Or.inr ⟨by rfl, ?_⟩; rfl))
                  simp only [Act.put, List.setIfInBounds_toArray, List.set_cons_zero, List.set_cons_succ]
                  refine wpAnyH_take (i := 2) (oi := ?oi41) (v := ?vv41) ?hi41 (by kernel_rfl) (by kernel_rfl) (by kernel_rfl) ?hQ41 ?hy41 (by assumption) ?rest41
                  case hi41 => (simp only [List.getElem?_toArray, List.getElem?_cons_succ, List.getElem?_cons_zero]; rfl)
                  case hQ41 => exact fun _ _ _ h => h
                  case hy41 => (first | exact Or.inl ⟨by rfl, by intro w hSw; (try dsimp only at hSw); go_simp; with_reducible rfl⟩ | (refine Or.inr ⟨by rfl, ?_⟩; rfl))
                  simp only [Act.put, List.setIfInBounds_toArray, List.set_cons_zero, List.set_cons_succ]
                  refine wpAnyH_take (i := 3) (oi := ?oi42) (v := ?vv42) ?hi42 (by kernel_rfl) (by kernel_rfl) (by kernel_rfl) ?hQ42 ?hy42 (by assumption) ?rest42
                  case hi42 => (simp only [List.getElem?_toArray, List.getElem?_cons_succ, List.getElem?_cons_zero]; rfl)
                  case hQ42 => exact fun _ _ _ h => h
                  case hy42 => (first | exact Or.inl ⟨by rfl, by intro w hSw; (try dsimp only at hSw); go_simp; with_reducible rfl⟩ | (refine Or.inr ⟨by rfl, ?_⟩; rfl))
                  simp only [Act.put, List.setIfInBounds_toArray, List.set_cons_zero, List.set_cons_succ]
                  refine wpAnyH_take (i := 4) (oi := ?oi43) (v := ?vv43) ?hi43 (by kernel_rfl) (by kernel_rfl) (by kernel_rfl) ?hQ43 ?hy43 (by assumption) ?rest43
                  case hi43 => (simp only [List.getElem?_toArray, List.getElem?_cons_succ, List.getElem?_cons_zero]; rfl)
                  case hQ43 => exact fun _ _ _ h => h
                  case hy43 => (first | exact Or.inl ⟨by rfl, by intro w hSw; (try dsimp only at hSw); go_simp; with_reducible rfl⟩ | (refine Or.inr ⟨by rfl, ?_⟩; rfl))
                  simp only [Act.put, List.setIfInBounds_toArray, List.set_cons_zero, List.set_cons_succ]
                  refine wpAnyH_take (i := 5) (oi := ?oi44) (v := ?vv44) ?hi44 (by kernel_rfl) (by kernel_rfl) (by kernel_rfl) ?hQ44 ?hy44 (by assumption) ?rest44
                  case hi44 => (simp only [List.getElem?_toArray, List.getElem?_cons_succ, List.getElem?_cons_zero]; rfl)
                  case hQ44 => exact fun _ _ _ h => h
                  case hy44 => (first | exact Or.inl ⟨by rfl, by intro w hSw; (try dsimp only at hSw); go_simp; with_reducible rfl⟩ | (refine Or.inr ⟨by rfl, ?_⟩; rfl))
                  simp only [Act.put, List.setIfInBounds_toArray, List.set_cons_zero, List.set_cons_succ]
                  refine wpAnyH_take (i := 6) (oi := ?oi45) (v := ?vv45) ?hi45 (by kernel_rfl) (by kernel_rfl) (by kernel_rfl) ?hQ45 ?hy45 (by assumption) ?rest45
                  case hi45 => (simp only [List.getElem?_toArray, List.getElem?_cons_succ, List.getElem?_cons_zero]; rfl)
                  case hQ45 => exact fun _ _ _ h => h
                  case hy45 => (first | exact Or.inl ⟨by rfl, by intro w hSw; (try dsimp only at hSw); go_simp; with_reducible rfl⟩ | (refine Or.inr ⟨by rfl, ?_⟩; rfl))
                  simp only [Act.put, List.setIfInBounds_toArray, List.set_cons_zero, List.set_cons_succ]
                  refine wpAnyH_take (i := 7) (oi := ?oi46) (v := ?vv46) ?hi46 (by kernel_rfl) (by kernel_rfl) (by kernel_rfl) ?hQ46 ?hy46 (by assumption) ?rest46
                  case hi46 => (simp only [List.getElem?_toArray, List.getElem?_cons_succ, List.getElem?_cons_zero]; rfl)
                  case hQ46 => exact fun _ _ _ h => h
                  case hy46 => (first | exact Or.inl ⟨by rfl, by intro w hSw; (try dsimp only at hSw); go_simp; with_reducible rfl⟩ | (refine Or.inr ⟨by rfl, ?_⟩; rfl))
                  simp only [Act.put, List.setIfInBounds_toArray, List.set_cons_zero, List.set_cons_succ]
                  refine wpAnyH_take (i := 8) (oi := ?oi47) (v := ?vv47) ?hi47 (by kernel_rfl) (by kernel_rfl) (by kernel_rfl) ?hQ47 ?hy47 (by assumption) ?rest47
                  case hi47 => (simp only [List.getElem?_toArray, List.getElem?_cons_succ, List.getElem?_cons_zero]; rfl)
                  case hQ47 => exact fun _ _ _ h => h
                  case hy47 => (first | exact Or.inl ⟨by rfl, by intro w hSw; (try dsimp only at hSw); go_simp; with_reducible rfl⟩ | (refine Or.inr ⟨by rfl, ?_⟩; rfl))
                  simp only [Act.put, List.setIfInBounds_toArray, List.set_cons_zero, List.set_cons_succ]
                  refine wpAnyH_take (i := 9) (oi := ?oi48) (v := ?vv48) ?hi48 (by kernel_rfl) (by kernel_rfl) (by kernel_rfl) ?hQ48 ?hy48 (by assumption) ?rest48
                  case hi48 => (simp only [List.getElem?_toArray, List.getElem?_cons_succ, List.getElem?_cons_zero]; rfl)
                  case hQ48 => exact fun _ _ _ h => h
                  case hy48 => (first | exact Or.inl ⟨by rfl, by intro w hSw; (try dsimp only at hSw); go_simp; with_reducible rfl⟩ | (refine Or.inr ⟨by rfl, ?_⟩; rfl))
                  simp only [Act.put, List.setIfInBounds_toArray, List.set_cons_zero, List.set_cons_succ]
                  refine wpAnyH_take (i := 10) (oi := ?oi49) (v := ?vv49) ?hi49 (by kernel_rfl) (by kernel_rfl) (by kernel_rfl) ?hQ49 ?hy49 (by assumption) ?rest49
                  case hi49 => (simp only [List.getElem?_toArray, List.getElem?_cons_succ, List.getElem?_cons_zero]; rfl)
                  case hQ49 => exact fun _ _ _ h => h
                  case hy49 => (first | exact Or.inl ⟨by rfl, by intro w hSw; (try dsimp only at hSw); go_simp; with_reducible rfl⟩ | (refine Or.inr ⟨by rfl, ?_⟩; rfl))
                  simp only [Act.put, List.setIfInBounds_toArray, List.set_cons_zero, List.set_cons_succ]
                  refine wpAnyH_take (i := 11) (oi := ?oi50) (v := ?vv50) ?hi50 (by kernel_rfl) (by kernel_rfl) (by kernel_rfl) ?hQ50 ?hy50 (by assumption) ?rest50
                  case hi50 => (simp only [List.getElem?_toArray, List.getElem?_cons_succ, List.getElem?_cons_zero]; rfl)
                  case hQ50 => exact fun _ _ _ h => h
                  case hy50 => (first | exact Or.inl ⟨by rfl, by intro w hSw; (try dsimp only at hSw); go_simp; with_reducible rfl⟩ | (refine Or.inr ⟨by rfl, ?_⟩; rfl))
                  simp only [Act.put, List.setIfInBounds_toArray, List.set_cons_zero, List.set_cons_succ]
                  refine wpAnyH_take (i := 12) (oi := ?oi51) (v := ?vv51) ?hi51 (by kernel_rfl) (by kernel_rfl) (by kernel_rfl) ?hQ51 ?hy51 (by assumption) ?rest51
                  case hi51 => (simp only [List.getElem?_toArray, List.getElem?_cons_succ, List.getElem?_cons_zero]; rfl)
                  case hQ51 => exact fun _ _ _ h => h
                  case hy51 => (first | exact Or.inl ⟨by rfl, by intro w hSw; (try dsimp only at hSw); go_simp; with_reducible rfl⟩ | (refine Or.inr ⟨by rfl, ?_⟩; rfl))
                  simp only [Act.put, List.setIfInBounds_toArray, List.set_cons_zero, List.set_cons_succ]
                  refine wpAnyH_take (i := 13) (oi := ?oi52) (v := ?vv52) ?hi52 (by kernel_rfl) (by kernel_rfl) (by kernel_rfl) ?hQ52 ?hy52 (by assumption) ?rest52
                  case hi52 => (simp only [List.getElem?_toArray, List.getElem?_cons_succ, List.getElem?_cons_zero]; rfl)
                  case hQ52 => exact fun _ _ _ h => h
                  case hy52 => (first | exact Or.inl ⟨by rfl, by intro w hSw; (try dsimp only at hSw); go_simp; with_reducible rfl⟩ | (refine Or.inr ⟨by rfl, ?_⟩; rfl))
                  simp only [Act.put, List.setIfInBounds_toArray, List.set_cons_zero, List.set_cons_succ]
                  refine wpAnyH_take (i := 14) (oi := ?oi53) (v := ?vv53) ?hi53 (by kernel_rfl) (by kernel_rfl) (by kernel_rfl) ?hQ53 ?hy53 (by assumption) ?rest53
                  case hi53 => (simp only [List.getElem?_toArray, List.getElem?_cons_succ, List.getElem?_cons_zero]; rfl)
                  case hQ53 => exact fun _ _ _ h => h
                  case hy53 => (first | exact Or.inl ⟨by rfl, by intro w hSw; (try dsimp only at hSw); go_simp; with_reducible rfl⟩ | (refine Or.inr ⟨by rfl, ?_⟩; rfl))
                  simp only [Act.put, List.setIfInBounds_toArray, List.set_cons_zero, List.set_cons_succ]
                  refine wpAnyH_take (i := 15) (oi := ?oi54) (v := ?vv54) ?hi54 (by kernel_rfl) (by kernel_rfl) (by kernel_rfl) ?hQ54 ?hy54 (by assumption) ?rest54
                  case hi54 => (simp only [List.getElem?_toArray, List.getElem?_cons_succ, List.getElem?_cons_zero]; rfl)
                  case hQ54 => exact fun _ _ _ h => h
                  case hy54 => (first | exact Or.inl ⟨by rfl, by intro w hSw; (try dsimp only at hSw); go_simp; with_reducible rfl⟩ | (refine Or.inr ⟨by rfl, ?_⟩; rfl))
                  simp only [Act.put, List.setIfInBounds_toArray, List.set_cons_zero, List.set_cons_succ]
                  refine wpAnyH_take (i := 16) (oi := ?oi55) (v := ?vv55) ?hi55 (by kernel_rfl) (by kernel_rfl) (by kernel_rfl) ?hQ55 ?hy55 (by assumption) ?rest55
                  case hi55 => (simp only [List.getElem?_toArray, List.getElem?_cons_succ, List.getElem?_cons_zero]; rfl)
                  case hQ55 => exact fun _ _ _ h => h
                  case hy55 => (first | exact Or.inl ⟨by rfl, by intro w hSw; (try dsimp only at hSw); go_simp; with_reducible rfl⟩ | (refine Or.inr ⟨by rfl, ?_⟩; rfl))
                  simp only [Act.put, List.setIfInBounds_toArray, List.set_cons_zero, List.set_cons_succ]
                  refine wpAnyH_take (i := 17) (oi := ?oi56) (v := ?vv56) ?hi56 (by kernel_rfl) (by kernel_rfl) (by kernel_rfl) ?hQ56 ?hy56 (by assumption) ?rest56
                  case hi56 => (simp only [List.getElem?_toArray, List.getElem?_cons_succ, List.getElem?_cons_zero]; rfl)
                  case hQ56 => exact fun _ _ _ h => h
                  case hy56 => (first | exact Or.inl ⟨by rfl, by intro w hSw; (try dsimp only at hSw); go_simp; with_reducible rfl⟩ | (refine Or.inr ⟨by rfl, ?_⟩; rfl))
                  simp only [Act.put, List.setIfInBounds_toArray, List.set_cons_zero, List.set_cons_succ]
                  refine wpAnyH_take (i := 19) (oi := ?oi57) (v := ?vv57) ?hi57 (by kernel_rfl) (by kernel_rfl) (by kernel_rfl) ?hQ57 ?hy57 (by assumption) ?rest57
                  case hi57 => (simp only [List.getElem?_toArray, List.getElem?_cons_succ, List.getElem?_cons_zero]; rfl)
                  case hQ57 => exact fun _ _ _ h => h
                  case hy57 => (first | exact Or.inl ⟨by rfl, by intro w hSw; (try dsimp only at hSw); go_simp; with_reducible rfl⟩ | (refine Or.inr ⟨by rfl, ?_⟩; rfl))
                  simp only [Act.put, List.setIfInBounds_toArray, List.set_cons_zero, List.set_cons_succ]
                  refine wpAnyH_take (i := 20) (oi := ?oi58) (v := ?vv58) ?hi58 (by kernel_rfl) (by kernel_rfl) (by kernel_rfl) ?hQ58 ?hy58 (by assumption) ?rest58
                  case hi58 => (simp only [List.getElem?_toArray, List.getElem?_cons_succ, List.getElem?_cons_zero]; rfl)
                  case hQ58 => exact fun _ _ _ h => h
                  case hy58 => (first | exact Or.inl ⟨by rfl, by intro w hSw; (try dsimp only at hSw); go_simp; with_reducible rfl⟩ | (refine Or.inr ⟨by rfl, ?_⟩; rfl))
                  simp only [Act.put, List.setIfInBounds_toArray, List.set_cons_zero, List.set_cons_succ]
                  refine wpAnyH_take (i := 21) (oi := ?oi59) (v := ?vv59) ?hi59 (by kernel_rfl) (by kernel_rfl) (by kernel_rfl) ?hQ59 ?hy59 (by assumption) ?rest59
                  case hi59 => (simp only [List.getElem?_toArray, List.getElem?_cons_succ, List.getElem?_cons_zero]; rfl)
                  case hQ59 => exact fun _ _ _ h => h
                  case hy59 => (first | exact Or.inl ⟨by rfl, by intro w hSw; (try dsimp only at hSw); go_simp; with_reducible rfl⟩ | (refine Or.inr ⟨by rfl, ?_⟩; rfl))
                  simp only [Act.put, List.setIfInBounds_toArray, List.set_cons_zero, List.set_cons_succ]
                  refine wpAnyH_take (i := 22) (oi := ?oi60) (v := ?vv60) ?hi60 (by kernel_rfl) (by kernel_rfl) (by kernel_rfl) ?hQ60 ?hy60 (by assumption) ?rest60
                  case hi60 => (simp only [List.getElem?_toArray, List.getElem?_cons_succ, List.getElem?_cons_zero]; rfl)
                  case hQ60 => exact fun _ _ _ h => h
                  case hy60 => (first | exact Or.inl ⟨by rfl, by intro w hSw; (try dsimp only at hSw); go_simp; with_reducible rfl⟩ | (refine Or.inr ⟨by rfl, ?_⟩; rfl))
                  simp only [Act.put, List.setIfInBounds_toArray, List.set_cons_zero, List.set_cons_succ]
                  obtain ⟨_, _, hbw⟩ := hHeld
                  refine wpAnyH_ready (rs := [18]) (by kernel_rfl) (by simp) ?_
                  refine AllReadyH.cons (o := ?oc61) ?hi61 ?step61 AllReadyH.nil
                  case hi61 => (simp only [List.getElem?_toArray, List.getElem?_cons_succ, List.getElem?_cons_zero]; rfl)
                  intro K hK
                  go_simp
                  refine (T3.out _ hbw).mono ?_
                  rintro e w9 ⟨rfl, hq9⟩
                  refine hK.out _ _ (KE.out _ hq9) (fun hHeld => ?_)
                  clear hK K hbw
                  try simp only [Act.put, List.setIfInBounds_toArray, List.set_cons_zero, List.set_cons_succ]
                  refine wpAnyH_take (i := 23) (oi := ?oi62) (v := ?vv62) ?hi62 (by kernel_rfl) (by kernel_rfl) (by kernel_rfl) ?hQ62 ?hy62 (by assumption) ?rest62
                  case hi62 => (simp only [List.getElem?_toArray, List.getElem?_cons_succ, List.getElem?_cons_zero]; rfl)
                  case hQ62 => exact fun _ _ _ h => h
                  case hy62 => (first | exact Or.inl ⟨by rfl, by intro w hSw; (try dsimp only at hSw); go_simp; with_reducible rfl⟩ | (refine Or.inr ⟨by rfl, ?_⟩; rfl))
                  simp only [Act.put, List.setIfInBounds_toArray, List.set_cons_zero, List.set_cons_succ]
                  refine wpAnyH_take (i := 24) (oi := ?oi63) (v := ?vv63) ?hi63 (by kernel_rfl) (by kernel_rfl) (by kernel_rfl) ?hQ63 ?hy63 (by assumption) ?rest63
                  case hi63 => (simp only [List.getElem?_toArray, List.getElem?_cons_succ, List.getElem?_cons_zero]; rfl)
                  case hQ63 => exact fun _ _ _ h => h
                  case hy63 => (first | exact Or.inl ⟨by rfl, by intro w hSw; (try dsimp only at hSw); go_simp; with_reducible rfl⟩ | (refine Or.inr ⟨by rfl, ?_⟩; rfl))
                  simp only [Act.put, List.setIfInBounds_toArray, List.set_cons_zero, List.set_cons_succ]
                  refine wpAnyH_take (i := 25) (oi := ?oi64) (v := ?vv64) ?hi64 (by kernel_rfl) (by kernel_rfl) (by kernel_rfl) ?hQ64 ?hy64 (by assumption) ?rest64
                  case hi64 => (simp only [List.getElem?_toArray, List.getElem?_cons_succ, List.getElem?_cons_zero]; rfl)
                  case hQ64 => exact fun _ _ _ h => h
                  case hy64 => (first | exact Or.inl ⟨by rfl, by intro w hSw; (try dsimp only at hSw); go_simp; with_reducible rfl⟩ | (refine Or.inr ⟨by rfl, ?_⟩; rfl))
                  simp only [Act.put, List.setIfInBounds_toArray, List.set_cons_zero, List.set_cons_succ]
                  refine wpAnyH_take (i := 26) (oi := ?oi65) (v := ?vv65) ?hi65 (by kernel_rfl) (by kernel_rfl) (by kernel_rfl) ?hQ65 ?hy65 (by assumption) ?rest65
                  case hi65 => (simp only [List.getElem?_toArray, List.getElem?_cons_succ, List.getElem?_cons_zero]; rfl)
                  case hQ65 => exact fun _ _ _ h => h
                  case hy65 => (first | exact Or.inl ⟨by rfl, by intro w hSw; (try dsimp only at hSw); go_simp; with_reducible rfl⟩ | (refine Or.inr ⟨by rfl, ?_⟩; rfl))
                  simp only [Act.put, List.setIfInBounds_toArray, List.set_cons_zero, List.set_cons_succ]
                  refine wpAnyH_take (i := 27) (oi := ?oi66) (v := ?vv66) ?hi66 (by kernel_rfl) (by kernel_rfl) (by kernel_rfl) ?hQ66 ?hy66 (by assumption) ?rest66
                  case hi66 => (simp only [List.getElem?_toArray, List.getElem?_cons_succ, List.getElem?_cons_zero]; rfl)
                  case hQ66 => exact fun _ _ _ h => h
                  case hy66 => (first | exact Or.inl ⟨by rfl, by intro w hSw; (try dsimp only at hSw); go_simp; with_reducible rfl⟩ | (refine Or.inr ⟨by rfl, ?_⟩; rfl))
                  simp only [Act.put, List.setIfInBounds_toArray, List.set_cons_zero, List.set_cons_succ]
                  refine wpAnyH_take (i := 28) (oi := ?oi67) (v := ?vv67) ?hi67 (by kernel_rfl) (by kernel_rfl) (by kernel_rfl) ?hQ67 ?hy67 (by assumption) ?rest67
                  case hi67 => (simp only [List.getElem?_toArray, List.getElem?_cons_succ, List.getElem?_cons_zero]; rfl)
                  case hQ67 => exact fun _ _ _ h => h
                  case hy67 => (first | exact Or.inl ⟨by rfl, by intro w hSw; (try dsimp only at hSw); go_simp; with_reducible rfl⟩ | (refine Or.inr ⟨by rfl, ?_⟩; rfl))
                  simp only [Act.put, List.setIfInBounds_toArray, List.set_cons_zero, List.set_cons_succ]
                  refine wpAnyH_take (i := 29) (oi := ?oi68) (v := ?vv68) ?hi68 (by kernel_rfl) (by kernel_rfl) (by kernel_rfl) ?hQ68 ?hy68 (by assumption) ?rest68
                  case hi68 => (simp only [List.getElem?_toArray, List.getElem?_cons_succ, List.getElem?_cons_zero]; rfl)
                  case hQ68 => exact fun _ _ _ h => h
                  case hy68 => (first | exact Or.inl ⟨by rfl, by intro w hSw; (try dsimp only at hSw); go_simp; with_reducible rfl⟩ | (refine Or.inr ⟨by rfl, ?_⟩; rfl))
                  simp only [Act.put, List.setIfInBounds_toArray, List.set_cons_zero, List.set_cons_succ]
                  refine wpAnyH_take (i := 30) (oi := ?oi69) (v := ?vv69) ?hi69 (by kernel_rfl) (by kernel_rfl) (by kernel_rfl) ?hQ69 ?hy69 (by assumption) ?rest69
                  case hi69 => (simp only [List.getElem?_toArray, List.getElem?_cons_succ, List.getElem?_cons_zero]; rfl)
                  case hQ69 => exact fun _ _ _ h => h
                  case hy69 => (first | exact Or.inl ⟨by rfl, by intro w hSw; (try dsimp only at hSw); go_simp; with_reducible rfl⟩ | (refine Or.inr ⟨by rfl, ?_⟩; rfl))
                  simp only [Act.put, List.setIfInBounds_toArray, List.set_cons_zero, List.set_cons_succ]
                  refine wpAnyH_take (i := 31) (oi := ?oi70) (v := ?vv70) ?hi70 (by kernel_rfl) (by kernel_rfl) (by kernel_rfl) ?hQ70 ?hy70 (by assumption) ?rest70
                  case hi70 => (simp only [List.getElem?_toArray, List.getElem?_cons_succ, List.getElem?_cons_zero]; rfl)
                  case hQ70 => exact fun _ _ _ h => h
                  case hy70 => (first | exact Or.inl ⟨by rfl, by intro w hSw; (try dsimp only at hSw); go_simp; with_reducible rfl⟩ | (refine Or.inr ⟨by rfl, ?_⟩; rfl))
                  simp only [Act.put, List.setIfInBounds_toArray, List.set_cons_zero, List.set_cons_succ]
                  refine wpAnyH_take (i := 33) (oi := ?oi71) (v := ?vv71) ?hi71 (by kernel_rfl) (by kernel_rfl) (by kernel_rfl) ?hQ71 ?hy71 (by assumption) ?rest71
                  case hi71 => (simp only [List.getElem?_toArray, List.getElem?_cons_succ, List.getElem?_cons_zero]; rfl)
                  case hQ71 => exact fun _ _ _ h => h
                  case hy71 => (first | exact Or.inl ⟨by rfl, by intro w hSw; (try dsimp only at hSw); go_simp; with_reducible rfl⟩ | (refine Or.inr ⟨by rfl, ?_⟩; rfl))
                  simp only [Act.put, List.setIfInBounds_toArray, List.set_cons_zero, List.set_cons_succ]
                  obtain ⟨_, _, hbw⟩ := hHeld
                  refine wpAnyH_ready (rs := [32]) (by kernel_rfl) (by simp) ?_
                  refine AllReadyH.cons (o := ?oc72) ?hi72 ?step72 AllReadyH.nil
                  case hi72 => (simp only [List.getElem?_toArray, List.getElem?_cons_succ, List.getElem?_cons_zero]; rfl)
                  intro K hK
                  go_simp
                  refine (T3.out _ hbw).mono ?_
                  rintro e w9 ⟨rfl, hq9⟩
                  refine hK.out _ _ (KE.out _ hq9) (fun hHeld => ?_)
                  clear hK K hbw
                  try simp only [Act.put, List.setIfInBounds_toArray, List.set_cons_zero, List.set_cons_succ]
                  refine wpAnyH_take (i := 34) (oi := ?oi73) (v := ?vv73) ?hi73 (by kernel_rfl) (by kernel_rfl) (by kernel_rfl) ?hQ73 ?hy73 (by assumption) ?rest73
                  case hi73 => (simp only [List.getElem?_toArray, List.getElem?_cons_succ, List.getElem?_cons_zero]; rfl)
                  case hQ73 => exact fun _ _ _ h => h
                  case hy73 => (first | exact Or.inl ⟨by rfl, by intro w hSw; (try dsimp only at hSw); go_simp; with_reducible rfl⟩ | (refine Or.inr ⟨by rfl, ?_⟩; rfl))
                  simp only [Act.put, List.setIfInBounds_toArray, List.set_cons_zero, List.set_cons_succ]
                  refine wpAnyH_take (i := 35) (oi := ?oi74) (v := ?vv74) ?hi74 (by kernel_rfl) (by kernel_rfl) (by kernel_rfl) ?hQ74 ?hy74 (by assumption) ?rest74
                  case hi74 => (simp only [List.getElem?_toArray, List.getElem?_cons_succ, List.getElem?_cons_zero]; rfl)
                  case hQ74 => exact fun _ _ _ h => h
                  case hy74 => (first | exact Or.inl ⟨by rfl, by intro w hSw; (try dsimp only at hSw); go_simp; with_reducible rfl⟩ | (refine Or.inr ⟨by rfl, ?_⟩; rfl))
                  simp only [Act.put, List.setIfInBounds_toArray, List.set_cons_zero, List.set_cons_succ]
                  refine wpAnyH_take (i := 36) (oi := ?oi75) (v := ?vv75) ?hi75 (by kernel_rfl) (by kernel_rfl) (by kernel_rfl) ?hQ75 ?hy75 (by assumption) ?rest75
                  case hi75 => (simp only [List.getElem?_toArray, List.getElem?_cons_succ, List.getElem?_cons_zero]; rfl)
                  case hQ75 => exact fun _ _ _ h => h
                  case hy75 => (first | exact Or.inl ⟨by rfl, by intro w hSw; (try dsimp only at hSw); go_simp; with_reducible rfl⟩ | (refine Or.inr ⟨by rfl, ?_⟩; rfl))
                  simp only [Act.put, List.setIfInBounds_toArray, List.set_cons_zero, List.set_cons_succ]
                  refine wpAnyH_take (i := 37) (oi := ?oi76) (v := ?vv76) ?hi76 (by kernel_rfl) (by kernel_rfl) (by kernel_rfl) ?hQ76 ?hy76 (by assumption) ?rest76
                  case hi76 => (simp only [List.getElem?_toArray, List.getElem?_cons_succ, List.getElem?_cons_zero]; rfl)
                  case hQ76 => exact fun _ _ _ h => h
                  case hy76 => (first | exact Or.inl ⟨by rfl, by intro w hSw; (try dsimp only at hSw); go_simp; with_reducible rfl⟩ | (refine Or.inr ⟨by rfl, ?_⟩; rfl))
                  simp only [Act.put, List.setIfInBounds_toArray, List.set_cons_zero, List.set_cons_succ]
                  obtain ⟨_, _, hbw⟩ := hHeld
                  refine wpAnyH_done (by kernel_rfl) ?_ _
                  go_wp2_with fail
                  go_meet
                  exact ⟨rfl, HF.out _ hbw⟩
                · have e3 : decide (1 ≤ o2) = false := by simpa using s3
                  clear hne
                  go_wp2_with fail
                  refine (TT.out _ hA).mono ?_
                  rintro e w2 ⟨rfl, hq⟩
                  have hA2 := hA.below hq
                  have hO2 := (hq.block _ (lt_of_heap hO)).trans hO
                  have ho1 := Only.of_below (S := [a, wb]) hq
                  clear cO fO hq
                  obtain ⟨cO, fO⟩ := hcell hO2
                  go_wp2_with fail
                  refine (FL.out _ hA2).mono ?_
                  rintro e w3 ⟨rfl, hA3, ho2⟩
                  have hO3 := (ho2.block _ (lt_of_heap hO2) nq).trans hO2
                  have ho3 := ho1.trans ho2
                  clear cO fO
                  obtain ⟨cO, fO⟩ := hcell hO3
                  have c1 : w3.cell? ⟨q, 1, none⟩ = some (.int .i64 o1) := by rw [cO]; rfl
                  have c2 : w3.cell? ⟨q, 2, none⟩ = some (.int .i64 o2) := by rw [cO]; rfl
                  have KE := Lib.hid (fun (W : World) (hb : Below w3.heap.size w3 W) => (⟨(hb.cell (p := ⟨q, 1, none⟩) (World.block_lt_of_cell? w3 ⟨q, 1, none⟩ c1)).trans c1, (hb.cell (p := ⟨q, 2, none⟩) (World.block_lt_of_cell? w3 ⟨q, 2, none⟩ c2)).trans c2, hb⟩ : W.cell? ⟨q, 1, none⟩ = some (.int .i64 o1) ∧ W.cell? ⟨q, 2, none⟩ = some (.int .i64 o2) ∧ Below w3.heap.size w3 W))
                  have T3 := Lib.hid (fun (W : World) (hb : Below w3.heap.size w3 W) => (TV.out W (hA3.below hb)).mono (R' := fun e w' => e = .returned (.int .i64 tp) ∧ Below w3.heap.size w3 w') fun e w' ⟨h1, h2⟩ => ⟨h1, hb.trans (h2.mono hb.size)⟩)
                  have HF := Lib.hid (fun (W : World) (hb : Below w3.heap.size w3 W) => HoAt.of_only hA hT hb1 ha hw (Nat.le_succ_of_le hn) (hA3.below hb) okF hHF (ho3.trans (Only.of_below hb)))
                  clear cO fO hO2 hO3 hA2 hA3 ho1 ho2 ho3
                  go_upto_region 17 with fail
                  clear c1 c2
                  refine wp_region_held_drew (S := fun W => W.cell? ⟨q, 1, none⟩ = some (.int .i64 o1) ∧ W.cell? ⟨q, 2, none⟩ = some (.int .i64 o2) ∧ Below w3.heap.size w3 W) (by kernel_rfl) (KE.out _ (Below.refl _ _).drew) (fun hHeld => ?_)
                  refine wpAnyH_take (i := 0) (oi := ?oi77) (v := ?vv77) ?hi77 (by kernel_rfl) (by kernel_rfl) (by kernel_rfl) ?hQ77 ?hy77 (by assumption) ?rest77
                  case hi77 => (simp only [List.getElem?_toArray, List.getElem?_cons_zero]; rfl)
                  case hQ77 => exact fun _ _ _ h => h
                  case hy77 => (first | exact Or.inl ⟨by rfl, by intro w hSw; (try dsimp only at hSw); go_simp; with_reducible rfl⟩ | (refine Or.inr ⟨by rfl, ?_⟩; rfl))
                  simp only [Act.put, List.setIfInBounds_toArray, List.set_cons_zero, List.set_cons_succ]
                  refine wpAnyH_take (i := 1) (oi := ?oi78) (v := ?vv78) ?hi78 (by kernel_rfl) (by kernel_rfl) (by kernel_rfl) ?hQ78 ?hy78 (by assumption) ?rest78
                  case hi78 => (simp only [List.getElem?_toArray, List.getElem?_cons_succ, List.getElem?_cons_zero]; rfl)
                  case hQ78 => exact fun _ _ _ h => h
                  case hy78 => (first | exact Or.inl ⟨by rfl, by intro w hSw; (try dsimp only at hSw); go_simp; with_reducible rfl⟩ | (refine Or.inr ⟨by rfl, ?_⟩; rfl))
                  simp only [Act.put, List.setIfInBounds_toArray, List.set_cons_zero, List.set_cons_succ]
                  refine wpAnyH_take (i := 2) (oi := ?oi79) (v := ?vv79) ?hi79 (by kernel_rfl) (by kernel_rfl) (by kernel_rfl) ?hQ79 ?hy79 (by assumption) ?rest79
                  case hi79 => (simp only [List.getElem?_toArray, List.getElem?_cons_succ, List.getElem?_cons_zero]; rfl)
                  case hQ79 => exact fun _ _ _ h => h
                  case hy79 => (first | exact Or.inl ⟨by rfl, by intro w hSw; (try dsimp only at hSw); go_simp; with_reducible rfl⟩ | (refine Or.inr ⟨by rfl, ?_⟩; rfl))
                  simp only [Act.put, List.setIfInBounds_toArray, List.set_cons_zero, List.set_cons_succ]
                  refine wpAnyH_take (i := 3) (oi := ?oi80) (v := ?vv80) ?hi80 (by kernel_rfl) (by kernel_rfl) (by kernel_rfl) ?hQ80 ?hy80 (by assumption) ?rest80
                  case hi80 => (simp only [List.getElem?_toArray, List.getElem?_cons_succ, List.getElem?_cons_zero]; rfl)
                  case hQ80 => exact fun _ _ _ h => h
                  case hy80 => (first | exact Or.inl ⟨by rfl, by intro w hSw; (try dsimp only at hSw); go_simp; with_reducible rfl⟩ | (refine Or.inr ⟨by rfl, ?_⟩; rfl))
                  simp only [Act.put, List.setIfInBounds_toArray, List.set_cons_zero, List.set_cons_succ]
                  refine wpAnyH_take (i := 4) (oi := ?oi81) (v := ?vv81) ?hi81 (by kernel_rfl) (by kernel_rfl) (by kernel_rfl) ?hQ81 ?hy81 (by assumption) ?rest81
                  case hi81 => (simp only [List.getElem?_toArray, List.getElem?_cons_succ, List.getElem?_cons_zero]; rfl)
                  case hQ81 => exact fun _ _ _ h => h
                  case hy81 => (first | exact Or.inl ⟨by rfl, by intro w hSw; (try dsimp only at hSw); go_simp; with_reducible rfl⟩ | (refine Or.inr ⟨by rfl, ?_⟩; rfl))
                  simp only [Act.put, List.setIfInBounds_toArray, List.set_cons_zero, List.set_cons_succ]
                  refine wpAnyH_take (i := 5) (oi := ?oi82) (v := ?vv82) ?hi82 (by kernel_rfl) (by kernel_rfl) (by kernel_rfl) ?hQ82 ?hy82 (by assumption) ?rest82
                  case hi82 => (simp only [List.getElem?_toArray, List.getElem?_cons_succ, List.getElem?_cons_zero]; rfl)
                  case hQ82 => exact fun _ _ _ h => h
                  case hy82 => (first | exact Or.inl ⟨by rfl, by intro w hSw; (try dsimp only at hSw); go_simp; with_reducible rfl⟩ | (refine Or.inr ⟨by rfl, ?_⟩; rfl))
                  simp only [Act.put, List.setIfInBounds_toArray, List.set_cons_zero, List.set_cons_succ]
                  refine wpAnyH_take (i := 6) (oi := ?oi83) (v := ?vv83) ?hi83 (by kernel_rfl) (by kernel_rfl) (by kernel_rfl) ?hQ83 ?hy83 (by assumption) ?rest83
                  case hi83 => (simp only [List.getElem?_toArray, List.getElem?_cons_succ, List.getElem?_cons_zero]; rfl)
                  case hQ83 => exact fun _ _ _ h => h
                  case hy83 => (first | exact Or.inl ⟨by rfl, by intro w hSw; (try dsimp only at hSw); go_simp; with_reducible rfl⟩ | (refine Or.inr ⟨by rfl, ?_⟩; rfl))
                  simp only [Act.put, List.setIfInBounds_toArray, List.set_cons_zero, List.set_cons_succ]
                  refine wpAnyH_take (i := 7) (oi := ?oi84) (v := ?vv84) ?hi84 (by kernel_rfl) (by kernel_rfl) (by kernel_rfl) ?hQ84 ?hy84 (by assumption) ?rest84
                  case hi84 => (simp only [List.getElem?_toArray, List.getElem?_cons_succ, List.getElem?_cons_zero]; rfl)
                  case hQ84 => exact fun _ _ _ h => h
                  case hy84 => (first | exact Or.inl ⟨by rfl, by intro w hSw; (try dsimp only at hSw); go_simp; with_reducible rfl⟩ | (refine Or.inr ⟨by rfl, ?_⟩; rfl))
                  simp only [Act.put, List.setIfInBounds_toArray, List.set_cons_zero, List.set_cons_succ]
                  refine wpAnyH_take (i := 8) (oi := ?oi85) (v := ?vv85) ?hi85 (by kernel_rfl) (by kernel_rfl) (by kernel_rfl) ?hQ85 ?hy85 (by assumption) ?rest85
                  case hi85 => (simp only [List.getElem?_toArray, List.getElem?_cons_succ, List.getElem?_cons_zero]; rfl)
                  case hQ85 => exact fun _ _ _ h => h
                  case hy85 => (first | exact Or.inl ⟨by rfl, by intro w hSw; (try dsimp only at hSw); go_simp; with_reducible rfl⟩ | (refine Or.inr ⟨by rfl, ?_⟩; rfl))
                  simp only [Act.put, List.setIfInBounds_toArray, List.set_cons_zero, List.set_cons_succ]
                  refine wpAnyH_take (i := 9) (oi := ?oi86) (v := ?vv86) ?hi86 (by kernel_rfl) (by kernel_rfl) (by kernel_rfl) ?hQ86 ?hy86 (by assumption) ?rest86
                  case hi86 => (simp only [List.getElem?_toArray, List.getElem?_cons_succ, List.getElem?_cons_zero]; rfl)
                  case hQ86 => exact fun _ _ _ h => h
                  case hy86 => (first | exact Or.inl ⟨by rfl, by intro w hSw; (try dsimp only at hSw); go_simp; with_reducible rfl⟩ | (refine Or.inr ⟨by rfl, ?_⟩; rfl))
                  simp only [Act.put, List.setIfInBounds_toArray, List.set_cons_zero, List.set_cons_succ]
                  refine wpAnyH_take (i := 10) (oi := ?oi87) (v := ?vv87) ?hi87 (by kernel_rfl) (by kernel_rfl) (by kernel_rfl) ?hQ87 ?hy87 (by assumption) ?rest87
                  case hi87 => (simp only [List.getElem?_toArray, List.getElem?_cons_succ, List.getElem?_cons_zero]; rfl)
                  case hQ87 => exact fun _ _ _ h => h
                  case hy87 => (first | exact Or.inl ⟨by rfl, by intro w hSw; (try dsimp only at hSw); go_simp; with_reducible rfl⟩ | (refine Or.inr ⟨by rfl, ?_⟩; rfl))
                  simp only [Act.put, List.setIfInBounds_toArray, List.set_cons_zero, List.set_cons_succ]
                  refine wpAnyH_take (i := 11) (oi := ?oi88) (v := ?vv88) ?hi88 (by kernel_rfl) (by kernel_rfl) (by kernel_rfl) ?hQ88 ?hy88 (by assumption) ?rest88
                  case hi88 => (simp only [List.getElem?_toArray, List.getElem?_cons_succ, List.getElem?_cons_zero]; rfl)
                  case hQ88 => exact fun _ _ _ h => h
                  case hy88 => (first | exact Or.inl ⟨by rfl, by intro w hSw; (try dsimp only at hSw); go_simp; with_reducible rfl⟩ | (refine Or.inr ⟨by rfl, ?_⟩; rfl))
                  simp only [Act.put, List.setIfInBounds_toArray, List.set_cons_zero, List.set_cons_succ]
                  refine wpAnyH_take (i := 12) (oi := ?oi89) (v := ?vv89) ?hi89 (by kernel_rfl) (by kernel_rfl) (by kernel_rfl) ?hQ89 ?hy89 (by assumption) ?rest89
                  case hi89 => (simp only [List.getElem?_toArray, List.getElem?_cons_succ, List.getElem?_cons_zero]; rfl)
                  case hQ89 => exact fun _ _ _ h => h
                  case hy89 => (first | exact Or.inl ⟨by rfl, by intro w hSw; (try dsimp only at hSw); go_simp; with_reducible rfl⟩ | (refine Or.inr ⟨by rfl, ?_⟩; rfl))
                  simp only [Act.put, List.setIfInBounds_toArray, List.set_cons_zero, List.set_cons_succ]
                  refine wpAnyH_take (i := 13) (oi := ?oi90) (v := ?vv90) ?hi90 (by kernel_rfl) (by kernel_rfl) (by kernel_rfl) ?hQ90 ?hy90 (by assumption) ?rest90
                  case hi90 => (simp only [List.getElem?_toArray, List.getElem?_cons_succ, List.getElem?_cons_zero]; rfl)
                  case hQ90 => exact fun _ _ _ h => h
                  case hy90 => (first | exact Or.inl ⟨by rfl, by intro w hSw; (try dsimp only at hSw); go_simp; with_reducible rfl⟩ | (refine Or.inr ⟨by rfl, ?_⟩; rfl))
                  simp only [Act.put, List.setIfInBounds_toArray, List.set_cons_zero, List.set_cons_succ]
                  refine wpAnyH_take (i := 14) (oi := ?oi91) (v := ?vv91) ?hi91 (by kernel_rfl) (by kernel_rfl) (by kernel_rfl) ?hQ91 ?hy91 (by assumption) ?rest91
                  case hi91 => (simp only [List.getElem?_toArray, List.getElem?_cons_succ, List.getElem?_cons_zero]; rfl)
                  case hQ91 => exact fun _ _ _ h => h
                  case hy91 => (first | exact Or.inl ⟨by rfl, by intro w hSw; (try dsimp only at hSw); go_simp; with_reducible rfl⟩ | (refine Or.inr ⟨by rfl, ?_⟩; rfl))
                  simp only [Act.put, List.setIfInBounds_toArray, List.set_cons_zero, List.set_cons_succ]
                  refine wpAnyH_take (i := 15) (oi := ?oi92) (v := ?vv92) ?hi92 (by kernel_rfl) (by kernel_rfl) (by kernel_rfl) ?hQ92 ?hy92 (by assumption) ?rest92
                  case hi92 => (simp only [List.getElem?_toArray, List.getElem?_cons_succ, List.getElem?_cons_zero]; rfl)
                  case hQ92 => exact fun _ _ _ h => h
                  case hy92 => (first | exact Or.inl ⟨by rfl, by intro w hSw; (try dsimp only at hSw); go_simp; with_reducible rfl⟩ | (refine Or.inr ⟨by rfl, ?_⟩; rfl))
                  simp only [Act.put, List.setIfInBounds_toArray, List.set_cons_zero, List.set_cons_succ]
                  refine wpAnyH_take (i := 16) (oi := ?oi93) (v := ?vv93) ?hi93 (by kernel_rfl) (by kernel_rfl) (by kernel_rfl) ?hQ93 ?hy93 (by assumption) ?rest93
                  case hi93 => (simp only [List.getElem?_toArray, List.getElem?_cons_succ, List.getElem?_cons_zero]; rfl)
                  case hQ93 => exact fun _ _ _ h => h
                  case hy93 => (first | exact Or.inl ⟨by rfl, by intro w hSw; (try dsimp only at hSw); go_simp; with_reducible rfl⟩ | (refine Or.inr ⟨by rfl, ?_⟩; rfl))
                  simp only [Act.put, List.setIfInBounds_toArray, List.set_cons_zero, List.set_cons_succ]
                  refine wpAnyH_take (i := 17) (oi := ?oi94) (v := ?vv94) ?hi94 (by kernel_rfl) (by kernel_rfl) (by kernel_rfl) ?hQ94 ?hy94 (by assumption) ?rest94
                  case hi94 => (simp only [List.getElem?_toArray, List.getElem?_cons_succ, List.getElem?_cons_zero]; rfl)
                  case hQ94 => exact fun _ _ _ h => h
                  case hy94 => (first | exact Or.inl ⟨by rfl, by intro w hSw; (try dsimp only at hSw); go_simp; with_reducible rfl⟩ | (refine Or.inr ⟨by rfl, ?_⟩; rfl))
                  simp only [Act.put, List.setIfInBounds_toArray, List.set_cons_zero, List.set_cons_succ]
                  refine wpAnyH_take (i := 18) (oi := ?oi95) (v := ?vv95) ?hi95 (by kernel_rfl) (by kernel_rfl) (by kernel_rfl) ?hQ95 ?hy95 (by assumption) ?rest95
                  case hi95 => (simp only [List.getElem?_toArray, List.getElem?_cons_succ, List.getElem?_cons_zero]; rfl)
                  case hQ95 => exact fun _ _ _ h => h
                  case hy95 => (first | exact Or.inl ⟨by rfl, by intro w hSw; (try dsimp only at hSw); go_simp; with_reducible rfl⟩ | (refine Or.inr ⟨by rfl, ?_⟩; rfl))
                  simp only [Act.put, List.setIfInBounds_toArray, List.set_cons_zero, List.set_cons_succ]
                  refine wpAnyH_take (i := 19) (oi := ?oi96) (v := ?vv96) ?hi96 (by kernel_rfl) (by kernel_rfl) (by kernel_rfl) ?hQ96 ?hy96 (by assumption) ?rest96
                  case hi96 => (simp only [List.getElem?_toArray, List.getElem?_cons_succ, List.getElem?_cons_zero]; rfl)
                  case hQ96 => exact fun _ _ _ h => h
                  case hy96 => (first | exact Or.inl ⟨by rfl, by intro w hSw; (try dsimp only at hSw); go_simp; with_reducible rfl⟩ | (refine Or.inr ⟨by rfl, ?_⟩; rfl))
                  simp only [Act.put, List.setIfInBounds_toArray, List.set_cons_zero, List.set_cons_succ]
                  refine wpAnyH_take (i := 20) (oi := ?oi97) (v := ?vv97) ?hi97 (by kernel_rfl) (by kernel_rfl) (by kernel_rfl) ?hQ97 ?hy97 (by assumption) ?rest97
                  case hi97 => (simp only [List.getElem?_toArray, List.getElem?_cons_succ, List.getElem?_cons_zero]; rfl)
                  case hQ97 => exact fun _ _ _ h => h
                  case hy97 => (first | exact Or.inl ⟨by rfl, by intro w hSw; (try dsimp only at hSw); go_simp; with_reducible rfl⟩ | (refine Or.inr ⟨by rfl, ?_⟩; rfl))
                  simp only [Act.put, List.setIfInBounds_toArray, List.set_cons_zero, List.set_cons_succ]
                  refine wpAnyH_take (i := 21) (oi := ?oi98) (v := ?vv98) ?hi98 (by kernel_rfl) (by kernel_rfl) (by kernel_rfl) ?hQ98 ?hy98 (by assumption) ?rest98
                  case hi98 => (simp only [List.getElem?_toArray, List.getElem?_cons_succ, List.getElem?_cons_zero]; rfl)
                  case hQ98 => exact fun _ _ _ h => h
                  case hy98 => (first | exact Or.inl ⟨by rfl, by intro w hSw; (try dsimp only at hSw); go_simp; with_reducible rfl⟩ | (refine Or.inr ⟨by rfl, ?_⟩; rfl))
                  simp only [Act.put, List.setIfInBounds_toArray, List.set_cons_zero, List.set_cons_succ]
                  refine wpAnyH_take (i := 22) (oi := ?oi99) (v := ?vv99) ?hi99 (by kernel_rfl) (by kernel_rfl) (by kernel_rfl) ?hQ99 ?hy99 (by assumption) ?rest99
                  case hi99 => (simp only [List.getElem?_toArray, List.getElem?_cons_succ, List.getElem?_cons_zero]; rfl)
                  case hQ99 => exact fun _ _ _ h => h
                  case hy99 => (first | exact Or.inl ⟨by rfl, by intro w hSw; (try dsimp only at hSw); go_simp; with_reducible rfl⟩ | (refine Or.inr ⟨by rfl, ?_⟩; rfl))
                  simp only [Act.put, List.setIfInBounds_toArray, List.set_cons_zero, List.set_cons_succ]
                  refine wpAnyH_take (i := 23) (oi := ?oi100) (v := ?vv100) ?hi100 (by kernel_rfl) (by kernel_rfl) (by kernel_rfl) ?hQ100 ?hy100 (by assumption) ?rest100
                  case hi100 => (simp only [List.getElem?_toArray, List.getElem?_cons_succ, List.getElem?_cons_zero]; rfl)
                  case hQ100 => exact fun _ _ _ h => h
                  case hy100 => (first | exact Or.inl ⟨by rfl, by intro w hSw; (try dsimp only at hSw); go_simp; with_reducible rfl⟩ | (refine Or.inr ⟨by rfl, ?_⟩; rfl))
                  simp only [Act.put, List.setIfInBounds_toArray, List.set_cons_zero, List.set_cons_succ]
                  refine wpAnyH_take (i := 24) (oi := ?oi101) (v := ?vv101) ?hi101 (by kernel_rfl) (by kernel_rfl) (by kernel_rfl) ?hQ101 ?hy101 (by assumption) ?rest101
                  case hi101 => (simp only [List.getElem?_toArray, List.getElem?_cons_succ, List.getElem?_cons_zero]; rfl)
                  case hQ101 => exact fun _ _ _ h => h
                  case hy101 => (first | exact Or.inl ⟨by rfl, by intro w hSw; (try dsimp only at hSw); go_simp; with_reducible rfl⟩ | (refine Or.inr ⟨by rfl, ?_⟩; rfl))
                  simp only [Act.put, List.setIfInBounds_toArray, List.set_cons_zero, List.set_cons_succ]
                  refine wpAnyH_take (i := 25) (oi := ?oi102) (v := ?vv102) ?hi102 (by kernel_rfl) (by kernel_rfl) (by kernel_rfl) ?hQ102 ?hy102 (by assumption) ?rest102
                  case hi102 => (simp only [List.getElem?_toArray, List.getElem?_cons_succ, List.getElem?_cons_zero]; rfl)
                  case hQ102 => exact fun _ _ _ h => h
                  case hy102 => (first | exact Or.inl ⟨by rfl, by intro w hSw; (try dsimp only at hSw); go_simp; with_reducible rfl⟩ | (refine Or.inr ⟨by rfl, ?_⟩; rfl))
                  simp only [Act.put, List.setIfInBounds_toArray, List.set_cons_zero, List.set_cons_succ]
                  refine wpAnyH_take (i := 26) (oi := ?oi103) (v := ?vv103) ?hi103 (by kernel_rfl) (by kernel_rfl) (by kernel_rfl) ?hQ103 ?hy103 (by assumption) ?rest103
                  case hi103 => (simp only [List.getElem?_toArray, List.getElem?_cons_succ, List.getElem?_cons_zero]; rfl)
                  case hQ103 => exact fun _ _ _ h => h
                  case hy103 => (first | exact Or.inl ⟨by rfl, by intro w hSw; (try dsimp only at hSw); go_simp; with_reducible rfl⟩ | (refine Or.inr ⟨by rfl, ?_⟩; rfl))
                  simp only [Act.put, List.setIfInBounds_toArray, List.set_cons_zero, List.set_cons_succ]
                  refine wpAnyH_take (i := 27) (oi := ?oi104) (v := ?vv104) ?hi104 (by kernel_rfl) (by kernel_rfl) (by kernel_rfl) ?hQ104 ?hy104 (by assumption) ?rest104
                  case hi104 => (simp only [List.getElem?_toArray, List.getElem?_cons_succ, List.getElem?_cons_zero]; rfl)
                  case hQ104 => exact fun _ _ _ h => h
                  case hy104 => (first | exact Or.inl ⟨by rfl, by intro w hSw; (try dsimp only at hSw); go_simp; with_reducible rfl⟩ | (refine Or.inr ⟨by rfl, ?_⟩; rfl))
                  simp only [Act.put, List.setIfInBounds_toArray, List.set_cons_zero, List.set_cons_succ]
                  refine wpAnyH_take (i := 28) (oi := ?oi105) (v := ?vv105) ?hi105 (by kernel_rfl) (by kernel_rfl) (by kernel_rfl) ?hQ105 ?hy105 (by assumption) ?rest105
                  case hi105 => (simp only [List.getElem?_toArray, List.getElem?_cons_succ, List.getElem?_cons_zero]; rfl)
                  case hQ105 => exact fun _ _ _ h => h
                  case hy105 => (first | exact Or.inl ⟨by rfl, by intro w hSw; (try dsimp only at hSw); go_simp; with_reducible rfl⟩ | (refine Or.inr ⟨by rfl, ?_⟩; rfl))
                  simp only [Act.put, List.setIfInBounds_toArray, List.set_cons_zero, List.set_cons_succ]
                  refine wpAnyH_take (i := 29) (oi := ?oi106) (v := ?vv106) ?hi106 (by kernel_rfl) (by kernel_rfl) (by kernel_rfl) ?hQ106 ?hy106 (by assumption) ?rest106
                  case hi106 => (simp only [List.getElem?_toArray, List.getElem?_cons_succ, List.getElem?_cons_zero]; rfl)
                  case hQ106 => exact fun _ _ _ h => h
                  case hy106 => (first | exact Or.inl ⟨by rfl, by intro w hSw; (try dsimp only at hSw); go_simp; with_reducible rfl⟩ | (refine Or.inr ⟨by rfl, ?_⟩; rfl))
                  simp only [Act.put, List.setIfInBounds_toArray, List.set_cons_zero, List.set_cons_succ]
                  refine wpAnyH_take (i := 30) (oi := ?oi107) (v := ?vv107) ?hi107 (by kernel_rfl) (by kernel_rfl) (by kernel_rfl) ?hQ107 ?hy107 (by assumption) ?rest107
                  case hi107 => (simp only [List.getElem?_toArray, List.getElem?_cons_succ, List.getElem?_cons_zero]; rfl)
                  case hQ107 => exact fun _ _ _ h => h
                  case hy107 => (first | exact Or.inl ⟨by rfl, by intro w hSw; (try dsimp only at hSw); go_simp; with_reducible rfl⟩ | (refine Or.inr ⟨by rfl, ?_⟩; rfl))
                  simp only [Act.put, List.setIfInBounds_toArray, List.set_cons_zero, List.set_cons_succ]
                  refine wpAnyH_take (i := 31) (oi := ?oi108) (v := ?vv108) ?hi108 (by kernel_rfl) (by kernel_rfl) (by kernel_rfl) ?hQ108 ?hy108 (by assumption) ?rest108
                  case hi108 => (simp only [List.getElem?_toArray, List.getElem?_cons_succ, List.getElem?_cons_zero]; rfl)
                  case hQ108 => exact fun _ _ _ h => h
                  case hy108 => (first | exact Or.inl ⟨by rfl, by intro w hSw; (try dsimp only at hSw); go_simp; with_reducible rfl⟩ | (refine Or.inr ⟨by rfl, ?_⟩; rfl))
                  simp only [Act.put, List.setIfInBounds_toArray, List.set_cons_zero, List.set_cons_succ]
                  refine wpAnyH_take (i := 33) (oi := ?oi109) (v := ?vv109) ?hi109 (by kernel_rfl) (by kernel_rfl) (by kernel_rfl) ?hQ109 ?hy109 (by assumption) ?rest109
                  case hi109 => (simp only [List.getElem?_toArray, List.getElem?_cons_succ, List.getElem?_cons_zero]; rfl)
                  case hQ109 => exact fun _ _ _ h => h
                  case hy109 => (first | exact Or.inl ⟨by rfl, by intro w hSw; (try dsimp only at hSw); go_simp; with_reducible rfl⟩ | (refine Or.inr ⟨by rfl, ?_⟩; rfl))
                  simp only [Act.put, List.setIfInBounds_toArray, List.set_cons_zero, List.set_cons_succ]
                  obtain ⟨_, _, hbw⟩ := hHeld
                  refine wpAnyH_ready (rs := [32]) (by kernel_rfl) (by simp) ?_
                  refine AllReadyH.cons (o := ?oc110) ?hi110 ?step110 AllReadyH.nil
                  case hi110 => (simp only [List.getElem?_toArray, List.getElem?_cons_succ, List.getElem?_cons_zero]; rfl)
                  intro K hK
                  go_simp
                  refine (T3.out _ hbw).mono ?_
                  rintro e w9 ⟨rfl, hq9⟩
                  refine hK.out _ _ (KE.out _ hq9) (fun hHeld => ?_)
                  clear hK K hbw
                  try simp only [Act.put, List.setIfInBounds_toArray, List.set_cons_zero, List.set_cons_succ]
                  refine wpAnyH_take (i := 34) (oi := ?oi111) (v := ?vv111) ?hi111 (by kernel_rfl) (by kernel_rfl) (by kernel_rfl) ?hQ111 ?hy111 (by assumption) ?rest111
                  case hi111 => (simp only [List.getElem?_toArray, List.getElem?_cons_succ, List.getElem?_cons_zero]; rfl)
                  case hQ111 => exact fun _ _ _ h => h
                  case hy111 => (first | exact Or.inl ⟨by rfl, by intro w hSw; (try dsimp only at hSw); go_simp; with_reducible rfl⟩ | (refine Or.inr ⟨by rfl, ?_⟩; rfl))
                  simp only [Act.put, List.setIfInBounds_toArray, List.set_cons_zero, List.set_cons_succ]
                  refine wpAnyH_take (i := 35) (oi := ?oi112) (v := ?vv112) ?hi112 (by kernel_rfl) (by kernel_rfl) (by kernel_rfl) ?hQ112 ?hy112 (by assumption) ?rest112
                  case hi112 => (simp only [List.getElem?_toArray, List.getElem?_cons_succ, List.getElem?_cons_zero]; rfl)
                  case hQ112 => exact fun _ _ _ h => h
                  case hy112 => (first | exact Or.inl ⟨by rfl, by intro w hSw; (try dsimp only at hSw); go_simp; with_reducible rfl⟩ | (refine Or.inr ⟨by rfl, ?_⟩; rfl))
                  simp only [Act.put, List.setIfInBounds_toArray, List.set_cons_zero, List.set_cons_succ]
                  refine wpAnyH_take (i := 36) (oi := ?oi113) (v := ?vv113) ?hi113 (by kernel_rfl) (by kernel_rfl) (by kernel_rfl) ?hQ113 ?hy113 (by assumption) ?rest113
                  case hi113 => (simp only [List.getElem?_toArray, List.getElem?_cons_succ, List.getElem?_cons_zero]; rfl)
                  case hQ113 => exact fun _ _ _ h => h
                  case hy113 => (first | exact Or.inl ⟨by rfl, by intro w hSw; (try dsimp only at hSw); go_simp; with_reducible rfl⟩ | (refine Or.inr ⟨by rfl, ?_⟩; rfl))
                  simp only [Act.put, List.setIfInBounds_toArray, List.set_cons_zero, List.set_cons_succ]
                  refine wpAnyH_take (i := 37) (oi := ?oi114) (v := ?vv114) ?hi114 (by kernel_rfl) (by kernel_rfl) (by kernel_rfl) ?hQ114 ?hy114 (by assumption) ?rest114
                  case hi114 => (simp only [List.getElem?_toArray, List.getElem?_cons_succ, List.getElem?_cons_zero]; rfl)
                  case hQ114 => exact fun _ _ _ h => h
                  case hy114 => (first | exact Or.inl ⟨by rfl, by intro w hSw; (try dsimp only at hSw); go_simp; with_reducible rfl⟩ | (refine Or.inr ⟨by rfl, ?_⟩; rfl))
                  simp only [Act.put, List.setIfInBounds_toArray, List.set_cons_zero, List.set_cons_succ]
                  obtain ⟨_, _, hbw⟩ := hHeld
                  refine wpAnyH_done (by kernel_rfl) ?_ _
                  go_wp2_with fail
                  go_meet
                  exact ⟨rfl, HF.out _ hbw⟩
              · have e2 : decide (o1 ≤ 4) = false := by simpa using s2
                clear hne
                go_wp2_with fail
                refine (TT.out _ hA).mono ?_
                rintro e w2 ⟨rfl, hq⟩
                have hA2 := hA.below hq
                have hO2 := (hq.block _ (lt_of_heap hO)).trans hO
                have ho1 := Only.of_below (S := [a, wb]) hq
                clear cO fO hq
                obtain ⟨cO, fO⟩ := hcell hO2
                go_wp2_with fail
                refine (FL.out _ hA2).mono ?_
                rintro e w3 ⟨rfl, hA3, ho2⟩
                have hO3 := (ho2.block _ (lt_of_heap hO2) nq).trans hO2
                have ho3 := ho1.trans ho2
                clear cO fO
                obtain ⟨cO, fO⟩ := hcell hO3
                have c1 : w3.cell? ⟨q, 1, none⟩ = some (.int .i64 o1) := by rw [cO]; rfl
                have c2 : w3.cell? ⟨q, 2, none⟩ = some (.int .i64 o2) := by rw [cO]; rfl
                have KE := Lib.hid (fun (W : World) (hb : Below w3.heap.size w3 W) => (⟨(hb.cell (p := ⟨q, 1, none⟩) (World.block_lt_of_cell? w3 ⟨q, 1, none⟩ c1)).trans c1, (hb.cell (p := ⟨q, 2, none⟩) (World.block_lt_of_cell? w3 ⟨q, 2, none⟩ c2)).trans c2, hb⟩ : W.cell? ⟨q, 1, none⟩ = some (.int .i64 o1) ∧ W.cell? ⟨q, 2, none⟩ = some (.int .i64 o2) ∧ Below w3.heap.size w3 W))
                have T3 := Lib.hid (fun (W : World) (hb : Below w3.heap.size w3 W) => (TV.out W (hA3.below hb)).mono (R' := fun e w' => e = .returned (.int .i64 tp) ∧ Below w3.heap.size w3 w') fun e w' ⟨h1, h2⟩ => ⟨h1, hb.trans (h2.mono hb.size)⟩)
                have HF := Lib.hid (fun (W : World) (hb : Below w3.heap.size w3 W) => HoAt.of_only hA hT hb1 ha hw (Nat.le_succ_of_le hn) (hA3.below hb) okF hHF (ho3.trans (Only.of_below hb)))
                clear cO fO hO2 hO3 hA2 hA3 ho1 ho2 ho3
                go_upto_region 17 with fail
                clear c1 c2
                refine wp_region_held_drew (S := fun W => W.cell? ⟨q, 1, none⟩ = some (.int .i64 o1) ∧ W.cell? ⟨q, 2, none⟩ = some (.int .i64 o2) ∧ Below w3.heap.size w3 W) (by kernel_rfl) (KE.out _ (Below.refl _ _).drew) (fun hHeld => ?_)
                refine wpAnyH_take (i := 0) (oi := ?oi115) (v := ?vv115) ?hi115 (by kernel_rfl) (by kernel_rfl) (by kernel_rfl) ?hQ115 ?hy115 (by assumption) ?rest115
                case hi115 => (simp only [List.getElem?_toArray, List.getElem?_cons_zero]; rfl)
                case hQ115 => exact fun _ _ _ h => h
                case hy115 => (first | exact Or.inl ⟨by rfl, by intro w hSw; (try dsimp only at hSw); go_simp; with_reducible rfl⟩ | (refine Or.inr ⟨by rfl, ?_⟩; rfl))
                simp only [Act.put, List.setIfInBounds_toArray, List.set_cons_zero, List.set_cons_succ]
                refine wpAnyH_take (i := 1) (oi := ?oi116) (v := ?vv116) ?hi116 (by kernel_rfl) (by kernel_rfl) (by kernel_rfl) ?hQ116 ?hy116 (by assumption) ?rest116
                case hi116 => (simp only [List.getElem?_toArray, List.getElem?_cons_succ, List.getElem?_cons_zero]; rfl)
                case hQ116 => exact fun _ _ _ h => h
                case hy116 => (first | exact Or.inl ⟨by rfl, by intro w hSw; (try dsimp only at hSw); go_simp; with_reducible rfl⟩ | (refine Or.inr ⟨by rfl, ?_⟩; rfl))
                simp only [Act.put, List.setIfInBounds_toArray, List.set_cons_zero, List.set_cons_succ]
                refine wpAnyH_take (i := 2) (oi := ?oi117) (v := ?vv117) ?hi117 (by kernel_rfl) (by kernel_rfl) (by kernel_rfl) ?hQ117 ?hy117 (by assumption) ?rest117
                case hi117 => (simp only [List.getElem?_toArray, List.getElem?_cons_succ, List.getElem?_cons_zero]; rfl)
                case hQ117 => exact fun _ _ _ h => h
                case hy117 => (first | exact Or.inl ⟨by rfl, by intro w hSw; (try dsimp only at hSw); go_simp; with_reducible rfl⟩ | (refine Or.inr ⟨by rfl, ?_⟩; rfl))
                simp only [Act.put, List.setIfInBounds_toArray, List.set_cons_zero, List.set_cons_succ]
                refine wpAnyH_take (i := 3) (oi := ?oi118) (v := ?vv118) ?hi118 (by kernel_rfl) (by kernel_rfl) (by kernel_rfl) ?hQ118 ?hy118 (by assumption) ?rest118
                case hi118 => (simp only [List.getElem?_toArray, List.getElem?_cons_succ, List.getElem?_cons_zero]; rfl)
                case hQ118 => exact fun _ _ _ h => h
                case hy118 => (first | exact Or.inl ⟨by rfl, by intro w hSw; (try dsimp only at hSw); go_simp; with_reducible rfl⟩ | (refine Or.inr ⟨by rfl, ?_⟩; rfl))
                simp only [Act.put, List.setIfInBounds_toArray, List.set_cons_zero, List.set_cons_succ]
                refine wpAnyH_take (i := 4) (oi := ?oi119) (v := ?vv119) ?hi119 (by kernel_rfl) (by kernel_rfl) (by kernel_rfl) ?hQ119 ?hy119 (by assumption) ?rest119
                case hi119 => (simp only [List.getElem?_toArray, List.getElem?_cons_succ, List.getElem?_cons_zero]; rfl)
                case hQ119 => exact fun _ _ _ h => h
                case hy119 => (first | exact Or.inl ⟨by rfl, by intro w hSw; (try dsimp only at hSw); go_simp; with_reducible rfl⟩ | (refine Or.inr ⟨by rfl, ?_⟩; rfl))
                simp only [Act.put, List.setIfInBounds_toArray, List.set_cons_zero, List.set_cons_succ]
                refine wpAnyH_take (i := 5) (oi := ?oi120) (v := ?vv120) ?hi120 (by kernel_rfl) (by kernel_rfl) (by kernel_rfl) ?hQ120 ?hy120 (by assumption) ?rest120
                case hi120 => (simp only [List.getElem?_toArray, List.getElem?_cons_succ, List.getElem?_cons_zero]; rfl)
                case hQ120 => exact fun _ _ _ h => h
                case hy120 => (first | exact Or.inl ⟨by rfl, by intro w hSw; (try dsimp only at hSw); go_simp; with_reducible rfl⟩ | (refine Or.inr ⟨by rfl, ?_⟩; rfl))
                simp only [Act.put, List.setIfInBounds_toArray, List.set_cons_zero, List.set_cons_succ]
                refine wpAnyH_take (i := 6) (oi := ?oi121) (v := ?vv121) ?hi121 (by kernel_rfl) (by kernel_rfl) (by kernel_rfl) ?hQ121 ?hy121 (by assumption) ?rest121
                case hi121 => (simp only [List.getElem?_toArray, List.getElem?_cons_succ, List.getElem?_cons_zero]; rfl)
                case hQ121 => exact fun _ _ _ h => h
                case hy121 => (first | exact Or.inl ⟨by rfl, by intro w hSw; (try dsimp only at hSw); go_simp; with_reducible rfl⟩ | (refine Or.inr ⟨by rfl, ?_⟩; rfl))
                simp only [Act.put, List.setIfInBounds_toArray, List.set_cons_zero, List.set_cons_succ]
                refine wpAnyH_take (i := 7) (oi := ?oi122) (v := ?vv122) ?hi122 (by kernel_rfl) (by kernel_rfl) (by kernel_rfl) ?hQ122 ?hy122 (by assumption) ?rest122
                case hi122 => (simp only [List.getElem?_toArray, List.getElem?_cons_succ, List.getElem?_cons_zero]; rfl)
                case hQ122 => exact fun _ _ _ h => h
                case hy122 => (first | exact Or.inl ⟨by rfl, by intro w hSw; (try dsimp only at hSw); go_simp; with_reducible rfl⟩ | (refine Or.inr ⟨by rfl, ?_⟩; rfl))
                simp only [Act.put, List.setIfInBounds_toArray, List.set_cons_zero, List.set_cons_succ]
                refine wpAnyH_take (i := 8) (oi := ?oi123) (v := ?vv123) ?hi123 (by kernel_rfl) (by kernel_rfl) (by kernel_rfl) ?hQ123 ?hy123 (by assumption) ?rest123
                case hi123 => (simp only [List.getElem?_toArray, List.getElem?_cons_succ, List.getElem?_cons_zero]; rfl)
                case hQ123 => exact fun _ _ _ h => h
                case hy123 => (first | exact Or.inl ⟨by rfl, by intro w hSw; (try dsimp only at hSw); go_simp; with_reducible rfl⟩ | (refine Or.inr ⟨by rfl, ?_⟩; rfl))
                simp only [Act.put, List.setIfInBounds_toArray, List.set_cons_zero, List.set_cons_succ]
                refine wpAnyH_take (i := 9) (oi := ?oi124) (v := ?vv124) ?hi124 (by kernel_rfl) (by kernel_rfl) (by kernel_rfl) ?hQ124 ?hy124 (by assumption) ?rest124
                case hi124 => (simp only [List.getElem?_toArray, List.getElem?_cons_succ, List.getElem?_cons_zero]; rfl)
                case hQ124 => exact fun _ _ _ h => h
                case hy124 => (first | exact Or.inl ⟨by rfl, by intro w hSw; (try dsimp only at hSw); go_simp; with_reducible rfl⟩ | (refine Or.inr ⟨by rfl, ?_⟩; rfl))
                simp only [Act.put, List.setIfInBounds_toArray, List.set_cons_zero, List.set_cons_succ]
                refine wpAnyH_take (i := 10) (oi := ?oi125) (v := ?vv125) ?hi125 (by kernel_rfl) (by kernel_rfl) (by kernel_rfl) ?hQ125 ?hy125 (by assumption) ?rest125
                case hi125 => (simp only [List.getElem?_toArray, List.getElem?_cons_succ, List.getElem?_cons_zero]; rfl)
                case hQ125 => exact fun _ _ _ h => h
                case hy125 => (first | exact Or.inl ⟨by rfl, by intro w hSw; (try dsimp only at hSw); go_simp; with_reducible rfl⟩ | (refine Or.inr ⟨by rfl, ?_⟩; rfl))
                simp only [Act.put, List.setIfInBounds_toArray, List.set_cons_zero, List.set_cons_succ]
                refine wpAnyH_take (i := 11) (oi := ?oi126) (v := ?vv126) ?hi126 (by kernel_rfl) (by kernel_rfl) (by kernel_rfl) ?hQ126 ?hy126 (by assumption) ?rest126
                case hi126 => (simp only [List.getElem?_toArray, List.getElem?_cons_succ, List.getElem?_cons_zero]; rfl)
                case hQ126 => exact fun _ _ _ h => h
                case hy126 => (first | exact Or.inl ⟨by rfl, by intro w hSw; (try dsimp only at hSw); go_simp; with_reducible rfl⟩ | (refine Or.inr ⟨by rfl, ?_⟩; rfl))
                simp only [Act.put, List.setIfInBounds_toArray, List.set_cons_zero, List.set_cons_succ]
                refine wpAnyH_take (i := 12) (oi := ?oi127) (v := ?vv127) ?hi127 (by kernel_rfl) (by kernel_rfl) (by kernel_rfl) ?hQ127 ?hy127 (by assumption) ?rest127
                case hi127 => (simp only [List.getElem?_toArray, List.getElem?_cons_succ, List.getElem?_cons_zero]; rfl)
                case hQ127 => exact fun _ _ _ h => h
                case hy127 => (first | exact Or.inl ⟨by rfl, by intro w hSw; (try dsimp only at hSw); go_simp; with_reducible rfl⟩ | (refine Or.inr ⟨by rfl, ?_⟩; rfl))
                simp only [Act.put, List.setIfInBounds_toArray, List.set_cons_zero, List.set_cons_succ]
                refine wpAnyH_take (i := 13) (oi := ?oi128) (v := ?vv128) ?hi128 (by kernel_rfl) (by kernel_rfl) (by kernel_rfl) ?hQ128 ?hy128 (by assumption) ?rest128
                case hi128 => (simp only [List.getElem?_toArray, List.getElem?_cons_succ, List.getElem?_cons_zero]; rfl)
                case hQ128 => exact fun _ _ _ h => h
                case hy128 => (first | exact Or.inl ⟨by rfl, by intro w hSw; (try dsimp only at hSw); go_simp; with_reducible rfl⟩ | (refine Or.inr ⟨by rfl, ?_⟩; rfl))
                simp only [Act.put, List.setIfInBounds_toArray, List.set_cons_zero, List.set_cons_succ]
                refine wpAnyH_take (i := 14) (oi := ?oi129) (v := ?vv129) ?hi129 (by kernel_rfl) (by kernel_rfl) (by kernel_rfl) ?hQ129 ?hy129 (by assumption) ?rest129
                case hi129 => (simp only [List.getElem?_toArray, List.getElem?_cons_succ, List.getElem?_cons_zero]; rfl)
                case hQ129 => exact fun _ _ _ h => h
                case hy129 => (first | exact Or.inl ⟨by rfl, by intro w hSw; (try dsimp only at hSw); go_simp; with_reducible rfl⟩ | (refine Or.inr ⟨by rfl, ?_⟩; rfl))
                simp only [Act.put, List.setIfInBounds_toArray, List.set_cons_zero, List.set_cons_succ]
                refine wpAnyH_take (i := 15) (oi := ?oi130) (v := ?vv130) ?hi130 (by kernel_rfl) (by kernel_rfl) (by kernel_rfl) ?hQ130 ?hy130 (by assumption) ?rest130
                case hi130 => (simp only [List.getElem?_toArray, List.getElem?_cons_succ, List.getElem?_cons_zero]; rfl)
                case hQ130 => exact fun _ _ _ h => h
                case hy130 => (first | exact Or.inl ⟨by rfl, by intro w hSw; (try dsimp only at hSw); go_simp; with_reducible rfl⟩ | (refine Or.inr ⟨by rfl, ?_⟩; rfl))
                simp only [Act.put, List.setIfInBounds_toArray, List.set_cons_zero, List.set_cons_succ]
                refine wpAnyH_take (i := 16) (oi := ?oi131) (v := ?vv131) ?hi131 (by kernel_rfl) (by kernel_rfl) (by kernel_rfl) ?hQ131 ?hy131 (by assumption) ?rest131
                case hi131 => (simp only [List.getElem?_toArray, List.getElem?_cons_succ, List.getElem?_cons_zero]; rfl)
                case hQ131 => exact fun _ _ _ h => h
                case hy131 => (first | exact Or.inl ⟨by rfl, by intro w hSw; (try dsimp only at hSw); go_simp; with_reducible rfl⟩ | (refine Or.inr ⟨by rfl, ?_⟩; rfl))
                simp only [Act.put, List.setIfInBounds_toArray, List.set_cons_zero, List.set_cons_succ]
                refine wpAnyH_take (i := 17) (oi := ?oi132) (v := ?vv132) ?hi132 (by kernel_rfl) (by kernel_rfl) (by kernel_rfl) ?hQ132 ?hy132 (by assumption) ?rest132
                case hi132 => (simp only [List.getElem?_toArray, List.getElem?_cons_succ, List.getElem?_cons_zero]; rfl)
                case hQ132 => exact fun _ _ _ h => h
                case hy132 => (first | exact Or.inl ⟨by rfl, by intro w hSw; (try dsimp only at hSw); go_simp; with_reducible rfl⟩ | (refine Or.inr ⟨by rfl, ?_⟩; rfl))
                simp only [Act.put, List.setIfInBounds_toArray, List.set_cons_zero, List.set_cons_succ]
                refine wpAnyH_take (i := 18) (oi := ?oi133) (v := ?vv133) ?hi133 (by kernel_rfl) (by kernel_rfl) (by kernel_rfl) ?hQ133 ?hy133 (by assumption) ?rest133
                case hi133 => (simp only [List.getElem?_toArray, List.getElem?_cons_succ, List.getElem?_cons_zero]; rfl)
                case hQ133 => exact fun _ _ _ h => h
                case hy133 => (first | exact Or.inl ⟨by rfl, by intro w hSw; (try dsimp only at hSw); go_simp; with_reducible rfl⟩ | (refine Or.inr ⟨by rfl, ?_⟩; rfl))
                simp only [Act.put, List.setIfInBounds_toArray, List.set_cons_zero, List.set_cons_succ]
                refine wpAnyH_take (i := 19) (oi := ?oi134) (v := ?vv134) ?hi134 (by kernel_rfl) (by kernel_rfl) (by kernel_rfl) ?hQ134 ?hy134 (by assumption) ?rest134
                case hi134 => (simp only [List.getElem?_toArray, List.getElem?_cons_succ, List.getElem?_cons_zero]; rfl)
                case hQ134 => exact fun _ _ _ h => h
                case hy134 => (first | exact Or.inl ⟨by rfl, by intro w hSw; (try dsimp only at hSw); go_simp; with_reducible rfl⟩ | (refine Or.inr ⟨by rfl, ?_⟩; rfl))
                simp only [Act.put, List.setIfInBounds_toArray, List.set_cons_zero, List.set_cons_succ]
                refine wpAnyH_take (i := 20) (oi := ?oi135) (v := ?vv135) ?hi135 (by kernel_rfl) (by kernel_rfl) (by kernel_rfl) ?hQ135 ?hy135 (by assumption) ?rest135
                case hi135 => (simp only [List.getElem?_toArray, List.getElem?_cons_succ, List.getElem?_cons_zero]; rfl)
                case hQ135 => exact fun _ _ _ h => h
                case hy135 => (first | exact Or.inl ⟨by rfl, by intro w hSw; (try dsimp only at hSw); go_simp; with_reducible rfl⟩ | (refine Or.inr ⟨by rfl, ?_⟩; rfl))
                simp only [Act.put, List.setIfInBounds_toArray, List.set_cons_zero, List.set_cons_succ]
                refine wpAnyH_take (i := 21) (oi := ?oi136) (v := ?vv136) ?hi136 (by kernel_rfl) (by kernel_rfl) (by kernel_rfl) ?hQ136 ?hy136 (by assumption) ?rest136
                case hi136 => (simp only [List.getElem?_toArray, List.getElem?_cons_succ, List.getElem?_cons_zero]; rfl)
                case hQ136 => exact fun _ _ _ h => h
                case hy136 => (first | exact Or.inl ⟨by rfl, by intro w hSw; (try dsimp only at hSw); go_simp; with_reducible rfl⟩ | (refine Or.inr ⟨by rfl, ?_⟩; rfl))
                simp only [Act.put, List.setIfInBounds_toArray, List.set_cons_zero, List.set_cons_succ]
                refine wpAnyH_take (i := 22) (oi := ?oi137) (v := ?vv137) ?hi137 (by kernel_rfl) (by kernel_rfl) (by kernel_rfl) ?hQ137 ?hy137 (by assumption) ?rest137
                case hi137 => (simp only [List.getElem?_toArray, List.getElem?_cons_succ, List.getElem?_cons_zero]; rfl)
                case hQ137 => exact fun _ _ _ h => h
                case hy137 => (first | exact Or.inl ⟨by rfl, by intro w hSw; (try dsimp only at hSw); go_simp; with_reducible rfl⟩ | (refine Or.inr ⟨by rfl, ?_⟩; rfl))
                simp only [Act.put, List.setIfInBounds_toArray, List.set_cons_zero, List.set_cons_succ]
                refine wpAnyH_take (i := 23) (oi := ?oi138) (v := ?vv138) ?hi138 (by kernel_rfl) (by kernel_rfl) (by kernel_rfl) ?hQ138 ?hy138 (by assumption) ?rest138
                case hi138 => (simp only [List.getElem?_toArray, List.getElem?_cons_succ, List.getElem?_cons_zero]; rfl)
                case hQ138 => exact fun _ _ _ h => h
                case hy138 => (first | exact Or.inl ⟨by rfl, by intro w hSw; (try dsimp only at hSw); go_simp; with_reducible rfl⟩ | (refine Or.inr ⟨by rfl, ?_⟩; rfl))
                simp only [Act.put, List.setIfInBounds_toArray, List.set_cons_zero, List.set_cons_succ]
                refine wpAnyH_take (i := 24) (oi := ?oi139) (v := ?vv139) ?hi139 (by kernel_rfl) (by kernel_rfl) (by kernel_rfl) ?hQ139 ?hy139 (by assumption) ?rest139
                case hi139 => (simp only [List.getElem?_toArray, List.getElem?_cons_succ, List.getElem?_cons_zero]; rfl)
                case hQ139 => exact fun _ _ _ h => h
                case hy139 => (first | exact Or.inl ⟨by rfl, by intro w hSw; (try dsimp only at hSw); go_simp; with_reducible rfl⟩ | (refine Or.inr ⟨by rfl, ?_⟩; rfl))
                simp only [Act.put, List.setIfInBounds_toArray, List.set_cons_zero, List.set_cons_succ]
                refine wpAnyH_take (i := 25) (oi := ?oi140) (v := ?vv140) ?hi140 (by kernel_rfl) (by kernel_rfl) (by kernel_rfl) ?hQ140 ?hy140 (by assumption) ?rest140
                case hi140 => (simp only [List.getElem?_toArray, List.getElem?_cons_succ, List.getElem?_cons_zero]; rfl)
                case hQ140 => exact fun _ _ _ h => h
                case hy140 => (first | exact Or.inl ⟨by rfl, by intro w hSw; (try dsimp only at hSw); go_simp; with_reducible rfl⟩ | (refine Or.inr ⟨by rfl, ?_⟩; rfl))
                simp only [Act.put, List.setIfInBounds_toArray, List.set_cons_zero, List.set_cons_succ]
                refine wpAnyH_take (i := 26) (oi := ?oi141) (v := ?vv141) ?hi141 (by kernel_rfl) (by kernel_rfl) (by kernel_rfl) ?hQ141 ?hy141 (by assumption) ?rest141
                case hi141 => (simp only [List.getElem?_toArray, List.getElem?_cons_succ, List.getElem?_cons_zero]; rfl)
                case hQ141 => exact fun _ _ _ h => h
                case hy141 => (first | exact Or.inl ⟨by rfl, by intro w hSw; (try dsimp only at hSw); go_simp; with_reducible rfl⟩ | (refine Or.inr ⟨by rfl, ?_⟩; rfl))
                simp only [Act.put, List.setIfInBounds_toArray, List.set_cons_zero, List.set_cons_succ]
                refine wpAnyH_take (i := 27) (oi := ?oi142) (v := ?vv142) ?hi142 (by kernel_rfl) (by kernel_rfl) (by kernel_rfl) ?hQ142 ?hy142 (by assumption) ?rest142
                case hi142 => (simp only [List.getElem?_toArray, List.getElem?_cons_succ, List.getElem?_cons_zero]; rfl)
                case hQ142 => exact fun _ _ _ h => h
                case hy142 => (first | exact Or.inl ⟨by rfl, by intro w hSw; (try dsimp only at hSw); go_simp; with_reducible rfl⟩ | (refine Or.inr ⟨by rfl, ?_⟩; rfl))
                simp only [Act.put, List.setIfInBounds_toArray, List.set_cons_zero, List.set_cons_succ]
                refine wpAnyH_take (i := 28) (oi := ?oi143) (v := ?vv143) ?hi143 (by kernel_rfl) (by kernel_rfl) (by kernel_rfl) ?hQ143 ?hy143 (by assumption) ?rest143
                case hi143 => (simp only [List.getElem?_toArray, List.getElem?_cons_succ, List.getElem?_cons_zero]; rfl)
                case hQ143 => exact fun _ _ _ h => h
                case hy143 => (first | exact Or.inl ⟨by rfl, by intro w hSw; (try dsimp only at hSw); go_simp; with_reducible rfl⟩ | (refine Or.inr ⟨by rfl, ?_⟩; rfl))
                simp only [Act.put, List.setIfInBounds_toArray, List.set_cons_zero, List.set_cons_succ]
                refine wpAnyH_take (i := 29) (oi := ?oi144) (v := ?vv144) ?hi144 (by kernel_rfl) (by kernel_rfl) (by kernel_rfl) ?hQ144 ?hy144 (by assumption) ?rest144
                case hi144 => (simp only [List.getElem?_toArray, List.getElem?_cons_succ, List.getElem?_cons_zero]; rfl)
                case hQ144 => exact fun _ _ _ h => h
                case hy144 => (first | exact Or.inl ⟨by rfl, by intro w hSw; (try dsimp only at hSw); go_simp; with_reducible rfl⟩ | (refine Or.inr ⟨by rfl, ?_⟩; rfl))
                simp only [Act.put, List.setIfInBounds_toArray, List.set_cons_zero, List.set_cons_succ]
                refine wpAnyH_take (i := 30) (oi := ?oi145) (v := ?vv145) ?hi145 (by kernel_rfl) (by kernel_rfl) (by kernel_rfl) ?hQ145 ?hy145 (by assumption) ?rest145
                case hi145 => (simp only [List.getElem?_toArray, List.getElem?_cons_succ, List.getElem?_cons_zero]; rfl)
                case hQ145 => exact fun _ _ _ h => h
                case hy145 => (first | exact Or.inl ⟨by rfl, by intro w hSw; (try dsimp only at hSw); go_simp; with_reducible rfl⟩ | (refine Or.inr ⟨by rfl, ?_⟩; rfl))
                simp only [Act.put, List.setIfInBounds_toArray, List.set_cons_zero, List.set_cons_succ]
                refine wpAnyH_take (i := 31) (oi := ?oi146) (v := ?vv146) ?hi146 (by kernel_rfl) (by kernel_rfl) (by kernel_rfl) ?hQ146 ?hy146 (by assumption) ?rest146
                case hi146 => (simp only [List.getElem?_toArray, List.getElem?_cons_succ, List.getElem?_cons_zero]; rfl)
                case hQ146 => exact fun _ _ _ h => h
                case hy146 => (first | exact Or.inl ⟨by rfl, by intro w hSw; (try dsimp only at hSw); go_simp; with_reducible rfl⟩ | (refine Or.inr ⟨by rfl, ?_⟩; rfl))
                simp only [Act.put, List.setIfInBounds_toArray, List.set_cons_zero, List.set_cons_succ]
                refine wpAnyH_take (i := 33) (oi := ?oi147) (v := ?vv147) ?hi147 (by kernel_rfl) (by kernel_rfl) (by kernel_rfl) ?hQ147 ?hy147 (by assumption) ?rest147
                case hi147 => (simp only [List.getElem?_toArray, List.getElem?_cons_succ, List.getElem?_cons_zero]; rfl)
                case hQ147 => exact fun _ _ _ h => h
                case hy147 => (first | exact Or.inl ⟨by rfl, by intro w hSw; (try dsimp only at hSw); go_simp; with_reducible rfl⟩ | (refine Or.inr ⟨by rfl, ?_⟩; rfl))
                simp only [Act.put, List.setIfInBounds_toArray, List.set_cons_zero, List.set_cons_succ]
                obtain ⟨_, _, hbw⟩ := hHeld
                refine wpAnyH_ready (rs := [32]) (by kernel_rfl) (by simp) ?_
                refine AllReadyH.cons (o := ?oc148) ?hi148 ?step148 AllReadyH.nil
                case hi148 => (simp only [List.getElem?_toArray, List.getElem?_cons_succ, List.getElem?_cons_zero]; rfl)
                intro K hK
                go_simp
                refine (T3.out _ hbw).mono ?_
                rintro e w9 ⟨rfl, hq9⟩
                refine hK.out _ _ (KE.out _ hq9) (fun hHeld => ?_)
                clear hK K hbw
                try simp only [Act.put, List.setIfInBounds_toArray, List.set_cons_zero, List.set_cons_succ]
                refine wpAnyH_take (i := 34) (oi := ?oi149) (v := ?vv149) ?hi149 (by kernel_rfl) (by kernel_rfl) (by kernel_rfl) ?hQ149 ?hy149 (by assumption) ?rest149
                case hi149 => (simp only [List.getElem?_toArray, List.getElem?_cons_succ, List.getElem?_cons_zero]; rfl)
                case hQ149 => exact fun _ _ _ h => h
                case hy149 => (first | exact Or.inl ⟨by rfl, by intro w hSw; (try dsimp only at hSw); go_simp; with_reducible rfl⟩ | (refine Or.inr ⟨by rfl, ?_⟩; rfl))
                simp only [Act.put, List.setIfInBounds_toArray, List.set_cons_zero, List.set_cons_succ]
                refine wpAnyH_take (i := 35) (oi := ?oi150) (v := ?vv150) ?hi150 (by kernel_rfl) (by kernel_rfl) (by kernel_rfl) ?hQ150 ?hy150 (by assumption) ?rest150
                case hi150 => (simp only [List.getElem?_toArray, List.getElem?_cons_succ, List.getElem?_cons_zero]; rfl)
                case hQ150 => exact fun _ _ _ h => h
                case hy150 => (first | exact Or.inl ⟨by rfl, by intro w hSw; (try dsimp only at hSw); go_simp; with_reducible rfl⟩ | (refine Or.inr ⟨by rfl, ?_⟩; rfl))
                simp only [Act.put, List.setIfInBounds_toArray, List.set_cons_zero, List.set_cons_succ]
                refine wpAnyH_take (i := 36) (oi := ?oi151) (v := ?vv151) ?hi151 (by kernel_rfl) (by kernel_rfl) (by kernel_rfl) ?hQ151 ?hy151 (by assumption) ?rest151
                case hi151 => (simp only [List.getElem?_toArray, List.getElem?_cons_succ, List.getElem?_cons_zero]; rfl)
                case hQ151 => exact fun _ _ _ h => h
                case hy151 => (first | exact Or.inl ⟨by rfl, by intro w hSw; (try dsimp only at hSw); go_simp; with_reducible rfl⟩ | (refine Or.inr ⟨by rfl, ?_⟩; rfl))
                simp only [Act.put, List.setIfInBounds_toArray, List.set_cons_zero, List.set_cons_succ]
                refine wpAnyH_take (i := 37) (oi := ?oi152) (v := ?vv152) ?hi152 (by kernel_rfl) (by kernel_rfl) (by kernel_rfl) ?hQ152 ?hy152 (by assumption) ?rest152
                case hi152 => (simp only [List.getElem?_toArray, List.getElem?_cons_succ, List.getElem?_cons_zero]; rfl)
                case hQ152 => exact fun _ _ _ h => h
                case hy152 => (first | exact Or.inl ⟨by rfl, by intro w hSw; (try dsimp only at hSw); go_simp; with_reducible rfl⟩ | (refine Or.inr ⟨by rfl, ?_⟩; rfl))
                simp only [Act.put, List.setIfInBounds_toArray, List.set_cons_zero, List.set_cons_succ]
                obtain ⟨_, _, hbw⟩ := hHeld
                refine wpAnyH_done (by kernel_rfl) ?_ _
                go_wp2_with fail
                go_meet
                exact ⟨rfl, HF.out _ hbw⟩
            · have e1 : decide (1 ≤ o1) = false := by simpa using s1
              clear hne
              go_wp2_with fail
              refine (TT.out _ hA).mono ?_
              rintro e w2 ⟨rfl, hq⟩
              have hA2 := hA.below hq
              have hO2 := (hq.block _ (lt_of_heap hO)).trans hO
              have ho1 := Only.of_below (S := [a, wb]) hq
              clear cO fO hq
              obtain ⟨cO, fO⟩ := hcell hO2
              go_wp2_with fail
              refine (FL.out _ hA2).mono ?_
              rintro e w3 ⟨rfl, hA3, ho2⟩
              have hO3 := (ho2.block _ (lt_of_heap hO2) nq).trans hO2
              have ho3 := ho1.trans ho2
              clear cO fO
              obtain ⟨cO, fO⟩ := hcell hO3
              have c1 : w3.cell? ⟨q, 1, none⟩ = some (.int .i64 o1) := by rw [cO]; rfl
              have c2 : w3.cell? ⟨q, 2, none⟩ = some (.int .i64 o2) := by rw [cO]; rfl
              have KE := Lib.hid (fun (W : World) (hb : Below w3.heap.size w3 W) => (⟨(hb.cell (p := ⟨q, 1, none⟩) (World.block_lt_of_cell? w3 ⟨q, 1, none⟩ c1)).trans c1, (hb.cell (p := ⟨q, 2, none⟩) (World.block_lt_of_cell? w3 ⟨q, 2, none⟩ c2)).trans c2, hb⟩ : W.cell? ⟨q, 1, none⟩ = some (.int .i64 o1) ∧ W.cell? ⟨q, 2, none⟩ = some (.int .i64 o2) ∧ Below w3.heap.size w3 W))
              have T3 := Lib.hid (fun (W : World) (hb : Below w3.heap.size w3 W) => (TV.out W (hA3.below hb)).mono (R' := fun e w' => e = .returned (.int .i64 tp) ∧ Below w3.heap.size w3 w') fun e w' ⟨h1, h2⟩ => ⟨h1, hb.trans (h2.mono hb.size)⟩)
              have HF := Lib.hid (fun (W : World) (hb : Below w3.heap.size w3 W) => HoAt.of_only hA hT hb1 ha hw (Nat.le_succ_of_le hn) (hA3.below hb) okF hHF (ho3.trans (Only.of_below hb)))
              clear cO fO hO2 hO3 hA2 hA3 ho1 ho2 ho3
              go_upto_region 17 with fail
              clear c1 c2
              refine wp_region_held_drew (S := fun W => W.cell? ⟨q, 1, none⟩ = some (.int .i64 o1) ∧ W.cell? ⟨q, 2, none⟩ = some (.int .i64 o2) ∧ Below w3.heap.size w3 W) (by kernel_rfl) (KE.out _ (Below.refl _ _).drew) (fun hHeld => ?_)
              refine wpAnyH_take (i := 0) (oi := ?oi153) (v := ?vv153) ?hi153 (by kernel_rfl) (by kernel_rfl) (by kernel_rfl) ?hQ153 ?hy153 (by assumption) ?rest153
              case hi153 => (simp only [List.getElem?_toArray, List.getElem?_cons_zero]; rfl)
              case hQ153 => exact fun _ _ _ h => h
              case hy153 => (first | exact Or.inl ⟨by rfl, by intro w hSw; (try dsimp only at hSw); go_simp; with_reducible rfl⟩ | (refine Or.inr ⟨by rfl, ?_⟩; rfl))
              simp only [Act.put, List.setIfInBounds_toArray, List.set_cons_zero, List.set_cons_succ]
              refine wpAnyH_take (i := 1) (oi := ?oi154) (v := ?vv154) ?hi154 (by kernel_rfl) (by kernel_rfl) (by kernel_rfl) ?hQ154 ?hy154 (by assumption) ?rest154
              case hi154 => (simp only [List.getElem?_toArray, List.getElem?_cons_succ, List.getElem?_cons_zero]; rfl)
              case hQ154 => exact fun _ _ _ h => h
              case hy154 => (first | exact Or.inl ⟨by rfl, by intro w hSw; (try dsimp only at hSw); go_simp; with_reducible rfl⟩ | (refine Or.inr ⟨by rfl, ?_⟩; rfl))
              simp only [Act.put, List.setIfInBounds_toArray, List.set_cons_zero, List.set_cons_succ]
              refine wpAnyH_take (i := 2) (oi := ?oi155) (v := ?vv155) ?hi155 (by kernel_rfl) (by kernel_rfl) (by kernel_rfl) ?hQ155 ?hy155 (by assumption) ?rest155
              case hi155 => (simp only [List.getElem?_toArray, List.getElem?_cons_succ, List.getElem?_cons_zero]; rfl)
              case hQ155 => exact fun _ _ _ h => h
              case hy155 => (first | exact Or.inl ⟨by rfl, by intro w hSw; (try dsimp only at hSw); go_simp; with_reducible rfl⟩ | (refine Or.inr ⟨by rfl, ?_⟩; rfl))
              simp only [Act.put, List.setIfInBounds_toArray, List.set_cons_zero, List.set_cons_succ]
              refine wpAnyH_take (i := 3) (oi := ?oi156) (v := ?vv156) ?hi156 (by kernel_rfl) (by kernel_rfl) (by kernel_rfl) ?hQ156 ?hy156 (by assumption) ?rest156
              case hi156 => (simp only [List.getElem?_toArray, List.getElem?_cons_succ, List.getElem?_cons_zero]; rfl)
              case hQ156 => exact fun _ _ _ h => h
              case hy156 => (first | exact Or.inl ⟨by rfl, by intro w hSw; (try dsimp only at hSw); go_simp; with_reducible rfl⟩ | (refine Or.inr ⟨by rfl, ?_⟩; rfl))
              simp only [Act.put, List.setIfInBounds_toArray, List.set_cons_zero, List.set_cons_succ]
              refine wpAnyH_take (i := 4) (oi := ?oi157) (v := ?vv157) ?hi157 (by kernel_rfl) (by kernel_rfl) (by kernel_rfl) ?hQ157 ?hy157 (by assumption) ?rest157
              case hi157 => (simp only [List.getElem?_toArray, List.getElem?_cons_succ, List.getElem?_cons_zero]; rfl)
              case hQ157 => exact fun _ _ _ h => h
              case hy157 => (first | exact Or.inl ⟨by rfl, by intro w hSw; (try dsimp only at hSw); go_simp; with_reducible rfl⟩ | (refine Or.inr ⟨by rfl, ?_⟩; rfl))
              simp only [Act.put, List.setIfInBounds_toArray, List.set_cons_zero, List.set_cons_succ]
              refine wpAnyH_take (i := 5) (oi := ?oi158) (v := ?vv158) ?hi158 (by kernel_rfl) (by kernel_rfl) (by kernel_rfl) ?hQ158 ?hy158 (by assumption) ?rest158
              case hi158 => (simp only [List.getElem?_toArray, List.getElem?_cons_succ, List.getElem?_cons_zero]; rfl)
              case hQ158 => exact fun _ _ _ h => h
              case hy158 => (first | exact Or.inl ⟨by rfl, by intro w hSw; (try dsimp only at hSw); go_simp; with_reducible rfl⟩ | (refine Or.inr ⟨by rfl, ?_⟩; rfl))
              simp only [Act.put, List.setIfInBounds_toArray, List.set_cons_zero, List.set_cons_succ]
              refine wpAnyH_take (i := 6) (oi := ?oi159) (v := ?vv159) ?hi159 (by kernel_rfl) (by kernel_rfl) (by kernel_rfl) ?hQ159 ?hy159 (by assumption) ?rest159
              case hi159 => (simp only [List.getElem?_toArray, List.getElem?_cons_succ, List.getElem?_cons_zero]; rfl)
              case hQ159 => exact fun _ _ _ h => h
              case hy159 => (first | exact Or.inl ⟨by rfl, by intro w hSw; (try dsimp only at hSw); go_simp; with_reducible rfl⟩ | (refine Or.inr ⟨by rfl, ?_⟩; rfl))
              simp only [Act.put, List.setIfInBounds_toArray, List.set_cons_zero, List.set_cons_succ]
              refine wpAnyH_take (i := 7) (oi := ?oi160) (v := ?vv160) ?hi160 (by kernel_rfl) (by kernel_rfl) (by kernel_rfl) ?hQ160 ?hy160 (by assumption) ?rest160
              case hi160 => (simp only [List.getElem?_toArray, List.getElem?_cons_succ, List.getElem?_cons_zero]; rfl)
              case hQ160 => exact fun _ _ _ h => h
              case hy160 => (first | exact Or.inl ⟨by rfl, by intro w hSw; (try dsimp only at hSw); go_simp; with_reducible rfl⟩ | (refine Or.inr ⟨by rfl, ?_⟩; rfl))
              simp only [Act.put, List.setIfInBounds_toArray, List.set_cons_zero, List.set_cons_succ]
              refine wpAnyH_take (i := 8) (oi := ?oi161) (v := ?vv161) ?hi161 (by kernel_rfl) (by kernel_rfl) (by kernel_rfl) ?hQ161 ?hy161 (by assumption) ?rest161
              case hi161 => (simp only [List.getElem?_toArray, List.getElem?_cons_succ, List.getElem?_cons_zero]; rfl)
              case hQ161 => exact fun _ _ _ h => h
              case hy161 => (first | exact Or.inl ⟨by rfl, by intro w hSw; (try dsimp only at hSw); go_simp; with_reducible rfl⟩ | (refine Or.inr ⟨by rfl, ?_⟩; rfl))
              simp only [Act.put, List.setIfInBounds_toArray, List.set_cons_zero, List.set_cons_succ]
              refine wpAnyH_take (i := 9) (oi := ?oi162) (v := ?vv162) ?hi162 (by kernel_rfl) (by kernel_rfl) (by kernel_rfl) ?hQ162 ?hy162 (by assumption) ?rest162
              case hi162 => (simp only [List.getElem?_toArray, List.getElem?_cons_succ, List.getElem?_cons_zero]; rfl)
              case hQ162 => exact fun _ _ _ h => h
              case hy162 => (first | exact Or.inl ⟨by rfl, by intro w hSw; (try dsimp only at hSw); go_simp; with_reducible rfl⟩ | (refine Or.inr ⟨by rfl, ?_⟩; rfl))
              simp only [Act.put, List.setIfInBounds_toArray, List.set_cons_zero, List.set_cons_succ]
              refine wpAnyH_take (i := 10) (oi := ?oi163) (v := ?vv163) ?hi163 (by kernel_rfl) (by kernel_rfl) (by kernel_rfl) ?hQ163 ?hy163 (by assumption) ?rest163
              case hi163 => (simp only [List.getElem?_toArray, List.getElem?_cons_succ, List.getElem?_cons_zero]; rfl)
              case hQ163 => exact fun _ _ _ h => h
              case hy163 => (first | exact Or.inl ⟨by rfl, by intro w hSw; (try dsimp only at hSw); go_simp; with_reducible rfl⟩ | (refine Or.inr ⟨by rfl, ?_⟩; rfl))
              simp only [Act.put, List.setIfInBounds_toArray, List.set_cons_zero, List.set_cons_succ]
              refine wpAnyH_take (i := 11) (oi := ?oi164) (v := ?vv164) ?hi164 (by kernel_rfl) (by kernel_rfl) (by kernel_rfl) ?hQ164 ?hy164 (by assumption) ?rest164
              case hi164 => (simp only [List.getElem?_toArray, List.getElem?_cons_succ, List.getElem?_cons_zero]; rfl)
              case hQ164 => exact fun _ _ _ h => h
              case hy164 => (first | exact Or.inl ⟨by rfl, by intro w hSw; (try dsimp only at hSw); go_simp; with_reducible rfl⟩ | (refine Or.inr ⟨by rfl, ?_⟩; rfl))
              simp only [Act.put, List.setIfInBounds_toArray, List.set_cons_zero, List.set_cons_succ]
              refine wpAnyH_take (i := 12) (oi := ?oi165) (v := ?vv165) ?hi165 (by kernel_rfl) (by kernel_rfl) (by kernel_rfl) ?hQ165 ?hy165 (by assumption) ?rest165
              case hi165 => (simp only [List.getElem?_toArray, List.getElem?_cons_succ, List.getElem?_cons_zero]; rfl)
              case hQ165 => exact fun _ _ _ h => h
              case hy165 => (first | exact Or.inl ⟨by rfl, by intro w hSw; (try dsimp only at hSw); go_simp; with_reducible rfl⟩ | (refine Or.inr ⟨by rfl, ?_⟩; rfl))
              simp only [Act.put, List.setIfInBounds_toArray, List.set_cons_zero, List.set_cons_succ]
              refine wpAnyH_take (i := 13) (oi := ?oi166) (v := ?vv166) ?hi166 (by kernel_rfl) (by kernel_rfl) (by kernel_rfl) ?hQ166 ?hy166 (by assumption) ?rest166
              case hi166 => (simp only [List.getElem?_toArray, List.getElem?_cons_succ, List.getElem?_cons_zero]; rfl)
              case hQ166 => exact fun _ _ _ h => h
              case hy166 => (first | exact Or.inl ⟨by rfl, by intro w hSw; (try dsimp only at hSw); go_simp; with_reducible rfl⟩ | (refine Or.inr ⟨by rfl, ?_⟩; rfl))
              simp only [Act.put, List.setIfInBounds_toArray, List.set_cons_zero, List.set_cons_succ]
              refine wpAnyH_take (i := 14) (oi := ?oi167) (v := ?vv167) ?hi167 (by kernel_rfl) (by kernel_rfl) (by kernel_rfl) ?hQ167 ?hy167 (by assumption) ?rest167
              case hi167 => (simp only [List.getElem?_toArray, List.getElem?_cons_succ, List.getElem?_cons_zero]; rfl)
              case hQ167 => exact fun _ _ _ h => h
              case hy167 => (first | exact Or.inl ⟨by rfl, by intro w hSw; (try dsimp only at hSw); go_simp; with_reducible rfl⟩ | (refine Or.inr ⟨by rfl, ?_⟩; rfl))
              simp only [Act.put, List.setIfInBounds_toArray, List.set_cons_zero, List.set_cons_succ]
              refine wpAnyH_take (i := 15) (oi := ?oi168) (v := ?vv168) ?hi168 (by kernel_rfl) (by kernel_rfl) (by kernel_rfl) ?hQ168 ?hy168 (by assumption) ?rest168
              case hi168 => (simp only [List.getElem?_toArray, List.getElem?_cons_succ, List.getElem?_cons_zero]; rfl)
              case hQ168 => exact fun _ _ _ h => h
              case hy168 => (first | exact Or.inl ⟨by rfl, by intro w hSw; (try dsimp only at hSw); go_simp; with_reducible rfl⟩ | (refine Or.inr ⟨by rfl, ?_⟩; rfl))
              simp only [Act.put, List.setIfInBounds_toArray, List.set_cons_zero, List.set_cons_succ]
              refine wpAnyH_take (i := 16) (oi := ?oi169) (v := ?vv169) ?hi169 (by kernel_rfl) (by kernel_rfl) (by kernel_rfl) ?hQ169 ?hy169 (by assumption) ?rest169
              case hi169 => (simp only [List.getElem?_toArray, List.getElem?_cons_succ, List.getElem?_cons_zero]; rfl)
              case hQ169 => exact fun _ _ _ h => h
              case hy169 => (first | exact Or.inl ⟨by rfl, by intro w hSw; (try dsimp only at hSw); go_simp; with_reducible rfl⟩ | (refine Or.inr ⟨by rfl, ?_⟩; rfl))
              simp only [Act.put, List.setIfInBounds_toArray, List.set_cons_zero, List.set_cons_succ]
              refine wpAnyH_take (i := 17) (oi := ?oi170) (v := ?vv170) ?hi170 (by kernel_rfl) (by kernel_rfl) (by kernel_rfl) ?hQ170 ?hy170 (by assumption) ?rest170
              case hi170 => (simp only [List.getElem?_toArray, List.getElem?_cons_succ, List.getElem?_cons_zero]; rfl)
              case hQ170 => exact fun _ _ _ h => h
              case hy170 => (first | exact Or.inl ⟨by rfl, by intro w hSw; (try dsimp only at hSw); go_simp; with_reducible rfl⟩ | (refine Or.inr ⟨by rfl, ?_⟩; rfl))
              simp only [Act.put, List.setIfInBounds_toArray, List.set_cons_zero, List.set_cons_succ]
              refine wpAnyH_take (i := 18) (oi := ?oi171) (v := ?vv171) ?hi171 (by kernel_rfl) (by kernel_rfl) (by kernel_rfl) ?hQ171 ?hy171 (by assumption) ?rest171
              case hi171 => (simp only [List.getElem?_toArray, List.getElem?_cons_succ, List.getElem?_cons_zero]; rfl)
              case hQ171 => exact fun _ _ _ h => h
              case hy171 => (first | exact Or.inl ⟨by rfl, by intro w hSw; (try dsimp only at hSw); go_simp; with_reducible rfl⟩ | (refine Or.inr ⟨by rfl, ?_⟩; rfl))
              simp only [Act.put, List.setIfInBounds_toArray, List.set_cons_zero, List.set_cons_succ]
              refine wpAnyH_take (i := 19) (oi := ?oi172) (v := ?vv172) ?hi172 (by kernel_rfl) (by kernel_rfl) (by kernel_rfl) ?hQ172 ?hy172 (by assumption) ?rest172
              case hi172 => (simp only [List.getElem?_toArray, List.getElem?_cons_succ, List.getElem?_cons_zero]; rfl)
              case hQ172 => exact fun _ _ _ h => h
              case hy172 => (first | exact Or.inl ⟨by rfl, by intro w hSw; (try dsimp only at hSw); go_simp; with_reducible rfl⟩ | (refine Or.inr ⟨by rfl, ?_⟩; rfl))
              simp only [Act.put, List.setIfInBounds_toArray, List.set_cons_zero, List.set_cons_succ]
              refine wpAnyH_take (i := 20) (oi := ?oi173) (v := ?vv173) ?hi173 (by kernel_rfl) (by kernel_rfl) (by kernel_rfl) ?hQ173 ?hy173 (by assumption) ?rest173
              case hi173 => (simp only [List.getElem?_toArray, List.getElem?_cons_succ, List.getElem?_cons_zero]; rfl)
              case hQ173 => exact fun _ _ _ h => h
              case hy173 => (first | exact Or.inl ⟨by rfl, by intro w hSw; (try dsimp only at hSw); go_simp; with_reducible rfl⟩ | (refine Or.inr ⟨by rfl, ?_⟩; rfl))
              simp only [Act.put, List.setIfInBounds_toArray, List.set_cons_zero, List.set_cons_succ]
              refine wpAnyH_take (i := 21) (oi := ?oi174) (v := ?vv174) ?hi174 (by kernel_rfl) (by kernel_rfl) (by kernel_rfl) ?hQ174 ?hy174 (by assumption) ?rest174
              case hi174 => (simp only [List.getElem?_toArray, List.getElem?_cons_succ, List.getElem?_cons_zero]; rfl)
              case hQ174 => exact fun _ _ _ h => h
              case hy174 => (first | exact Or.inl ⟨by rfl, by intro w hSw; (try dsimp only at hSw); go_simp; with_reducible rfl⟩ | (refine Or.inr ⟨by rfl, ?_⟩; rfl))
              simp only [Act.put, List.setIfInBounds_toArray, List.set_cons_zero, List.set_cons_succ]
              refine wpAnyH_take (i := 22) (oi := ?oi175) (v := ?vv175) ?hi175 (by kernel_rfl) (by kernel_rfl) (by kernel_rfl) ?hQ175 ?hy175 (by assumption) ?rest175
              case hi175 => (simp only [List.getElem?_toArray, List.getElem?_cons_succ, List.getElem?_cons_zero]; rfl)
              case hQ175 => exact fun _ _ _ h => h
              case hy175 => (first | exact Or.inl ⟨by rfl, by intro w hSw; (try dsimp only at hSw); go_simp; with_reducible rfl⟩ | (refine Or.inr ⟨by rfl, ?_⟩; rfl))
              simp only [Act.put, List.setIfInBounds_toArray, List.set_cons_zero, List.set_cons_succ]
              refine wpAnyH_take (i := 23) (oi := ?oi176) (v := ?vv176) ?hi176 (by kernel_rfl) (by kernel_rfl) (by kernel_rfl) ?hQ176 ?hy176 (by assumption) ?rest176
              case hi176 => (simp only [List.getElem?_toArray, List.getElem?_cons_succ, List.getElem?_cons_zero]; rfl)
              case hQ176 => exact fun _ _ _ h => h
              case hy176 => (first | exact Or.inl ⟨by rfl, by intro w hSw; (try dsimp only at hSw); go_simp; with_reducible rfl⟩ | (refine Or.inr ⟨by rfl, ?_⟩; rfl))
              simp only [Act.put, List.setIfInBounds_toArray, List.set_cons_zero, List.set_cons_succ]
              refine wpAnyH_take (i := 24) (oi := ?oi177) (v := ?vv177) ?hi177 (by kernel_rfl) (by kernel_rfl) (by kernel_rfl) ?hQ177 ?hy177 (by assumption) ?rest177
              case hi177 => (simp only [List.getElem?_toArray, List.getElem?_cons_succ, List.getElem?_cons_zero]; rfl)
              case hQ177 => exact fun _ _ _ h => h
              case hy177 => (first | exact Or.inl ⟨by rfl, by intro w hSw; (try dsimp only at hSw); go_simp; with_reducible rfl⟩ | (refine Or.inr ⟨by rfl, ?_⟩; rfl))
              simp only [Act.put, List.setIfInBounds_toArray, List.set_cons_zero, List.set_cons_succ]
              refine wpAnyH_take (i := 25) (oi := ?oi178) (v := ?vv178) ?hi178 (by kernel_rfl) (by kernel_rfl) (by kernel_rfl) ?hQ178 ?hy178 (by assumption) ?rest178
              case hi178 => (simp only [List.getElem?_toArray, List.getElem?_cons_succ, List.getElem?_cons_zero]; rfl)
              case hQ178 => exact fun _ _ _ h => h
              case hy178 => (first | exact Or.inl ⟨by rfl, by intro w hSw; (try dsimp only at hSw); go_simp; with_reducible rfl⟩ | (refine Or.inr ⟨by rfl, ?_⟩; rfl))
              simp only [Act.put, List.setIfInBounds_toArray, List.set_cons_zero, List.set_cons_succ]
              refine wpAnyH_take (i := 26) (oi := ?oi179) (v := ?vv179) ?hi179 (by kernel_rfl) (by kernel_rfl) (by kernel_rfl) ?hQ179 ?hy179 (by assumption) ?rest179
              case hi179 => (simp only [List.getElem?_toArray, List.getElem?_cons_succ, List.getElem?_cons_zero]; rfl)
              case hQ179 => exact fun _ _ _ h => h
              case hy179 => (first | exact Or.inl ⟨by rfl, by intro w hSw; (try dsimp only at hSw); go_simp; with_reducible rfl⟩ | (refine Or.inr ⟨by rfl, ?_⟩; rfl))
              simp only [Act.put, List.setIfInBounds_toArray, List.set_cons_zero, List.set_cons_succ]
              refine wpAnyH_take (i := 27) (oi := ?oi180) (v := ?vv180) ?hi180 (by kernel_rfl) (by kernel_rfl) (by kernel_rfl) ?hQ180 ?hy180 (by assumption) ?rest180
              case hi180 => (simp only [List.getElem?_toArray, List.getElem?_cons_succ, List.getElem?_cons_zero]; rfl)
              case hQ180 => exact fun _ _ _ h => h
              case hy180 => (first | exact Or.inl ⟨by rfl, by intro w hSw; (try dsimp only at hSw); go_simp; with_reducible rfl⟩ | (refine Or.inr ⟨by rfl, ?_⟩; rfl))
              simp only [Act.put, List.setIfInBounds_toArray, List.set_cons_zero, List.set_cons_succ]
              refine wpAnyH_take (i := 28) (oi := ?oi181) (v := ?vv181) ?hi181 (by kernel_rfl) (by kernel_rfl) (by kernel_rfl) ?hQ181 ?hy181 (by assumption) ?rest181
              case hi181 => (simp only [List.getElem?_toArray, List.getElem?_cons_succ, List.getElem?_cons_zero]; rfl)
              case hQ181 => exact fun _ _ _ h => h
              case hy181 => (first | exact Or.inl ⟨by rfl, by intro w hSw; (try dsimp only at hSw); go_simp; with_reducible rfl⟩ | (refine Or.inr ⟨by rfl, ?_⟩; rfl))
              simp only [Act.put, List.setIfInBounds_toArray, List.set_cons_zero, List.set_cons_succ]
              refine wpAnyH_take (i := 29) (oi := ?oi182) (v := ?vv182) ?hi182 (by kernel_rfl) (by kernel_rfl) (by kernel_rfl) ?hQ182 ?hy182 (by assumption) ?rest182
              case hi182 => (simp only [List.getElem?_toArray, List.getElem?_cons_succ, List.getElem?_cons_zero]; rfl)
              case hQ182 => exact fun _ _ _ h => h
              case hy182 => (first | exact Or.inl ⟨by rfl, by intro w hSw; (try dsimp only at hSw); go_simp; with_reducible rfl⟩ | (refine Or.inr ⟨by rfl, ?_⟩; rfl))
              simp only [Act.put, List.setIfInBounds_toArray, List.set_cons_zero, List.set_cons_succ]
              refine wpAnyH_take (i := 30) (oi := ?oi183) (v := ?vv183) ?hi183 (by kernel_rfl) (by kernel_rfl) (by kernel_rfl) ?hQ183 ?hy183 (by assumption) ?rest183
              case hi183 => (simp only [List.getElem?_toArray, List.getElem?_cons_succ, List.getElem?_cons_zero]; rfl)
              case hQ183 => exact fun _ _ _ h => h
              case hy183 => (first | exact Or.inl ⟨by rfl, by intro w hSw; (try dsimp only at hSw); go_simp; with_reducible rfl⟩ | (refine Or.inr ⟨by rfl, ?_⟩; rfl))
              simp only [Act.put, List.setIfInBounds_toArray, List.set_cons_zero, List.set_cons_succ]
              refine wpAnyH_take (i := 31) (oi := ?oi184) (v := ?vv184) ?hi184 (by kernel_rfl) (by kernel_rfl) (by kernel_rfl) ?hQ184 ?hy184 (by assumption) ?rest184
              case hi184 => (simp only [List.getElem?_toArray, List.getElem?_cons_succ, List.getElem?_cons_zero]; rfl)
              case hQ184 => exact fun _ _ _ h => h
              case hy184 => (first | exact Or.inl ⟨by rfl, by intro w hSw; (try dsimp only at hSw); go_simp; with_reducible rfl⟩ | (refine Or.inr ⟨by rfl, ?_⟩; rfl))
              simp only [Act.put, List.setIfInBounds_toArray, List.set_cons_zero, List.set_cons_succ]
              refine wpAnyH_take (i := 33) (oi := ?oi185) (v := ?vv185) ?hi185 (by kernel_rfl) (by kernel_rfl) (by kernel_rfl) ?hQ185 ?hy185 (by assumption) ?rest185
              case hi185 => (simp only [List.getElem?_toArray, List.getElem?_cons_succ, List.getElem?_cons_zero]; rfl)
              case hQ185 => exact fun _ _ _ h => h
              case hy185 => (first | exact Or.inl ⟨by rfl, by intro w hSw; (try dsimp only at hSw); go_simp; with_reducible rfl⟩ | (refine Or.inr ⟨by rfl, ?_⟩; rfl))
              simp only [Act.put, List.setIfInBounds_toArray, List.set_cons_zero, List.set_cons_succ]
              obtain ⟨_, _, hbw⟩ := hHeld
              refine wpAnyH_ready (rs := [32]) (by kernel_rfl) (by simp) ?_
              refine AllReadyH.cons (o := ?oc186) ?hi186 ?step186 AllReadyH.nil
              case hi186 => (simp only [List.getElem?_toArray, List.getElem?_cons_succ, List.getElem?_cons_zero]; rfl)
              intro K hK
              go_simp
              refine (T3.out _ hbw).mono ?_
              rintro e w9 ⟨rfl, hq9⟩
              refine hK.out _ _ (KE.out _ hq9) (fun hHeld => ?_)
              clear hK K hbw
              try simp only [Act.put, List.setIfInBounds_toArray, List.set_cons_zero, List.set_cons_succ]
              refine wpAnyH_take (i := 34) (oi := ?oi187) (v := ?vv187) ?hi187 (by kernel_rfl) (by kernel_rfl) (by kernel_rfl) ?hQ187 ?hy187 (by assumption) ?rest187
              case hi187 => (simp only [List.getElem?_toArray, List.getElem?_cons_succ, List.getElem?_cons_zero]; rfl)
              case hQ187 => exact fun _ _ _ h => h
              case hy187 => (first | exact Or.inl ⟨by rfl, by intro w hSw; (try dsimp only at hSw); go_simp; with_reducible rfl⟩ | (refine Or.inr ⟨by rfl, ?_⟩; rfl))
              simp only [Act.put, List.setIfInBounds_toArray, List.set_cons_zero, List.set_cons_succ]
              refine wpAnyH_take (i := 35) (oi := ?oi188) (v := ?vv188) ?hi188 (by kernel_rfl) (by kernel_rfl) (by kernel_rfl) ?hQ188 ?hy188 (by assumption) ?rest188
              case hi188 => (simp only [List.getElem?_toArray, List.getElem?_cons_succ, List.getElem?_cons_zero]; rfl)
              case hQ188 => exact fun _ _ _ h => h
              case hy188 => (first | exact Or.inl ⟨by rfl, by intro w hSw; (try dsimp only at hSw); go_simp; with_reducible rfl⟩ | (refine Or.inr ⟨by rfl, ?_⟩; rfl))
              simp only [Act.put, List.setIfInBounds_toArray, List.set_cons_zero, List.set_cons_succ]
              refine wpAnyH_take (i := 36) (oi := ?oi189) (v := ?vv189) ?hi189 (by kernel_rfl) (by kernel_rfl) (by kernel_rfl) ?hQ189 ?hy189 (by assumption) ?rest189
              case hi189 => (simp only [List.getElem?_toArray, List.getElem?_cons_succ, List.getElem?_cons_zero]; rfl)
              case hQ189 => exact fun _ _ _ h => h
              case hy189 => (first | exact Or.inl ⟨by rfl, by intro w hSw; (try dsimp only at hSw); go_simp; with_reducible rfl⟩ | (refine Or.inr ⟨by rfl, ?_⟩; rfl))
              simp only [Act.put, List.setIfInBounds_toArray, List.set_cons_zero, List.set_cons_succ]
              refine wpAnyH_take (i := 37) (oi := ?oi190) (v := ?vv190) ?hi190 (by kernel_rfl) (by kernel_rfl) (by kernel_rfl) ?hQ190 ?hy190 (by assumption) ?rest190
              case hi190 => (simp only [List.getElem?_toArray, List.getElem?_cons_succ, List.getElem?_cons_zero]; rfl)
              case hQ190 => exact fun _ _ _ h => h
              case hy190 => (first | exact Or.inl ⟨by rfl, by intro w hSw; (try dsimp only at hSw); go_simp; with_reducible rfl⟩ | (refine Or.inr ⟨by rfl, ?_⟩; rfl))
              simp only [Act.put, List.setIfInBounds_toArray, List.set_cons_zero, List.set_cons_succ]
              obtain ⟨_, _, hbw⟩ := hHeld
              refine wpAnyH_done (by kernel_rfl) ?_ _
              go_wp2_with fail
              go_meet
              exact ⟨rfl, HF.out _ hbw⟩
        have d2 : (o0 == 2) = false := by simpa using h2
        by_cases h6 : o0 = 6
        · subst h6
          have FC := Lib.hid (fun (W : World) (h : ArAt W a wb A) => from_any a wb A W h)
          have SC := Lib.hid (fun (W : World) (h : ArAt W a wb A) => swap_any a wb A W h ok)
          have F2 := Lib.hid (fun (W : World) (h : ArAt W a wb { A with frm := A.to }) => from_any a wb { A with frm := A.to } W h)
          have T2' := fun (W : World) (h : ArAt W a wb { A with frm := A.to }) => to_any a wb { A with frm := A.to } W h ok.swapA
          have e2 : ({ A with frm := A.to } : Ar).to = A.frm := by unfold Ar.to; simp only; omega
          rw [e2] at T2'
          have T2 := Lib.hid T2'
          have fr := ok.fr
          have tv : A.to = 5 - A.frm := rfl
          have STH := Lib.hid (fun (W : World) (hA2 : ArAt W a wb { A with frm := A.to }) (ho : Only [a, wb] w1 W) => HoAt.of_only hA hT hb1 ha hw (Nat.le_succ_of_le hn) hA2 ok.swapA hH.swap ho)
          simp only at F2
          generalize A.frm = f at *
          rw [tv] at F2 SC T2 STH
          clear e2 T2' tv
          have nf : ((5 - f) != f) = true := by simp; omega
          have sf : (f + (5 - f) == 5) = true := by simp; omega
          have fr0 : 2 ≤ f := by omega
          have fr1 : f ≤ 3 := by omega
          clear fr
          go_wp2_with fail
          refine (FC.out _ hA).mono ?_
          rintro e w2 ⟨rfl, rfl⟩
          go_wp2_with fail
          refine (SC.out _ hA).mono ?_
          rintro e w2 ⟨rfl, hA2, ho⟩
          go_wp2_with fail
          refine (F2.out _ hA2).mono ?_
          rintro e w3 ⟨rfl, rfl⟩
          go_wp2_with fail
          refine (T2.out _ hA2).mono ?_
          rintro e w3 ⟨rfl, rfl⟩
          go_wp2_with fail
          refine (F2.out _ hA2).mono ?_
          rintro e w3 ⟨rfl, rfl⟩
          obtain ⟨f1, f2⟩ := STH.out _ hA2 ho
          go_wp2_with fail
          go_meet
          exact ⟨rfl, f1, f2⟩
        have d6 : (o0 == 6) = false := by simpa using h6
        by_cases h0 : 0 < Q.length
        · have CH := Lib.hid (changed_any a wb w.heap.size A Ls av Q ⟨o0, o1, o2, o3, o4, o5, ⟨x0, x1, x2, x3, x4, x5, x6⟩⟩ w1 (tb.out.below hb1) hA ok hT hH (by omega) h0 hbk)
          unfold Dt.val Dt.cells at CH
          simp only at CH
          obtain ⟨pq, cq, hvq⟩ := row_form hT.row
          subst hvq
          have dl : decide ((0 : Int) < (Q.length : Int)) = true := by simpa using h0
          go_wp2_with fail
          refine CH.out.mono ?_
          rintro e w2 ⟨rfl, hl2⟩
          obtain ⟨f1, f2⟩ := HoAt.of_left hl2 hT hb1 ha hw (Nat.le_succ_of_le hn)
          go_wp2_with fail
          go_meet
          exact ⟨rfl, f1, f2⟩
        · obtain ⟨pq, cq, hvq⟩ := row_form hT.row
          subst hvq
          have hq0 : Q.length = 0 := by omega
          have f1 : HoAt w1 a wb w.heap.size (.slice pq Q.length cq) (k + 1) := ⟨A, Ls, Q, hA, ok, hH, hT, by omega⟩
          rw [hq0] at f1 ⊢
          go_wp2_with fail
          go_meet
          exact ⟨rfl, f1, hb1⟩
      case rest =>
        rename_i wc
        obtain ⟨rfl, hst, hb2⟩ := hcut
        have hst' := hst
        obtain ⟨A2, Ls2, Q2, hA2, ok2, hH2, hT2, hn2⟩ := hst'
        have HD := Lib.hid (held_any a wb _ A2 Ls2 _ Q2 _ (tb.out.below hb2) hA2 ok2 hT2 hH2 (by omega) (hH2.chk ok2))
        clear hA2 ok2 hH2 hT2 hn2 hA ok hH hT hn cO fO hO hb1 hbk
        go_wp2_with fail
        refine HD.out.mono ?_
        rintro e w3 ⟨rfl, hq⟩
        have hst3 := hst.below hq
        have hb3 := hb2.trans (hq.mono hb2.size)
        go_wp2_with fail
        exact ⟨⟨k + 1, by omega, by omega, by go_num, rfl, hst3, hb3⟩, by simp [intOf]; omega⟩

    · clear hst
      by_cases hlt2 : k < l.length
      · have dlt : decide ((k : Int) < (l.length : Int)) = true := by simpa using hlt2
        have d60 : decide ((k : Int) < 60) = false := by simp; omega
        go_wp2_with fail
        go_ret
        exact ⟨rfl, hbr⟩
      · have dlt : decide ((k : Int) < (l.length : Int)) = false := by simpa using hlt2
        go_wp2_with fail
        go_ret
        exact ⟨rfl, hbr⟩
theorem arenaHolds_walk (c : Cfg) (v : Value) (l : List Dt) (w : World) (tb : Tab w) (hv : DosAt w v l) (hl : (l.length : Int) ≤ 9223372036854775807) (hbd : ∀ o ∈ l, o.Bd) : Calls Tryd.prog 9 #[c.val, v] w fun e w' => e = .returned (.bool true) ∧ Below w.heap.size w w' := by
  cases hc : c.valid with
  | true => exact arenaHolds_yes c v l w tb hv hl hbd hc
  | false => exact arenaHolds_no c v w tb hc
end Go.Proofs.YtomgfdfgildkbaaDoor
