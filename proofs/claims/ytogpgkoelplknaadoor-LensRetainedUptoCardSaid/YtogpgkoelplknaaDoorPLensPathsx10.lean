import Derived.Test.YtogpgkoelplknaaDoorPLensPathsx0
import Derived.Test.YtogpgkoelplknaaDoorPLensPathsx7
import Derived.Test.YtogpgkoelplknaaDoorPLensPathsx9
namespace Go.Proofs.YtogpgkoelplknaaDoor.PLensPaths
open Go.RowKit Go.Proofs.YtogpgkoelplknaaDoorW.PrintWords Go.Proofs.YtogpgkoelplknaaDoorW.PrintLast Go.Proofs.YtogpgkoelplknaaDoorW.PrintMore
attribute [local go_sem] max2_int min2_int max_two min_two max_three min_three max_four min_four
set_option linter.unusedVariables false
set_option linter.unusedSimpArgs false
mutual
def middenref16_lists.j0 : Nat -> List Int -> Bool -> List (S59) -> List (List (List Int)) -> List Int -> List Int -> List Int -> Int -> Option (Bool)
 | 0, _, _, _, _, _, _, _, _ => none
 | k + 1, x3, x24, x253000, x253001, x253002, x253003, x253004, x253005 => if x24 = true then (some false) else (middenref16_lists.l0 k x3 0 x253000 x253001 x253002 x253003 x253004 x253005)
def middenref16_lists.l0 : Nat -> List Int -> Int -> List (S59) -> List (List (List Int)) -> List Int -> List Int -> List Int -> Int -> Option (Bool)
 | 0, _, _, _, _, _, _, _, _ => none
 | k + 1, x3, x4, x253000, x253001, x253002, x253003, x253004, x253005 => if x4 < (x3.length : Int) then (if 0 <= x4 then (if x4 < (x253003.length : Int) then (if (rd x3 x4) = (rd x253003 x4) then (middenref16_lists.l0 k x3 (wrap64 (x4 + 1)) x253000 x253001 x253002 x253003 x253004 x253005) else (some false)) else (none)) else (none)) else (if 0 <= (wrap64 ((x253000.length : Int) + 1)) then (if (wrap64 ((x253000.length : Int) + 1) : Int).toNat <= 281474976710656 then (middenref16_lists.l1 k (List.replicate (wrap64 ((x253000.length : Int) + 1) : Int).toNat false) 0 x253000 x253001 x253002 x253003 x253004 x253005) else (none)) else (none))
def middenref16_lists.l1 : Nat -> List Bool -> Int -> List (S59) -> List (List (List Int)) -> List Int -> List Int -> List Int -> Int -> Option (Bool)
 | 0, _, _, _, _, _, _, _, _ => none
 | k + 1, x5, x6, x253000, x253001, x253002, x253003, x253004, x253005 => if x6 < (x253004.length : Int) then (if 0 <= x6 then (if 0 <= (rd x253004 x6) then (if (rd x253004 x6) < (x5.length : Int) then (if rdOf false x5 (rd x253004 x6) = true then (some false) else (if 0 <= (wrap64 ((rd x253004 x6) - 1)) then (if (wrap64 ((rd x253004 x6) - 1)) < (x253000.length : Int) then (if ((rd_T59 x253000 (wrap64 ((rd x253004 x6) - 1))).f1) = 4 then (some false) else (middenref16_lists.l1 k (x5.set ((rd x253004 x6) : Int).toNat true) (wrap64 (x6 + 1)) x253000 x253001 x253002 x253003 x253004 x253005)) else (none)) else (none))) else (none)) else (none)) else (none)) else (some true)
end
def middenref16_lists.f (k : Nat) (l0_0 : List (S59)) (l0_1 : List (List (List Int))) (l0_2 : List Int) (l0_3 : List Int) (l0_4 : List Int) (a0_5 : Int) : Option (Bool) := (middenref16_finals.f k l0_0 l0_1 l0_2 l0_3 l0_4 a0_5).bind fun t253 => (if (t253.length : Int) = (l0_3.length : Int) then ((middenref16_between.f k l0_4 1 (l0_0.length : Int)).bind fun t256 => (middenref16_lists.j0 k t253 (!t256) l0_0 l0_1 l0_2 l0_3 l0_4 a0_5)) else (middenref16_lists.j0 k t253 true l0_0 l0_1 l0_2 l0_3 l0_4 a0_5))
theorem middenref16_lists.mono_l : ∀ k, (∀ y0 y1 y2 y3 y4 y5 y6 y7, LeO (middenref16_lists.j0 k y0 y1 y2 y3 y4 y5 y6 y7) (middenref16_lists.j0 (k + 1) y0 y1 y2 y3 y4 y5 y6 y7)) /\ (∀ y0 y1 y2 y3 y4 y5 y6 y7, LeO (middenref16_lists.l0 k y0 y1 y2 y3 y4 y5 y6 y7) (middenref16_lists.l0 (k + 1) y0 y1 y2 y3 y4 y5 y6 y7)) /\ (∀ y0 y1 y2 y3 y4 y5 y6 y7, LeO (middenref16_lists.l1 k y0 y1 y2 y3 y4 y5 y6 y7) (middenref16_lists.l1 (k + 1) y0 y1 y2 y3 y4 y5 y6 y7))
 | 0 => ⟨fun _ _ _ _ _ _ _ _ r h => by simp [middenref16_lists.j0] at h, fun _ _ _ _ _ _ _ _ r h => by simp [middenref16_lists.l0] at h, fun _ _ _ _ _ _ _ _ r h => by simp [middenref16_lists.l1] at h⟩
 | k + 1 => by
  obtain ⟨ih0, ih1, ih2⟩ := middenref16_lists.mono_l k
  refine ⟨?_, ?_, ?_⟩
  ·intro y0 y1 y2 y3 y4 y5 y6 y7
   unfold middenref16_lists.j0
   repeat' first
   | (with_reducible first | exact ih0 _ _ _ _ _ _ _ _ | exact ih1 _ _ _ _ _ _ _ _ | exact ih2 _ _ _ _ _ _ _ _ | exact middenref16_between.mono _ _ _ _ | exact middenref16_finals.mono _ _ _ _ _ _ _ | exact LeO.refl _ | exact LeO.none _ | refine LeO.ite ?_ ?_ | refine LeO.bind ?_ (fun _ => ?_))
   | exact ih0 _ _ _ _ _ _ _ _
   | exact ih1 _ _ _ _ _ _ _ _
   | exact ih2 _ _ _ _ _ _ _ _
   | exact middenref16_between.mono _ _ _ _
   | exact middenref16_finals.mono _ _ _ _ _ _ _
   | exact LeO.none _
   | refine LeO.ite ?_ ?_
   | refine LeO.bind ?_ (fun _ => ?_)
  ·intro y0 y1 y2 y3 y4 y5 y6 y7
   unfold middenref16_lists.l0
   repeat' first
   | (with_reducible first | exact ih0 _ _ _ _ _ _ _ _ | exact ih1 _ _ _ _ _ _ _ _ | exact ih2 _ _ _ _ _ _ _ _ | exact middenref16_between.mono _ _ _ _ | exact middenref16_finals.mono _ _ _ _ _ _ _ | exact LeO.refl _ | exact LeO.none _ | refine LeO.ite ?_ ?_ | refine LeO.bind ?_ (fun _ => ?_))
   | exact ih0 _ _ _ _ _ _ _ _
   | exact ih1 _ _ _ _ _ _ _ _
   | exact ih2 _ _ _ _ _ _ _ _
   | exact middenref16_between.mono _ _ _ _
   | exact middenref16_finals.mono _ _ _ _ _ _ _
   | exact LeO.none _
   | refine LeO.ite ?_ ?_
   | refine LeO.bind ?_ (fun _ => ?_)
  ·intro y0 y1 y2 y3 y4 y5 y6 y7
   unfold middenref16_lists.l1
   repeat' first
   | (with_reducible first | exact ih0 _ _ _ _ _ _ _ _ | exact ih1 _ _ _ _ _ _ _ _ | exact ih2 _ _ _ _ _ _ _ _ | exact middenref16_between.mono _ _ _ _ | exact middenref16_finals.mono _ _ _ _ _ _ _ | exact LeO.refl _ | exact LeO.none _ | refine LeO.ite ?_ ?_ | refine LeO.bind ?_ (fun _ => ?_))
   | exact ih0 _ _ _ _ _ _ _ _
   | exact ih1 _ _ _ _ _ _ _ _
   | exact ih2 _ _ _ _ _ _ _ _
   | exact middenref16_between.mono _ _ _ _
   | exact middenref16_finals.mono _ _ _ _ _ _ _
   | exact LeO.none _
   | refine LeO.ite ?_ ?_
   | refine LeO.bind ?_ (fun _ => ?_)
theorem middenref16_lists.mono : ∀ a0 a1 a2 a3 a4 a5 k, LeO (middenref16_lists.f k a0 a1 a2 a3 a4 a5) (middenref16_lists.f (k + 1) a0 a1 a2 a3 a4 a5) := by
 intro a0 a1 a2 a3 a4 a5 k
 obtain ⟨ih0, ih1, ih2⟩ := middenref16_lists.mono_l k
 unfold middenref16_lists.f
 repeat' first
   | (with_reducible first | exact ih0 _ _ _ _ _ _ _ _ | exact ih1 _ _ _ _ _ _ _ _ | exact ih2 _ _ _ _ _ _ _ _ | exact middenref16_between.mono _ _ _ _ | exact middenref16_finals.mono _ _ _ _ _ _ _ | exact LeO.refl _ | exact LeO.none _ | refine LeO.ite ?_ ?_ | refine LeO.bind ?_ (fun _ => ?_))
   | exact ih0 _ _ _ _ _ _ _ _
   | exact ih1 _ _ _ _ _ _ _ _
   | exact ih2 _ _ _ _ _ _ _ _
   | exact middenref16_between.mono _ _ _ _
   | exact middenref16_finals.mono _ _ _ _ _ _ _
   | exact LeO.none _
   | refine LeO.ite ?_ ?_
   | refine LeO.bind ?_ (fun _ => ?_)
set_option maxHeartbeats 8000000 in
set_option maxRecDepth 100000 in
theorem middenref16_lists.calls (k : Nat) (A0_0 : Option Addr) (c0_0 : Nat) (l0_0 : List (S59)) (A0_1 : Option Addr) (c0_1 : Nat) (l0_1 : List (List (List Int))) (A0_2 : Option Addr) (c0_2 : Nat) (l0_2 : List Int) (A0_3 : Option Addr) (c0_3 : Nat) (l0_3 : List Int) (A0_4 : Option Addr) (c0_4 : Nat) (l0_4 : List Int) (a0_5 : Int) (r : Bool) (w : World) (hr0_0 : Kd.C k59 w A0_0 l0_0.length l0_0) (hc0_0 : l0_0.length <= c0_0) (hr0_1 : Kd.C (Kd.slice 24 (Kd.slice 3 (Kd.int .i64))) w A0_1 l0_1.length l0_1) (hc0_1 : l0_1.length <= c0_1) (hr0_2 : Kd.C (Kd.int .i64) w A0_2 l0_2.length l0_2) (hc0_2 : l0_2.length <= c0_2) (hr0_3 : Kd.C (Kd.int .i64) w A0_3 l0_3.length l0_3) (hc0_3 : l0_3.length <= c0_3) (hr0_4 : Kd.C (Kd.int .i64) w A0_4 l0_4.length l0_4) (hc0_4 : l0_4.length <= c0_4) (h : middenref16_lists.f k l0_0 l0_1 l0_2 l0_3 l0_4 a0_5 = some r) :
  Calls Tryd.prog 84 #[.agg #[.slice A0_0 l0_0.length c0_0, .slice A0_1 l0_1.length c0_1, .slice A0_2 l0_2.length c0_2, .slice A0_3 l0_3.length c0_3, .slice A0_4 l0_4.length c0_4, .int .u64 a0_5]] w fun e w' => e = .returned (.bool r) /\ Below w.heap.size w w' := by
 have hu27 := Tryd.underlying27
 have HR0_0 := Aside0.mk hr0_0
 have HC0_0 := Aside0.mk hc0_0
 clear hr0_0 hc0_0
 have HR0_1 := Aside0.mk hr0_1
 have HC0_1 := Aside0.mk hc0_1
 clear hr0_1 hc0_1
 have HR0_2 := Aside0.mk hr0_2
 have HC0_2 := Aside0.mk hc0_2
 clear hr0_2 hc0_2
 have HR0_3 := Aside0.mk hr0_3
 have HC0_3 := Aside0.mk hc0_3
 clear hr0_3 hc0_3
 have HR0_4 := Aside0.mk hr0_4
 have HC0_4 := Aside0.mk hc0_4
 clear hr0_4 hc0_4
 have HB := Aside0.mk (Below.refl w.heap.size w)
 have H : ((middenref16_finals.f k l0_0 l0_1 l0_2 l0_3 l0_4 a0_5).bind fun t253 => (if (t253.length : Int) = (l0_3.length : Int) then ((middenref16_between.f k l0_4 1 (l0_0.length : Int)).bind fun t256 => (middenref16_lists.j0 k t253 (!t256) l0_0 l0_1 l0_2 l0_3 l0_4 a0_5)) else (middenref16_lists.j0 k t253 true l0_0 l0_1 l0_2 l0_3 l0_4 a0_5))) = some r := h
 clear h
 replace H := Option.bind_eq_some_iff.mp H
 obtain ⟨t253, A20, H⟩ := H
 replace H : (if (t253.length : Int) = (l0_3.length : Int) then ((middenref16_between.f k l0_4 1 (l0_0.length : Int)).bind fun t256 => (middenref16_lists.j0 k t253 (!t256) l0_0 l0_1 l0_2 l0_3 l0_4 a0_5)) else (middenref16_lists.j0 k t253 true l0_0 l0_1 l0_2 l0_3 l0_4 a0_5)) = some r := H
 have A2 := Aside0.mk A20
 clear A20
 have HC3 := Aside0.mk H
 clear H
 go_enter Tryd.func84, Tryd.ntmps84
 go_upto_region 2 with (first | ((with_reducible refine gate_dst (N := 1) rfl ?_); (try (refine gate_guard (by rfl) ?_; dsimp only)); refine box_event ?hg (N := 1) ?hd (cs := #[.slice A0_0 l0_0.length c0_0, .slice A0_1 l0_1.length c0_1, .slice A0_2 l0_2.length c0_2, .slice A0_3 l0_3.length c0_3, .slice A0_4 l0_4.length c0_4, .int .u64 a0_5]) (t := 27) ?hr ?_; (case hd => rfl); (case hg => rfl); (case hr => first | (go_simp; done) | (go_simp; rfl)); intro gb252 hg w4 hbox hb; have n0_ := Aside0.mk (below_step (by repeat (first | (with_reducible first | exact HB.out | apply below_alloc | apply pw_below_drewN | apply below_drew1) | exact HB.out)) hb); have n1_ := Aside0.mk (hbox); have n2_ := Aside0.mk ((by rw [hg]; exact (below_size (by repeat (first | (with_reducible first | exact HB.out | apply below_alloc | apply pw_below_drewN | apply below_drew1) | exact HB.out))) : w.heap.size <= gb252)); have n3_ := Aside0.mk ((by rw [hg]; exact (below_size (by repeat (first | (with_reducible first | exact HB.out | apply below_alloc | apply pw_below_drewN | apply below_drew1) | exact HB.out))) : w.heap.size <= gb252)); clear HB; have HB := n0_; have BK252 := n1_; have GW252 := n2_; have GE252 := n3_; clear n0_ n1_ n2_ n3_; clear hb hbox hg; have hcz5_0 : w4.cell? ⟨gb252, 0, none⟩ = some (.slice A0_0 l0_0.length c0_0) := (bkC BK252.out 0).trans rfl; have hcz5_1 : w4.cell? ⟨gb252, 1, none⟩ = some (.slice A0_1 l0_1.length c0_1) := (bkC BK252.out 1).trans rfl; have hcz5_2 : w4.cell? ⟨gb252, 2, none⟩ = some (.slice A0_2 l0_2.length c0_2) := (bkC BK252.out 2).trans rfl; have hcz5_3 : w4.cell? ⟨gb252, 3, none⟩ = some (.slice A0_3 l0_3.length c0_3) := (bkC BK252.out 3).trans rfl; have hcz5_4 : w4.cell? ⟨gb252, 4, none⟩ = some (.slice A0_4 l0_4.length c0_4) := (bkC BK252.out 4).trans rfl; have hcz5_5 : w4.cell? ⟨gb252, 5, none⟩ = some (.int .u64 a0_5) := (bkC BK252.out 5).trans rfl; have hfz5_0 := bkF BK252.out 0; have hfz5_1 := bkF BK252.out 1; have hfz5_2 := bkF BK252.out 2; have hfz5_3 := bkF BK252.out 3; have hfz5_4 := bkF BK252.out 4; have hfz5_5 := bkF BK252.out 5) | (go_at_call 120; (with_reducible refine (middenref16_finals.calls k _ _ l0_0 _ _ l0_1 _ _ l0_2 _ _ l0_3 _ _ l0_4 a0_5 t253 _ ?side1 ?side2 ?side3 ?side4 ?side5 ?side6 ?side7 ?side8 ?side9 ?side10 A2.out).mono ?_); (case side1 => repeat (first | exact (Kd.C_below HR0_0.out HB.out) | (with_reducible refine Kd.C_alloc ?_ _) | (with_reducible refine Kd.C_drewN ?_ _) | (with_reducible refine Kd.C_drew ?_))); (case side2 => exact HC0_0.out); (case side3 => repeat (first | exact (Kd.C_below HR0_1.out HB.out) | (with_reducible refine Kd.C_alloc ?_ _) | (with_reducible refine Kd.C_drewN ?_ _) | (with_reducible refine Kd.C_drew ?_))); (case side4 => exact HC0_1.out); (case side5 => repeat (first | exact (Kd.C_below HR0_2.out HB.out) | (with_reducible refine Kd.C_alloc ?_ _) | (with_reducible refine Kd.C_drewN ?_ _) | (with_reducible refine Kd.C_drew ?_))); (case side6 => exact HC0_2.out); (case side7 => repeat (first | exact (Kd.C_below HR0_3.out HB.out) | (with_reducible refine Kd.C_alloc ?_ _) | (with_reducible refine Kd.C_drewN ?_ _) | (with_reducible refine Kd.C_drew ?_))); (case side8 => exact HC0_3.out); (case side9 => repeat (first | exact (Kd.C_below HR0_4.out HB.out) | (with_reducible refine Kd.C_alloc ?_ _) | (with_reducible refine Kd.C_drewN ?_ _) | (with_reducible refine Kd.C_drew ?_))); (case side10 => exact HC0_4.out); rintro e w6 ⟨v254, rfl, ho0, hb⟩; have n0_ := Aside0.mk (Kd.R_lower ho0 (below_size (by repeat (first | (with_reducible first | exact HB.out | apply below_alloc | apply pw_below_drewN | apply below_drew1 | refine below_set ?_ GE252.out) | exact HB.out)))); have n1_ := Aside0.mk (blk_below (g := gb252) (o := .cells #[.slice A0_0 l0_0.length c0_0, .slice A0_1 l0_1.length c0_1, .slice A0_2 l0_2.length c0_2, .slice A0_3 l0_3.length c0_3, .slice A0_4 l0_4.length c0_4, .int .u64 a0_5] 27 (0, 0)) (by (with_reducible repeat (first | refine blk_drewN ?_ _ | refine blk_drew ?_ | refine blk_alloc ?_ _)); exact BK252.out) hb); have n2_ := Aside0.mk (below_step (by repeat (first | (with_reducible first | exact HB.out | apply below_alloc | apply pw_below_drewN | apply below_drew1 | refine below_set ?_ GE252.out) | exact HB.out)) hb); clear BK252; clear HB; have HO255 := n0_; have BK252 := n1_; have HB := n2_; clear n0_ n1_ n2_; (try clear hb); (try clear hb2); (try clear hk); (try clear hi); (try clear ho0)))
 repeat (go_quiet (first | ((with_reducible refine gate_dst (N := 1) rfl ?_); (try (refine gate_guard (by rfl) ?_; dsimp only)); refine box_event ?hg (N := 1) ?hd (cs := #[.slice A0_0 l0_0.length c0_0, .slice A0_1 l0_1.length c0_1, .slice A0_2 l0_2.length c0_2, .slice A0_3 l0_3.length c0_3, .slice A0_4 l0_4.length c0_4, .int .u64 a0_5]) (t := 27) ?hr ?_; (case hd => rfl); (case hg => rfl); (case hr => first | (go_simp; done) | (go_simp; rfl)); intro gb252 hg w4 hbox hb; have n0_ := Aside0.mk (below_step (by repeat (first | (with_reducible first | exact HB.out | apply below_alloc | apply pw_below_drewN | apply below_drew1) | exact HB.out)) hb); have n1_ := Aside0.mk (hbox); have n2_ := Aside0.mk ((by rw [hg]; exact (below_size (by repeat (first | (with_reducible first | exact HB.out | apply below_alloc | apply pw_below_drewN | apply below_drew1) | exact HB.out))) : w.heap.size <= gb252)); have n3_ := Aside0.mk ((by rw [hg]; exact (below_size (by repeat (first | (with_reducible first | exact HB.out | apply below_alloc | apply pw_below_drewN | apply below_drew1) | exact HB.out))) : w.heap.size <= gb252)); clear HB; have HB := n0_; have BK252 := n1_; have GW252 := n2_; have GE252 := n3_; clear n0_ n1_ n2_ n3_; clear hb hbox hg; have hcz5_0 : w4.cell? ⟨gb252, 0, none⟩ = some (.slice A0_0 l0_0.length c0_0) := (bkC BK252.out 0).trans rfl; have hcz5_1 : w4.cell? ⟨gb252, 1, none⟩ = some (.slice A0_1 l0_1.length c0_1) := (bkC BK252.out 1).trans rfl; have hcz5_2 : w4.cell? ⟨gb252, 2, none⟩ = some (.slice A0_2 l0_2.length c0_2) := (bkC BK252.out 2).trans rfl; have hcz5_3 : w4.cell? ⟨gb252, 3, none⟩ = some (.slice A0_3 l0_3.length c0_3) := (bkC BK252.out 3).trans rfl; have hcz5_4 : w4.cell? ⟨gb252, 4, none⟩ = some (.slice A0_4 l0_4.length c0_4) := (bkC BK252.out 4).trans rfl; have hcz5_5 : w4.cell? ⟨gb252, 5, none⟩ = some (.int .u64 a0_5) := (bkC BK252.out 5).trans rfl; have hfz5_0 := bkF BK252.out 0; have hfz5_1 := bkF BK252.out 1; have hfz5_2 := bkF BK252.out 2; have hfz5_3 := bkF BK252.out 3; have hfz5_4 := bkF BK252.out 4; have hfz5_5 := bkF BK252.out 5) | (go_at_call 120; (with_reducible refine (middenref16_finals.calls k _ _ l0_0 _ _ l0_1 _ _ l0_2 _ _ l0_3 _ _ l0_4 a0_5 t253 _ ?side1 ?side2 ?side3 ?side4 ?side5 ?side6 ?side7 ?side8 ?side9 ?side10 A2.out).mono ?_); (case side1 => repeat (first | exact (Kd.C_below HR0_0.out HB.out) | (with_reducible refine Kd.C_alloc ?_ _) | (with_reducible refine Kd.C_drewN ?_ _) | (with_reducible refine Kd.C_drew ?_))); (case side2 => exact HC0_0.out); (case side3 => repeat (first | exact (Kd.C_below HR0_1.out HB.out) | (with_reducible refine Kd.C_alloc ?_ _) | (with_reducible refine Kd.C_drewN ?_ _) | (with_reducible refine Kd.C_drew ?_))); (case side4 => exact HC0_1.out); (case side5 => repeat (first | exact (Kd.C_below HR0_2.out HB.out) | (with_reducible refine Kd.C_alloc ?_ _) | (with_reducible refine Kd.C_drewN ?_ _) | (with_reducible refine Kd.C_drew ?_))); (case side6 => exact HC0_2.out); (case side7 => repeat (first | exact (Kd.C_below HR0_3.out HB.out) | (with_reducible refine Kd.C_alloc ?_ _) | (with_reducible refine Kd.C_drewN ?_ _) | (with_reducible refine Kd.C_drew ?_))); (case side8 => exact HC0_3.out); (case side9 => repeat (first | exact (Kd.C_below HR0_4.out HB.out) | (with_reducible refine Kd.C_alloc ?_ _) | (with_reducible refine Kd.C_drewN ?_ _) | (with_reducible refine Kd.C_drew ?_))); (case side10 => exact HC0_4.out); rintro e w6 ⟨v254, rfl, ho0, hb⟩; have n0_ := Aside0.mk (Kd.R_lower ho0 (below_size (by repeat (first | (with_reducible first | exact HB.out | apply below_alloc | apply pw_below_drewN | apply below_drew1 | refine below_set ?_ GE252.out) | exact HB.out)))); have n1_ := Aside0.mk (blk_below (g := gb252) (o := .cells #[.slice A0_0 l0_0.length c0_0, .slice A0_1 l0_1.length c0_1, .slice A0_2 l0_2.length c0_2, .slice A0_3 l0_3.length c0_3, .slice A0_4 l0_4.length c0_4, .int .u64 a0_5] 27 (0, 0)) (by (with_reducible repeat (first | refine blk_drewN ?_ _ | refine blk_drew ?_ | refine blk_alloc ?_ _)); exact BK252.out) hb); have n2_ := Aside0.mk (below_step (by repeat (first | (with_reducible first | exact HB.out | apply below_alloc | apply pw_below_drewN | apply below_drew1 | refine below_set ?_ GE252.out) | exact HB.out)) hb); clear BK252; clear HB; have HO255 := n0_; have BK252 := n1_; have HB := n2_; clear n0_ n1_ n2_; (try clear hb); (try clear hb2); (try clear hk); (try clear hi); (try clear ho0))); go_upto_region 2 with (first | ((with_reducible refine gate_dst (N := 1) rfl ?_); (try (refine gate_guard (by rfl) ?_; dsimp only)); refine box_event ?hg (N := 1) ?hd (cs := #[.slice A0_0 l0_0.length c0_0, .slice A0_1 l0_1.length c0_1, .slice A0_2 l0_2.length c0_2, .slice A0_3 l0_3.length c0_3, .slice A0_4 l0_4.length c0_4, .int .u64 a0_5]) (t := 27) ?hr ?_; (case hd => rfl); (case hg => rfl); (case hr => first | (go_simp; done) | (go_simp; rfl)); intro gb252 hg w4 hbox hb; have n0_ := Aside0.mk (below_step (by repeat (first | (with_reducible first | exact HB.out | apply below_alloc | apply pw_below_drewN | apply below_drew1) | exact HB.out)) hb); have n1_ := Aside0.mk (hbox); have n2_ := Aside0.mk ((by rw [hg]; exact (below_size (by repeat (first | (with_reducible first | exact HB.out | apply below_alloc | apply pw_below_drewN | apply below_drew1) | exact HB.out))) : w.heap.size <= gb252)); have n3_ := Aside0.mk ((by rw [hg]; exact (below_size (by repeat (first | (with_reducible first | exact HB.out | apply below_alloc | apply pw_below_drewN | apply below_drew1) | exact HB.out))) : w.heap.size <= gb252)); clear HB; have HB := n0_; have BK252 := n1_; have GW252 := n2_; have GE252 := n3_; clear n0_ n1_ n2_ n3_; clear hb hbox hg; have hcz5_0 : w4.cell? ⟨gb252, 0, none⟩ = some (.slice A0_0 l0_0.length c0_0) := (bkC BK252.out 0).trans rfl; have hcz5_1 : w4.cell? ⟨gb252, 1, none⟩ = some (.slice A0_1 l0_1.length c0_1) := (bkC BK252.out 1).trans rfl; have hcz5_2 : w4.cell? ⟨gb252, 2, none⟩ = some (.slice A0_2 l0_2.length c0_2) := (bkC BK252.out 2).trans rfl; have hcz5_3 : w4.cell? ⟨gb252, 3, none⟩ = some (.slice A0_3 l0_3.length c0_3) := (bkC BK252.out 3).trans rfl; have hcz5_4 : w4.cell? ⟨gb252, 4, none⟩ = some (.slice A0_4 l0_4.length c0_4) := (bkC BK252.out 4).trans rfl; have hcz5_5 : w4.cell? ⟨gb252, 5, none⟩ = some (.int .u64 a0_5) := (bkC BK252.out 5).trans rfl; have hfz5_0 := bkF BK252.out 0; have hfz5_1 := bkF BK252.out 1; have hfz5_2 := bkF BK252.out 2; have hfz5_3 := bkF BK252.out 3; have hfz5_4 := bkF BK252.out 4; have hfz5_5 := bkF BK252.out 5) | (go_at_call 120; (with_reducible refine (middenref16_finals.calls k _ _ l0_0 _ _ l0_1 _ _ l0_2 _ _ l0_3 _ _ l0_4 a0_5 t253 _ ?side1 ?side2 ?side3 ?side4 ?side5 ?side6 ?side7 ?side8 ?side9 ?side10 A2.out).mono ?_); (case side1 => repeat (first | exact (Kd.C_below HR0_0.out HB.out) | (with_reducible refine Kd.C_alloc ?_ _) | (with_reducible refine Kd.C_drewN ?_ _) | (with_reducible refine Kd.C_drew ?_))); (case side2 => exact HC0_0.out); (case side3 => repeat (first | exact (Kd.C_below HR0_1.out HB.out) | (with_reducible refine Kd.C_alloc ?_ _) | (with_reducible refine Kd.C_drewN ?_ _) | (with_reducible refine Kd.C_drew ?_))); (case side4 => exact HC0_1.out); (case side5 => repeat (first | exact (Kd.C_below HR0_2.out HB.out) | (with_reducible refine Kd.C_alloc ?_ _) | (with_reducible refine Kd.C_drewN ?_ _) | (with_reducible refine Kd.C_drew ?_))); (case side6 => exact HC0_2.out); (case side7 => repeat (first | exact (Kd.C_below HR0_3.out HB.out) | (with_reducible refine Kd.C_alloc ?_ _) | (with_reducible refine Kd.C_drewN ?_ _) | (with_reducible refine Kd.C_drew ?_))); (case side8 => exact HC0_3.out); (case side9 => repeat (first | exact (Kd.C_below HR0_4.out HB.out) | (with_reducible refine Kd.C_alloc ?_ _) | (with_reducible refine Kd.C_drewN ?_ _) | (with_reducible refine Kd.C_drew ?_))); (case side10 => exact HC0_4.out); rintro e w6 ⟨v254, rfl, ho0, hb⟩; have n0_ := Aside0.mk (Kd.R_lower ho0 (below_size (by repeat (first | (with_reducible first | exact HB.out | apply below_alloc | apply pw_below_drewN | apply below_drew1 | refine below_set ?_ GE252.out) | exact HB.out)))); have n1_ := Aside0.mk (blk_below (g := gb252) (o := .cells #[.slice A0_0 l0_0.length c0_0, .slice A0_1 l0_1.length c0_1, .slice A0_2 l0_2.length c0_2, .slice A0_3 l0_3.length c0_3, .slice A0_4 l0_4.length c0_4, .int .u64 a0_5] 27 (0, 0)) (by (with_reducible repeat (first | refine blk_drewN ?_ _ | refine blk_drew ?_ | refine blk_alloc ?_ _)); exact BK252.out) hb); have n2_ := Aside0.mk (below_step (by repeat (first | (with_reducible first | exact HB.out | apply below_alloc | apply pw_below_drewN | apply below_drew1 | refine below_set ?_ GE252.out) | exact HB.out)) hb); clear BK252; clear HB; have HO255 := n0_; have BK252 := n1_; have HB := n2_; clear n0_ n1_ n2_; (try clear hb); (try clear hb2); (try clear hk); (try clear hi); (try clear ho0))))
 (try simp only [Act.put, List.setIfInBounds_toArray, List.set_cons_zero, List.set_cons_succ])
 go_cut [24] (fun v24 wc => ∃ (kq : Nat) (x24_2 : Bool), v24 = .bool x24_2 /\ Aside0 (middenref16_lists.j0 kq t253 x24_2 l0_0 l0_1 l0_2 l0_3 l0_4 a0_5 = some r) /\ Aside0 (kq <= k) /\ Aside0 (Kd.R (Kd.int .i64) 3 wc w.heap.size (fun _ => True) v254 t253) /\ Aside0 (wc.heap[gb252]? = some (.cells #[(.slice A0_0 l0_0.length c0_0), (.slice A0_1 l0_1.length c0_1), (.slice A0_2 l0_2.length c0_2), (.slice A0_3 l0_3.length c0_3), (.slice A0_4 l0_4.length c0_4), .int .u64 a0_5] 27 (0, 0))) /\ Aside0 (Below w.heap.size w wc))
 case first =>
  have H := HC3.out
  clear HC3
  by_cases c7 : (t253.length : Int) = (l0_3.length : Int)
  ·rw [if_pos c7] at H
   have c7b0 : ((t253.length : Int) == (l0_3.length : Int)) = true := beq_iff_eq.mpr c7
   have c7b1 : ((t253.length : Int) != (l0_3.length : Int)) = false := bne_eq_false_iff_eq.mpr c7
   have c7b2 : (t253.length == l0_3.length) = true := by first | simpa using c7 | (simp at c7 ⊢; omega)
   clear c7
   (first | rw [c7b0] | (simp only [i64_w, i32_w]; rw [c7b0]) | skip)
   replace H := Option.bind_eq_some_iff.mp H
   obtain ⟨t256, A80, H⟩ := H
   replace H : (middenref16_lists.j0 k t253 (!t256) l0_0 l0_1 l0_2 l0_3 l0_4 a0_5) = some r := H
   have A8 := Aside0.mk A80
   clear A80
   have H' := Aside0.mk H
   clear H
   obtain ⟨Ao9, co9, eo9⟩ := Kd.R_slice HO255.out
   subst eo9
   have hcz10_0 : w6.cell? ⟨gb252, 0, none⟩ = some (.slice A0_0 l0_0.length c0_0) := (bkC BK252.out 0).trans rfl
   have hcz10_1 : w6.cell? ⟨gb252, 1, none⟩ = some (.slice A0_1 l0_1.length c0_1) := (bkC BK252.out 1).trans rfl
   have hcz10_2 : w6.cell? ⟨gb252, 2, none⟩ = some (.slice A0_2 l0_2.length c0_2) := (bkC BK252.out 2).trans rfl
   have hcz10_3 : w6.cell? ⟨gb252, 3, none⟩ = some (.slice A0_3 l0_3.length c0_3) := (bkC BK252.out 3).trans rfl
   have hcz10_4 : w6.cell? ⟨gb252, 4, none⟩ = some (.slice A0_4 l0_4.length c0_4) := (bkC BK252.out 4).trans rfl
   have hcz10_5 : w6.cell? ⟨gb252, 5, none⟩ = some (.int .u64 a0_5) := (bkC BK252.out 5).trans rfl
   have hfz10_0 := bkF BK252.out 0
   have hfz10_1 := bkF BK252.out 1
   have hfz10_2 := bkF BK252.out 2
   have hfz10_3 := bkF BK252.out 3
   have hfz10_4 := bkF BK252.out 4
   have hfz10_5 := bkF BK252.out 5
   go_wp2_with (first | (go_at_call 119; (with_reducible refine (middenref16_between.calls k _ _ l0_4 1 (l0_0.length : Int) t256 _ ?side1 ?side2 A8.out).mono ?_); (case side1 => repeat (first | exact (Kd.C_below HR0_4.out HB.out) | (with_reducible refine Kd.C_alloc ?_ _) | (with_reducible refine Kd.C_drewN ?_ _) | (with_reducible refine Kd.C_drew ?_))); (case side2 => exact HC0_4.out); rintro e w' ⟨rfl, ⟨nd, rfl⟩⟩; (try first | exact ⟨rfl, _, World.drewN_drewN _ _ _⟩ | exact ⟨rfl, _, Eq.trans (World.drewN_drewN _ _ _) (congrArg (World.drewN _) (Nat.add_assoc _ _ _))⟩)))
   repeat (go_quiet (first | (go_at_call 119; (with_reducible refine (middenref16_between.calls k _ _ l0_4 1 (l0_0.length : Int) t256 _ ?side1 ?side2 A8.out).mono ?_); (case side1 => repeat (first | exact (Kd.C_below HR0_4.out HB.out) | (with_reducible refine Kd.C_alloc ?_ _) | (with_reducible refine Kd.C_drewN ?_ _) | (with_reducible refine Kd.C_drew ?_))); (case side2 => exact HC0_4.out); rintro e w' ⟨rfl, ⟨nd, rfl⟩⟩; (try first | exact ⟨rfl, _, World.drewN_drewN _ _ _⟩ | exact ⟨rfl, _, Eq.trans (World.drewN_drewN _ _ _) (congrArg (World.drewN _) (Nat.add_assoc _ _ _))⟩))); try go_wp2_with (first | (go_at_call 119; (with_reducible refine (middenref16_between.calls k _ _ l0_4 1 (l0_0.length : Int) t256 _ ?side1 ?side2 A8.out).mono ?_); (case side1 => repeat (first | exact (Kd.C_below HR0_4.out HB.out) | (with_reducible refine Kd.C_alloc ?_ _) | (with_reducible refine Kd.C_drewN ?_ _) | (with_reducible refine Kd.C_drew ?_))); (case side2 => exact HC0_4.out); rintro e w' ⟨rfl, ⟨nd, rfl⟩⟩; (try first | exact ⟨rfl, _, World.drewN_drewN _ _ _⟩ | exact ⟨rfl, _, Eq.trans (World.drewN_drewN _ _ _) (congrArg (World.drewN _) (Nat.add_assoc _ _ _))⟩))))
   go_meet
   case rel => exact ⟨_, (!t256), (by first | rfl | (simp; done) | (simp [*]; done)), H', ⟨by first | omega | exact Nat.le_refl _⟩, ⟨by (with_reducible repeat (first | apply Kd.R_alloc | apply Kd.R_drewN | apply Kd.R_drew)); exact HO255.out⟩, ⟨by (with_reducible repeat (first | refine blk_drewN ?_ _ | refine blk_drew ?_ | refine blk_alloc ?_ _)); exact BK252.out⟩, ⟨by repeat (first | (with_reducible first | exact HB.out | apply below_alloc | apply pw_below_drewN | apply below_drew1 | refine below_set ?_ GE252.out) | exact HB.out)⟩⟩
  ·rw [if_neg c7] at H
   have c7b0 : ((t253.length : Int) == (l0_3.length : Int)) = false := beq_eq_false_iff_ne.mpr c7
   have c7b1 : ((t253.length : Int) != (l0_3.length : Int)) = true := bne_iff_ne.mpr c7
   have c7b2 : (t253.length == l0_3.length) = false := by first | simpa using c7 | (simp at c7 ⊢; omega)
   (first | rw [c7b0] | (simp only [i64_w, i32_w]; rw [c7b0]) | skip)
   have H' := Aside0.mk H
   clear H
   obtain ⟨Ao11, co11, eo11⟩ := Kd.R_slice HO255.out
   subst eo11
   have hcz12_0 : w6.cell? ⟨gb252, 0, none⟩ = some (.slice A0_0 l0_0.length c0_0) := (bkC BK252.out 0).trans rfl
   have hcz12_1 : w6.cell? ⟨gb252, 1, none⟩ = some (.slice A0_1 l0_1.length c0_1) := (bkC BK252.out 1).trans rfl
   have hcz12_2 : w6.cell? ⟨gb252, 2, none⟩ = some (.slice A0_2 l0_2.length c0_2) := (bkC BK252.out 2).trans rfl
   have hcz12_3 : w6.cell? ⟨gb252, 3, none⟩ = some (.slice A0_3 l0_3.length c0_3) := (bkC BK252.out 3).trans rfl
   have hcz12_4 : w6.cell? ⟨gb252, 4, none⟩ = some (.slice A0_4 l0_4.length c0_4) := (bkC BK252.out 4).trans rfl
   have hcz12_5 : w6.cell? ⟨gb252, 5, none⟩ = some (.int .u64 a0_5) := (bkC BK252.out 5).trans rfl
   have hfz12_0 := bkF BK252.out 0
   have hfz12_1 := bkF BK252.out 1
   have hfz12_2 := bkF BK252.out 2
   have hfz12_3 := bkF BK252.out 3
   have hfz12_4 := bkF BK252.out 4
   have hfz12_5 := bkF BK252.out 5
   go_wp2
   repeat (go_quiet (fail); try go_wp2)
   go_meet
   case rel => exact ⟨_, (true), (by first | rfl | (simp; done) | (simp [*]; done)), H', ⟨by first | omega | exact Nat.le_refl _⟩, ⟨by (with_reducible repeat (first | apply Kd.R_alloc | apply Kd.R_drewN | apply Kd.R_drew)); exact HO255.out⟩, ⟨by (with_reducible repeat (first | refine blk_drewN ?_ _ | refine blk_drew ?_ | refine blk_alloc ?_ _)); exact BK252.out⟩, ⟨by repeat (first | (with_reducible first | exact HB.out | apply below_alloc | apply pw_below_drewN | apply below_drew1 | refine below_set ?_ GE252.out) | exact HB.out)⟩⟩
 case rest =>
  clear HC3
  try clear p2;try clear c7;try clear c7b0;try clear c7b1;try clear c7b2;try clear c8;try clear hcz10_0;try clear hcz10_1;try clear hcz10_2;try clear hcz10_3;try clear hcz10_4;try clear hcz10_5;try clear hcz12_0;try clear hcz12_1;try clear hcz12_2;try clear hcz12_3;try clear hcz12_4;try clear hcz12_5;try clear hcz5_0;try clear hcz5_1;try clear hcz5_2;try clear hcz5_3;try clear hcz5_4;try clear hcz5_5;try clear hfz10_0;try clear hfz10_1;try clear hfz10_2;try clear hfz10_3;try clear hfz10_4;try clear hfz10_5;try clear hfz12_0;try clear hfz12_1;try clear hfz12_2;try clear hfz12_3;try clear hfz12_4;try clear hfz12_5;try clear hfz5_0;try clear hfz5_1;try clear hfz5_2;try clear hfz5_3;try clear hfz5_4;try clear hfz5_5
  obtain ⟨kq, x24_2, rfl, HA, HJ2, HO_3, BK252, HB⟩ := hcut
  cases kq with
  | zero => exact absurd HA.out (by simp [middenref16_lists.j0])
  | succ kj2 =>
   have H := HA.out
   clear HA
   simp only [middenref16_lists.j0] at H
   by_cases c13 : x24_2 = true
   ·subst c13
    have H1 : (some false) = some r := by rw [if_pos rfl] at H; exact H
    clear H
    have H := H1
    clear H1
    obtain rfl := Option.some.inj H
    go_wp2
    repeat (go_quiet (fail); try go_wp2)
    go_ret
    exact ⟨by first | rfl | (simp [errW_none, errW_some] <;> rfl) | (simp [*, errW_none, errW_some] <;> rfl), by repeat (first | (with_reducible first | exact HB.out | apply below_alloc | apply pw_below_drewN | apply below_drew1 | refine below_set ?_ GE252.out) | exact HB.out)⟩
   ·replace c13 := Bool.eq_false_iff.mpr c13
    subst c13
    have H1 : (middenref16_lists.l0 kj2 t253 0 l0_0 l0_1 l0_2 l0_3 l0_4 a0_5) = some r := by rw [if_neg (show ¬ (false = true) by decide)] at H; exact H
    clear H
    have H := H1
    clear H1
    have H' := Aside0.mk H
    clear H
    go_wp2
    repeat (go_quiet (fail); try go_wp2)
    go_loopg [4] kj2 (fun kq v4 w' => ∃ (x4_2 : Int), v4 = .int .i64 x4_2 /\ Aside0 (middenref16_lists.l0 kq t253 x4_2 l0_0 l0_1 l0_2 l0_3 l0_4 a0_5 = some r) /\ Aside0 (kq <= kj2) /\ Aside0 (Kd.R (Kd.int .i64) 3 w' w.heap.size (fun _ => True) v254 t253) /\ Aside0 (w'.heap[gb252]? = some (.cells #[(.slice A0_0 l0_0.length c0_0), (.slice A0_1 l0_1.length c0_1), (.slice A0_2 l0_2.length c0_2), (.slice A0_3 l0_3.length c0_3), (.slice A0_4 l0_4.length c0_4), .int .u64 a0_5] 27 (0, 0))) /\ Aside0 (Below w.heap.size w w'))
    case atStart => exact ⟨(0), (by first | rfl | (simp; done) | (simp [*]; done)), H', ⟨Nat.le_refl _⟩, ⟨by (with_reducible repeat (first | apply Kd.R_alloc | apply Kd.R_drewN | apply Kd.R_drew)); exact HO_3.out⟩, ⟨by (with_reducible repeat (first | refine blk_drewN ?_ _ | refine blk_drew ?_ | refine blk_alloc ?_ _)); exact BK252.out⟩, ⟨by repeat (first | (with_reducible first | exact HB.out | apply below_alloc | apply pw_below_drewN | apply below_drew1 | refine below_set ?_ GE252.out) | exact HB.out)⟩⟩
    case round =>
     clear H'
     try clear c1;try clear p2;try clear c7;try clear c7b0;try clear c7b1;try clear c7b2;try clear c8;try clear c13;try clear hcz10_0;try clear hcz10_1;try clear hcz10_2;try clear hcz10_3;try clear hcz10_4;try clear hcz10_5;try clear hcz12_0;try clear hcz12_1;try clear hcz12_2;try clear hcz12_3;try clear hcz12_4;try clear hcz12_5;try clear hcz5_0;try clear hcz5_1;try clear hcz5_2;try clear hcz5_3;try clear hcz5_4;try clear hcz5_5;try clear hfz10_0;try clear hfz10_1;try clear hfz10_2;try clear hfz10_3;try clear hfz10_4;try clear hfz10_5;try clear hfz12_0;try clear hfz12_1;try clear hfz12_2;try clear hfz12_3;try clear hfz12_4;try clear hfz12_5;try clear hfz5_0;try clear hfz5_1;try clear hfz5_2;try clear hfz5_3;try clear hfz5_4;try clear hfz5_5;try clear p2
     obtain ⟨x4_2, rfl, HA, HK2, HO_3, BK252, HB⟩ := hrel
     cases gk with
     | zero => exact absurd HA.out (by simp [middenref16_lists.l0])
     | succ k2 =>
      have H := HA.out
      clear HA
      simp only [middenref16_lists.l0] at H
      by_cases c14 : x4_2 < (t253.length : Int)
      ·rw [if_pos c14] at H
       have c14b0 : decide (x4_2 < (t253.length : Int)) = true := decide_eq_true c14
       clear c14
       by_cases c15 : 0 <= x4_2
       ·rw [if_pos c15] at H
        have c15b0 : decide (0 <= x4_2) = true := decide_eq_true c15
        clear c15
        by_cases c16 : x4_2 < (l0_3.length : Int)
        ·rw [if_pos c16] at H
         have c16b0 : decide (x4_2 < (l0_3.length : Int)) = true := decide_eq_true c16
         clear c16
         by_cases c17 : (rd t253 x4_2) = (rd l0_3 x4_2)
         ·rw [if_pos c17] at H
          have c17b0 : ((rd t253 x4_2) == (rd l0_3 x4_2)) = true := beq_iff_eq.mpr c17
          have c17b1 : ((rd t253 x4_2) != (rd l0_3 x4_2)) = false := bne_eq_false_iff_eq.mpr c17
          clear c17
          have H' := Aside0.mk H
          clear H
          obtain ⟨Ao18, co18, eo18⟩ := Kd.R_slice HO_3.out
          subst eo18
          have p257 : 0 <= (x4_2 : Int) := of_decide_eq_true (by first | (with_reducible assumption) | assumption)
          have q257 : x4_2 < (t253.length : Int) := of_decide_eq_true (by first | (with_reducible assumption) | assumption)
          obtain ⟨ad257, e257, hx257_0⟩ := Kd.at_int (Kd.R_reads' HO_3.out).2.2 x4_2 p257 q257
          cases e257
          replace p257 := eq_true p257
          replace q257 := eq_true q257
          have hcz19_0 : wr.cell? ⟨gb252, 0, none⟩ = some (.slice A0_0 l0_0.length c0_0) := (bkC BK252.out 0).trans rfl
          have hcz19_1 : wr.cell? ⟨gb252, 1, none⟩ = some (.slice A0_1 l0_1.length c0_1) := (bkC BK252.out 1).trans rfl
          have hcz19_2 : wr.cell? ⟨gb252, 2, none⟩ = some (.slice A0_2 l0_2.length c0_2) := (bkC BK252.out 2).trans rfl
          have hcz19_3 : wr.cell? ⟨gb252, 3, none⟩ = some (.slice A0_3 l0_3.length c0_3) := (bkC BK252.out 3).trans rfl
          have hcz19_4 : wr.cell? ⟨gb252, 4, none⟩ = some (.slice A0_4 l0_4.length c0_4) := (bkC BK252.out 4).trans rfl
          have hcz19_5 : wr.cell? ⟨gb252, 5, none⟩ = some (.int .u64 a0_5) := (bkC BK252.out 5).trans rfl
          have hfz19_0 := bkF BK252.out 0
          have hfz19_1 := bkF BK252.out 1
          have hfz19_2 := bkF BK252.out 2
          have hfz19_3 := bkF BK252.out 3
          have hfz19_4 := bkF BK252.out 4
          have hfz19_5 := bkF BK252.out 5
          have p258 : 0 <= (x4_2 : Int) := of_decide_eq_true (by first | (with_reducible assumption) | assumption)
          have q258 : x4_2 < (l0_3.length : Int) := of_decide_eq_true (by first | (with_reducible assumption) | assumption)
          obtain ⟨ad258, e258, hx258_0⟩ := Kd.at_int HR0_3.out x4_2 p258 q258
          cases e258
          replace hx258_0 := (HB.out.cell (World.block_lt_of_cell? w _ hx258_0)).trans hx258_0
          replace p258 := eq_true p258
          replace q258 := eq_true q258
          go_wp2
          repeat (go_quiet (fail); try go_wp2)
          go_roundg k2
          case measure => have := HJ2.out; have := HK2.out; omega
          case rel => exact ⟨(wrap64 (x4_2 + 1)), (by first | rfl | (simp; done) | (simp [*]; done)), H', ⟨by have := HJ2.out; have := HK2.out; omega⟩, ⟨by (with_reducible repeat (first | apply Kd.R_alloc | apply Kd.R_drewN | apply Kd.R_drew)); exact HO_3.out⟩, ⟨by (with_reducible repeat (first | refine blk_drewN ?_ _ | refine blk_drew ?_ | refine blk_alloc ?_ _)); exact BK252.out⟩, ⟨by repeat (first | (with_reducible first | exact HB.out | apply below_alloc | apply pw_below_drewN | apply below_drew1 | refine below_set ?_ GE252.out) | exact HB.out)⟩⟩
         ·rw [if_neg c17] at H
          have c17b0 : ((rd t253 x4_2) == (rd l0_3 x4_2)) = false := beq_eq_false_iff_ne.mpr c17
          have c17b1 : ((rd t253 x4_2) != (rd l0_3 x4_2)) = true := bne_iff_ne.mpr c17
          obtain rfl := Option.some.inj H
          obtain ⟨Ao20, co20, eo20⟩ := Kd.R_slice HO_3.out
          subst eo20
          have p257 : 0 <= (x4_2 : Int) := of_decide_eq_true (by first | (with_reducible assumption) | assumption)
          have q257 : x4_2 < (t253.length : Int) := of_decide_eq_true (by first | (with_reducible assumption) | assumption)
          obtain ⟨ad257, e257, hx257_0⟩ := Kd.at_int (Kd.R_reads' HO_3.out).2.2 x4_2 p257 q257
          cases e257
          replace p257 := eq_true p257
          replace q257 := eq_true q257
          have hcz21_0 : wr.cell? ⟨gb252, 0, none⟩ = some (.slice A0_0 l0_0.length c0_0) := (bkC BK252.out 0).trans rfl
          have hcz21_1 : wr.cell? ⟨gb252, 1, none⟩ = some (.slice A0_1 l0_1.length c0_1) := (bkC BK252.out 1).trans rfl
          have hcz21_2 : wr.cell? ⟨gb252, 2, none⟩ = some (.slice A0_2 l0_2.length c0_2) := (bkC BK252.out 2).trans rfl
          have hcz21_3 : wr.cell? ⟨gb252, 3, none⟩ = some (.slice A0_3 l0_3.length c0_3) := (bkC BK252.out 3).trans rfl
          have hcz21_4 : wr.cell? ⟨gb252, 4, none⟩ = some (.slice A0_4 l0_4.length c0_4) := (bkC BK252.out 4).trans rfl
          have hcz21_5 : wr.cell? ⟨gb252, 5, none⟩ = some (.int .u64 a0_5) := (bkC BK252.out 5).trans rfl
          have hfz21_0 := bkF BK252.out 0
          have hfz21_1 := bkF BK252.out 1
          have hfz21_2 := bkF BK252.out 2
          have hfz21_3 := bkF BK252.out 3
          have hfz21_4 := bkF BK252.out 4
          have hfz21_5 := bkF BK252.out 5
          have p258 : 0 <= (x4_2 : Int) := of_decide_eq_true (by first | (with_reducible assumption) | assumption)
          have q258 : x4_2 < (l0_3.length : Int) := of_decide_eq_true (by first | (with_reducible assumption) | assumption)
          obtain ⟨ad258, e258, hx258_0⟩ := Kd.at_int HR0_3.out x4_2 p258 q258
          cases e258
          replace hx258_0 := (HB.out.cell (World.block_lt_of_cell? w _ hx258_0)).trans hx258_0
          replace p258 := eq_true p258
          replace q258 := eq_true q258
          go_wp2
          repeat (go_quiet (fail); try go_wp2)
          go_ret
          exact ⟨by first | rfl | (simp [errW_none, errW_some] <;> rfl) | (simp [*, errW_none, errW_some] <;> rfl), by repeat (first | (with_reducible first | exact HB.out | apply below_alloc | apply pw_below_drewN | apply below_drew1 | refine below_set ?_ GE252.out) | exact HB.out)⟩
        ·rw [if_neg c16] at H
         exact absurd H (by simp)
       ·rw [if_neg c15] at H
        exact absurd H (by simp)
      ·rw [if_neg c14] at H
       have c14b0 : decide (x4_2 < (t253.length : Int)) = false := decide_eq_false c14
       clear c14
       obtain ⟨ji22, hji22⟩ : ∃ j_ : Int, (wrap64 ((l0_0.length : Int) + 1)) = j_ := ⟨_, rfl⟩
       replace H : (if 0 <= (ji22) then (if (ji22 : Int).toNat <= 281474976710656 then (middenref16_lists.l1 k2 (List.replicate (ji22 : Int).toNat false) 0 l0_0 l0_1 l0_2 l0_3 l0_4 a0_5) else (none)) else (none)) = some r := by first | (rw [hji22] at H; exact H) | (simp only [hji22] at H ⊢; exact H)
       have hji22w : (IntKind.i64.wrap ((l0_0.length : Int) + 1)) = ji22 := (i64_w _).trans hji22
       by_cases c23 : 0 <= (ji22)
       ·rw [if_pos c23] at H
        have c23b0 := eq_true c23
        have c23b1 : decide (0 <= (ji22)) = true := decide_eq_true c23
        clear c23
        by_cases c24 : (ji22 : Int).toNat <= 281474976710656
        ·rw [if_pos c24] at H
         have c24b0 := eq_true c24
         have c24b1 : decide ((ji22 : Int).toNat <= 281474976710656) = true := decide_eq_true c24
         clear c24
         obtain ⟨y259, hy259⟩ : ∃ y_ : List Bool, y_ = (List.replicate (ji22 : Int).toNat false) := ⟨_, rfl⟩
         replace H : (middenref16_lists.l1 k2 y259 0 l0_0 l0_1 l0_2 l0_3 l0_4 a0_5) = some r := by first | (rw [hy259]; with_reducible exact H) | (have H2_ := (Option.bind_some _ _).symm.trans H; rw [hy259]; with_reducible exact H2_) | (have H2_ := (Option.bind_some _ _).symm.trans H; with_reducible exact H2_) | with_reducible exact H | (rw [hy259]; exact H) | exact H
         have Ny259 := Aside0.mk hy259
         clear hy259
         have H' := Aside0.mk H
         clear H
         obtain ⟨Ao25, co25, eo25⟩ := Kd.R_slice HO_3.out
         subst eo25
         have hcz26_0 : wr.cell? ⟨gb252, 0, none⟩ = some (.slice A0_0 l0_0.length c0_0) := (bkC BK252.out 0).trans rfl
         have hcz26_1 : wr.cell? ⟨gb252, 1, none⟩ = some (.slice A0_1 l0_1.length c0_1) := (bkC BK252.out 1).trans rfl
         have hcz26_2 : wr.cell? ⟨gb252, 2, none⟩ = some (.slice A0_2 l0_2.length c0_2) := (bkC BK252.out 2).trans rfl
         have hcz26_3 : wr.cell? ⟨gb252, 3, none⟩ = some (.slice A0_3 l0_3.length c0_3) := (bkC BK252.out 3).trans rfl
         have hcz26_4 : wr.cell? ⟨gb252, 4, none⟩ = some (.slice A0_4 l0_4.length c0_4) := (bkC BK252.out 4).trans rfl
         have hcz26_5 : wr.cell? ⟨gb252, 5, none⟩ = some (.int .u64 a0_5) := (bkC BK252.out 5).trans rfl
         have hfz26_0 := bkF BK252.out 0
         have hfz26_1 := bkF BK252.out 1
         have hfz26_2 := bkF BK252.out 2
         have hfz26_3 := bkF BK252.out 3
         have hfz26_4 := bkF BK252.out 4
         have hfz26_5 := bkF BK252.out 5
         go_wp2_with (first | ((with_reducible refine gate_dst (N := 45) rfl ?_); (try (refine gate_guard (by rfl) ?_; dsimp only)); refine Kd.R_make Kd.bool _ 4 rfl (N := 45) rfl 52 _ _ rfl ji22 rfl rfl Tryd.underlying52 (.bool false) 1 info4 rfl (by decide) (by omega) false (ok := fun _ => True) (okp := fun _ => True) rfl (fun _ hk => hk) trivial (of_decide_eq_true (by first | (with_reducible assumption) | assumption)) (Nat.le_trans (Nat.mul_le_mul_right _ (of_decide_eq_true (by first | (with_reducible assumption) | assumption) : ji22.toNat <= 281474976710656)) (by omega)) (Below.refl _ _) (Nat.le_refl _) ?_; intro v260 w27 ho28 hb hg_ hnew_; clear hg_ hnew_; (first | rw [<- Ny259.out] at ho28 | (simp only [Int.reduceToNat] at ho28; rw [<- Ny259.out] at ho28)); have n0_ := Aside0.mk (Kd.R_below (by (with_reducible repeat (first | apply Kd.R_alloc | apply Kd.R_drewN | apply Kd.R_drew)); exact HO_3.out) hb); have n1_ := Aside0.mk (Kd.R_lower ho28 (below_size (by repeat (first | (with_reducible first | exact HB.out | apply below_alloc | apply pw_below_drewN | apply below_drew1 | refine below_set ?_ GE252.out) | exact HB.out)))); have n2_ := Aside0.mk (blk_below (g := gb252) (o := .cells #[.slice A0_0 l0_0.length c0_0, .slice A0_1 l0_1.length c0_1, .slice A0_2 l0_2.length c0_2, .slice A0_3 l0_3.length c0_3, .slice A0_4 l0_4.length c0_4, .int .u64 a0_5] 27 (0, 0)) (by (with_reducible repeat (first | refine blk_drewN ?_ _ | refine blk_drew ?_ | refine blk_alloc ?_ _)); exact BK252.out) hb); have n3_ := Aside0.mk (below_step (by repeat (first | (with_reducible first | exact HB.out | apply below_alloc | apply pw_below_drewN | apply below_drew1 | refine below_set ?_ GE252.out) | exact HB.out)) hb); clear HO_3; clear BK252; clear HB; have HO_3 := n0_; have HO261 := n1_; have BK252 := n2_; have HB := n3_; clear n0_ n1_ n2_ n3_; clear hb ho28))
         repeat (go_quiet (first | ((with_reducible refine gate_dst (N := 45) rfl ?_); (try (refine gate_guard (by rfl) ?_; dsimp only)); refine Kd.R_make Kd.bool _ 4 rfl (N := 45) rfl 52 _ _ rfl ji22 rfl rfl Tryd.underlying52 (.bool false) 1 info4 rfl (by decide) (by omega) false (ok := fun _ => True) (okp := fun _ => True) rfl (fun _ hk => hk) trivial (of_decide_eq_true (by first | (with_reducible assumption) | assumption)) (Nat.le_trans (Nat.mul_le_mul_right _ (of_decide_eq_true (by first | (with_reducible assumption) | assumption) : ji22.toNat <= 281474976710656)) (by omega)) (Below.refl _ _) (Nat.le_refl _) ?_; intro v260 w27 ho28 hb hg_ hnew_; clear hg_ hnew_; (first | rw [<- Ny259.out] at ho28 | (simp only [Int.reduceToNat] at ho28; rw [<- Ny259.out] at ho28)); have n0_ := Aside0.mk (Kd.R_below (by (with_reducible repeat (first | apply Kd.R_alloc | apply Kd.R_drewN | apply Kd.R_drew)); exact HO_3.out) hb); have n1_ := Aside0.mk (Kd.R_lower ho28 (below_size (by repeat (first | (with_reducible first | exact HB.out | apply below_alloc | apply pw_below_drewN | apply below_drew1 | refine below_set ?_ GE252.out) | exact HB.out)))); have n2_ := Aside0.mk (blk_below (g := gb252) (o := .cells #[.slice A0_0 l0_0.length c0_0, .slice A0_1 l0_1.length c0_1, .slice A0_2 l0_2.length c0_2, .slice A0_3 l0_3.length c0_3, .slice A0_4 l0_4.length c0_4, .int .u64 a0_5] 27 (0, 0)) (by (with_reducible repeat (first | refine blk_drewN ?_ _ | refine blk_drew ?_ | refine blk_alloc ?_ _)); exact BK252.out) hb); have n3_ := Aside0.mk (below_step (by repeat (first | (with_reducible first | exact HB.out | apply below_alloc | apply pw_below_drewN | apply below_drew1 | refine below_set ?_ GE252.out) | exact HB.out)) hb); clear HO_3; clear BK252; clear HB; have HO_3 := n0_; have HO261 := n1_; have BK252 := n2_; have HB := n3_; clear n0_ n1_ n2_ n3_; clear hb ho28)); try go_wp2_with (first | ((with_reducible refine gate_dst (N := 45) rfl ?_); (try (refine gate_guard (by rfl) ?_; dsimp only)); refine Kd.R_make Kd.bool _ 4 rfl (N := 45) rfl 52 _ _ rfl ji22 rfl rfl Tryd.underlying52 (.bool false) 1 info4 rfl (by decide) (by omega) false (ok := fun _ => True) (okp := fun _ => True) rfl (fun _ hk => hk) trivial (of_decide_eq_true (by first | (with_reducible assumption) | assumption)) (Nat.le_trans (Nat.mul_le_mul_right _ (of_decide_eq_true (by first | (with_reducible assumption) | assumption) : ji22.toNat <= 281474976710656)) (by omega)) (Below.refl _ _) (Nat.le_refl _) ?_; intro v260 w27 ho28 hb hg_ hnew_; clear hg_ hnew_; (first | rw [<- Ny259.out] at ho28 | (simp only [Int.reduceToNat] at ho28; rw [<- Ny259.out] at ho28)); have n0_ := Aside0.mk (Kd.R_below (by (with_reducible repeat (first | apply Kd.R_alloc | apply Kd.R_drewN | apply Kd.R_drew)); exact HO_3.out) hb); have n1_ := Aside0.mk (Kd.R_lower ho28 (below_size (by repeat (first | (with_reducible first | exact HB.out | apply below_alloc | apply pw_below_drewN | apply below_drew1 | refine below_set ?_ GE252.out) | exact HB.out)))); have n2_ := Aside0.mk (blk_below (g := gb252) (o := .cells #[.slice A0_0 l0_0.length c0_0, .slice A0_1 l0_1.length c0_1, .slice A0_2 l0_2.length c0_2, .slice A0_3 l0_3.length c0_3, .slice A0_4 l0_4.length c0_4, .int .u64 a0_5] 27 (0, 0)) (by (with_reducible repeat (first | refine blk_drewN ?_ _ | refine blk_drew ?_ | refine blk_alloc ?_ _)); exact BK252.out) hb); have n3_ := Aside0.mk (below_step (by repeat (first | (with_reducible first | exact HB.out | apply below_alloc | apply pw_below_drewN | apply below_drew1 | refine below_set ?_ GE252.out) | exact HB.out)) hb); clear HO_3; clear BK252; clear HB; have HO_3 := n0_; have HO261 := n1_; have BK252 := n2_; have HB := n3_; clear n0_ n1_ n2_ n3_; clear hb ho28)))
         go_loopg [6] k2 (fun kq v6 w' => ∃ (x5_3 : List Bool) (x6_3 : Int), v6 = .int .i64 x6_3 /\ Aside0 (middenref16_lists.l1 kq x5_3 x6_3 l0_0 l0_1 l0_2 l0_3 l0_4 a0_5 = some r) /\ Aside0 (kq <= k2) /\ Aside0 (Kd.R Kd.bool 4 w' w.heap.size (fun _ => True) v260 x5_3) /\ Aside0 (w'.heap[gb252]? = some (.cells #[(.slice A0_0 l0_0.length c0_0), (.slice A0_1 l0_1.length c0_1), (.slice A0_2 l0_2.length c0_2), (.slice A0_3 l0_3.length c0_3), (.slice A0_4 l0_4.length c0_4), .int .u64 a0_5] 27 (0, 0))) /\ Aside0 (Below w.heap.size w w'))
         case atStart => exact ⟨(y259), (0), (by first | rfl | (simp; done) | (simp [*]; done)), H', ⟨Nat.le_refl _⟩, ⟨by (with_reducible repeat (first | apply Kd.R_alloc | apply Kd.R_drewN | apply Kd.R_drew)); exact HO261.out⟩, ⟨by (with_reducible repeat (first | refine blk_drewN ?_ _ | refine blk_drew ?_ | refine blk_alloc ?_ _)); exact BK252.out⟩, ⟨by repeat (first | (with_reducible first | exact HB.out | apply below_alloc | apply pw_below_drewN | apply below_drew1 | refine below_set ?_ GE252.out) | exact HB.out)⟩⟩
         case round =>
          clear H'
          try clear c1;try clear c2;try clear p2;try clear q2;try clear hx2;try clear p6;try clear c7;try clear c7b0;try clear c7b1;try clear c7b2;try clear c8;try clear c13;try clear c14;try clear c14b0;try clear c15;try clear c15b0;try clear c16;try clear c16b0;try clear c17;try clear c17b0;try clear c17b1;try clear c23;try clear c23b0;try clear c23b1;try clear c24;try clear c24b0;try clear c24b1;try clear p25;try clear q25;try clear hx25;try clear hcz10_0;try clear hcz10_1;try clear hcz10_2;try clear hcz10_3;try clear hcz10_4;try clear hcz10_5;try clear hcz12_0;try clear hcz12_1;try clear hcz12_2;try clear hcz12_3;try clear hcz12_4;try clear hcz12_5;try clear hcz19_0;try clear hcz19_1;try clear hcz19_2;try clear hcz19_3;try clear hcz19_4;try clear hcz19_5;try clear hcz21_0;try clear hcz21_1;try clear hcz21_2;try clear hcz21_3;try clear hcz21_4;try clear hcz21_5;try clear hcz26_0;try clear hcz26_1;try clear hcz26_2;try clear hcz26_3;try clear hcz26_4;try clear hcz26_5;try clear hcz5_0;try clear hcz5_1;try clear hcz5_2;try clear hcz5_3;try clear hcz5_4;try clear hcz5_5;try clear hfz10_0;try clear hfz10_1;try clear hfz10_2;try clear hfz10_3;try clear hfz10_4;try clear hfz10_5;try clear hfz12_0;try clear hfz12_1;try clear hfz12_2;try clear hfz12_3;try clear hfz12_4;try clear hfz12_5;try clear hfz19_0;try clear hfz19_1;try clear hfz19_2;try clear hfz19_3;try clear hfz19_4;try clear hfz19_5;try clear hfz21_0;try clear hfz21_1;try clear hfz21_2;try clear hfz21_3;try clear hfz21_4;try clear hfz21_5;try clear hfz26_0;try clear hfz26_1;try clear hfz26_2;try clear hfz26_3;try clear hfz26_4;try clear hfz26_5;try clear hfz5_0;try clear hfz5_1;try clear hfz5_2;try clear hfz5_3;try clear hfz5_4;try clear hfz5_5;try clear hx257_0;try clear hx258_0;try clear p2;try clear p257;try clear p258;try clear q257;try clear q258
          obtain ⟨x5_3, x6_3, rfl, HA, HK3, HO_5, BK252, HB⟩ := hrel
          cases gk with
          | zero => exact absurd HA.out (by simp [middenref16_lists.l1])
          | succ k3 =>
           have H := HA.out
           clear HA
           simp only [middenref16_lists.l1] at H
           by_cases c29 : x6_3 < (l0_4.length : Int)
           ·rw [if_pos c29] at H
            have c29b0 : decide (x6_3 < (l0_4.length : Int)) = true := decide_eq_true c29
            clear c29
            by_cases c30 : 0 <= x6_3
            ·rw [if_pos c30] at H
             have c30b0 : decide (0 <= x6_3) = true := decide_eq_true c30
             clear c30
             by_cases c31 : 0 <= (rd l0_4 x6_3)
             ·rw [if_pos c31] at H
              have c31b0 : decide (0 <= (rd l0_4 x6_3)) = true := decide_eq_true c31
              clear c31
              by_cases c32 : (rd l0_4 x6_3) < (x5_3.length : Int)
              ·rw [if_pos c32] at H
               have c32b0 : decide ((rd l0_4 x6_3) < (x5_3.length : Int)) = true := decide_eq_true c32
               clear c32
               obtain ⟨bq33, hbq33⟩ : ∃ b_ : Bool, b_ = (rdOf false x5_3 (rd l0_4 x6_3)) := ⟨_, rfl⟩
               replace H : (if bq33 = true then (some false) else (if 0 <= (wrap64 ((rd l0_4 x6_3) - 1)) then (if (wrap64 ((rd l0_4 x6_3) - 1)) < (l0_0.length : Int) then (if ((rd_T59 l0_0 (wrap64 ((rd l0_4 x6_3) - 1))).f1) = 4 then (some false) else (middenref16_lists.l1 k3 (x5_3.set ((rd l0_4 x6_3) : Int).toNat true) (wrap64 (x6_3 + 1)) l0_0 l0_1 l0_2 l0_3 l0_4 a0_5)) else (none)) else (none))) = some r := by rw [<- hbq33] at H; exact H
               have Nbq33 := Aside0.mk hbq33
               clear hbq33
               by_cases c34 : bq33 = true
               ·subst c34
                have H1 : (some false) = some r := by rw [if_pos rfl] at H; exact H
                clear H
                have H := H1
                clear H1
                obtain rfl := Option.some.inj H
                have hcz35_0 : wr.cell? ⟨gb252, 0, none⟩ = some (.slice A0_0 l0_0.length c0_0) := (bkC BK252.out 0).trans rfl
                have hcz35_1 : wr.cell? ⟨gb252, 1, none⟩ = some (.slice A0_1 l0_1.length c0_1) := (bkC BK252.out 1).trans rfl
                have hcz35_2 : wr.cell? ⟨gb252, 2, none⟩ = some (.slice A0_2 l0_2.length c0_2) := (bkC BK252.out 2).trans rfl
                have hcz35_3 : wr.cell? ⟨gb252, 3, none⟩ = some (.slice A0_3 l0_3.length c0_3) := (bkC BK252.out 3).trans rfl
                have hcz35_4 : wr.cell? ⟨gb252, 4, none⟩ = some (.slice A0_4 l0_4.length c0_4) := (bkC BK252.out 4).trans rfl
                have hcz35_5 : wr.cell? ⟨gb252, 5, none⟩ = some (.int .u64 a0_5) := (bkC BK252.out 5).trans rfl
                have hfz35_0 := bkF BK252.out 0
                have hfz35_1 := bkF BK252.out 1
                have hfz35_2 := bkF BK252.out 2
                have hfz35_3 := bkF BK252.out 3
                have hfz35_4 := bkF BK252.out 4
                have hfz35_5 := bkF BK252.out 5
                have p262 : 0 <= (x6_3 : Int) := of_decide_eq_true (by first | (with_reducible assumption) | assumption)
                have q262 : x6_3 < (l0_4.length : Int) := of_decide_eq_true (by first | (with_reducible assumption) | assumption)
                obtain ⟨ad262, e262, hx262_0⟩ := Kd.at_int HR0_4.out x6_3 p262 q262
                cases e262
                replace hx262_0 := (HB.out.cell (World.block_lt_of_cell? w _ hx262_0)).trans hx262_0
                replace p262 := eq_true p262
                replace q262 := eq_true q262
                obtain ⟨Ao36, co36, eo36⟩ := Kd.R_slice HO_5.out
                subst eo36
                have p263 : 0 <= ((rd l0_4 x6_3) : Int) := of_decide_eq_true (by first | (with_reducible assumption) | assumption)
                have q263 : (rd l0_4 x6_3) < (x5_3.length : Int) := of_decide_eq_true (by first | (with_reducible assumption) | assumption)
                obtain ⟨ad263, e263, hx263_0⟩ := Kd.at_bool (Kd.R_reads' HO_5.out).2.2 (rd l0_4 x6_3) p263 q263
                (try rw [<- Nbq33.out] at hx263_0)
                cases e263
                replace p263 := eq_true p263
                replace q263 := eq_true q263
                go_wp2
                repeat (go_quiet (fail); try go_wp2)
                go_ret
                exact ⟨by first | rfl | (simp [errW_none, errW_some] <;> rfl) | (simp only [<- hji22]; first | rfl | (simp [errW_none, errW_some] <;> rfl)) | (simp [*, errW_none, errW_some] <;> rfl), by repeat (first | (with_reducible first | exact HB.out | apply below_alloc | apply pw_below_drewN | apply below_drew1 | refine below_set ?_ GE252.out) | exact HB.out)⟩
               ·replace c34 := Bool.eq_false_iff.mpr c34
                subst c34
                have H1 : (if 0 <= (wrap64 ((rd l0_4 x6_3) - 1)) then (if (wrap64 ((rd l0_4 x6_3) - 1)) < (l0_0.length : Int) then (if ((rd_T59 l0_0 (wrap64 ((rd l0_4 x6_3) - 1))).f1) = 4 then (some false) else (middenref16_lists.l1 k3 (x5_3.set ((rd l0_4 x6_3) : Int).toNat true) (wrap64 (x6_3 + 1)) l0_0 l0_1 l0_2 l0_3 l0_4 a0_5)) else (none)) else (none)) = some r := by rw [if_neg (show ¬ (false = true) by decide)] at H; exact H
                clear H
                have H := H1
                clear H1
                obtain ⟨ji37, hji37⟩ : ∃ j_ : Int, (wrap64 ((rd l0_4 x6_3) - 1)) = j_ := ⟨_, rfl⟩
                replace H : (if 0 <= (ji37) then (if (ji37) < (l0_0.length : Int) then (if ((rd_T59 l0_0 (ji37)).f1) = 4 then (some false) else (middenref16_lists.l1 k3 (x5_3.set ((rd l0_4 x6_3) : Int).toNat true) (wrap64 (x6_3 + 1)) l0_0 l0_1 l0_2 l0_3 l0_4 a0_5)) else (none)) else (none)) = some r := by first | (rw [hji37] at H; exact H) | (simp only [hji37] at H ⊢; exact H)
                have hji37w : (IntKind.i64.wrap ((rd l0_4 x6_3) - 1)) = ji37 := (i64_w _).trans hji37
                by_cases c38 : 0 <= (ji37)
                ·rw [if_pos c38] at H
                 have c38b0 : decide (0 <= (ji37)) = true := decide_eq_true c38
                 clear c38
                 by_cases c39 : (ji37) < (l0_0.length : Int)
                 ·rw [if_pos c39] at H
                  have c39b0 : decide ((ji37) < (l0_0.length : Int)) = true := decide_eq_true c39
                  clear c39
                  by_cases c40 : ((rd_T59 l0_0 (ji37)).f1) = 4
                  ·rw [if_pos c40] at H
                   have c40b0 : (((rd_T59 l0_0 (ji37)).f1) == 4) = true := beq_iff_eq.mpr c40
                   have c40b1 : (((rd_T59 l0_0 (ji37)).f1) != 4) = false := bne_eq_false_iff_eq.mpr c40
                   clear c40
                   obtain rfl := Option.some.inj H
                   have hcz41_0 : wr.cell? ⟨gb252, 0, none⟩ = some (.slice A0_0 l0_0.length c0_0) := (bkC BK252.out 0).trans rfl
                   have hcz41_1 : wr.cell? ⟨gb252, 1, none⟩ = some (.slice A0_1 l0_1.length c0_1) := (bkC BK252.out 1).trans rfl
                   have hcz41_2 : wr.cell? ⟨gb252, 2, none⟩ = some (.slice A0_2 l0_2.length c0_2) := (bkC BK252.out 2).trans rfl
                   have hcz41_3 : wr.cell? ⟨gb252, 3, none⟩ = some (.slice A0_3 l0_3.length c0_3) := (bkC BK252.out 3).trans rfl
                   have hcz41_4 : wr.cell? ⟨gb252, 4, none⟩ = some (.slice A0_4 l0_4.length c0_4) := (bkC BK252.out 4).trans rfl
                   have hcz41_5 : wr.cell? ⟨gb252, 5, none⟩ = some (.int .u64 a0_5) := (bkC BK252.out 5).trans rfl
                   have hfz41_0 := bkF BK252.out 0
                   have hfz41_1 := bkF BK252.out 1
                   have hfz41_2 := bkF BK252.out 2
                   have hfz41_3 := bkF BK252.out 3
                   have hfz41_4 := bkF BK252.out 4
                   have hfz41_5 := bkF BK252.out 5
                   have p262 : 0 <= (x6_3 : Int) := of_decide_eq_true (by first | (with_reducible assumption) | assumption)
                   have q262 : x6_3 < (l0_4.length : Int) := of_decide_eq_true (by first | (with_reducible assumption) | assumption)
                   obtain ⟨ad262, e262, hx262_0⟩ := Kd.at_int HR0_4.out x6_3 p262 q262
                   cases e262
                   replace hx262_0 := (HB.out.cell (World.block_lt_of_cell? w _ hx262_0)).trans hx262_0
                   replace p262 := eq_true p262
                   replace q262 := eq_true q262
                   obtain ⟨Ao42, co42, eo42⟩ := Kd.R_slice HO_5.out
                   subst eo42
                   have p263 : 0 <= ((rd l0_4 x6_3) : Int) := of_decide_eq_true (by first | (with_reducible assumption) | assumption)
                   have q263 : (rd l0_4 x6_3) < (x5_3.length : Int) := of_decide_eq_true (by first | (with_reducible assumption) | assumption)
                   obtain ⟨ad263, e263, hx263_0⟩ := Kd.at_bool (Kd.R_reads' HO_5.out).2.2 (rd l0_4 x6_3) p263 q263
                   (try rw [<- Nbq33.out] at hx263_0)
                   cases e263
                   replace p263 := eq_true p263
                   replace q263 := eq_true q263
                   have p264 : 0 <= ((ji37) : Int) := of_decide_eq_true (by first | (with_reducible assumption) | assumption)
                   have q264 : (ji37) < (l0_0.length : Int) := of_decide_eq_true (by first | (with_reducible assumption) | assumption)
                   obtain ⟨ad264, A264_3, c264_3, A264_4, c264_4, e264, hx264_0, hx264_1, hx264_2, hx264_3, hx264_4, hl264_3, hi264_3, hl264_4, hi264_4⟩ := at_T59 HR0_0.out (ji37) p264 q264
                   cases e264
                   replace hx264_0 := (HB.out.cell (World.block_lt_of_cell? w _ hx264_0)).trans hx264_0
                   replace hx264_1 := (HB.out.cell (World.block_lt_of_cell? w _ hx264_1)).trans hx264_1
                   replace hx264_2 := (HB.out.cell (World.block_lt_of_cell? w _ hx264_2)).trans hx264_2
                   replace hx264_3 := (HB.out.cell (World.block_lt_of_cell? w _ hx264_3)).trans hx264_3
                   replace hx264_4 := (HB.out.cell (World.block_lt_of_cell? w _ hx264_4)).trans hx264_4
                   have HR264_3 := Aside0.mk hi264_3
                   have HC264_3 := Aside0.mk hl264_3
                   clear hi264_3 hl264_3
                   have HR264_4 := Aside0.mk hi264_4
                   have HC264_4 := Aside0.mk hl264_4
                   clear hi264_4 hl264_4
                   replace p264 := eq_true p264
                   replace q264 := eq_true q264
                   go_wp2
                   repeat (go_quiet (fail); try go_wp2)
                   go_ret
                   exact ⟨by first | rfl | (simp [errW_none, errW_some] <;> rfl) | (simp only [<- hji22, <- hji37]; first | rfl | (simp [errW_none, errW_some] <;> rfl)) | (simp [*, errW_none, errW_some] <;> rfl), by repeat (first | (with_reducible first | exact HB.out | apply below_alloc | apply pw_below_drewN | apply below_drew1 | refine below_set ?_ GE252.out) | exact HB.out)⟩
                  ·rw [if_neg c40] at H
                   have c40b0 : (((rd_T59 l0_0 (ji37)).f1) == 4) = false := beq_eq_false_iff_ne.mpr c40
                   have c40b1 : (((rd_T59 l0_0 (ji37)).f1) != 4) = true := bne_iff_ne.mpr c40
                   obtain ⟨y265, hy265⟩ : ∃ y_ : List Bool, y_ = (x5_3.set ((rd l0_4 x6_3) : Int).toNat true) := ⟨_, rfl⟩
                   replace H : (middenref16_lists.l1 k3 y265 (wrap64 (x6_3 + 1)) l0_0 l0_1 l0_2 l0_3 l0_4 a0_5) = some r := by first | (rw [hy265]; with_reducible exact H) | (have H2_ := (Option.bind_some _ _).symm.trans H; rw [hy265]; with_reducible exact H2_) | (have H2_ := (Option.bind_some _ _).symm.trans H; with_reducible exact H2_) | with_reducible exact H | (rw [hy265]; exact H) | exact H
                   have Ny265 := Aside0.mk hy265
                   clear hy265
                   have H' := Aside0.mk H
                   clear H
                   have hcz44_0 : wr.cell? ⟨gb252, 0, none⟩ = some (.slice A0_0 l0_0.length c0_0) := (bkC BK252.out 0).trans rfl
                   have hcz44_1 : wr.cell? ⟨gb252, 1, none⟩ = some (.slice A0_1 l0_1.length c0_1) := (bkC BK252.out 1).trans rfl
                   have hcz44_2 : wr.cell? ⟨gb252, 2, none⟩ = some (.slice A0_2 l0_2.length c0_2) := (bkC BK252.out 2).trans rfl
                   have hcz44_3 : wr.cell? ⟨gb252, 3, none⟩ = some (.slice A0_3 l0_3.length c0_3) := (bkC BK252.out 3).trans rfl
                   have hcz44_4 : wr.cell? ⟨gb252, 4, none⟩ = some (.slice A0_4 l0_4.length c0_4) := (bkC BK252.out 4).trans rfl
                   have hcz44_5 : wr.cell? ⟨gb252, 5, none⟩ = some (.int .u64 a0_5) := (bkC BK252.out 5).trans rfl
                   have hfz44_0 := bkF BK252.out 0
                   have hfz44_1 := bkF BK252.out 1
                   have hfz44_2 := bkF BK252.out 2
                   have hfz44_3 := bkF BK252.out 3
                   have hfz44_4 := bkF BK252.out 4
                   have hfz44_5 := bkF BK252.out 5
                   have p262 : 0 <= (x6_3 : Int) := of_decide_eq_true (by first | (with_reducible assumption) | assumption)
                   have q262 : x6_3 < (l0_4.length : Int) := of_decide_eq_true (by first | (with_reducible assumption) | assumption)
                   obtain ⟨ad262, e262, hx262_0⟩ := Kd.at_int HR0_4.out x6_3 p262 q262
                   cases e262
                   replace hx262_0 := (HB.out.cell (World.block_lt_of_cell? w _ hx262_0)).trans hx262_0
                   replace p262 := eq_true p262
                   replace q262 := eq_true q262
                   obtain ⟨Ao45, co45, eo45⟩ := Kd.R_slice HO_5.out
                   subst eo45
                   have p263 : 0 <= ((rd l0_4 x6_3) : Int) := of_decide_eq_true (by first | (with_reducible assumption) | assumption)
                   have q263 : (rd l0_4 x6_3) < (x5_3.length : Int) := of_decide_eq_true (by first | (with_reducible assumption) | assumption)
                   obtain ⟨ad263, e263, hx263_0⟩ := Kd.at_bool (Kd.R_reads' HO_5.out).2.2 (rd l0_4 x6_3) p263 q263
                   (try rw [<- Nbq33.out] at hx263_0)
                   cases e263
                   replace p263 := eq_true p263
                   replace q263 := eq_true q263
                   have p264 : 0 <= ((ji37) : Int) := of_decide_eq_true (by first | (with_reducible assumption) | assumption)
                   have q264 : (ji37) < (l0_0.length : Int) := of_decide_eq_true (by first | (with_reducible assumption) | assumption)
                   obtain ⟨ad264, A264_3, c264_3, A264_4, c264_4, e264, hx264_0, hx264_1, hx264_2, hx264_3, hx264_4, hl264_3, hi264_3, hl264_4, hi264_4⟩ := at_T59 HR0_0.out (ji37) p264 q264
                   cases e264
                   replace hx264_0 := (HB.out.cell (World.block_lt_of_cell? w _ hx264_0)).trans hx264_0
                   replace hx264_1 := (HB.out.cell (World.block_lt_of_cell? w _ hx264_1)).trans hx264_1
                   replace hx264_2 := (HB.out.cell (World.block_lt_of_cell? w _ hx264_2)).trans hx264_2
                   replace hx264_3 := (HB.out.cell (World.block_lt_of_cell? w _ hx264_3)).trans hx264_3
                   replace hx264_4 := (HB.out.cell (World.block_lt_of_cell? w _ hx264_4)).trans hx264_4
                   have HR264_3 := Aside0.mk hi264_3
                   have HC264_3 := Aside0.mk hl264_3
                   clear hi264_3 hl264_3
                   have HR264_4 := Aside0.mk hi264_4
                   have HC264_4 := Aside0.mk hl264_4
                   clear hi264_4 hl264_4
                   replace p264 := eq_true p264
                   replace q264 := eq_true q264
                   have p43 : 0 <= ((rd l0_4 x6_3) : Int) := of_decide_eq_true (by first | (with_reducible assumption) | assumption)
                   have q43 : ((rd l0_4 x6_3) : Int) < ((x5_3.length : Int) : Int) := of_decide_eq_true (by first | (with_reducible assumption) | assumption)
                   obtain ⟨go43, co43, eo43, gb43, gl43, cl43, HG43⟩ := Kd.R_form HO_5.out (by omega)
                   (first | cases eo43 | (injection eo43 with ea_ en_ ec_; (first | subst ea_ | (injection ea_ with ea_; subst ea_)); subst ec_; clear en_))
                   have GB43 := Aside0.mk gb43
                   have GG43 := Aside0.mk HG43
                   clear gb43 gl43 HG43
                   (first | simp only [add_plain] at hx263_0 | skip)
                   obtain ⟨hx43_0, hf43_0⟩ := Kd.R_celln false HO_5.out ((rd l0_4 x6_3) : Int) p43 q43
                   replace p43 := eq_true p43
                   replace q43 := eq_true q43
                   have HP46 := Kd.R_putg HO_5.out ((rd l0_4 x6_3) : Int) true
                   go_wp2_with (first | ((with_reducible refine gate_store (t := 4) (p := 74) rfl ?_); (try (rw [drewN_self wr]; generalize hq_ : World.drewN wr _ = wr; have n0_ := Aside0.mk (Kd.R_at hq_ HO_5.out); have n1_ := Aside0.mk (blk_at hq_ BK252.out); have n2_ := Aside0.mk (below_at hq_ HB.out); clear hq_ HO_5 BK252 HB; have HO_5 := n0_; have BK252 := n1_; have HB := n2_; clear n0_ n1_ n2_; (try (have HP46 := Kd.R_putg HO_5.out ((rd l0_4 x6_3) : Int) true)))); refine store_event (t := 4) (p := 74) (v := ?vo_w47) (w1 := (wr.setCell ⟨go43, ((rd l0_4 x6_3) : Int).toNat, none⟩ (.bool true))) ?hg ?ho ?hn ?hr ?_; (case ho => rfl); (case hg => rfl); (case hn => rfl); (case hr => first | (go_simp; done) | (go_simp; rfl)); intro w47 hw; have hg : wr.grownBy w47 (some go43) := (by rw [hw]; exact HP46.2); have hp_ : Kd.R Kd.bool 4 w47 w.heap.size (fun _ => True) (.slice (some ⟨go43, 0, none⟩) x5_3.length co45) y265 := (by rw [hw, Ny265.out]; exact HP46.1); clear HP46; have n0_ := Aside0.mk (hp_); have n1_ := Aside0.mk (blk_grown (g := gb252) (o := .cells #[.slice (some ad264) l0_0.length c0_0, .slice A0_1 l0_1.length c0_1, .slice A0_2 l0_2.length c0_2, .slice A0_3 l0_3.length c0_3, .slice (some ad262) l0_4.length c0_4, .int .u64 a0_5] 27 (0, 0)) (by (with_reducible repeat (first | refine blk_drewN ?_ _ | refine blk_drew ?_ | refine blk_alloc ?_ _)); exact BK252.out) hg (Kd.R_ne HO_5.out BK252.out (by decide))); have n2_ := Aside0.mk ((by rw [hw]; exact below_set (HB.out) GB43.out : Below w.heap.size w w47)); clear HO_5; clear BK252; clear HB; have HO_5 := n0_; have BK252 := n1_; have HB := n2_; clear n0_ n1_ n2_; clear hg hw hp_))
                   repeat (go_quiet (first | ((with_reducible refine gate_store (t := 4) (p := 74) rfl ?_); (try (rw [drewN_self wr]; generalize hq_ : World.drewN wr _ = wr; have n0_ := Aside0.mk (Kd.R_at hq_ HO_5.out); have n1_ := Aside0.mk (blk_at hq_ BK252.out); have n2_ := Aside0.mk (below_at hq_ HB.out); clear hq_ HO_5 BK252 HB; have HO_5 := n0_; have BK252 := n1_; have HB := n2_; clear n0_ n1_ n2_; (try (have HP46 := Kd.R_putg HO_5.out ((rd l0_4 x6_3) : Int) true)))); refine store_event (t := 4) (p := 74) (v := ?vo_w47) (w1 := (wr.setCell ⟨go43, ((rd l0_4 x6_3) : Int).toNat, none⟩ (.bool true))) ?hg ?ho ?hn ?hr ?_; (case ho => rfl); (case hg => rfl); (case hn => rfl); (case hr => first | (go_simp; done) | (go_simp; rfl)); intro w47 hw; have hg : wr.grownBy w47 (some go43) := (by rw [hw]; exact HP46.2); have hp_ : Kd.R Kd.bool 4 w47 w.heap.size (fun _ => True) (.slice (some ⟨go43, 0, none⟩) x5_3.length co45) y265 := (by rw [hw, Ny265.out]; exact HP46.1); clear HP46; have n0_ := Aside0.mk (hp_); have n1_ := Aside0.mk (blk_grown (g := gb252) (o := .cells #[.slice (some ad264) l0_0.length c0_0, .slice A0_1 l0_1.length c0_1, .slice A0_2 l0_2.length c0_2, .slice A0_3 l0_3.length c0_3, .slice (some ad262) l0_4.length c0_4, .int .u64 a0_5] 27 (0, 0)) (by (with_reducible repeat (first | refine blk_drewN ?_ _ | refine blk_drew ?_ | refine blk_alloc ?_ _)); exact BK252.out) hg (Kd.R_ne HO_5.out BK252.out (by decide))); have n2_ := Aside0.mk ((by rw [hw]; exact below_set (HB.out) GB43.out : Below w.heap.size w w47)); clear HO_5; clear BK252; clear HB; have HO_5 := n0_; have BK252 := n1_; have HB := n2_; clear n0_ n1_ n2_; clear hg hw hp_)); try go_wp2_with (first | ((with_reducible refine gate_store (t := 4) (p := 74) rfl ?_); (try (rw [drewN_self wr]; generalize hq_ : World.drewN wr _ = wr; have n0_ := Aside0.mk (Kd.R_at hq_ HO_5.out); have n1_ := Aside0.mk (blk_at hq_ BK252.out); have n2_ := Aside0.mk (below_at hq_ HB.out); clear hq_ HO_5 BK252 HB; have HO_5 := n0_; have BK252 := n1_; have HB := n2_; clear n0_ n1_ n2_; (try (have HP46 := Kd.R_putg HO_5.out ((rd l0_4 x6_3) : Int) true)))); refine store_event (t := 4) (p := 74) (v := ?vo_w47) (w1 := (wr.setCell ⟨go43, ((rd l0_4 x6_3) : Int).toNat, none⟩ (.bool true))) ?hg ?ho ?hn ?hr ?_; (case ho => rfl); (case hg => rfl); (case hn => rfl); (case hr => first | (go_simp; done) | (go_simp; rfl)); intro w47 hw; have hg : wr.grownBy w47 (some go43) := (by rw [hw]; exact HP46.2); have hp_ : Kd.R Kd.bool 4 w47 w.heap.size (fun _ => True) (.slice (some ⟨go43, 0, none⟩) x5_3.length co45) y265 := (by rw [hw, Ny265.out]; exact HP46.1); clear HP46; have n0_ := Aside0.mk (hp_); have n1_ := Aside0.mk (blk_grown (g := gb252) (o := .cells #[.slice (some ad264) l0_0.length c0_0, .slice A0_1 l0_1.length c0_1, .slice A0_2 l0_2.length c0_2, .slice A0_3 l0_3.length c0_3, .slice (some ad262) l0_4.length c0_4, .int .u64 a0_5] 27 (0, 0)) (by (with_reducible repeat (first | refine blk_drewN ?_ _ | refine blk_drew ?_ | refine blk_alloc ?_ _)); exact BK252.out) hg (Kd.R_ne HO_5.out BK252.out (by decide))); have n2_ := Aside0.mk ((by rw [hw]; exact below_set (HB.out) GB43.out : Below w.heap.size w w47)); clear HO_5; clear BK252; clear HB; have HO_5 := n0_; have BK252 := n1_; have HB := n2_; clear n0_ n1_ n2_; clear hg hw hp_)))
                   go_roundg k3
                   case measure => have := HJ2.out; have := HK2.out; have := HK3.out; omega
                   case rel => exact ⟨(y265), (wrap64 (x6_3 + 1)), (by first | rfl | (simp; done) | (simp [*]; done)), H', ⟨by have := HJ2.out; have := HK2.out; have := HK3.out; omega⟩, ⟨by (with_reducible repeat (first | apply Kd.R_alloc | apply Kd.R_drewN | apply Kd.R_drew)); exact HO_5.out⟩, ⟨by (with_reducible repeat (first | refine blk_drewN ?_ _ | refine blk_drew ?_ | refine blk_alloc ?_ _)); exact BK252.out⟩, ⟨by repeat (first | (with_reducible first | exact HB.out | apply below_alloc | apply pw_below_drewN | apply below_drew1 | refine below_set ?_ GE252.out) | exact HB.out)⟩⟩
                 ·rw [if_neg c39] at H
                  exact absurd H (by simp)
                ·rw [if_neg c38] at H
                 exact absurd H (by simp)
              ·rw [if_neg c32] at H
               exact absurd H (by simp)
             ·rw [if_neg c31] at H
              exact absurd H (by simp)
            ·rw [if_neg c30] at H
             exact absurd H (by simp)
           ·rw [if_neg c29] at H
            have c29b0 : decide (x6_3 < (l0_4.length : Int)) = false := decide_eq_false c29
            clear c29
            obtain rfl := Option.some.inj H
            have hcz48_0 : wr.cell? ⟨gb252, 0, none⟩ = some (.slice A0_0 l0_0.length c0_0) := (bkC BK252.out 0).trans rfl
            have hcz48_1 : wr.cell? ⟨gb252, 1, none⟩ = some (.slice A0_1 l0_1.length c0_1) := (bkC BK252.out 1).trans rfl
            have hcz48_2 : wr.cell? ⟨gb252, 2, none⟩ = some (.slice A0_2 l0_2.length c0_2) := (bkC BK252.out 2).trans rfl
            have hcz48_3 : wr.cell? ⟨gb252, 3, none⟩ = some (.slice A0_3 l0_3.length c0_3) := (bkC BK252.out 3).trans rfl
            have hcz48_4 : wr.cell? ⟨gb252, 4, none⟩ = some (.slice A0_4 l0_4.length c0_4) := (bkC BK252.out 4).trans rfl
            have hcz48_5 : wr.cell? ⟨gb252, 5, none⟩ = some (.int .u64 a0_5) := (bkC BK252.out 5).trans rfl
            have hfz48_0 := bkF BK252.out 0
            have hfz48_1 := bkF BK252.out 1
            have hfz48_2 := bkF BK252.out 2
            have hfz48_3 := bkF BK252.out 3
            have hfz48_4 := bkF BK252.out 4
            have hfz48_5 := bkF BK252.out 5
            go_wp2
            repeat (go_quiet (fail); try go_wp2)
            go_ret
            exact ⟨by first | rfl | (simp [errW_none, errW_some] <;> rfl) | (simp only [<- hji22]; first | rfl | (simp [errW_none, errW_some] <;> rfl)) | (simp [*, errW_none, errW_some] <;> rfl), by repeat (first | (with_reducible first | exact HB.out | apply below_alloc | apply pw_below_drewN | apply below_drew1 | refine below_set ?_ GE252.out) | exact HB.out)⟩
        ·rw [if_neg c24] at H
         exact absurd H (by simp)
       ·rw [if_neg c23] at H
        exact absurd H (by simp)
end Go.Proofs.YtogpgkoelplknaaDoor.PLensPaths
