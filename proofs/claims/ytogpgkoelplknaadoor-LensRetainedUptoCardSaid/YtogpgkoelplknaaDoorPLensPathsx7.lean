import Derived.Test.YtogpgkoelplknaaDoorPLensPathsx0
import Derived.Test.YtogpgkoelplknaaDoorPLensPathsx6
namespace Go.Proofs.YtogpgkoelplknaaDoor.PLensPaths
open Go.RowKit Go.Proofs.YtogpgkoelplknaaDoorW.PrintWords Go.Proofs.YtogpgkoelplknaaDoorW.PrintLast Go.Proofs.YtogpgkoelplknaaDoorW.PrintMore
attribute [local go_sem] max2_int min2_int max_two min_two max_three min_three max_four min_four
set_option linter.unusedVariables false
set_option linter.unusedSimpArgs false
def middenref2_Pack.f (k : Nat) (a0_0 : Int) (a0_1 : Int) (a0_2 : Int) (a0_3 : Int) (a0_4 : Int) (a0_5 : Int) (a0_6 : Bool) : Option (Int × Int) := (middenref2_Check.f k a0_0 a0_1 a0_2 a0_3 a0_4 a0_5 a0_6).bind fun t230 => (if t230 = 0 then (if a0_6 = true then (some (IntKind.u64.wrap ((IntKind.u64.wrap ((IntKind.u64.wrap ((IntKind.u64.wrap ((IntKind.u64.wrap ((IntKind.u64.wrap ((IntKind.u64.wrap ((IntKind.u64.wrap ((IntKind.u64.wrap ((IntKind.u64.wrap ((IntKind.u64.wrap ((IntKind.u64.wrap ((IntKind.u64.wrap (a0_3)) * 4096)) + (IntKind.u64.wrap (a0_2)))) * 256)) + (IntKind.u64.wrap (a0_5)))) * 16)) + (IntKind.u64.wrap (a0_4)))) * 2)) + 1)) * 8)) + (IntKind.u64.wrap (a0_1)))) * 4)) + 1), 0)) else (some (IntKind.u64.wrap ((IntKind.u64.wrap ((IntKind.u64.wrap ((IntKind.u64.wrap ((IntKind.u64.wrap ((IntKind.u64.wrap ((IntKind.u64.wrap ((IntKind.u64.wrap ((IntKind.u64.wrap ((IntKind.u64.wrap ((IntKind.u64.wrap ((IntKind.u64.wrap (a0_3)) * 4096)) + (IntKind.u64.wrap (a0_2)))) * 256)) + (IntKind.u64.wrap (a0_5)))) * 16)) + (IntKind.u64.wrap (a0_4)))) * 2)) * 8)) + (IntKind.u64.wrap (a0_1)))) * 4)) + 1), 0))) else (some (0, t230)))
theorem middenref2_Pack.mono : ∀ a0 a1 a2 a3 a4 a5 a6 k, LeO (middenref2_Pack.f k a0 a1 a2 a3 a4 a5 a6) (middenref2_Pack.f (k + 1) a0 a1 a2 a3 a4 a5 a6) := by
 intro a0 a1 a2 a3 a4 a5 a6 k
 unfold middenref2_Pack.f
 repeat' first
   | (with_reducible first | exact middenref2_Check.mono _ _ _ _ _ _ _ _ | exact LeO.refl _ | exact LeO.none _ | refine LeO.ite ?_ ?_ | refine LeO.bind ?_ (fun _ => ?_))
   | exact middenref2_Check.mono _ _ _ _ _ _ _ _
   | exact LeO.none _
   | refine LeO.ite ?_ ?_
   | refine LeO.bind ?_ (fun _ => ?_)
set_option maxHeartbeats 8000000 in
set_option maxRecDepth 100000 in
theorem middenref2_Pack.calls (k : Nat) (a0_0 : Int) (a0_1 : Int) (a0_2 : Int) (a0_3 : Int) (a0_4 : Int) (a0_5 : Int) (a0_6 : Bool) (r1 : Int) (r2 : Int) (w : World) (h : middenref2_Pack.f k a0_0 a0_1 a0_2 a0_3 a0_4 a0_5 a0_6 = some (r1, r2)) :
  Calls Tryd.prog 118 #[.agg #[.int .u64 a0_0, .int .i64 a0_1, .int .i64 a0_2, .int .i64 a0_3, .int .i64 a0_4, .int .i64 a0_5, .bool a0_6]] w fun e w' => e = .returned (.tuple #[.int .u64 r1, .int .i64 r2]) /\ Below w.heap.size w w' := by
 have hu148 := Tryd.underlying148
 have HB := Aside0.mk (Below.refl w.heap.size w)
 have H : ((middenref2_Check.f k a0_0 a0_1 a0_2 a0_3 a0_4 a0_5 a0_6).bind fun t230 => (if t230 = 0 then (if a0_6 = true then (some (IntKind.u64.wrap ((IntKind.u64.wrap ((IntKind.u64.wrap ((IntKind.u64.wrap ((IntKind.u64.wrap ((IntKind.u64.wrap ((IntKind.u64.wrap ((IntKind.u64.wrap ((IntKind.u64.wrap ((IntKind.u64.wrap ((IntKind.u64.wrap ((IntKind.u64.wrap ((IntKind.u64.wrap (a0_3)) * 4096)) + (IntKind.u64.wrap (a0_2)))) * 256)) + (IntKind.u64.wrap (a0_5)))) * 16)) + (IntKind.u64.wrap (a0_4)))) * 2)) + 1)) * 8)) + (IntKind.u64.wrap (a0_1)))) * 4)) + 1), 0)) else (some (IntKind.u64.wrap ((IntKind.u64.wrap ((IntKind.u64.wrap ((IntKind.u64.wrap ((IntKind.u64.wrap ((IntKind.u64.wrap ((IntKind.u64.wrap ((IntKind.u64.wrap ((IntKind.u64.wrap ((IntKind.u64.wrap ((IntKind.u64.wrap ((IntKind.u64.wrap (a0_3)) * 4096)) + (IntKind.u64.wrap (a0_2)))) * 256)) + (IntKind.u64.wrap (a0_5)))) * 16)) + (IntKind.u64.wrap (a0_4)))) * 2)) * 8)) + (IntKind.u64.wrap (a0_1)))) * 4)) + 1), 0))) else (some (0, t230)))) = some (r1, r2) := h
 clear h
 replace H := Option.bind_eq_some_iff.mp H
 obtain ⟨t230, A20, H⟩ := H
 replace H : (if t230 = 0 then (if a0_6 = true then (some (IntKind.u64.wrap ((IntKind.u64.wrap ((IntKind.u64.wrap ((IntKind.u64.wrap ((IntKind.u64.wrap ((IntKind.u64.wrap ((IntKind.u64.wrap ((IntKind.u64.wrap ((IntKind.u64.wrap ((IntKind.u64.wrap ((IntKind.u64.wrap ((IntKind.u64.wrap ((IntKind.u64.wrap (a0_3)) * 4096)) + (IntKind.u64.wrap (a0_2)))) * 256)) + (IntKind.u64.wrap (a0_5)))) * 16)) + (IntKind.u64.wrap (a0_4)))) * 2)) + 1)) * 8)) + (IntKind.u64.wrap (a0_1)))) * 4)) + 1), 0)) else (some (IntKind.u64.wrap ((IntKind.u64.wrap ((IntKind.u64.wrap ((IntKind.u64.wrap ((IntKind.u64.wrap ((IntKind.u64.wrap ((IntKind.u64.wrap ((IntKind.u64.wrap ((IntKind.u64.wrap ((IntKind.u64.wrap ((IntKind.u64.wrap ((IntKind.u64.wrap (a0_3)) * 4096)) + (IntKind.u64.wrap (a0_2)))) * 256)) + (IntKind.u64.wrap (a0_5)))) * 16)) + (IntKind.u64.wrap (a0_4)))) * 2)) * 8)) + (IntKind.u64.wrap (a0_1)))) * 4)) + 1), 0))) else (some (0, t230))) = some (r1, r2) := H
 have A2 := Aside0.mk A20
 clear A20
 by_cases c3 : t230 = 0
 ·rw [if_pos c3] at H
  have c3b0 : (t230 == 0) = true := beq_iff_eq.mpr c3
  have c3b1 : (t230 != 0) = false := bne_eq_false_iff_eq.mpr c3
  clear c3
  by_cases c4 : a0_6 = true
  ·subst c4
   have H1 : (some (IntKind.u64.wrap ((IntKind.u64.wrap ((IntKind.u64.wrap ((IntKind.u64.wrap ((IntKind.u64.wrap ((IntKind.u64.wrap ((IntKind.u64.wrap ((IntKind.u64.wrap ((IntKind.u64.wrap ((IntKind.u64.wrap ((IntKind.u64.wrap ((IntKind.u64.wrap ((IntKind.u64.wrap (a0_3)) * 4096)) + (IntKind.u64.wrap (a0_2)))) * 256)) + (IntKind.u64.wrap (a0_5)))) * 16)) + (IntKind.u64.wrap (a0_4)))) * 2)) + 1)) * 8)) + (IntKind.u64.wrap (a0_1)))) * 4)) + 1), 0)) = some (r1, r2) := by rw [if_pos rfl] at H; exact H
   clear H
   have H := H1
   clear H1
   simp only [Option.some.injEq, Prod.mk.injEq] at H
   obtain ⟨rfl, rfl⟩ := H
   go_enter Tryd.func118, Tryd.ntmps118
   go_wp2_with (first | ((with_reducible refine gate_dst (N := 1) rfl ?_); refine box_event ?hg (N := 1) ?hd (cs := #[.int .u64 a0_0, .int .i64 a0_1, .int .i64 a0_2, .int .i64 a0_3, .int .i64 a0_4, .int .i64 a0_5, .bool true]) (t := 148) ?hr ?_; (case hd => rfl); (case hg => rfl); (case hr => first | (go_simp; done) | (go_simp; rfl)); intro gb229 hg w5 hbox hb; have n0_ := Aside0.mk (below_step (by repeat (first | (with_reducible first | exact HB.out | apply below_alloc | apply pw_below_drewN | apply below_drew1) | exact HB.out)) hb); have n1_ := Aside0.mk (hbox); have n2_ := Aside0.mk ((by rw [hg]; exact (below_size (by repeat (first | (with_reducible first | exact HB.out | apply below_alloc | apply pw_below_drewN | apply below_drew1) | exact HB.out))) : w.heap.size <= gb229)); have n3_ := Aside0.mk ((by rw [hg]; exact (below_size (by repeat (first | (with_reducible first | exact HB.out | apply below_alloc | apply pw_below_drewN | apply below_drew1) | exact HB.out))) : w.heap.size <= gb229)); clear HB; have HB := n0_; have BK229 := n1_; have GW229 := n2_; have GE229 := n3_; clear n0_ n1_ n2_ n3_; clear hb hbox hg; have hcz6_0 : w5.cell? ⟨gb229, 0, none⟩ = some (.int .u64 a0_0) := (bkC BK229.out 0).trans rfl; have hcz6_1 : w5.cell? ⟨gb229, 1, none⟩ = some (.int .i64 a0_1) := (bkC BK229.out 1).trans rfl; have hcz6_2 : w5.cell? ⟨gb229, 2, none⟩ = some (.int .i64 a0_2) := (bkC BK229.out 2).trans rfl; have hcz6_3 : w5.cell? ⟨gb229, 3, none⟩ = some (.int .i64 a0_3) := (bkC BK229.out 3).trans rfl; have hcz6_4 : w5.cell? ⟨gb229, 4, none⟩ = some (.int .i64 a0_4) := (bkC BK229.out 4).trans rfl; have hcz6_5 : w5.cell? ⟨gb229, 5, none⟩ = some (.int .i64 a0_5) := (bkC BK229.out 5).trans rfl; have hcz6_6 : w5.cell? ⟨gb229, 6, none⟩ = some (.bool true) := (bkC BK229.out 6).trans rfl; have hfz6_0 := bkF BK229.out 0; have hfz6_1 := bkF BK229.out 1; have hfz6_2 := bkF BK229.out 2; have hfz6_3 := bkF BK229.out 3; have hfz6_4 := bkF BK229.out 4; have hfz6_5 := bkF BK229.out 5; have hfz6_6 := bkF BK229.out 6) | ((with_reducible refine gate_callee (f := 132) rfl ?_); refine goesL_ (some 7) rfl rfl Tryd.func132 (by kernel_rfl) rfl #[.agg #[.int .u64 a0_0, .int .i64 a0_1, .int .i64 a0_2, .int .i64 a0_3, .int .i64 a0_4, .int .i64 a0_5, .bool true]] rfl (by (try simp only [List.map_toArray, List.map_cons, List.map_nil]); first | done | rfl | (simp only [List.length_drop, List.length_take]; rfl)) ?_; (with_reducible refine (middenref2_Check.calls k a0_0 a0_1 a0_2 a0_3 a0_4 a0_5 true t230 _ A2.out).mono ?_); rintro e w7 ⟨rfl, hb⟩; refine ⟨_, rfl, ?_⟩; have n0_ := Aside0.mk (blk_below (g := gb229) (o := .cells #[.int .u64 a0_0, .int .i64 a0_1, .int .i64 a0_2, .int .i64 a0_3, .int .i64 a0_4, .int .i64 a0_5, .bool true] 148 (0, 0)) (by (with_reducible repeat (first | refine blk_drewN ?_ _ | refine blk_drew ?_ | refine blk_alloc ?_ _)); exact BK229.out) hb); have n1_ := Aside0.mk (below_step (by repeat (first | (with_reducible first | exact HB.out | apply below_alloc | apply pw_below_drewN | apply below_drew1 | refine below_set ?_ GE229.out) | exact HB.out)) hb); clear BK229; clear HB; have BK229 := n0_; have HB := n1_; clear n0_ n1_; (try clear hb); (try clear hb2); (try clear hk); (try clear hi); have hcz8_0 : w7.cell? ⟨gb229, 0, none⟩ = some (.int .u64 a0_0) := (bkC BK229.out 0).trans rfl; have hcz8_1 : w7.cell? ⟨gb229, 1, none⟩ = some (.int .i64 a0_1) := (bkC BK229.out 1).trans rfl; have hcz8_2 : w7.cell? ⟨gb229, 2, none⟩ = some (.int .i64 a0_2) := (bkC BK229.out 2).trans rfl; have hcz8_3 : w7.cell? ⟨gb229, 3, none⟩ = some (.int .i64 a0_3) := (bkC BK229.out 3).trans rfl; have hcz8_4 : w7.cell? ⟨gb229, 4, none⟩ = some (.int .i64 a0_4) := (bkC BK229.out 4).trans rfl; have hcz8_5 : w7.cell? ⟨gb229, 5, none⟩ = some (.int .i64 a0_5) := (bkC BK229.out 5).trans rfl; have hcz8_6 : w7.cell? ⟨gb229, 6, none⟩ = some (.bool true) := (bkC BK229.out 6).trans rfl; have hfz8_0 := bkF BK229.out 0; have hfz8_1 := bkF BK229.out 1; have hfz8_2 := bkF BK229.out 2; have hfz8_3 := bkF BK229.out 3; have hfz8_4 := bkF BK229.out 4; have hfz8_5 := bkF BK229.out 5; have hfz8_6 := bkF BK229.out 6))
   go_ret2
   exact ⟨by first | rfl | (simp [errW_none, errW_some] <;> rfl) | (simp [*, errW_none, errW_some] <;> rfl), by repeat (first | (with_reducible first | exact HB.out | apply below_alloc | apply pw_below_drewN | apply below_drew1 | refine below_set ?_ GE229.out) | exact HB.out)⟩
  ·replace c4 := Bool.eq_false_iff.mpr c4
   subst c4
   have H1 : (some (IntKind.u64.wrap ((IntKind.u64.wrap ((IntKind.u64.wrap ((IntKind.u64.wrap ((IntKind.u64.wrap ((IntKind.u64.wrap ((IntKind.u64.wrap ((IntKind.u64.wrap ((IntKind.u64.wrap ((IntKind.u64.wrap ((IntKind.u64.wrap ((IntKind.u64.wrap (a0_3)) * 4096)) + (IntKind.u64.wrap (a0_2)))) * 256)) + (IntKind.u64.wrap (a0_5)))) * 16)) + (IntKind.u64.wrap (a0_4)))) * 2)) * 8)) + (IntKind.u64.wrap (a0_1)))) * 4)) + 1), 0)) = some (r1, r2) := by rw [if_neg (show ¬ (false = true) by decide)] at H; exact H
   clear H
   have H := H1
   clear H1
   simp only [Option.some.injEq, Prod.mk.injEq] at H
   obtain ⟨rfl, rfl⟩ := H
   go_enter Tryd.func118, Tryd.ntmps118
   go_wp2_with (first | ((with_reducible refine gate_dst (N := 1) rfl ?_); refine box_event ?hg (N := 1) ?hd (cs := #[.int .u64 a0_0, .int .i64 a0_1, .int .i64 a0_2, .int .i64 a0_3, .int .i64 a0_4, .int .i64 a0_5, .bool false]) (t := 148) ?hr ?_; (case hd => rfl); (case hg => rfl); (case hr => first | (go_simp; done) | (go_simp; rfl)); intro gb229 hg w9 hbox hb; have n0_ := Aside0.mk (below_step (by repeat (first | (with_reducible first | exact HB.out | apply below_alloc | apply pw_below_drewN | apply below_drew1) | exact HB.out)) hb); have n1_ := Aside0.mk (hbox); have n2_ := Aside0.mk ((by rw [hg]; exact (below_size (by repeat (first | (with_reducible first | exact HB.out | apply below_alloc | apply pw_below_drewN | apply below_drew1) | exact HB.out))) : w.heap.size <= gb229)); have n3_ := Aside0.mk ((by rw [hg]; exact (below_size (by repeat (first | (with_reducible first | exact HB.out | apply below_alloc | apply pw_below_drewN | apply below_drew1) | exact HB.out))) : w.heap.size <= gb229)); clear HB; have HB := n0_; have BK229 := n1_; have GW229 := n2_; have GE229 := n3_; clear n0_ n1_ n2_ n3_; clear hb hbox hg; have hcz10_0 : w9.cell? ⟨gb229, 0, none⟩ = some (.int .u64 a0_0) := (bkC BK229.out 0).trans rfl; have hcz10_1 : w9.cell? ⟨gb229, 1, none⟩ = some (.int .i64 a0_1) := (bkC BK229.out 1).trans rfl; have hcz10_2 : w9.cell? ⟨gb229, 2, none⟩ = some (.int .i64 a0_2) := (bkC BK229.out 2).trans rfl; have hcz10_3 : w9.cell? ⟨gb229, 3, none⟩ = some (.int .i64 a0_3) := (bkC BK229.out 3).trans rfl; have hcz10_4 : w9.cell? ⟨gb229, 4, none⟩ = some (.int .i64 a0_4) := (bkC BK229.out 4).trans rfl; have hcz10_5 : w9.cell? ⟨gb229, 5, none⟩ = some (.int .i64 a0_5) := (bkC BK229.out 5).trans rfl; have hcz10_6 : w9.cell? ⟨gb229, 6, none⟩ = some (.bool false) := (bkC BK229.out 6).trans rfl; have hfz10_0 := bkF BK229.out 0; have hfz10_1 := bkF BK229.out 1; have hfz10_2 := bkF BK229.out 2; have hfz10_3 := bkF BK229.out 3; have hfz10_4 := bkF BK229.out 4; have hfz10_5 := bkF BK229.out 5; have hfz10_6 := bkF BK229.out 6) | ((with_reducible refine gate_callee (f := 132) rfl ?_); refine goesL_ (some 7) rfl rfl Tryd.func132 (by kernel_rfl) rfl #[.agg #[.int .u64 a0_0, .int .i64 a0_1, .int .i64 a0_2, .int .i64 a0_3, .int .i64 a0_4, .int .i64 a0_5, .bool false]] rfl (by (try simp only [List.map_toArray, List.map_cons, List.map_nil]); first | done | rfl | (simp only [List.length_drop, List.length_take]; rfl)) ?_; (with_reducible refine (middenref2_Check.calls k a0_0 a0_1 a0_2 a0_3 a0_4 a0_5 false t230 _ A2.out).mono ?_); rintro e w11 ⟨rfl, hb⟩; refine ⟨_, rfl, ?_⟩; have n0_ := Aside0.mk (blk_below (g := gb229) (o := .cells #[.int .u64 a0_0, .int .i64 a0_1, .int .i64 a0_2, .int .i64 a0_3, .int .i64 a0_4, .int .i64 a0_5, .bool false] 148 (0, 0)) (by (with_reducible repeat (first | refine blk_drewN ?_ _ | refine blk_drew ?_ | refine blk_alloc ?_ _)); exact BK229.out) hb); have n1_ := Aside0.mk (below_step (by repeat (first | (with_reducible first | exact HB.out | apply below_alloc | apply pw_below_drewN | apply below_drew1 | refine below_set ?_ GE229.out) | exact HB.out)) hb); clear BK229; clear HB; have BK229 := n0_; have HB := n1_; clear n0_ n1_; (try clear hb); (try clear hb2); (try clear hk); (try clear hi); have hcz12_0 : w11.cell? ⟨gb229, 0, none⟩ = some (.int .u64 a0_0) := (bkC BK229.out 0).trans rfl; have hcz12_1 : w11.cell? ⟨gb229, 1, none⟩ = some (.int .i64 a0_1) := (bkC BK229.out 1).trans rfl; have hcz12_2 : w11.cell? ⟨gb229, 2, none⟩ = some (.int .i64 a0_2) := (bkC BK229.out 2).trans rfl; have hcz12_3 : w11.cell? ⟨gb229, 3, none⟩ = some (.int .i64 a0_3) := (bkC BK229.out 3).trans rfl; have hcz12_4 : w11.cell? ⟨gb229, 4, none⟩ = some (.int .i64 a0_4) := (bkC BK229.out 4).trans rfl; have hcz12_5 : w11.cell? ⟨gb229, 5, none⟩ = some (.int .i64 a0_5) := (bkC BK229.out 5).trans rfl; have hcz12_6 : w11.cell? ⟨gb229, 6, none⟩ = some (.bool false) := (bkC BK229.out 6).trans rfl; have hfz12_0 := bkF BK229.out 0; have hfz12_1 := bkF BK229.out 1; have hfz12_2 := bkF BK229.out 2; have hfz12_3 := bkF BK229.out 3; have hfz12_4 := bkF BK229.out 4; have hfz12_5 := bkF BK229.out 5; have hfz12_6 := bkF BK229.out 6))
   go_ret2
   exact ⟨by first | rfl | (simp [errW_none, errW_some] <;> rfl) | (simp [*, errW_none, errW_some] <;> rfl), by repeat (first | (with_reducible first | exact HB.out | apply below_alloc | apply pw_below_drewN | apply below_drew1 | refine below_set ?_ GE229.out) | exact HB.out)⟩
 ·rw [if_neg c3] at H
  have c3b0 : (t230 == 0) = false := beq_eq_false_iff_ne.mpr c3
  have c3b1 : (t230 != 0) = true := bne_iff_ne.mpr c3
  simp only [Option.some.injEq, Prod.mk.injEq] at H
  obtain ⟨rfl, rfl⟩ := H
  go_enter Tryd.func118, Tryd.ntmps118
  go_wp2_with (first | ((with_reducible refine gate_dst (N := 1) rfl ?_); refine box_event ?hg (N := 1) ?hd (cs := #[.int .u64 a0_0, .int .i64 a0_1, .int .i64 a0_2, .int .i64 a0_3, .int .i64 a0_4, .int .i64 a0_5, .bool a0_6]) (t := 148) ?hr ?_; (case hd => rfl); (case hg => rfl); (case hr => first | (go_simp; done) | (go_simp; rfl)); intro gb229 hg w13 hbox hb; have n0_ := Aside0.mk (below_step (by repeat (first | (with_reducible first | exact HB.out | apply below_alloc | apply pw_below_drewN | apply below_drew1) | exact HB.out)) hb); have n1_ := Aside0.mk (hbox); have n2_ := Aside0.mk ((by rw [hg]; exact (below_size (by repeat (first | (with_reducible first | exact HB.out | apply below_alloc | apply pw_below_drewN | apply below_drew1) | exact HB.out))) : w.heap.size <= gb229)); have n3_ := Aside0.mk ((by rw [hg]; exact (below_size (by repeat (first | (with_reducible first | exact HB.out | apply below_alloc | apply pw_below_drewN | apply below_drew1) | exact HB.out))) : w.heap.size <= gb229)); clear HB; have HB := n0_; have BK229 := n1_; have GW229 := n2_; have GE229 := n3_; clear n0_ n1_ n2_ n3_; clear hb hbox hg; have hcz14_0 : w13.cell? ⟨gb229, 0, none⟩ = some (.int .u64 a0_0) := (bkC BK229.out 0).trans rfl; have hcz14_1 : w13.cell? ⟨gb229, 1, none⟩ = some (.int .i64 a0_1) := (bkC BK229.out 1).trans rfl; have hcz14_2 : w13.cell? ⟨gb229, 2, none⟩ = some (.int .i64 a0_2) := (bkC BK229.out 2).trans rfl; have hcz14_3 : w13.cell? ⟨gb229, 3, none⟩ = some (.int .i64 a0_3) := (bkC BK229.out 3).trans rfl; have hcz14_4 : w13.cell? ⟨gb229, 4, none⟩ = some (.int .i64 a0_4) := (bkC BK229.out 4).trans rfl; have hcz14_5 : w13.cell? ⟨gb229, 5, none⟩ = some (.int .i64 a0_5) := (bkC BK229.out 5).trans rfl; have hcz14_6 : w13.cell? ⟨gb229, 6, none⟩ = some (.bool a0_6) := (bkC BK229.out 6).trans rfl; have hfz14_0 := bkF BK229.out 0; have hfz14_1 := bkF BK229.out 1; have hfz14_2 := bkF BK229.out 2; have hfz14_3 := bkF BK229.out 3; have hfz14_4 := bkF BK229.out 4; have hfz14_5 := bkF BK229.out 5; have hfz14_6 := bkF BK229.out 6) | ((with_reducible refine gate_callee (f := 132) rfl ?_); refine goesL_ (some 7) rfl rfl Tryd.func132 (by kernel_rfl) rfl #[.agg #[.int .u64 a0_0, .int .i64 a0_1, .int .i64 a0_2, .int .i64 a0_3, .int .i64 a0_4, .int .i64 a0_5, .bool a0_6]] rfl (by (try simp only [List.map_toArray, List.map_cons, List.map_nil]); first | done | rfl | (simp only [List.length_drop, List.length_take]; rfl)) ?_; (with_reducible refine (middenref2_Check.calls k a0_0 a0_1 a0_2 a0_3 a0_4 a0_5 a0_6 t230 _ A2.out).mono ?_); rintro e w15 ⟨rfl, hb⟩; refine ⟨_, rfl, ?_⟩; have n0_ := Aside0.mk (blk_below (g := gb229) (o := .cells #[.int .u64 a0_0, .int .i64 a0_1, .int .i64 a0_2, .int .i64 a0_3, .int .i64 a0_4, .int .i64 a0_5, .bool a0_6] 148 (0, 0)) (by (with_reducible repeat (first | refine blk_drewN ?_ _ | refine blk_drew ?_ | refine blk_alloc ?_ _)); exact BK229.out) hb); have n1_ := Aside0.mk (below_step (by repeat (first | (with_reducible first | exact HB.out | apply below_alloc | apply pw_below_drewN | apply below_drew1 | refine below_set ?_ GE229.out) | exact HB.out)) hb); clear BK229; clear HB; have BK229 := n0_; have HB := n1_; clear n0_ n1_; (try clear hb); (try clear hb2); (try clear hk); (try clear hi)))
  go_ret2
  exact ⟨by first | rfl | (simp [errW_none, errW_some] <;> rfl) | (simp [*, errW_none, errW_some] <;> rfl), by repeat (first | (with_reducible first | exact HB.out | apply below_alloc | apply pw_below_drewN | apply below_drew1 | refine below_set ?_ GE229.out) | exact HB.out)⟩
def middenref16_between.l0 : Nat -> List Int -> Int -> Int -> Int -> Option (Bool)
 | 0, _, _, _, _ => none
 | k + 1, x0, x1, x2, x7 => if x7 < (x0.length : Int) then (if 0 <= x7 then (if (rd x0 x7) < x1 then (some false) else (if (rd x0 x7) > x2 then (some false) else (middenref16_between.l0 k x0 x1 x2 (wrap64 (x7 + 1))))) else (none)) else (some true)
def middenref16_between.f (k : Nat) (l0 : List Int) (a1 : Int) (a2 : Int) : Option (Bool) := middenref16_between.l0 k l0 a1 a2 0
theorem middenref16_between.mono_l : ∀ k, (∀ y0 y1 y2 y3, LeO (middenref16_between.l0 k y0 y1 y2 y3) (middenref16_between.l0 (k + 1) y0 y1 y2 y3))
 | 0 => fun _ _ _ _ r h => by simp [middenref16_between.l0] at h
 | k + 1 => by
  have ih0 := middenref16_between.mono_l k
  ·intro y0 y1 y2 y3
   unfold middenref16_between.l0
   repeat' first
   | (with_reducible first | exact ih0 _ _ _ _ | exact LeO.refl _ | exact LeO.none _ | refine LeO.ite ?_ ?_ | refine LeO.bind ?_ (fun _ => ?_))
   | exact ih0 _ _ _ _
   | exact LeO.none _
   | refine LeO.ite ?_ ?_
   | refine LeO.bind ?_ (fun _ => ?_)
theorem middenref16_between.mono : ∀ a0 a1 a2 k, LeO (middenref16_between.f k a0 a1 a2) (middenref16_between.f (k + 1) a0 a1 a2) := by
 intro a0 a1 a2 k
 have ih0 := middenref16_between.mono_l k
 unfold middenref16_between.f
 repeat' first
   | (with_reducible first | exact ih0 _ _ _ _ | exact LeO.refl _ | exact LeO.none _ | refine LeO.ite ?_ ?_ | refine LeO.bind ?_ (fun _ => ?_))
   | exact ih0 _ _ _ _
   | exact LeO.none _
   | refine LeO.ite ?_ ?_
   | refine LeO.bind ?_ (fun _ => ?_)
set_option maxHeartbeats 8000000 in
set_option maxRecDepth 100000 in
theorem middenref16_between.calls (k : Nat) (A0 : Option Addr) (c0 : Nat) (l0 : List Int) (a1 : Int) (a2 : Int) (r : Bool) (w : World) (hr0 : Kd.C (Kd.int .i64) w A0 l0.length l0) (hc0 : l0.length <= c0) (h : middenref16_between.f k l0 a1 a2 = some r) :
  Calls Tryd.prog 119 #[.slice A0 l0.length c0, .int .i64 a1, .int .i64 a2] w fun e w' => e = .returned (.bool r) /\ Drawn0 w w' := by
 have HR0 := Aside0.mk hr0
 have HC0 := Aside0.mk hc0
 clear hr0 hc0
 have H : (middenref16_between.l0 k l0 a1 a2 0) = some r := h
 clear h
 have H' := Aside0.mk H
 clear H
 go_enter Tryd.func119, Tryd.ntmps119
 go_wp2
 go_loopg [7] k (fun kq v7 w' => ∃ (x7_1 : Int), v7 = .int .i64 x7_1 /\ Aside0 (middenref16_between.l0 kq l0 a1 a2 x7_1 = some r) /\ Aside0 (kq <= k) /\ Drawn0 w w')
 case atStart => exact ⟨(0), (by first | rfl | (simp; done) | (simp [*]; done)), H', ⟨Nat.le_refl _⟩, by repeat (first | exact Drawn0.refl _ | apply Drawn0.step)⟩
 case round =>
  clear H'
  try clear c1;try clear p2
  obtain ⟨x7_1, rfl, HA, HK1, ⟨m1, rfl⟩⟩ := hrel
  cases gk with
  | zero => exact absurd HA.out (by simp [middenref16_between.l0])
  | succ k1 =>
   have H := HA.out
   clear HA
   simp only [middenref16_between.l0] at H
   by_cases c4 : x7_1 < (l0.length : Int)
   ·rw [if_pos c4] at H
    have c4b0 : decide (x7_1 < (l0.length : Int)) = true := decide_eq_true c4
    clear c4
    by_cases c5 : 0 <= x7_1
    ·rw [if_pos c5] at H
     have c5b0 : decide (0 <= x7_1) = true := decide_eq_true c5
     clear c5
     by_cases c6 : (rd l0 x7_1) < a1
     ·rw [if_pos c6] at H
      have c6b0 : decide ((rd l0 x7_1) < a1) = true := decide_eq_true c6
      clear c6
      obtain rfl := Option.some.inj H
      have p231 : 0 <= (x7_1 : Int) := of_decide_eq_true (by first | (with_reducible assumption) | assumption)
      have q231 : x7_1 < (l0.length : Int) := of_decide_eq_true (by first | (with_reducible assumption) | assumption)
      obtain ⟨ad231, e231, hx231_0⟩ := Kd.at_int HR0.out x7_1 p231 q231
      cases e231
      replace p231 := eq_true p231
      replace q231 := eq_true q231
      go_wp2
      go_ret
      exact ⟨by first | rfl | (simp; done) | (simp [*]; done), by repeat (first | exact Drawn0.refl _ | apply Drawn0.step)⟩
     ·rw [if_neg c6] at H
      have c6b0 : decide ((rd l0 x7_1) < a1) = false := decide_eq_false c6
      clear c6
      by_cases c7 : (rd l0 x7_1) > a2
      ·rw [if_pos c7] at H
       have c7b0 : decide (a2 < (rd l0 x7_1)) = true := decide_eq_true c7
       clear c7
       obtain rfl := Option.some.inj H
       have p231 : 0 <= (x7_1 : Int) := of_decide_eq_true (by first | (with_reducible assumption) | assumption)
       have q231 : x7_1 < (l0.length : Int) := of_decide_eq_true (by first | (with_reducible assumption) | assumption)
       obtain ⟨ad231, e231, hx231_0⟩ := Kd.at_int HR0.out x7_1 p231 q231
       cases e231
       replace p231 := eq_true p231
       replace q231 := eq_true q231
       have p232 : 0 <= (x7_1 : Int) := of_decide_eq_true (by first | (with_reducible assumption) | assumption)
       have q232 : x7_1 < (l0.length : Int) := of_decide_eq_true (by first | (with_reducible assumption) | assumption)
       obtain ⟨ad232, e232, hx232_0⟩ := Kd.at_int HR0.out x7_1 p232 q232
       obtain rfl : ad231 = ad232 := (by injection e232)
       replace p232 := eq_true p232
       replace q232 := eq_true q232
       go_wp2
       go_ret
       exact ⟨by first | rfl | (simp; done) | (simp [*]; done), by repeat (first | exact Drawn0.refl _ | apply Drawn0.step)⟩
      ·rw [if_neg c7] at H
       have c7b0 : decide (a2 < (rd l0 x7_1)) = false := decide_eq_false c7
       clear c7
       have H' := Aside0.mk H
       clear H
       have p231 : 0 <= (x7_1 : Int) := of_decide_eq_true (by first | (with_reducible assumption) | assumption)
       have q231 : x7_1 < (l0.length : Int) := of_decide_eq_true (by first | (with_reducible assumption) | assumption)
       obtain ⟨ad231, e231, hx231_0⟩ := Kd.at_int HR0.out x7_1 p231 q231
       cases e231
       replace p231 := eq_true p231
       replace q231 := eq_true q231
       have p232 : 0 <= (x7_1 : Int) := of_decide_eq_true (by first | (with_reducible assumption) | assumption)
       have q232 : x7_1 < (l0.length : Int) := of_decide_eq_true (by first | (with_reducible assumption) | assumption)
       obtain ⟨ad232, e232, hx232_0⟩ := Kd.at_int HR0.out x7_1 p232 q232
       obtain rfl : ad231 = ad232 := (by injection e232)
       replace p232 := eq_true p232
       replace q232 := eq_true q232
       go_wp2
       go_roundg k1
       case measure => have := HK1.out; omega
       case rel => exact ⟨(wrap64 (x7_1 + 1)), (by first | rfl | (simp; done) | (simp [*]; done)), H', ⟨by have := HK1.out; omega⟩, by repeat (first | exact Drawn0.refl _ | apply Drawn0.step)⟩
    ·rw [if_neg c5] at H
     exact absurd H (by simp)
   ·rw [if_neg c4] at H
    have c4b0 : decide (x7_1 < (l0.length : Int)) = false := decide_eq_false c4
    clear c4
    obtain rfl := Option.some.inj H
    go_wp2
    go_ret
    exact ⟨by first | rfl | (simp; done) | (simp [*]; done), by repeat (first | exact Drawn0.refl _ | apply Drawn0.step)⟩
mutual
def middenref16_objects.j0 : Nat -> Bool -> List (S59) -> List (List (List Int)) -> List Int -> List Int -> List Int -> Int -> Option (Bool)
 | 0, _, _, _, _, _, _, _ => none
 | k + 1, x15, x234000, x234001, x234002, x234003, x234004, x234005 => if x15 = true then (some false) else (middenref16_objects.l0 k 0 0 x234000 x234001 x234002 x234003 x234004 x234005)
def middenref16_objects.l0 : Nat -> Int -> Int -> List (S59) -> List (List (List Int)) -> List Int -> List Int -> List Int -> Int -> Option (Bool)
 | 0, _, _, _, _, _, _, _, _ => none
 | k + 1, x3, x4, x234000, x234001, x234002, x234003, x234004, x234005 => if x4 < (x234000.length : Int) then (if 0 <= x4 then ((middenref2_Pack.f k 0 ((rd_T59 x234000 x4).f1) (((rd_T59 x234000 x4).f3).length : Int) (((rd_T59 x234000 x4).f4).length : Int) 0 ((rd_T59 x234000 x4).f2) false).bind fun bt236 => (if ((rd_T59 x234000 x4).f0) <= x3 then (some false) else (if ((rd_T59 x234000 x4).f0) ≥ x234005 then (some false) else (if bt236.2 = 0 then ((middenref16_between.f k ((rd_T59 x234000 x4).f3) 0 (x234000.length : Int)).bind fun t238 => (if t238 = true then (middenref16_objects.l0 k ((rd_T59 x234000 x4).f0) (wrap64 (x4 + 1)) x234000 x234001 x234002 x234003 x234004 x234005) else (some false))) else (some false))))) else (none)) else (some true)
end
def middenref16_objects.f (k : Nat) (l0_0 : List (S59)) (l0_1 : List (List (List Int))) (l0_2 : List Int) (l0_3 : List Int) (l0_4 : List Int) (a0_5 : Int) : Option (Bool) := if a0_5 < 1 then (middenref16_objects.j0 k true l0_0 l0_1 l0_2 l0_3 l0_4 a0_5) else (middenref16_objects.j0 k (decide (a0_5 > 4611686018427387905)) l0_0 l0_1 l0_2 l0_3 l0_4 a0_5)
theorem middenref16_objects.mono_l : ∀ k, (∀ y0 y1 y2 y3 y4 y5 y6, LeO (middenref16_objects.j0 k y0 y1 y2 y3 y4 y5 y6) (middenref16_objects.j0 (k + 1) y0 y1 y2 y3 y4 y5 y6)) /\ (∀ y0 y1 y2 y3 y4 y5 y6 y7, LeO (middenref16_objects.l0 k y0 y1 y2 y3 y4 y5 y6 y7) (middenref16_objects.l0 (k + 1) y0 y1 y2 y3 y4 y5 y6 y7))
 | 0 => ⟨fun _ _ _ _ _ _ _ r h => by simp [middenref16_objects.j0] at h, fun _ _ _ _ _ _ _ _ r h => by simp [middenref16_objects.l0] at h⟩
 | k + 1 => by
  obtain ⟨ih0, ih1⟩ := middenref16_objects.mono_l k
  refine ⟨?_, ?_⟩
  ·intro y0 y1 y2 y3 y4 y5 y6
   unfold middenref16_objects.j0
   repeat' first
   | (with_reducible first | exact ih0 _ _ _ _ _ _ _ | exact ih1 _ _ _ _ _ _ _ _ | exact middenref16_between.mono _ _ _ _ | exact middenref2_Pack.mono _ _ _ _ _ _ _ _ | exact LeO.refl _ | exact LeO.none _ | refine LeO.ite ?_ ?_ | refine LeO.bind ?_ (fun _ => ?_))
   | exact ih0 _ _ _ _ _ _ _
   | exact ih1 _ _ _ _ _ _ _ _
   | exact middenref16_between.mono _ _ _ _
   | exact middenref2_Pack.mono _ _ _ _ _ _ _ _
   | exact LeO.none _
   | refine LeO.ite ?_ ?_
   | refine LeO.bind ?_ (fun _ => ?_)
  ·intro y0 y1 y2 y3 y4 y5 y6 y7
   unfold middenref16_objects.l0
   repeat' first
   | (with_reducible first | exact ih0 _ _ _ _ _ _ _ | exact ih1 _ _ _ _ _ _ _ _ | exact middenref16_between.mono _ _ _ _ | exact middenref2_Pack.mono _ _ _ _ _ _ _ _ | exact LeO.refl _ | exact LeO.none _ | refine LeO.ite ?_ ?_ | refine LeO.bind ?_ (fun _ => ?_))
   | exact ih0 _ _ _ _ _ _ _
   | exact ih1 _ _ _ _ _ _ _ _
   | exact middenref16_between.mono _ _ _ _
   | exact middenref2_Pack.mono _ _ _ _ _ _ _ _
   | exact LeO.none _
   | refine LeO.ite ?_ ?_
   | refine LeO.bind ?_ (fun _ => ?_)
theorem middenref16_objects.mono : ∀ a0 a1 a2 a3 a4 a5 k, LeO (middenref16_objects.f k a0 a1 a2 a3 a4 a5) (middenref16_objects.f (k + 1) a0 a1 a2 a3 a4 a5) := by
 intro a0 a1 a2 a3 a4 a5 k
 obtain ⟨ih0, ih1⟩ := middenref16_objects.mono_l k
 unfold middenref16_objects.f
 repeat' first
   | (with_reducible first | exact ih0 _ _ _ _ _ _ _ | exact ih1 _ _ _ _ _ _ _ _ | exact middenref16_between.mono _ _ _ _ | exact middenref2_Pack.mono _ _ _ _ _ _ _ _ | exact LeO.refl _ | exact LeO.none _ | refine LeO.ite ?_ ?_ | refine LeO.bind ?_ (fun _ => ?_))
   | exact ih0 _ _ _ _ _ _ _
   | exact ih1 _ _ _ _ _ _ _ _
   | exact middenref16_between.mono _ _ _ _
   | exact middenref2_Pack.mono _ _ _ _ _ _ _ _
   | exact LeO.none _
   | refine LeO.ite ?_ ?_
   | refine LeO.bind ?_ (fun _ => ?_)
set_option maxHeartbeats 8000000 in
set_option maxRecDepth 100000 in
theorem middenref16_objects.calls (k : Nat) (A0_0 : Option Addr) (c0_0 : Nat) (l0_0 : List (S59)) (A0_1 : Option Addr) (c0_1 : Nat) (l0_1 : List (List (List Int))) (A0_2 : Option Addr) (c0_2 : Nat) (l0_2 : List Int) (A0_3 : Option Addr) (c0_3 : Nat) (l0_3 : List Int) (A0_4 : Option Addr) (c0_4 : Nat) (l0_4 : List Int) (a0_5 : Int) (r : Bool) (w : World) (hr0_0 : Kd.C k59 w A0_0 l0_0.length l0_0) (hc0_0 : l0_0.length <= c0_0) (hr0_1 : Kd.C (Kd.slice 24 (Kd.slice 3 (Kd.int .i64))) w A0_1 l0_1.length l0_1) (hc0_1 : l0_1.length <= c0_1) (hr0_2 : Kd.C (Kd.int .i64) w A0_2 l0_2.length l0_2) (hc0_2 : l0_2.length <= c0_2) (hr0_3 : Kd.C (Kd.int .i64) w A0_3 l0_3.length l0_3) (hc0_3 : l0_3.length <= c0_3) (hr0_4 : Kd.C (Kd.int .i64) w A0_4 l0_4.length l0_4) (hc0_4 : l0_4.length <= c0_4) (h : middenref16_objects.f k l0_0 l0_1 l0_2 l0_3 l0_4 a0_5 = some r) :
  Calls Tryd.prog 82 #[.agg #[.slice A0_0 l0_0.length c0_0, .slice A0_1 l0_1.length c0_1, .slice A0_2 l0_2.length c0_2, .slice A0_3 l0_3.length c0_3, .slice A0_4 l0_4.length c0_4, .int .u64 a0_5]] w fun e w' => e = .returned (.bool r) /\ Below w.heap.size w w' := by
 have hu27 := Tryd.underlying27
 have hu59 := Tryd.underlying59
 have hu148 := Tryd.underlying148
 have HR0_0 := Aside0.mk hr0_0
 have HC0_0 := Aside0.mk hc0_0
 clear hr0_0 hc0_0
 have HR0_1 := Aside0.mk hr0_1
 have HC0_1 := Aside0.mk hc0_1
 clear hr0_1 hc0_1
 have HR0_2 := Aside0.mk hr0_2
 have HC0_2 := Aside0.mk hc0_2
 clear hr0_2 hc0_2
 have HR0_3 := Aside0.mk hr0_3
 have HC0_3 := Aside0.mk hc0_3
 clear hr0_3 hc0_3
 have HR0_4 := Aside0.mk hr0_4
 have HC0_4 := Aside0.mk hc0_4
 clear hr0_4 hc0_4
 have HB := Aside0.mk (Below.refl w.heap.size w)
 have H : (if a0_5 < 1 then (middenref16_objects.j0 k true l0_0 l0_1 l0_2 l0_3 l0_4 a0_5) else (middenref16_objects.j0 k (decide (a0_5 > 4611686018427387905)) l0_0 l0_1 l0_2 l0_3 l0_4 a0_5)) = some r := h
 clear h
 have HC2 := Aside0.mk H
 clear H
 go_enter Tryd.func82, Tryd.ntmps82
 go_upto_region 1 with (first | ((with_reducible refine gate_dst (N := 1) rfl ?_); (try (refine gate_guard (by rfl) ?_; dsimp only)); refine box_event ?hg (N := 1) ?hd (cs := #[.slice A0_0 l0_0.length c0_0, .slice A0_1 l0_1.length c0_1, .slice A0_2 l0_2.length c0_2, .slice A0_3 l0_3.length c0_3, .slice A0_4 l0_4.length c0_4, .int .u64 a0_5]) (t := 27) ?hr ?_; (case hd => rfl); (case hg => rfl); (case hr => first | (go_simp; done) | (go_simp; rfl)); intro gb233 hg w3 hbox hb; have n0_ := Aside0.mk (below_step (by repeat (first | (with_reducible first | exact HB.out | apply below_alloc | apply pw_below_drewN | apply below_drew1) | exact HB.out)) hb); have n1_ := Aside0.mk (hbox); have n2_ := Aside0.mk ((by rw [hg]; exact (below_size (by repeat (first | (with_reducible first | exact HB.out | apply below_alloc | apply pw_below_drewN | apply below_drew1) | exact HB.out))) : w.heap.size <= gb233)); have n3_ := Aside0.mk ((by rw [hg]; exact (below_size (by repeat (first | (with_reducible first | exact HB.out | apply below_alloc | apply pw_below_drewN | apply below_drew1) | exact HB.out))) : w.heap.size <= gb233)); clear HB; have HB := n0_; have BK233 := n1_; have GW233 := n2_; have GE233 := n3_; clear n0_ n1_ n2_ n3_; clear hb hbox hg))
 (try simp only [Act.put, List.setIfInBounds_toArray, List.set_cons_zero, List.set_cons_succ])
 go_cut [15] (fun v15 wc => ∃ (kq : Nat) (x15_1 : Bool), v15 = .bool x15_1 /\ Aside0 (middenref16_objects.j0 kq x15_1 l0_0 l0_1 l0_2 l0_3 l0_4 a0_5 = some r) /\ Aside0 (kq <= k) /\ Aside0 (wc.heap[gb233]? = some (.cells #[(.slice A0_0 l0_0.length c0_0), (.slice A0_1 l0_1.length c0_1), (.slice A0_2 l0_2.length c0_2), (.slice A0_3 l0_3.length c0_3), (.slice A0_4 l0_4.length c0_4), .int .u64 a0_5] 27 (0, 0))) /\ Aside0 (Below w.heap.size w wc))
 case first =>
  have H := HC2.out
  clear HC2
  by_cases c4 : a0_5 < 1
  ·rw [if_pos c4] at H
   have c4b0 : decide (a0_5 < 1) = true := decide_eq_true c4
   clear c4
   (first | rw [c4b0] | (simp only [i64_w, i32_w]; rw [c4b0]) | skip)
   have H' := Aside0.mk H
   clear H
   have hcz5_0 : w3.cell? ⟨gb233, 0, none⟩ = some (.slice A0_0 l0_0.length c0_0) := (bkC BK233.out 0).trans rfl
   have hcz5_1 : w3.cell? ⟨gb233, 1, none⟩ = some (.slice A0_1 l0_1.length c0_1) := (bkC BK233.out 1).trans rfl
   have hcz5_2 : w3.cell? ⟨gb233, 2, none⟩ = some (.slice A0_2 l0_2.length c0_2) := (bkC BK233.out 2).trans rfl
   have hcz5_3 : w3.cell? ⟨gb233, 3, none⟩ = some (.slice A0_3 l0_3.length c0_3) := (bkC BK233.out 3).trans rfl
   have hcz5_4 : w3.cell? ⟨gb233, 4, none⟩ = some (.slice A0_4 l0_4.length c0_4) := (bkC BK233.out 4).trans rfl
   have hcz5_5 : w3.cell? ⟨gb233, 5, none⟩ = some (.int .u64 a0_5) := (bkC BK233.out 5).trans rfl
   have hfz5_0 := bkF BK233.out 0
   have hfz5_1 := bkF BK233.out 1
   have hfz5_2 := bkF BK233.out 2
   have hfz5_3 := bkF BK233.out 3
   have hfz5_4 := bkF BK233.out 4
   have hfz5_5 := bkF BK233.out 5
   go_wp2
   go_meet
   case rel => exact ⟨_, (true), (by first | rfl | (simp; done) | (simp [*]; done)), H', ⟨by first | omega | exact Nat.le_refl _⟩, ⟨by (with_reducible repeat (first | refine blk_drewN ?_ _ | refine blk_drew ?_ | refine blk_alloc ?_ _)); exact BK233.out⟩, ⟨by repeat (first | (with_reducible first | exact HB.out | apply below_alloc | apply pw_below_drewN | apply below_drew1 | refine below_set ?_ GE233.out) | exact HB.out)⟩⟩
  ·rw [if_neg c4] at H
   have c4b0 : decide (a0_5 < 1) = false := decide_eq_false c4
   clear c4
   (first | rw [c4b0] | (simp only [i64_w, i32_w]; rw [c4b0]) | skip)
   have H' := Aside0.mk H
   clear H
   have hcz6_0 : w3.cell? ⟨gb233, 0, none⟩ = some (.slice A0_0 l0_0.length c0_0) := (bkC BK233.out 0).trans rfl
   have hcz6_1 : w3.cell? ⟨gb233, 1, none⟩ = some (.slice A0_1 l0_1.length c0_1) := (bkC BK233.out 1).trans rfl
   have hcz6_2 : w3.cell? ⟨gb233, 2, none⟩ = some (.slice A0_2 l0_2.length c0_2) := (bkC BK233.out 2).trans rfl
   have hcz6_3 : w3.cell? ⟨gb233, 3, none⟩ = some (.slice A0_3 l0_3.length c0_3) := (bkC BK233.out 3).trans rfl
   have hcz6_4 : w3.cell? ⟨gb233, 4, none⟩ = some (.slice A0_4 l0_4.length c0_4) := (bkC BK233.out 4).trans rfl
   have hcz6_5 : w3.cell? ⟨gb233, 5, none⟩ = some (.int .u64 a0_5) := (bkC BK233.out 5).trans rfl
   have hfz6_0 := bkF BK233.out 0
   have hfz6_1 := bkF BK233.out 1
   have hfz6_2 := bkF BK233.out 2
   have hfz6_3 := bkF BK233.out 3
   have hfz6_4 := bkF BK233.out 4
   have hfz6_5 := bkF BK233.out 5
   go_wp2
   go_meet
   case rel => exact ⟨_, (decide (a0_5 > 4611686018427387905)), (by first | rfl | (simp; done) | (simp [*]; done)), H', ⟨by first | omega | exact Nat.le_refl _⟩, ⟨by (with_reducible repeat (first | refine blk_drewN ?_ _ | refine blk_drew ?_ | refine blk_alloc ?_ _)); exact BK233.out⟩, ⟨by repeat (first | (with_reducible first | exact HB.out | apply below_alloc | apply pw_below_drewN | apply below_drew1 | refine below_set ?_ GE233.out) | exact HB.out)⟩⟩
 case rest =>
  clear HC2
  try clear p2;try clear c4;try clear c4b0;try clear hcz5_0;try clear hcz5_1;try clear hcz5_2;try clear hcz5_3;try clear hcz5_4;try clear hcz5_5;try clear hcz6_0;try clear hcz6_1;try clear hcz6_2;try clear hcz6_3;try clear hcz6_4;try clear hcz6_5;try clear hfz5_0;try clear hfz5_1;try clear hfz5_2;try clear hfz5_3;try clear hfz5_4;try clear hfz5_5;try clear hfz6_0;try clear hfz6_1;try clear hfz6_2;try clear hfz6_3;try clear hfz6_4;try clear hfz6_5
  obtain ⟨kq, x15_1, rfl, HA, HJ1, BK233, HB⟩ := hcut
  cases kq with
  | zero => exact absurd HA.out (by simp [middenref16_objects.j0])
  | succ kj1 =>
   have H := HA.out
   clear HA
   simp only [middenref16_objects.j0] at H
   by_cases c7 : x15_1 = true
   ·subst c7
    have H1 : (some false) = some r := by rw [if_pos rfl] at H; exact H
    clear H
    have H := H1
    clear H1
    obtain rfl := Option.some.inj H
    go_wp2
    go_ret
    exact ⟨by first | rfl | (simp [errW_none, errW_some] <;> rfl) | (simp [*, errW_none, errW_some] <;> rfl), by repeat (first | (with_reducible first | exact HB.out | apply below_alloc | apply pw_below_drewN | apply below_drew1 | refine below_set ?_ GE233.out) | exact HB.out)⟩
   ·replace c7 := Bool.eq_false_iff.mpr c7
    subst c7
    have H1 : (middenref16_objects.l0 kj1 0 0 l0_0 l0_1 l0_2 l0_3 l0_4 a0_5) = some r := by rw [if_neg (show ¬ (false = true) by decide)] at H; exact H
    clear H
    have H := H1
    clear H1
    have H' := Aside0.mk H
    clear H
    go_wp2
    go_loopg [3, 4] kj1 (fun kq v3 v4 w' => ∃ (x3_2 : Int) (x4_2 : Int), v3 = .int .u64 x3_2 /\ v4 = .int .i64 x4_2 /\ Aside0 (middenref16_objects.l0 kq x3_2 x4_2 l0_0 l0_1 l0_2 l0_3 l0_4 a0_5 = some r) /\ Aside0 (kq <= kj1) /\ Aside0 (w'.heap[gb233]? = some (.cells #[(.slice A0_0 l0_0.length c0_0), (.slice A0_1 l0_1.length c0_1), (.slice A0_2 l0_2.length c0_2), (.slice A0_3 l0_3.length c0_3), (.slice A0_4 l0_4.length c0_4), .int .u64 a0_5] 27 (0, 0))) /\ Aside0 (Below w.heap.size w w'))
    case atStart => exact ⟨(0), (0), (by first | rfl | (simp; done) | (simp [*]; done)), (by first | rfl | (simp; done) | (simp [*]; done)), H', ⟨Nat.le_refl _⟩, ⟨by (with_reducible repeat (first | refine blk_drewN ?_ _ | refine blk_drew ?_ | refine blk_alloc ?_ _)); exact BK233.out⟩, ⟨by repeat (first | (with_reducible first | exact HB.out | apply below_alloc | apply pw_below_drewN | apply below_drew1 | refine below_set ?_ GE233.out) | exact HB.out)⟩⟩
    case round =>
     clear H'
     try clear p2;try clear c4;try clear c4b0;try clear c7;try clear hcz5_0;try clear hcz5_1;try clear hcz5_2;try clear hcz5_3;try clear hcz5_4;try clear hcz5_5;try clear hcz6_0;try clear hcz6_1;try clear hcz6_2;try clear hcz6_3;try clear hcz6_4;try clear hcz6_5;try clear hfz5_0;try clear hfz5_1;try clear hfz5_2;try clear hfz5_3;try clear hfz5_4;try clear hfz5_5;try clear hfz6_0;try clear hfz6_1;try clear hfz6_2;try clear hfz6_3;try clear hfz6_4;try clear hfz6_5;try clear p2
     obtain ⟨x3_2, x4_2, rfl, rfl, HA, HK2, BK233, HB⟩ := hrel
     cases gk with
     | zero => exact absurd HA.out (by simp [middenref16_objects.l0])
     | succ k2 =>
      have H := HA.out
      clear HA
      simp only [middenref16_objects.l0] at H
      by_cases c8 : x4_2 < (l0_0.length : Int)
      ·rw [if_pos c8] at H
       have c8b0 : decide (x4_2 < (l0_0.length : Int)) = true := decide_eq_true c8
       clear c8
       by_cases c9 : 0 <= x4_2
       ·rw [if_pos c9] at H
        have c9b0 : decide (0 <= x4_2) = true := decide_eq_true c9
        clear c9
        replace H := Option.bind_eq_some_iff.mp H
        obtain ⟨⟨t236, t237⟩, A100, H⟩ := H
        replace H : (if ((rd_T59 l0_0 x4_2).f0) <= x3_2 then (some false) else (if ((rd_T59 l0_0 x4_2).f0) ≥ a0_5 then (some false) else (if t237 = 0 then ((middenref16_between.f k2 ((rd_T59 l0_0 x4_2).f3) 0 (l0_0.length : Int)).bind fun t238 => (if t238 = true then (middenref16_objects.l0 k2 ((rd_T59 l0_0 x4_2).f0) (wrap64 (x4_2 + 1)) l0_0 l0_1 l0_2 l0_3 l0_4 a0_5) else (some false))) else (some false)))) = some r := H
        have A10 := Aside0.mk A100
        clear A100
        by_cases c11 : ((rd_T59 l0_0 x4_2).f0) <= x3_2
        ·rw [if_pos c11] at H
         have c11b0 : decide (((rd_T59 l0_0 x4_2).f0) <= x3_2) = true := decide_eq_true c11
         clear c11
         obtain rfl := Option.some.inj H
         have hcz12_0 : wr.cell? ⟨gb233, 0, none⟩ = some (.slice A0_0 l0_0.length c0_0) := (bkC BK233.out 0).trans rfl
         have hcz12_1 : wr.cell? ⟨gb233, 1, none⟩ = some (.slice A0_1 l0_1.length c0_1) := (bkC BK233.out 1).trans rfl
         have hcz12_2 : wr.cell? ⟨gb233, 2, none⟩ = some (.slice A0_2 l0_2.length c0_2) := (bkC BK233.out 2).trans rfl
         have hcz12_3 : wr.cell? ⟨gb233, 3, none⟩ = some (.slice A0_3 l0_3.length c0_3) := (bkC BK233.out 3).trans rfl
         have hcz12_4 : wr.cell? ⟨gb233, 4, none⟩ = some (.slice A0_4 l0_4.length c0_4) := (bkC BK233.out 4).trans rfl
         have hcz12_5 : wr.cell? ⟨gb233, 5, none⟩ = some (.int .u64 a0_5) := (bkC BK233.out 5).trans rfl
         have hfz12_0 := bkF BK233.out 0
         have hfz12_1 := bkF BK233.out 1
         have hfz12_2 := bkF BK233.out 2
         have hfz12_3 := bkF BK233.out 3
         have hfz12_4 := bkF BK233.out 4
         have hfz12_5 := bkF BK233.out 5
         have p234 : 0 <= (x4_2 : Int) := of_decide_eq_true (by first | (with_reducible assumption) | assumption)
         have q234 : x4_2 < (l0_0.length : Int) := of_decide_eq_true (by first | (with_reducible assumption) | assumption)
         obtain ⟨ad234, A234_3, c234_3, A234_4, c234_4, e234, hx234_0, hx234_1, hx234_2, hx234_3, hx234_4, hl234_3, hi234_3, hl234_4, hi234_4⟩ := at_T59 HR0_0.out x4_2 p234 q234
         cases e234
         replace hx234_0 := (HB.out.cell (World.block_lt_of_cell? w _ hx234_0)).trans hx234_0
         replace hx234_1 := (HB.out.cell (World.block_lt_of_cell? w _ hx234_1)).trans hx234_1
         replace hx234_2 := (HB.out.cell (World.block_lt_of_cell? w _ hx234_2)).trans hx234_2
         replace hx234_3 := (HB.out.cell (World.block_lt_of_cell? w _ hx234_3)).trans hx234_3
         replace hx234_4 := (HB.out.cell (World.block_lt_of_cell? w _ hx234_4)).trans hx234_4
         have HR234_3 := Aside0.mk hi234_3
         have HC234_3 := Aside0.mk hl234_3
         clear hi234_3 hl234_3
         have HR234_4 := Aside0.mk hi234_4
         have HC234_4 := Aside0.mk hl234_4
         clear hi234_4 hl234_4
         replace p234 := eq_true p234
         replace q234 := eq_true q234
         go_wp2_with (first | ((with_reducible refine gate_dst (N := 5) rfl ?_); (try (refine gate_guard (by rfl) ?_; dsimp only)); refine box_event ?hg (N := 5) ?hd (cs := #[.int .u64 0, .int .i64 0, .int .i64 0, .slice none 0 0, .slice none 0 0]) (t := 59) ?hr ?_; (case hd => rfl); (case hg => rfl); (case hr => first | (go_simp; done) | (go_simp; rfl)); intro gb235 hg w13 hbox hb; have n0_ := Aside0.mk (blk_below (g := gb233) (o := .cells #[.slice (some ad234) l0_0.length c0_0, .slice A0_1 l0_1.length c0_1, .slice A0_2 l0_2.length c0_2, .slice A0_3 l0_3.length c0_3, .slice A0_4 l0_4.length c0_4, .int .u64 a0_5] 27 (0, 0)) (by (with_reducible repeat (first | refine blk_drewN ?_ _ | refine blk_drew ?_ | refine blk_alloc ?_ _)); exact BK233.out) hb); have n1_ := Aside0.mk (below_step (by repeat (first | (with_reducible first | exact HB.out | apply below_alloc | apply pw_below_drewN | apply below_drew1 | refine below_set ?_ GE233.out) | exact HB.out)) hb); have n2_ := Aside0.mk (hbox); have n3_ := Aside0.mk ((by rw [hg]; exact (below_size (by repeat (first | (with_reducible first | exact HB.out | apply below_alloc | apply pw_below_drewN | apply below_drew1 | refine below_set ?_ GE233.out) | exact HB.out))) : w.heap.size <= gb235)); have n4_ := Aside0.mk ((by rw [hg]; exact (below_size (by repeat (first | (with_reducible first | exact HB.out | apply below_alloc | apply pw_below_drewN | apply below_drew1 | refine below_set ?_ GE233.out) | exact HB.out))) : w.heap.size <= gb235)); have n5_ := Aside0.mk ((by rw [hg]; exact Nat.ne_of_lt (blk_lt (g := gb233) (o := .cells #[.slice (some ad234) l0_0.length c0_0, .slice A0_1 l0_1.length c0_1, .slice A0_2 l0_2.length c0_2, .slice A0_3 l0_3.length c0_3, .slice A0_4 l0_4.length c0_4, .int .u64 a0_5] 27 (0, 0)) (by (with_reducible repeat (first | refine blk_drewN ?_ _ | refine blk_drew ?_ | refine blk_alloc ?_ _)); exact BK233.out)) : gb233 ≠ gb235)); have n6_ := Aside0.mk ((by rw [hg]; exact Nat.ne_of_gt (blk_lt (g := gb233) (o := .cells #[.slice (some ad234) l0_0.length c0_0, .slice A0_1 l0_1.length c0_1, .slice A0_2 l0_2.length c0_2, .slice A0_3 l0_3.length c0_3, .slice A0_4 l0_4.length c0_4, .int .u64 a0_5] 27 (0, 0)) (by (with_reducible repeat (first | refine blk_drewN ?_ _ | refine blk_drew ?_ | refine blk_alloc ?_ _)); exact BK233.out)) : gb235 ≠ gb233)); clear BK233; clear HB; have BK233 := n0_; have HB := n1_; have BK235 := n2_; have GW235 := n3_; have GE235 := n4_; have NB233_235 := n5_; have NB235_233 := n6_; clear n0_ n1_ n2_ n3_ n4_ n5_ n6_; clear hb hbox hg; have hnb14 := NB235_233.out; have hnc14 := NB233_235.out; have hcz15_0 : w13.cell? ⟨gb235, 0, none⟩ = some (.int .u64 0) := (bkC BK235.out 0).trans rfl; have hcz15_1 : w13.cell? ⟨gb235, 1, none⟩ = some (.int .i64 0) := (bkC BK235.out 1).trans rfl; have hcz15_2 : w13.cell? ⟨gb235, 2, none⟩ = some (.int .i64 0) := (bkC BK235.out 2).trans rfl; have hcz15_3 : w13.cell? ⟨gb235, 3, none⟩ = some (.slice none 0 0) := (bkC BK235.out 3).trans rfl; have hcz15_4 : w13.cell? ⟨gb235, 4, none⟩ = some (.slice none 0 0) := (bkC BK235.out 4).trans rfl; have hfz15_0 := bkF BK235.out 0; have hfz15_1 := bkF BK235.out 1; have hfz15_2 := bkF BK235.out 2; have hfz15_3 := bkF BK235.out 3; have hfz15_4 := bkF BK235.out 4) | ((with_reducible refine gate_callee (f := 118) rfl ?_); refine goesL_ (some 40) rfl rfl Tryd.func118 (by kernel_rfl) rfl #[.agg #[.int .u64 0, .int .i64 ((rd_T59 l0_0 x4_2).f1), .int .i64 (((rd_T59 l0_0 x4_2).f3).length : Int), .int .i64 (((rd_T59 l0_0 x4_2).f4).length : Int), .int .i64 0, .int .i64 ((rd_T59 l0_0 x4_2).f2), .bool false]] rfl (by (try simp only [List.map_toArray, List.map_cons, List.map_nil]); first | done | rfl | (simp only [List.length_drop, List.length_take]; rfl)) ?_; (with_reducible refine (middenref2_Pack.calls k2 0 ((rd_T59 l0_0 x4_2).f1) (((rd_T59 l0_0 x4_2).f3).length : Int) (((rd_T59 l0_0 x4_2).f4).length : Int) 0 ((rd_T59 l0_0 x4_2).f2) false t236 t237 _ A10.out).mono ?_); rintro e w16 ⟨rfl, hb⟩; refine ⟨_, rfl, ?_⟩; have n0_ := Aside0.mk (blk_below (g := gb233) (o := .cells #[.slice (some ad234) l0_0.length c0_0, .slice A0_1 l0_1.length c0_1, .slice A0_2 l0_2.length c0_2, .slice A0_3 l0_3.length c0_3, .slice A0_4 l0_4.length c0_4, .int .u64 a0_5] 27 (0, 0)) (by (with_reducible repeat (first | refine blk_drewN ?_ _ | refine blk_drew ?_ | refine blk_alloc ?_ _)); refine blk_far ?_ NB233_235.out _; (with_reducible repeat (first | refine blk_drewN ?_ _ | refine blk_drew ?_ | refine blk_alloc ?_ _)); refine blk_far ?_ NB233_235.out _; (with_reducible repeat (first | refine blk_drewN ?_ _ | refine blk_drew ?_ | refine blk_alloc ?_ _)); refine blk_far ?_ NB233_235.out _; (with_reducible repeat (first | refine blk_drewN ?_ _ | refine blk_drew ?_ | refine blk_alloc ?_ _)); refine blk_far ?_ NB233_235.out _; (with_reducible repeat (first | refine blk_drewN ?_ _ | refine blk_drew ?_ | refine blk_alloc ?_ _)); refine blk_far ?_ NB233_235.out _; (with_reducible repeat (first | refine blk_drewN ?_ _ | refine blk_drew ?_ | refine blk_alloc ?_ _)); exact BK233.out) hb); have n1_ := Aside0.mk (blk_below (g := gb235) (o := .cells #[.int .u64 ((rd_T59 l0_0 x4_2).f0), .int .i64 ((rd_T59 l0_0 x4_2).f1), .int .i64 ((rd_T59 l0_0 x4_2).f2), .slice A234_3 ((rd_T59 l0_0 x4_2).f3).length c234_3, .slice A234_4 ((rd_T59 l0_0 x4_2).f4).length c234_4] 59 (0, 0)) (by (with_reducible repeat (first | refine blk_drewN ?_ _ | refine blk_drew ?_ | refine blk_alloc ?_ _)); refine blk_put (cs := #[.int .u64 ((rd_T59 l0_0 x4_2).f0), .int .i64 ((rd_T59 l0_0 x4_2).f1), .int .i64 ((rd_T59 l0_0 x4_2).f2), .slice A234_3 ((rd_T59 l0_0 x4_2).f3).length c234_3, .slice none 0 0]) ?_ 4 _ rfl; (with_reducible repeat (first | refine blk_drewN ?_ _ | refine blk_drew ?_ | refine blk_alloc ?_ _)); refine blk_put (cs := #[.int .u64 ((rd_T59 l0_0 x4_2).f0), .int .i64 ((rd_T59 l0_0 x4_2).f1), .int .i64 ((rd_T59 l0_0 x4_2).f2), .slice none 0 0, .slice none 0 0]) ?_ 3 _ rfl; (with_reducible repeat (first | refine blk_drewN ?_ _ | refine blk_drew ?_ | refine blk_alloc ?_ _)); refine blk_put (cs := #[.int .u64 ((rd_T59 l0_0 x4_2).f0), .int .i64 ((rd_T59 l0_0 x4_2).f1), .int .i64 0, .slice none 0 0, .slice none 0 0]) ?_ 2 _ rfl; (with_reducible repeat (first | refine blk_drewN ?_ _ | refine blk_drew ?_ | refine blk_alloc ?_ _)); refine blk_put (cs := #[.int .u64 ((rd_T59 l0_0 x4_2).f0), .int .i64 0, .int .i64 0, .slice none 0 0, .slice none 0 0]) ?_ 1 _ rfl; (with_reducible repeat (first | refine blk_drewN ?_ _ | refine blk_drew ?_ | refine blk_alloc ?_ _)); refine blk_put (cs := #[.int .u64 0, .int .i64 0, .int .i64 0, .slice none 0 0, .slice none 0 0]) ?_ 0 _ rfl; (with_reducible repeat (first | refine blk_drewN ?_ _ | refine blk_drew ?_ | refine blk_alloc ?_ _)); exact BK235.out) hb); have n2_ := Aside0.mk (below_step (by repeat (first | (with_reducible first | exact HB.out | apply below_alloc | apply pw_below_drewN | apply below_drew1 | refine below_set ?_ GE233.out | refine below_set ?_ GE235.out) | exact HB.out)) hb); clear BK233; clear BK235; clear HB; have BK233 := n0_; have BK235 := n1_; have HB := n2_; clear n0_ n1_ n2_; (try clear hb); (try clear hb2); (try clear hk); (try clear hi); have hcz17_0 : w16.cell? ⟨gb235, 0, none⟩ = some (.int .u64 ((rd_T59 l0_0 x4_2).f0)) := (bkC BK235.out 0).trans rfl; have hcz17_1 : w16.cell? ⟨gb235, 1, none⟩ = some (.int .i64 ((rd_T59 l0_0 x4_2).f1)) := (bkC BK235.out 1).trans rfl; have hcz17_2 : w16.cell? ⟨gb235, 2, none⟩ = some (.int .i64 ((rd_T59 l0_0 x4_2).f2)) := (bkC BK235.out 2).trans rfl; have hcz17_3 : w16.cell? ⟨gb235, 3, none⟩ = some (.slice A234_3 ((rd_T59 l0_0 x4_2).f3).length c234_3) := (bkC BK235.out 3).trans rfl; have hcz17_4 : w16.cell? ⟨gb235, 4, none⟩ = some (.slice A234_4 ((rd_T59 l0_0 x4_2).f4).length c234_4) := (bkC BK235.out 4).trans rfl; have hfz17_0 := bkF BK235.out 0; have hfz17_1 := bkF BK235.out 1; have hfz17_2 := bkF BK235.out 2; have hfz17_3 := bkF BK235.out 3; have hfz17_4 := bkF BK235.out 4))
         go_ret
         exact ⟨by first | rfl | (simp [errW_none, errW_some] <;> rfl) | (simp [*, errW_none, errW_some] <;> rfl), by repeat (first | (with_reducible first | exact HB.out | apply below_alloc | apply pw_below_drewN | apply below_drew1 | refine below_set ?_ GE233.out | refine below_set ?_ GE235.out) | exact HB.out)⟩
        ·rw [if_neg c11] at H
         have c11b0 : decide (((rd_T59 l0_0 x4_2).f0) <= x3_2) = false := decide_eq_false c11
         clear c11
         by_cases c18 : ((rd_T59 l0_0 x4_2).f0) ≥ a0_5
         ·rw [if_pos c18] at H
          have c18b0 : decide (a0_5 <= ((rd_T59 l0_0 x4_2).f0)) = true := decide_eq_true c18
          clear c18
          obtain rfl := Option.some.inj H
          have hcz19_0 : wr.cell? ⟨gb233, 0, none⟩ = some (.slice A0_0 l0_0.length c0_0) := (bkC BK233.out 0).trans rfl
          have hcz19_1 : wr.cell? ⟨gb233, 1, none⟩ = some (.slice A0_1 l0_1.length c0_1) := (bkC BK233.out 1).trans rfl
          have hcz19_2 : wr.cell? ⟨gb233, 2, none⟩ = some (.slice A0_2 l0_2.length c0_2) := (bkC BK233.out 2).trans rfl
          have hcz19_3 : wr.cell? ⟨gb233, 3, none⟩ = some (.slice A0_3 l0_3.length c0_3) := (bkC BK233.out 3).trans rfl
          have hcz19_4 : wr.cell? ⟨gb233, 4, none⟩ = some (.slice A0_4 l0_4.length c0_4) := (bkC BK233.out 4).trans rfl
          have hcz19_5 : wr.cell? ⟨gb233, 5, none⟩ = some (.int .u64 a0_5) := (bkC BK233.out 5).trans rfl
          have hfz19_0 := bkF BK233.out 0
          have hfz19_1 := bkF BK233.out 1
          have hfz19_2 := bkF BK233.out 2
          have hfz19_3 := bkF BK233.out 3
          have hfz19_4 := bkF BK233.out 4
          have hfz19_5 := bkF BK233.out 5
          have p234 : 0 <= (x4_2 : Int) := of_decide_eq_true (by first | (with_reducible assumption) | assumption)
          have q234 : x4_2 < (l0_0.length : Int) := of_decide_eq_true (by first | (with_reducible assumption) | assumption)
          obtain ⟨ad234, A234_3, c234_3, A234_4, c234_4, e234, hx234_0, hx234_1, hx234_2, hx234_3, hx234_4, hl234_3, hi234_3, hl234_4, hi234_4⟩ := at_T59 HR0_0.out x4_2 p234 q234
          cases e234
          replace hx234_0 := (HB.out.cell (World.block_lt_of_cell? w _ hx234_0)).trans hx234_0
          replace hx234_1 := (HB.out.cell (World.block_lt_of_cell? w _ hx234_1)).trans hx234_1
          replace hx234_2 := (HB.out.cell (World.block_lt_of_cell? w _ hx234_2)).trans hx234_2
          replace hx234_3 := (HB.out.cell (World.block_lt_of_cell? w _ hx234_3)).trans hx234_3
          replace hx234_4 := (HB.out.cell (World.block_lt_of_cell? w _ hx234_4)).trans hx234_4
          have HR234_3 := Aside0.mk hi234_3
          have HC234_3 := Aside0.mk hl234_3
          clear hi234_3 hl234_3
          have HR234_4 := Aside0.mk hi234_4
          have HC234_4 := Aside0.mk hl234_4
          clear hi234_4 hl234_4
          replace p234 := eq_true p234
          replace q234 := eq_true q234
          go_wp2_with (first | ((with_reducible refine gate_dst (N := 5) rfl ?_); (try (refine gate_guard (by rfl) ?_; dsimp only)); refine box_event ?hg (N := 5) ?hd (cs := #[.int .u64 0, .int .i64 0, .int .i64 0, .slice none 0 0, .slice none 0 0]) (t := 59) ?hr ?_; (case hd => rfl); (case hg => rfl); (case hr => first | (go_simp; done) | (go_simp; rfl)); intro gb235 hg w20 hbox hb; have n0_ := Aside0.mk (blk_below (g := gb233) (o := .cells #[.slice (some ad234) l0_0.length c0_0, .slice A0_1 l0_1.length c0_1, .slice A0_2 l0_2.length c0_2, .slice A0_3 l0_3.length c0_3, .slice A0_4 l0_4.length c0_4, .int .u64 a0_5] 27 (0, 0)) (by (with_reducible repeat (first | refine blk_drewN ?_ _ | refine blk_drew ?_ | refine blk_alloc ?_ _)); exact BK233.out) hb); have n1_ := Aside0.mk (below_step (by repeat (first | (with_reducible first | exact HB.out | apply below_alloc | apply pw_below_drewN | apply below_drew1 | refine below_set ?_ GE233.out) | exact HB.out)) hb); have n2_ := Aside0.mk (hbox); have n3_ := Aside0.mk ((by rw [hg]; exact (below_size (by repeat (first | (with_reducible first | exact HB.out | apply below_alloc | apply pw_below_drewN | apply below_drew1 | refine below_set ?_ GE233.out) | exact HB.out))) : w.heap.size <= gb235)); have n4_ := Aside0.mk ((by rw [hg]; exact (below_size (by repeat (first | (with_reducible first | exact HB.out | apply below_alloc | apply pw_below_drewN | apply below_drew1 | refine below_set ?_ GE233.out) | exact HB.out))) : w.heap.size <= gb235)); have n5_ := Aside0.mk ((by rw [hg]; exact Nat.ne_of_lt (blk_lt (g := gb233) (o := .cells #[.slice (some ad234) l0_0.length c0_0, .slice A0_1 l0_1.length c0_1, .slice A0_2 l0_2.length c0_2, .slice A0_3 l0_3.length c0_3, .slice A0_4 l0_4.length c0_4, .int .u64 a0_5] 27 (0, 0)) (by (with_reducible repeat (first | refine blk_drewN ?_ _ | refine blk_drew ?_ | refine blk_alloc ?_ _)); exact BK233.out)) : gb233 ≠ gb235)); have n6_ := Aside0.mk ((by rw [hg]; exact Nat.ne_of_gt (blk_lt (g := gb233) (o := .cells #[.slice (some ad234) l0_0.length c0_0, .slice A0_1 l0_1.length c0_1, .slice A0_2 l0_2.length c0_2, .slice A0_3 l0_3.length c0_3, .slice A0_4 l0_4.length c0_4, .int .u64 a0_5] 27 (0, 0)) (by (with_reducible repeat (first | refine blk_drewN ?_ _ | refine blk_drew ?_ | refine blk_alloc ?_ _)); exact BK233.out)) : gb235 ≠ gb233)); clear BK233; clear HB; have BK233 := n0_; have HB := n1_; have BK235 := n2_; have GW235 := n3_; have GE235 := n4_; have NB233_235 := n5_; have NB235_233 := n6_; clear n0_ n1_ n2_ n3_ n4_ n5_ n6_; clear hb hbox hg; have hnb21 := NB235_233.out; have hnc21 := NB233_235.out; have hcz22_0 : w20.cell? ⟨gb235, 0, none⟩ = some (.int .u64 0) := (bkC BK235.out 0).trans rfl; have hcz22_1 : w20.cell? ⟨gb235, 1, none⟩ = some (.int .i64 0) := (bkC BK235.out 1).trans rfl; have hcz22_2 : w20.cell? ⟨gb235, 2, none⟩ = some (.int .i64 0) := (bkC BK235.out 2).trans rfl; have hcz22_3 : w20.cell? ⟨gb235, 3, none⟩ = some (.slice none 0 0) := (bkC BK235.out 3).trans rfl; have hcz22_4 : w20.cell? ⟨gb235, 4, none⟩ = some (.slice none 0 0) := (bkC BK235.out 4).trans rfl; have hfz22_0 := bkF BK235.out 0; have hfz22_1 := bkF BK235.out 1; have hfz22_2 := bkF BK235.out 2; have hfz22_3 := bkF BK235.out 3; have hfz22_4 := bkF BK235.out 4) | ((with_reducible refine gate_callee (f := 118) rfl ?_); refine goesL_ (some 40) rfl rfl Tryd.func118 (by kernel_rfl) rfl #[.agg #[.int .u64 0, .int .i64 ((rd_T59 l0_0 x4_2).f1), .int .i64 (((rd_T59 l0_0 x4_2).f3).length : Int), .int .i64 (((rd_T59 l0_0 x4_2).f4).length : Int), .int .i64 0, .int .i64 ((rd_T59 l0_0 x4_2).f2), .bool false]] rfl (by (try simp only [List.map_toArray, List.map_cons, List.map_nil]); first | done | rfl | (simp only [List.length_drop, List.length_take]; rfl)) ?_; (with_reducible refine (middenref2_Pack.calls k2 0 ((rd_T59 l0_0 x4_2).f1) (((rd_T59 l0_0 x4_2).f3).length : Int) (((rd_T59 l0_0 x4_2).f4).length : Int) 0 ((rd_T59 l0_0 x4_2).f2) false t236 t237 _ A10.out).mono ?_); rintro e w23 ⟨rfl, hb⟩; refine ⟨_, rfl, ?_⟩; have n0_ := Aside0.mk (blk_below (g := gb233) (o := .cells #[.slice (some ad234) l0_0.length c0_0, .slice A0_1 l0_1.length c0_1, .slice A0_2 l0_2.length c0_2, .slice A0_3 l0_3.length c0_3, .slice A0_4 l0_4.length c0_4, .int .u64 a0_5] 27 (0, 0)) (by (with_reducible repeat (first | refine blk_drewN ?_ _ | refine blk_drew ?_ | refine blk_alloc ?_ _)); refine blk_far ?_ NB233_235.out _; (with_reducible repeat (first | refine blk_drewN ?_ _ | refine blk_drew ?_ | refine blk_alloc ?_ _)); refine blk_far ?_ NB233_235.out _; (with_reducible repeat (first | refine blk_drewN ?_ _ | refine blk_drew ?_ | refine blk_alloc ?_ _)); refine blk_far ?_ NB233_235.out _; (with_reducible repeat (first | refine blk_drewN ?_ _ | refine blk_drew ?_ | refine blk_alloc ?_ _)); refine blk_far ?_ NB233_235.out _; (with_reducible repeat (first | refine blk_drewN ?_ _ | refine blk_drew ?_ | refine blk_alloc ?_ _)); refine blk_far ?_ NB233_235.out _; (with_reducible repeat (first | refine blk_drewN ?_ _ | refine blk_drew ?_ | refine blk_alloc ?_ _)); exact BK233.out) hb); have n1_ := Aside0.mk (blk_below (g := gb235) (o := .cells #[.int .u64 ((rd_T59 l0_0 x4_2).f0), .int .i64 ((rd_T59 l0_0 x4_2).f1), .int .i64 ((rd_T59 l0_0 x4_2).f2), .slice A234_3 ((rd_T59 l0_0 x4_2).f3).length c234_3, .slice A234_4 ((rd_T59 l0_0 x4_2).f4).length c234_4] 59 (0, 0)) (by (with_reducible repeat (first | refine blk_drewN ?_ _ | refine blk_drew ?_ | refine blk_alloc ?_ _)); refine blk_put (cs := #[.int .u64 ((rd_T59 l0_0 x4_2).f0), .int .i64 ((rd_T59 l0_0 x4_2).f1), .int .i64 ((rd_T59 l0_0 x4_2).f2), .slice A234_3 ((rd_T59 l0_0 x4_2).f3).length c234_3, .slice none 0 0]) ?_ 4 _ rfl; (with_reducible repeat (first | refine blk_drewN ?_ _ | refine blk_drew ?_ | refine blk_alloc ?_ _)); refine blk_put (cs := #[.int .u64 ((rd_T59 l0_0 x4_2).f0), .int .i64 ((rd_T59 l0_0 x4_2).f1), .int .i64 ((rd_T59 l0_0 x4_2).f2), .slice none 0 0, .slice none 0 0]) ?_ 3 _ rfl; (with_reducible repeat (first | refine blk_drewN ?_ _ | refine blk_drew ?_ | refine blk_alloc ?_ _)); refine blk_put (cs := #[.int .u64 ((rd_T59 l0_0 x4_2).f0), .int .i64 ((rd_T59 l0_0 x4_2).f1), .int .i64 0, .slice none 0 0, .slice none 0 0]) ?_ 2 _ rfl; (with_reducible repeat (first | refine blk_drewN ?_ _ | refine blk_drew ?_ | refine blk_alloc ?_ _)); refine blk_put (cs := #[.int .u64 ((rd_T59 l0_0 x4_2).f0), .int .i64 0, .int .i64 0, .slice none 0 0, .slice none 0 0]) ?_ 1 _ rfl; (with_reducible repeat (first | refine blk_drewN ?_ _ | refine blk_drew ?_ | refine blk_alloc ?_ _)); refine blk_put (cs := #[.int .u64 0, .int .i64 0, .int .i64 0, .slice none 0 0, .slice none 0 0]) ?_ 0 _ rfl; (with_reducible repeat (first | refine blk_drewN ?_ _ | refine blk_drew ?_ | refine blk_alloc ?_ _)); exact BK235.out) hb); have n2_ := Aside0.mk (below_step (by repeat (first | (with_reducible first | exact HB.out | apply below_alloc | apply pw_below_drewN | apply below_drew1 | refine below_set ?_ GE233.out | refine below_set ?_ GE235.out) | exact HB.out)) hb); clear BK233; clear BK235; clear HB; have BK233 := n0_; have BK235 := n1_; have HB := n2_; clear n0_ n1_ n2_; (try clear hb); (try clear hb2); (try clear hk); (try clear hi); have hcz24_0 : w23.cell? ⟨gb235, 0, none⟩ = some (.int .u64 ((rd_T59 l0_0 x4_2).f0)) := (bkC BK235.out 0).trans rfl; have hcz24_1 : w23.cell? ⟨gb235, 1, none⟩ = some (.int .i64 ((rd_T59 l0_0 x4_2).f1)) := (bkC BK235.out 1).trans rfl; have hcz24_2 : w23.cell? ⟨gb235, 2, none⟩ = some (.int .i64 ((rd_T59 l0_0 x4_2).f2)) := (bkC BK235.out 2).trans rfl; have hcz24_3 : w23.cell? ⟨gb235, 3, none⟩ = some (.slice A234_3 ((rd_T59 l0_0 x4_2).f3).length c234_3) := (bkC BK235.out 3).trans rfl; have hcz24_4 : w23.cell? ⟨gb235, 4, none⟩ = some (.slice A234_4 ((rd_T59 l0_0 x4_2).f4).length c234_4) := (bkC BK235.out 4).trans rfl; have hfz24_0 := bkF BK235.out 0; have hfz24_1 := bkF BK235.out 1; have hfz24_2 := bkF BK235.out 2; have hfz24_3 := bkF BK235.out 3; have hfz24_4 := bkF BK235.out 4; have hcz25_0 : w23.cell? ⟨gb233, 0, none⟩ = some (.slice (some ad234) l0_0.length c0_0) := (bkC BK233.out 0).trans rfl; have hcz25_1 : w23.cell? ⟨gb233, 1, none⟩ = some (.slice A0_1 l0_1.length c0_1) := (bkC BK233.out 1).trans rfl; have hcz25_2 : w23.cell? ⟨gb233, 2, none⟩ = some (.slice A0_2 l0_2.length c0_2) := (bkC BK233.out 2).trans rfl; have hcz25_3 : w23.cell? ⟨gb233, 3, none⟩ = some (.slice A0_3 l0_3.length c0_3) := (bkC BK233.out 3).trans rfl; have hcz25_4 : w23.cell? ⟨gb233, 4, none⟩ = some (.slice A0_4 l0_4.length c0_4) := (bkC BK233.out 4).trans rfl; have hcz25_5 : w23.cell? ⟨gb233, 5, none⟩ = some (.int .u64 a0_5) := (bkC BK233.out 5).trans rfl; have hfz25_0 := bkF BK233.out 0; have hfz25_1 := bkF BK233.out 1; have hfz25_2 := bkF BK233.out 2; have hfz25_3 := bkF BK233.out 3; have hfz25_4 := bkF BK233.out 4; have hfz25_5 := bkF BK233.out 5))
          go_ret
          exact ⟨by first | rfl | (simp [errW_none, errW_some] <;> rfl) | (simp [*, errW_none, errW_some] <;> rfl), by repeat (first | (with_reducible first | exact HB.out | apply below_alloc | apply pw_below_drewN | apply below_drew1 | refine below_set ?_ GE233.out | refine below_set ?_ GE235.out) | exact HB.out)⟩
         ·rw [if_neg c18] at H
          have c18b0 : decide (a0_5 <= ((rd_T59 l0_0 x4_2).f0)) = false := decide_eq_false c18
          clear c18
          by_cases c26 : t237 = 0
          ·rw [if_pos c26] at H
           have c26b0 : (t237 == 0) = true := beq_iff_eq.mpr c26
           have c26b1 : (t237 != 0) = false := bne_eq_false_iff_eq.mpr c26
           clear c26
           replace H := Option.bind_eq_some_iff.mp H
           obtain ⟨t238, A270, H⟩ := H
           replace H : (if t238 = true then (middenref16_objects.l0 k2 ((rd_T59 l0_0 x4_2).f0) (wrap64 (x4_2 + 1)) l0_0 l0_1 l0_2 l0_3 l0_4 a0_5) else (some false)) = some r := H
           have A27 := Aside0.mk A270
           clear A270
           by_cases c28 : t238 = true
           ·subst c28
            have H1 : (middenref16_objects.l0 k2 ((rd_T59 l0_0 x4_2).f0) (wrap64 (x4_2 + 1)) l0_0 l0_1 l0_2 l0_3 l0_4 a0_5) = some r := by rw [if_pos rfl] at H; exact H
            clear H
            have H := H1
            clear H1
            have H' := Aside0.mk H
            clear H
            have hcz29_0 : wr.cell? ⟨gb233, 0, none⟩ = some (.slice A0_0 l0_0.length c0_0) := (bkC BK233.out 0).trans rfl
            have hcz29_1 : wr.cell? ⟨gb233, 1, none⟩ = some (.slice A0_1 l0_1.length c0_1) := (bkC BK233.out 1).trans rfl
            have hcz29_2 : wr.cell? ⟨gb233, 2, none⟩ = some (.slice A0_2 l0_2.length c0_2) := (bkC BK233.out 2).trans rfl
            have hcz29_3 : wr.cell? ⟨gb233, 3, none⟩ = some (.slice A0_3 l0_3.length c0_3) := (bkC BK233.out 3).trans rfl
            have hcz29_4 : wr.cell? ⟨gb233, 4, none⟩ = some (.slice A0_4 l0_4.length c0_4) := (bkC BK233.out 4).trans rfl
            have hcz29_5 : wr.cell? ⟨gb233, 5, none⟩ = some (.int .u64 a0_5) := (bkC BK233.out 5).trans rfl
            have hfz29_0 := bkF BK233.out 0
            have hfz29_1 := bkF BK233.out 1
            have hfz29_2 := bkF BK233.out 2
            have hfz29_3 := bkF BK233.out 3
            have hfz29_4 := bkF BK233.out 4
            have hfz29_5 := bkF BK233.out 5
            have p234 : 0 <= (x4_2 : Int) := of_decide_eq_true (by first | (with_reducible assumption) | assumption)
            have q234 : x4_2 < (l0_0.length : Int) := of_decide_eq_true (by first | (with_reducible assumption) | assumption)
            obtain ⟨ad234, A234_3, c234_3, A234_4, c234_4, e234, hx234_0, hx234_1, hx234_2, hx234_3, hx234_4, hl234_3, hi234_3, hl234_4, hi234_4⟩ := at_T59 HR0_0.out x4_2 p234 q234
            cases e234
            replace hx234_0 := (HB.out.cell (World.block_lt_of_cell? w _ hx234_0)).trans hx234_0
            replace hx234_1 := (HB.out.cell (World.block_lt_of_cell? w _ hx234_1)).trans hx234_1
            replace hx234_2 := (HB.out.cell (World.block_lt_of_cell? w _ hx234_2)).trans hx234_2
            replace hx234_3 := (HB.out.cell (World.block_lt_of_cell? w _ hx234_3)).trans hx234_3
            replace hx234_4 := (HB.out.cell (World.block_lt_of_cell? w _ hx234_4)).trans hx234_4
            have HR234_3 := Aside0.mk hi234_3
            have HC234_3 := Aside0.mk hl234_3
            clear hi234_3 hl234_3
            have HR234_4 := Aside0.mk hi234_4
            have HC234_4 := Aside0.mk hl234_4
            clear hi234_4 hl234_4
            replace p234 := eq_true p234
            replace q234 := eq_true q234
            go_wp2_with (first | ((with_reducible refine gate_dst (N := 5) rfl ?_); (try (refine gate_guard (by rfl) ?_; dsimp only)); refine box_event ?hg (N := 5) ?hd (cs := #[.int .u64 0, .int .i64 0, .int .i64 0, .slice none 0 0, .slice none 0 0]) (t := 59) ?hr ?_; (case hd => rfl); (case hg => rfl); (case hr => first | (go_simp; done) | (go_simp; rfl)); intro gb235 hg w30 hbox hb; have n0_ := Aside0.mk (blk_below (g := gb233) (o := .cells #[.slice (some ad234) l0_0.length c0_0, .slice A0_1 l0_1.length c0_1, .slice A0_2 l0_2.length c0_2, .slice A0_3 l0_3.length c0_3, .slice A0_4 l0_4.length c0_4, .int .u64 a0_5] 27 (0, 0)) (by (with_reducible repeat (first | refine blk_drewN ?_ _ | refine blk_drew ?_ | refine blk_alloc ?_ _)); exact BK233.out) hb); have n1_ := Aside0.mk (below_step (by repeat (first | (with_reducible first | exact HB.out | apply below_alloc | apply pw_below_drewN | apply below_drew1 | refine below_set ?_ GE233.out) | exact HB.out)) hb); have n2_ := Aside0.mk (hbox); have n3_ := Aside0.mk ((by rw [hg]; exact (below_size (by repeat (first | (with_reducible first | exact HB.out | apply below_alloc | apply pw_below_drewN | apply below_drew1 | refine below_set ?_ GE233.out) | exact HB.out))) : w.heap.size <= gb235)); have n4_ := Aside0.mk ((by rw [hg]; exact (below_size (by repeat (first | (with_reducible first | exact HB.out | apply below_alloc | apply pw_below_drewN | apply below_drew1 | refine below_set ?_ GE233.out) | exact HB.out))) : w.heap.size <= gb235)); have n5_ := Aside0.mk ((by rw [hg]; exact Nat.ne_of_lt (blk_lt (g := gb233) (o := .cells #[.slice (some ad234) l0_0.length c0_0, .slice A0_1 l0_1.length c0_1, .slice A0_2 l0_2.length c0_2, .slice A0_3 l0_3.length c0_3, .slice A0_4 l0_4.length c0_4, .int .u64 a0_5] 27 (0, 0)) (by (with_reducible repeat (first | refine blk_drewN ?_ _ | refine blk_drew ?_ | refine blk_alloc ?_ _)); exact BK233.out)) : gb233 ≠ gb235)); have n6_ := Aside0.mk ((by rw [hg]; exact Nat.ne_of_gt (blk_lt (g := gb233) (o := .cells #[.slice (some ad234) l0_0.length c0_0, .slice A0_1 l0_1.length c0_1, .slice A0_2 l0_2.length c0_2, .slice A0_3 l0_3.length c0_3, .slice A0_4 l0_4.length c0_4, .int .u64 a0_5] 27 (0, 0)) (by (with_reducible repeat (first | refine blk_drewN ?_ _ | refine blk_drew ?_ | refine blk_alloc ?_ _)); exact BK233.out)) : gb235 ≠ gb233)); clear BK233; clear HB; have BK233 := n0_; have HB := n1_; have BK235 := n2_; have GW235 := n3_; have GE235 := n4_; have NB233_235 := n5_; have NB235_233 := n6_; clear n0_ n1_ n2_ n3_ n4_ n5_ n6_; clear hb hbox hg; have hnb31 := NB235_233.out; have hnc31 := NB233_235.out; have hcz32_0 : w30.cell? ⟨gb235, 0, none⟩ = some (.int .u64 0) := (bkC BK235.out 0).trans rfl; have hcz32_1 : w30.cell? ⟨gb235, 1, none⟩ = some (.int .i64 0) := (bkC BK235.out 1).trans rfl; have hcz32_2 : w30.cell? ⟨gb235, 2, none⟩ = some (.int .i64 0) := (bkC BK235.out 2).trans rfl; have hcz32_3 : w30.cell? ⟨gb235, 3, none⟩ = some (.slice none 0 0) := (bkC BK235.out 3).trans rfl; have hcz32_4 : w30.cell? ⟨gb235, 4, none⟩ = some (.slice none 0 0) := (bkC BK235.out 4).trans rfl; have hfz32_0 := bkF BK235.out 0; have hfz32_1 := bkF BK235.out 1; have hfz32_2 := bkF BK235.out 2; have hfz32_3 := bkF BK235.out 3; have hfz32_4 := bkF BK235.out 4) | ((with_reducible refine gate_callee (f := 118) rfl ?_); refine goesL_ (some 40) rfl rfl Tryd.func118 (by kernel_rfl) rfl #[.agg #[.int .u64 0, .int .i64 ((rd_T59 l0_0 x4_2).f1), .int .i64 (((rd_T59 l0_0 x4_2).f3).length : Int), .int .i64 (((rd_T59 l0_0 x4_2).f4).length : Int), .int .i64 0, .int .i64 ((rd_T59 l0_0 x4_2).f2), .bool false]] rfl (by (try simp only [List.map_toArray, List.map_cons, List.map_nil]); first | done | rfl | (simp only [List.length_drop, List.length_take]; rfl)) ?_; (with_reducible refine (middenref2_Pack.calls k2 0 ((rd_T59 l0_0 x4_2).f1) (((rd_T59 l0_0 x4_2).f3).length : Int) (((rd_T59 l0_0 x4_2).f4).length : Int) 0 ((rd_T59 l0_0 x4_2).f2) false t236 t237 _ A10.out).mono ?_); rintro e w33 ⟨rfl, hb⟩; refine ⟨_, rfl, ?_⟩; have n0_ := Aside0.mk (blk_below (g := gb233) (o := .cells #[.slice (some ad234) l0_0.length c0_0, .slice A0_1 l0_1.length c0_1, .slice A0_2 l0_2.length c0_2, .slice A0_3 l0_3.length c0_3, .slice A0_4 l0_4.length c0_4, .int .u64 a0_5] 27 (0, 0)) (by (with_reducible repeat (first | refine blk_drewN ?_ _ | refine blk_drew ?_ | refine blk_alloc ?_ _)); refine blk_far ?_ NB233_235.out _; (with_reducible repeat (first | refine blk_drewN ?_ _ | refine blk_drew ?_ | refine blk_alloc ?_ _)); refine blk_far ?_ NB233_235.out _; (with_reducible repeat (first | refine blk_drewN ?_ _ | refine blk_drew ?_ | refine blk_alloc ?_ _)); refine blk_far ?_ NB233_235.out _; (with_reducible repeat (first | refine blk_drewN ?_ _ | refine blk_drew ?_ | refine blk_alloc ?_ _)); refine blk_far ?_ NB233_235.out _; (with_reducible repeat (first | refine blk_drewN ?_ _ | refine blk_drew ?_ | refine blk_alloc ?_ _)); refine blk_far ?_ NB233_235.out _; (with_reducible repeat (first | refine blk_drewN ?_ _ | refine blk_drew ?_ | refine blk_alloc ?_ _)); exact BK233.out) hb); have n1_ := Aside0.mk (blk_below (g := gb235) (o := .cells #[.int .u64 ((rd_T59 l0_0 x4_2).f0), .int .i64 ((rd_T59 l0_0 x4_2).f1), .int .i64 ((rd_T59 l0_0 x4_2).f2), .slice A234_3 ((rd_T59 l0_0 x4_2).f3).length c234_3, .slice A234_4 ((rd_T59 l0_0 x4_2).f4).length c234_4] 59 (0, 0)) (by (with_reducible repeat (first | refine blk_drewN ?_ _ | refine blk_drew ?_ | refine blk_alloc ?_ _)); refine blk_put (cs := #[.int .u64 ((rd_T59 l0_0 x4_2).f0), .int .i64 ((rd_T59 l0_0 x4_2).f1), .int .i64 ((rd_T59 l0_0 x4_2).f2), .slice A234_3 ((rd_T59 l0_0 x4_2).f3).length c234_3, .slice none 0 0]) ?_ 4 _ rfl; (with_reducible repeat (first | refine blk_drewN ?_ _ | refine blk_drew ?_ | refine blk_alloc ?_ _)); refine blk_put (cs := #[.int .u64 ((rd_T59 l0_0 x4_2).f0), .int .i64 ((rd_T59 l0_0 x4_2).f1), .int .i64 ((rd_T59 l0_0 x4_2).f2), .slice none 0 0, .slice none 0 0]) ?_ 3 _ rfl; (with_reducible repeat (first | refine blk_drewN ?_ _ | refine blk_drew ?_ | refine blk_alloc ?_ _)); refine blk_put (cs := #[.int .u64 ((rd_T59 l0_0 x4_2).f0), .int .i64 ((rd_T59 l0_0 x4_2).f1), .int .i64 0, .slice none 0 0, .slice none 0 0]) ?_ 2 _ rfl; (with_reducible repeat (first | refine blk_drewN ?_ _ | refine blk_drew ?_ | refine blk_alloc ?_ _)); refine blk_put (cs := #[.int .u64 ((rd_T59 l0_0 x4_2).f0), .int .i64 0, .int .i64 0, .slice none 0 0, .slice none 0 0]) ?_ 1 _ rfl; (with_reducible repeat (first | refine blk_drewN ?_ _ | refine blk_drew ?_ | refine blk_alloc ?_ _)); refine blk_put (cs := #[.int .u64 0, .int .i64 0, .int .i64 0, .slice none 0 0, .slice none 0 0]) ?_ 0 _ rfl; (with_reducible repeat (first | refine blk_drewN ?_ _ | refine blk_drew ?_ | refine blk_alloc ?_ _)); exact BK235.out) hb); have n2_ := Aside0.mk (below_step (by repeat (first | (with_reducible first | exact HB.out | apply below_alloc | apply pw_below_drewN | apply below_drew1 | refine below_set ?_ GE233.out | refine below_set ?_ GE235.out) | exact HB.out)) hb); clear BK233; clear BK235; clear HB; have BK233 := n0_; have BK235 := n1_; have HB := n2_; clear n0_ n1_ n2_; (try clear hb); (try clear hb2); (try clear hk); (try clear hi); have hcz34_0 : w33.cell? ⟨gb235, 0, none⟩ = some (.int .u64 ((rd_T59 l0_0 x4_2).f0)) := (bkC BK235.out 0).trans rfl; have hcz34_1 : w33.cell? ⟨gb235, 1, none⟩ = some (.int .i64 ((rd_T59 l0_0 x4_2).f1)) := (bkC BK235.out 1).trans rfl; have hcz34_2 : w33.cell? ⟨gb235, 2, none⟩ = some (.int .i64 ((rd_T59 l0_0 x4_2).f2)) := (bkC BK235.out 2).trans rfl; have hcz34_3 : w33.cell? ⟨gb235, 3, none⟩ = some (.slice A234_3 ((rd_T59 l0_0 x4_2).f3).length c234_3) := (bkC BK235.out 3).trans rfl; have hcz34_4 : w33.cell? ⟨gb235, 4, none⟩ = some (.slice A234_4 ((rd_T59 l0_0 x4_2).f4).length c234_4) := (bkC BK235.out 4).trans rfl; have hfz34_0 := bkF BK235.out 0; have hfz34_1 := bkF BK235.out 1; have hfz34_2 := bkF BK235.out 2; have hfz34_3 := bkF BK235.out 3; have hfz34_4 := bkF BK235.out 4; have hcz35_0 : w33.cell? ⟨gb233, 0, none⟩ = some (.slice (some ad234) l0_0.length c0_0) := (bkC BK233.out 0).trans rfl; have hcz35_1 : w33.cell? ⟨gb233, 1, none⟩ = some (.slice A0_1 l0_1.length c0_1) := (bkC BK233.out 1).trans rfl; have hcz35_2 : w33.cell? ⟨gb233, 2, none⟩ = some (.slice A0_2 l0_2.length c0_2) := (bkC BK233.out 2).trans rfl; have hcz35_3 : w33.cell? ⟨gb233, 3, none⟩ = some (.slice A0_3 l0_3.length c0_3) := (bkC BK233.out 3).trans rfl; have hcz35_4 : w33.cell? ⟨gb233, 4, none⟩ = some (.slice A0_4 l0_4.length c0_4) := (bkC BK233.out 4).trans rfl; have hcz35_5 : w33.cell? ⟨gb233, 5, none⟩ = some (.int .u64 a0_5) := (bkC BK233.out 5).trans rfl; have hfz35_0 := bkF BK233.out 0; have hfz35_1 := bkF BK233.out 1; have hfz35_2 := bkF BK233.out 2; have hfz35_3 := bkF BK233.out 3; have hfz35_4 := bkF BK233.out 4; have hfz35_5 := bkF BK233.out 5) | (go_at_call 119; (with_reducible refine (middenref16_between.calls k2 _ _ ((rd_T59 l0_0 x4_2).f3) 0 (l0_0.length : Int) true _ ?side1 ?side2 A27.out).mono ?_); (case side1 => repeat (first | exact (Kd.C_below HR234_3.out HB.out) | (with_reducible refine Kd.C_alloc ?_ _) | (with_reducible refine Kd.C_drewN ?_ _) | (with_reducible refine Kd.C_drew ?_))); (case side2 => exact HC234_3.out); rintro e w' ⟨rfl, ⟨nd, rfl⟩⟩))
            go_roundg k2
            case measure => have := HJ1.out; have := HK2.out; omega
            case rel => exact ⟨((rd_T59 l0_0 x4_2).f0), (wrap64 (x4_2 + 1)), (by first | rfl | (simp; done) | (simp [*]; done)), (by first | rfl | (simp; done) | (simp [*]; done)), H', ⟨by have := HJ1.out; have := HK2.out; omega⟩, ⟨by (with_reducible repeat (first | refine blk_drewN ?_ _ | refine blk_drew ?_ | refine blk_alloc ?_ _)); exact BK233.out⟩, ⟨by repeat (first | (with_reducible first | exact HB.out | apply below_alloc | apply pw_below_drewN | apply below_drew1 | refine below_set ?_ GE233.out | refine below_set ?_ GE235.out) | exact HB.out)⟩⟩
           ·replace c28 := Bool.eq_false_iff.mpr c28
            subst c28
            have H1 : (some false) = some r := by rw [if_neg (show ¬ (false = true) by decide)] at H; exact H
            clear H
            have H := H1
            clear H1
            obtain rfl := Option.some.inj H
            have hcz36_0 : wr.cell? ⟨gb233, 0, none⟩ = some (.slice A0_0 l0_0.length c0_0) := (bkC BK233.out 0).trans rfl
            have hcz36_1 : wr.cell? ⟨gb233, 1, none⟩ = some (.slice A0_1 l0_1.length c0_1) := (bkC BK233.out 1).trans rfl
            have hcz36_2 : wr.cell? ⟨gb233, 2, none⟩ = some (.slice A0_2 l0_2.length c0_2) := (bkC BK233.out 2).trans rfl
            have hcz36_3 : wr.cell? ⟨gb233, 3, none⟩ = some (.slice A0_3 l0_3.length c0_3) := (bkC BK233.out 3).trans rfl
            have hcz36_4 : wr.cell? ⟨gb233, 4, none⟩ = some (.slice A0_4 l0_4.length c0_4) := (bkC BK233.out 4).trans rfl
            have hcz36_5 : wr.cell? ⟨gb233, 5, none⟩ = some (.int .u64 a0_5) := (bkC BK233.out 5).trans rfl
            have hfz36_0 := bkF BK233.out 0
            have hfz36_1 := bkF BK233.out 1
            have hfz36_2 := bkF BK233.out 2
            have hfz36_3 := bkF BK233.out 3
            have hfz36_4 := bkF BK233.out 4
            have hfz36_5 := bkF BK233.out 5
            have p234 : 0 <= (x4_2 : Int) := of_decide_eq_true (by first | (with_reducible assumption) | assumption)
            have q234 : x4_2 < (l0_0.length : Int) := of_decide_eq_true (by first | (with_reducible assumption) | assumption)
            obtain ⟨ad234, A234_3, c234_3, A234_4, c234_4, e234, hx234_0, hx234_1, hx234_2, hx234_3, hx234_4, hl234_3, hi234_3, hl234_4, hi234_4⟩ := at_T59 HR0_0.out x4_2 p234 q234
            cases e234
            replace hx234_0 := (HB.out.cell (World.block_lt_of_cell? w _ hx234_0)).trans hx234_0
            replace hx234_1 := (HB.out.cell (World.block_lt_of_cell? w _ hx234_1)).trans hx234_1
            replace hx234_2 := (HB.out.cell (World.block_lt_of_cell? w _ hx234_2)).trans hx234_2
            replace hx234_3 := (HB.out.cell (World.block_lt_of_cell? w _ hx234_3)).trans hx234_3
            replace hx234_4 := (HB.out.cell (World.block_lt_of_cell? w _ hx234_4)).trans hx234_4
            have HR234_3 := Aside0.mk hi234_3
            have HC234_3 := Aside0.mk hl234_3
            clear hi234_3 hl234_3
            have HR234_4 := Aside0.mk hi234_4
            have HC234_4 := Aside0.mk hl234_4
            clear hi234_4 hl234_4
            replace p234 := eq_true p234
            replace q234 := eq_true q234
            go_wp2_with (first | ((with_reducible refine gate_dst (N := 5) rfl ?_); (try (refine gate_guard (by rfl) ?_; dsimp only)); refine box_event ?hg (N := 5) ?hd (cs := #[.int .u64 0, .int .i64 0, .int .i64 0, .slice none 0 0, .slice none 0 0]) (t := 59) ?hr ?_; (case hd => rfl); (case hg => rfl); (case hr => first | (go_simp; done) | (go_simp; rfl)); intro gb235 hg w37 hbox hb; have n0_ := Aside0.mk (blk_below (g := gb233) (o := .cells #[.slice (some ad234) l0_0.length c0_0, .slice A0_1 l0_1.length c0_1, .slice A0_2 l0_2.length c0_2, .slice A0_3 l0_3.length c0_3, .slice A0_4 l0_4.length c0_4, .int .u64 a0_5] 27 (0, 0)) (by (with_reducible repeat (first | refine blk_drewN ?_ _ | refine blk_drew ?_ | refine blk_alloc ?_ _)); exact BK233.out) hb); have n1_ := Aside0.mk (below_step (by repeat (first | (with_reducible first | exact HB.out | apply below_alloc | apply pw_below_drewN | apply below_drew1 | refine below_set ?_ GE233.out) | exact HB.out)) hb); have n2_ := Aside0.mk (hbox); have n3_ := Aside0.mk ((by rw [hg]; exact (below_size (by repeat (first | (with_reducible first | exact HB.out | apply below_alloc | apply pw_below_drewN | apply below_drew1 | refine below_set ?_ GE233.out) | exact HB.out))) : w.heap.size <= gb235)); have n4_ := Aside0.mk ((by rw [hg]; exact (below_size (by repeat (first | (with_reducible first | exact HB.out | apply below_alloc | apply pw_below_drewN | apply below_drew1 | refine below_set ?_ GE233.out) | exact HB.out))) : w.heap.size <= gb235)); have n5_ := Aside0.mk ((by rw [hg]; exact Nat.ne_of_lt (blk_lt (g := gb233) (o := .cells #[.slice (some ad234) l0_0.length c0_0, .slice A0_1 l0_1.length c0_1, .slice A0_2 l0_2.length c0_2, .slice A0_3 l0_3.length c0_3, .slice A0_4 l0_4.length c0_4, .int .u64 a0_5] 27 (0, 0)) (by (with_reducible repeat (first | refine blk_drewN ?_ _ | refine blk_drew ?_ | refine blk_alloc ?_ _)); exact BK233.out)) : gb233 ≠ gb235)); have n6_ := Aside0.mk ((by rw [hg]; exact Nat.ne_of_gt (blk_lt (g := gb233) (o := .cells #[.slice (some ad234) l0_0.length c0_0, .slice A0_1 l0_1.length c0_1, .slice A0_2 l0_2.length c0_2, .slice A0_3 l0_3.length c0_3, .slice A0_4 l0_4.length c0_4, .int .u64 a0_5] 27 (0, 0)) (by (with_reducible repeat (first | refine blk_drewN ?_ _ | refine blk_drew ?_ | refine blk_alloc ?_ _)); exact BK233.out)) : gb235 ≠ gb233)); clear BK233; clear HB; have BK233 := n0_; have HB := n1_; have BK235 := n2_; have GW235 := n3_; have GE235 := n4_; have NB233_235 := n5_; have NB235_233 := n6_; clear n0_ n1_ n2_ n3_ n4_ n5_ n6_; clear hb hbox hg; have hnb38 := NB235_233.out; have hnc38 := NB233_235.out; have hcz39_0 : w37.cell? ⟨gb235, 0, none⟩ = some (.int .u64 0) := (bkC BK235.out 0).trans rfl; have hcz39_1 : w37.cell? ⟨gb235, 1, none⟩ = some (.int .i64 0) := (bkC BK235.out 1).trans rfl; have hcz39_2 : w37.cell? ⟨gb235, 2, none⟩ = some (.int .i64 0) := (bkC BK235.out 2).trans rfl; have hcz39_3 : w37.cell? ⟨gb235, 3, none⟩ = some (.slice none 0 0) := (bkC BK235.out 3).trans rfl; have hcz39_4 : w37.cell? ⟨gb235, 4, none⟩ = some (.slice none 0 0) := (bkC BK235.out 4).trans rfl; have hfz39_0 := bkF BK235.out 0; have hfz39_1 := bkF BK235.out 1; have hfz39_2 := bkF BK235.out 2; have hfz39_3 := bkF BK235.out 3; have hfz39_4 := bkF BK235.out 4) | ((with_reducible refine gate_callee (f := 118) rfl ?_); refine goesL_ (some 40) rfl rfl Tryd.func118 (by kernel_rfl) rfl #[.agg #[.int .u64 0, .int .i64 ((rd_T59 l0_0 x4_2).f1), .int .i64 (((rd_T59 l0_0 x4_2).f3).length : Int), .int .i64 (((rd_T59 l0_0 x4_2).f4).length : Int), .int .i64 0, .int .i64 ((rd_T59 l0_0 x4_2).f2), .bool false]] rfl (by (try simp only [List.map_toArray, List.map_cons, List.map_nil]); first | done | rfl | (simp only [List.length_drop, List.length_take]; rfl)) ?_; (with_reducible refine (middenref2_Pack.calls k2 0 ((rd_T59 l0_0 x4_2).f1) (((rd_T59 l0_0 x4_2).f3).length : Int) (((rd_T59 l0_0 x4_2).f4).length : Int) 0 ((rd_T59 l0_0 x4_2).f2) false t236 t237 _ A10.out).mono ?_); rintro e w40 ⟨rfl, hb⟩; refine ⟨_, rfl, ?_⟩; have n0_ := Aside0.mk (blk_below (g := gb233) (o := .cells #[.slice (some ad234) l0_0.length c0_0, .slice A0_1 l0_1.length c0_1, .slice A0_2 l0_2.length c0_2, .slice A0_3 l0_3.length c0_3, .slice A0_4 l0_4.length c0_4, .int .u64 a0_5] 27 (0, 0)) (by (with_reducible repeat (first | refine blk_drewN ?_ _ | refine blk_drew ?_ | refine blk_alloc ?_ _)); refine blk_far ?_ NB233_235.out _; (with_reducible repeat (first | refine blk_drewN ?_ _ | refine blk_drew ?_ | refine blk_alloc ?_ _)); refine blk_far ?_ NB233_235.out _; (with_reducible repeat (first | refine blk_drewN ?_ _ | refine blk_drew ?_ | refine blk_alloc ?_ _)); refine blk_far ?_ NB233_235.out _; (with_reducible repeat (first | refine blk_drewN ?_ _ | refine blk_drew ?_ | refine blk_alloc ?_ _)); refine blk_far ?_ NB233_235.out _; (with_reducible repeat (first | refine blk_drewN ?_ _ | refine blk_drew ?_ | refine blk_alloc ?_ _)); refine blk_far ?_ NB233_235.out _; (with_reducible repeat (first | refine blk_drewN ?_ _ | refine blk_drew ?_ | refine blk_alloc ?_ _)); exact BK233.out) hb); have n1_ := Aside0.mk (blk_below (g := gb235) (o := .cells #[.int .u64 ((rd_T59 l0_0 x4_2).f0), .int .i64 ((rd_T59 l0_0 x4_2).f1), .int .i64 ((rd_T59 l0_0 x4_2).f2), .slice A234_3 ((rd_T59 l0_0 x4_2).f3).length c234_3, .slice A234_4 ((rd_T59 l0_0 x4_2).f4).length c234_4] 59 (0, 0)) (by (with_reducible repeat (first | refine blk_drewN ?_ _ | refine blk_drew ?_ | refine blk_alloc ?_ _)); refine blk_put (cs := #[.int .u64 ((rd_T59 l0_0 x4_2).f0), .int .i64 ((rd_T59 l0_0 x4_2).f1), .int .i64 ((rd_T59 l0_0 x4_2).f2), .slice A234_3 ((rd_T59 l0_0 x4_2).f3).length c234_3, .slice none 0 0]) ?_ 4 _ rfl; (with_reducible repeat (first | refine blk_drewN ?_ _ | refine blk_drew ?_ | refine blk_alloc ?_ _)); refine blk_put (cs := #[.int .u64 ((rd_T59 l0_0 x4_2).f0), .int .i64 ((rd_T59 l0_0 x4_2).f1), .int .i64 ((rd_T59 l0_0 x4_2).f2), .slice none 0 0, .slice none 0 0]) ?_ 3 _ rfl; (with_reducible repeat (first | refine blk_drewN ?_ _ | refine blk_drew ?_ | refine blk_alloc ?_ _)); refine blk_put (cs := #[.int .u64 ((rd_T59 l0_0 x4_2).f0), .int .i64 ((rd_T59 l0_0 x4_2).f1), .int .i64 0, .slice none 0 0, .slice none 0 0]) ?_ 2 _ rfl; (with_reducible repeat (first | refine blk_drewN ?_ _ | refine blk_drew ?_ | refine blk_alloc ?_ _)); refine blk_put (cs := #[.int .u64 ((rd_T59 l0_0 x4_2).f0), .int .i64 0, .int .i64 0, .slice none 0 0, .slice none 0 0]) ?_ 1 _ rfl; (with_reducible repeat (first | refine blk_drewN ?_ _ | refine blk_drew ?_ | refine blk_alloc ?_ _)); refine blk_put (cs := #[.int .u64 0, .int .i64 0, .int .i64 0, .slice none 0 0, .slice none 0 0]) ?_ 0 _ rfl; (with_reducible repeat (first | refine blk_drewN ?_ _ | refine blk_drew ?_ | refine blk_alloc ?_ _)); exact BK235.out) hb); have n2_ := Aside0.mk (below_step (by repeat (first | (with_reducible first | exact HB.out | apply below_alloc | apply pw_below_drewN | apply below_drew1 | refine below_set ?_ GE233.out | refine below_set ?_ GE235.out) | exact HB.out)) hb); clear BK233; clear BK235; clear HB; have BK233 := n0_; have BK235 := n1_; have HB := n2_; clear n0_ n1_ n2_; (try clear hb); (try clear hb2); (try clear hk); (try clear hi); have hcz41_0 : w40.cell? ⟨gb235, 0, none⟩ = some (.int .u64 ((rd_T59 l0_0 x4_2).f0)) := (bkC BK235.out 0).trans rfl; have hcz41_1 : w40.cell? ⟨gb235, 1, none⟩ = some (.int .i64 ((rd_T59 l0_0 x4_2).f1)) := (bkC BK235.out 1).trans rfl; have hcz41_2 : w40.cell? ⟨gb235, 2, none⟩ = some (.int .i64 ((rd_T59 l0_0 x4_2).f2)) := (bkC BK235.out 2).trans rfl; have hcz41_3 : w40.cell? ⟨gb235, 3, none⟩ = some (.slice A234_3 ((rd_T59 l0_0 x4_2).f3).length c234_3) := (bkC BK235.out 3).trans rfl; have hcz41_4 : w40.cell? ⟨gb235, 4, none⟩ = some (.slice A234_4 ((rd_T59 l0_0 x4_2).f4).length c234_4) := (bkC BK235.out 4).trans rfl; have hfz41_0 := bkF BK235.out 0; have hfz41_1 := bkF BK235.out 1; have hfz41_2 := bkF BK235.out 2; have hfz41_3 := bkF BK235.out 3; have hfz41_4 := bkF BK235.out 4; have hcz42_0 : w40.cell? ⟨gb233, 0, none⟩ = some (.slice (some ad234) l0_0.length c0_0) := (bkC BK233.out 0).trans rfl; have hcz42_1 : w40.cell? ⟨gb233, 1, none⟩ = some (.slice A0_1 l0_1.length c0_1) := (bkC BK233.out 1).trans rfl; have hcz42_2 : w40.cell? ⟨gb233, 2, none⟩ = some (.slice A0_2 l0_2.length c0_2) := (bkC BK233.out 2).trans rfl; have hcz42_3 : w40.cell? ⟨gb233, 3, none⟩ = some (.slice A0_3 l0_3.length c0_3) := (bkC BK233.out 3).trans rfl; have hcz42_4 : w40.cell? ⟨gb233, 4, none⟩ = some (.slice A0_4 l0_4.length c0_4) := (bkC BK233.out 4).trans rfl; have hcz42_5 : w40.cell? ⟨gb233, 5, none⟩ = some (.int .u64 a0_5) := (bkC BK233.out 5).trans rfl; have hfz42_0 := bkF BK233.out 0; have hfz42_1 := bkF BK233.out 1; have hfz42_2 := bkF BK233.out 2; have hfz42_3 := bkF BK233.out 3; have hfz42_4 := bkF BK233.out 4; have hfz42_5 := bkF BK233.out 5) | (go_at_call 119; (with_reducible refine (middenref16_between.calls k2 _ _ ((rd_T59 l0_0 x4_2).f3) 0 (l0_0.length : Int) false _ ?side1 ?side2 A27.out).mono ?_); (case side1 => repeat (first | exact (Kd.C_below HR234_3.out HB.out) | (with_reducible refine Kd.C_alloc ?_ _) | (with_reducible refine Kd.C_drewN ?_ _) | (with_reducible refine Kd.C_drew ?_))); (case side2 => exact HC234_3.out); rintro e w' ⟨rfl, ⟨nd, rfl⟩⟩))
            go_ret
            exact ⟨by first | rfl | (simp [errW_none, errW_some] <;> rfl) | (simp [*, errW_none, errW_some] <;> rfl), by repeat (first | (with_reducible first | exact HB.out | apply below_alloc | apply pw_below_drewN | apply below_drew1 | refine below_set ?_ GE233.out | refine below_set ?_ GE235.out) | exact HB.out)⟩
          ·rw [if_neg c26] at H
           have c26b0 : (t237 == 0) = false := beq_eq_false_iff_ne.mpr c26
           have c26b1 : (t237 != 0) = true := bne_iff_ne.mpr c26
           obtain rfl := Option.some.inj H
           have hcz43_0 : wr.cell? ⟨gb233, 0, none⟩ = some (.slice A0_0 l0_0.length c0_0) := (bkC BK233.out 0).trans rfl
           have hcz43_1 : wr.cell? ⟨gb233, 1, none⟩ = some (.slice A0_1 l0_1.length c0_1) := (bkC BK233.out 1).trans rfl
           have hcz43_2 : wr.cell? ⟨gb233, 2, none⟩ = some (.slice A0_2 l0_2.length c0_2) := (bkC BK233.out 2).trans rfl
           have hcz43_3 : wr.cell? ⟨gb233, 3, none⟩ = some (.slice A0_3 l0_3.length c0_3) := (bkC BK233.out 3).trans rfl
           have hcz43_4 : wr.cell? ⟨gb233, 4, none⟩ = some (.slice A0_4 l0_4.length c0_4) := (bkC BK233.out 4).trans rfl
           have hcz43_5 : wr.cell? ⟨gb233, 5, none⟩ = some (.int .u64 a0_5) := (bkC BK233.out 5).trans rfl
           have hfz43_0 := bkF BK233.out 0
           have hfz43_1 := bkF BK233.out 1
           have hfz43_2 := bkF BK233.out 2
           have hfz43_3 := bkF BK233.out 3
           have hfz43_4 := bkF BK233.out 4
           have hfz43_5 := bkF BK233.out 5
           have p234 : 0 <= (x4_2 : Int) := of_decide_eq_true (by first | (with_reducible assumption) | assumption)
           have q234 : x4_2 < (l0_0.length : Int) := of_decide_eq_true (by first | (with_reducible assumption) | assumption)
           obtain ⟨ad234, A234_3, c234_3, A234_4, c234_4, e234, hx234_0, hx234_1, hx234_2, hx234_3, hx234_4, hl234_3, hi234_3, hl234_4, hi234_4⟩ := at_T59 HR0_0.out x4_2 p234 q234
           cases e234
           replace hx234_0 := (HB.out.cell (World.block_lt_of_cell? w _ hx234_0)).trans hx234_0
           replace hx234_1 := (HB.out.cell (World.block_lt_of_cell? w _ hx234_1)).trans hx234_1
           replace hx234_2 := (HB.out.cell (World.block_lt_of_cell? w _ hx234_2)).trans hx234_2
           replace hx234_3 := (HB.out.cell (World.block_lt_of_cell? w _ hx234_3)).trans hx234_3
           replace hx234_4 := (HB.out.cell (World.block_lt_of_cell? w _ hx234_4)).trans hx234_4
           have HR234_3 := Aside0.mk hi234_3
           have HC234_3 := Aside0.mk hl234_3
           clear hi234_3 hl234_3
           have HR234_4 := Aside0.mk hi234_4
           have HC234_4 := Aside0.mk hl234_4
           clear hi234_4 hl234_4
           replace p234 := eq_true p234
           replace q234 := eq_true q234
           go_wp2_with (first | ((with_reducible refine gate_dst (N := 5) rfl ?_); (try (refine gate_guard (by rfl) ?_; dsimp only)); refine box_event ?hg (N := 5) ?hd (cs := #[.int .u64 0, .int .i64 0, .int .i64 0, .slice none 0 0, .slice none 0 0]) (t := 59) ?hr ?_; (case hd => rfl); (case hg => rfl); (case hr => first | (go_simp; done) | (go_simp; rfl)); intro gb235 hg w44 hbox hb; have n0_ := Aside0.mk (blk_below (g := gb233) (o := .cells #[.slice (some ad234) l0_0.length c0_0, .slice A0_1 l0_1.length c0_1, .slice A0_2 l0_2.length c0_2, .slice A0_3 l0_3.length c0_3, .slice A0_4 l0_4.length c0_4, .int .u64 a0_5] 27 (0, 0)) (by (with_reducible repeat (first | refine blk_drewN ?_ _ | refine blk_drew ?_ | refine blk_alloc ?_ _)); exact BK233.out) hb); have n1_ := Aside0.mk (below_step (by repeat (first | (with_reducible first | exact HB.out | apply below_alloc | apply pw_below_drewN | apply below_drew1 | refine below_set ?_ GE233.out) | exact HB.out)) hb); have n2_ := Aside0.mk (hbox); have n3_ := Aside0.mk ((by rw [hg]; exact (below_size (by repeat (first | (with_reducible first | exact HB.out | apply below_alloc | apply pw_below_drewN | apply below_drew1 | refine below_set ?_ GE233.out) | exact HB.out))) : w.heap.size <= gb235)); have n4_ := Aside0.mk ((by rw [hg]; exact (below_size (by repeat (first | (with_reducible first | exact HB.out | apply below_alloc | apply pw_below_drewN | apply below_drew1 | refine below_set ?_ GE233.out) | exact HB.out))) : w.heap.size <= gb235)); have n5_ := Aside0.mk ((by rw [hg]; exact Nat.ne_of_lt (blk_lt (g := gb233) (o := .cells #[.slice (some ad234) l0_0.length c0_0, .slice A0_1 l0_1.length c0_1, .slice A0_2 l0_2.length c0_2, .slice A0_3 l0_3.length c0_3, .slice A0_4 l0_4.length c0_4, .int .u64 a0_5] 27 (0, 0)) (by (with_reducible repeat (first | refine blk_drewN ?_ _ | refine blk_drew ?_ | refine blk_alloc ?_ _)); exact BK233.out)) : gb233 ≠ gb235)); have n6_ := Aside0.mk ((by rw [hg]; exact Nat.ne_of_gt (blk_lt (g := gb233) (o := .cells #[.slice (some ad234) l0_0.length c0_0, .slice A0_1 l0_1.length c0_1, .slice A0_2 l0_2.length c0_2, .slice A0_3 l0_3.length c0_3, .slice A0_4 l0_4.length c0_4, .int .u64 a0_5] 27 (0, 0)) (by (with_reducible repeat (first | refine blk_drewN ?_ _ | refine blk_drew ?_ | refine blk_alloc ?_ _)); exact BK233.out)) : gb235 ≠ gb233)); clear BK233; clear HB; have BK233 := n0_; have HB := n1_; have BK235 := n2_; have GW235 := n3_; have GE235 := n4_; have NB233_235 := n5_; have NB235_233 := n6_; clear n0_ n1_ n2_ n3_ n4_ n5_ n6_; clear hb hbox hg; have hnb45 := NB235_233.out; have hnc45 := NB233_235.out; have hcz46_0 : w44.cell? ⟨gb235, 0, none⟩ = some (.int .u64 0) := (bkC BK235.out 0).trans rfl; have hcz46_1 : w44.cell? ⟨gb235, 1, none⟩ = some (.int .i64 0) := (bkC BK235.out 1).trans rfl; have hcz46_2 : w44.cell? ⟨gb235, 2, none⟩ = some (.int .i64 0) := (bkC BK235.out 2).trans rfl; have hcz46_3 : w44.cell? ⟨gb235, 3, none⟩ = some (.slice none 0 0) := (bkC BK235.out 3).trans rfl; have hcz46_4 : w44.cell? ⟨gb235, 4, none⟩ = some (.slice none 0 0) := (bkC BK235.out 4).trans rfl; have hfz46_0 := bkF BK235.out 0; have hfz46_1 := bkF BK235.out 1; have hfz46_2 := bkF BK235.out 2; have hfz46_3 := bkF BK235.out 3; have hfz46_4 := bkF BK235.out 4) | ((with_reducible refine gate_callee (f := 118) rfl ?_); refine goesL_ (some 40) rfl rfl Tryd.func118 (by kernel_rfl) rfl #[.agg #[.int .u64 0, .int .i64 ((rd_T59 l0_0 x4_2).f1), .int .i64 (((rd_T59 l0_0 x4_2).f3).length : Int), .int .i64 (((rd_T59 l0_0 x4_2).f4).length : Int), .int .i64 0, .int .i64 ((rd_T59 l0_0 x4_2).f2), .bool false]] rfl (by (try simp only [List.map_toArray, List.map_cons, List.map_nil]); first | done | rfl | (simp only [List.length_drop, List.length_take]; rfl)) ?_; (with_reducible refine (middenref2_Pack.calls k2 0 ((rd_T59 l0_0 x4_2).f1) (((rd_T59 l0_0 x4_2).f3).length : Int) (((rd_T59 l0_0 x4_2).f4).length : Int) 0 ((rd_T59 l0_0 x4_2).f2) false t236 t237 _ A10.out).mono ?_); rintro e w47 ⟨rfl, hb⟩; refine ⟨_, rfl, ?_⟩; have n0_ := Aside0.mk (blk_below (g := gb233) (o := .cells #[.slice (some ad234) l0_0.length c0_0, .slice A0_1 l0_1.length c0_1, .slice A0_2 l0_2.length c0_2, .slice A0_3 l0_3.length c0_3, .slice A0_4 l0_4.length c0_4, .int .u64 a0_5] 27 (0, 0)) (by (with_reducible repeat (first | refine blk_drewN ?_ _ | refine blk_drew ?_ | refine blk_alloc ?_ _)); refine blk_far ?_ NB233_235.out _; (with_reducible repeat (first | refine blk_drewN ?_ _ | refine blk_drew ?_ | refine blk_alloc ?_ _)); refine blk_far ?_ NB233_235.out _; (with_reducible repeat (first | refine blk_drewN ?_ _ | refine blk_drew ?_ | refine blk_alloc ?_ _)); refine blk_far ?_ NB233_235.out _; (with_reducible repeat (first | refine blk_drewN ?_ _ | refine blk_drew ?_ | refine blk_alloc ?_ _)); refine blk_far ?_ NB233_235.out _; (with_reducible repeat (first | refine blk_drewN ?_ _ | refine blk_drew ?_ | refine blk_alloc ?_ _)); refine blk_far ?_ NB233_235.out _; (with_reducible repeat (first | refine blk_drewN ?_ _ | refine blk_drew ?_ | refine blk_alloc ?_ _)); exact BK233.out) hb); have n1_ := Aside0.mk (blk_below (g := gb235) (o := .cells #[.int .u64 ((rd_T59 l0_0 x4_2).f0), .int .i64 ((rd_T59 l0_0 x4_2).f1), .int .i64 ((rd_T59 l0_0 x4_2).f2), .slice A234_3 ((rd_T59 l0_0 x4_2).f3).length c234_3, .slice A234_4 ((rd_T59 l0_0 x4_2).f4).length c234_4] 59 (0, 0)) (by (with_reducible repeat (first | refine blk_drewN ?_ _ | refine blk_drew ?_ | refine blk_alloc ?_ _)); refine blk_put (cs := #[.int .u64 ((rd_T59 l0_0 x4_2).f0), .int .i64 ((rd_T59 l0_0 x4_2).f1), .int .i64 ((rd_T59 l0_0 x4_2).f2), .slice A234_3 ((rd_T59 l0_0 x4_2).f3).length c234_3, .slice none 0 0]) ?_ 4 _ rfl; (with_reducible repeat (first | refine blk_drewN ?_ _ | refine blk_drew ?_ | refine blk_alloc ?_ _)); refine blk_put (cs := #[.int .u64 ((rd_T59 l0_0 x4_2).f0), .int .i64 ((rd_T59 l0_0 x4_2).f1), .int .i64 ((rd_T59 l0_0 x4_2).f2), .slice none 0 0, .slice none 0 0]) ?_ 3 _ rfl; (with_reducible repeat (first | refine blk_drewN ?_ _ | refine blk_drew ?_ | refine blk_alloc ?_ _)); refine blk_put (cs := #[.int .u64 ((rd_T59 l0_0 x4_2).f0), .int .i64 ((rd_T59 l0_0 x4_2).f1), .int .i64 0, .slice none 0 0, .slice none 0 0]) ?_ 2 _ rfl; (with_reducible repeat (first | refine blk_drewN ?_ _ | refine blk_drew ?_ | refine blk_alloc ?_ _)); refine blk_put (cs := #[.int .u64 ((rd_T59 l0_0 x4_2).f0), .int .i64 0, .int .i64 0, .slice none 0 0, .slice none 0 0]) ?_ 1 _ rfl; (with_reducible repeat (first | refine blk_drewN ?_ _ | refine blk_drew ?_ | refine blk_alloc ?_ _)); refine blk_put (cs := #[.int .u64 0, .int .i64 0, .int .i64 0, .slice none 0 0, .slice none 0 0]) ?_ 0 _ rfl; (with_reducible repeat (first | refine blk_drewN ?_ _ | refine blk_drew ?_ | refine blk_alloc ?_ _)); exact BK235.out) hb); have n2_ := Aside0.mk (below_step (by repeat (first | (with_reducible first | exact HB.out | apply below_alloc | apply pw_below_drewN | apply below_drew1 | refine below_set ?_ GE233.out | refine below_set ?_ GE235.out) | exact HB.out)) hb); clear BK233; clear BK235; clear HB; have BK233 := n0_; have BK235 := n1_; have HB := n2_; clear n0_ n1_ n2_; (try clear hb); (try clear hb2); (try clear hk); (try clear hi); have hcz48_0 : w47.cell? ⟨gb235, 0, none⟩ = some (.int .u64 ((rd_T59 l0_0 x4_2).f0)) := (bkC BK235.out 0).trans rfl; have hcz48_1 : w47.cell? ⟨gb235, 1, none⟩ = some (.int .i64 ((rd_T59 l0_0 x4_2).f1)) := (bkC BK235.out 1).trans rfl; have hcz48_2 : w47.cell? ⟨gb235, 2, none⟩ = some (.int .i64 ((rd_T59 l0_0 x4_2).f2)) := (bkC BK235.out 2).trans rfl; have hcz48_3 : w47.cell? ⟨gb235, 3, none⟩ = some (.slice A234_3 ((rd_T59 l0_0 x4_2).f3).length c234_3) := (bkC BK235.out 3).trans rfl; have hcz48_4 : w47.cell? ⟨gb235, 4, none⟩ = some (.slice A234_4 ((rd_T59 l0_0 x4_2).f4).length c234_4) := (bkC BK235.out 4).trans rfl; have hfz48_0 := bkF BK235.out 0; have hfz48_1 := bkF BK235.out 1; have hfz48_2 := bkF BK235.out 2; have hfz48_3 := bkF BK235.out 3; have hfz48_4 := bkF BK235.out 4; have hcz49_0 : w47.cell? ⟨gb233, 0, none⟩ = some (.slice (some ad234) l0_0.length c0_0) := (bkC BK233.out 0).trans rfl; have hcz49_1 : w47.cell? ⟨gb233, 1, none⟩ = some (.slice A0_1 l0_1.length c0_1) := (bkC BK233.out 1).trans rfl; have hcz49_2 : w47.cell? ⟨gb233, 2, none⟩ = some (.slice A0_2 l0_2.length c0_2) := (bkC BK233.out 2).trans rfl; have hcz49_3 : w47.cell? ⟨gb233, 3, none⟩ = some (.slice A0_3 l0_3.length c0_3) := (bkC BK233.out 3).trans rfl; have hcz49_4 : w47.cell? ⟨gb233, 4, none⟩ = some (.slice A0_4 l0_4.length c0_4) := (bkC BK233.out 4).trans rfl; have hcz49_5 : w47.cell? ⟨gb233, 5, none⟩ = some (.int .u64 a0_5) := (bkC BK233.out 5).trans rfl; have hfz49_0 := bkF BK233.out 0; have hfz49_1 := bkF BK233.out 1; have hfz49_2 := bkF BK233.out 2; have hfz49_3 := bkF BK233.out 3; have hfz49_4 := bkF BK233.out 4; have hfz49_5 := bkF BK233.out 5))
           go_ret
           exact ⟨by first | rfl | (simp [errW_none, errW_some] <;> rfl) | (simp [*, errW_none, errW_some] <;> rfl), by repeat (first | (with_reducible first | exact HB.out | apply below_alloc | apply pw_below_drewN | apply below_drew1 | refine below_set ?_ GE233.out | refine below_set ?_ GE235.out) | exact HB.out)⟩
       ·rw [if_neg c9] at H
        exact absurd H (by simp)
      ·rw [if_neg c8] at H
       have c8b0 : decide (x4_2 < (l0_0.length : Int)) = false := decide_eq_false c8
       clear c8
       obtain rfl := Option.some.inj H
       have hcz50_0 : wr.cell? ⟨gb233, 0, none⟩ = some (.slice A0_0 l0_0.length c0_0) := (bkC BK233.out 0).trans rfl
       have hcz50_1 : wr.cell? ⟨gb233, 1, none⟩ = some (.slice A0_1 l0_1.length c0_1) := (bkC BK233.out 1).trans rfl
       have hcz50_2 : wr.cell? ⟨gb233, 2, none⟩ = some (.slice A0_2 l0_2.length c0_2) := (bkC BK233.out 2).trans rfl
       have hcz50_3 : wr.cell? ⟨gb233, 3, none⟩ = some (.slice A0_3 l0_3.length c0_3) := (bkC BK233.out 3).trans rfl
       have hcz50_4 : wr.cell? ⟨gb233, 4, none⟩ = some (.slice A0_4 l0_4.length c0_4) := (bkC BK233.out 4).trans rfl
       have hcz50_5 : wr.cell? ⟨gb233, 5, none⟩ = some (.int .u64 a0_5) := (bkC BK233.out 5).trans rfl
       have hfz50_0 := bkF BK233.out 0
       have hfz50_1 := bkF BK233.out 1
       have hfz50_2 := bkF BK233.out 2
       have hfz50_3 := bkF BK233.out 3
       have hfz50_4 := bkF BK233.out 4
       have hfz50_5 := bkF BK233.out 5
       go_wp2
       go_ret
       exact ⟨by first | rfl | (simp [errW_none, errW_some] <;> rfl) | (simp [*, errW_none, errW_some] <;> rfl), by repeat (first | (with_reducible first | exact HB.out | apply below_alloc | apply pw_below_drewN | apply below_drew1 | refine below_set ?_ GE233.out) | exact HB.out)⟩
end Go.Proofs.YtogpgkoelplknaaDoor.PLensPaths
