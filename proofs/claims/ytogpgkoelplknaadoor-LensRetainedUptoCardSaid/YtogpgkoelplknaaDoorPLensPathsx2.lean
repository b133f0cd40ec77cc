import Derived.Test.YtogpgkoelplknaaDoorPLensPathsx0
import Derived.Test.YtogpgkoelplknaaDoorPLensPathsx1
namespace Go.Proofs.YtogpgkoelplknaaDoor.PLensPaths
open Go.RowKit Go.Proofs.YtogpgkoelplknaaDoorW.PrintWords Go.Proofs.YtogpgkoelplknaaDoorW.PrintLast Go.Proofs.YtogpgkoelplknaaDoorW.PrintMore
attribute [local go_sem] max2_int min2_int max_two min_two max_three min_three max_four min_four
set_option linter.unusedVariables false
set_option linter.unusedSimpArgs false
mutual
def image_holders.j0 : Nat -> Bool -> List (S59) -> List (List (List Int)) -> List Int -> List Int -> List Int -> Int -> Option (Bool)
 | 0, _, _, _, _, _, _, _ => none
 | k + 1, x29, x158000, x158001, x158002, x158003, x158004, x158005 => if x29 = true then (some false) else (image_holders.l0 k x158001 (x158001.length : Int) 0 x158000 x158001 x158002 x158003 x158004 x158005)
def image_holders.l0 : Nat -> List (List (List Int)) -> Int -> Int -> List (S59) -> List (List (List Int)) -> List Int -> List Int -> List Int -> Int -> Option (Bool)
 | 0, _, _, _, _, _, _, _, _, _ => none
 | k + 1, x31, x32, x33, x158000, x158001, x158002, x158003, x158004, x158005 => if x33 < x32 then (if 0 <= x33 then (if x33 < (x31.length : Int) then (image_holders.l1 k 0 x31 x32 x33 (rd_L5 x31 x33) ((rd_L5 x31 x33).length : Int) 0 x158000 x158001 x158002 x158003 x158004 x158005) else (none)) else (none)) else ((image_numbers.f k x158000 x158001 x158002 x158003 x158004 x158005 x158002 (-1)).bind fun t161 => (if t161 = true then ((image_numbers.f k x158000 x158001 x158002 x158003 x158004 x158005 x158004 1).bind fun t162 => (image_holders.j3 k (!t162) x158000 x158001 x158002 x158003 x158004 x158005)) else (image_holders.j3 k true x158000 x158001 x158002 x158003 x158004 x158005)))
def image_holders.l1 : Nat -> Int -> List (List (List Int)) -> Int -> Int -> List (List Int) -> Int -> Int -> List (S59) -> List (List (List Int)) -> List Int -> List Int -> List Int -> Int -> Option (Bool)
 | 0, _, _, _, _, _, _, _, _, _, _, _, _, _ => none
 | k + 1, x5, x31, x32, x33, x37, x38, x39, x158000, x158001, x158002, x158003, x158004, x158005 => if x39 < x38 then (if 0 <= x39 then (if x39 < (x37.length : Int) then (if ((rd_L2 x37 x39).length : Int) < 1 then (some false) else ((image_numbers.f k x158000 x158001 x158002 x158003 x158004 x158005 (rd_L2 x37 x39) 0).bind fun t160 => (if t160 = true then (image_holders.l1 k (wrap64 (x5 + ((rd_L2 x37 x39).length : Int))) x31 x32 x33 x37 x38 (wrap64 (x39 + 1)) x158000 x158001 x158002 x158003 x158004 x158005) else (some false)))) else (none)) else (none)) else (if x5 > 4096 then (some false) else (image_holders.l0 k x31 x32 (wrap64 (x33 + 1)) x158000 x158001 x158002 x158003 x158004 x158005))
def image_holders.j3 : Nat -> Bool -> List (S59) -> List (List (List Int)) -> List Int -> List Int -> List Int -> Int -> Option (Bool)
 | 0, _, _, _, _, _, _, _ => none
 | k + 1, x71, x158000, x158001, x158002, x158003, x158004, x158005 => if x71 = true then (some false) else ((image_registry.f k x158000 x158001 x158002 x158003 x158004 x158005).bind fun t163 => (if (t163.length : Int) = (x158003.length : Int) then (image_holders.l2 k t163 (t163.length : Int) 0 x158000 x158001 x158002 x158003 x158004 x158005) else (some false)))
def image_holders.l2 : Nat -> List Int -> Int -> Int -> List (S59) -> List (List (List Int)) -> List Int -> List Int -> List Int -> Int -> Option (Bool)
 | 0, _, _, _, _, _, _, _, _, _ => none
 | k + 1, x80, x81, x82, x158000, x158001, x158002, x158003, x158004, x158005 => if x82 < x81 then (if 0 <= x82 then (if x82 < (x80.length : Int) then (if x82 < (x158003.length : Int) then (if (rd x158003 x82) = (rd x80 x82) then (image_holders.l2 k x80 x81 (wrap64 (x82 + 1)) x158000 x158001 x158002 x158003 x158004 x158005) else (some false)) else (none)) else (none)) else (none)) else (if 0 <= (wrap64 ((x158000.length : Int) + 1)) then (if (wrap64 ((x158000.length : Int) + 1) : Int).toNat <= 281474976710656 then (image_holders.l3 k (List.replicate (wrap64 ((x158000.length : Int) + 1) : Int).toNat false) x158004 (x158004.length : Int) 0 x158000 x158001 x158002 x158003 x158004 x158005) else (none)) else (none))
def image_holders.l3 : Nat -> List Bool -> List Int -> Int -> Int -> List (S59) -> List (List (List Int)) -> List Int -> List Int -> List Int -> Int -> Option (Bool)
 | 0, _, _, _, _, _, _, _, _, _, _ => none
 | k + 1, x11, x101, x102, x103, x158000, x158001, x158002, x158003, x158004, x158005 => if x103 < x102 then (if 0 <= x103 then (if x103 < (x101.length : Int) then (if 0 <= (rd x101 x103) then (if (rd x101 x103) < (x11.length : Int) then (if rdOf false x11 (rd x101 x103) = true then (some false) else (if 0 <= (wrap64 ((rd x101 x103) - 1)) then (if (wrap64 ((rd x101 x103) - 1)) < (x158000.length : Int) then (if ((rd_T59 x158000 (wrap64 ((rd x101 x103) - 1))).f1) = 4 then (some false) else (image_holders.l3 k (x11.set ((rd x101 x103) : Int).toNat true) x101 x102 (wrap64 (x103 + 1)) x158000 x158001 x158002 x158003 x158004 x158005)) else (none)) else (none))) else (none)) else (none)) else (none)) else (none)) else (some true)
end
def image_holders.f (k : Nat) (l0_0 : List (S59)) (l0_1 : List (List (List Int))) (l0_2 : List Int) (l0_3 : List Int) (l0_4 : List Int) (a0_5 : Int) : Option (Bool) := if (l0_1.length : Int) < 1 then (image_holders.j0 k true l0_0 l0_1 l0_2 l0_3 l0_4 a0_5) else (if (l0_1.length : Int) > 8 then (image_holders.j0 k true l0_0 l0_1 l0_2 l0_3 l0_4 a0_5) else (image_holders.j0 k (decide ((l0_2.length : Int) > 1024)) l0_0 l0_1 l0_2 l0_3 l0_4 a0_5))
theorem image_holders.mono_l : ∀ k, (∀ y0 y1 y2 y3 y4 y5 y6, LeO (image_holders.j0 k y0 y1 y2 y3 y4 y5 y6) (image_holders.j0 (k + 1) y0 y1 y2 y3 y4 y5 y6)) /\ (∀ y0 y1 y2 y3 y4 y5 y6 y7 y8, LeO (image_holders.l0 k y0 y1 y2 y3 y4 y5 y6 y7 y8) (image_holders.l0 (k + 1) y0 y1 y2 y3 y4 y5 y6 y7 y8)) /\ (∀ y0 y1 y2 y3 y4 y5 y6 y7 y8 y9 y10 y11 y12, LeO (image_holders.l1 k y0 y1 y2 y3 y4 y5 y6 y7 y8 y9 y10 y11 y12) (image_holders.l1 (k + 1) y0 y1 y2 y3 y4 y5 y6 y7 y8 y9 y10 y11 y12)) /\ (∀ y0 y1 y2 y3 y4 y5 y6, LeO (image_holders.j3 k y0 y1 y2 y3 y4 y5 y6) (image_holders.j3 (k + 1) y0 y1 y2 y3 y4 y5 y6)) /\ (∀ y0 y1 y2 y3 y4 y5 y6 y7 y8, LeO (image_holders.l2 k y0 y1 y2 y3 y4 y5 y6 y7 y8) (image_holders.l2 (k + 1) y0 y1 y2 y3 y4 y5 y6 y7 y8)) /\ (∀ y0 y1 y2 y3 y4 y5 y6 y7 y8 y9, LeO (image_holders.l3 k y0 y1 y2 y3 y4 y5 y6 y7 y8 y9) (image_holders.l3 (k + 1) y0 y1 y2 y3 y4 y5 y6 y7 y8 y9))
 | 0 => ⟨fun _ _ _ _ _ _ _ r h => by simp [image_holders.j0] at h, fun _ _ _ _ _ _ _ _ _ r h => by simp [image_holders.l0] at h, fun _ _ _ _ _ _ _ _ _ _ _ _ _ r h => by simp [image_holders.l1] at h, fun _ _ _ _ _ _ _ r h => by simp [image_holders.j3] at h, fun _ _ _ _ _ _ _ _ _ r h => by simp [image_holders.l2] at h, fun _ _ _ _ _ _ _ _ _ _ r h => by simp [image_holders.l3] at h⟩
 | k + 1 => by
  obtain ⟨ih0, ih1, ih2, ih3, ih4, ih5⟩ := image_holders.mono_l k
  refine ⟨?_, ?_, ?_, ?_, ?_, ?_⟩
  ·intro y0 y1 y2 y3 y4 y5 y6
   unfold image_holders.j0
   repeat' first
   | (with_reducible first | exact ih0 _ _ _ _ _ _ _ | exact ih1 _ _ _ _ _ _ _ _ _ | exact ih2 _ _ _ _ _ _ _ _ _ _ _ _ _ | exact ih3 _ _ _ _ _ _ _ | exact ih4 _ _ _ _ _ _ _ _ _ | exact ih5 _ _ _ _ _ _ _ _ _ _ | exact image_numbers.mono _ _ _ _ _ _ _ _ _ | exact image_registry.mono _ _ _ _ _ _ _ | exact LeO.refl _ | exact LeO.none _ | refine LeO.ite ?_ ?_ | refine LeO.bind ?_ (fun _ => ?_))
   | exact ih0 _ _ _ _ _ _ _
   | exact ih1 _ _ _ _ _ _ _ _ _
   | exact ih2 _ _ _ _ _ _ _ _ _ _ _ _ _
   | exact ih3 _ _ _ _ _ _ _
   | exact ih4 _ _ _ _ _ _ _ _ _
   | exact ih5 _ _ _ _ _ _ _ _ _ _
   | exact image_numbers.mono _ _ _ _ _ _ _ _ _
   | exact image_registry.mono _ _ _ _ _ _ _
   | exact LeO.none _
   | refine LeO.ite ?_ ?_
   | refine LeO.bind ?_ (fun _ => ?_)
  ·intro y0 y1 y2 y3 y4 y5 y6 y7 y8
   unfold image_holders.l0
   repeat' first
   | (with_reducible first | exact ih0 _ _ _ _ _ _ _ | exact ih1 _ _ _ _ _ _ _ _ _ | exact ih2 _ _ _ _ _ _ _ _ _ _ _ _ _ | exact ih3 _ _ _ _ _ _ _ | exact ih4 _ _ _ _ _ _ _ _ _ | exact ih5 _ _ _ _ _ _ _ _ _ _ | exact image_numbers.mono _ _ _ _ _ _ _ _ _ | exact image_registry.mono _ _ _ _ _ _ _ | exact LeO.refl _ | exact LeO.none _ | refine LeO.ite ?_ ?_ | refine LeO.bind ?_ (fun _ => ?_))
   | exact ih0 _ _ _ _ _ _ _
   | exact ih1 _ _ _ _ _ _ _ _ _
   | exact ih2 _ _ _ _ _ _ _ _ _ _ _ _ _
   | exact ih3 _ _ _ _ _ _ _
   | exact ih4 _ _ _ _ _ _ _ _ _
   | exact ih5 _ _ _ _ _ _ _ _ _ _
   | exact image_numbers.mono _ _ _ _ _ _ _ _ _
   | exact image_registry.mono _ _ _ _ _ _ _
   | exact LeO.none _
   | refine LeO.ite ?_ ?_
   | refine LeO.bind ?_ (fun _ => ?_)
  ·intro y0 y1 y2 y3 y4 y5 y6 y7 y8 y9 y10 y11 y12
   unfold image_holders.l1
   repeat' first
   | (with_reducible first | exact ih0 _ _ _ _ _ _ _ | exact ih1 _ _ _ _ _ _ _ _ _ | exact ih2 _ _ _ _ _ _ _ _ _ _ _ _ _ | exact ih3 _ _ _ _ _ _ _ | exact ih4 _ _ _ _ _ _ _ _ _ | exact ih5 _ _ _ _ _ _ _ _ _ _ | exact image_numbers.mono _ _ _ _ _ _ _ _ _ | exact image_registry.mono _ _ _ _ _ _ _ | exact LeO.refl _ | exact LeO.none _ | refine LeO.ite ?_ ?_ | refine LeO.bind ?_ (fun _ => ?_))
   | exact ih0 _ _ _ _ _ _ _
   | exact ih1 _ _ _ _ _ _ _ _ _
   | exact ih2 _ _ _ _ _ _ _ _ _ _ _ _ _
   | exact ih3 _ _ _ _ _ _ _
   | exact ih4 _ _ _ _ _ _ _ _ _
   | exact ih5 _ _ _ _ _ _ _ _ _ _
   | exact image_numbers.mono _ _ _ _ _ _ _ _ _
   | exact image_registry.mono _ _ _ _ _ _ _
   | exact LeO.none _
   | refine LeO.ite ?_ ?_
   | refine LeO.bind ?_ (fun _ => ?_)
  ·intro y0 y1 y2 y3 y4 y5 y6
   unfold image_holders.j3
   repeat' first
   | (with_reducible first | exact ih0 _ _ _ _ _ _ _ | exact ih1 _ _ _ _ _ _ _ _ _ | exact ih2 _ _ _ _ _ _ _ _ _ _ _ _ _ | exact ih3 _ _ _ _ _ _ _ | exact ih4 _ _ _ _ _ _ _ _ _ | exact ih5 _ _ _ _ _ _ _ _ _ _ | exact image_numbers.mono _ _ _ _ _ _ _ _ _ | exact image_registry.mono _ _ _ _ _ _ _ | exact LeO.refl _ | exact LeO.none _ | refine LeO.ite ?_ ?_ | refine LeO.bind ?_ (fun _ => ?_))
   | exact ih0 _ _ _ _ _ _ _
   | exact ih1 _ _ _ _ _ _ _ _ _
   | exact ih2 _ _ _ _ _ _ _ _ _ _ _ _ _
   | exact ih3 _ _ _ _ _ _ _
   | exact ih4 _ _ _ _ _ _ _ _ _
   | exact ih5 _ _ _ _ _ _ _ _ _ _
   | exact image_numbers.mono _ _ _ _ _ _ _ _ _
   | exact image_registry.mono _ _ _ _ _ _ _
   | exact LeO.none _
   | refine LeO.ite ?_ ?_
   | refine LeO.bind ?_ (fun _ => ?_)
  ·intro y0 y1 y2 y3 y4 y5 y6 y7 y8
   unfold image_holders.l2
   repeat' first
   | (with_reducible first | exact ih0 _ _ _ _ _ _ _ | exact ih1 _ _ _ _ _ _ _ _ _ | exact ih2 _ _ _ _ _ _ _ _ _ _ _ _ _ | exact ih3 _ _ _ _ _ _ _ | exact ih4 _ _ _ _ _ _ _ _ _ | exact ih5 _ _ _ _ _ _ _ _ _ _ | exact image_numbers.mono _ _ _ _ _ _ _ _ _ | exact image_registry.mono _ _ _ _ _ _ _ | exact LeO.refl _ | exact LeO.none _ | refine LeO.ite ?_ ?_ | refine LeO.bind ?_ (fun _ => ?_))
   | exact ih0 _ _ _ _ _ _ _
   | exact ih1 _ _ _ _ _ _ _ _ _
   | exact ih2 _ _ _ _ _ _ _ _ _ _ _ _ _
   | exact ih3 _ _ _ _ _ _ _
   | exact ih4 _ _ _ _ _ _ _ _ _
   | exact ih5 _ _ _ _ _ _ _ _ _ _
   | exact image_numbers.mono _ _ _ _ _ _ _ _ _
   | exact image_registry.mono _ _ _ _ _ _ _
   | exact LeO.none _
   | refine LeO.ite ?_ ?_
   | refine LeO.bind ?_ (fun _ => ?_)
  ·intro y0 y1 y2 y3 y4 y5 y6 y7 y8 y9
   unfold image_holders.l3
   repeat' first
   | (with_reducible first | exact ih0 _ _ _ _ _ _ _ | exact ih1 _ _ _ _ _ _ _ _ _ | exact ih2 _ _ _ _ _ _ _ _ _ _ _ _ _ | exact ih3 _ _ _ _ _ _ _ | exact ih4 _ _ _ _ _ _ _ _ _ | exact ih5 _ _ _ _ _ _ _ _ _ _ | exact image_numbers.mono _ _ _ _ _ _ _ _ _ | exact image_registry.mono _ _ _ _ _ _ _ | exact LeO.refl _ | exact LeO.none _ | refine LeO.ite ?_ ?_ | refine LeO.bind ?_ (fun _ => ?_))
   | exact ih0 _ _ _ _ _ _ _
   | exact ih1 _ _ _ _ _ _ _ _ _
   | exact ih2 _ _ _ _ _ _ _ _ _ _ _ _ _
   | exact ih3 _ _ _ _ _ _ _
   | exact ih4 _ _ _ _ _ _ _ _ _
   | exact ih5 _ _ _ _ _ _ _ _ _ _
   | exact image_numbers.mono _ _ _ _ _ _ _ _ _
   | exact image_registry.mono _ _ _ _ _ _ _
   | exact LeO.none _
   | refine LeO.ite ?_ ?_
   | refine LeO.bind ?_ (fun _ => ?_)
theorem image_holders.mono : ∀ a0 a1 a2 a3 a4 a5 k, LeO (image_holders.f k a0 a1 a2 a3 a4 a5) (image_holders.f (k + 1) a0 a1 a2 a3 a4 a5) := by
 intro a0 a1 a2 a3 a4 a5 k
 obtain ⟨ih0, ih1, ih2, ih3, ih4, ih5⟩ := image_holders.mono_l k
 unfold image_holders.f
 repeat' first
   | (with_reducible first | exact ih0 _ _ _ _ _ _ _ | exact ih1 _ _ _ _ _ _ _ _ _ | exact ih2 _ _ _ _ _ _ _ _ _ _ _ _ _ | exact ih3 _ _ _ _ _ _ _ | exact ih4 _ _ _ _ _ _ _ _ _ | exact ih5 _ _ _ _ _ _ _ _ _ _ | exact image_numbers.mono _ _ _ _ _ _ _ _ _ | exact image_registry.mono _ _ _ _ _ _ _ | exact LeO.refl _ | exact LeO.none _ | refine LeO.ite ?_ ?_ | refine LeO.bind ?_ (fun _ => ?_))
   | exact ih0 _ _ _ _ _ _ _
   | exact ih1 _ _ _ _ _ _ _ _ _
   | exact ih2 _ _ _ _ _ _ _ _ _ _ _ _ _
   | exact ih3 _ _ _ _ _ _ _
   | exact ih4 _ _ _ _ _ _ _ _ _
   | exact ih5 _ _ _ _ _ _ _ _ _ _
   | exact image_numbers.mono _ _ _ _ _ _ _ _ _
   | exact image_registry.mono _ _ _ _ _ _ _
   | exact LeO.none _
   | refine LeO.ite ?_ ?_
   | refine LeO.bind ?_ (fun _ => ?_)
set_option maxHeartbeats 8000000 in
set_option maxRecDepth 100000 in
theorem image_holders.calls (k : Nat) (A0_0 : Option Addr) (c0_0 : Nat) (l0_0 : List (S59)) (A0_1 : Option Addr) (c0_1 : Nat) (l0_1 : List (List (List Int))) (A0_2 : Option Addr) (c0_2 : Nat) (l0_2 : List Int) (A0_3 : Option Addr) (c0_3 : Nat) (l0_3 : List Int) (A0_4 : Option Addr) (c0_4 : Nat) (l0_4 : List Int) (a0_5 : Int) (r : Bool) (w : World) (hr0_0 : Kd.C k59 w A0_0 l0_0.length l0_0) (hc0_0 : l0_0.length <= c0_0) (hr0_1 : Kd.C (Kd.slice 24 (Kd.slice 3 (Kd.int .i64))) w A0_1 l0_1.length l0_1) (hc0_1 : l0_1.length <= c0_1) (hr0_2 : Kd.C (Kd.int .i64) w A0_2 l0_2.length l0_2) (hc0_2 : l0_2.length <= c0_2) (hr0_3 : Kd.C (Kd.int .i64) w A0_3 l0_3.length l0_3) (hc0_3 : l0_3.length <= c0_3) (hr0_4 : Kd.C (Kd.int .i64) w A0_4 l0_4.length l0_4) (hc0_4 : l0_4.length <= c0_4) (h : image_holders.f k l0_0 l0_1 l0_2 l0_3 l0_4 a0_5 = some r) :
  Calls Tryd.prog 78 #[.agg #[.slice A0_0 l0_0.length c0_0, .slice A0_1 l0_1.length c0_1, .slice A0_2 l0_2.length c0_2, .slice A0_3 l0_3.length c0_3, .slice A0_4 l0_4.length c0_4, .int .u64 a0_5]] w fun e w' => e = .returned (.bool r) /\ Below w.heap.size w w' := by
 have hu27 := Tryd.underlying27
 have HR0_0 := Aside0.mk hr0_0
 have HC0_0 := Aside0.mk hc0_0
 clear hr0_0 hc0_0
 have HR0_1 := Aside0.mk hr0_1
 have HC0_1 := Aside0.mk hc0_1
 clear hr0_1 hc0_1
 have HR0_2 := Aside0.mk hr0_2
 have HC0_2 := Aside0.mk hc0_2
 clear hr0_2 hc0_2
 have HR0_3 := Aside0.mk hr0_3
 have HC0_3 := Aside0.mk hc0_3
 clear hr0_3 hc0_3
 have HR0_4 := Aside0.mk hr0_4
 have HC0_4 := Aside0.mk hc0_4
 clear hr0_4 hc0_4
 have HB := Aside0.mk (Below.refl w.heap.size w)
 have H : (if (l0_1.length : Int) < 1 then (image_holders.j0 k true l0_0 l0_1 l0_2 l0_3 l0_4 a0_5) else (if (l0_1.length : Int) > 8 then (image_holders.j0 k true l0_0 l0_1 l0_2 l0_3 l0_4 a0_5) else (image_holders.j0 k (decide ((l0_2.length : Int) > 1024)) l0_0 l0_1 l0_2 l0_3 l0_4 a0_5))) = some r := h
 clear h
 have HC2 := Aside0.mk H
 clear H
 go_enter Tryd.func78, Tryd.ntmps78
 go_upto_region 1 with (first | ((with_reducible refine gate_dst (N := 1) rfl ?_); (try (refine gate_guard (by rfl) ?_; dsimp only)); refine box_event ?hg (N := 1) ?hd (cs := #[.slice A0_0 l0_0.length c0_0, .slice A0_1 l0_1.length c0_1, .slice A0_2 l0_2.length c0_2, .slice A0_3 l0_3.length c0_3, .slice A0_4 l0_4.length c0_4, .int .u64 a0_5]) (t := 27) ?hr ?_; (case hd => rfl); (case hg => rfl); (case hr => first | (go_simp; done) | (go_simp; rfl)); intro gb157 hg w3 hbox hb; have n0_ := Aside0.mk (below_step (by repeat (first | (with_reducible first | exact HB.out | apply below_alloc | apply pw_below_drewN | apply below_drew1) | exact HB.out)) hb); have n1_ := Aside0.mk (hbox); have n2_ := Aside0.mk ((by rw [hg]; exact (below_size (by repeat (first | (with_reducible first | exact HB.out | apply below_alloc | apply pw_below_drewN | apply below_drew1) | exact HB.out))) : w.heap.size <= gb157)); have n3_ := Aside0.mk ((by rw [hg]; exact (below_size (by repeat (first | (with_reducible first | exact HB.out | apply below_alloc | apply pw_below_drewN | apply below_drew1) | exact HB.out))) : w.heap.size <= gb157)); clear HB; have HB := n0_; have BK157 := n1_; have GW157 := n2_; have GE157 := n3_; clear n0_ n1_ n2_ n3_; clear hb hbox hg))
 (try simp only [Act.put, List.setIfInBounds_toArray, List.set_cons_zero, List.set_cons_succ])
 go_cut [29] (fun v29 wc => ∃ (kq : Nat) (x29_1 : Bool), v29 = .bool x29_1 /\ Aside0 (image_holders.j0 kq x29_1 l0_0 l0_1 l0_2 l0_3 l0_4 a0_5 = some r) /\ Aside0 (kq <= k) /\ Aside0 (wc.heap[gb157]? = some (.cells #[(.slice A0_0 l0_0.length c0_0), (.slice A0_1 l0_1.length c0_1), (.slice A0_2 l0_2.length c0_2), (.slice A0_3 l0_3.length c0_3), (.slice A0_4 l0_4.length c0_4), .int .u64 a0_5] 27 (0, 0))) /\ Aside0 (Below w.heap.size w wc))
 case first =>
  have H := HC2.out
  clear HC2
  by_cases c4 : (l0_1.length : Int) < 1
  ·rw [if_pos c4] at H
   have c4b0 : decide ((l0_1.length : Int) < 1) = true := decide_eq_true c4
   have c4b1 : decide (l0_1.length < 1) = true := decide_eq_true (by omega)
   clear c4
   (first | rw [c4b0] | (simp only [i64_w, i32_w]; rw [c4b0]) | skip)
   have H' := Aside0.mk H
   clear H
   have hcz5_0 : w3.cell? ⟨gb157, 0, none⟩ = some (.slice A0_0 l0_0.length c0_0) := (bkC BK157.out 0).trans rfl
   have hcz5_1 : w3.cell? ⟨gb157, 1, none⟩ = some (.slice A0_1 l0_1.length c0_1) := (bkC BK157.out 1).trans rfl
   have hcz5_2 : w3.cell? ⟨gb157, 2, none⟩ = some (.slice A0_2 l0_2.length c0_2) := (bkC BK157.out 2).trans rfl
   have hcz5_3 : w3.cell? ⟨gb157, 3, none⟩ = some (.slice A0_3 l0_3.length c0_3) := (bkC BK157.out 3).trans rfl
   have hcz5_4 : w3.cell? ⟨gb157, 4, none⟩ = some (.slice A0_4 l0_4.length c0_4) := (bkC BK157.out 4).trans rfl
   have hcz5_5 : w3.cell? ⟨gb157, 5, none⟩ = some (.int .u64 a0_5) := (bkC BK157.out 5).trans rfl
   have hfz5_0 := bkF BK157.out 0
   have hfz5_1 := bkF BK157.out 1
   have hfz5_2 := bkF BK157.out 2
   have hfz5_3 := bkF BK157.out 3
   have hfz5_4 := bkF BK157.out 4
   have hfz5_5 := bkF BK157.out 5
   go_wp2
   go_meet
   case rel => exact ⟨_, (true), (by first | rfl | (simp; done) | (simp [*]; done)), H', ⟨by first | omega | exact Nat.le_refl _⟩, ⟨by (with_reducible repeat (first | refine blk_drewN ?_ _ | refine blk_drew ?_ | refine blk_alloc ?_ _)); exact BK157.out⟩, ⟨by repeat (first | (with_reducible first | exact HB.out | apply below_alloc | apply pw_below_drewN | apply below_drew1 | refine below_set ?_ GE157.out) | exact HB.out)⟩⟩
  ·rw [if_neg c4] at H
   have c4b0 : decide ((l0_1.length : Int) < 1) = false := decide_eq_false c4
   have c4b1 : decide (l0_1.length < 1) = false := decide_eq_false (by omega)
   clear c4
   (first | rw [c4b0] | (simp only [i64_w, i32_w]; rw [c4b0]) | skip)
   by_cases c6 : (l0_1.length : Int) > 8
   ·rw [if_pos c6] at H
    have c6b0 : decide (8 < (l0_1.length : Int)) = true := decide_eq_true c6
    have c6b1 : decide (8 < l0_1.length) = true := decide_eq_true (by omega)
    clear c6
    have H' := Aside0.mk H
    clear H
    have hcz7_0 : w3.cell? ⟨gb157, 0, none⟩ = some (.slice A0_0 l0_0.length c0_0) := (bkC BK157.out 0).trans rfl
    have hcz7_1 : w3.cell? ⟨gb157, 1, none⟩ = some (.slice A0_1 l0_1.length c0_1) := (bkC BK157.out 1).trans rfl
    have hcz7_2 : w3.cell? ⟨gb157, 2, none⟩ = some (.slice A0_2 l0_2.length c0_2) := (bkC BK157.out 2).trans rfl
    have hcz7_3 : w3.cell? ⟨gb157, 3, none⟩ = some (.slice A0_3 l0_3.length c0_3) := (bkC BK157.out 3).trans rfl
    have hcz7_4 : w3.cell? ⟨gb157, 4, none⟩ = some (.slice A0_4 l0_4.length c0_4) := (bkC BK157.out 4).trans rfl
    have hcz7_5 : w3.cell? ⟨gb157, 5, none⟩ = some (.int .u64 a0_5) := (bkC BK157.out 5).trans rfl
    have hfz7_0 := bkF BK157.out 0
    have hfz7_1 := bkF BK157.out 1
    have hfz7_2 := bkF BK157.out 2
    have hfz7_3 := bkF BK157.out 3
    have hfz7_4 := bkF BK157.out 4
    have hfz7_5 := bkF BK157.out 5
    go_wp2
    go_meet
    case rel => exact ⟨_, (true), (by first | rfl | (simp; done) | (simp [*]; done)), H', ⟨by first | omega | exact Nat.le_refl _⟩, ⟨by (with_reducible repeat (first | refine blk_drewN ?_ _ | refine blk_drew ?_ | refine blk_alloc ?_ _)); exact BK157.out⟩, ⟨by repeat (first | (with_reducible first | exact HB.out | apply below_alloc | apply pw_below_drewN | apply below_drew1 | refine below_set ?_ GE157.out) | exact HB.out)⟩⟩
   ·rw [if_neg c6] at H
    have c6b0 : decide (8 < (l0_1.length : Int)) = false := decide_eq_false c6
    have c6b1 : decide (8 < l0_1.length) = false := decide_eq_false (by omega)
    clear c6
    have H' := Aside0.mk H
    clear H
    have hcz8_0 : w3.cell? ⟨gb157, 0, none⟩ = some (.slice A0_0 l0_0.length c0_0) := (bkC BK157.out 0).trans rfl
    have hcz8_1 : w3.cell? ⟨gb157, 1, none⟩ = some (.slice A0_1 l0_1.length c0_1) := (bkC BK157.out 1).trans rfl
    have hcz8_2 : w3.cell? ⟨gb157, 2, none⟩ = some (.slice A0_2 l0_2.length c0_2) := (bkC BK157.out 2).trans rfl
    have hcz8_3 : w3.cell? ⟨gb157, 3, none⟩ = some (.slice A0_3 l0_3.length c0_3) := (bkC BK157.out 3).trans rfl
    have hcz8_4 : w3.cell? ⟨gb157, 4, none⟩ = some (.slice A0_4 l0_4.length c0_4) := (bkC BK157.out 4).trans rfl
    have hcz8_5 : w3.cell? ⟨gb157, 5, none⟩ = some (.int .u64 a0_5) := (bkC BK157.out 5).trans rfl
    have hfz8_0 := bkF BK157.out 0
    have hfz8_1 := bkF BK157.out 1
    have hfz8_2 := bkF BK157.out 2
    have hfz8_3 := bkF BK157.out 3
    have hfz8_4 := bkF BK157.out 4
    have hfz8_5 := bkF BK157.out 5
    go_wp2
    go_meet
    case rel => exact ⟨_, (decide ((l0_2.length : Int) > 1024)), (by first | rfl | (simp; done) | (simp [*]; done)), H', ⟨by first | omega | exact Nat.le_refl _⟩, ⟨by (with_reducible repeat (first | refine blk_drewN ?_ _ | refine blk_drew ?_ | refine blk_alloc ?_ _)); exact BK157.out⟩, ⟨by repeat (first | (with_reducible first | exact HB.out | apply below_alloc | apply pw_below_drewN | apply below_drew1 | refine below_set ?_ GE157.out) | exact HB.out)⟩⟩
 case rest =>
  clear HC2
  try clear p2;try clear c4;try clear c4b0;try clear c4b1;try clear c6;try clear c6b0;try clear c6b1;try clear c7;try clear hcz5_0;try clear hcz5_1;try clear hcz5_2;try clear hcz5_3;try clear hcz5_4;try clear hcz5_5;try clear hcz7_0;try clear hcz7_1;try clear hcz7_2;try clear hcz7_3;try clear hcz7_4;try clear hcz7_5;try clear hcz8_0;try clear hcz8_1;try clear hcz8_2;try clear hcz8_3;try clear hcz8_4;try clear hcz8_5;try clear hfz5_0;try clear hfz5_1;try clear hfz5_2;try clear hfz5_3;try clear hfz5_4;try clear hfz5_5;try clear hfz7_0;try clear hfz7_1;try clear hfz7_2;try clear hfz7_3;try clear hfz7_4;try clear hfz7_5;try clear hfz8_0;try clear hfz8_1;try clear hfz8_2;try clear hfz8_3;try clear hfz8_4;try clear hfz8_5
  obtain ⟨kq, x29_1, rfl, HA, HJ1, BK157, HB⟩ := hcut
  cases kq with
  | zero => exact absurd HA.out (by simp [image_holders.j0])
  | succ kj1 =>
   have H := HA.out
   clear HA
   simp only [image_holders.j0] at H
   by_cases c9 : x29_1 = true
   ·subst c9
    have H1 : (some false) = some r := by rw [if_pos rfl] at H; exact H
    clear H
    have H := H1
    clear H1
    obtain rfl := Option.some.inj H
    go_wp2
    go_ret
    exact ⟨by first | rfl | (simp [errW_none, errW_some] <;> rfl) | (simp [*, errW_none, errW_some] <;> rfl), by repeat (first | (with_reducible first | exact HB.out | apply below_alloc | apply pw_below_drewN | apply below_drew1 | refine below_set ?_ GE157.out) | exact HB.out)⟩
   ·replace c9 := Bool.eq_false_iff.mpr c9
    subst c9
    have H1 : (image_holders.l0 kj1 l0_1 (l0_1.length : Int) 0 l0_0 l0_1 l0_2 l0_3 l0_4 a0_5) = some r := by rw [if_neg (show ¬ (false = true) by decide)] at H; exact H
    clear H
    have H := H1
    clear H1
    have H' := Aside0.mk H
    clear H
    have hcz10_0 : wc.cell? ⟨gb157, 0, none⟩ = some (.slice A0_0 l0_0.length c0_0) := (bkC BK157.out 0).trans rfl
    have hcz10_1 : wc.cell? ⟨gb157, 1, none⟩ = some (.slice A0_1 l0_1.length c0_1) := (bkC BK157.out 1).trans rfl
    have hcz10_2 : wc.cell? ⟨gb157, 2, none⟩ = some (.slice A0_2 l0_2.length c0_2) := (bkC BK157.out 2).trans rfl
    have hcz10_3 : wc.cell? ⟨gb157, 3, none⟩ = some (.slice A0_3 l0_3.length c0_3) := (bkC BK157.out 3).trans rfl
    have hcz10_4 : wc.cell? ⟨gb157, 4, none⟩ = some (.slice A0_4 l0_4.length c0_4) := (bkC BK157.out 4).trans rfl
    have hcz10_5 : wc.cell? ⟨gb157, 5, none⟩ = some (.int .u64 a0_5) := (bkC BK157.out 5).trans rfl
    have hfz10_0 := bkF BK157.out 0
    have hfz10_1 := bkF BK157.out 1
    have hfz10_2 := bkF BK157.out 2
    have hfz10_3 := bkF BK157.out 3
    have hfz10_4 := bkF BK157.out 4
    have hfz10_5 := bkF BK157.out 5
    go_wp2
    go_loopg [33] kj1 (fun kq v33 w' => ∃ (x33_2 : Int), v33 = .int .i64 x33_2 /\ Aside0 (image_holders.l0 kq l0_1 (l0_1.length : Int) x33_2 l0_0 l0_1 l0_2 l0_3 l0_4 a0_5 = some r) /\ Aside0 (kq <= kj1) /\ Aside0 (w'.heap[gb157]? = some (.cells #[(.slice A0_0 l0_0.length c0_0), (.slice A0_1 l0_1.length c0_1), (.slice A0_2 l0_2.length c0_2), (.slice A0_3 l0_3.length c0_3), (.slice A0_4 l0_4.length c0_4), .int .u64 a0_5] 27 (0, 0))) /\ Aside0 (Below w.heap.size w w'))
    case atStart => exact ⟨(0), (by first | rfl | (simp; done) | (simp [*]; done)), H', ⟨Nat.le_refl _⟩, ⟨by (with_reducible repeat (first | refine blk_drewN ?_ _ | refine blk_drew ?_ | refine blk_alloc ?_ _)); exact BK157.out⟩, ⟨by repeat (first | (with_reducible first | exact HB.out | apply below_alloc | apply pw_below_drewN | apply below_drew1 | refine below_set ?_ GE157.out) | exact HB.out)⟩⟩
    case round =>
     clear H'
     try clear p2;try clear c4;try clear c4b0;try clear c4b1;try clear c6;try clear c6b0;try clear c6b1;try clear c7;try clear c9;try clear hcz10_0;try clear hcz10_1;try clear hcz10_2;try clear hcz10_3;try clear hcz10_4;try clear hcz10_5;try clear hcz5_0;try clear hcz5_1;try clear hcz5_2;try clear hcz5_3;try clear hcz5_4;try clear hcz5_5;try clear hcz7_0;try clear hcz7_1;try clear hcz7_2;try clear hcz7_3;try clear hcz7_4;try clear hcz7_5;try clear hcz8_0;try clear hcz8_1;try clear hcz8_2;try clear hcz8_3;try clear hcz8_4;try clear hcz8_5;try clear hfz10_0;try clear hfz10_1;try clear hfz10_2;try clear hfz10_3;try clear hfz10_4;try clear hfz10_5;try clear hfz5_0;try clear hfz5_1;try clear hfz5_2;try clear hfz5_3;try clear hfz5_4;try clear hfz5_5;try clear hfz7_0;try clear hfz7_1;try clear hfz7_2;try clear hfz7_3;try clear hfz7_4;try clear hfz7_5;try clear hfz8_0;try clear hfz8_1;try clear hfz8_2;try clear hfz8_3;try clear hfz8_4;try clear hfz8_5;try clear p2
     obtain ⟨x33_2, rfl, HA, HK2, BK157, HB⟩ := hrel
     cases gk with
     | zero => exact absurd HA.out (by simp [image_holders.l0])
     | succ k2 =>
      have H := HA.out
      clear HA
      simp only [image_holders.l0] at H
      by_cases c11 : x33_2 < (l0_1.length : Int)
      ·rw [if_pos c11] at H
       have c11b0 : decide (x33_2 < (l0_1.length : Int)) = true := decide_eq_true c11
       clear c11
       by_cases c12 : 0 <= x33_2
       ·rw [if_pos c12] at H
        have c12b0 : decide (0 <= x33_2) = true := decide_eq_true c12
        clear c12
        by_cases c13 : x33_2 < (l0_1.length : Int)
        ·rw [if_pos c13] at H
         have c13b0 : decide (x33_2 < (l0_1.length : Int)) = true := decide_eq_true c13
         clear c13
         have H' := Aside0.mk H
         clear H
         have p158 : 0 <= (x33_2 : Int) := of_decide_eq_true (by first | (with_reducible assumption) | assumption)
         have q158 : x33_2 < (l0_1.length : Int) := of_decide_eq_true (by first | (with_reducible assumption) | assumption)
         obtain ⟨ad158, A158_0, c158_0, e158, hx158_0, hl158_0, hi158_0⟩ := at_L5 HR0_1.out x33_2 p158 q158
         cases e158
         replace hx158_0 := (HB.out.cell (World.block_lt_of_cell? w _ hx158_0)).trans hx158_0
         have HR158_0 := Aside0.mk hi158_0
         have HC158_0 := Aside0.mk hl158_0
         clear hi158_0 hl158_0
         replace p158 := eq_true p158
         replace q158 := eq_true q158
         go_wp2
         go_loopg [5, 39] k2 (fun kq v5 v39 w' => ∃ (x5_3 : Int) (x39_3 : Int), v5 = .int .i64 x5_3 /\ v39 = .int .i64 x39_3 /\ Aside0 (image_holders.l1 kq x5_3 l0_1 (l0_1.length : Int) x33_2 (rd_L5 l0_1 x33_2) ((rd_L5 l0_1 x33_2).length : Int) x39_3 l0_0 l0_1 l0_2 l0_3 l0_4 a0_5 = some r) /\ Aside0 (kq <= k2) /\ Aside0 (w'.heap[gb157]? = some (.cells #[(.slice A0_0 l0_0.length c0_0), (.slice (some ad158) l0_1.length c0_1), (.slice A0_2 l0_2.length c0_2), (.slice A0_3 l0_3.length c0_3), (.slice A0_4 l0_4.length c0_4), .int .u64 a0_5] 27 (0, 0))) /\ Aside0 (Below w.heap.size w w'))
         case atStart => exact ⟨(0), (0), (by first | rfl | (simp; done) | (simp [*]; done)), (by first | rfl | (simp; done) | (simp [*]; done)), H', ⟨Nat.le_refl _⟩, ⟨by (with_reducible repeat (first | refine blk_drewN ?_ _ | refine blk_drew ?_ | refine blk_alloc ?_ _)); exact BK157.out⟩, ⟨by repeat (first | (with_reducible first | exact HB.out | apply below_alloc | apply pw_below_drewN | apply below_drew1 | refine below_set ?_ GE157.out) | exact HB.out)⟩⟩
         case round =>
          clear H'
          try clear c1;try clear p1;try clear q1;try clear hx1;try clear p2;try clear c4;try clear c4b0;try clear c4b1;try clear c6;try clear c6b0;try clear c6b1;try clear c7;try clear c9;try clear c11;try clear c11b0;try clear c12;try clear c12b0;try clear c13;try clear c13b0;try clear hcz10_0;try clear hcz10_1;try clear hcz10_2;try clear hcz10_3;try clear hcz10_4;try clear hcz10_5;try clear hcz5_0;try clear hcz5_1;try clear hcz5_2;try clear hcz5_3;try clear hcz5_4;try clear hcz5_5;try clear hcz7_0;try clear hcz7_1;try clear hcz7_2;try clear hcz7_3;try clear hcz7_4;try clear hcz7_5;try clear hcz8_0;try clear hcz8_1;try clear hcz8_2;try clear hcz8_3;try clear hcz8_4;try clear hcz8_5;try clear hfz10_0;try clear hfz10_1;try clear hfz10_2;try clear hfz10_3;try clear hfz10_4;try clear hfz10_5;try clear hfz5_0;try clear hfz5_1;try clear hfz5_2;try clear hfz5_3;try clear hfz5_4;try clear hfz5_5;try clear hfz7_0;try clear hfz7_1;try clear hfz7_2;try clear hfz7_3;try clear hfz7_4;try clear hfz7_5;try clear hfz8_0;try clear hfz8_1;try clear hfz8_2;try clear hfz8_3;try clear hfz8_4;try clear hfz8_5;try clear hx158_0;try clear p158;try clear p2;try clear q158
          obtain ⟨x5_3, x39_3, rfl, rfl, HA, HK3, BK157, HB⟩ := hrel
          cases gk with
          | zero => exact absurd HA.out (by simp [image_holders.l1])
          | succ k3 =>
           have H := HA.out
           clear HA
           simp only [image_holders.l1] at H
           by_cases c14 : x39_3 < ((rd_L5 l0_1 x33_2).length : Int)
           ·rw [if_pos c14] at H
            have c14b0 : decide (x39_3 < ((rd_L5 l0_1 x33_2).length : Int)) = true := decide_eq_true c14
            clear c14
            by_cases c15 : 0 <= x39_3
            ·rw [if_pos c15] at H
             have c15b0 : decide (0 <= x39_3) = true := decide_eq_true c15
             clear c15
             by_cases c16 : x39_3 < ((rd_L5 l0_1 x33_2).length : Int)
             ·rw [if_pos c16] at H
              have c16b0 : decide (x39_3 < ((rd_L5 l0_1 x33_2).length : Int)) = true := decide_eq_true c16
              clear c16
              by_cases c17 : ((rd_L2 (rd_L5 l0_1 x33_2) x39_3).length : Int) < 1
              ·rw [if_pos c17] at H
               have c17b0 : decide (((rd_L2 (rd_L5 l0_1 x33_2) x39_3).length : Int) < 1) = true := decide_eq_true c17
               have c17b1 : decide ((rd_L2 (rd_L5 l0_1 x33_2) x39_3).length < 1) = true := decide_eq_true (by omega)
               clear c17
               obtain rfl := Option.some.inj H
               have p159 : 0 <= (x39_3 : Int) := of_decide_eq_true (by first | (with_reducible assumption) | assumption)
               have q159 : x39_3 < ((rd_L5 l0_1 x33_2).length : Int) := of_decide_eq_true (by first | (with_reducible assumption) | assumption)
               obtain ⟨ad159, A159_0, c159_0, e159, hx159_0, hl159_0, hi159_0⟩ := at_L2 HR158_0.out x39_3 p159 q159
               cases e159
               replace hx159_0 := (HB.out.cell (World.block_lt_of_cell? w _ hx159_0)).trans hx159_0
               have HR159_0 := Aside0.mk hi159_0
               have HC159_0 := Aside0.mk hl159_0
               clear hi159_0 hl159_0
               replace p159 := eq_true p159
               replace q159 := eq_true q159
               go_wp2
               go_ret
               exact ⟨by first | rfl | (simp [errW_none, errW_some] <;> rfl) | (simp [*, errW_none, errW_some] <;> rfl), by repeat (first | (with_reducible first | exact HB.out | apply below_alloc | apply pw_below_drewN | apply below_drew1 | refine below_set ?_ GE157.out) | exact HB.out)⟩
              ·rw [if_neg c17] at H
               have c17b0 : decide (((rd_L2 (rd_L5 l0_1 x33_2) x39_3).length : Int) < 1) = false := decide_eq_false c17
               have c17b1 : decide ((rd_L2 (rd_L5 l0_1 x33_2) x39_3).length < 1) = false := decide_eq_false (by omega)
               clear c17
               replace H := Option.bind_eq_some_iff.mp H
               obtain ⟨t160, A180, H⟩ := H
               replace H : (if t160 = true then (image_holders.l1 k3 (wrap64 (x5_3 + ((rd_L2 (rd_L5 l0_1 x33_2) x39_3).length : Int))) l0_1 (l0_1.length : Int) x33_2 (rd_L5 l0_1 x33_2) ((rd_L5 l0_1 x33_2).length : Int) (wrap64 (x39_3 + 1)) l0_0 l0_1 l0_2 l0_3 l0_4 a0_5) else (some false)) = some r := H
               have A18 := Aside0.mk A180
               clear A180
               by_cases c19 : t160 = true
               ·subst c19
                have H1 : (image_holders.l1 k3 (wrap64 (x5_3 + ((rd_L2 (rd_L5 l0_1 x33_2) x39_3).length : Int))) l0_1 (l0_1.length : Int) x33_2 (rd_L5 l0_1 x33_2) ((rd_L5 l0_1 x33_2).length : Int) (wrap64 (x39_3 + 1)) l0_0 l0_1 l0_2 l0_3 l0_4 a0_5) = some r := by rw [if_pos rfl] at H; exact H
                clear H
                have H := H1
                clear H1
                have H' := Aside0.mk H
                clear H
                have p159 : 0 <= (x39_3 : Int) := of_decide_eq_true (by first | (with_reducible assumption) | assumption)
                have q159 : x39_3 < ((rd_L5 l0_1 x33_2).length : Int) := of_decide_eq_true (by first | (with_reducible assumption) | assumption)
                obtain ⟨ad159, A159_0, c159_0, e159, hx159_0, hl159_0, hi159_0⟩ := at_L2 HR158_0.out x39_3 p159 q159
                cases e159
                replace hx159_0 := (HB.out.cell (World.block_lt_of_cell? w _ hx159_0)).trans hx159_0
                have HR159_0 := Aside0.mk hi159_0
                have HC159_0 := Aside0.mk hl159_0
                clear hi159_0 hl159_0
                replace p159 := eq_true p159
                replace q159 := eq_true q159
                have hcz20_0 : wr.cell? ⟨gb157, 0, none⟩ = some (.slice A0_0 l0_0.length c0_0) := (bkC BK157.out 0).trans rfl
                have hcz20_1 : wr.cell? ⟨gb157, 1, none⟩ = some (.slice (some ad158) l0_1.length c0_1) := (bkC BK157.out 1).trans rfl
                have hcz20_2 : wr.cell? ⟨gb157, 2, none⟩ = some (.slice A0_2 l0_2.length c0_2) := (bkC BK157.out 2).trans rfl
                have hcz20_3 : wr.cell? ⟨gb157, 3, none⟩ = some (.slice A0_3 l0_3.length c0_3) := (bkC BK157.out 3).trans rfl
                have hcz20_4 : wr.cell? ⟨gb157, 4, none⟩ = some (.slice A0_4 l0_4.length c0_4) := (bkC BK157.out 4).trans rfl
                have hcz20_5 : wr.cell? ⟨gb157, 5, none⟩ = some (.int .u64 a0_5) := (bkC BK157.out 5).trans rfl
                have hfz20_0 := bkF BK157.out 0
                have hfz20_1 := bkF BK157.out 1
                have hfz20_2 := bkF BK157.out 2
                have hfz20_3 := bkF BK157.out 3
                have hfz20_4 := bkF BK157.out 4
                have hfz20_5 := bkF BK157.out 5
                go_wp2_with (first | (go_at_call 114; (with_reducible refine (image_numbers.calls k3 _ _ l0_0 _ _ l0_1 _ _ l0_2 _ _ l0_3 _ _ l0_4 a0_5 _ _ (rd_L2 (rd_L5 l0_1 x33_2) x39_3) 0 true _ ?side1 ?side2 ?side3 ?side4 ?side5 ?side6 ?side7 ?side8 ?side9 ?side10 ?side11 ?side12 A18.out).mono ?_); (case side1 => repeat (first | exact (Kd.C_below HR0_0.out HB.out) | (with_reducible refine Kd.C_alloc ?_ _) | (with_reducible refine Kd.C_drewN ?_ _) | (with_reducible refine Kd.C_drew ?_))); (case side2 => exact HC0_0.out); (case side3 => repeat (first | exact (Kd.C_below HR0_1.out HB.out) | (with_reducible refine Kd.C_alloc ?_ _) | (with_reducible refine Kd.C_drewN ?_ _) | (with_reducible refine Kd.C_drew ?_))); (case side4 => exact HC0_1.out); (case side5 => repeat (first | exact (Kd.C_below HR0_2.out HB.out) | (with_reducible refine Kd.C_alloc ?_ _) | (with_reducible refine Kd.C_drewN ?_ _) | (with_reducible refine Kd.C_drew ?_))); (case side6 => exact HC0_2.out); (case side7 => repeat (first | exact (Kd.C_below HR0_3.out HB.out) | (with_reducible refine Kd.C_alloc ?_ _) | (with_reducible refine Kd.C_drewN ?_ _) | (with_reducible refine Kd.C_drew ?_))); (case side8 => exact HC0_3.out); (case side9 => repeat (first | exact (Kd.C_below HR0_4.out HB.out) | (with_reducible refine Kd.C_alloc ?_ _) | (with_reducible refine Kd.C_drewN ?_ _) | (with_reducible refine Kd.C_drew ?_))); (case side10 => exact HC0_4.out); (case side11 => repeat (first | exact (Kd.C_below HR159_0.out HB.out) | (with_reducible refine Kd.C_alloc ?_ _) | (with_reducible refine Kd.C_drewN ?_ _) | (with_reducible refine Kd.C_drew ?_))); (case side12 => exact HC159_0.out); rintro e w21 ⟨rfl, hb⟩; have n0_ := Aside0.mk (blk_below (g := gb157) (o := .cells #[.slice A0_0 l0_0.length c0_0, .slice (some ad158) l0_1.length c0_1, .slice A0_2 l0_2.length c0_2, .slice A0_3 l0_3.length c0_3, .slice A0_4 l0_4.length c0_4, .int .u64 a0_5] 27 (0, 0)) (by (with_reducible repeat (first | refine blk_drewN ?_ _ | refine blk_drew ?_ | refine blk_alloc ?_ _)); exact BK157.out) hb); have n1_ := Aside0.mk (below_step (by repeat (first | (with_reducible first | exact HB.out | apply below_alloc | apply pw_below_drewN | apply below_drew1 | refine below_set ?_ GE157.out) | exact HB.out)) hb); clear BK157; clear HB; have BK157 := n0_; have HB := n1_; clear n0_ n1_; (try clear hb); (try clear hb2); (try clear hk); (try clear hi)))
                go_roundg k3
                case measure => have := HJ1.out; have := HK2.out; have := HK3.out; omega
                case rel => exact ⟨(wrap64 (x5_3 + ((rd_L2 (rd_L5 l0_1 x33_2) x39_3).length : Int))), (wrap64 (x39_3 + 1)), (by first | rfl | (simp; done) | (simp [*]; done)), (by first | rfl | (simp; done) | (simp [*]; done)), H', ⟨by have := HJ1.out; have := HK2.out; have := HK3.out; omega⟩, ⟨by (with_reducible repeat (first | refine blk_drewN ?_ _ | refine blk_drew ?_ | refine blk_alloc ?_ _)); exact BK157.out⟩, ⟨by repeat (first | (with_reducible first | exact HB.out | apply below_alloc | apply pw_below_drewN | apply below_drew1 | refine below_set ?_ GE157.out) | exact HB.out)⟩⟩
               ·replace c19 := Bool.eq_false_iff.mpr c19
                subst c19
                have H1 : (some false) = some r := by rw [if_neg (show ¬ (false = true) by decide)] at H; exact H
                clear H
                have H := H1
                clear H1
                obtain rfl := Option.some.inj H
                have p159 : 0 <= (x39_3 : Int) := of_decide_eq_true (by first | (with_reducible assumption) | assumption)
                have q159 : x39_3 < ((rd_L5 l0_1 x33_2).length : Int) := of_decide_eq_true (by first | (with_reducible assumption) | assumption)
                obtain ⟨ad159, A159_0, c159_0, e159, hx159_0, hl159_0, hi159_0⟩ := at_L2 HR158_0.out x39_3 p159 q159
                cases e159
                replace hx159_0 := (HB.out.cell (World.block_lt_of_cell? w _ hx159_0)).trans hx159_0
                have HR159_0 := Aside0.mk hi159_0
                have HC159_0 := Aside0.mk hl159_0
                clear hi159_0 hl159_0
                replace p159 := eq_true p159
                replace q159 := eq_true q159
                have hcz22_0 : wr.cell? ⟨gb157, 0, none⟩ = some (.slice A0_0 l0_0.length c0_0) := (bkC BK157.out 0).trans rfl
                have hcz22_1 : wr.cell? ⟨gb157, 1, none⟩ = some (.slice (some ad158) l0_1.length c0_1) := (bkC BK157.out 1).trans rfl
                have hcz22_2 : wr.cell? ⟨gb157, 2, none⟩ = some (.slice A0_2 l0_2.length c0_2) := (bkC BK157.out 2).trans rfl
                have hcz22_3 : wr.cell? ⟨gb157, 3, none⟩ = some (.slice A0_3 l0_3.length c0_3) := (bkC BK157.out 3).trans rfl
                have hcz22_4 : wr.cell? ⟨gb157, 4, none⟩ = some (.slice A0_4 l0_4.length c0_4) := (bkC BK157.out 4).trans rfl
                have hcz22_5 : wr.cell? ⟨gb157, 5, none⟩ = some (.int .u64 a0_5) := (bkC BK157.out 5).trans rfl
                have hfz22_0 := bkF BK157.out 0
                have hfz22_1 := bkF BK157.out 1
                have hfz22_2 := bkF BK157.out 2
                have hfz22_3 := bkF BK157.out 3
                have hfz22_4 := bkF BK157.out 4
                have hfz22_5 := bkF BK157.out 5
                go_wp2_with (first | (go_at_call 114; (with_reducible refine (image_numbers.calls k3 _ _ l0_0 _ _ l0_1 _ _ l0_2 _ _ l0_3 _ _ l0_4 a0_5 _ _ (rd_L2 (rd_L5 l0_1 x33_2) x39_3) 0 false _ ?side1 ?side2 ?side3 ?side4 ?side5 ?side6 ?side7 ?side8 ?side9 ?side10 ?side11 ?side12 A18.out).mono ?_); (case side1 => repeat (first | exact (Kd.C_below HR0_0.out HB.out) | (with_reducible refine Kd.C_alloc ?_ _) | (with_reducible refine Kd.C_drewN ?_ _) | (with_reducible refine Kd.C_drew ?_))); (case side2 => exact HC0_0.out); (case side3 => repeat (first | exact (Kd.C_below HR0_1.out HB.out) | (with_reducible refine Kd.C_alloc ?_ _) | (with_reducible refine Kd.C_drewN ?_ _) | (with_reducible refine Kd.C_drew ?_))); (case side4 => exact HC0_1.out); (case side5 => repeat (first | exact (Kd.C_below HR0_2.out HB.out) | (with_reducible refine Kd.C_alloc ?_ _) | (with_reducible refine Kd.C_drewN ?_ _) | (with_reducible refine Kd.C_drew ?_))); (case side6 => exact HC0_2.out); (case side7 => repeat (first | exact (Kd.C_below HR0_3.out HB.out) | (with_reducible refine Kd.C_alloc ?_ _) | (with_reducible refine Kd.C_drewN ?_ _) | (with_reducible refine Kd.C_drew ?_))); (case side8 => exact HC0_3.out); (case side9 => repeat (first | exact (Kd.C_below HR0_4.out HB.out) | (with_reducible refine Kd.C_alloc ?_ _) | (with_reducible refine Kd.C_drewN ?_ _) | (with_reducible refine Kd.C_drew ?_))); (case side10 => exact HC0_4.out); (case side11 => repeat (first | exact (Kd.C_below HR159_0.out HB.out) | (with_reducible refine Kd.C_alloc ?_ _) | (with_reducible refine Kd.C_drewN ?_ _) | (with_reducible refine Kd.C_drew ?_))); (case side12 => exact HC159_0.out); rintro e w23 ⟨rfl, hb⟩; have n0_ := Aside0.mk (blk_below (g := gb157) (o := .cells #[.slice A0_0 l0_0.length c0_0, .slice (some ad158) l0_1.length c0_1, .slice A0_2 l0_2.length c0_2, .slice A0_3 l0_3.length c0_3, .slice A0_4 l0_4.length c0_4, .int .u64 a0_5] 27 (0, 0)) (by (with_reducible repeat (first | refine blk_drewN ?_ _ | refine blk_drew ?_ | refine blk_alloc ?_ _)); exact BK157.out) hb); have n1_ := Aside0.mk (below_step (by repeat (first | (with_reducible first | exact HB.out | apply below_alloc | apply pw_below_drewN | apply below_drew1 | refine below_set ?_ GE157.out) | exact HB.out)) hb); clear BK157; clear HB; have BK157 := n0_; have HB := n1_; clear n0_ n1_; (try clear hb); (try clear hb2); (try clear hk); (try clear hi)))
                go_ret
                exact ⟨by first | rfl | (simp [errW_none, errW_some] <;> rfl) | (simp [*, errW_none, errW_some] <;> rfl), by repeat (first | (with_reducible first | exact HB.out | apply below_alloc | apply pw_below_drewN | apply below_drew1 | refine below_set ?_ GE157.out) | exact HB.out)⟩
             ·rw [if_neg c16] at H
              exact absurd H (by simp)
            ·rw [if_neg c15] at H
             exact absurd H (by simp)
           ·rw [if_neg c14] at H
            have c14b0 : decide (x39_3 < ((rd_L5 l0_1 x33_2).length : Int)) = false := decide_eq_false c14
            clear c14
            by_cases c24 : x5_3 > 4096
            ·rw [if_pos c24] at H
             have c24b0 : decide (4096 < x5_3) = true := decide_eq_true c24
             clear c24
             obtain rfl := Option.some.inj H
             go_wp2
             go_ret
             exact ⟨by first | rfl | (simp [errW_none, errW_some] <;> rfl) | (simp [*, errW_none, errW_some] <;> rfl), by repeat (first | (with_reducible first | exact HB.out | apply below_alloc | apply pw_below_drewN | apply below_drew1 | refine below_set ?_ GE157.out) | exact HB.out)⟩
            ·rw [if_neg c24] at H
             have c24b0 : decide (4096 < x5_3) = false := decide_eq_false c24
             clear c24
             have H' := Aside0.mk H
             clear H
             go_wp2
             go_roundg k3
             case measure => have := HJ1.out; have := HK2.out; have := HK3.out; omega
             case rel => exact ⟨(wrap64 (x33_2 + 1)), (by first | rfl | (simp; done) | (simp [*]; done)), H', ⟨by have := HJ1.out; have := HK2.out; have := HK3.out; omega⟩, ⟨by (with_reducible repeat (first | refine blk_drewN ?_ _ | refine blk_drew ?_ | refine blk_alloc ?_ _)); exact BK157.out⟩, ⟨by repeat (first | (with_reducible first | exact HB.out | apply below_alloc | apply pw_below_drewN | apply below_drew1 | refine below_set ?_ GE157.out) | exact HB.out)⟩⟩
        ·rw [if_neg c13] at H
         exact absurd H (by simp)
       ·rw [if_neg c12] at H
        exact absurd H (by simp)
      ·rw [if_neg c11] at H
       have c11b0 : decide (x33_2 < (l0_1.length : Int)) = false := decide_eq_false c11
       clear c11
       have HC25 := Aside0.mk H
       clear H
       go_upto_region 17 with (fail)
       go_cut [71] (fun v71 wc => ∃ (kq : Nat) (x71_24 : Bool), v71 = .bool x71_24 /\ Aside0 (image_holders.j3 kq x71_24 l0_0 l0_1 l0_2 l0_3 l0_4 a0_5 = some r) /\ Aside0 (kq <= k2) /\ Aside0 (wc.heap[gb157]? = some (.cells #[(.slice A0_0 l0_0.length c0_0), (.slice A0_1 l0_1.length c0_1), (.slice A0_2 l0_2.length c0_2), (.slice A0_3 l0_3.length c0_3), (.slice A0_4 l0_4.length c0_4), .int .u64 a0_5] 27 (0, 0))) /\ Aside0 (Below w.heap.size w wc))
       case first =>
        have H := HC25.out
        clear HC25
        replace H := Option.bind_eq_some_iff.mp H
        obtain ⟨t161, A260, H⟩ := H
        replace H : (if t161 = true then ((image_numbers.f k2 l0_0 l0_1 l0_2 l0_3 l0_4 a0_5 l0_4 1).bind fun t162 => (image_holders.j3 k2 (!t162) l0_0 l0_1 l0_2 l0_3 l0_4 a0_5)) else (image_holders.j3 k2 true l0_0 l0_1 l0_2 l0_3 l0_4 a0_5)) = some r := H
        have A26 := Aside0.mk A260
        clear A260
        by_cases c27 : t161 = true
        ·subst c27
         have H1 : ((image_numbers.f k2 l0_0 l0_1 l0_2 l0_3 l0_4 a0_5 l0_4 1).bind fun t162 => (image_holders.j3 k2 (!t162) l0_0 l0_1 l0_2 l0_3 l0_4 a0_5)) = some r := by rw [if_pos rfl] at H; exact H
         clear H
         have H := H1
         clear H1
         replace H := Option.bind_eq_some_iff.mp H
         obtain ⟨t162, A280, H⟩ := H
         replace H : (image_holders.j3 k2 (!t162) l0_0 l0_1 l0_2 l0_3 l0_4 a0_5) = some r := H
         have A28 := Aside0.mk A280
         clear A280
         have H' := Aside0.mk H
         clear H
         have hcz29_0 : wr.cell? ⟨gb157, 0, none⟩ = some (.slice A0_0 l0_0.length c0_0) := (bkC BK157.out 0).trans rfl
         have hcz29_1 : wr.cell? ⟨gb157, 1, none⟩ = some (.slice A0_1 l0_1.length c0_1) := (bkC BK157.out 1).trans rfl
         have hcz29_2 : wr.cell? ⟨gb157, 2, none⟩ = some (.slice A0_2 l0_2.length c0_2) := (bkC BK157.out 2).trans rfl
         have hcz29_3 : wr.cell? ⟨gb157, 3, none⟩ = some (.slice A0_3 l0_3.length c0_3) := (bkC BK157.out 3).trans rfl
         have hcz29_4 : wr.cell? ⟨gb157, 4, none⟩ = some (.slice A0_4 l0_4.length c0_4) := (bkC BK157.out 4).trans rfl
         have hcz29_5 : wr.cell? ⟨gb157, 5, none⟩ = some (.int .u64 a0_5) := (bkC BK157.out 5).trans rfl
         have hfz29_0 := bkF BK157.out 0
         have hfz29_1 := bkF BK157.out 1
         have hfz29_2 := bkF BK157.out 2
         have hfz29_3 := bkF BK157.out 3
         have hfz29_4 := bkF BK157.out 4
         have hfz29_5 := bkF BK157.out 5
         go_wp2_with (first | ((with_reducible refine gate_callee (f := 114) rfl ?_); refine goesL_ (some 63) rfl rfl Tryd.func114 (by kernel_rfl) rfl #[.agg #[.slice A0_0 l0_0.length c0_0, .slice A0_1 l0_1.length c0_1, .slice A0_2 l0_2.length c0_2, .slice A0_3 l0_3.length c0_3, .slice A0_4 l0_4.length c0_4, .int .u64 a0_5], .slice A0_2 l0_2.length c0_2, .int .i64 (-1)] rfl (by (try simp only [List.map_toArray, List.map_cons, List.map_nil]); first | done | rfl | (simp only [List.length_drop, List.length_take]; rfl)) ?_; (with_reducible refine (image_numbers.calls k2 _ _ l0_0 _ _ l0_1 _ _ l0_2 _ _ l0_3 _ _ l0_4 a0_5 _ _ l0_2 (-1) true _ ?side1 ?side2 ?side3 ?side4 ?side5 ?side6 ?side7 ?side8 ?side9 ?side10 ?side11 ?side12 A26.out).mono ?_); (case side1 => repeat (first | exact (Kd.C_below HR0_0.out HB.out) | (with_reducible refine Kd.C_alloc ?_ _) | (with_reducible refine Kd.C_drewN ?_ _) | (with_reducible refine Kd.C_drew ?_))); (case side2 => exact HC0_0.out); (case side3 => repeat (first | exact (Kd.C_below HR0_1.out HB.out) | (with_reducible refine Kd.C_alloc ?_ _) | (with_reducible refine Kd.C_drewN ?_ _) | (with_reducible refine Kd.C_drew ?_))); (case side4 => exact HC0_1.out); (case side5 => repeat (first | exact (Kd.C_below HR0_2.out HB.out) | (with_reducible refine Kd.C_alloc ?_ _) | (with_reducible refine Kd.C_drewN ?_ _) | (with_reducible refine Kd.C_drew ?_))); (case side6 => exact HC0_2.out); (case side7 => repeat (first | exact (Kd.C_below HR0_3.out HB.out) | (with_reducible refine Kd.C_alloc ?_ _) | (with_reducible refine Kd.C_drewN ?_ _) | (with_reducible refine Kd.C_drew ?_))); (case side8 => exact HC0_3.out); (case side9 => repeat (first | exact (Kd.C_below HR0_4.out HB.out) | (with_reducible refine Kd.C_alloc ?_ _) | (with_reducible refine Kd.C_drewN ?_ _) | (with_reducible refine Kd.C_drew ?_))); (case side10 => exact HC0_4.out); (case side11 => repeat (first | exact (Kd.C_below HR0_2.out HB.out) | (with_reducible refine Kd.C_alloc ?_ _) | (with_reducible refine Kd.C_drewN ?_ _) | (with_reducible refine Kd.C_drew ?_))); (case side12 => exact HC0_2.out); rintro e w30 ⟨rfl, hb⟩; refine ⟨_, rfl, ?_⟩; have n0_ := Aside0.mk (blk_below (g := gb157) (o := .cells #[.slice A0_0 l0_0.length c0_0, .slice A0_1 l0_1.length c0_1, .slice A0_2 l0_2.length c0_2, .slice A0_3 l0_3.length c0_3, .slice A0_4 l0_4.length c0_4, .int .u64 a0_5] 27 (0, 0)) (by (with_reducible repeat (first | refine blk_drewN ?_ _ | refine blk_drew ?_ | refine blk_alloc ?_ _)); exact BK157.out) hb); have n1_ := Aside0.mk (below_step (by repeat (first | (with_reducible first | exact HB.out | apply below_alloc | apply pw_below_drewN | apply below_drew1 | refine below_set ?_ GE157.out) | exact HB.out)) hb); clear BK157; clear HB; have BK157 := n0_; have HB := n1_; clear n0_ n1_; (try clear hb); (try clear hb2); (try clear hk); (try clear hi); have hcz31_0 : w30.cell? ⟨gb157, 0, none⟩ = some (.slice A0_0 l0_0.length c0_0) := (bkC BK157.out 0).trans rfl; have hcz31_1 : w30.cell? ⟨gb157, 1, none⟩ = some (.slice A0_1 l0_1.length c0_1) := (bkC BK157.out 1).trans rfl; have hcz31_2 : w30.cell? ⟨gb157, 2, none⟩ = some (.slice A0_2 l0_2.length c0_2) := (bkC BK157.out 2).trans rfl; have hcz31_3 : w30.cell? ⟨gb157, 3, none⟩ = some (.slice A0_3 l0_3.length c0_3) := (bkC BK157.out 3).trans rfl; have hcz31_4 : w30.cell? ⟨gb157, 4, none⟩ = some (.slice A0_4 l0_4.length c0_4) := (bkC BK157.out 4).trans rfl; have hcz31_5 : w30.cell? ⟨gb157, 5, none⟩ = some (.int .u64 a0_5) := (bkC BK157.out 5).trans rfl; have hfz31_0 := bkF BK157.out 0; have hfz31_1 := bkF BK157.out 1; have hfz31_2 := bkF BK157.out 2; have hfz31_3 := bkF BK157.out 3; have hfz31_4 := bkF BK157.out 4; have hfz31_5 := bkF BK157.out 5) | (go_at_call 114; (with_reducible refine (image_numbers.calls k2 _ _ l0_0 _ _ l0_1 _ _ l0_2 _ _ l0_3 _ _ l0_4 a0_5 _ _ l0_4 1 t162 _ ?side1 ?side2 ?side3 ?side4 ?side5 ?side6 ?side7 ?side8 ?side9 ?side10 ?side11 ?side12 A28.out).mono ?_); (case side1 => repeat (first | exact (Kd.C_below HR0_0.out HB.out) | (with_reducible refine Kd.C_alloc ?_ _) | (with_reducible refine Kd.C_drewN ?_ _) | (with_reducible refine Kd.C_drew ?_))); (case side2 => exact HC0_0.out); (case side3 => repeat (first | exact (Kd.C_below HR0_1.out HB.out) | (with_reducible refine Kd.C_alloc ?_ _) | (with_reducible refine Kd.C_drewN ?_ _) | (with_reducible refine Kd.C_drew ?_))); (case side4 => exact HC0_1.out); (case side5 => repeat (first | exact (Kd.C_below HR0_2.out HB.out) | (with_reducible refine Kd.C_alloc ?_ _) | (with_reducible refine Kd.C_drewN ?_ _) | (with_reducible refine Kd.C_drew ?_))); (case side6 => exact HC0_2.out); (case side7 => repeat (first | exact (Kd.C_below HR0_3.out HB.out) | (with_reducible refine Kd.C_alloc ?_ _) | (with_reducible refine Kd.C_drewN ?_ _) | (with_reducible refine Kd.C_drew ?_))); (case side8 => exact HC0_3.out); (case side9 => repeat (first | exact (Kd.C_below HR0_4.out HB.out) | (with_reducible refine Kd.C_alloc ?_ _) | (with_reducible refine Kd.C_drewN ?_ _) | (with_reducible refine Kd.C_drew ?_))); (case side10 => exact HC0_4.out); (case side11 => repeat (first | exact (Kd.C_below HR0_4.out HB.out) | (with_reducible refine Kd.C_alloc ?_ _) | (with_reducible refine Kd.C_drewN ?_ _) | (with_reducible refine Kd.C_drew ?_))); (case side12 => exact HC0_4.out); rintro e w32 ⟨rfl, hb⟩; have n0_ := Aside0.mk (blk_below (g := gb157) (o := .cells #[.slice A0_0 l0_0.length c0_0, .slice A0_1 l0_1.length c0_1, .slice A0_2 l0_2.length c0_2, .slice A0_3 l0_3.length c0_3, .slice A0_4 l0_4.length c0_4, .int .u64 a0_5] 27 (0, 0)) (by (with_reducible repeat (first | refine blk_drewN ?_ _ | refine blk_drew ?_ | refine blk_alloc ?_ _)); exact BK157.out) hb); have n1_ := Aside0.mk (below_step (by repeat (first | (with_reducible first | exact HB.out | apply below_alloc | apply pw_below_drewN | apply below_drew1 | refine below_set ?_ GE157.out) | exact HB.out)) hb); clear BK157; clear HB; have BK157 := n0_; have HB := n1_; clear n0_ n1_; (try clear hb); (try clear hb2); (try clear hk); (try clear hi)))
         go_meet
         case rel => exact ⟨_, (!t162), (by first | rfl | (simp; done) | (simp [*]; done)), H', ⟨by have := HJ1.out; have := HK2.out; first | omega | exact Nat.le_refl _⟩, ⟨by (with_reducible repeat (first | refine blk_drewN ?_ _ | refine blk_drew ?_ | refine blk_alloc ?_ _)); exact BK157.out⟩, ⟨by repeat (first | (with_reducible first | exact HB.out | apply below_alloc | apply pw_below_drewN | apply below_drew1 | refine below_set ?_ GE157.out) | exact HB.out)⟩⟩
        ·replace c27 := Bool.eq_false_iff.mpr c27
         subst c27
         have H1 : (image_holders.j3 k2 true l0_0 l0_1 l0_2 l0_3 l0_4 a0_5) = some r := by rw [if_neg (show ¬ (false = true) by decide)] at H; exact H
         clear H
         have H := H1
         clear H1
         have H' := Aside0.mk H
         clear H
         have hcz33_0 : wr.cell? ⟨gb157, 0, none⟩ = some (.slice A0_0 l0_0.length c0_0) := (bkC BK157.out 0).trans rfl
         have hcz33_1 : wr.cell? ⟨gb157, 1, none⟩ = some (.slice A0_1 l0_1.length c0_1) := (bkC BK157.out 1).trans rfl
         have hcz33_2 : wr.cell? ⟨gb157, 2, none⟩ = some (.slice A0_2 l0_2.length c0_2) := (bkC BK157.out 2).trans rfl
         have hcz33_3 : wr.cell? ⟨gb157, 3, none⟩ = some (.slice A0_3 l0_3.length c0_3) := (bkC BK157.out 3).trans rfl
         have hcz33_4 : wr.cell? ⟨gb157, 4, none⟩ = some (.slice A0_4 l0_4.length c0_4) := (bkC BK157.out 4).trans rfl
         have hcz33_5 : wr.cell? ⟨gb157, 5, none⟩ = some (.int .u64 a0_5) := (bkC BK157.out 5).trans rfl
         have hfz33_0 := bkF BK157.out 0
         have hfz33_1 := bkF BK157.out 1
         have hfz33_2 := bkF BK157.out 2
         have hfz33_3 := bkF BK157.out 3
         have hfz33_4 := bkF BK157.out 4
         have hfz33_5 := bkF BK157.out 5
         go_wp2_with (first | ((with_reducible refine gate_callee (f := 114) rfl ?_); refine goesL_ (some 63) rfl rfl Tryd.func114 (by kernel_rfl) rfl #[.agg #[.slice A0_0 l0_0.length c0_0, .slice A0_1 l0_1.length c0_1, .slice A0_2 l0_2.length c0_2, .slice A0_3 l0_3.length c0_3, .slice A0_4 l0_4.length c0_4, .int .u64 a0_5], .slice A0_2 l0_2.length c0_2, .int .i64 (-1)] rfl (by (try simp only [List.map_toArray, List.map_cons, List.map_nil]); first | done | rfl | (simp only [List.length_drop, List.length_take]; rfl)) ?_; (with_reducible refine (image_numbers.calls k2 _ _ l0_0 _ _ l0_1 _ _ l0_2 _ _ l0_3 _ _ l0_4 a0_5 _ _ l0_2 (-1) false _ ?side1 ?side2 ?side3 ?side4 ?side5 ?side6 ?side7 ?side8 ?side9 ?side10 ?side11 ?side12 A26.out).mono ?_); (case side1 => repeat (first | exact (Kd.C_below HR0_0.out HB.out) | (with_reducible refine Kd.C_alloc ?_ _) | (with_reducible refine Kd.C_drewN ?_ _) | (with_reducible refine Kd.C_drew ?_))); (case side2 => exact HC0_0.out); (case side3 => repeat (first | exact (Kd.C_below HR0_1.out HB.out) | (with_reducible refine Kd.C_alloc ?_ _) | (with_reducible refine Kd.C_drewN ?_ _) | (with_reducible refine Kd.C_drew ?_))); (case side4 => exact HC0_1.out); (case side5 => repeat (first | exact (Kd.C_below HR0_2.out HB.out) | (with_reducible refine Kd.C_alloc ?_ _) | (with_reducible refine Kd.C_drewN ?_ _) | (with_reducible refine Kd.C_drew ?_))); (case side6 => exact HC0_2.out); (case side7 => repeat (first | exact (Kd.C_below HR0_3.out HB.out) | (with_reducible refine Kd.C_alloc ?_ _) | (with_reducible refine Kd.C_drewN ?_ _) | (with_reducible refine Kd.C_drew ?_))); (case side8 => exact HC0_3.out); (case side9 => repeat (first | exact (Kd.C_below HR0_4.out HB.out) | (with_reducible refine Kd.C_alloc ?_ _) | (with_reducible refine Kd.C_drewN ?_ _) | (with_reducible refine Kd.C_drew ?_))); (case side10 => exact HC0_4.out); (case side11 => repeat (first | exact (Kd.C_below HR0_2.out HB.out) | (with_reducible refine Kd.C_alloc ?_ _) | (with_reducible refine Kd.C_drewN ?_ _) | (with_reducible refine Kd.C_drew ?_))); (case side12 => exact HC0_2.out); rintro e w34 ⟨rfl, hb⟩; refine ⟨_, rfl, ?_⟩; have n0_ := Aside0.mk (blk_below (g := gb157) (o := .cells #[.slice A0_0 l0_0.length c0_0, .slice A0_1 l0_1.length c0_1, .slice A0_2 l0_2.length c0_2, .slice A0_3 l0_3.length c0_3, .slice A0_4 l0_4.length c0_4, .int .u64 a0_5] 27 (0, 0)) (by (with_reducible repeat (first | refine blk_drewN ?_ _ | refine blk_drew ?_ | refine blk_alloc ?_ _)); exact BK157.out) hb); have n1_ := Aside0.mk (below_step (by repeat (first | (with_reducible first | exact HB.out | apply below_alloc | apply pw_below_drewN | apply below_drew1 | refine below_set ?_ GE157.out) | exact HB.out)) hb); clear BK157; clear HB; have BK157 := n0_; have HB := n1_; clear n0_ n1_; (try clear hb); (try clear hb2); (try clear hk); (try clear hi)))
         go_meet
         case rel => exact ⟨_, (true), (by first | rfl | (simp; done) | (simp [*]; done)), H', ⟨by have := HJ1.out; have := HK2.out; first | omega | exact Nat.le_refl _⟩, ⟨by (with_reducible repeat (first | refine blk_drewN ?_ _ | refine blk_drew ?_ | refine blk_alloc ?_ _)); exact BK157.out⟩, ⟨by repeat (first | (with_reducible first | exact HB.out | apply below_alloc | apply pw_below_drewN | apply below_drew1 | refine below_set ?_ GE157.out) | exact HB.out)⟩⟩
       case rest =>
        clear HC25
        try clear c1;try clear p1;try clear q1;try clear hx1;try clear c2;try clear p2;try clear c4;try clear c4b0;try clear c4b1;try clear c6;try clear c6b0;try clear c6b1;try clear p6;try clear c7;try clear c9;try clear c11;try clear c11b0;try clear c12;try clear c12b0;try clear c13;try clear c13b0;try clear c14;try clear c14b0;try clear c15;try clear c15b0;try clear p15;try clear q15;try clear hx15;try clear c16;try clear c16b0;try clear c17;try clear c17b0;try clear c17b1;try clear c19;try clear c24;try clear c24b0;try clear c27;try clear hcz10_0;try clear hcz10_1;try clear hcz10_2;try clear hcz10_3;try clear hcz10_4;try clear hcz10_5;try clear hcz20_0;try clear hcz20_1;try clear hcz20_2;try clear hcz20_3;try clear hcz20_4;try clear hcz20_5;try clear hcz22_0;try clear hcz22_1;try clear hcz22_2;try clear hcz22_3;try clear hcz22_4;try clear hcz22_5;try clear hcz29_0;try clear hcz29_1;try clear hcz29_2;try clear hcz29_3;try clear hcz29_4;try clear hcz29_5;try clear hcz31_0;try clear hcz31_1;try clear hcz31_2;try clear hcz31_3;try clear hcz31_4;try clear hcz31_5;try clear hcz33_0;try clear hcz33_1;try clear hcz33_2;try clear hcz33_3;try clear hcz33_4;try clear hcz33_5;try clear hcz5_0;try clear hcz5_1;try clear hcz5_2;try clear hcz5_3;try clear hcz5_4;try clear hcz5_5;try clear hcz7_0;try clear hcz7_1;try clear hcz7_2;try clear hcz7_3;try clear hcz7_4;try clear hcz7_5;try clear hcz8_0;try clear hcz8_1;try clear hcz8_2;try clear hcz8_3;try clear hcz8_4;try clear hcz8_5;try clear hfz10_0;try clear hfz10_1;try clear hfz10_2;try clear hfz10_3;try clear hfz10_4;try clear hfz10_5;try clear hfz20_0;try clear hfz20_1;try clear hfz20_2;try clear hfz20_3;try clear hfz20_4;try clear hfz20_5;try clear hfz22_0;try clear hfz22_1;try clear hfz22_2;try clear hfz22_3;try clear hfz22_4;try clear hfz22_5;try clear hfz29_0;try clear hfz29_1;try clear hfz29_2;try clear hfz29_3;try clear hfz29_4;try clear hfz29_5;try clear hfz31_0;try clear hfz31_1;try clear hfz31_2;try clear hfz31_3;try clear hfz31_4
        try clear hfz31_5;try clear hfz33_0;try clear hfz33_1;try clear hfz33_2;try clear hfz33_3;try clear hfz33_4;try clear hfz33_5;try clear hfz5_0;try clear hfz5_1;try clear hfz5_2;try clear hfz5_3;try clear hfz5_4;try clear hfz5_5;try clear hfz7_0;try clear hfz7_1;try clear hfz7_2;try clear hfz7_3;try clear hfz7_4;try clear hfz7_5;try clear hfz8_0;try clear hfz8_1;try clear hfz8_2;try clear hfz8_3;try clear hfz8_4;try clear hfz8_5;try clear hx158_0;try clear hx159_0;try clear p1;try clear p158;try clear p159;try clear p2;try clear q1;try clear q158;try clear q159
        obtain ⟨kq, x71_24, rfl, HA, HJ24, BK157, HB⟩ := hcut
        cases kq with
        | zero => exact absurd HA.out (by simp [image_holders.j3])
        | succ kj24 =>
         have H := HA.out
         clear HA
         simp only [image_holders.j3] at H
         by_cases c35 : x71_24 = true
         ·subst c35
          have H1 : (some false) = some r := by rw [if_pos rfl] at H; exact H
          clear H
          have H := H1
          clear H1
          obtain rfl := Option.some.inj H
          go_wp2
          go_ret
          exact ⟨by first | rfl | (simp [errW_none, errW_some] <;> rfl) | (simp [*, errW_none, errW_some] <;> rfl), by repeat (first | (with_reducible first | exact HB.out | apply below_alloc | apply pw_below_drewN | apply below_drew1 | refine below_set ?_ GE157.out) | exact HB.out)⟩
         ·replace c35 := Bool.eq_false_iff.mpr c35
          subst c35
          have H1 : ((image_registry.f kj24 l0_0 l0_1 l0_2 l0_3 l0_4 a0_5).bind fun t163 => (if (t163.length : Int) = (l0_3.length : Int) then (image_holders.l2 kj24 t163 (t163.length : Int) 0 l0_0 l0_1 l0_2 l0_3 l0_4 a0_5) else (some false))) = some r := by rw [if_neg (show ¬ (false = true) by decide)] at H; exact H
          clear H
          have H := H1
          clear H1
          replace H := Option.bind_eq_some_iff.mp H
          obtain ⟨t163, A360, H⟩ := H
          replace H : (if (t163.length : Int) = (l0_3.length : Int) then (image_holders.l2 kj24 t163 (t163.length : Int) 0 l0_0 l0_1 l0_2 l0_3 l0_4 a0_5) else (some false)) = some r := H
          have A36 := Aside0.mk A360
          clear A360
          by_cases c37 : (t163.length : Int) = (l0_3.length : Int)
          ·rw [if_pos c37] at H
           have c37b0 : ((t163.length : Int) == (l0_3.length : Int)) = true := beq_iff_eq.mpr c37
           have c37b1 : ((t163.length : Int) != (l0_3.length : Int)) = false := bne_eq_false_iff_eq.mpr c37
           have c37b2 : (t163.length == l0_3.length) = true := by first | simpa using c37 | (simp at c37 ⊢; omega)
           clear c37
           have H' := Aside0.mk H
           clear H
           have hcz38_0 : wc.cell? ⟨gb157, 0, none⟩ = some (.slice A0_0 l0_0.length c0_0) := (bkC BK157.out 0).trans rfl
           have hcz38_1 : wc.cell? ⟨gb157, 1, none⟩ = some (.slice A0_1 l0_1.length c0_1) := (bkC BK157.out 1).trans rfl
           have hcz38_2 : wc.cell? ⟨gb157, 2, none⟩ = some (.slice A0_2 l0_2.length c0_2) := (bkC BK157.out 2).trans rfl
           have hcz38_3 : wc.cell? ⟨gb157, 3, none⟩ = some (.slice A0_3 l0_3.length c0_3) := (bkC BK157.out 3).trans rfl
           have hcz38_4 : wc.cell? ⟨gb157, 4, none⟩ = some (.slice A0_4 l0_4.length c0_4) := (bkC BK157.out 4).trans rfl
           have hcz38_5 : wc.cell? ⟨gb157, 5, none⟩ = some (.int .u64 a0_5) := (bkC BK157.out 5).trans rfl
           have hfz38_0 := bkF BK157.out 0
           have hfz38_1 := bkF BK157.out 1
           have hfz38_2 := bkF BK157.out 2
           have hfz38_3 := bkF BK157.out 3
           have hfz38_4 := bkF BK157.out 4
           have hfz38_5 := bkF BK157.out 5
           go_wp2_with (first | ((with_reducible refine gate_callee (f := 115) rfl ?_); refine goesL_ (some 73) rfl rfl Tryd.func115 (by kernel_rfl) rfl #[.agg #[.slice A0_0 l0_0.length c0_0, .slice A0_1 l0_1.length c0_1, .slice A0_2 l0_2.length c0_2, .slice A0_3 l0_3.length c0_3, .slice A0_4 l0_4.length c0_4, .int .u64 a0_5]] rfl (by (try simp only [List.map_toArray, List.map_cons, List.map_nil]); first | done | rfl | (simp only [List.length_drop, List.length_take]; rfl)) ?_; (with_reducible refine (image_registry.calls kj24 _ _ l0_0 _ _ l0_1 _ _ l0_2 _ _ l0_3 _ _ l0_4 a0_5 t163 _ ?side1 ?side2 ?side3 ?side4 ?side5 ?side6 ?side7 ?side8 ?side9 ?side10 A36.out).mono ?_); (case side1 => repeat (first | exact (Kd.C_below HR0_0.out HB.out) | (with_reducible refine Kd.C_alloc ?_ _) | (with_reducible refine Kd.C_drewN ?_ _) | (with_reducible refine Kd.C_drew ?_))); (case side2 => exact HC0_0.out); (case side3 => repeat (first | exact (Kd.C_below HR0_1.out HB.out) | (with_reducible refine Kd.C_alloc ?_ _) | (with_reducible refine Kd.C_drewN ?_ _) | (with_reducible refine Kd.C_drew ?_))); (case side4 => exact HC0_1.out); (case side5 => repeat (first | exact (Kd.C_below HR0_2.out HB.out) | (with_reducible refine Kd.C_alloc ?_ _) | (with_reducible refine Kd.C_drewN ?_ _) | (with_reducible refine Kd.C_drew ?_))); (case side6 => exact HC0_2.out); (case side7 => repeat (first | exact (Kd.C_below HR0_3.out HB.out) | (with_reducible refine Kd.C_alloc ?_ _) | (with_reducible refine Kd.C_drewN ?_ _) | (with_reducible refine Kd.C_drew ?_))); (case side8 => exact HC0_3.out); (case side9 => repeat (first | exact (Kd.C_below HR0_4.out HB.out) | (with_reducible refine Kd.C_alloc ?_ _) | (with_reducible refine Kd.C_drewN ?_ _) | (with_reducible refine Kd.C_drew ?_))); (case side10 => exact HC0_4.out); rintro e w39 ⟨v164, rfl, ho0, hb⟩; refine ⟨_, rfl, ?_⟩; have n0_ := Aside0.mk (Kd.R_lower ho0 (below_size (by repeat (first | (with_reducible first | exact HB.out | apply below_alloc | apply pw_below_drewN | apply below_drew1 | refine below_set ?_ GE157.out) | exact HB.out)))); have n1_ := Aside0.mk (blk_below (g := gb157) (o := .cells #[.slice A0_0 l0_0.length c0_0, .slice A0_1 l0_1.length c0_1, .slice A0_2 l0_2.length c0_2, .slice A0_3 l0_3.length c0_3, .slice A0_4 l0_4.length c0_4, .int .u64 a0_5] 27 (0, 0)) (by (with_reducible repeat (first | refine blk_drewN ?_ _ | refine blk_drew ?_ | refine blk_alloc ?_ _)); exact BK157.out) hb); have n2_ := Aside0.mk (below_step (by repeat (first | (with_reducible first | exact HB.out | apply below_alloc | apply pw_below_drewN | apply below_drew1 | refine below_set ?_ GE157.out) | exact HB.out)) hb); clear BK157; clear HB; have HO165 := n0_; have BK157 := n1_; have HB := n2_; clear n0_ n1_ n2_; (try clear hb); (try clear hb2); (try clear hk); (try clear hi); (try clear ho0); obtain ⟨Ao40, co40, eo40⟩ := Kd.R_slice HO165.out; subst eo40; have hcz41_0 : w39.cell? ⟨gb157, 0, none⟩ = some (.slice A0_0 l0_0.length c0_0) := (bkC BK157.out 0).trans rfl; have hcz41_1 : w39.cell? ⟨gb157, 1, none⟩ = some (.slice A0_1 l0_1.length c0_1) := (bkC BK157.out 1).trans rfl; have hcz41_2 : w39.cell? ⟨gb157, 2, none⟩ = some (.slice A0_2 l0_2.length c0_2) := (bkC BK157.out 2).trans rfl; have hcz41_3 : w39.cell? ⟨gb157, 3, none⟩ = some (.slice A0_3 l0_3.length c0_3) := (bkC BK157.out 3).trans rfl; have hcz41_4 : w39.cell? ⟨gb157, 4, none⟩ = some (.slice A0_4 l0_4.length c0_4) := (bkC BK157.out 4).trans rfl; have hcz41_5 : w39.cell? ⟨gb157, 5, none⟩ = some (.int .u64 a0_5) := (bkC BK157.out 5).trans rfl; have hfz41_0 := bkF BK157.out 0; have hfz41_1 := bkF BK157.out 1; have hfz41_2 := bkF BK157.out 2; have hfz41_3 := bkF BK157.out 3; have hfz41_4 := bkF BK157.out 4; have hfz41_5 := bkF BK157.out 5))
           go_loopg [82] kj24 (fun kq v82 w' => ∃ (x82_4 : Int), v82 = .int .i64 x82_4 /\ Aside0 (image_holders.l2 kq t163 (t163.length : Int) x82_4 l0_0 l0_1 l0_2 l0_3 l0_4 a0_5 = some r) /\ Aside0 (kq <= kj24) /\ Aside0 (Kd.R (Kd.int .i64) 3 w' w.heap.size (fun _ => True) (.slice Ao40 t163.length co40) t163) /\ Aside0 (w'.heap[gb157]? = some (.cells #[(.slice A0_0 l0_0.length c0_0), (.slice A0_1 l0_1.length c0_1), (.slice A0_2 l0_2.length c0_2), (.slice A0_3 l0_3.length c0_3), (.slice A0_4 l0_4.length c0_4), .int .u64 a0_5] 27 (0, 0))) /\ Aside0 (Below w.heap.size w w'))
           case atStart => exact ⟨(0), (by first | rfl | (simp; done) | (simp [*]; done)), H', ⟨Nat.le_refl _⟩, ⟨by (with_reducible repeat (first | apply Kd.R_alloc | apply Kd.R_drewN | apply Kd.R_drew)); exact HO165.out⟩, ⟨by (with_reducible repeat (first | refine blk_drewN ?_ _ | refine blk_drew ?_ | refine blk_alloc ?_ _)); exact BK157.out⟩, ⟨by repeat (first | (with_reducible first | exact HB.out | apply below_alloc | apply pw_below_drewN | apply below_drew1 | refine below_set ?_ GE157.out) | exact HB.out)⟩⟩
           case round =>
            clear H'
            try clear c1;try clear p1;try clear q1;try clear hx1;try clear c2;try clear p2;try clear c3;try clear c4;try clear c4b0;try clear c4b1;try clear c6;try clear c6b0;try clear c6b1;try clear p6;try clear c7;try clear c9;try clear c11;try clear c11b0;try clear c12;try clear c12b0;try clear c13;try clear c13b0;try clear c14;try clear c14b0;try clear c15;try clear c15b0;try clear p15;try clear q15;try clear hx15;try clear c16;try clear c16b0;try clear c17;try clear c17b0;try clear c17b1;try clear c19;try clear c24;try clear c24b0;try clear c27;try clear c35;try clear c37;try clear c37b0;try clear c37b1;try clear c37b2;try clear hcz10_0;try clear hcz10_1;try clear hcz10_2;try clear hcz10_3;try clear hcz10_4;try clear hcz10_5;try clear hcz20_0;try clear hcz20_1;try clear hcz20_2;try clear hcz20_3;try clear hcz20_4;try clear hcz20_5;try clear hcz22_0;try clear hcz22_1;try clear hcz22_2;try clear hcz22_3;try clear hcz22_4;try clear hcz22_5;try clear hcz29_0;try clear hcz29_1;try clear hcz29_2;try clear hcz29_3;try clear hcz29_4;try clear hcz29_5;try clear hcz31_0;try clear hcz31_1;try clear hcz31_2;try clear hcz31_3;try clear hcz31_4;try clear hcz31_5;try clear hcz33_0;try clear hcz33_1;try clear hcz33_2;try clear hcz33_3;try clear hcz33_4;try clear hcz33_5;try clear hcz38_0;try clear hcz38_1;try clear hcz38_2;try clear hcz38_3;try clear hcz38_4;try clear hcz38_5;try clear hcz41_0;try clear hcz41_1;try clear hcz41_2;try clear hcz41_3;try clear hcz41_4;try clear hcz41_5;try clear hcz5_0;try clear hcz5_1;try clear hcz5_2;try clear hcz5_3;try clear hcz5_4;try clear hcz5_5;try clear hcz7_0;try clear hcz7_1;try clear hcz7_2;try clear hcz7_3;try clear hcz7_4;try clear hcz7_5;try clear hcz8_0;try clear hcz8_1;try clear hcz8_2;try clear hcz8_3;try clear hcz8_4;try clear hcz8_5;try clear hfz10_0;try clear hfz10_1;try clear hfz10_2;try clear hfz10_3;try clear hfz10_4;try clear hfz10_5;try clear hfz20_0;try clear hfz20_1;try clear hfz20_2;try clear hfz20_3;try clear hfz20_4;try clear hfz20_5
            try clear hfz22_0;try clear hfz22_1;try clear hfz22_2;try clear hfz22_3;try clear hfz22_4;try clear hfz22_5;try clear hfz29_0;try clear hfz29_1;try clear hfz29_2;try clear hfz29_3;try clear hfz29_4;try clear hfz29_5;try clear hfz31_0;try clear hfz31_1;try clear hfz31_2;try clear hfz31_3;try clear hfz31_4;try clear hfz31_5;try clear hfz33_0;try clear hfz33_1;try clear hfz33_2;try clear hfz33_3;try clear hfz33_4;try clear hfz33_5;try clear hfz38_0;try clear hfz38_1;try clear hfz38_2;try clear hfz38_3;try clear hfz38_4;try clear hfz38_5;try clear hfz41_0;try clear hfz41_1;try clear hfz41_2;try clear hfz41_3;try clear hfz41_4;try clear hfz41_5;try clear hfz5_0;try clear hfz5_1;try clear hfz5_2;try clear hfz5_3;try clear hfz5_4;try clear hfz5_5;try clear hfz7_0;try clear hfz7_1;try clear hfz7_2;try clear hfz7_3;try clear hfz7_4;try clear hfz7_5;try clear hfz8_0;try clear hfz8_1;try clear hfz8_2;try clear hfz8_3;try clear hfz8_4;try clear hfz8_5;try clear hx158_0;try clear hx159_0;try clear p1;try clear p15;try clear p158;try clear p159;try clear p2;try clear p6;try clear q1;try clear q15;try clear q158;try clear q159
            obtain ⟨x82_4, rfl, HA, HK4, HO_80, BK157, HB⟩ := hrel
            cases gk with
            | zero => exact absurd HA.out (by simp [image_holders.l2])
            | succ k4 =>
             have H := HA.out
             clear HA
             simp only [image_holders.l2] at H
             by_cases c42 : x82_4 < (t163.length : Int)
             ·rw [if_pos c42] at H
              have c42b0 : decide (x82_4 < (t163.length : Int)) = true := decide_eq_true c42
              clear c42
              by_cases c43 : 0 <= x82_4
              ·rw [if_pos c43] at H
               have c43b0 : decide (0 <= x82_4) = true := decide_eq_true c43
               clear c43
               by_cases c44 : x82_4 < (t163.length : Int)
               ·rw [if_pos c44] at H
                have c44b0 : decide (x82_4 < (t163.length : Int)) = true := decide_eq_true c44
                clear c44
                by_cases c45 : x82_4 < (l0_3.length : Int)
                ·rw [if_pos c45] at H
                 have c45b0 : decide (x82_4 < (l0_3.length : Int)) = true := decide_eq_true c45
                 clear c45
                 by_cases c46 : (rd l0_3 x82_4) = (rd t163 x82_4)
                 ·rw [if_pos c46] at H
                  have c46b0 : ((rd l0_3 x82_4) == (rd t163 x82_4)) = true := beq_iff_eq.mpr c46
                  have c46b1 : ((rd l0_3 x82_4) != (rd t163 x82_4)) = false := bne_eq_false_iff_eq.mpr c46
                  clear c46
                  have H' := Aside0.mk H
                  clear H
                  have p166 : 0 <= (x82_4 : Int) := of_decide_eq_true (by first | (with_reducible assumption) | assumption)
                  have q166 : x82_4 < (t163.length : Int) := of_decide_eq_true (by first | (with_reducible assumption) | assumption)
                  obtain ⟨ad166, e166, hx166_0⟩ := Kd.at_int (Kd.R_reads' HO_80.out).2.2 x82_4 p166 q166
                  cases e166
                  replace p166 := eq_true p166
                  replace q166 := eq_true q166
                  have hcz47_0 : wr.cell? ⟨gb157, 0, none⟩ = some (.slice A0_0 l0_0.length c0_0) := (bkC BK157.out 0).trans rfl
                  have hcz47_1 : wr.cell? ⟨gb157, 1, none⟩ = some (.slice A0_1 l0_1.length c0_1) := (bkC BK157.out 1).trans rfl
                  have hcz47_2 : wr.cell? ⟨gb157, 2, none⟩ = some (.slice A0_2 l0_2.length c0_2) := (bkC BK157.out 2).trans rfl
                  have hcz47_3 : wr.cell? ⟨gb157, 3, none⟩ = some (.slice A0_3 l0_3.length c0_3) := (bkC BK157.out 3).trans rfl
                  have hcz47_4 : wr.cell? ⟨gb157, 4, none⟩ = some (.slice A0_4 l0_4.length c0_4) := (bkC BK157.out 4).trans rfl
                  have hcz47_5 : wr.cell? ⟨gb157, 5, none⟩ = some (.int .u64 a0_5) := (bkC BK157.out 5).trans rfl
                  have hfz47_0 := bkF BK157.out 0
                  have hfz47_1 := bkF BK157.out 1
                  have hfz47_2 := bkF BK157.out 2
                  have hfz47_3 := bkF BK157.out 3
                  have hfz47_4 := bkF BK157.out 4
                  have hfz47_5 := bkF BK157.out 5
                  have p167 : 0 <= (x82_4 : Int) := of_decide_eq_true (by first | (with_reducible assumption) | assumption)
                  have q167 : x82_4 < (l0_3.length : Int) := of_decide_eq_true (by first | (with_reducible assumption) | assumption)
                  obtain ⟨ad167, e167, hx167_0⟩ := Kd.at_int HR0_3.out x82_4 p167 q167
                  cases e167
                  replace hx167_0 := (HB.out.cell (World.block_lt_of_cell? w _ hx167_0)).trans hx167_0
                  replace p167 := eq_true p167
                  replace q167 := eq_true q167
                  go_wp2
                  go_roundg k4
                  case measure => have := HJ1.out; have := HK2.out; have := HJ24.out; have := HK4.out; omega
                  case rel => exact ⟨(wrap64 (x82_4 + 1)), (by first | rfl | (simp; done) | (simp [*]; done)), H', ⟨by have := HJ1.out; have := HK2.out; have := HJ24.out; have := HK4.out; omega⟩, ⟨by (with_reducible repeat (first | apply Kd.R_alloc | apply Kd.R_drewN | apply Kd.R_drew)); exact HO_80.out⟩, ⟨by (with_reducible repeat (first | refine blk_drewN ?_ _ | refine blk_drew ?_ | refine blk_alloc ?_ _)); exact BK157.out⟩, ⟨by repeat (first | (with_reducible first | exact HB.out | apply below_alloc | apply pw_below_drewN | apply below_drew1 | refine below_set ?_ GE157.out) | exact HB.out)⟩⟩
                 ·rw [if_neg c46] at H
                  have c46b0 : ((rd l0_3 x82_4) == (rd t163 x82_4)) = false := beq_eq_false_iff_ne.mpr c46
                  have c46b1 : ((rd l0_3 x82_4) != (rd t163 x82_4)) = true := bne_iff_ne.mpr c46
                  obtain rfl := Option.some.inj H
                  have p166 : 0 <= (x82_4 : Int) := of_decide_eq_true (by first | (with_reducible assumption) | assumption)
                  have q166 : x82_4 < (t163.length : Int) := of_decide_eq_true (by first | (with_reducible assumption) | assumption)
                  obtain ⟨ad166, e166, hx166_0⟩ := Kd.at_int (Kd.R_reads' HO_80.out).2.2 x82_4 p166 q166
                  cases e166
                  replace p166 := eq_true p166
                  replace q166 := eq_true q166
                  have hcz48_0 : wr.cell? ⟨gb157, 0, none⟩ = some (.slice A0_0 l0_0.length c0_0) := (bkC BK157.out 0).trans rfl
                  have hcz48_1 : wr.cell? ⟨gb157, 1, none⟩ = some (.slice A0_1 l0_1.length c0_1) := (bkC BK157.out 1).trans rfl
                  have hcz48_2 : wr.cell? ⟨gb157, 2, none⟩ = some (.slice A0_2 l0_2.length c0_2) := (bkC BK157.out 2).trans rfl
                  have hcz48_3 : wr.cell? ⟨gb157, 3, none⟩ = some (.slice A0_3 l0_3.length c0_3) := (bkC BK157.out 3).trans rfl
                  have hcz48_4 : wr.cell? ⟨gb157, 4, none⟩ = some (.slice A0_4 l0_4.length c0_4) := (bkC BK157.out 4).trans rfl
                  have hcz48_5 : wr.cell? ⟨gb157, 5, none⟩ = some (.int .u64 a0_5) := (bkC BK157.out 5).trans rfl
                  have hfz48_0 := bkF BK157.out 0
                  have hfz48_1 := bkF BK157.out 1
                  have hfz48_2 := bkF BK157.out 2
                  have hfz48_3 := bkF BK157.out 3
                  have hfz48_4 := bkF BK157.out 4
                  have hfz48_5 := bkF BK157.out 5
                  have p167 : 0 <= (x82_4 : Int) := of_decide_eq_true (by first | (with_reducible assumption) | assumption)
                  have q167 : x82_4 < (l0_3.length : Int) := of_decide_eq_true (by first | (with_reducible assumption) | assumption)
                  obtain ⟨ad167, e167, hx167_0⟩ := Kd.at_int HR0_3.out x82_4 p167 q167
                  cases e167
                  replace hx167_0 := (HB.out.cell (World.block_lt_of_cell? w _ hx167_0)).trans hx167_0
                  replace p167 := eq_true p167
                  replace q167 := eq_true q167
                  go_wp2
                  go_ret
                  exact ⟨by first | rfl | (simp [errW_none, errW_some] <;> rfl) | (simp [*, errW_none, errW_some] <;> rfl), by repeat (first | (with_reducible first | exact HB.out | apply below_alloc | apply pw_below_drewN | apply below_drew1 | refine below_set ?_ GE157.out) | exact HB.out)⟩
                ·rw [if_neg c45] at H
                 exact absurd H (by simp)
               ·rw [if_neg c44] at H
                exact absurd H (by simp)
              ·rw [if_neg c43] at H
               exact absurd H (by simp)
             ·rw [if_neg c42] at H
              have c42b0 : decide (x82_4 < (t163.length : Int)) = false := decide_eq_false c42
              clear c42
              obtain ⟨ji49, hji49⟩ : ∃ j_ : Int, (wrap64 ((l0_0.length : Int) + 1)) = j_ := ⟨_, rfl⟩
              replace H : (if 0 <= (ji49) then (if (ji49 : Int).toNat <= 281474976710656 then (image_holders.l3 k4 (List.replicate (ji49 : Int).toNat false) l0_4 (l0_4.length : Int) 0 l0_0 l0_1 l0_2 l0_3 l0_4 a0_5) else (none)) else (none)) = some r := by first | (rw [hji49] at H; exact H) | (simp only [hji49] at H ⊢; exact H)
              have hji49w : (IntKind.i64.wrap ((l0_0.length : Int) + 1)) = ji49 := (i64_w _).trans hji49
              by_cases c50 : 0 <= (ji49)
              ·rw [if_pos c50] at H
               have c50b0 := eq_true c50
               have c50b1 : decide (0 <= (ji49)) = true := decide_eq_true c50
               clear c50
               by_cases c51 : (ji49 : Int).toNat <= 281474976710656
               ·rw [if_pos c51] at H
                have c51b0 := eq_true c51
                have c51b1 : decide ((ji49 : Int).toNat <= 281474976710656) = true := decide_eq_true c51
                clear c51
                obtain ⟨y168, hy168⟩ : ∃ y_ : List Bool, y_ = (List.replicate (ji49 : Int).toNat false) := ⟨_, rfl⟩
                replace H : (image_holders.l3 k4 y168 l0_4 (l0_4.length : Int) 0 l0_0 l0_1 l0_2 l0_3 l0_4 a0_5) = some r := by first | (rw [hy168]; with_reducible exact H) | (have H2_ := (Option.bind_some _ _).symm.trans H; rw [hy168]; with_reducible exact H2_) | (have H2_ := (Option.bind_some _ _).symm.trans H; with_reducible exact H2_) | with_reducible exact H | (rw [hy168]; exact H) | exact H
                have Ny168 := Aside0.mk hy168
                clear hy168
                have H' := Aside0.mk H
                clear H
                have hcz52_0 : wr.cell? ⟨gb157, 0, none⟩ = some (.slice A0_0 l0_0.length c0_0) := (bkC BK157.out 0).trans rfl
                have hcz52_1 : wr.cell? ⟨gb157, 1, none⟩ = some (.slice A0_1 l0_1.length c0_1) := (bkC BK157.out 1).trans rfl
                have hcz52_2 : wr.cell? ⟨gb157, 2, none⟩ = some (.slice A0_2 l0_2.length c0_2) := (bkC BK157.out 2).trans rfl
                have hcz52_3 : wr.cell? ⟨gb157, 3, none⟩ = some (.slice A0_3 l0_3.length c0_3) := (bkC BK157.out 3).trans rfl
                have hcz52_4 : wr.cell? ⟨gb157, 4, none⟩ = some (.slice A0_4 l0_4.length c0_4) := (bkC BK157.out 4).trans rfl
                have hcz52_5 : wr.cell? ⟨gb157, 5, none⟩ = some (.int .u64 a0_5) := (bkC BK157.out 5).trans rfl
                have hfz52_0 := bkF BK157.out 0
                have hfz52_1 := bkF BK157.out 1
                have hfz52_2 := bkF BK157.out 2
                have hfz52_3 := bkF BK157.out 3
                have hfz52_4 := bkF BK157.out 4
                have hfz52_5 := bkF BK157.out 5
                go_wp2_with (first | ((with_reducible refine gate_dst (N := 99) rfl ?_); (try (refine gate_guard (by rfl) ?_; dsimp only)); refine Kd.R_make Kd.bool _ 4 rfl (N := 99) rfl 52 _ _ rfl ji49 rfl rfl Tryd.underlying52 (.bool false) 1 info4 rfl (by decide) (by omega) false (ok := fun _ => True) (okp := fun _ => True) rfl (fun _ hk => hk) trivial (of_decide_eq_true (by first | (with_reducible assumption) | assumption)) (Nat.le_trans (Nat.mul_le_mul_right _ (of_decide_eq_true (by first | (with_reducible assumption) | assumption) : ji49.toNat <= 281474976710656)) (by omega)) (Below.refl _ _) (Nat.le_refl _) ?_; intro v169 w53 ho54 hb hg_ hnew_; clear hg_ hnew_; (first | rw [<- Ny168.out] at ho54 | (simp only [Int.reduceToNat] at ho54; rw [<- Ny168.out] at ho54)); have n0_ := Aside0.mk (Kd.R_below (by (with_reducible repeat (first | apply Kd.R_alloc | apply Kd.R_drewN | apply Kd.R_drew)); exact HO_80.out) hb); have n1_ := Aside0.mk (Kd.R_lower ho54 (below_size (by repeat (first | (with_reducible first | exact HB.out | apply below_alloc | apply pw_below_drewN | apply below_drew1 | refine below_set ?_ GE157.out) | exact HB.out)))); have n2_ := Aside0.mk (blk_below (g := gb157) (o := .cells #[.slice A0_0 l0_0.length c0_0, .slice A0_1 l0_1.length c0_1, .slice A0_2 l0_2.length c0_2, .slice A0_3 l0_3.length c0_3, .slice A0_4 l0_4.length c0_4, .int .u64 a0_5] 27 (0, 0)) (by (with_reducible repeat (first | refine blk_drewN ?_ _ | refine blk_drew ?_ | refine blk_alloc ?_ _)); exact BK157.out) hb); have n3_ := Aside0.mk (below_step (by repeat (first | (with_reducible first | exact HB.out | apply below_alloc | apply pw_below_drewN | apply below_drew1 | refine below_set ?_ GE157.out) | exact HB.out)) hb); clear HO_80; clear BK157; clear HB; have HO_80 := n0_; have HO170 := n1_; have BK157 := n2_; have HB := n3_; clear n0_ n1_ n2_ n3_; clear hb ho54; have hcz55_0 : w53.cell? ⟨gb157, 0, none⟩ = some (.slice A0_0 l0_0.length c0_0) := (bkC BK157.out 0).trans rfl; have hcz55_1 : w53.cell? ⟨gb157, 1, none⟩ = some (.slice A0_1 l0_1.length c0_1) := (bkC BK157.out 1).trans rfl; have hcz55_2 : w53.cell? ⟨gb157, 2, none⟩ = some (.slice A0_2 l0_2.length c0_2) := (bkC BK157.out 2).trans rfl; have hcz55_3 : w53.cell? ⟨gb157, 3, none⟩ = some (.slice A0_3 l0_3.length c0_3) := (bkC BK157.out 3).trans rfl; have hcz55_4 : w53.cell? ⟨gb157, 4, none⟩ = some (.slice A0_4 l0_4.length c0_4) := (bkC BK157.out 4).trans rfl; have hcz55_5 : w53.cell? ⟨gb157, 5, none⟩ = some (.int .u64 a0_5) := (bkC BK157.out 5).trans rfl; have hfz55_0 := bkF BK157.out 0; have hfz55_1 := bkF BK157.out 1; have hfz55_2 := bkF BK157.out 2; have hfz55_3 := bkF BK157.out 3; have hfz55_4 := bkF BK157.out 4; have hfz55_5 := bkF BK157.out 5))
                go_loopg [103] k4 (fun kq v103 w' => ∃ (x11_5 : List Bool) (x103_5 : Int), v103 = .int .i64 x103_5 /\ Aside0 (image_holders.l3 kq x11_5 l0_4 (l0_4.length : Int) x103_5 l0_0 l0_1 l0_2 l0_3 l0_4 a0_5 = some r) /\ Aside0 (kq <= k4) /\ Aside0 (Kd.R Kd.bool 4 w' w.heap.size (fun _ => True) v169 x11_5) /\ Aside0 (w'.heap[gb157]? = some (.cells #[(.slice A0_0 l0_0.length c0_0), (.slice A0_1 l0_1.length c0_1), (.slice A0_2 l0_2.length c0_2), (.slice A0_3 l0_3.length c0_3), (.slice A0_4 l0_4.length c0_4), .int .u64 a0_5] 27 (0, 0))) /\ Aside0 (Below w.heap.size w w'))
                case atStart => exact ⟨(y168), (0), (by first | rfl | (simp; done) | (simp [*]; done)), H', ⟨Nat.le_refl _⟩, ⟨by (with_reducible repeat (first | apply Kd.R_alloc | apply Kd.R_drewN | apply Kd.R_drew)); exact HO170.out⟩, ⟨by (with_reducible repeat (first | refine blk_drewN ?_ _ | refine blk_drew ?_ | refine blk_alloc ?_ _)); exact BK157.out⟩, ⟨by repeat (first | (with_reducible first | exact HB.out | apply below_alloc | apply pw_below_drewN | apply below_drew1 | refine below_set ?_ GE157.out) | exact HB.out)⟩⟩
                case round =>
                 clear H'
                 try clear c1;try clear p1;try clear q1;try clear hx1;try clear c2;try clear p2;try clear c3;try clear c4;try clear c4b0;try clear c4b1;try clear c5;try clear c6;try clear c6b0;try clear c6b1;try clear p6;try clear c7;try clear c9;try clear c11;try clear c11b0;try clear c12;try clear c12b0;try clear c13;try clear c13b0;try clear c14;try clear c14b0;try clear c15;try clear c15b0;try clear p15;try clear q15;try clear hx15;try clear c16;try clear c16b0;try clear p16;try clear q16;try clear hx16;try clear c17;try clear c17b0;try clear c17b1;try clear c19;try clear c24;try clear c24b0;try clear c27;try clear c35;try clear c37;try clear c37b0;try clear c37b1;try clear c37b2;try clear c42;try clear c42b0;try clear c43;try clear c43b0;try clear c44;try clear c44b0;try clear c45;try clear c45b0;try clear c46;try clear c46b0;try clear c46b1;try clear c50;try clear c50b0;try clear c50b1;try clear c51;try clear c51b0;try clear c51b1;try clear hcz10_0;try clear hcz10_1;try clear hcz10_2;try clear hcz10_3;try clear hcz10_4;try clear hcz10_5;try clear hcz20_0;try clear hcz20_1;try clear hcz20_2;try clear hcz20_3;try clear hcz20_4;try clear hcz20_5;try clear hcz22_0;try clear hcz22_1;try clear hcz22_2;try clear hcz22_3;try clear hcz22_4;try clear hcz22_5;try clear hcz29_0;try clear hcz29_1;try clear hcz29_2;try clear hcz29_3;try clear hcz29_4;try clear hcz29_5;try clear hcz31_0;try clear hcz31_1;try clear hcz31_2;try clear hcz31_3;try clear hcz31_4;try clear hcz31_5;try clear hcz33_0;try clear hcz33_1;try clear hcz33_2;try clear hcz33_3;try clear hcz33_4;try clear hcz33_5;try clear hcz38_0;try clear hcz38_1;try clear hcz38_2;try clear hcz38_3;try clear hcz38_4;try clear hcz38_5;try clear hcz41_0;try clear hcz41_1;try clear hcz41_2;try clear hcz41_3;try clear hcz41_4;try clear hcz41_5;try clear hcz47_0;try clear hcz47_1;try clear hcz47_2;try clear hcz47_3;try clear hcz47_4;try clear hcz47_5;try clear hcz48_0;try clear hcz48_1;try clear hcz48_2;try clear hcz48_3;try clear hcz48_4;try clear hcz48_5
                 try clear hcz52_0;try clear hcz52_1;try clear hcz52_2;try clear hcz52_3;try clear hcz52_4;try clear hcz52_5;try clear hcz55_0;try clear hcz55_1;try clear hcz55_2;try clear hcz55_3;try clear hcz55_4;try clear hcz55_5;try clear hcz5_0;try clear hcz5_1;try clear hcz5_2;try clear hcz5_3;try clear hcz5_4;try clear hcz5_5;try clear hcz7_0;try clear hcz7_1;try clear hcz7_2;try clear hcz7_3;try clear hcz7_4;try clear hcz7_5;try clear hcz8_0;try clear hcz8_1;try clear hcz8_2;try clear hcz8_3;try clear hcz8_4;try clear hcz8_5;try clear hfz10_0;try clear hfz10_1;try clear hfz10_2;try clear hfz10_3;try clear hfz10_4;try clear hfz10_5;try clear hfz20_0;try clear hfz20_1;try clear hfz20_2;try clear hfz20_3;try clear hfz20_4;try clear hfz20_5;try clear hfz22_0;try clear hfz22_1;try clear hfz22_2;try clear hfz22_3;try clear hfz22_4;try clear hfz22_5;try clear hfz29_0;try clear hfz29_1;try clear hfz29_2;try clear hfz29_3;try clear hfz29_4;try clear hfz29_5;try clear hfz31_0;try clear hfz31_1;try clear hfz31_2;try clear hfz31_3;try clear hfz31_4;try clear hfz31_5;try clear hfz33_0;try clear hfz33_1;try clear hfz33_2;try clear hfz33_3;try clear hfz33_4;try clear hfz33_5;try clear hfz38_0;try clear hfz38_1;try clear hfz38_2;try clear hfz38_3;try clear hfz38_4;try clear hfz38_5;try clear hfz41_0;try clear hfz41_1;try clear hfz41_2;try clear hfz41_3;try clear hfz41_4;try clear hfz41_5;try clear hfz47_0;try clear hfz47_1;try clear hfz47_2;try clear hfz47_3;try clear hfz47_4;try clear hfz47_5;try clear hfz48_0;try clear hfz48_1;try clear hfz48_2;try clear hfz48_3;try clear hfz48_4;try clear hfz48_5;try clear hfz52_0;try clear hfz52_1;try clear hfz52_2;try clear hfz52_3;try clear hfz52_4;try clear hfz52_5;try clear hfz55_0;try clear hfz55_1;try clear hfz55_2;try clear hfz55_3;try clear hfz55_4;try clear hfz55_5;try clear hfz5_0;try clear hfz5_1;try clear hfz5_2;try clear hfz5_3;try clear hfz5_4;try clear hfz5_5;try clear hfz7_0;try clear hfz7_1;try clear hfz7_2;try clear hfz7_3;try clear hfz7_4
                 try clear hfz7_5;try clear hfz8_0;try clear hfz8_1;try clear hfz8_2;try clear hfz8_3;try clear hfz8_4;try clear hfz8_5;try clear hx158_0;try clear hx159_0;try clear hx166_0;try clear hx167_0;try clear p1;try clear p15;try clear p158;try clear p159;try clear p166;try clear p167;try clear p2;try clear p6;try clear q1;try clear q15;try clear q158;try clear q159;try clear q166;try clear q167
                 obtain ⟨x11_5, x103_5, rfl, HA, HK5, HO_11, BK157, HB⟩ := hrel
                 cases gk with
                 | zero => exact absurd HA.out (by simp [image_holders.l3])
                 | succ k5 =>
                  have H := HA.out
                  clear HA
                  simp only [image_holders.l3] at H
                  by_cases c56 : x103_5 < (l0_4.length : Int)
                  ·rw [if_pos c56] at H
                   have c56b0 : decide (x103_5 < (l0_4.length : Int)) = true := decide_eq_true c56
                   clear c56
                   by_cases c57 : 0 <= x103_5
                   ·rw [if_pos c57] at H
                    have c57b0 : decide (0 <= x103_5) = true := decide_eq_true c57
                    clear c57
                    by_cases c58 : x103_5 < (l0_4.length : Int)
                    ·rw [if_pos c58] at H
                     have c58b0 : decide (x103_5 < (l0_4.length : Int)) = true := decide_eq_true c58
                     clear c58
                     by_cases c59 : 0 <= (rd l0_4 x103_5)
                     ·rw [if_pos c59] at H
                      have c59b0 : decide (0 <= (rd l0_4 x103_5)) = true := decide_eq_true c59
                      clear c59
                      by_cases c60 : (rd l0_4 x103_5) < (x11_5.length : Int)
                      ·rw [if_pos c60] at H
                       have c60b0 : decide ((rd l0_4 x103_5) < (x11_5.length : Int)) = true := decide_eq_true c60
                       clear c60
                       obtain ⟨bq61, hbq61⟩ : ∃ b_ : Bool, b_ = (rdOf false x11_5 (rd l0_4 x103_5)) := ⟨_, rfl⟩
                       replace H : (if bq61 = true then (some false) else (if 0 <= (wrap64 ((rd l0_4 x103_5) - 1)) then (if (wrap64 ((rd l0_4 x103_5) - 1)) < (l0_0.length : Int) then (if ((rd_T59 l0_0 (wrap64 ((rd l0_4 x103_5) - 1))).f1) = 4 then (some false) else (image_holders.l3 k5 (x11_5.set ((rd l0_4 x103_5) : Int).toNat true) l0_4 (l0_4.length : Int) (wrap64 (x103_5 + 1)) l0_0 l0_1 l0_2 l0_3 l0_4 a0_5)) else (none)) else (none))) = some r := by rw [<- hbq61] at H; exact H
                       have Nbq61 := Aside0.mk hbq61
                       clear hbq61
                       by_cases c62 : bq61 = true
                       ·subst c62
                        have H1 : (some false) = some r := by rw [if_pos rfl] at H; exact H
                        clear H
                        have H := H1
                        clear H1
                        obtain rfl := Option.some.inj H
                        have p171 : 0 <= (x103_5 : Int) := of_decide_eq_true (by first | (with_reducible assumption) | assumption)
                        have q171 : x103_5 < (l0_4.length : Int) := of_decide_eq_true (by first | (with_reducible assumption) | assumption)
                        obtain ⟨ad171, e171, hx171_0⟩ := Kd.at_int HR0_4.out x103_5 p171 q171
                        cases e171
                        replace hx171_0 := (HB.out.cell (World.block_lt_of_cell? w _ hx171_0)).trans hx171_0
                        replace p171 := eq_true p171
                        replace q171 := eq_true q171
                        obtain ⟨Ao63, co63, eo63⟩ := Kd.R_slice HO_11.out
                        subst eo63
                        have p172 : 0 <= ((rd l0_4 x103_5) : Int) := of_decide_eq_true (by first | (with_reducible assumption) | assumption)
                        have q172 : (rd l0_4 x103_5) < (x11_5.length : Int) := of_decide_eq_true (by first | (with_reducible assumption) | assumption)
                        obtain ⟨ad172, e172, hx172_0⟩ := Kd.at_bool (Kd.R_reads' HO_11.out).2.2 (rd l0_4 x103_5) p172 q172
                        (try rw [<- Nbq61.out] at hx172_0)
                        cases e172
                        replace p172 := eq_true p172
                        replace q172 := eq_true q172
                        go_wp2
                        go_ret
                        exact ⟨by first | rfl | (simp [errW_none, errW_some] <;> rfl) | (simp only [<- hji49]; first | rfl | (simp [errW_none, errW_some] <;> rfl)) | (simp [*, errW_none, errW_some] <;> rfl), by repeat (first | (with_reducible first | exact HB.out | apply below_alloc | apply pw_below_drewN | apply below_drew1 | refine below_set ?_ GE157.out) | exact HB.out)⟩
                       ·replace c62 := Bool.eq_false_iff.mpr c62
                        subst c62
                        have H1 : (if 0 <= (wrap64 ((rd l0_4 x103_5) - 1)) then (if (wrap64 ((rd l0_4 x103_5) - 1)) < (l0_0.length : Int) then (if ((rd_T59 l0_0 (wrap64 ((rd l0_4 x103_5) - 1))).f1) = 4 then (some false) else (image_holders.l3 k5 (x11_5.set ((rd l0_4 x103_5) : Int).toNat true) l0_4 (l0_4.length : Int) (wrap64 (x103_5 + 1)) l0_0 l0_1 l0_2 l0_3 l0_4 a0_5)) else (none)) else (none)) = some r := by rw [if_neg (show ¬ (false = true) by decide)] at H; exact H
                        clear H
                        have H := H1
                        clear H1
                        obtain ⟨ji64, hji64⟩ : ∃ j_ : Int, (wrap64 ((rd l0_4 x103_5) - 1)) = j_ := ⟨_, rfl⟩
                        replace H : (if 0 <= (ji64) then (if (ji64) < (l0_0.length : Int) then (if ((rd_T59 l0_0 (ji64)).f1) = 4 then (some false) else (image_holders.l3 k5 (x11_5.set ((rd l0_4 x103_5) : Int).toNat true) l0_4 (l0_4.length : Int) (wrap64 (x103_5 + 1)) l0_0 l0_1 l0_2 l0_3 l0_4 a0_5)) else (none)) else (none)) = some r := by first | (rw [hji64] at H; exact H) | (simp only [hji64] at H ⊢; exact H)
                        have hji64w : (IntKind.i64.wrap ((rd l0_4 x103_5) - 1)) = ji64 := (i64_w _).trans hji64
                        by_cases c65 : 0 <= (ji64)
                        ·rw [if_pos c65] at H
                         have c65b0 : decide (0 <= (ji64)) = true := decide_eq_true c65
                         clear c65
                         by_cases c66 : (ji64) < (l0_0.length : Int)
                         ·rw [if_pos c66] at H
                          have c66b0 : decide ((ji64) < (l0_0.length : Int)) = true := decide_eq_true c66
                          clear c66
                          by_cases c67 : ((rd_T59 l0_0 (ji64)).f1) = 4
                          ·rw [if_pos c67] at H
                           have c67b0 : (((rd_T59 l0_0 (ji64)).f1) == 4) = true := beq_iff_eq.mpr c67
                           have c67b1 : (((rd_T59 l0_0 (ji64)).f1) != 4) = false := bne_eq_false_iff_eq.mpr c67
                           clear c67
                           obtain rfl := Option.some.inj H
                           have p171 : 0 <= (x103_5 : Int) := of_decide_eq_true (by first | (with_reducible assumption) | assumption)
                           have q171 : x103_5 < (l0_4.length : Int) := of_decide_eq_true (by first | (with_reducible assumption) | assumption)
                           obtain ⟨ad171, e171, hx171_0⟩ := Kd.at_int HR0_4.out x103_5 p171 q171
                           cases e171
                           replace hx171_0 := (HB.out.cell (World.block_lt_of_cell? w _ hx171_0)).trans hx171_0
                           replace p171 := eq_true p171
                           replace q171 := eq_true q171
                           obtain ⟨Ao68, co68, eo68⟩ := Kd.R_slice HO_11.out
                           subst eo68
                           have p172 : 0 <= ((rd l0_4 x103_5) : Int) := of_decide_eq_true (by first | (with_reducible assumption) | assumption)
                           have q172 : (rd l0_4 x103_5) < (x11_5.length : Int) := of_decide_eq_true (by first | (with_reducible assumption) | assumption)
                           obtain ⟨ad172, e172, hx172_0⟩ := Kd.at_bool (Kd.R_reads' HO_11.out).2.2 (rd l0_4 x103_5) p172 q172
                           (try rw [<- Nbq61.out] at hx172_0)
                           cases e172
                           replace p172 := eq_true p172
                           replace q172 := eq_true q172
                           have hcz69_0 : wr.cell? ⟨gb157, 0, none⟩ = some (.slice A0_0 l0_0.length c0_0) := (bkC BK157.out 0).trans rfl
                           have hcz69_1 : wr.cell? ⟨gb157, 1, none⟩ = some (.slice A0_1 l0_1.length c0_1) := (bkC BK157.out 1).trans rfl
                           have hcz69_2 : wr.cell? ⟨gb157, 2, none⟩ = some (.slice A0_2 l0_2.length c0_2) := (bkC BK157.out 2).trans rfl
                           have hcz69_3 : wr.cell? ⟨gb157, 3, none⟩ = some (.slice A0_3 l0_3.length c0_3) := (bkC BK157.out 3).trans rfl
                           have hcz69_4 : wr.cell? ⟨gb157, 4, none⟩ = some (.slice (some ad171) l0_4.length c0_4) := (bkC BK157.out 4).trans rfl
                           have hcz69_5 : wr.cell? ⟨gb157, 5, none⟩ = some (.int .u64 a0_5) := (bkC BK157.out 5).trans rfl
                           have hfz69_0 := bkF BK157.out 0
                           have hfz69_1 := bkF BK157.out 1
                           have hfz69_2 := bkF BK157.out 2
                           have hfz69_3 := bkF BK157.out 3
                           have hfz69_4 := bkF BK157.out 4
                           have hfz69_5 := bkF BK157.out 5
                           have p173 : 0 <= ((ji64) : Int) := of_decide_eq_true (by first | (with_reducible assumption) | assumption)
                           have q173 : (ji64) < (l0_0.length : Int) := of_decide_eq_true (by first | (with_reducible assumption) | assumption)
                           obtain ⟨ad173, A173_3, c173_3, A173_4, c173_4, e173, hx173_0, hx173_1, hx173_2, hx173_3, hx173_4, hl173_3, hi173_3, hl173_4, hi173_4⟩ := at_T59 HR0_0.out (ji64) p173 q173
                           cases e173
                           replace hx173_0 := (HB.out.cell (World.block_lt_of_cell? w _ hx173_0)).trans hx173_0
                           replace hx173_1 := (HB.out.cell (World.block_lt_of_cell? w _ hx173_1)).trans hx173_1
                           replace hx173_2 := (HB.out.cell (World.block_lt_of_cell? w _ hx173_2)).trans hx173_2
                           replace hx173_3 := (HB.out.cell (World.block_lt_of_cell? w _ hx173_3)).trans hx173_3
                           replace hx173_4 := (HB.out.cell (World.block_lt_of_cell? w _ hx173_4)).trans hx173_4
                           have HR173_3 := Aside0.mk hi173_3
                           have HC173_3 := Aside0.mk hl173_3
                           clear hi173_3 hl173_3
                           have HR173_4 := Aside0.mk hi173_4
                           have HC173_4 := Aside0.mk hl173_4
                           clear hi173_4 hl173_4
                           replace p173 := eq_true p173
                           replace q173 := eq_true q173
                           go_wp2
                           go_ret
                           exact ⟨by first | rfl | (simp [errW_none, errW_some] <;> rfl) | (simp only [<- hji49, <- hji64]; first | rfl | (simp [errW_none, errW_some] <;> rfl)) | (simp [*, errW_none, errW_some] <;> rfl), by repeat (first | (with_reducible first | exact HB.out | apply below_alloc | apply pw_below_drewN | apply below_drew1 | refine below_set ?_ GE157.out) | exact HB.out)⟩
                          ·rw [if_neg c67] at H
                           have c67b0 : (((rd_T59 l0_0 (ji64)).f1) == 4) = false := beq_eq_false_iff_ne.mpr c67
                           have c67b1 : (((rd_T59 l0_0 (ji64)).f1) != 4) = true := bne_iff_ne.mpr c67
                           obtain ⟨y174, hy174⟩ : ∃ y_ : List Bool, y_ = (x11_5.set ((rd l0_4 x103_5) : Int).toNat true) := ⟨_, rfl⟩
                           replace H : (image_holders.l3 k5 y174 l0_4 (l0_4.length : Int) (wrap64 (x103_5 + 1)) l0_0 l0_1 l0_2 l0_3 l0_4 a0_5) = some r := by first | (rw [hy174]; with_reducible exact H) | (have H2_ := (Option.bind_some _ _).symm.trans H; rw [hy174]; with_reducible exact H2_) | (have H2_ := (Option.bind_some _ _).symm.trans H; with_reducible exact H2_) | with_reducible exact H | (rw [hy174]; exact H) | exact H
                           have Ny174 := Aside0.mk hy174
                           clear hy174
                           have H' := Aside0.mk H
                           clear H
                           have p171 : 0 <= (x103_5 : Int) := of_decide_eq_true (by first | (with_reducible assumption) | assumption)
                           have q171 : x103_5 < (l0_4.length : Int) := of_decide_eq_true (by first | (with_reducible assumption) | assumption)
                           obtain ⟨ad171, e171, hx171_0⟩ := Kd.at_int HR0_4.out x103_5 p171 q171
                           cases e171
                           replace hx171_0 := (HB.out.cell (World.block_lt_of_cell? w _ hx171_0)).trans hx171_0
                           replace p171 := eq_true p171
                           replace q171 := eq_true q171
                           obtain ⟨Ao71, co71, eo71⟩ := Kd.R_slice HO_11.out
                           subst eo71
                           have p172 : 0 <= ((rd l0_4 x103_5) : Int) := of_decide_eq_true (by first | (with_reducible assumption) | assumption)
                           have q172 : (rd l0_4 x103_5) < (x11_5.length : Int) := of_decide_eq_true (by first | (with_reducible assumption) | assumption)
                           obtain ⟨ad172, e172, hx172_0⟩ := Kd.at_bool (Kd.R_reads' HO_11.out).2.2 (rd l0_4 x103_5) p172 q172
                           (try rw [<- Nbq61.out] at hx172_0)
                           cases e172
                           replace p172 := eq_true p172
                           replace q172 := eq_true q172
                           have hcz72_0 : wr.cell? ⟨gb157, 0, none⟩ = some (.slice A0_0 l0_0.length c0_0) := (bkC BK157.out 0).trans rfl
                           have hcz72_1 : wr.cell? ⟨gb157, 1, none⟩ = some (.slice A0_1 l0_1.length c0_1) := (bkC BK157.out 1).trans rfl
                           have hcz72_2 : wr.cell? ⟨gb157, 2, none⟩ = some (.slice A0_2 l0_2.length c0_2) := (bkC BK157.out 2).trans rfl
                           have hcz72_3 : wr.cell? ⟨gb157, 3, none⟩ = some (.slice A0_3 l0_3.length c0_3) := (bkC BK157.out 3).trans rfl
                           have hcz72_4 : wr.cell? ⟨gb157, 4, none⟩ = some (.slice (some ad171) l0_4.length c0_4) := (bkC BK157.out 4).trans rfl
                           have hcz72_5 : wr.cell? ⟨gb157, 5, none⟩ = some (.int .u64 a0_5) := (bkC BK157.out 5).trans rfl
                           have hfz72_0 := bkF BK157.out 0
                           have hfz72_1 := bkF BK157.out 1
                           have hfz72_2 := bkF BK157.out 2
                           have hfz72_3 := bkF BK157.out 3
                           have hfz72_4 := bkF BK157.out 4
                           have hfz72_5 := bkF BK157.out 5
                           have p173 : 0 <= ((ji64) : Int) := of_decide_eq_true (by first | (with_reducible assumption) | assumption)
                           have q173 : (ji64) < (l0_0.length : Int) := of_decide_eq_true (by first | (with_reducible assumption) | assumption)
                           obtain ⟨ad173, A173_3, c173_3, A173_4, c173_4, e173, hx173_0, hx173_1, hx173_2, hx173_3, hx173_4, hl173_3, hi173_3, hl173_4, hi173_4⟩ := at_T59 HR0_0.out (ji64) p173 q173
                           cases e173
                           replace hx173_0 := (HB.out.cell (World.block_lt_of_cell? w _ hx173_0)).trans hx173_0
                           replace hx173_1 := (HB.out.cell (World.block_lt_of_cell? w _ hx173_1)).trans hx173_1
                           replace hx173_2 := (HB.out.cell (World.block_lt_of_cell? w _ hx173_2)).trans hx173_2
                           replace hx173_3 := (HB.out.cell (World.block_lt_of_cell? w _ hx173_3)).trans hx173_3
                           replace hx173_4 := (HB.out.cell (World.block_lt_of_cell? w _ hx173_4)).trans hx173_4
                           have HR173_3 := Aside0.mk hi173_3
                           have HC173_3 := Aside0.mk hl173_3
                           clear hi173_3 hl173_3
                           have HR173_4 := Aside0.mk hi173_4
                           have HC173_4 := Aside0.mk hl173_4
                           clear hi173_4 hl173_4
                           replace p173 := eq_true p173
                           replace q173 := eq_true q173
                           have p70 : 0 <= ((rd l0_4 x103_5) : Int) := of_decide_eq_true (by first | (with_reducible assumption) | assumption)
                           have q70 : ((rd l0_4 x103_5) : Int) < ((x11_5.length : Int) : Int) := of_decide_eq_true (by first | (with_reducible assumption) | assumption)
                           obtain ⟨go70, co70, eo70, gb70, gl70, cl70, HG70⟩ := Kd.R_form HO_11.out (by omega)
                           (first | cases eo70 | (injection eo70 with ea_ en_ ec_; (first | subst ea_ | (injection ea_ with ea_; subst ea_)); subst ec_; clear en_))
                           have GB70 := Aside0.mk gb70
                           have GG70 := Aside0.mk HG70
                           clear gb70 gl70 HG70
                           (first | simp only [add_plain] at hx172_0 | skip)
                           obtain ⟨hx70_0, hf70_0⟩ := Kd.R_celln false HO_11.out ((rd l0_4 x103_5) : Int) p70 q70
                           replace p70 := eq_true p70
                           replace q70 := eq_true q70
                           have HP73 := Kd.R_putg HO_11.out ((rd l0_4 x103_5) : Int) true
                           go_wp2_with (first | ((with_reducible refine gate_store (t := 4) (p := 123) rfl ?_); refine store_event (t := 4) (p := 123) (v := ?vo_w74) (w1 := (wr.setCell ⟨go70, ((rd l0_4 x103_5) : Int).toNat, none⟩ (.bool true))) ?hg ?ho ?hn ?hr ?_; (case ho => rfl); (case hg => rfl); (case hn => rfl); (case hr => first | (go_simp; done) | (go_simp; rfl)); intro w74 hw; have hg : wr.grownBy w74 (some go70) := (by rw [hw]; exact HP73.2); have hp_ : Kd.R Kd.bool 4 w74 w.heap.size (fun _ => True) (.slice (some ⟨go70, 0, none⟩) x11_5.length co71) y174 := (by rw [hw, Ny174.out]; exact HP73.1); clear HP73; have n0_ := Aside0.mk (hp_); have n1_ := Aside0.mk (blk_grown (g := gb157) (o := .cells #[.slice (some ad173) l0_0.length c0_0, .slice A0_1 l0_1.length c0_1, .slice A0_2 l0_2.length c0_2, .slice A0_3 l0_3.length c0_3, .slice (some ad171) l0_4.length c0_4, .int .u64 a0_5] 27 (0, 0)) (by (with_reducible repeat (first | refine blk_drewN ?_ _ | refine blk_drew ?_ | refine blk_alloc ?_ _)); exact BK157.out) hg (Kd.R_ne HO_11.out BK157.out (by decide))); have n2_ := Aside0.mk ((by rw [hw]; exact below_set (HB.out) GB70.out : Below w.heap.size w w74)); clear HO_11; clear BK157; clear HB; have HO_11 := n0_; have BK157 := n1_; have HB := n2_; clear n0_ n1_ n2_; clear hg hw hp_))
                           go_roundg k5
                           case measure => have := HJ1.out; have := HK2.out; have := HJ24.out; have := HK4.out; have := HK5.out; omega
                           case rel => exact ⟨(y174), (wrap64 (x103_5 + 1)), (by first | rfl | (simp; done) | (simp [*]; done)), H', ⟨by have := HJ1.out; have := HK2.out; have := HJ24.out; have := HK4.out; have := HK5.out; omega⟩, ⟨by (with_reducible repeat (first | apply Kd.R_alloc | apply Kd.R_drewN | apply Kd.R_drew)); exact HO_11.out⟩, ⟨by (with_reducible repeat (first | refine blk_drewN ?_ _ | refine blk_drew ?_ | refine blk_alloc ?_ _)); exact BK157.out⟩, ⟨by repeat (first | (with_reducible first | exact HB.out | apply below_alloc | apply pw_below_drewN | apply below_drew1 | refine below_set ?_ GE157.out) | exact HB.out)⟩⟩
                         ·rw [if_neg c66] at H
                          exact absurd H (by simp)
                        ·rw [if_neg c65] at H
                         exact absurd H (by simp)
                      ·rw [if_neg c60] at H
                       exact absurd H (by simp)
                     ·rw [if_neg c59] at H
                      exact absurd H (by simp)
                    ·rw [if_neg c58] at H
                     exact absurd H (by simp)
                   ·rw [if_neg c57] at H
                    exact absurd H (by simp)
                  ·rw [if_neg c56] at H
                   have c56b0 : decide (x103_5 < (l0_4.length : Int)) = false := decide_eq_false c56
                   clear c56
                   obtain rfl := Option.some.inj H
                   go_wp2
                   go_ret
                   exact ⟨by first | rfl | (simp [errW_none, errW_some] <;> rfl) | (simp only [<- hji49]; first | rfl | (simp [errW_none, errW_some] <;> rfl)) | (simp [*, errW_none, errW_some] <;> rfl), by repeat (first | (with_reducible first | exact HB.out | apply below_alloc | apply pw_below_drewN | apply below_drew1 | refine below_set ?_ GE157.out) | exact HB.out)⟩
               ·rw [if_neg c51] at H
                exact absurd H (by simp)
              ·rw [if_neg c50] at H
               exact absurd H (by simp)
          ·rw [if_neg c37] at H
           have c37b0 : ((t163.length : Int) == (l0_3.length : Int)) = false := beq_eq_false_iff_ne.mpr c37
           have c37b1 : ((t163.length : Int) != (l0_3.length : Int)) = true := bne_iff_ne.mpr c37
           have c37b2 : (t163.length == l0_3.length) = false := by first | simpa using c37 | (simp at c37 ⊢; omega)
           obtain rfl := Option.some.inj H
           have hcz75_0 : wc.cell? ⟨gb157, 0, none⟩ = some (.slice A0_0 l0_0.length c0_0) := (bkC BK157.out 0).trans rfl
           have hcz75_1 : wc.cell? ⟨gb157, 1, none⟩ = some (.slice A0_1 l0_1.length c0_1) := (bkC BK157.out 1).trans rfl
           have hcz75_2 : wc.cell? ⟨gb157, 2, none⟩ = some (.slice A0_2 l0_2.length c0_2) := (bkC BK157.out 2).trans rfl
           have hcz75_3 : wc.cell? ⟨gb157, 3, none⟩ = some (.slice A0_3 l0_3.length c0_3) := (bkC BK157.out 3).trans rfl
           have hcz75_4 : wc.cell? ⟨gb157, 4, none⟩ = some (.slice A0_4 l0_4.length c0_4) := (bkC BK157.out 4).trans rfl
           have hcz75_5 : wc.cell? ⟨gb157, 5, none⟩ = some (.int .u64 a0_5) := (bkC BK157.out 5).trans rfl
           have hfz75_0 := bkF BK157.out 0
           have hfz75_1 := bkF BK157.out 1
           have hfz75_2 := bkF BK157.out 2
           have hfz75_3 := bkF BK157.out 3
           have hfz75_4 := bkF BK157.out 4
           have hfz75_5 := bkF BK157.out 5
           go_wp2_with (first | ((with_reducible refine gate_callee (f := 115) rfl ?_); refine goesL_ (some 73) rfl rfl Tryd.func115 (by kernel_rfl) rfl #[.agg #[.slice A0_0 l0_0.length c0_0, .slice A0_1 l0_1.length c0_1, .slice A0_2 l0_2.length c0_2, .slice A0_3 l0_3.length c0_3, .slice A0_4 l0_4.length c0_4, .int .u64 a0_5]] rfl (by (try simp only [List.map_toArray, List.map_cons, List.map_nil]); first | done | rfl | (simp only [List.length_drop, List.length_take]; rfl)) ?_; (with_reducible refine (image_registry.calls kj24 _ _ l0_0 _ _ l0_1 _ _ l0_2 _ _ l0_3 _ _ l0_4 a0_5 t163 _ ?side1 ?side2 ?side3 ?side4 ?side5 ?side6 ?side7 ?side8 ?side9 ?side10 A36.out).mono ?_); (case side1 => repeat (first | exact (Kd.C_below HR0_0.out HB.out) | (with_reducible refine Kd.C_alloc ?_ _) | (with_reducible refine Kd.C_drewN ?_ _) | (with_reducible refine Kd.C_drew ?_))); (case side2 => exact HC0_0.out); (case side3 => repeat (first | exact (Kd.C_below HR0_1.out HB.out) | (with_reducible refine Kd.C_alloc ?_ _) | (with_reducible refine Kd.C_drewN ?_ _) | (with_reducible refine Kd.C_drew ?_))); (case side4 => exact HC0_1.out); (case side5 => repeat (first | exact (Kd.C_below HR0_2.out HB.out) | (with_reducible refine Kd.C_alloc ?_ _) | (with_reducible refine Kd.C_drewN ?_ _) | (with_reducible refine Kd.C_drew ?_))); (case side6 => exact HC0_2.out); (case side7 => repeat (first | exact (Kd.C_below HR0_3.out HB.out) | (with_reducible refine Kd.C_alloc ?_ _) | (with_reducible refine Kd.C_drewN ?_ _) | (with_reducible refine Kd.C_drew ?_))); (case side8 => exact HC0_3.out); (case side9 => repeat (first | exact (Kd.C_below HR0_4.out HB.out) | (with_reducible refine Kd.C_alloc ?_ _) | (with_reducible refine Kd.C_drewN ?_ _) | (with_reducible refine Kd.C_drew ?_))); (case side10 => exact HC0_4.out); rintro e w76 ⟨v164, rfl, ho0, hb⟩; refine ⟨_, rfl, ?_⟩; have n0_ := Aside0.mk (Kd.R_lower ho0 (below_size (by repeat (first | (with_reducible first | exact HB.out | apply below_alloc | apply pw_below_drewN | apply below_drew1 | refine below_set ?_ GE157.out) | exact HB.out)))); have n1_ := Aside0.mk (blk_below (g := gb157) (o := .cells #[.slice A0_0 l0_0.length c0_0, .slice A0_1 l0_1.length c0_1, .slice A0_2 l0_2.length c0_2, .slice A0_3 l0_3.length c0_3, .slice A0_4 l0_4.length c0_4, .int .u64 a0_5] 27 (0, 0)) (by (with_reducible repeat (first | refine blk_drewN ?_ _ | refine blk_drew ?_ | refine blk_alloc ?_ _)); exact BK157.out) hb); have n2_ := Aside0.mk (below_step (by repeat (first | (with_reducible first | exact HB.out | apply below_alloc | apply pw_below_drewN | apply below_drew1 | refine below_set ?_ GE157.out) | exact HB.out)) hb); clear BK157; clear HB; have HO165 := n0_; have BK157 := n1_; have HB := n2_; clear n0_ n1_ n2_; (try clear hb); (try clear hb2); (try clear hk); (try clear hi); (try clear ho0); obtain ⟨Ao77, co77, eo77⟩ := Kd.R_slice HO165.out; subst eo77; have hcz78_0 : w76.cell? ⟨gb157, 0, none⟩ = some (.slice A0_0 l0_0.length c0_0) := (bkC BK157.out 0).trans rfl; have hcz78_1 : w76.cell? ⟨gb157, 1, none⟩ = some (.slice A0_1 l0_1.length c0_1) := (bkC BK157.out 1).trans rfl; have hcz78_2 : w76.cell? ⟨gb157, 2, none⟩ = some (.slice A0_2 l0_2.length c0_2) := (bkC BK157.out 2).trans rfl; have hcz78_3 : w76.cell? ⟨gb157, 3, none⟩ = some (.slice A0_3 l0_3.length c0_3) := (bkC BK157.out 3).trans rfl; have hcz78_4 : w76.cell? ⟨gb157, 4, none⟩ = some (.slice A0_4 l0_4.length c0_4) := (bkC BK157.out 4).trans rfl; have hcz78_5 : w76.cell? ⟨gb157, 5, none⟩ = some (.int .u64 a0_5) := (bkC BK157.out 5).trans rfl; have hfz78_0 := bkF BK157.out 0; have hfz78_1 := bkF BK157.out 1; have hfz78_2 := bkF BK157.out 2; have hfz78_3 := bkF BK157.out 3; have hfz78_4 := bkF BK157.out 4; have hfz78_5 := bkF BK157.out 5))
           go_ret
           exact ⟨by first | rfl | (simp [errW_none, errW_some] <;> rfl) | (simp [*, errW_none, errW_some] <;> rfl), by repeat (first | (with_reducible first | exact HB.out | apply below_alloc | apply pw_below_drewN | apply below_drew1 | refine below_set ?_ GE157.out) | exact HB.out)⟩
end Go.Proofs.YtogpgkoelplknaaDoor.PLensPaths
