/- Merged texts: Bk3, Bk4, Bk5. -/
import Derived.Test.YtomgfdfgildkbaaDoorGs
import Derived.Test.YtomgfdfgildkbaaDoorRg1
import Derived.Test.YtomgfdfgildkbaaDoorGe
import Derived.Deep.RegionHeld3
import Derived.Laws.OwnMore
/- BufferWalk: size, sound. No condition. -/



namespace Go.Proofs.YtomgfdfgildkbaaDoor
open Go.RowKit Go.BigFrame
set_option linter.unusedVariables false
set_option maxHeartbeats 1000000 in
theorem size13_any (x0 x1 x2 x3 x4 x5 : Int) (x6 : Bool) (w : World) (h0 : 0 ≤ x2) (h1 : x2 ≤ 100000) (h2 : 0 ≤ x3) (h3 : x3 ≤ 100000) :
    Calls Tryd.prog 66 #[.agg #[.int .u64 x0, .int .i64 x1, .int .i64 x2, .int .i64 x3, .int .i64 x4, .int .i64 x5, .bool x6]] w fun e w' => e = .returned (.int .i64 (2 + x2 + x3)) ∧ Below w.heap.size w w' := by
  go_enter Tryd.func66, Tryd.ntmps66
  go_wp2
  go_ret
  exact ⟨rfl, (Below.refl _ _).alloc (Nat.le_refl _) _⟩
def soundHd (h : Hd) : Hd := ⟨h.ser, 1 + amongI h.kind 4, 2 + amongI h.ptrs 20, amongI h.raws 20, amongI h.age 16, amongI h.site 256, h.held⟩
theorem amongI_bd (a : Int) {n : Int} (h : 0 < n) : 0 ≤ amongI a n ∧ amongI a n < n := among_bd h
theorem soundHd_fine (h : Hd) : Fine (soundHd h) := by
  have a1 := amongI_bd h.kind (n := 4) (by decide)
  have a2 := amongI_bd h.ptrs (n := 20) (by decide)
  have a3 := amongI_bd h.raws (n := 20) (by decide)
  have a4 := amongI_bd h.age (n := 16) (by decide)
  have a5 := amongI_bd h.site (n := 256) (by decide)
  refine (chk_iff _).1 ?_
  unfold chk soundHd
  simp only
  rw [if_neg (by omega), if_neg (by omega), if_neg (by omega), if_neg (by omega), if_neg (by omega)]
set_option maxRecDepth 100000 in
set_option maxHeartbeats 4000000 in
theorem sound_any (x0 x1 x2 x3 x4 x5 : Int) (x6 : Bool) (w : World) (b1 : I64 x1) (b2 : I64 x2) (b3 : I64 x3) (b4 : I64 x4) (b5 : I64 x5) :
    Calls Tryd.prog 119 #[.agg #[.int .u64 x0, .int .i64 x1, .int .i64 x2, .int .i64 x3, .int .i64 x4, .int .i64 x5, .bool x6]] w fun e w' => e = .returned (soundHd ⟨x0, x1, x2, x3, x4, x5, x6⟩).val ∧ Below w.heap.size w w' := by
  unfold soundHd Hd.val
  simp only
  have A1 := Lib.hid (fun (W : World) => among13_any x1 4 W b1.1 b1.2 (by decide) (by decide))
  have A2 := Lib.hid (fun (W : World) => among13_any x2 20 W b2.1 b2.2 (by decide) (by decide))
  have A3 := Lib.hid (fun (W : World) => among13_any x3 20 W b3.1 b3.2 (by decide) (by decide))
  have A4 := Lib.hid (fun (W : World) => among13_any x4 16 W b4.1 b4.2 (by decide) (by decide))
  have A5 := Lib.hid (fun (W : World) => among13_any x5 256 W b5.1 b5.2 (by decide) (by decide))
  obtain ⟨p1, q1⟩ := amongI_bd x1 (n := 4) (by decide)
  obtain ⟨p2, q2⟩ := amongI_bd x2 (n := 20) (by decide)
  clear b1 b2 b3 b4 b5
  generalize amongI x1 4 = m1 at *
  generalize amongI x2 20 = m2 at *
  generalize amongI x3 20 = m3 at *
  generalize amongI x4 16 = m4 at *
  generalize amongI x5 256 = m5 at *
  have f1 : IntKind.i64.wrap (1 + m1) = 1 + m1 := by rw [IntKind.wrap_i64]; omega
  have f2 : IntKind.i64.wrap (2 + m2) = 2 + m2 := by rw [IntKind.wrap_i64]; omega
  go_enter Tryd.func119, Tryd.ntmps119
  go_upto_region 1 with fail
  obtain ⟨hX, hR⟩ := heap_two w (.cells #[.int .u64 x0, .int .i64 x1, .int .i64 x2, .int .i64 x3, .int .i64 x4, .int .i64 x5, .bool x6] 24) (.cells #[.int .u64 0, .int .i64 0, .int .i64 0, .int .i64 0, .int .i64 0, .int .i64 0, .bool false] 24)
  have hb := ((Below.refl w.heap.size w).alloc (Nat.le_refl _) (.cells #[.int .u64 x0, .int .i64 x1, .int .i64 x2, .int .i64 x3, .int .i64 x4, .int .i64 x5, .bool x6] 24)).alloc (by simp) (.cells #[.int .u64 0, .int .i64 0, .int .i64 0, .int .i64 0, .int .i64 0, .int .i64 0, .bool false] 24)
  generalize (w.alloc (.cells #[.int .u64 x0, .int .i64 x1, .int .i64 x2, .int .i64 x3, .int .i64 x4, .int .i64 x5, .bool x6] 24)).alloc (.cells #[.int .u64 0, .int .i64 0, .int .i64 0, .int .i64 0, .int .i64 0, .int .i64 0, .bool false] 24) = w1 at *
  generalize hq : w.heap.size = q at *
  have HQ := Lib.hid hq
  clear hq
  obtain ⟨cX, fX⟩ := hcell hX
  obtain ⟨cR, fR⟩ := hcell hR
  refine region_two 18 (fun W => W = w1.drew) (fun _ => True) (by kernel_rfl) (two_0 (by kernel_rfl) (rfl)) (fun hHeld => ?_)
  refine take_pure (i := 0) (oi := ?oi1) (v := ?vv1) ?hi1 (by kernel_rfl) (by kernel_rfl) (by kernel_rfl) (by decide) (by kernel_rfl) ?hQ1 ?hy1 (by assumption) (fun hHeld => ?rest1)
  case hi1 => (simp only [List.getElem?_toArray, List.getElem?_cons_zero]; rfl)
  case hQ1 => exact fun _ _ _ h => h
  case hy1 => (first | exact Or.inl ⟨by rfl, by intro w hSw; go_simp; with_reducible rfl⟩ | (refine Or.inr ⟨by rfl, ?_⟩; rfl))
  simp only [Act.put, List.setIfInBounds_toArray, List.set_cons_zero, List.set_cons_succ]
  refine take_pure (i := 4) (oi := ?oi2) (v := ?vv2) ?hi2 (by kernel_rfl) (by kernel_rfl) (by kernel_rfl) (by decide) (by kernel_rfl) ?hQ2 ?hy2 (by assumption) (fun hHeld => ?rest2)
  case hi2 => (simp only [List.getElem?_toArray, List.getElem?_cons_succ, List.getElem?_cons_zero]; rfl)
  case hQ2 => exact fun _ _ _ h => h
  case hy2 => (first | exact Or.inl ⟨by rfl, by intro w hSw; go_simp; with_reducible rfl⟩ | (refine Or.inr ⟨by rfl, ?_⟩; rfl))
  simp only [Act.put, List.setIfInBounds_toArray, List.set_cons_zero, List.set_cons_succ]
  refine take_pure (i := 8) (oi := ?oi3) (v := ?vv3) ?hi3 (by kernel_rfl) (by kernel_rfl) (by kernel_rfl) (by decide) (by kernel_rfl) ?hQ3 ?hy3 (by assumption) (fun hHeld => ?rest3)
  case hi3 => (simp only [List.getElem?_toArray, List.getElem?_cons_succ, List.getElem?_cons_zero]; rfl)
  case hQ3 => exact fun _ _ _ h => h
  case hy3 => (first | exact Or.inl ⟨by rfl, by intro w hSw; go_simp; with_reducible rfl⟩ | (refine Or.inr ⟨by rfl, ?_⟩; rfl))
  simp only [Act.put, List.setIfInBounds_toArray, List.set_cons_zero, List.set_cons_succ]
  refine take_pure (i := 11) (oi := ?oi4) (v := ?vv4) ?hi4 (by kernel_rfl) (by kernel_rfl) (by kernel_rfl) (by decide) (by kernel_rfl) ?hQ4 ?hy4 (by assumption) (fun hHeld => ?rest4)
  case hi4 => (simp only [List.getElem?_toArray, List.getElem?_cons_succ, List.getElem?_cons_zero]; rfl)
  case hQ4 => exact fun _ _ _ h => h
  case hy4 => (first | exact Or.inl ⟨by rfl, by intro w hSw; go_simp; with_reducible rfl⟩ | (refine Or.inr ⟨by rfl, ?_⟩; rfl))
  simp only [Act.put, List.setIfInBounds_toArray, List.set_cons_zero, List.set_cons_succ]
  refine take_pure (i := 14) (oi := ?oi5) (v := ?vv5) ?hi5 (by kernel_rfl) (by kernel_rfl) (by kernel_rfl) (by decide) (by kernel_rfl) ?hQ5 ?hy5 (by assumption) (fun hHeld => ?rest5)
  case hi5 => (simp only [List.getElem?_toArray, List.getElem?_cons_succ, List.getElem?_cons_zero]; rfl)
  case hQ5 => exact fun _ _ _ h => h
  case hy5 => (first | exact Or.inl ⟨by rfl, by intro w hSw; go_simp; with_reducible rfl⟩ | (refine Or.inr ⟨by rfl, ?_⟩; rfl))
  simp only [Act.put, List.setIfInBounds_toArray, List.set_cons_zero, List.set_cons_succ]
  refine take_ahead (i := 1) (oi := ?oi6) (oK := ?oK6) (v := ?vv6) ?hi6 ?hK6 ?hw6 (by kernel_rfl) (by kernel_rfl) (by kernel_rfl) (by decide) (by kernel_rfl) ?hQ6 ?hy6 (by assumption) (fun hHeld => ?rest6)
  case hi6 => (simp only [List.getElem?_toArray, List.getElem?_cons_succ, List.getElem?_cons_zero]; rfl)
  case hK6 => (simp only [List.getElem?_toArray, List.getElem?_cons_succ, List.getElem?_cons_zero]; rfl)
  case hw6 => kernel_rfl
  case hQ6 => exact fun _ _ _ h => h
  case hy6 => (first | exact Or.inl ⟨by rfl, by intro w hSw; subst hSw; go_simp; with_reducible rfl⟩ | (refine Or.inr ⟨by rfl, ?_⟩; rfl))
  simp only [Act.put, List.setIfInBounds_toArray, List.set_cons_zero, List.set_cons_succ]
  refine take_ahead (i := 5) (oi := ?oi7) (oK := ?oK7) (v := ?vv7) ?hi7 ?hK7 ?hw7 (by kernel_rfl) (by kernel_rfl) (by kernel_rfl) (by decide) (by kernel_rfl) ?hQ7 ?hy7 (by assumption) (fun hHeld => ?rest7)
  case hi7 => (simp only [List.getElem?_toArray, List.getElem?_cons_succ, List.getElem?_cons_zero]; rfl)
  case hK7 => (simp only [List.getElem?_toArray, List.getElem?_cons_succ, List.getElem?_cons_zero]; rfl)
  case hw7 => kernel_rfl
  case hQ7 => exact fun _ _ _ h => h
  case hy7 => (first | exact Or.inl ⟨by rfl, by intro w hSw; subst hSw; go_simp; with_reducible rfl⟩ | (refine Or.inr ⟨by rfl, ?_⟩; rfl))
  simp only [Act.put, List.setIfInBounds_toArray, List.set_cons_zero, List.set_cons_succ]
  refine take_ahead (i := 9) (oi := ?oi8) (oK := ?oK8) (v := ?vv8) ?hi8 ?hK8 ?hw8 (by kernel_rfl) (by kernel_rfl) (by kernel_rfl) (by decide) (by kernel_rfl) ?hQ8 ?hy8 (by assumption) (fun hHeld => ?rest8)
  case hi8 => (simp only [List.getElem?_toArray, List.getElem?_cons_succ, List.getElem?_cons_zero]; rfl)
  case hK8 => (simp only [List.getElem?_toArray, List.getElem?_cons_succ, List.getElem?_cons_zero]; rfl)
  case hw8 => kernel_rfl
  case hQ8 => exact fun _ _ _ h => h
  case hy8 => (first | exact Or.inl ⟨by rfl, by intro w hSw; subst hSw; go_simp; with_reducible rfl⟩ | (refine Or.inr ⟨by rfl, ?_⟩; rfl))
  simp only [Act.put, List.setIfInBounds_toArray, List.set_cons_zero, List.set_cons_succ]
  refine take_ahead (i := 12) (oi := ?oi9) (oK := ?oK9) (v := ?vv9) ?hi9 ?hK9 ?hw9 (by kernel_rfl) (by kernel_rfl) (by kernel_rfl) (by decide) (by kernel_rfl) ?hQ9 ?hy9 (by assumption) (fun hHeld => ?rest9)
  case hi9 => (simp only [List.getElem?_toArray, List.getElem?_cons_succ, List.getElem?_cons_zero]; rfl)
  case hK9 => (simp only [List.getElem?_toArray, List.getElem?_cons_succ, List.getElem?_cons_zero]; rfl)
  case hw9 => kernel_rfl
  case hQ9 => exact fun _ _ _ h => h
  case hy9 => (first | exact Or.inl ⟨by rfl, by intro w hSw; subst hSw; go_simp; with_reducible rfl⟩ | (refine Or.inr ⟨by rfl, ?_⟩; rfl))
  simp only [Act.put, List.setIfInBounds_toArray, List.set_cons_zero, List.set_cons_succ]
  refine take_ahead (i := 15) (oi := ?oi10) (oK := ?oK10) (v := ?vv10) ?hi10 ?hK10 ?hw10 (by kernel_rfl) (by kernel_rfl) (by kernel_rfl) (by decide) (by kernel_rfl) ?hQ10 ?hy10 (by assumption) (fun hHeld => ?rest10)
  case hi10 => (simp only [List.getElem?_toArray, List.getElem?_cons_succ, List.getElem?_cons_zero]; rfl)
  case hK10 => (simp only [List.getElem?_toArray, List.getElem?_cons_succ, List.getElem?_cons_zero]; rfl)
  case hw10 => kernel_rfl
  case hQ10 => exact fun _ _ _ h => h
  case hy10 => (first | exact Or.inl ⟨by rfl, by intro w hSw; subst hSw; go_simp; with_reducible rfl⟩ | (refine Or.inr ⟨by rfl, ?_⟩; rfl))
  simp only [Act.put, List.setIfInBounds_toArray, List.set_cons_zero, List.set_cons_succ]
  refine one_next (i := 2) (oi := ?oi11) (by kernel_rfl) ?hi11 ?step11
  case hi11 => (simp only [List.getElem?_toArray, List.getElem?_cons_succ, List.getElem?_cons_zero]; rfl)
  intro K hK
  go_simp
  refine (A1.out _).mono ?_
  rintro e w' ⟨rfl, rfl⟩
  refine hK.out _ _ (two_0 (by kernel_rfl) rfl) (fun hHeld => ?_)
  clear hK K
  try simp only [Act.put, List.setIfInBounds_toArray, List.set_cons_zero, List.set_cons_succ]
  refine take_pure (i := 3) (oi := ?oi12) (v := ?vv12) ?hi12 (by kernel_rfl) (by kernel_rfl) (by kernel_rfl) (by decide) (by kernel_rfl) ?hQ12 ?hy12 (by assumption) (fun hHeld => ?rest12)
  case hi12 => (simp only [List.getElem?_toArray, List.getElem?_cons_succ, List.getElem?_cons_zero]; rfl)
  case hQ12 => exact fun _ _ _ h => h
  case hy12 => (first | exact Or.inl ⟨by rfl, by intro w hSw; go_simp; with_reducible rfl⟩ | (refine Or.inr ⟨by rfl, ?_⟩; rfl))
  simp only [Act.put, List.setIfInBounds_toArray, List.set_cons_zero, List.set_cons_succ]
  refine take_pure (i := 17) (oi := ?oi13) (v := ?vv13) ?hi13 (by kernel_rfl) (by kernel_rfl) (by kernel_rfl) (by decide) (by kernel_rfl) ?hQ13 ?hy13 (by assumption) (fun hHeld => ?rest13)
  case hi13 => (simp only [List.getElem?_toArray, List.getElem?_cons_succ, List.getElem?_cons_zero]; rfl)
  case hQ13 => exact fun _ _ _ h => h
  case hy13 => (first | exact Or.inl ⟨by rfl, by intro w hSw; go_simp; with_reducible rfl⟩ | (refine Or.inr ⟨by rfl, ?_⟩; rfl))
  simp only [Act.put, List.setIfInBounds_toArray, List.set_cons_zero, List.set_cons_succ]
  refine one_next (i := 6) (oi := ?oi14) (by kernel_rfl) ?hi14 ?step14
  case hi14 => (simp only [List.getElem?_toArray, List.getElem?_cons_succ, List.getElem?_cons_zero]; rfl)
  intro K hK
  go_simp
  refine (A2.out _).mono ?_
  rintro e w' ⟨rfl, rfl⟩
  refine hK.out _ _ (two_0 (by kernel_rfl) rfl) (fun hHeld => ?_)
  clear hK K
  try simp only [Act.put, List.setIfInBounds_toArray, List.set_cons_zero, List.set_cons_succ]
  refine take_pure (i := 7) (oi := ?oi15) (v := ?vv15) ?hi15 (by kernel_rfl) (by kernel_rfl) (by kernel_rfl) (by decide) (by kernel_rfl) ?hQ15 ?hy15 (by assumption) (fun hHeld => ?rest15)
  case hi15 => (simp only [List.getElem?_toArray, List.getElem?_cons_succ, List.getElem?_cons_zero]; rfl)
  case hQ15 => exact fun _ _ _ h => h
  case hy15 => (first | exact Or.inl ⟨by rfl, by intro w hSw; go_simp; with_reducible rfl⟩ | (refine Or.inr ⟨by rfl, ?_⟩; rfl))
  simp only [Act.put, List.setIfInBounds_toArray, List.set_cons_zero, List.set_cons_succ]
  refine one_next (i := 10) (oi := ?oi16) (by kernel_rfl) ?hi16 ?step16
  case hi16 => (simp only [List.getElem?_toArray, List.getElem?_cons_succ, List.getElem?_cons_zero]; rfl)
  intro K hK
  go_simp
  refine (A3.out _).mono ?_
  rintro e w' ⟨rfl, rfl⟩
  refine hK.out _ _ (two_0 (by kernel_rfl) rfl) (fun hHeld => ?_)
  clear hK K
  try simp only [Act.put, List.setIfInBounds_toArray, List.set_cons_zero, List.set_cons_succ]
  refine one_next (i := 13) (oi := ?oi17) (by kernel_rfl) ?hi17 ?step17
  case hi17 => (simp only [List.getElem?_toArray, List.getElem?_cons_succ, List.getElem?_cons_zero]; rfl)
  intro K hK
  go_simp
  refine (A4.out _).mono ?_
  rintro e w' ⟨rfl, rfl⟩
  refine hK.out _ _ (two_0 (by kernel_rfl) rfl) (fun hHeld => ?_)
  clear hK K
  try simp only [Act.put, List.setIfInBounds_toArray, List.set_cons_zero, List.set_cons_succ]
  refine one_next (i := 16) (oi := ?oi18) (by kernel_rfl) ?hi18 ?step18
  case hi18 => (simp only [List.getElem?_toArray, List.getElem?_cons_succ, List.getElem?_cons_zero]; rfl)
  intro K hK
  go_simp
  refine (A5.out _).mono ?_
  rintro e w' ⟨rfl, rfl⟩
  refine hK.out _ _ (two_0 (by kernel_rfl) rfl) (fun hHeld => ?_)
  clear hK K
  try simp only [Act.put, List.setIfInBounds_toArray, List.set_cons_zero, List.set_cons_succ]
  refine one_next (i := 18) (oi := ?oi19) (by kernel_rfl) ?hi19 ?step19
  case hi19 => (simp only [List.getElem?_toArray, List.getElem?_cons_succ, List.getElem?_cons_zero]; rfl)
  intro K hK
  go_simp
  refine hK.out _ _ (two_1 (by kernel_rfl) trivial) (fun hHeld => ?_)
  clear hK K
  try simp only [Act.put, List.setIfInBounds_toArray, List.set_cons_zero, List.set_cons_succ]
  refine take_pure (i := 19) (oi := ?oi20) (v := ?vv20) ?hi20 (by kernel_rfl) (by kernel_rfl) (by kernel_rfl) (by decide) (by kernel_rfl) ?hQ20 ?hy20 (by assumption) (fun hHeld => ?rest20)
  case hi20 => (simp only [List.getElem?_toArray, List.getElem?_cons_succ, List.getElem?_cons_zero]; rfl)
  case hQ20 => exact fun _ _ _ h => h
  case hy20 => (first | exact Or.inl ⟨by rfl, by intro w hSw; go_simp; with_reducible rfl⟩ | (refine Or.inr ⟨by rfl, ?_⟩; rfl))
  simp only [Act.put, List.setIfInBounds_toArray, List.set_cons_zero, List.set_cons_succ]
  refine one_next (i := 20) (oi := ?oi21) (by kernel_rfl) ?hi21 ?step21
  case hi21 => (simp only [List.getElem?_toArray, List.getElem?_cons_succ, List.getElem?_cons_zero]; rfl)
  intro K hK
  go_simp
  refine hK.out _ _ (two_1 (by kernel_rfl) trivial) (fun hHeld => ?_)
  clear hK K
  try simp only [Act.put, List.setIfInBounds_toArray, List.set_cons_zero, List.set_cons_succ]
  refine take_pure (i := 21) (oi := ?oi22) (v := ?vv22) ?hi22 (by kernel_rfl) (by kernel_rfl) (by kernel_rfl) (by decide) (by kernel_rfl) ?hQ22 ?hy22 (by assumption) (fun hHeld => ?rest22)
  case hi22 => (simp only [List.getElem?_toArray, List.getElem?_cons_succ, List.getElem?_cons_zero]; rfl)
  case hQ22 => exact fun _ _ _ h => h
  case hy22 => (first | exact Or.inl ⟨by rfl, by intro w hSw; go_simp; with_reducible rfl⟩ | (refine Or.inr ⟨by rfl, ?_⟩; rfl))
  simp only [Act.put, List.setIfInBounds_toArray, List.set_cons_zero, List.set_cons_succ]
  refine one_next (i := 22) (oi := ?oi23) (by kernel_rfl) ?hi23 ?step23
  case hi23 => (simp only [List.getElem?_toArray, List.getElem?_cons_succ, List.getElem?_cons_zero]; rfl)
  intro K hK
  go_simp
  refine hK.out _ _ (two_1 (by kernel_rfl) trivial) (fun hHeld => ?_)
  clear hK K
  try simp only [Act.put, List.setIfInBounds_toArray, List.set_cons_zero, List.set_cons_succ]
  refine take_pure (i := 23) (oi := ?oi24) (v := ?vv24) ?hi24 (by kernel_rfl) (by kernel_rfl) (by kernel_rfl) (by decide) (by kernel_rfl) ?hQ24 ?hy24 (by assumption) (fun hHeld => ?rest24)
  case hi24 => (simp only [List.getElem?_toArray, List.getElem?_cons_succ, List.getElem?_cons_zero]; rfl)
  case hQ24 => exact fun _ _ _ h => h
  case hy24 => (first | exact Or.inl ⟨by rfl, by intro w hSw; go_simp; with_reducible rfl⟩ | (refine Or.inr ⟨by rfl, ?_⟩; rfl))
  simp only [Act.put, List.setIfInBounds_toArray, List.set_cons_zero, List.set_cons_succ]
  refine one_next (i := 24) (oi := ?oi25) (by kernel_rfl) ?hi25 ?step25
  case hi25 => (simp only [List.getElem?_toArray, List.getElem?_cons_succ, List.getElem?_cons_zero]; rfl)
  intro K hK
  go_simp
  refine hK.out _ _ (two_1 (by kernel_rfl) trivial) (fun hHeld => ?_)
  clear hK K
  try simp only [Act.put, List.setIfInBounds_toArray, List.set_cons_zero, List.set_cons_succ]
  refine take_pure (i := 25) (oi := ?oi26) (v := ?vv26) ?hi26 (by kernel_rfl) (by kernel_rfl) (by kernel_rfl) (by decide) (by kernel_rfl) ?hQ26 ?hy26 (by assumption) (fun hHeld => ?rest26)
  case hi26 => (simp only [List.getElem?_toArray, List.getElem?_cons_succ, List.getElem?_cons_zero]; rfl)
  case hQ26 => exact fun _ _ _ h => h
  case hy26 => (first | exact Or.inl ⟨by rfl, by intro w hSw; go_simp; with_reducible rfl⟩ | (refine Or.inr ⟨by rfl, ?_⟩; rfl))
  simp only [Act.put, List.setIfInBounds_toArray, List.set_cons_zero, List.set_cons_succ]
  refine one_next (i := 26) (oi := ?oi27) (by kernel_rfl) ?hi27 ?step27
  case hi27 => (simp only [List.getElem?_toArray, List.getElem?_cons_succ, List.getElem?_cons_zero]; rfl)
  intro K hK
  go_simp
  refine hK.out _ _ (two_1 (by kernel_rfl) trivial) (fun hHeld => ?_)
  clear hK K
  try simp only [Act.put, List.setIfInBounds_toArray, List.set_cons_zero, List.set_cons_succ]
  refine none_next (by kernel_rfl) ?_
  go_wp2_with fail
  refine bodyPost_ret (v := .agg #[.int .u64 x0, .int .i64 (1 + m1), .int .i64 (2 + m2), .int .i64 m3, .int .i64 m4, .int .i64 m5, .bool x6]) (by simp [results, Tryd.results119, go_sem, cR]) rfl ⟨rfl, ?_⟩
  rw [HQ.out]
  repeat (first | (with_reducible exact hb) | (with_reducible refine Below.drew ?_) | (with_reducible refine Below.setCell ?_ (by simp) _))
end Go.Proofs.YtomgfdfgildkbaaDoor
/- BufferWalk: how a world lies in memory: arena, buffers, the list of what was put. No condition. -/



namespace Go.Proofs.YtomgfdfgildkbaaDoor
open Go.RowKit Go.BigFrame
set_option linter.unusedVariables false
def Lt.cells (q : Lt) : List Value := .int .i64 q.at_ :: (hdL q.hd ++ [.slice (some ⟨q.rb, 0, none⟩) q.rs.length q.rs.length])
theorem Lt.cells_len (q : Lt) : q.cells.length = 9 := rfl
theorem lts_len (Q : List Lt) : (Q.flatMap Lt.cells).length = Q.length * 9 := by
  induction Q with
  | nil => rfl
  | cons q l ih => rw [List.flatMap_cons, List.length_append, ih, Lt.cells_len, List.length_cons]; omega
theorem lts_get (Q : List Lt) (i j : Nat) (hi : i < Q.length) (hj : j < 9) : (Q.flatMap Lt.cells)[i * 9 + j]? = (Q.getD i lt0).cells[j]? := by
  induction Q generalizing i with
  | nil => simp at hi
  | cons a l ih =>
    rw [List.flatMap_cons]
    have hl := a.cells_len
    cases i with
    | zero => rw [List.getElem?_append_left (by omega)]; simp
    | succ i =>
      rw [List.getElem?_append_right (by omega), hl, show (i + 1) * 9 + j - 9 = i * 9 + j by omega, ih i (by simpa using hi)]
      simp
def lfp (v : Value) (Q : List Lt) : List Nat := v.ownBlock.toList ++ Q.map Lt.rb
structure LdsAt (w : World) (D wb : Nat) (v : Value) (Q : List Lt) : Prop where
  row : w.ownsRow D 100 9 v Q.length (Q.flatMap Lt.cells)
  br : ∀ q ∈ Q, w.heap[q.rb]? = some (.cells (u64s q.rs) 22 (0, 0))
  gr : ∀ q ∈ Q, D ≤ q.rb ∧ q.rb ≠ wb
  nr : (Q.map Lt.rb).Nodup
theorem mem_lfp {v : Value} {Q : List Lt} {k : Nat} : k ∈ lfp v Q ↔ v.ownBlock = some k ∨ ∃ q ∈ Q, q.rb = k := by simp [lfp, Option.mem_toList]
theorem LdsAt.nil (w : World) (D wb : Nat) : LdsAt w D wb (.slice none 0 0) [] :=
  ⟨World.ownsRow_nil _ _ _ _, fun q hq => by simp at hq, fun q hq => by simp at hq, by simp⟩
section
variable {w w' : World} {D wb : Nat} {v : Value} {Q : List Lt}
theorem LdsAt.lt (h : LdsAt w D wb v Q) : ∀ k ∈ lfp v Q, D ≤ k ∧ k < w.heap.size := fun k hk => by
  rcases mem_lfp.1 hk with hk | ⟨q, hq, rfl⟩
  · exact h.row.lt k hk
  · exact ⟨(h.gr q hq).1, lt_of_heap (h.br q hq)⟩
theorem LdsAt.keep (h : LdsAt w D wb v Q) (e : ∀ k ∈ lfp v Q, w'.heap[k]? = w.heap[k]?) : LdsAt w' D wb v Q :=
  ⟨ownsRow_heap h.row fun k hk => e k (mem_lfp.2 (.inl hk)), fun q hq => (e _ (mem_lfp.2 (.inr ⟨q, hq, rfl⟩))).trans (h.br q hq), h.gr, h.nr⟩
theorem LdsAt.below (h : LdsAt w D wb v Q) (hb : Below w.heap.size w w') : LdsAt w' D wb v Q := h.keep fun k hk => hb.block k (h.lt k hk).2
theorem LdsAt.cell {g cap : Nat} (h : LdsAt w D wb (.slice (some ⟨g, 0, none⟩) Q.length cap) Q) {i j : Nat} (hi : i < Q.length) (hj : j < 9) : w.cell? ⟨g, i * 9 + j, none⟩ = (Q.getD i lt0).cells[j]? := by
  rw [h.row.cellAt _ (by omega), lts_get Q i j hi hj]
theorem LdsAt.rcell (h : LdsAt w D wb v Q) {q : Lt} (hq : q ∈ Q) {i : Nat} (hi : i < q.rs.length) : w.cell? ⟨q.rb, i, none⟩ = some (.int .u64 (q.rs.getD i 0)) := by
  rw [(hcell (h.br q hq)).1, u64s_get hi]
theorem LdsAt.form (h : LdsAt w D wb v Q) (h0 : 0 < Q.length) : ∃ g cap, v = .slice (some ⟨g, 0, none⟩) Q.length cap := by
  obtain ⟨g, cap, e, -, -⟩ := h.row.form (by omega)
  exact ⟨g, cap, e⟩
end
/-- Where a world lies, and what it holds. -/
structure Wg where
  a : Nat
  wb : Nat
  b : Nat
  rb : Nat
  n : Nat
  A : Ar
  B : Bu
  v : Value
  Q : List Lt
def Wg.cells (G : Wg) : Array Value := #[.pointer (some ⟨G.a, 0, none⟩), .pointer (some ⟨G.b, 0, none⟩), .int .i64 G.n, G.v]
structure WoAt (w : World) (x D : Nat) (G : Wg) : Prop where
  hx : w.heap[x]? = some (.cells G.cells 96 (0, 0))
  pair : PairAt w G.b G.rb G.B G.a G.wb G.A
  lds : LdsAt w D G.wb G.v G.Q
  eden : ∃ Ls, Eden G.A G.B Ls G.Q
  len : G.B.rests.length = G.n
  gx : D ≤ x
  ga : D ≤ G.a
  gw : D ≤ G.wb
  gb : D ≤ G.b
  gr : D ≤ G.rb
/-- All blocks of a world. -/
def wfp (x : Nat) (G : Wg) : List Nat := x :: G.a :: G.wb :: G.b :: G.rb :: lfp G.v G.Q
theorem PairAt.keep {w w' : World} {b rb : Nat} {B : Bu} {a wb : Nat} {A : Ar} (h : PairAt w b rb B a wb A) (e1 : w'.heap[a]? = w.heap[a]?) (e2 : w'.heap[wb]? = w.heap[wb]?) (e3 : w'.heap[b]? = w.heap[b]?) (e4 : w'.heap[rb]? = w.heap[rb]?) : PairAt w' b rb B a wb A :=
  ⟨⟨e3.trans h.hB.st, e4.trans h.hB.rs, h.hB.ne⟩, ⟨e1.trans h.hA.st, e2.trans h.hA.ws, h.hA.ne⟩, h.okB, h.okA, h.ap⟩
section
variable {w w' : World} {x D : Nat} {G : Wg}
theorem WoAt.lt (h : WoAt w x D G) : ∀ k ∈ wfp x G, D ≤ k ∧ k < w.heap.size := fun k hk => by
  simp only [wfp, List.mem_cons] at hk
  rcases hk with rfl | rfl | rfl | rfl | rfl | hk
  · exact ⟨h.gx, lt_of_heap h.hx⟩
  · exact ⟨h.ga, lt_of_heap h.pair.hA.st⟩
  · exact ⟨h.gw, lt_of_heap h.pair.hA.ws⟩
  · exact ⟨h.gb, lt_of_heap h.pair.hB.st⟩
  · exact ⟨h.gr, lt_of_heap h.pair.hB.rs⟩
  · exact h.lds.lt k hk
theorem WoAt.keep (h : WoAt w x D G) (e : ∀ k ∈ wfp x G, w'.heap[k]? = w.heap[k]?) : WoAt w' x D G :=
  ⟨(e x (by simp [wfp])).trans h.hx, h.pair.keep (e _ (by simp [wfp])) (e _ (by simp [wfp])) (e _ (by simp [wfp])) (e _ (by simp [wfp])), h.lds.keep (fun k hk => e k (by simp [wfp, hk])), h.eden, h.len, h.gx, h.ga, h.gw, h.gb, h.gr⟩
theorem WoAt.below (h : WoAt w x D G) (hb : Below w.heap.size w w') : WoAt w' x D G := h.keep fun k hk => hb.block k (h.lt k hk).2
/-- The world's own block and the list's are none of the arena's and the buffers'. -/
theorem WoAt.far (h : WoAt w x D G) : ∀ k, k = x ∨ k ∈ lfp G.v G.Q → k ≠ G.a ∧ k ≠ G.wb ∧ k ≠ G.b ∧ k ≠ G.rb := fun k hk => by
  have hA := h.pair.hA
  have hB := h.pair.hB
  rcases hk with rfl | hk
  · exact ⟨ty_neA h.hx hA.st (by decide), ty_neA h.hx hA.ws (by decide), ty_neA h.hx hB.st (by decide), ty_neA h.hx hB.rs (by decide)⟩
  rcases mem_lfp.1 hk with hk | ⟨q, hq, rfl⟩
  · obtain ⟨cs, hc⟩ := row_blockA h.lds.row hk
    exact ⟨ty_neA hc hA.st (by decide), ty_neA hc hA.ws (by decide), ty_neA hc hB.st (by decide), ty_neA hc hB.rs (by decide)⟩
  · have hc := h.lds.br q hq
    exact ⟨ty_neA hc hA.st (by decide), (h.lds.gr q hq).2, ty_neA hc hB.st (by decide), ty_neA hc hB.rs (by decide)⟩
theorem WoAt.xfar (h : WoAt w x D G) : x ∉ lfp G.v G.Q := fun hm => by
  rcases mem_lfp.1 hm with hk | ⟨q, hq, e⟩
  · obtain ⟨cs, hc⟩ := row_blockA h.lds.row hk
    exact ty_neA hc h.hx (by decide) rfl
  · exact ty_neA (h.lds.br q hq) h.hx (by decide) e
/-- The arena and the buffers are written alone. -/
theorem WoAt.turn (h : WoAt w x D G) {A' : Ar} {B' : Bu} (hp : PairAt w' G.b G.rb B' G.a G.wb A') (hO : Only [G.rb, G.a, G.wb] w w') (he : ∃ Ls, Eden A' B' Ls G.Q) (hl : B'.rests.length = G.B.rests.length) : WoAt w' x D { G with A := A', B := B' } := by
  have e : ∀ k, k = x ∨ k ∈ lfp G.v G.Q → w'.heap[k]? = w.heap[k]? := fun k hk => by
    have hf := h.far k hk
    have hlt : k < w.heap.size := by
      rcases hk with rfl | hk
      · exact lt_of_heap h.hx
      · exact (h.lds.lt k hk).2
    exact hO.block k hlt (by simp only [List.mem_cons, List.not_mem_nil, or_false]; omega)
  exact ⟨(e x (.inl rfl)).trans h.hx, hp, h.lds.keep fun k hk => e k (.inr hk), he, hl.trans h.len, h.gx, h.ga, h.gw, h.gb, h.gr⟩
theorem WoAt.bd (h : WoAt w x D G) : 1 ≤ G.n ∧ G.n ≤ 8 := by
  have h1 := h.pair.okB.n1
  have h2 := h.pair.okB.n8
  rw [h.len] at h1 h2
  exact ⟨h1, h2⟩
theorem WoAt.is (h : WoAt w x D G) {t : Nat} (ht : t < G.n) : G.B.is t = true := by
  unfold Bu.is
  rw [decide_eq_true_eq, h.len]
  omega
theorem told_cases (B : Bu) {t : Int} (ht : B.is t = true) : ((B.rest t).2 = 0 ∧ B.told t = (0, 0)) ∨ ((B.rest t).2 ≠ 0 ∧ B.told t = B.rest t) := by
  unfold Bu.told
  by_cases e : (B.rest t).2 = 0
  · left; exact ⟨e, by rw [if_neg (fun q => q.2 e)]⟩
  · right; exact ⟨e, by rw [if_pos ⟨ht, e⟩]⟩
end
end Go.Proofs.YtomgfdfgildkbaaDoor
/- BufferWalk: `rests`: each rest lies in eden below its top, no two overlap. No condition. -/

namespace Go.Proofs.YtomgfdfgildkbaaDoor
open Go.RowKit Go.BigFrame
set_option linter.unusedVariables false
/-- What Rest tells of one thread. -/
theorem told_one {A : Ar} {B : Bu} {Ls : Int → List It} {Q : List Lt} (h : Eden A B Ls Q) {t : Int} (ht : B.is t = true) : ((B.told t).2 = 0 ∧ (B.told t).1 = 0) ∨ (0 < (B.told t).2 ∧ 1 ≤ (B.told t).1 ∧ (B.told t).1 + (B.told t).2 ≤ A.top 1) := by
  have h0 := (h.rests t ht).1
  rcases told_cases B ht with ⟨e, q⟩ | ⟨e, q⟩
  · left; rw [q]; exact ⟨rfl, rfl⟩
  · right; rw [q]
    have hp : 0 < (B.rest t).2 := by omega
    have := h.within ht hp
    exact ⟨hp, this.1, this.2⟩
theorem told_two {A : Ar} {B : Bu} {Ls : Int → List It} {Q : List Lt} (h : Eden A B Ls Q) {t u : Int} (ht : B.is t = true) (hu : B.is u = true) (ne : t ≠ u) (h1 : 0 < (B.told t).2) (h2 : 0 < (B.told u).2) : (B.told t).1 + (B.told t).2 ≤ (B.told u).1 ∨ (B.told u).1 + (B.told u).2 ≤ (B.told t).1 := by
  rcases told_cases B ht with ⟨e, q⟩ | ⟨e, q⟩
  · rw [q] at h1; exact absurd h1 (by decide)
  · rcases told_cases B hu with ⟨e2, q2⟩ | ⟨e2, q2⟩
    · rw [q2] at h2; exact absurd h2 (by decide)
    · rw [q] at h1 ⊢
      rw [q2] at h2 ⊢
      exact h.two ht hu ne h1 h2
set_option maxRecDepth 100000 in
set_option maxHeartbeats 8000000 in
theorem rests_any (x D : Nat) (G : Wg) (w : World) (h : WoAt w x D G) :
    Calls Tryd.prog 122 #[.pointer (some ⟨x, 0, none⟩)] w fun e w' => e = .returned (.bool true) ∧ Below w.heap.size w w' := by
  obtain ⟨Ls, E⟩ := h.eden
  have T1 := Lib.hid (fun (t : Nat) (ht : t < G.n) => told_one E (h.is ht))
  have T2 := Lib.hid (fun (t u : Nat) (ht : t < G.n) (hu : u < G.n) (ne : u < t) => told_two E (h.is ht) (h.is hu) (by omega))
  have RC := Lib.hid (fun (t : Int) (W : World) (hb : Below w.heap.size w W) => rest_any G.b G.rb G.B t W (h.pair.hB.below hb) h.pair.okB)
  have TC := Lib.hid (fun (W : World) (hb : Below w.heap.size w W) => top_any G.a G.wb G.A 1 W (h.pair.hA.below hb))
  have tz := (h.pair.okA.top_le 1).2.2
  have bd := h.bd
  have hx := h.hx
  have HX := Lib.hid (fun (W : World) (hb : Below w.heap.size w W) => hcell ((hb.block _ (lt_of_heap hx)).trans hx))
  have b0 := Below.refl w.heap.size w
  clear h E hx
  generalize G.A.top 1 = tp at *
  unfold Wg.cells at HX
  generalize G.B = B at *
  generalize G.n = n at *
  generalize G.a = a at *
  generalize G.b = b at *
  generalize G.v = v at *
  obtain ⟨n1, n8⟩ := bd
  go_enter Tryd.func122, Tryd.ntmps122
  go_wp2_with fail
  go_loopw [3] (fun tv wx => ∃ t : Nat, t ≤ n ∧ tv = .int .i64 t ∧ Below w.heap.size w wx) (fun tv _ => n - (intOf tv).toNat)
  case atStart => exact ⟨0, by omega, rfl, b0⟩
  case round =>
    obtain ⟨t, ht, rfl, hbr⟩ := hrel
    obtain ⟨cX, fX⟩ := HX.out _ hbr
    by_cases hlt : t < n
    · have dlt : decide ((t : Int) < (n : Int)) = true := by simpa using hlt
      have t1 := T1.out t hlt
      have t0 : (0 : Int) ≤ (t : Int) := Int.natCast_nonneg _
      have RT := Lib.hid (RC.out (t : Int) _ hbr)
      have TU := Lib.hid (fun (u : Nat) (hu : u < n) (ne : u < t) => T2.out t u hlt hu ne)
      generalize hy : (B.told (t : Int)).1 = y at *
      generalize hm : (B.told (t : Int)).2 = m at *
      have HY := Lib.hid hy
      have HM := Lib.hid hm
      clear hy hm
      go_wp2_with fail
      refine RT.out.mono ?_
      rintro e w2 ⟨rfl, hq⟩
      have hb2 := hbr.trans (hq.mono hbr.size)
      clear cX fX hq
      obtain ⟨cX, fX⟩ := HX.out _ hb2
      rcases t1 with ⟨e1, e2⟩ | ⟨m0, y1, ym⟩
      · subst e1 e2
        go_wp2_with fail
        go_loopw [6] (fun uv wx => ∃ u : Nat, u ≤ t ∧ uv = .int .i64 u ∧ Below w.heap.size w wx) (fun uv _ => t - (intOf uv).toNat)
        case atStart => exact ⟨0, by omega, rfl, hb2⟩
        case round =>
          clear cX fX hb2
          obtain ⟨u, hu, rfl, hb2⟩ := hrel
          by_cases hlu : u < t
          · have dlu : decide (u < t) = true := by simpa using hlu
            have u0 : (0 : Int) ≤ (u : Int) := Int.natCast_nonneg _
            go_wp2_with fail
            exact ⟨⟨t + 1, by omega, by go_num, hb2⟩, by simp [intOf]; omega⟩
          · have dlu : decide (u < t) = false := by simpa using hlu
            go_wp2_with fail
            exact ⟨⟨t + 1, by omega, by go_num, hb2⟩, by simp [intOf]; omega⟩
      · have d1 : decide (m < 0) = false := by simp; omega
        have d2 : (m == 0) = false := by simp; omega
        have d3 : decide (0 < m) = true := by simpa using m0
        have d4 : decide (y < 1) = false := by simp; omega
        have d5 : IntKind.i64.wrap (y + m) = y + m := by rw [IntKind.wrap_i64]; omega
        have d6 : decide (tp < y + m) = false := by simp; omega
        go_wp2_with fail
        refine (TC.out _ hb2).mono ?_
        rintro e w3 ⟨rfl, hq⟩
        have hb3 := hb2.trans (hq.mono hb2.size)
        clear cX fX hq hb2
        obtain ⟨cX, fX⟩ := HX.out _ hb3
        go_wp2_with fail
        go_loopw [6] (fun uv wx => ∃ u : Nat, u ≤ t ∧ uv = .int .i64 u ∧ Below w.heap.size w wx) (fun uv _ => t - (intOf uv).toNat)
        case atStart => exact ⟨0, by omega, rfl, hb3⟩
        case round =>
          clear cX fX hb3
          obtain ⟨u, hu, rfl, hb2⟩ := hrel
          obtain ⟨cX, fX⟩ := HX.out _ hb2
          by_cases hlu : u < t
          · have dlu : decide (u < t) = true := by simpa using hlu
            have u0 : (0 : Int) ≤ (u : Int) := Int.natCast_nonneg _
            have tu := T1.out u (by omega)
            have tw := TU.out u (by omega) hlu
            have RU := Lib.hid (RC.out (u : Int) _ hb2)
            generalize (B.told (u : Int)).1 = z at *
            generalize (B.told (u : Int)).2 = k at *
            have tw' := tw (by omega)
            have TW := Lib.hid tw'
            clear tw tw'
            go_wp2_with fail
            refine RU.out.mono ?_
            rintro e w4 ⟨rfl, hq⟩
            have hb4 := hb2.trans (hq.mono hb2.size)
            clear hq
            rcases tu with ⟨e1, e2⟩ | ⟨k0, z1, zk⟩
            · subst e1 e2
              go_wp2_with fail
              exact ⟨⟨u + 1, by omega, by go_num, hb4⟩, by simp [intOf]; omega⟩
            · have c1 : decide (0 < k) = true := by simpa using k0
              have c5 : IntKind.i64.wrap (z + k) = z + k := by rw [IntKind.wrap_i64]; omega
              rcases TW.out k0 with q | q
              · have c2 : decide (z < y + m) = false := by simp; omega
                go_wp2_with fail
                exact ⟨⟨u + 1, by omega, by go_num, hb4⟩, by simp [intOf]; omega⟩
              · by_cases c : z < y + m
                · have c2 : decide (z < y + m) = true := by simpa using c
                  have c3 : decide (y < z + k) = false := by simp; omega
                  go_wp2_with fail
                  exact ⟨⟨u + 1, by omega, by go_num, hb4⟩, by simp [intOf]; omega⟩
                · have c2 : decide (z < y + m) = false := by simpa using c
                  go_wp2_with fail
                  exact ⟨⟨u + 1, by omega, by go_num, hb4⟩, by simp [intOf]; omega⟩
          · have dlu : decide (u < t) = false := by simpa using hlu
            go_wp2_with fail
            exact ⟨⟨t + 1, by omega, by go_num, hb2⟩, by simp [intOf]; omega⟩
    · have dlt : decide ((t : Int) < (n : Int)) = false := by simpa using hlt
      go_wp2_with fail
      go_ret
      exact ⟨rfl, hbr⟩
end Go.Proofs.YtomgfdfgildkbaaDoor
