/- The walk of the law ArenaSpaces. -/
import Derived.Test.YtomgfdfgildkbaaDoorLaw3a
import Derived.Test.YtomgfdfgildkbaaDoorLaw3b
namespace Go.Proofs.YtomgfdfgildkbaaDoor
open Go.RowKit Go.BigFrame

theorem wrap3 {a : Int} (h0 : -9223372036854775808 ≤ a) (h1 : a < 9223372036854775808) : IntKind.i64.wrap a = a := by rw [IntKind.wrap_i64]; omega
set_option maxHeartbeats 1000000 in
theorem mod3_any (n : Int) (w : World) (h0 : -9223372036854775808 ≤ n) (h1 : n < 9223372036854775808) :
    Calls Tryd.prog 47 #[.int .i64 n, .int .i64 4] w fun e w' => e = .returned (.int .i64 (modI n 4)) ∧ w = w' := by
  unfold modI
  by_cases h : 0 ≤ n
  · go_enter Tryd.func47, Tryd.ntmps47
    go_wp2
    go_ret
    exact ⟨ret_int (by omega), rfl⟩
  · obtain ⟨t0, t1, t2, t3⟩ := tmod4 (n := n) (by omega)
    have f1 : IntKind.i64.wrap (n.tmod 4 + 4) = n.tmod 4 + 4 := wrap3 (by omega) (by omega)
    have f2 : IntKind.i64.wrap (n.tmod 4) = n.tmod 4 := wrap3 (by omega) (by omega)
    go_enter Tryd.func47, Tryd.ntmps47
    go_wp2
    go_ret
    exact ⟨ret_int (by first | rfl | exact t3 | exact t2), rfl⟩
/-- A list of ints that came in. -/
def IntsAt (w : World) (v : Value) (l : List Int) : Prop :=
  ∃ p cap, v = .slice p l.length cap ∧ ∀ i, i < l.length → ∃ b off, p = some ⟨b, off, none⟩ ∧ w.cell? ⟨b, off + i, none⟩ = some (.int .i64 (l.getD i 0))
theorem IntsAt.below {w w' : World} {v : Value} {l : List Int} (h : IntsAt w v l) (hb : Below w.heap.size w w') : IntsAt w' v l := by
  obtain ⟨p, cap, hv, hc⟩ := h
  refine ⟨p, cap, hv, fun i hi => ?_⟩
  obtain ⟨b, off, hp, hx⟩ := hc i hi
  exact ⟨b, off, hp, (hb.cell (p := ⟨b, off + i, none⟩) (World.block_lt_of_cell? w ⟨b, off + i, none⟩ hx)).trans hx⟩
set_option maxRecDepth 100000 in
set_option maxHeartbeats 8000000 in
theorem spaces_no (c : Cfg) (sp cut : Int) (v : Value) (w : World) (tb : Tab w) (hc : c.valid = false) :
    Calls Tryd.prog 8 #[c.val, .int .i64 sp, v, .int .i64 cut] w fun e w' => e = .returned (.bool true) ∧ Below w.heap.size w w' := by
  have KN := Lib.hid (fun (w' : World) (hb : Below w.heap.size w w') => known3_any w' (tb.below hb))
  have NN := Lib.hid (fun w => new_no c w hc)
  have VA := Lib.hid (fun w => valid_any c w)
  rw [hc] at VA
  clear hc tb
  obtain ⟨q0, q1, q2, q3, q4, q5, q6, q7, q8, q9, q10, q11, q12, q13⟩ := c
  unfold Cfg.val Cfg.cells at *
  simp only at *
  go_enter Tryd.func8, Tryd.ntmps8
  go_upto_region 1 with fail
  have hX := heap_one w (.cells #[.int .i64 q0, .int .i64 q1, .int .i64 q2, .int .i64 q3, .int .i64 q4, .int .i64 q5, .int .i64 q6, .int .i64 q7, .int .i64 q8, .int .i64 q9, .int .i64 q10, .int .i64 q11, .int .i64 q12, .int .i64 q13] 45)
  have hb := (Below.refl w.heap.size w).alloc (Nat.le_refl _) (.cells #[.int .i64 q0, .int .i64 q1, .int .i64 q2, .int .i64 q3, .int .i64 q4, .int .i64 q5, .int .i64 q6, .int .i64 q7, .int .i64 q8, .int .i64 q9, .int .i64 q10, .int .i64 q11, .int .i64 q12, .int .i64 q13] 45)
  generalize w.alloc (.cells #[.int .i64 q0, .int .i64 q1, .int .i64 q2, .int .i64 q3, .int .i64 q4, .int .i64 q5, .int .i64 q6, .int .i64 q7, .int .i64 q8, .int .i64 q9, .int .i64 q10, .int .i64 q11, .int .i64 q12, .int .i64 q13] 45) = w1 at *
  go_wp2_with fail
  refine (KN.out _ hb).mono ?_
  rintro e w2 ⟨rfl, hq⟩
  replace hX := (hq.block _ (lt_of_heap hX)).trans hX
  replace hb := hb.trans (hq.mono hb.size)
  obtain ⟨cX, fX⟩ := hcell hX
  clear hq KN
  go_wp2_with fail
  refine (NN.out _).mono ?_
  rintro e w3 ⟨rfl, hq⟩
  replace hX := (hq.block _ (lt_of_heap hX)).trans hX
  replace hb := hb.trans (hq.mono hb.size)
  clear hq cX fX
  obtain ⟨cX, fX⟩ := hcell hX
  go_wp2_with fail
  refine (VA.out _).mono ?_
  rintro e w4 ⟨rfl, hq⟩
  replace hb := hb.trans (hq.mono hb.size)
  go_wp2_with fail
  go_ret
  exact ⟨rfl, hb⟩
set_option maxRecDepth 100000 in
set_option maxHeartbeats 16000000 in
theorem spaces_yes (c : Cfg) (sp cut : Int) (v : Value) (l : List Int) (w : World) (tb : Tab w) (hv : IntsAt w v l) (hl : (l.length : Int) ≤ 9223372036854775807) (hl2 : ∀ x ∈ l, -9223372036854775808 ≤ x ∧ x < 9223372036854775808) (hs : -9223372036854775808 ≤ sp ∧ sp < 9223372036854775808) (hc : c.valid = true) :
    Calls Tryd.prog 8 #[c.val, .int .i64 sp, v, .int .i64 cut] w fun e w' => e = .returned (.bool true) ∧ Below w.heap.size w w' := by
  obtain ⟨p, cap, rfl, hcells⟩ := hv
  have KN := Lib.hid (fun (w' : World) (hb : Below w.heap.size w w') => known3_any w' (tb.below hb))
  have NN := Lib.hid (fun w => new_yes c w hc)
  have ok0 := Ar.new_ok3 hc
  have NF := Lib.hid (fun (s : Int) (hs : isSp s = true) => new_first c hs)
  have NS := Lib.hid (fun (s : Int) (hs : isSp s = true) => new_space hc ok0 hs)
  have NO := Lib.hid (new_out hc)
  have NX := Lib.hid (fun (s : Int) (hs : isSp s = true) => posOf_next (c := c) hs)
  have ZB := Lib.hid (fun s => szOf_bd hc s)
  have PB := Lib.hid (fun s => posOf_bd hc s)
  have MO := Lib.hid (fun w => mod3_any sp w hs.1 hs.2)
  have BO := Lib.hid (fun (a wb : Nat) (s : Int) (w' : World) (hA : ArAt w' a wb (Ar.new c)) => bounds_any a wb (Ar.new c) s w' hA)
  have SP := Lib.hid (fun (a wb : Nat) (s : Int) (w' : World) (hA : ArAt w' a wb (Ar.new c)) => space_any a wb (Ar.new c) s w' hA ok0)
  have TO := Lib.hid (fun (a wb : Nat) (s : Int) (w' : World) (hA : ArAt w' a wb (Ar.new c)) => top_any a wb (Ar.new c) s w' hA)
  have FE := Lib.hid (fun (a wb : Nat) (s : Int) (w' : World) (hA : ArAt w' a wb (Ar.new c)) => free_any a wb (Ar.new c) s w' hA ok0)
  have YO := Lib.hid (fun (a wb : Nat) (s : Int) (w' : World) (hA : ArAt w' a wb (Ar.new c)) => young_any a wb (Ar.new c) s w' hA ok0)
  have hsz : ∀ s, szOf c s = if s = 1 then c.eden else if s = 2 then c.surv else if s = 3 then c.surv else c.ten := fun _ => rfl
  have SZ := Lib.hid hsz
  have HOK := Lib.hid ok0
  have HV := Lib.hid (fun (w' : World) (hb : Below w.heap.size w w') (i : Nat) (hi : i < l.length) => (by
    obtain ⟨b, off, hp, hx⟩ := hcells i hi
    exact ⟨b, off, hp, (hb.cell (p := ⟨b, off + i, none⟩) (World.block_lt_of_cell? w ⟨b, off + i, none⟩ hx)).trans hx⟩ : ∃ b off, p = some ⟨b, off, none⟩ ∧ w'.cell? ⟨b, off + i, none⟩ = some (.int .i64 (l.getD i 0))))
  have HL2 := Lib.hid (fun (i : Nat) (hi : i < l.length) => hl2 (l.getD i 0) (by rw [List.getD_eq_getElem?_getD, List.getElem?_eq_getElem hi]; exact List.getElem_mem hi))
  have cvd : c.val = .agg #[.int .i64 c.eden, .int .i64 c.surv, .int .i64 c.ten, .int .i64 c.large, .int .i64 c.floor, .int .i64 c.num, .int .i64 c.den, .int .i64 c.target, .int .i64 c.maxAge, .int .i64 c.threads, .int .i64 c.slots, .int .i64 c.handles, .int .i64 c.buffer, .int .i64 c.workers] := rfl
  rw [cvd] at NN ⊢
  clear hc tb hs ok0 hsz hcells hl2 cvd
  generalize c.eden = q0 at *
  generalize c.surv = q1 at *
  generalize c.ten = q2 at *
  generalize c.large = q3 at *
  generalize c.floor = q4 at *
  generalize c.num = q5 at *
  generalize c.den = q6 at *
  generalize c.target = q7 at *
  generalize c.maxAge = q8 at *
  generalize c.threads = q9 at *
  generalize c.slots = q10 at *
  generalize c.handles = q11 at *
  generalize c.buffer = q12 at *
  generalize c.workers = q13 at *
  go_enter Tryd.func8, Tryd.ntmps8
  go_upto_region 1 with fail
  have hX := heap_one w (.cells #[.int .i64 q0, .int .i64 q1, .int .i64 q2, .int .i64 q3, .int .i64 q4, .int .i64 q5, .int .i64 q6, .int .i64 q7, .int .i64 q8, .int .i64 q9, .int .i64 q10, .int .i64 q11, .int .i64 q12, .int .i64 q13] 45)
  have hb := (Below.refl w.heap.size w).alloc (Nat.le_refl _) (.cells #[.int .i64 q0, .int .i64 q1, .int .i64 q2, .int .i64 q3, .int .i64 q4, .int .i64 q5, .int .i64 q6, .int .i64 q7, .int .i64 q8, .int .i64 q9, .int .i64 q10, .int .i64 q11, .int .i64 q12, .int .i64 q13] 45)
  generalize w.alloc (.cells #[.int .i64 q0, .int .i64 q1, .int .i64 q2, .int .i64 q3, .int .i64 q4, .int .i64 q5, .int .i64 q6, .int .i64 q7, .int .i64 q8, .int .i64 q9, .int .i64 q10, .int .i64 q11, .int .i64 q12, .int .i64 q13] 45) = w1 at *
  go_wp2_with fail
  refine (KN.out _ hb).mono ?_
  rintro e w2 ⟨rfl, hq⟩
  replace hX := (hq.block _ (lt_of_heap hX)).trans hX
  replace hb := hb.trans (hq.mono hb.size)
  obtain ⟨cX, fX⟩ := hcell hX
  clear hq KN w1
  go_wp2_with fail
  refine (NN.out _).mono ?_
  rintro e w3 ⟨a, wb, rfl, hA, a1, a2, hq⟩
  replace a1 := Nat.le_trans hb.size a1
  replace a2 := Nat.le_trans hb.size a2
  replace hX := (hq.block _ (lt_of_heap hX)).trans hX
  replace hb := hb.trans (hq.mono hb.size)
  clear hq cX fX NN w2
  obtain ⟨cX, fX⟩ := hcell hX
  go_upto_region 7 with fail
  have hZ := heap_one w3 (.cells #[.int .i64 0, .int .i64 q0, .int .i64 q1, .int .i64 q1, .int .i64 q2] 3)
  have hq := (Below.refl w3.heap.size w3).alloc (Nat.le_refl _) (.cells #[.int .i64 0, .int .i64 q0, .int .i64 q1, .int .i64 q1, .int .i64 q2] 3)
  generalize w3.alloc (.cells #[.int .i64 0, .int .i64 q0, .int .i64 q1, .int .i64 q1, .int .i64 q2] 3) = w4 at *
  replace hA := hA.below hq
  replace hb := hb.trans (hq.mono hb.size)
  clear hq hX cX fX
  generalize w3.heap.size = z at *
  have CZ : ∀ s, isSp s = true → w4.cell? ⟨z, s.toNat, none⟩ = some (.int .i64 (szOf c s)) := fun s hs => by
    have hc := (hcell hZ).1
    rw [SZ.out]
    rcases sp_cases hs with rfl | rfl | rfl | rfl <;> rw [hc] <;> rfl
  have HCZ := Lib.hid CZ
  clear CZ hZ SZ
  go_wp2_with fail
  go_loopw [12, 13] (fun at_ i wx => ∃ s : Int, 1 ≤ s ∧ s ≤ 5 ∧ i = .int .i64 s ∧ at_ = .int .i64 (posOf c s) ∧ Below w4.heap.size w4 wx) (fun _ i _ => (5 - intOf i).toNat)
  case atStart => exact ⟨1, by omega, by omega, rfl, rfl, Below.refl _ _⟩
  case round =>
    obtain ⟨s, s1, s5, rfl, rfl, hbr⟩ := hrel
    by_cases hlt : s ≤ 4
    · have hs : isSp s = true := by unfold isSp; simp; omega
      have hAr := hA.below hbr
      obtain ⟨nf1, nf2, nf3, nf4⟩ := NF.out s hs
      obtain ⟨ns1, ns2⟩ := NS.out s hs
      have nx := NX.out s hs
      obtain ⟨zb0, zb1⟩ := ZB.out s
      obtain ⟨pb0, pb1⟩ := PB.out s
      have cz := (hbr.cell (p := ⟨z, s.toNat, none⟩) (World.block_lt_of_cell? w4 ⟨z, s.toNat, none⟩ (HCZ.out s hs))).trans (HCZ.out s hs)
      have BO1 := Lib.hid (BO.out a wb s wr hAr)
      have SP1 := Lib.hid (fun (i : Int) (W : World) (h : Below wr.heap.size wr W) => (SP.out a wb i W (hAr.below h)).mono (R' := fun e w' => e = .returned (.int .i64 ((Ar.new c).space i)) ∧ Below wr.heap.size wr w') fun e w' ⟨h1, h2⟩ => ⟨h1, h2 ▸ h⟩)
      generalize (Ar.new c).space = spv at *
      have TO1 := Lib.hid (fun (W : World) (h : Below wr.heap.size wr W) => (TO.out a wb s W (hAr.below h)).mono (R' := fun e w' => e = .returned (.int .i64 (posOf c s)) ∧ Below wr.heap.size wr w') fun e w' ⟨h1, h2⟩ => ⟨by rw [h1, nf2], h.trans (h2.mono h.size)⟩)
      have FE1 := Lib.hid (fun (W : World) (h : Below wr.heap.size wr W) => (FE.out a wb s W (hAr.below h)).mono (R' := fun e w' => e = .returned (.int .i64 (szOf c s)) ∧ Below wr.heap.size wr w') fun e w' ⟨h1, h2⟩ => ⟨by rw [h1, nf4], h.trans (h2.mono h.size)⟩)
      rw [nf1, nf3] at BO1
      have HNX := Lib.hid nx
      have HN1 := Lib.hid ns1
      have HN2 := Lib.hid ns2
      clear nf1 nf2 nf3 nf4 ns1 ns2 nx BO SP TO FE NF NS NX ZB PB HCZ YO NO MO HOK hA hAr
      generalize posOf c s = fs at *
      generalize szOf c s = zs at *
      have f1 : IntKind.i64.wrap (fs + zs) = fs + zs := wrap3 (by omega) (by omega)
      have f2 : IntKind.i64.wrap (fs + zs - 1) = fs + zs - 1 := wrap3 (by omega) (by omega)
      have s0 : (0 : Int) ≤ s := by omega
      have s5' : s < (5 : Int) := by omega
      go_wp2_with fail
      refine BO1.out.mono ?_
      rintro e w5 ⟨rfl, hb5⟩
      have KEEP := Lib.hid (fun (W : World) (h : Below wr.heap.size wr W) => (⟨(h.cell (p := ⟨z, s.toNat, none⟩) (World.block_lt_of_cell? wr ⟨z, s.toNat, none⟩ cz)).trans cz, h⟩ : W.cell? ⟨z, s.toNat, none⟩ = some (.int .i64 zs) ∧ Below wr.heap.size wr W))
      clear BO1 cz
      go_upto_region 12 with fail
      go_cut [107] from 53 to 108 (fun s wx => s = .bool false ∧ Below wr.heap.size wr wx)
      case first =>
        go_region_held3 (fun W => W.cell? ⟨z, s.toNat, none⟩ = some (.int .i64 zs) ∧ Below wr.heap.size wr W) (first | exact KEEP.out _ hb5.drew | exact KEEP.out _ hb5 | exact KEEP.out _ (by assumption)) (first
          | (go_at_call 44; refine (SP1.out _ _ ?_).mono ?_; (first | assumption | exact hb5.drew); rintro e w' ⟨he, hb9⟩; (first | rw [HN1.out] at he | rw [HN2.out] at he); subst he)
          | (go_at_call 40; refine (TO1.out _ ?_).mono ?_; (first | assumption | exact hb5.drew); rintro e w' ⟨rfl, hb9⟩)
          | (go_at_call 45; refine (FE1.out _ ?_).mono ?_; (first | assumption | exact hb5.drew); rintro e w' ⟨rfl, hb9⟩))
        all_goals
          go_wp2_with fail
          go_meet
          exact ⟨rfl, by assumption⟩
      case rest =>
        obtain ⟨rfl, hb6⟩ := hcut
        go_wp2_with fail
        exact ⟨⟨s + 1, by omega, by omega, by go_num, by rw [HNX.out], hbr.trans (hb6.mono hbr.size)⟩, by simp [intOf]; omega⟩
    · obtain rfl : s = 5 := by omega
      have hAr := hA.below hbr
      obtain ⟨no1, no2, no3, no4, no5⟩ := NO.out
      have S1 := SP.out a wb 0 wr hAr
      have S2 := SP.out a wb (posOf c 5) wr hAr
      have S3 := SP.out a wb (-1) wr hAr
      have Y1 := YO.out a wb 0 wr hAr
      have Y2 := YO.out a wb (posOf c 5) wr hAr
      rw [no1] at S1
      rw [no2] at S2
      rw [no3] at S3
      rw [no4] at Y1
      rw [no5] at Y2
      have S1 := Lib.hid S1
      have S2 := Lib.hid S2
      have S3 := Lib.hid S3
      have Y1 := Lib.hid Y1
      have Y2 := Lib.hid Y2
      have hm := modI_bd (n := sp)
      have hs : isSp (1 + modI sp 4) = true := by unfold isSp; simp; omega
      obtain ⟨nf1, nf2, nf3, nf4⟩ := NF.out _ hs
      obtain ⟨zb0, zb1⟩ := ZB.out (1 + modI sp 4)
      obtain ⟨pb0, pb1⟩ := PB.out (1 + modI sp 4)
      have BO1 := BO.out a wb (1 + modI sp 4) wr hAr
      rw [nf1, nf3] at BO1
      have BO1 := Lib.hid BO1
      have hS : SpIs (Ar.new c) (1 + modI sp 4) (posOf c (1 + modI sp 4)) (szOf c (1 + modI sp 4)) (posOf c (1 + modI sp 4)) := ⟨HOK.out, nf1, nf3, nf2⟩
      obtain ⟨A, hAA, hSA⟩ : ∃ A, ArAt wr a wb A ∧ SpIs A (1 + modI sp 4) (posOf c (1 + modI sp 4)) (szOf c (1 + modI sp 4)) (posOf c (1 + modI sp 4)) := ⟨_, hAr, hS⟩
      clear no1 no2 no3 no4 no5 nf1 nf2 nf3 nf4 SP YO NF ZB PB BO NS NX NO TO FE HCZ HOK hS hAr hA
      generalize posOf c 5 = p5 at *
      generalize posOf c (1 + modI sp 4) = fs at *
      generalize szOf c (1 + modI sp 4) = zs at *
      generalize modI sp 4 = ms at *
      have hb4 := hb.trans (hbr.mono hb.size)
      clear hbr hb
      go_wp2_with fail
      refine S1.out.mono ?_
      rintro e w5 ⟨rfl, rfl⟩
      go_wp2_with fail
      refine S2.out.mono ?_
      rintro e w5 ⟨rfl, rfl⟩
      go_wp2_with fail
      refine S3.out.mono ?_
      rintro e w5 ⟨rfl, rfl⟩
      go_wp2_with fail
      refine Y1.out.mono ?_
      rintro e w5 ⟨rfl, rfl⟩
      go_wp2_with fail
      refine Y2.out.mono ?_
      rintro e w5 ⟨rfl, rfl⟩
      clear S1 S2 S3 Y1 Y2
      go_wp2_with fail
      refine (MO.out _).mono ?_
      rintro e w5 ⟨rfl, rfl⟩
      clear MO
      go_wp2_with fail
      refine BO1.out.mono ?_
      rintro e w5 ⟨rfl, hq⟩
      replace hAA := hAA.below hq
      replace hb4 := hb4.trans (hq.mono hb4.size)
      clear hq BO1
      obtain ⟨s, hss⟩ : ∃ s, 1 + ms = s := ⟨_, rfl⟩
      rw [hss] at hs hSA ⊢
      clear hss hm
      have TKY := Lib.hid (fun (A : Ar) (W : World) (tp n : Int) (hA : ArAt W a wb A) (hS : SpIs A s fs zs tp) (h1 : 1 ≤ n) (h2 : n ≤ fs + zs - tp) => (take_yes a wb A s n W hA hS.ok hs h1 (by rw [hS.free]; exact h2)).mono (R' := fun e w' => e = .returned (.tuple #[.int .i64 tp, .bool true]) ∧ ArAt w' a wb (A.take s n) ∧ Only [a, wb] W w') fun e w' ⟨g1, g2, g3⟩ => ⟨by rw [g1, hS.t], g2, g3⟩)
      have TKN := Lib.hid (fun (A : Ar) (W : World) (tp n : Int) (hA : ArAt W a wb A) (hS : SpIs A s fs zs tp) (h1 : ¬ (1 ≤ n ∧ n ≤ fs + zs - tp)) => take_no a wb A s n W hA hS.ok (fun h => h1 ⟨h.2.1, by have := h.2.2; rw [hS.free] at this; exact this⟩))
      have WD := Lib.hid (fun (A : Ar) (W : World) (i : Int) (hA : ArAt W a wb A) => word_any a wb A i W hA)
      have SW := Lib.hid (fun (A : Ar) (W : World) (i : Int) (hA : ArAt W a wb A) (h1 : 1 ≤ i) (h2 : i < (A.words.length : Int)) => setWord_yes a wb A i 77 W hA h1 h2)
      have TP := Lib.hid (fun (A : Ar) (W : World) (tp : Int) (hA : ArAt W a wb A) (hS : SpIs A s fs zs tp) => (top_any a wb A s W hA).mono (R' := fun e w' => e = .returned (.int .i64 tp) ∧ Below W.heap.size W w') fun e w' ⟨g1, g2⟩ => ⟨by rw [g1, hS.t], g2⟩)
      have FR := Lib.hid (fun (A : Ar) (W : World) (tp : Int) (hA : ArAt W a wb A) (hS : SpIs A s fs zs tp) => (free_any a wb A s W hA hS.ok).mono (R' := fun e w' => e = .returned (.int .i64 (fs + zs - tp)) ∧ Below W.heap.size W w') fun e w' ⟨g1, g2⟩ => ⟨by rw [g1, hS.free], g2⟩)
      have CU := Lib.hid (fun (A : Ar) (W : World) (tp : Int) (hA : ArAt W a wb A) (hS : SpIs A s fs zs tp) => (cut_any a wb A s cut W hA).mono (R' := fun e w' => e = .returned (.bool (decide (fs ≤ cut ∧ cut ≤ tp))) ∧ ArAt w' a wb (if decide (fs ≤ cut ∧ cut ≤ tp) = true then A.setTop s cut else A) ∧ Only [a, wb] W w') fun e w' ⟨g1, g2, g3⟩ => (by
        have e1 : A.cuts s cut = decide (fs ≤ cut ∧ cut ≤ tp) := by unfold Ar.cuts inB; rw [hs, hS.f, hS.t]; rfl
        rw [e1] at g1 g2
        exact ⟨g1, g2, g3⟩))
      have ONLY := Lib.hid (fun (W W' : World) (hb : Below w.heap.size w W) (ho : Only [a, wb] W W') => hb.trans (ho.below (B := w.heap.size) hb.size (by simp; omega)))
      have HS := Lib.hid hs
      clear hs
      go_wp2_with fail
      go_loopw [19, 20] (fun tpv iv wx => ∃ (k : Nat) (tp : Int) (A : Ar), k ≤ l.length ∧ iv = .int .i64 k ∧ tpv = .int .i64 tp ∧ ArAt wx a wb A ∧ SpIs A s fs zs tp ∧ Below w.heap.size w wx) (fun _ iv _ => l.length - (intOf iv).toNat)
      case atStart => exact ⟨0, fs, A, Nat.zero_le _, rfl, rfl, hAA, hSA, hb4⟩
      case round =>
        obtain ⟨k, tp, A, hk, rfl, rfl, hA, hS, hb⟩ := hrel
        obtain ⟨sb0, sb1, sb2, sb3⟩ := hS.bd
        by_cases hlt : k < l.length
        · obtain ⟨pb, off, rfl, hx⟩ := HV.out _ hb k hlt
          obtain ⟨n0, n1⟩ := HL2.out k hlt
          generalize l.getD k 0 = nv at *
          have k0 : (0 : Int) ≤ (k : Int) := Int.natCast_nonneg _
          have k1 : (k : Int) < (l.length : Int) := by omega
          have f1 : IntKind.i64.wrap (fs + zs - tp) = fs + zs - tp := wrap3 (by omega) (by omega)
          by_cases hfit : 1 ≤ nv ∧ nv ≤ fs + zs - tp
          · obtain ⟨m1, m2⟩ := hfit
            have g1 : decide (1 ≤ nv) = true := by simpa using m1
            have g2 : decide (nv ≤ fs + zs - tp) = true := by simpa using m2
            have TK := Lib.hid (TKY.out A wr tp nv hA hS m1 m2)
            have hS2 := hS.take HS.out m1 m2
            have hW2 : ∀ i, 0 ≤ i → i < nv → (A.take s nv).word (tp + i) = 0 := fun i i0 i1 => by
              rw [← hS.t]; exact take_word hS.ok HS.out m1 (by rw [hS.free]; exact m2) i0 i1
            go_wp2_with fail
            refine TK.out.mono ?_
            rintro e w6 ⟨rfl, hA2, ho⟩
            replace hb := ONLY.out _ _ hb ho
            clear ho TK hx hA hS
            generalize A.take s nv = A2 at *
            go_upto_if 179 with fail
            go_cut [19] from 142 to 219 (fun tpv wx => tpv = .int .i64 (tp + nv) ∧ ∃ A3, ArAt wx a wb A3 ∧ SpIs A3 s fs zs (tp + nv) ∧ Below w.heap.size w wx)
            case first =>
              go_wp2_with fail
              go_loopw [25] (fun jv wx => ∃ (j : Int) (A3 : Ar), 0 ≤ j ∧ j ≤ nv ∧ jv = .int .i64 j ∧ ArAt wx a wb A3 ∧ SpIs A3 s fs zs (tp + nv) ∧ (∀ i, j ≤ i → i < nv → A3.word (tp + i) = 0) ∧ Below w.heap.size w wx) (fun jv _ => (50 - intOf jv).toNat)
              case atStart => exact ⟨0, A2, by omega, by omega, rfl, hA2, hS2, hW2, hb⟩
              case round =>
                obtain ⟨j, A3, j0, j1, rfl, hA3, hS3, hW3, hb3⟩ := hrel
                obtain ⟨tl, tf, tm⟩ := hS3.ok.top_le s
                rw [hS3.t] at tl tm
                rw [hS3.f] at tf
                by_cases hj : j < nv
                · have d1 : decide (j < nv) = true := by simpa using hj
                  by_cases hj5 : j < 50
                  · have d2 : decide (j < 50) = true := by simpa using hj5
                    have W1 := WD.out A3 wr (tp + j) hA3
                    rw [hW3 j (by omega) hj] at W1
                    have W1 := Lib.hid W1
                    have h1f := hS3.ok.sizes s
                    have fpos : 1 ≤ A3.first s := by
                      obtain ⟨e0, e1, u0, u1, t0, t1⟩ := Cfg.bd hS3.ok.cv
                      rcases sp_cases HS.out with rfl | rfl | rfl | rfl <;> simp [Ar.first] <;> omega
                    rw [hS3.f] at fpos
                    have SW1 := Lib.hid (SW.out A3 wr (tp + j) hA3 (by omega) (by omega))
                    have hS4 := hS3.put (i := tp + j) (v := 77) (by decide) (by decide)
                    have hW4 : ∀ i, j + 1 ≤ i → i < nv → (A3.put (tp + j) 77).word (tp + i) = 0 := fun i i0 i1 => by
                      rw [put_word_ne (by omega) (by omega)]; exact hW3 i (by omega) i1
                    clear hW3 hS3 hA3 h1f tl tf tm
                    generalize A3.put (tp + j) 77 = A4 at *
                    go_wp2_with fail
                    refine W1.out.mono ?_
                    rintro e w7 ⟨rfl, rfl⟩
                    go_wp2_with fail
                    refine SW1.out.mono ?_
                    rintro e w7 ⟨rfl, hA4, ho⟩
                    have hb4 := ONLY.out _ _ hb3 ho
                    go_wp2_with fail
                    exact ⟨⟨j + 1, A4, by omega, by omega, by go_num, hA4, hS4, hW4, hb4⟩, by simp [intOf]; omega⟩
                  · have d2 : decide (j < 50) = false := by simpa using hj5
                    go_wp2_with fail
                    go_meet
                    exact ⟨rfl, A3, hA3, hS3, hb3⟩
                · have d1 : decide (j < nv) = false := by simpa using hj
                  go_wp2_with fail
                  go_meet
                  exact ⟨rfl, A3, hA3, hS3, hb3⟩
            case rest =>
              obtain ⟨rfl, A3, hA3, hS3, hb3⟩ := hcut
              have TP3 := Lib.hid (TP.out A3 wc (tp + nv) hA3 hS3)
              have FR3 := Lib.hid (fun W (h : Below wc.heap.size wc W) => FR.out A3 W (tp + nv) (hA3.below h) hS3)
              have f3 : IntKind.i64.wrap (fs + zs - (tp + nv)) = fs + zs - (tp + nv) := wrap3 (by omega) (by omega)
              go_wp2_with fail
              refine TP3.out.mono ?_
              rintro e w7 ⟨rfl, hq7⟩
              go_wp2_with fail
              refine (FR3.out _ hq7).mono ?_
              rintro e w8 ⟨rfl, hq8⟩
              have hq := hq7.trans (hq8.mono hq7.size)
              go_wp2_with fail
              exact ⟨⟨k + 1, tp + nv, A3, by omega, by go_num, rfl, hA3.below hq, hS3, hb3.trans (hq.mono hb3.size)⟩, by simp [intOf]; omega⟩
          · have TK := Lib.hid (TKN.out A wr tp nv hA hS hfit)
            have gd : decide (1 ≤ nv) = false ∨ decide (1 ≤ nv) = true ∧ decide (nv ≤ fs + zs - tp) = false := by
              by_cases q : 1 ≤ nv
              · right; exact ⟨by simpa using q, by simp; omega⟩
              · left; simpa using q
            have TP3 := Lib.hid (fun W (h : Below wr.heap.size wr W) => TP.out A W tp (hA.below h) hS)
            have FR3 := Lib.hid (fun W (h : Below wr.heap.size wr W) => FR.out A W tp (hA.below h) hS)
            clear hfit
            go_wp2_with fail
            refine TK.out.mono ?_
            rintro e w6 ⟨rfl, hq6⟩
            go_upto_region 25 with fail
            go_cut [24] from 142 to 219 (fun b wx => b = .bool false ∧ wx = w6)
            case first =>
              rcases gd with q1 | ⟨q1, q2⟩
              · go_wp2_with fail
                go_meet
                exact ⟨rfl, rfl⟩
              · go_wp2_with fail
                go_meet
                exact ⟨rfl, rfl⟩
            case rest =>
              obtain ⟨rfl, rfl⟩ := hcut
              go_wp2_with fail
              refine (TP3.out _ hq6).mono ?_
              rintro e w7 ⟨rfl, hq7⟩
              have hq := hq6.trans (hq7.mono hq6.size)
              go_wp2_with fail
              refine (FR3.out _ hq).mono ?_
              rintro e w8 ⟨rfl, hq8⟩
              replace hq := hq.trans (hq8.mono hq.size)
              go_wp2_with fail
              exact ⟨⟨k + 1, tp, A, by omega, by go_num, rfl, hA.below hq, hS, hb.trans (hq.mono hb.size)⟩, by simp [intOf]; omega⟩
        · obtain rfl : k = l.length := by omega
          have CU1 := CU.out A wr tp hA hS
          by_cases hcc : fs ≤ cut ∧ cut ≤ tp
          · have hS5 := hS.cut HS.out hcc.1 hcc.2
            rw [decide_eq_true hcc, if_pos rfl] at CU1
            have CU1 := Lib.hid CU1
            generalize A.setTop s cut = A5 at *
            have g1 : decide (fs ≤ cut) = true := by simpa using hcc.1
            have g2 : decide (cut ≤ tp) = true := by simpa using hcc.2
            clear hA hS CU
            go_wp2_with fail
            refine CU1.out.mono ?_
            rintro e w7 ⟨rfl, hA5, ho⟩
            have hb7 := ONLY.out _ _ hb ho
            clear ho hb CU1
            go_upto_region 42 with fail
            have TP5 := Lib.hid (TP.out A5 w7 cut hA5 hS5)
            have FR5 := Lib.hid (fun W (h : Below w7.heap.size w7 W) => FR.out A5 W cut (hA5.below h) hS5)
            obtain ⟨sc0, sc1, sc2, sc3⟩ := hS5.bd
            have f5 : IntKind.i64.wrap (fs + zs - cut) = fs + zs - cut := wrap3 (by omega) (by omega)
            by_cases hfull : cut < fs + zs
            · have g5 : decide (cut < fs + zs) = true := by simpa using hfull
              have TK5 := Lib.hid (fun W (h : Below w7.heap.size w7 W) => TKY.out A5 W cut (fs + zs - cut) (hA5.below h) hS5 (by omega) (Int.le_refl _))
              have hS6 := hS5.take (n := fs + zs - cut) HS.out (by omega) (Int.le_refl _)
              have hW6 := take_word hS5.ok HS.out (n := fs + zs - cut) (by omega) (by rw [hS5.free]; exact Int.le_refl _) (Int.le_refl 0) (by omega)
              rw [hS5.t, Int.add_zero] at hW6
              generalize A5.take s (fs + zs - cut) = A6 at *
              have FR6 := Lib.hid (fun (W : World) (hA6 : ArAt W a wb A6) => FR.out A6 W (cut + (fs + zs - cut)) hA6 hS6)
              have WD6 := Lib.hid (fun (W : World) (hA6 : ArAt W a wb A6) => WD.out A6 W cut hA6)
              rw [show fs + zs - (cut + (fs + zs - cut)) = 0 by omega] at FR6
              rw [hW6] at WD6
              clear hW6 hS6 hS5
              go_wp2_with fail
              refine TP5.out.mono ?_
              rintro e w8 ⟨rfl, hq8⟩
              go_wp2_with fail
              refine (FR5.out _ hq8).mono ?_
              rintro e w9 ⟨rfl, hq9⟩
              have hq := hq8.trans (hq9.mono hq8.size)
              have hbq := hb7.trans (hq.mono hb7.size)
              go_wp2_with fail
              refine (TK5.out _ hq).mono ?_
              rintro e w10 ⟨rfl, hA6, ho⟩
              have hb10 := ONLY.out _ _ hbq ho
              clear ho
              go_wp2_with fail
              refine (FR6.out _ hA6).mono ?_
              rintro e w11 ⟨rfl, hq11⟩
              have hA7 := hA6.below hq11
              go_wp2_with fail
              refine (WD6.out _ hA7).mono ?_
              rintro e w12 ⟨rfl, rfl⟩
              go_wp2_with fail
              go_ret
              exact ⟨rfl, hb10.trans (hq11.mono hb10.size)⟩
            · have g5 : decide (cut < fs + zs) = false := by simpa using hfull
              have TK5 := Lib.hid (fun W (h : Below w7.heap.size w7 W) => TKN.out A5 W cut (fs + zs - cut) (hA5.below h) hS5 (by omega))
              clear hS5
              go_wp2_with fail
              refine TP5.out.mono ?_
              rintro e w8 ⟨rfl, hq8⟩
              go_wp2_with fail
              refine (FR5.out _ hq8).mono ?_
              rintro e w9 ⟨rfl, hq9⟩
              have hq := hq8.trans (hq9.mono hq8.size)
              have hbq := hb7.trans (hq.mono hb7.size)
              go_wp2_with fail
              refine (TK5.out _ hq).mono ?_
              rintro e w10 ⟨rfl, hq10⟩
              go_wp2_with fail
              go_ret
              exact ⟨rfl, hbq.trans (hq10.mono hbq.size)⟩
          · rw [decide_eq_false hcc] at CU1
            have CU1 := Lib.hid CU1
            have gd : decide (fs ≤ cut) = false ∨ decide (fs ≤ cut) = true ∧ decide (cut ≤ tp) = false := by
              by_cases q : fs ≤ cut
              · right; exact ⟨by simpa using q, by simp; omega⟩
              · left; simpa using q
            clear CU
            go_wp2_with fail
            refine CU1.out.mono ?_
            rintro e w7 ⟨rfl, hA5, ho⟩
            have hb7 := ONLY.out _ _ hb ho
            rw [if_neg (by simp)] at hA5
            clear ho hb CU1 hA
            have hS5 := hS
            clear hS
            obtain ⟨t5, ht5⟩ : ∃ t5, tp = t5 := ⟨_, rfl⟩
            obtain ⟨A5, hA5'⟩ : ∃ A5, A = A5 := ⟨_, rfl⟩
            rw [hA5'] at hA5 hS5
            subst ht5
            clear hA5'
            go_upto_region 38 with fail
            go_cut [233] from 224 (fun b wx => b = .bool false ∧ wx = w7)
            case first =>
              rcases gd with q1 | ⟨q1, q2⟩
              · go_wp2_with fail
                go_meet
                exact ⟨rfl, rfl⟩
              · go_wp2_with fail
                go_meet
                exact ⟨rfl, rfl⟩
            case rest =>
              obtain ⟨rfl, rfl⟩ := hcut
              clear gd hcc
              have TP5 := Lib.hid (TP.out A5 wc tp hA5 hS5)
              have FR5 := Lib.hid (fun W (h : Below wc.heap.size wc W) => FR.out A5 W tp (hA5.below h) hS5)
              obtain ⟨sc0, sc1, sc2, sc3⟩ := hS5.bd
              have f5 : IntKind.i64.wrap (fs + zs - tp) = fs + zs - tp := wrap3 (by omega) (by omega)
              by_cases hfull : tp < fs + zs
              · have g5 : decide (tp < fs + zs) = true := by simpa using hfull
                have TK5 := Lib.hid (fun W (h : Below wc.heap.size wc W) => TKY.out A5 W tp (fs + zs - tp) (hA5.below h) hS5 (by omega) (Int.le_refl _))
                have hS6 := hS5.take (n := fs + zs - tp) HS.out (by omega) (Int.le_refl _)
                have hW6 := take_word hS5.ok HS.out (n := fs + zs - tp) (by omega) (by rw [hS5.free]; exact Int.le_refl _) (Int.le_refl 0) (by omega)
                rw [hS5.t, Int.add_zero] at hW6
                generalize A5.take s (fs + zs - tp) = A6 at *
                have FR6 := Lib.hid (fun (W : World) (hA6 : ArAt W a wb A6) => FR.out A6 W (tp + (fs + zs - tp)) hA6 hS6)
                have WD6 := Lib.hid (fun (W : World) (hA6 : ArAt W a wb A6) => WD.out A6 W tp hA6)
                rw [show fs + zs - (tp + (fs + zs - tp)) = 0 by omega] at FR6
                rw [hW6] at WD6
                clear hW6 hS6 hS5
                go_wp2_with fail
                refine TP5.out.mono ?_
                rintro e w8 ⟨rfl, hq8⟩
                go_wp2_with fail
                refine (FR5.out _ hq8).mono ?_
                rintro e w9 ⟨rfl, hq9⟩
                have hq := hq8.trans (hq9.mono hq8.size)
                have hbq := hb7.trans (hq.mono hb7.size)
                go_wp2_with fail
                refine (TK5.out _ hq).mono ?_
                rintro e w10 ⟨rfl, hA6, ho⟩
                have hb10 := ONLY.out _ _ hbq ho
                clear ho
                go_wp2_with fail
                refine (FR6.out _ hA6).mono ?_
                rintro e w11 ⟨rfl, hq11⟩
                have hA7 := hA6.below hq11
                go_wp2_with fail
                refine (WD6.out _ hA7).mono ?_
                rintro e w12 ⟨rfl, rfl⟩
                go_wp2_with fail
                go_ret
                exact ⟨rfl, hb10.trans (hq11.mono hb10.size)⟩
              · have g5 : decide (tp < fs + zs) = false := by simpa using hfull
                have TK5 := Lib.hid (fun W (h : Below wc.heap.size wc W) => TKN.out A5 W tp (fs + zs - tp) (hA5.below h) hS5 (by omega))
                clear hS5
                go_wp2_with fail
                refine TP5.out.mono ?_
                rintro e w8 ⟨rfl, hq8⟩
                go_wp2_with fail
                refine (FR5.out _ hq8).mono ?_
                rintro e w9 ⟨rfl, hq9⟩
                have hq := hq8.trans (hq9.mono hq8.size)
                have hbq := hb7.trans (hq.mono hb7.size)
                go_wp2_with fail
                refine (TK5.out _ hq).mono ?_
                rintro e w10 ⟨rfl, hq10⟩
                go_wp2_with fail
                go_ret
                exact ⟨rfl, hbq.trans (hq10.mono hbq.size)⟩
end Go.Proofs.YtomgfdfgildkbaaDoor
