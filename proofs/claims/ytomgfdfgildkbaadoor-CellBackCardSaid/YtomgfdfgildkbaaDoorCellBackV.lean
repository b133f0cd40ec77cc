/- The walk of the law CellBack: its body. -/
import Derived.Test.YtomgfdfgildkbaaDoorCellBackW
namespace Go.Proofs.YtomgfdfgildkbaaDoor
open Go.RowKit Go.BigFrame

theorem alloc3 (w : World) (X : Obj) : (w.alloc X).heap[w.heap.size]? = some X ∧ (∀ b, b < w.heap.size → (w.alloc X).heap[b]? = w.heap[b]?) ∧ (w.alloc X).heap.size = w.heap.size + 1 := by
  refine ⟨?_, fun b hb => ?_, ?_⟩
  · show (w.heap.push X)[w.heap.size]? = _; simp
  · exact ((Below.refl _ w).alloc (Nat.le_refl _) X).block b hb
  · simp
set_option maxRecDepth 100000 in
set_option maxHeartbeats 4000000 in
theorem cellBack_walk (kind ptrs raws age site : Int) (held : Bool) (serial other : Int) (w : World) (ht : Tab w) (b0 : I64 kind) (b1 : I64 ptrs) (b2 : I64 raws) (b3 : I64 age) (b4 : I64 site) (b7 : I64 other)
    :
    Calls Tryd.prog 6 #[.int .i64 kind, .int .i64 ptrs, .int .i64 raws, .int .i64 age, .int .i64 site, .bool held, .int .u64 serial, .int .i64 other] w fun e w' => e = .returned (.bool true) ∧ Below w.heap.size w w' := by
  have KN := Lib.hid (known2_any w ht)
  have A1 := Lib.hid (fun W => among2_any kind 4 W b0.lo b0.hi (by decide) (by decide))
  have A2 := Lib.hid (fun W => among2_any ptrs 4096 W b1.lo b1.hi (by decide) (by decide))
  have A3 := Lib.hid (fun W => among2_any raws 65536 W b2.lo b2.hi (by decide) (by decide))
  have A4 := Lib.hid (fun W => among2_any age 16 W b3.lo b3.hi (by decide) (by decide))
  have A5 := Lib.hid (fun W => among2_any site 256 W b4.lo b4.hi (by decide) (by decide))
  have f := bkHd_fine kind ptrs raws age site held serial
  have hk := @among_bd kind 4 (by decide)
  have hpt := @among_bd ptrs 4096 (by decide)
  have hp : (if 1 + amongI kind 4 = 2 ∨ 1 + amongI kind 4 = 3 then (if amongI ptrs 4096 < amongI kind 4 then amongI kind 4 else amongI ptrs 4096) else amongI ptrs 4096) = (bkHd kind ptrs raws age site held serial).ptrs := rfl
  have P := fun W (hb : Below w.heap.size w W) => pack_yes _ W (ht.below hb) f
  have hv : (bkHd kind ptrs raws age site held serial).val = .agg #[.int .u64 serial, .int .i64 (1 + amongI kind 4), .int .i64 (bkHd kind ptrs raws age site held serial).ptrs, .int .i64 (amongI raws 65536), .int .i64 (amongI age 16), .int .i64 (amongI site 256), .bool held] := rfl
  rw [hv] at P
  have eb := enc_bd f
  have ed := dec_enc f
  have ei := isHd_enc f
  have hS : sizeW (enc (bkHd kind ptrs raws age site held serial)) = 2 + (bkHd kind ptrs raws age site held serial).ptrs + amongI raws 65536 := by unfold sizeW; rw [ei, ed]; rfl
  have U0 := fun W (hb : Below w.heap.size w W) => unpack_any (enc (bkHd kind ptrs raws age site held serial)) W (ht.below hb) eb.1 (by omega)
  have S0 := fun W (hb : Below w.heap.size w W) => size_any (enc (bkHd kind ptrs raws age site held serial)) W (ht.below hb) eb.1 (by omega)
  rw [hS] at S0
  have hva : ∀ g : Hd, Fine g → unp (enc g) = { g with ser := 0 } ∧ isHd (enc g) = true := fun g fg => ⟨by unfold unp; rw [isHd_enc fg, if_pos rfl, dec_enc fg], isHd_enc fg⟩
  rw [(hva _ f).1, (hva _ f).2] at U0
  have ha2 := @among_bd other 16 (by decide)
  have hk2 := @among_bd other 4 (by decide)
  have hn2 := @among_bd other 1099511627776 (by decide)
  have w1 := withH_age f ha2.1 (show amongI other 16 ≤ 15 by omega)
  have w2 := withH_held f (!held)
  have T1 := fun W (hb : Below w.heap.size w W) => With_age_any (amongI other 16) (enc (bkHd kind ptrs raws age site held serial)) W (ht.below hb) eb.1 (by omega)
  have T2 := fun W (hb : Below w.heap.size w W) => With_held_any (!held) (enc (bkHd kind ptrs raws age site held serial)) W (ht.below hb) eb.1 (by omega)
  have T3 := fun W (hb : Below w.heap.size w W) => With_kind_any (1 + amongI other 4) (enc (bkHd kind ptrs raws age site held serial)) W (ht.below hb) eb.1 (by omega)
  rw [w1.1] at T1
  rw [w2.1] at T2
  have e1 := enc_bd w1.2
  have e2 := enc_bd w2.2
  have U1 := fun W (hb : Below w.heap.size w W) => unpack_any _ W (ht.below hb) e1.1 (by omega)
  have U2 := fun W (hb : Below w.heap.size w W) => unpack_any _ W (ht.below hb) e2.1 (by omega)
  rw [(hva _ w1.2).1, (hva _ w1.2).2] at U1
  rw [(hva _ w2.2).1, (hva _ w2.2).2] at U2
  have w3 : ∃ g : Hd, Fine g ∧ withH (enc (bkHd kind ptrs raws age site held serial)) (fun (g : Hd) => { g with kind := 1 + amongI other 4 }) = enc g ∧ { g with ser := 0 } = (⟨0, if (1 + amongI other 4 = 2 ∧ (bkHd kind ptrs raws age site held serial).ptrs < 1) ∨ (1 + amongI other 4 = 3 ∧ (bkHd kind ptrs raws age site held serial).ptrs < 2) then 1 + amongI kind 4 else 1 + amongI other 4, (bkHd kind ptrs raws age site held serial).ptrs, amongI raws 65536, amongI age 16, amongI site 256, held⟩ : Hd) := by
    by_cases c : (1 + amongI other 4 = 2 ∧ (bkHd kind ptrs raws age site held serial).ptrs < 1) ∨ (1 + amongI other 4 = 3 ∧ (bkHd kind ptrs raws age site held serial).ptrs < 2)
    · exact ⟨_, f, withH_kind_no f c, by rw [if_pos c]; rfl⟩
    · obtain ⟨q1, q2⟩ := withH_kind f (k := 1 + amongI other 4) (by omega) (by omega) c
      exact ⟨_, q2, q1, by rw [if_neg c]; rfl⟩
  obtain ⟨g3, f3, q3, q4⟩ := w3
  rw [q3] at T3
  have e3 := enc_bd f3
  have U3 := fun W (hb : Below w.heap.size w W) => unpack_any (enc g3) W (ht.below hb) e3.1 (by omega)
  rw [(hva _ f3).1, (hva _ f3).2, q4] at U3
  have B1 := Lib.hid (fun W => among2_any other 16 W b7.lo b7.hi (by decide) (by decide))
  have B2 := Lib.hid (fun W => among2_any other 4 W b7.lo b7.hi (by decide) (by decide))
  have B3 := Lib.hid (fun W => among2_any other 1099511627776 W b7.lo b7.hi (by decide) (by decide))
  have F1 := Lib.hid (fun W => forward_any (1 + amongI other 1099511627776) W)
  have hwf : 0 ≤ wordT 2 (1 + amongI other 1099511627776) ∧ wordT 2 (1 + amongI other 1099511627776) < 18446744073709551616 := by unfold wordT; rw [if_pos (by omega)]; omega
  have hwg : 0 ≤ wordT 3 (1 + amongI other 1099511627776) ∧ wordT 3 (1 + amongI other 1099511627776) < 18446744073709551616 := by unfold wordT; rw [if_pos (by omega)]; omega
  have F2 := fun W => forwarded_any (wordT 2 (1 + amongI other 1099511627776)) W hwf.1 hwf.2
  rw [numT_back (by decide) (by decide) (by omega) (by omega)] at F2
  have G1 := Lib.hid (fun W => filler_any (1 + amongI other 1099511627776) W)
  have G2 := fun W => filled_any (wordT 3 (1 + amongI other 1099511627776)) W hwg.1 hwg.2
  rw [numT_back (by decide) (by decide) (by omega) (by omega)] at G2
  have F3 := fun W (hb : Below w.heap.size w W) => With_age_any 3 (wordT 2 (1 + amongI other 1099511627776)) W (ht.below hb) hwf.1 hwf.2
  rw [withH_fwd (by omega) (by omega)] at F3
  unfold Hd.val at U0 U1 U2 U3
  simp only at U0 U1 U2 U3
  have hr := @among_bd raws 65536 (by decide)
  have hbk : (bkHd kind ptrs raws age site held serial).kind = 1 + amongI kind 4 ∧ (bkHd kind ptrs raws age site held serial).raws = amongI raws 65536 ∧ (bkHd kind ptrs raws age site held serial).age = amongI age 16 ∧ (bkHd kind ptrs raws age site held serial).site = amongI site 256 ∧ (bkHd kind ptrs raws age site held serial).held = held := ⟨rfl, rfl, rfl, rfl, rfl⟩
  rw [hbk.1, hbk.2.1, hbk.2.2.1, hbk.2.2.2.1, hbk.2.2.2.2] at U0
  have fp0 := f.p0
  have fp1 := f.p1
  generalize (bkHd kind ptrs raws age site held serial) = H at *
  generalize hP : H.ptrs = p at *
  generalize amongI kind 4 = k at *
  generalize amongI ptrs 4096 = q at *
  generalize amongI raws 65536 = rw at *
  generalize amongI age 16 = ag at *
  generalize amongI site 256 = st at *
  generalize amongI other 16 = oa at *
  generalize amongI other 4 = ok at *
  generalize amongI other 1099511627776 = n at *
  obtain ⟨j1, j2, j3, j4, j5⟩ := hbk
  simp only [j1, j2, j3, j4, j5] at U1 U2 T1 T2 e1 e2
  clear w1 w2 f3 q3 q4 hva f hv ed ei
  generalize enc H = x at *
  generalize enc { ser := 0, kind := 1 + k, ptrs := p, raws := rw, age := oa, site := st, held := held } = x1 at *
  generalize enc { ser := 0, kind := 1 + k, ptrs := p, raws := rw, age := ag, site := st, held := !held } = x2 at *
  generalize enc g3 = x3 at *
  generalize hkk : (if (1 + ok = 2 ∧ p < 1) ∨ (1 + ok = 3 ∧ p < 2) then 1 + k else 1 + ok) = kk at *
  have HP := Lib.hid hp
  have HKK := Lib.hid hkk
  replace P := Lib.hid P
  replace U0 := Lib.hid U0
  replace S0 := Lib.hid S0
  replace T1 := Lib.hid T1
  replace T2 := Lib.hid T2
  replace T3 := Lib.hid T3
  replace U1 := Lib.hid U1
  replace U2 := Lib.hid U2
  replace U3 := Lib.hid U3
  replace F2 := Lib.hid F2
  replace F3 := Lib.hid F3
  replace G2 := Lib.hid G2
  generalize wordT 2 (1 + n) = wf at *
  generalize wordT 3 (1 + n) = wg at *
  clear b0 b1 b2 b3 b4 b7 hp hkk j1 j2 j3 j4 j5 hP hS g3 H
  have HWR := Lib.hid (show (2 + p + rw != IntKind.i64.wrap (IntKind.i64.wrap (2 + p) + rw)) = false by rw [IntWalk.i64_in (2 + p) (by omega), IntWalk.i64_in _ (by omega)]; simp)
  go_enter Tryd.func6, Tryd.ntmps6
  go_wp2_with fail
  refine KN.out.mono ?_
  rintro e w1 ⟨rfl, hb1⟩
  go_wp2_with fail
  refine (A1.out _).mono ?_
  rintro e w2 ⟨rfl, rfl⟩
  go_wp2_with fail
  refine (A2.out _).mono ?_
  rintro e w2 ⟨rfl, rfl⟩
  go_upto_region 5 with fail
  go_cut [41] (fun s wx => s = .bool (decide (1 + k = 2 ∨ 1 + k = 3)) ∧ w1 = wx)
  case first =>
    by_cases c1 : 1 + k = 2
    · have d1 : (1 + k == 2) = true := by simpa using c1
      have d2 : (1 + k == 3) = false := by simp; omega
      have e1 : decide (1 + k = 2 ∨ 1 + k = 3) = true := by simp [c1]
      have E1 := Lib.hid e1
      clear c1 e1
      go_wp2_with fail
      go_meet
      exact ⟨by rw [E1.out], rfl⟩
    · have d1 : (1 + k == 2) = false := by simpa using c1
      have e1 : decide (1 + k = 2 ∨ 1 + k = 3) = (1 + k == 3) := by by_cases c2 : 1 + k = 3 <;> simp [c1, c2]
      have E1 := Lib.hid e1
      clear c1 e1
      go_wp2_with fail
      go_meet
      exact ⟨by rw [E1.out], rfl⟩
  obtain ⟨rfl, rfl⟩ := hcut
  go_upto_if 41 with fail
  go_cut [18] (fun s wx => s = .int .i64 p ∧ w1 = wx)
  case first =>
    have hp2 := HP.out
    by_cases c1 : 1 + k = 2 ∨ 1 + k = 3
    · rw [if_pos c1] at hp2
      rw [decide_eq_true c1]
      by_cases d : q < k
      · rw [if_pos d] at hp2
        subst hp2
        clear c1
        go_wp2_with fail
        go_meet
        exact ⟨congrArg (Value.int .i64) (by omega), rfl⟩
      · rw [if_neg d] at hp2
        subst hp2
        have d2 : k ≤ q := by omega
        clear c1 d
        go_wp2_with fail
        go_meet
        exact ⟨rfl, rfl⟩
    · rw [if_neg c1] at hp2
      rw [decide_eq_false c1]
      subst hp2
      clear c1
      go_wp2_with fail
      go_meet
      exact ⟨rfl, rfl⟩
  obtain ⟨rfl, rfl⟩ := hcut
  go_wp2_with fail
  refine (A3.out _).mono ?_
  rintro e w2 ⟨rfl, rfl⟩
  go_wp2_with fail
  refine (A4.out _).mono ?_
  rintro e w2 ⟨rfl, rfl⟩
  go_wp2_with fail
  refine (A5.out _).mono ?_
  rintro e w2 ⟨rfl, rfl⟩
  go_wp2_with fail
  refine (P.out _ (hb1.alloc hb1.size _)).mono ?_
  rintro e w2 ⟨rfl, hb⟩
  obtain ⟨Bh, hb2, hlt⟩ := kept_new hb
  replace hb2 := hb1.trans (hb2.mono hb1.size)
  have hge := hb1.size
  generalize w1.heap.size = bh at *
  clear hb hb1 A1 A2 A3 A4 A5 KN P
  obtain ⟨hc, hf⟩ := hcell Bh
  go_wp2_with fail
  have Bh2 := block_set Bh 0 (.int .u64 0)
  have hb3 := Below.setCell (p := ⟨bh, 0, none⟩) hb2 hge (.int .u64 0)
  have hlt3 : bh < (w2.setCell ⟨bh, 0, none⟩ (.int .u64 0)).heap.size := by simpa using hlt
  simp only [List.setIfInBounds_toArray, List.set_cons_zero] at Bh2
  generalize (w2.setCell ⟨bh, 0, none⟩ (.int .u64 0)) = w3 at *
  clear hc hf Bh hb2 hlt w2
  refine (U0.out _ hb3).mono ?_
  rintro e w4 ⟨rfl, hb⟩
  replace Bh2 := (hb.block _ hlt3).trans Bh2
  have hlt4 : bh < w4.heap.size := Nat.lt_of_lt_of_le hlt3 hb.size
  have hb4 := hb3.trans (hb.mono hb3.size)
  clear hb hb3 hlt3 U0
  go_upto_region 11 with fail
  obtain ⟨Bx, ho, hs⟩ := alloc3 w4 (.cells #[.int .u64 0, .int .i64 (1 + k), .int .i64 p, .int .i64 rw, .int .i64 ag, .int .i64 st, .bool held] 24)
  have Bh5 := (ho _ hlt4).trans Bh2
  have hb5 := hb4.alloc hb4.size (.cells #[.int .u64 0, .int .i64 (1 + k), .int .i64 p, .int .i64 rw, .int .i64 ag, .int .i64 st, .bool held] 24)
  have gx := hb4.size
  generalize (w4.alloc (.cells #[.int .u64 0, .int .i64 (1 + k), .int .i64 p, .int .i64 rw, .int .i64 ag, .int .i64 st, .bool held] 24)) = w5 at *
  generalize w4.heap.size = bx at *
  clear ho Bh2 hb4
  have KEEP := Lib.hid (fun (W : World) (hb : Below w5.heap.size w5 W) => (⟨(hcell ((hb.block _ (lt_of_heap Bh5)).trans Bh5)).1, (hcell ((hb.block _ (lt_of_heap Bx)).trans Bx)).1, hb⟩ : (∀ o, W.cell? ⟨bh, o, none⟩ = (#[.int .u64 0, .int .i64 (1 + k), .int .i64 p, .int .i64 rw, .int .i64 ag, .int .i64 st, .bool held] : Array Value)[o]?) ∧ (∀ o, W.cell? ⟨bx, o, none⟩ = (#[.int .u64 0, .int .i64 (1 + k), .int .i64 p, .int .i64 rw, .int .i64 ag, .int .i64 st, .bool held] : Array Value)[o]?) ∧ Below w5.heap.size w5 W))
  have SZ := Lib.hid (fun W (hb : Below w5.heap.size w5 W) => (S0.out W (hb5.trans (hb.mono hb5.size))).mono (R' := fun e w' => e = .returned (.int .i64 (2 + p + rw)) ∧ Below w5.heap.size w5 w') fun e w' ⟨h1, h2⟩ => ⟨h1, hb.trans (h2.mono hb.size)⟩)
  clear S0
  go_cut [89] (fun s wx => s = .bool false ∧ Below w5.heap.size w5 wx)
  case first =>
    clear T1 T2 T3 U1 U2 U3 F1 F2 F3 G1 G2 B1 B2 B3 HP HKK Bx Bh5
    go_region_held3 (fun W => (∀ o, W.cell? ⟨bh, o, none⟩ = (#[.int .u64 0, .int .i64 (1 + k), .int .i64 p, .int .i64 rw, .int .i64 ag, .int .i64 st, .bool held] : Array Value)[o]?) ∧ (∀ o, W.cell? ⟨bx, o, none⟩ = (#[.int .u64 0, .int .i64 (1 + k), .int .i64 p, .int .i64 rw, .int .i64 ag, .int .i64 st, .bool held] : Array Value)[o]?) ∧ Below w5.heap.size w5 W) (first | exact KEEP.out _ (Below.refl _ _).drew | exact KEEP.out _ (Below.refl _ _) | exact KEEP.out _ (by assumption)) (first | (go_at_call 18; refine (SZ.out _ ?_).mono ?_; (first | assumption | exact (Below.refl _ _).drew | exact (Below.refl _ _)); rintro e w' ⟨rfl, hb⟩))
    all_goals
      go_wp2_with fail
      go_meet
      exact ⟨(by first | rfl | exact congrArg Value.bool HWR.out), by assumption⟩
  obtain ⟨rfl, hb6⟩ := hcut
  generalize wc = w6 at *
  replace Bh5 := (hb6.block _ (lt_of_heap Bh5)).trans Bh5
  replace Bx := (hb6.block _ (lt_of_heap Bx)).trans Bx
  replace hb6 := hb5.trans (hb6.mono hb5.size)
  clear hb5 SZ KEEP HWR
  obtain ⟨hch, hfh⟩ := hcell Bh5
  go_wp2_with fail
  have nxo : bx < w6.heap.size := lt_of_heap Bx
  have nho : bh < w6.heap.size := lt_of_heap Bh5
  have nhx : bh < bx := hlt4
  obtain ⟨Bo, ho, hs⟩ := alloc3 w6 (.cells #[.int .u64 0, .int .i64 (1 + k), .int .i64 p, .int .i64 rw, .int .i64 ag, .int .i64 st, .bool held] 24)
  replace Bh5 := (ho _ (lt_of_heap Bh5)).trans Bh5
  replace Bx := (ho _ (lt_of_heap Bx)).trans Bx
  have hb7 := hb6.alloc hb6.size (.cells #[.int .u64 0, .int .i64 (1 + k), .int .i64 p, .int .i64 rw, .int .i64 ag, .int .i64 st, .bool held] 24)
  have go := hb6.size
  generalize (w6.alloc (.cells #[.int .u64 0, .int .i64 (1 + k), .int .i64 p, .int .i64 rw, .int .i64 ag, .int .i64 st, .bool held] 24)) = w7 at *
  generalize w6.heap.size = bo at *
  clear ho hb6 hch hfh hs hlt4
  refine (B1.out _).mono ?_
  rintro e wq ⟨rfl, rfl⟩
  obtain ⟨ch, fh⟩ := hcell Bh5
  go_wp2_with fail
  clear ch fh
  replace Bx := (block_set_ne (o := 4) (v := (.int .i64 oa)) (Nat.ne_of_gt nhx)).trans Bx
  replace Bo := (block_set_ne (o := 4) (v := (.int .i64 oa)) (Nat.ne_of_gt nho)).trans Bo
  replace Bh5 := block_set Bh5 4 (.int .i64 oa)
  simp only [List.setIfInBounds_toArray, List.set_cons_zero, List.set_cons_succ] at Bh5
  replace hb7 := Below.setCell (p := ⟨bh, 4, none⟩) hb7 hge (.int .i64 oa)
  generalize (w7.setCell ⟨bh, 4, none⟩ (.int .i64 oa)) = w8 at *
  refine (T1.out _ hb7).mono ?_
  rintro e w9 ⟨rfl, hq⟩
  replace Bh5 := (hq.block _ (lt_of_heap Bh5)).trans Bh5
  replace Bx := (hq.block _ (lt_of_heap Bx)).trans Bx
  replace Bo := (hq.block _ (lt_of_heap Bo)).trans Bo
  replace hb7 := hb7.trans (hq.mono hb7.size)
  clear hq
  go_wp2_with fail
  refine (U1.out _ hb7).mono ?_
  rintro e w10 ⟨rfl, hq⟩
  replace Bh5 := (hq.block _ (lt_of_heap Bh5)).trans Bh5
  replace Bx := (hq.block _ (lt_of_heap Bx)).trans Bx
  replace Bo := (hq.block _ (lt_of_heap Bo)).trans Bo
  replace hb7 := hb7.trans (hq.mono hb7.size)
  clear hq
  obtain ⟨ch, fh⟩ := hcell Bh5
  obtain ⟨cx, fx⟩ := hcell Bx
  obtain ⟨co, fo⟩ := hcell Bo
  go_wp2_with fail
  clear ch fh cx fx co fo
  replace Bh5 := (set7_ne (.int .u64 0) (.int .i64 (1 + k)) (.int .i64 p) (.int .i64 rw) (.int .i64 oa) (.int .i64 st) (.bool held) (Nat.ne_of_lt nhx)).trans Bh5
  replace Bo := (set7_ne (.int .u64 0) (.int .i64 (1 + k)) (.int .i64 p) (.int .i64 rw) (.int .i64 oa) (.int .i64 st) (.bool held) (Nat.ne_of_gt nxo)).trans Bo
  replace Bx := set7 Bx (.int .u64 0) (.int .i64 (1 + k)) (.int .i64 p) (.int .i64 rw) (.int .i64 oa) (.int .i64 st) (.bool held)
  replace hb7 := set7_below (.int .u64 0) (.int .i64 (1 + k)) (.int .i64 p) (.int .i64 rw) (.int .i64 oa) (.int .i64 st) (.bool held) hb7 gx
  generalize (((((((w10.setCell ⟨bx, 0, none⟩ (.int .u64 0)).setCell ⟨bx, 1, none⟩ (.int .i64 (1 + k))).setCell ⟨bx, 2, none⟩ (.int .i64 p)).setCell ⟨bx, 3, none⟩ (.int .i64 rw)).setCell ⟨bx, 4, none⟩ (.int .i64 oa)).setCell ⟨bx, 5, none⟩ (.int .i64 st)).setCell ⟨bx, 6, none⟩ (.bool held)) = w11 at *
  replace Bx := (set7_ne (.int .u64 0) (.int .i64 (1 + k)) (.int .i64 p) (.int .i64 rw) (.int .i64 ag) (.int .i64 st) (.bool held) (Nat.ne_of_gt nhx)).trans Bx
  replace Bo := (set7_ne (.int .u64 0) (.int .i64 (1 + k)) (.int .i64 p) (.int .i64 rw) (.int .i64 ag) (.int .i64 st) (.bool held) (Nat.ne_of_gt nho)).trans Bo
  replace Bh5 := set7 Bh5 (.int .u64 0) (.int .i64 (1 + k)) (.int .i64 p) (.int .i64 rw) (.int .i64 ag) (.int .i64 st) (.bool held)
  replace hb7 := set7_below (.int .u64 0) (.int .i64 (1 + k)) (.int .i64 p) (.int .i64 rw) (.int .i64 ag) (.int .i64 st) (.bool held) hb7 hge
  generalize (((((((w11.setCell ⟨bh, 0, none⟩ (.int .u64 0)).setCell ⟨bh, 1, none⟩ (.int .i64 (1 + k))).setCell ⟨bh, 2, none⟩ (.int .i64 p)).setCell ⟨bh, 3, none⟩ (.int .i64 rw)).setCell ⟨bh, 4, none⟩ (.int .i64 ag)).setCell ⟨bh, 5, none⟩ (.int .i64 st)).setCell ⟨bh, 6, none⟩ (.bool held)) = w12 at *
  replace Bx := (block_set_ne (o := 6) (v := (.bool !held)) (Nat.ne_of_gt nhx)).trans Bx
  replace Bo := (block_set_ne (o := 6) (v := (.bool !held)) (Nat.ne_of_gt nho)).trans Bo
  replace Bh5 := block_set Bh5 6 (.bool !held)
  simp only [List.setIfInBounds_toArray, List.set_cons_zero, List.set_cons_succ] at Bh5
  replace hb7 := Below.setCell (p := ⟨bh, 6, none⟩) hb7 hge (.bool !held)
  generalize (w12.setCell ⟨bh, 6, none⟩ (.bool !held)) = w13 at *
  refine (T2.out _ hb7).mono ?_
  rintro e w14 ⟨rfl, hq⟩
  replace Bh5 := (hq.block _ (lt_of_heap Bh5)).trans Bh5
  replace Bx := (hq.block _ (lt_of_heap Bx)).trans Bx
  replace Bo := (hq.block _ (lt_of_heap Bo)).trans Bo
  replace hb7 := hb7.trans (hq.mono hb7.size)
  clear hq
  go_wp2_with fail
  refine (U2.out _ hb7).mono ?_
  rintro e w15 ⟨rfl, hq⟩
  replace Bh5 := (hq.block _ (lt_of_heap Bh5)).trans Bh5
  replace Bx := (hq.block _ (lt_of_heap Bx)).trans Bx
  replace Bo := (hq.block _ (lt_of_heap Bo)).trans Bo
  replace hb7 := hb7.trans (hq.mono hb7.size)
  clear hq
  obtain ⟨ch, fh⟩ := hcell Bh5
  obtain ⟨cx, fx⟩ := hcell Bx
  obtain ⟨co, fo⟩ := hcell Bo
  go_wp2_with fail
  clear ch fh cx fx co fo
  replace Bh5 := (set7_ne (.int .u64 0) (.int .i64 (1 + k)) (.int .i64 p) (.int .i64 rw) (.int .i64 ag) (.int .i64 st) (.bool !held) (Nat.ne_of_lt nhx)).trans Bh5
  replace Bo := (set7_ne (.int .u64 0) (.int .i64 (1 + k)) (.int .i64 p) (.int .i64 rw) (.int .i64 ag) (.int .i64 st) (.bool !held) (Nat.ne_of_gt nxo)).trans Bo
  replace Bx := set7 Bx (.int .u64 0) (.int .i64 (1 + k)) (.int .i64 p) (.int .i64 rw) (.int .i64 ag) (.int .i64 st) (.bool !held)
  replace hb7 := set7_below (.int .u64 0) (.int .i64 (1 + k)) (.int .i64 p) (.int .i64 rw) (.int .i64 ag) (.int .i64 st) (.bool !held) hb7 gx
  generalize (((((((w15.setCell ⟨bx, 0, none⟩ (.int .u64 0)).setCell ⟨bx, 1, none⟩ (.int .i64 (1 + k))).setCell ⟨bx, 2, none⟩ (.int .i64 p)).setCell ⟨bx, 3, none⟩ (.int .i64 rw)).setCell ⟨bx, 4, none⟩ (.int .i64 ag)).setCell ⟨bx, 5, none⟩ (.int .i64 st)).setCell ⟨bx, 6, none⟩ (.bool !held)) = w16 at *
  replace Bx := (set7_ne (.int .u64 0) (.int .i64 (1 + k)) (.int .i64 p) (.int .i64 rw) (.int .i64 ag) (.int .i64 st) (.bool held) (Nat.ne_of_gt nhx)).trans Bx
  replace Bo := (set7_ne (.int .u64 0) (.int .i64 (1 + k)) (.int .i64 p) (.int .i64 rw) (.int .i64 ag) (.int .i64 st) (.bool held) (Nat.ne_of_gt nho)).trans Bo
  replace Bh5 := set7 Bh5 (.int .u64 0) (.int .i64 (1 + k)) (.int .i64 p) (.int .i64 rw) (.int .i64 ag) (.int .i64 st) (.bool held)
  replace hb7 := set7_below (.int .u64 0) (.int .i64 (1 + k)) (.int .i64 p) (.int .i64 rw) (.int .i64 ag) (.int .i64 st) (.bool held) hb7 hge
  generalize (((((((w16.setCell ⟨bh, 0, none⟩ (.int .u64 0)).setCell ⟨bh, 1, none⟩ (.int .i64 (1 + k))).setCell ⟨bh, 2, none⟩ (.int .i64 p)).setCell ⟨bh, 3, none⟩ (.int .i64 rw)).setCell ⟨bh, 4, none⟩ (.int .i64 ag)).setCell ⟨bh, 5, none⟩ (.int .i64 st)).setCell ⟨bh, 6, none⟩ (.bool held)) = w17 at *
  refine (B2.out _).mono ?_
  rintro e wq ⟨rfl, rfl⟩
  obtain ⟨ch, fh⟩ := hcell Bh5
  go_wp2_with fail
  clear ch fh
  replace Bx := (block_set_ne (o := 1) (v := (.int .i64 (1 + ok))) (Nat.ne_of_gt nhx)).trans Bx
  replace Bo := (block_set_ne (o := 1) (v := (.int .i64 (1 + ok))) (Nat.ne_of_gt nho)).trans Bo
  replace Bh5 := block_set Bh5 1 (.int .i64 (1 + ok))
  simp only [List.setIfInBounds_toArray, List.set_cons_zero, List.set_cons_succ] at Bh5
  replace hb7 := Below.setCell (p := ⟨bh, 1, none⟩) hb7 hge (.int .i64 (1 + ok))
  generalize (w17.setCell ⟨bh, 1, none⟩ (.int .i64 (1 + ok))) = w18 at *
  refine (T3.out _ hb7).mono ?_
  rintro e w19 ⟨rfl, hq⟩
  replace Bh5 := (hq.block _ (lt_of_heap Bh5)).trans Bh5
  replace Bx := (hq.block _ (lt_of_heap Bx)).trans Bx
  replace Bo := (hq.block _ (lt_of_heap Bo)).trans Bo
  replace hb7 := hb7.trans (hq.mono hb7.size)
  clear hq
  go_wp2_with fail
  refine (U3.out _ hb7).mono ?_
  rintro e w20 ⟨rfl, hq⟩
  replace Bh5 := (hq.block _ (lt_of_heap Bh5)).trans Bh5
  replace Bx := (hq.block _ (lt_of_heap Bx)).trans Bx
  replace Bo := (hq.block _ (lt_of_heap Bo)).trans Bo
  replace hb7 := hb7.trans (hq.mono hb7.size)
  clear hq
  obtain ⟨ch, fh⟩ := hcell Bh5
  obtain ⟨cx, fx⟩ := hcell Bx
  obtain ⟨co, fo⟩ := hcell Bo
  go_upto_region 26 with fail
  clear ch fh cx fx co fo
  replace Bh5 := (set7_ne (.int .u64 0) (.int .i64 kk) (.int .i64 p) (.int .i64 rw) (.int .i64 ag) (.int .i64 st) (.bool held) (Nat.ne_of_lt nhx)).trans Bh5
  replace Bo := (set7_ne (.int .u64 0) (.int .i64 kk) (.int .i64 p) (.int .i64 rw) (.int .i64 ag) (.int .i64 st) (.bool held) (Nat.ne_of_gt nxo)).trans Bo
  replace Bx := set7 Bx (.int .u64 0) (.int .i64 kk) (.int .i64 p) (.int .i64 rw) (.int .i64 ag) (.int .i64 st) (.bool held)
  replace hb7 := set7_below (.int .u64 0) (.int .i64 kk) (.int .i64 p) (.int .i64 rw) (.int .i64 ag) (.int .i64 st) (.bool held) hb7 gx
  generalize (((((((w20.setCell ⟨bx, 0, none⟩ (.int .u64 0)).setCell ⟨bx, 1, none⟩ (.int .i64 kk)).setCell ⟨bx, 2, none⟩ (.int .i64 p)).setCell ⟨bx, 3, none⟩ (.int .i64 rw)).setCell ⟨bx, 4, none⟩ (.int .i64 ag)).setCell ⟨bx, 5, none⟩ (.int .i64 st)).setCell ⟨bx, 6, none⟩ (.bool held)) = w21 at *
  obtain ⟨ch, fh⟩ := hcell Bh5
  obtain ⟨cx, fx⟩ := hcell Bx
  obtain ⟨co, fo⟩ := hcell Bo
  go_cut [156] (fun s wx => s = .bool (decide ((1 + ok = 2 ∧ p < 1) ∨ (1 + ok = 3 ∧ p < 2))) ∧ w21 = wx)
  case first =>
    clear T1 T2 T3 U1 U2 U3 F1 F2 F3 G1 G2 B1 B2 B3 HP HKK
    by_cases c1 : 1 + ok = 2
    · have d1 : (1 + ok == 2) = true := by simpa using c1
      have d2 : (1 + ok == 3) = false := by simp; omega
      by_cases c2 : p < 1
      · have E1 := Lib.hid (show decide ((1 + ok = 2 ∧ p < 1) ∨ (1 + ok = 3 ∧ p < 2)) = true by simp [c1, c2])
        clear c1
        go_wp2_with fail
        go_meet
        exact ⟨by rw [E1.out], rfl⟩
      · have E1 := Lib.hid (show decide ((1 + ok = 2 ∧ p < 1) ∨ (1 + ok = 3 ∧ p < 2)) = false by simp [c1, c2])
        have c3 : 1 ≤ p := by omega
        clear c1 c2
        go_wp2_with fail
        go_meet
        exact ⟨by rw [E1.out]; exact congrArg Value.bool (decide_eq_false (by omega)), rfl⟩
    · have d1 : (1 + ok == 2) = false := by simpa using c1
      by_cases c3 : 1 + ok = 3
      · have d2 : (1 + ok == 3) = true := by simpa using c3
        by_cases c2 : p < 2
        · have E1 := Lib.hid (show decide ((1 + ok = 2 ∧ p < 1) ∨ (1 + ok = 3 ∧ p < 2)) = true by simp [c2, c3])
          clear c1 c3
          go_wp2_with fail
          go_meet
          exact ⟨by rw [E1.out], rfl⟩
        · have E1 := Lib.hid (show decide ((1 + ok = 2 ∧ p < 1) ∨ (1 + ok = 3 ∧ p < 2)) = false by simp [c2, c3])
          have c4 : 2 ≤ p := by omega
          clear c1 c2 c3
          go_wp2_with fail
          go_meet
          exact ⟨by rw [E1.out]; exact congrArg Value.bool (decide_eq_false (by omega)), rfl⟩
      · have d2 : (1 + ok == 3) = false := by simpa using c3
        have E1 := Lib.hid (show decide ((1 + ok = 2 ∧ p < 1) ∨ (1 + ok = 3 ∧ p < 2)) = false by simp [c1, c3])
        clear c1 c3
        go_wp2_with fail
        go_meet
        exact ⟨by rw [E1.out], rfl⟩
  obtain ⟨rfl, rfl⟩ := hcut
  have hkk := HKK.out
  clear T1 T2 T3 U1 U2 U3 B1 B2 HP HKK
  by_cases c : (1 + ok = 2 ∧ p < 1) ∨ (1 + ok = 3 ∧ p < 2)
  · rw [if_pos c] at hkk
    subst hkk
    rw [decide_eq_true c]
    clear c
    go_wp2_with fail
    clear ch fh cx fx co fo
    replace Bx := (set7_ne (.int .u64 0) (.int .i64 (1 + k)) (.int .i64 p) (.int .i64 rw) (.int .i64 ag) (.int .i64 st) (.bool held) (Nat.ne_of_gt nhx)).trans Bx
    replace Bo := (set7_ne (.int .u64 0) (.int .i64 (1 + k)) (.int .i64 p) (.int .i64 rw) (.int .i64 ag) (.int .i64 st) (.bool held) (Nat.ne_of_gt nho)).trans Bo
    replace Bh5 := set7 Bh5 (.int .u64 0) (.int .i64 (1 + k)) (.int .i64 p) (.int .i64 rw) (.int .i64 ag) (.int .i64 st) (.bool held)
    replace hb7 := set7_below (.int .u64 0) (.int .i64 (1 + k)) (.int .i64 p) (.int .i64 rw) (.int .i64 ag) (.int .i64 st) (.bool held) hb7 hge
    generalize (((((((w21.setCell ⟨bh, 0, none⟩ (.int .u64 0)).setCell ⟨bh, 1, none⟩ (.int .i64 (1 + k))).setCell ⟨bh, 2, none⟩ (.int .i64 p)).setCell ⟨bh, 3, none⟩ (.int .i64 rw)).setCell ⟨bh, 4, none⟩ (.int .i64 ag)).setCell ⟨bh, 5, none⟩ (.int .i64 st)).setCell ⟨bh, 6, none⟩ (.bool held)) = w22 at *
    obtain ⟨ch, fh⟩ := hcell Bh5
    obtain ⟨cx, fx⟩ := hcell Bx
    obtain ⟨co, fo⟩ := hcell Bo
    refine (B3.out _).mono ?_
    rintro e wq ⟨rfl, rfl⟩
    go_wp2_with fail
    refine (F1.out _).mono ?_
    rintro e wq ⟨rfl, rfl⟩
    go_wp2_with fail
    refine (F2.out _).mono ?_
    rintro e wq ⟨rfl, rfl⟩
    go_wp2_with fail
    refine (G1.out _).mono ?_
    rintro e wq ⟨rfl, rfl⟩
    go_wp2_with fail
    refine (G2.out _).mono ?_
    rintro e wq ⟨rfl, rfl⟩
    go_wp2_with fail
    refine (F1.out _).mono ?_
    rintro e wq ⟨rfl, rfl⟩
    go_wp2_with fail
    refine (F3.out _ hb7).mono ?_
    rintro e wz ⟨rfl, hq⟩
    replace hb7 := hb7.trans (hq.mono hb7.size)
    clear hq ch fh cx fx co fo Bh5 Bx Bo
    go_wp2_with fail
    refine (F1.out _).mono ?_
    rintro e wq ⟨rfl, rfl⟩
    go_wp2_with fail
    go_ret
    exact ⟨rfl, hb7⟩
  · rw [if_neg c] at hkk
    subst hkk
    rw [decide_eq_false c]
    clear c
    go_wp2_with fail
    refine (B3.out _).mono ?_
    rintro e wq ⟨rfl, rfl⟩
    go_wp2_with fail
    refine (F1.out _).mono ?_
    rintro e wq ⟨rfl, rfl⟩
    go_wp2_with fail
    refine (F2.out _).mono ?_
    rintro e wq ⟨rfl, rfl⟩
    go_wp2_with fail
    refine (G1.out _).mono ?_
    rintro e wq ⟨rfl, rfl⟩
    go_wp2_with fail
    refine (G2.out _).mono ?_
    rintro e wq ⟨rfl, rfl⟩
    go_wp2_with fail
    refine (F1.out _).mono ?_
    rintro e wq ⟨rfl, rfl⟩
    go_wp2_with fail
    refine (F3.out _ hb7).mono ?_
    rintro e wz ⟨rfl, hq⟩
    replace hb7 := hb7.trans (hq.mono hb7.size)
    clear hq ch fh cx fx co fo Bh5 Bx Bo
    go_wp2_with fail
    refine (F1.out _).mono ?_
    rintro e wq ⟨rfl, rfl⟩
    go_wp2_with fail
    go_ret
    exact ⟨rfl, hb7⟩
end Go.Proofs.YtomgfdfgildkbaaDoor
