/- Merged texts: Bk9, Bk10, Bk11, Bk12, Bk13, Bk14, Bk15, Bk16, Bk17, Bk18. -/
import Derived.Test.YtomgfdfgildkbaaDoorBk8G
import Derived.Test.YtomgfdfgildkbaaDoorGm
import Derived.Test.YtomgfdfgildkbaaDoorGj
import Derived.Test.YtomgfdfgildkbaaDoorBufW12G
/- BufferWalk: Put, as a call of a script. No condition. -/

namespace Go.Proofs.YtomgfdfgildkbaaDoor
open Go.RowKit Go.BigFrame
set_option linter.unusedVariables false
set_option maxRecDepth 100000 in
set_option maxHeartbeats 8000000 in
theorem stepPut (x D : Nat) (G : Wg) (o : Ct) (bd : o.Bd) (w : World) (tb : Tab w) (h : WoAt w x D G) (hk : o.kind = 1) :
    Calls Tryd.prog 64 #[.pointer (some ⟨x, 0, none⟩), o.val] w fun e w' => e = .returned (.bool true) ∧ Steps w w' x D G := by
  obtain ⟨o0, o1, ⟨x0, x1, x2, x3, x4, x5, x6⟩, o3, o4, o5⟩ := o
  simp only at hk
  subst hk
  have nb := h.bd
  have LA := Lib.hid (fun (W : World) (hb : Below w.heap.size w W) => h.below hb)
  have TB := Lib.hid (fun (W : World) (hb : Below w.heap.size w W) => tb.below hb)
  obtain ⟨a0, a1⟩ := amongI_bd o1 (n := (G.n : Int)) (by omega)
  have AM := Lib.hid (fun (W : World) => among13_any o1 (G.n : Int) W bd.t.1 bd.t.2 (by omega) (by omega))
  have SO' := fun (W : World) => sound_any x0 x1 x2 x3 x4 x5 x6 W bd.h1 bd.h2 bd.h3 bd.h4 bd.h5
  have fi := soundHd_fine ⟨x0, x1, x2, x3, x4, x5, x6⟩
  have sr : 0 ≤ (soundHd ⟨x0, x1, x2, x3, x4, x5, x6⟩).ser ∧ (soundHd ⟨x0, x1, x2, x3, x4, x5, x6⟩).ser < 18446744073709551616 := bd.s
  have bdn := bd.n
  have bdi := bd.i
  have bdw := bd.w
  simp only at bdn bdi bdw
  clear bd
  generalize soundHd ⟨x0, x1, x2, x3, x4, x5, x6⟩ = hh at *
  obtain ⟨y0, y1, y2, y3, y4, y5, y6⟩ := hh
  unfold Hd.val at SO'
  simp only at SO' sr
  have SO := Lib.hid SO'
  have hx := h.hx
  have HX := Lib.hid (fun (W : World) (hb : Below w.heap.size w W) => (hb.block _ (lt_of_heap hx)).trans hx)
  unfold Wg.cells at HX
  have lx := lt_of_heap hx
  have gx := h.gx
  clear SO' hx tb h
  generalize hn : G.n = n at *
  have HN := Lib.hid hn
  clear hn
  generalize hti : amongI o1 (n : Int) = t at *
  clear hti
  have hO := heap_one w (.cells #[.int .i64 1, .int .i64 o1, .int .u64 x0, .int .i64 x1, .int .i64 x2, .int .i64 x3, .int .i64 x4, .int .i64 x5, .bool x6, .int .i64 o3, .int .i64 o4, .int .u64 o5] 93)
  have b0 := (Below.refl w.heap.size w).alloc (Nat.le_refl _) (.cells #[.int .i64 1, .int .i64 o1, .int .u64 x0, .int .i64 x1, .int .i64 x2, .int .i64 x3, .int .i64 x4, .int .i64 x5, .bool x6, .int .i64 o3, .int .i64 o4, .int .u64 o5] 93)
  unfold Ct.val Ct.cells
  simp only
  go_enter Tryd.func64, Tryd.ntmps64
  go_upto_region 1 with fail
  generalize w.alloc (.cells #[.int .i64 1, .int .i64 o1, .int .u64 x0, .int .i64 x1, .int .i64 x2, .int .i64 x3, .int .i64 x4, .int .i64 x5, .bool x6, .int .i64 o3, .int .i64 o4, .int .u64 o5] 93) = w1 at *
  obtain ⟨cO, fO⟩ := hcell hO
  obtain ⟨cX, fX⟩ := hcell (HX.out _ b0)
  have cxn : w1.cell? ⟨x, 2, none⟩ = some (.int .i64 n) := by rw [cX]; rfl
  have co1 : w1.cell? ⟨w.heap.size, 1, none⟩ = some (.int .i64 o1) := by rw [cO]; rfl
  have KE := Lib.hid (fun (W : World) (hb : Below w1.heap.size w1 W) => (⟨(hb.cell (p := ⟨x, 2, none⟩) (World.block_lt_of_cell? w1 ⟨x, 2, none⟩ cxn)).trans cxn, (hb.cell (p := ⟨w.heap.size, 1, none⟩) (World.block_lt_of_cell? w1 ⟨w.heap.size, 1, none⟩ co1)).trans co1, hb⟩ : W.cell? ⟨x, 2, none⟩ = some (.int .i64 n) ∧ W.cell? ⟨w.heap.size, 1, none⟩ = some (.int .i64 o1) ∧ Below w1.heap.size w1 W))
  clear cO fO cX fX
  go_cut [5] from 14 to 21 (fun tv wx => tv = .int .i64 t ∧ Below w1.heap.size w1 wx)
  case first =>
    go_region_held3 (fun W => W.cell? ⟨x, 2, none⟩ = some (.int .i64 n) ∧ W.cell? ⟨w.heap.size, 1, none⟩ = some (.int .i64 o1) ∧ Below w1.heap.size w1 W) ((refine KE.out _ ?_; repeat (first | (with_reducible assumption) | (with_reducible exact Below.refl _ _) | (with_reducible refine Below.drew ?_)))) (first | (go_at_call 35; refine (AM.out _).mono ?_; rintro e w' ⟨rfl, rfl⟩))
    all_goals
      go_wp2_with fail
      go_meet
      exact ⟨rfl, (Below.refl _ _).drew⟩
  case rest =>
    obtain ⟨w2, rfl⟩ : ∃ W : World, W = wc := ⟨_, rfl⟩
    obtain ⟨rfl, hq⟩ := hcut
    have b2 := b0.trans (hq.mono b0.size)
    have hO2 := (hq.block _ (lt_of_heap hO)).trans hO
    clear KE AM cxn co1 hq hO
    obtain ⟨cO, fO⟩ := hcell hO2
    go_wp2_with fail
    refine (SO.out _).mono ?_
    rintro e w3 ⟨rfl, hq⟩
    have b3 := b2.trans (hq.mono b2.size)
    have hO3 := (hq.block _ (lt_of_heap hO2)).trans hO2
    clear cO fO hq hO2 b2 SO
    go_upto_region 3 with fail
    have hH := heap_one w3 (.cells #[.int .u64 y0, .int .i64 y1, .int .i64 y2, .int .i64 y3, .int .i64 y4, .int .i64 y5, .bool y6] 24)
    have hq := (Below.refl w3.heap.size w3).alloc (Nat.le_refl _) (.cells #[.int .u64 y0, .int .i64 y1, .int .i64 y2, .int .i64 y3, .int .i64 y4, .int .i64 y5, .bool y6] 24)
    generalize w3.alloc (.cells #[.int .u64 y0, .int .i64 y1, .int .i64 y2, .int .i64 y3, .int .i64 y4, .int .i64 y5, .bool y6] 24) = w4 at *
    have b4 := b3.trans (hq.mono b3.size)
    have hO4 := (hq.block _ (lt_of_heap hO3)).trans hO3
    have l3 := b3.size
    have lo3 := lt_of_heap hO3
    clear hO3 b3 hq
    generalize w3.heap.size = p at *
    have h4 := LA.out _ b4
    have tb4 := TB.out _ b4
    have hX4 := HX.out _ b4
    clear LA TB HX b0
    obtain ⟨cO, fO⟩ := hcell hO4
    have ht : G.B.is t = true := by
      unfold Bu.is
      rw [decide_eq_true_eq, h4.len, HN.out]
      exact ⟨a0, a1⟩
    obtain ⟨Ls, E⟩ := h4.eden
    have okA := h4.pair.okA
    have okB := h4.pair.okB
    obtain ⟨e1, e2, e3⟩ := E.put okA okB ht fi
    have ri := E.restsIn okA
    have hlen := E.len okA
    have PL := putB_len G.B G.A t ⟨y0, y1, y2, y3, y4, y5, y6⟩
    simp only at e1 e2
    obtain ⟨cX, fX⟩ := hcell hX4
    obtain ⟨cH, fH⟩ := hcell hH
    have cx0 : w4.cell? ⟨x, 0, none⟩ = some (.pointer (some ⟨G.a, 0, none⟩)) := by rw [cX]; rfl
    have cx1 : w4.cell? ⟨x, 1, none⟩ = some (.pointer (some ⟨G.b, 0, none⟩)) := by rw [cX]; rfl
    have RM := Lib.hid (fun (W : World) (hb : Below w4.heap.size w4 W) => (room_any G.b G.rb G.B G.a G.wb G.A t W (h4.pair.hB.below hb) okB (h4.pair.hA.below hb) okA).mono (R' := fun e w' => e = .returned (.int .i64 (G.B.room G.A t)) ∧ Below w4.heap.size w4 w') fun e w' ⟨h1, h2⟩ => ⟨h1, hb.trans (h2.mono hb.size)⟩)
    go_upto_region 5 with fail
    have KE := Lib.hid (fun (W : World) (hb : Below w4.heap.size w4 W) => (⟨(hb.cell (p := ⟨x, 0, none⟩) (World.block_lt_of_cell? w4 ⟨x, 0, none⟩ cx0)).trans cx0, (hb.cell (p := ⟨x, 1, none⟩) (World.block_lt_of_cell? w4 ⟨x, 1, none⟩ cx1)).trans cx1, hb⟩ : W.cell? ⟨x, 0, none⟩ = some (.pointer (some ⟨G.a, 0, none⟩)) ∧ W.cell? ⟨x, 1, none⟩ = some (.pointer (some ⟨G.b, 0, none⟩)) ∧ Below w4.heap.size w4 W))
    clear cO fO cX fX cH fH
    generalize hrm : G.B.room G.A t = rm at *
    clear hrm
    go_cut [7] from 28 to 38 (fun tv wx => tv = .int .i64 rm ∧ Below w4.heap.size w4 wx)
    case first =>
      go_region_held3 (fun W => W.cell? ⟨x, 0, none⟩ = some (.pointer (some ⟨G.a, 0, none⟩)) ∧ W.cell? ⟨x, 1, none⟩ = some (.pointer (some ⟨G.b, 0, none⟩)) ∧ Below w4.heap.size w4 W) ((refine KE.out _ ?_; repeat (first | (with_reducible assumption) | (with_reducible exact Below.refl _ _) | (with_reducible refine Below.drew ?_)))) (first | (go_at_call 120; refine (RM.out _ ?_).mono ?_; (first | exact (Below.refl _ _).drew | exact (Below.refl _ _)); rintro e w' ⟨rfl, hb9⟩))
      all_goals
        go_wp2_with fail
        go_meet
        exact ⟨rfl, hb9⟩
    case rest =>
      obtain ⟨w5, rfl⟩ : ∃ W : World, W = wc := ⟨_, rfl⟩
      obtain ⟨rfl, hq5⟩ := hcut
      have h5 := h4.below hq5
      have tb5 := tb4.below hq5
      have hH5 := (hq5.block _ (lt_of_heap hH)).trans hH
      have b5 := b4.trans (hq5.mono b4.size)
      have hX5 := (hq5.block _ (lt_of_heap hX4)).trans hX4
      clear KE RM cx0 cx1 hq5 hH h4 tb4 hX4 b4 hO4
      have nx : x ∉ [G.rb, G.a, G.wb] := fun hm => by
        have := h5.far x (.inl rfl)
        simp only [List.mem_cons, List.not_mem_nil, or_false] at hm; omega
      have np : p ∉ [G.rb, G.a, G.wb] := fun hm => by
        have q1 := ty_neA hH5 h5.pair.hA.st (by decide)
        have q2 := ty_neA hH5 h5.pair.hA.ws (by decide)
        have q3 := ty_neA hH5 h5.pair.hB.rs (by decide)
        simp only [List.mem_cons, List.not_mem_nil, or_false] at hm; omega
      have PU' := fun (W : World) (hb : Below w5.heap.size w5 W) => (put13_all G.b G.rb G.B G.a G.wb G.A t ⟨y0, y1, y2, y3, y4, y5, y6⟩ W (tb5.below hb) (h5.pair.below hb) ri sr).mono (R' := fun e w' => e = .returned (.tuple #[.int .i64 (putB G.B G.A t ⟨y0, y1, y2, y3, y4, y5, y6⟩).1.1, .bool (putB G.B G.A t ⟨y0, y1, y2, y3, y4, y5, y6⟩).1.2]) ∧ PairAt w' G.b G.rb (putB G.B G.A t ⟨y0, y1, y2, y3, y4, y5, y6⟩).2.1 G.a G.wb (putB G.B G.A t ⟨y0, y1, y2, y3, y4, y5, y6⟩).2.2 ∧ Only [G.rb, G.a, G.wb] w5 w') fun e w' ⟨h1, h2, h3⟩ => ⟨h1, h2, (Only.of_below hb).trans h3⟩
      unfold Hd.val at PU'
      simp only at PU'
      obtain ⟨cX, fX⟩ := hcell hX5
      obtain ⟨cH, fH⟩ := hcell hH5
      have cx0 : w5.cell? ⟨x, 0, none⟩ = some (.pointer (some ⟨G.a, 0, none⟩)) := by rw [cX]; rfl
      have cx1 : w5.cell? ⟨x, 1, none⟩ = some (.pointer (some ⟨G.b, 0, none⟩)) := by rw [cX]; rfl
      have ch0 : w5.cell? ⟨p, 0, none⟩ = some (.int .u64 y0) := by rw [cH]; rfl
      have ch1 : w5.cell? ⟨p, 1, none⟩ = some (.int .i64 y1) := by rw [cH]; rfl
      have ch2 : w5.cell? ⟨p, 2, none⟩ = some (.int .i64 y2) := by rw [cH]; rfl
      have ch3 : w5.cell? ⟨p, 3, none⟩ = some (.int .i64 y3) := by rw [cH]; rfl
      have ch4 : w5.cell? ⟨p, 4, none⟩ = some (.int .i64 y4) := by rw [cH]; rfl
      have ch5 : w5.cell? ⟨p, 5, none⟩ = some (.int .i64 y5) := by rw [cH]; rfl
      have ch6 : w5.cell? ⟨p, 6, none⟩ = some (.bool y6) := by rw [cH]; rfl
      have p0 : 0 ≤ y2 := fi.p0
      have p1 : y2 ≤ 4095 := fi.p1
      have r0 : 0 ≤ y3 := fi.r0
      have r1 : y3 ≤ 65535 := fi.r1
      have KE := Lib.hid (fun (W : World) (hO : Only [G.rb, G.a, G.wb] w5 W) => (⟨hO.cellB nx cx0, hO.cellB nx cx1, hO.cellB np ch0, hO.cellB np ch1, hO.cellB np ch2, hO.cellB np ch3, hO.cellB np ch4, hO.cellB np ch5, hO.cellB np ch6, hO⟩ : W.cell? ⟨x, 0, none⟩ = some (.pointer (some ⟨G.a, 0, none⟩)) ∧ W.cell? ⟨x, 1, none⟩ = some (.pointer (some ⟨G.b, 0, none⟩)) ∧ W.cell? ⟨p, 0, none⟩ = some (.int .u64 y0) ∧ W.cell? ⟨p, 1, none⟩ = some (.int .i64 y1) ∧ W.cell? ⟨p, 2, none⟩ = some (.int .i64 y2) ∧ W.cell? ⟨p, 3, none⟩ = some (.int .i64 y3) ∧ W.cell? ⟨p, 4, none⟩ = some (.int .i64 y4) ∧ W.cell? ⟨p, 5, none⟩ = some (.int .i64 y5) ∧ W.cell? ⟨p, 6, none⟩ = some (.bool y6) ∧ Only [G.rb, G.a, G.wb] w5 W))
      clear cX fX cH fH
      generalize (putB G.B G.A t ⟨y0, y1, y2, y3, y4, y5, y6⟩).1.1 = at0 at *
      generalize hok : (putB G.B G.A t ⟨y0, y1, y2, y3, y4, y5, y6⟩).1.2 = ok0 at *
      generalize (putB G.B G.A t ⟨y0, y1, y2, y3, y4, y5, y6⟩).2.1 = B' at *
      generalize (putB G.B G.A t ⟨y0, y1, y2, y3, y4, y5, y6⟩).2.2 = A' at *
      have PU := Lib.hid PU'
      have E1 := Lib.hid e1
      have E2 := Lib.hid e2
      have E3 := Lib.hid e3
      have EE := Lib.hid E
      have PLL := Lib.hid PL
      clear PU' hok e1 e2 e3 E PL
      go_upto_region 6 with fail
      go_cut [8, 9] from 38 to 52 (fun av okv wx => av = .int .i64 at0 ∧ okv = .bool ok0 ∧ PairAt wx G.b G.rb B' G.a G.wb A' ∧ Only [G.rb, G.a, G.wb] w5 wx)
      case first =>
        go_region_held3 (fun W => W.cell? ⟨x, 0, none⟩ = some (.pointer (some ⟨G.a, 0, none⟩)) ∧ W.cell? ⟨x, 1, none⟩ = some (.pointer (some ⟨G.b, 0, none⟩)) ∧ W.cell? ⟨p, 0, none⟩ = some (.int .u64 y0) ∧ W.cell? ⟨p, 1, none⟩ = some (.int .i64 y1) ∧ W.cell? ⟨p, 2, none⟩ = some (.int .i64 y2) ∧ W.cell? ⟨p, 3, none⟩ = some (.int .i64 y3) ∧ W.cell? ⟨p, 4, none⟩ = some (.int .i64 y4) ∧ W.cell? ⟨p, 5, none⟩ = some (.int .i64 y5) ∧ W.cell? ⟨p, 6, none⟩ = some (.bool y6) ∧ Only [G.rb, G.a, G.wb] w5 W) ((refine KE.out _ ?_; repeat (first | (with_reducible assumption) | (with_reducible exact Only.refl _ _) | (with_reducible refine Only.drew ?_)))) (first | (go_at_call 37; refine (PU.out _ ?_).mono ?_; (first | exact (Below.refl _ _).drew | exact (Below.refl _ _)); rintro e w' ⟨rfl, hp9, hO9⟩))
        all_goals
          go_wp2_with fail
          go_meet
          exact ⟨rfl, rfl, hp9, hO9⟩
      case rest =>
        obtain ⟨w6, rfl⟩ : ∃ W : World, W = wc := ⟨_, rfl⟩
        obtain ⟨rfl, rfl, hp6, hO6⟩ := hcut
        have P6 := h5.pre.turn hp6 hO6 PLL.out.1
        have hH6 := (hO6.block _ (lt_of_heap hH5) np).trans hH5
        have bD5 : Below D w w5 := b5.mono (by have := h5.gx; omega)
        have bD6 : Below D w w6 := bD5.trans (hO6.below (by have := h5.gx; have := lt_of_heap h5.hx; omega) (fun k hk => by
          have g1 := h5.gr; have g2 := h5.ga; have g3 := h5.gw
          simp only [List.mem_cons, List.not_mem_nil, or_false] at hk
          rcases hk with rfl | rfl | rfl <;> assumption))
        have SZ := Lib.hid (fun (W : World) => size13_any y0 y1 y2 y3 y4 y5 y6 W p0 (by omega) r0 (by omega))
        clear KE PU cx0 cx1 ch0 ch1 ch2 ch3 ch4 ch5 ch6 hp6 hO6 hH5
        obtain ⟨cH, fH⟩ := hcell hH6
        go_wp2_with fail
        refine (SZ.out _).mono ?_
        rintro e w7 ⟨rfl, hq7⟩
        have P7 := P6.below hq7
        have hH7 := (hq7.block _ (lt_of_heap hH6)).trans hH6
        have bD7 := bD6.trans (hq7.mono (by have := P6.gx; have := lt_of_heap P6.hx; omega))
        clear cH fH hq7 hH6 P6 SZ bD6 bD5
        by_cases hle : 2 + y2 + y3 ≤ rm
        · have dle : decide (2 + y2 + y3 ≤ rm) = true := by simpa using hle
          have okt : ok0 = true := by rw [E1.out]; exact dle
          subst okt
          have E7 := E2.out rfl
          go_upto_region 10 with fail
          generalize hvv : G.v = v at *
          generalize hQQ : G.Q = Q at *
          obtain ⟨cX7, fX7⟩ := hcell P7.hx
          unfold Wg.cells at cX7
          simp only at cX7
          obtain ⟨cH7, fH7⟩ := hcell hH7
          have cxl : w7.cell? ⟨x, 3, none⟩ = some v := by rw [cX7]; rfl
          have ch0 : w7.cell? ⟨p, 0, none⟩ = some (.int .u64 y0) := by rw [cH7]; rfl
          have ch1 : w7.cell? ⟨p, 1, none⟩ = some (.int .i64 y1) := by rw [cH7]; rfl
          have ch2 : w7.cell? ⟨p, 2, none⟩ = some (.int .i64 y2) := by rw [cH7]; rfl
          have ch3 : w7.cell? ⟨p, 3, none⟩ = some (.int .i64 y3) := by rw [cH7]; rfl
          have ch4 : w7.cell? ⟨p, 4, none⟩ = some (.int .i64 y4) := by rw [cH7]; rfl
          have ch5 : w7.cell? ⟨p, 5, none⟩ = some (.int .i64 y5) := by rw [cH7]; rfl
          have ch6 : w7.cell? ⟨p, 6, none⟩ = some (.bool y6) := by rw [cH7]; rfl
          have fx3 := fX7 3
          clear cX7 fX7 cH7 fH7
          have mkU := fun (W : World) => mk_u64 y3 W r0 (by omega)
          obtain ⟨j1, hj1, hz1, hs1, hy1⟩ := info_parts infoLaid
          have P7r := P7.lds.row
          have lx7 := lt_of_heap P7.hx
          have lp7 := lt_of_heap hH7
          have vlt : ∀ k, v.ownBlock = some k → k < w7.heap.size ∧ k ≠ x ∧ k ≠ p := fun k hk => by
            obtain ⟨cs, hc⟩ := row_blockA P7r hk
            exact ⟨lt_of_heap hc, ty_neA hc P7.hx (by decide), ty_neA hc hH7 (by decide)⟩
          have VL := Lib.hid vlt
          have nvx : some x ≠ v.ownBlock := fun e => (vlt x e.symm).2.1 rfl
          have nvp : some p ≠ v.ownBlock := fun e => (vlt p e.symm).2.2 rfl
          have D7 : D ≤ w7.heap.size := by have := P7.gx; omega
          have PX7 := P7.hx
          unfold Wg.cells at PX7
          simp only at PX7 P7r
          clear vlt
          have hRM := heap_one w7 (.cells (u64s (List.replicate y3.toNat 0)) 22)
          have qM := (Below.refl w7.heap.size w7).alloc (Nat.le_refl _) (.cells (u64s (List.replicate y3.toNat 0)) 22)
          refine region_two 15 (fun W => W.cell? ⟨x, 3, none⟩ = some (v) ∧ W.cell? ⟨p, 0, none⟩ = some (.int .u64 y0) ∧ W.cell? ⟨p, 1, none⟩ = some (.int .i64 y1) ∧ W.cell? ⟨p, 2, none⟩ = some (.int .i64 y2) ∧ W.cell? ⟨p, 3, none⟩ = some (.int .i64 y3) ∧ W.cell? ⟨p, 4, none⟩ = some (.int .i64 y4) ∧ W.cell? ⟨p, 5, none⟩ = some (.int .i64 y5) ∧ W.cell? ⟨p, 6, none⟩ = some (.bool y6)) (fun _ => True) (by kernel_rfl) (two_0 (by kernel_rfl) (⟨cxl, ch0, ch1, ch2, ch3, ch4, ch5, ch6⟩)) (fun hHeld => ?_)
          refine take_pure (i := 0) (oi := ?oi1) (v := ?vv1) ?hi1 (by kernel_rfl) (by kernel_rfl) (by kernel_rfl) (by decide) (by kernel_rfl) ?hQ1 ?hy1 (by assumption) (fun hHeld => ?rest1)
          case hi1 => (simp only [List.getElem?_toArray, List.getElem?_cons_zero]; rfl)
          case hQ1 => exact fun _ _ _ h => h
          case hy1 => (first | exact Or.inl ⟨by rfl, by intro w hSw; go_simp; with_reducible rfl⟩ | (refine Or.inr ⟨by rfl, ?_⟩; rfl))
          simp only [Act.put, List.setIfInBounds_toArray, List.set_cons_zero, List.set_cons_succ]
          refine take_pure (i := 1) (oi := ?oi2) (v := ?vv2) ?hi2 (by kernel_rfl) (by kernel_rfl) (by kernel_rfl) (by decide) (by kernel_rfl) ?hQ2 ?hy2 (by assumption) (fun hHeld => ?rest2)
          case hi2 => (simp only [List.getElem?_toArray, List.getElem?_cons_succ, List.getElem?_cons_zero]; rfl)
          case hQ2 => exact fun _ _ _ h => h
          case hy2 => (first | exact Or.inl ⟨by rfl, by intro w hSw; go_simp; with_reducible rfl⟩ | (refine Or.inr ⟨by rfl, ?_⟩; rfl))
          simp only [Act.put, List.setIfInBounds_toArray, List.set_cons_zero, List.set_cons_succ]
          refine take_pure (i := 2) (oi := ?oi3) (v := ?vv3) ?hi3 (by kernel_rfl) (by kernel_rfl) (by kernel_rfl) (by decide) (by kernel_rfl) ?hQ3 ?hy3 (by assumption) (fun hHeld => ?rest3)
          case hi3 => (simp only [List.getElem?_toArray, List.getElem?_cons_succ, List.getElem?_cons_zero]; rfl)
          case hQ3 => exact fun _ _ _ h => h
          case hy3 => (first | exact Or.inl ⟨by rfl, by intro w hSw; go_simp; with_reducible rfl⟩ | (refine Or.inr ⟨by rfl, ?_⟩; rfl))
          simp only [Act.put, List.setIfInBounds_toArray, List.set_cons_zero, List.set_cons_succ]
          refine take_pure (i := 3) (oi := ?oi4) (v := ?vv4) ?hi4 (by kernel_rfl) (by kernel_rfl) (by kernel_rfl) (by decide) (by kernel_rfl) ?hQ4 ?hy4 (by assumption) (fun hHeld => ?rest4)
          case hi4 => (simp only [List.getElem?_toArray, List.getElem?_cons_succ, List.getElem?_cons_zero]; rfl)
          case hQ4 => exact fun _ _ _ h => h
          case hy4 => (first | exact Or.inl ⟨by rfl, by intro w hSw; go_simp; with_reducible rfl⟩ | (refine Or.inr ⟨by rfl, ?_⟩; rfl))
          simp only [Act.put, List.setIfInBounds_toArray, List.set_cons_zero, List.set_cons_succ]
          refine take_pure (i := 5) (oi := ?oi5) (v := ?vv5) ?hi5 (by kernel_rfl) (by kernel_rfl) (by kernel_rfl) (by decide) (by kernel_rfl) ?hQ5 ?hy5 (by assumption) (fun hHeld => ?rest5)
          case hi5 => (simp only [List.getElem?_toArray, List.getElem?_cons_succ, List.getElem?_cons_zero]; rfl)
          case hQ5 => exact fun _ _ _ h => h
          case hy5 => (first | exact Or.inl ⟨by rfl, by intro w hSw; go_simp; with_reducible rfl⟩ | (refine Or.inr ⟨by rfl, ?_⟩; rfl))
          simp only [Act.put, List.setIfInBounds_toArray, List.set_cons_zero, List.set_cons_succ]
          refine take_pure (i := 7) (oi := ?oi6) (v := ?vv6) ?hi6 (by kernel_rfl) (by kernel_rfl) (by kernel_rfl) (by decide) (by kernel_rfl) ?hQ6 ?hy6 (by assumption) (fun hHeld => ?rest6)
          case hi6 => (simp only [List.getElem?_toArray, List.getElem?_cons_succ, List.getElem?_cons_zero]; rfl)
          case hQ6 => exact fun _ _ _ h => h
          case hy6 => (first | exact Or.inl ⟨by rfl, by intro w hSw; go_simp; with_reducible rfl⟩ | (refine Or.inr ⟨by rfl, ?_⟩; rfl))
          simp only [Act.put, List.setIfInBounds_toArray, List.set_cons_zero, List.set_cons_succ]
          refine take_ahead (i := 4) (oi := ?oi7) (oK := ?oK7) (v := ?vv7) ?hi7 ?hK7 ?hw7 (by kernel_rfl) (by kernel_rfl) (by kernel_rfl) (by decide) (by kernel_rfl) ?hQ7 ?hy7 (by assumption) (fun hHeld => ?rest7)
          case hi7 => (simp only [List.getElem?_toArray, List.getElem?_cons_succ, List.getElem?_cons_zero]; rfl)
          case hK7 => (simp only [List.getElem?_toArray, List.getElem?_cons_succ, List.getElem?_cons_zero]; rfl)
          case hw7 => kernel_rfl
          case hQ7 => exact fun _ _ _ h => h
          case hy7 => (first | exact Or.inl ⟨by rfl, by intro w hSw; obtain ⟨e0, e1, e2, e3, e4, e5, e6, e7⟩ := hSw; go_simp; with_reducible rfl⟩ | (refine Or.inr ⟨by rfl, ?_⟩; rfl))
          simp only [Act.put, List.setIfInBounds_toArray, List.set_cons_zero, List.set_cons_succ]
          refine take_ahead (i := 6) (oi := ?oi8) (oK := ?oK8) (v := ?vv8) ?hi8 ?hK8 ?hw8 (by kernel_rfl) (by kernel_rfl) (by kernel_rfl) (by decide) (by kernel_rfl) ?hQ8 ?hy8 (by assumption) (fun hHeld => ?rest8)
          case hi8 => (simp only [List.getElem?_toArray, List.getElem?_cons_succ, List.getElem?_cons_zero]; rfl)
          case hK8 => (simp only [List.getElem?_toArray, List.getElem?_cons_succ, List.getElem?_cons_zero]; rfl)
          case hw8 => kernel_rfl
          case hQ8 => exact fun _ _ _ h => h
          case hy8 => (first | exact Or.inl ⟨by rfl, by intro w hSw; obtain ⟨e0, e1, e2, e3, e4, e5, e6, e7⟩ := hSw; go_simp; with_reducible rfl⟩ | (refine Or.inr ⟨by rfl, ?_⟩; rfl))
          simp only [Act.put, List.setIfInBounds_toArray, List.set_cons_zero, List.set_cons_succ]
          refine take_ahead (i := 8) (oi := ?oi9) (oK := ?oK9) (v := ?vv9) ?hi9 ?hK9 ?hw9 (by kernel_rfl) (by kernel_rfl) (by kernel_rfl) (by decide) (by kernel_rfl) ?hQ9 ?hy9 (by assumption) (fun hHeld => ?rest9)
          case hi9 => (simp only [List.getElem?_toArray, List.getElem?_cons_succ, List.getElem?_cons_zero]; rfl)
          case hK9 => (simp only [List.getElem?_toArray, List.getElem?_cons_succ, List.getElem?_cons_zero]; rfl)
          case hw9 => kernel_rfl
          case hQ9 => exact fun _ _ _ h => h
          case hy9 => (first | exact Or.inl ⟨by rfl, by intro w hSw; obtain ⟨e0, e1, e2, e3, e4, e5, e6, e7⟩ := hSw; go_simp; with_reducible rfl⟩ | (refine Or.inr ⟨by rfl, ?_⟩; rfl))
          simp only [Act.put, List.setIfInBounds_toArray, List.set_cons_zero, List.set_cons_succ]
          refine one_next (i := 9) (oi := ?oi10) (by kernel_rfl) ?hi10 ?step10
          case hi10 => (simp only [List.getElem?_toArray, List.getElem?_cons_succ, List.getElem?_cons_zero]; rfl)
          intro K hK
          go_simp
          refine hK.out _ _ (two_0 (by kernel_rfl) ⟨(qM.drew.cell (p := ⟨x, 3, none⟩) (by simp only; omega)).trans cxl, (qM.drew.cell (p := ⟨p, 0, none⟩) (by simp only; omega)).trans ch0, (qM.drew.cell (p := ⟨p, 1, none⟩) (by simp only; omega)).trans ch1, (qM.drew.cell (p := ⟨p, 2, none⟩) (by simp only; omega)).trans ch2, (qM.drew.cell (p := ⟨p, 3, none⟩) (by simp only; omega)).trans ch3, (qM.drew.cell (p := ⟨p, 4, none⟩) (by simp only; omega)).trans ch4, (qM.drew.cell (p := ⟨p, 5, none⟩) (by simp only; omega)).trans ch5, (qM.drew.cell (p := ⟨p, 6, none⟩) (by simp only; omega)).trans ch6⟩) (fun hHeld => ?_)
          clear hK K
          try simp only [Act.put, List.setIfInBounds_toArray, List.set_cons_zero, List.set_cons_succ]
          refine take_pure (i := 10) (oi := ?oi11) (v := ?vv11) ?hi11 (by kernel_rfl) (by kernel_rfl) (by kernel_rfl) (by decide) (by kernel_rfl) ?hQ11 ?hy11 (by assumption) (fun hHeld => ?rest11)
          case hi11 => (simp only [List.getElem?_toArray, List.getElem?_cons_succ, List.getElem?_cons_zero]; rfl)
          case hQ11 => exact fun _ _ _ h => h
          case hy11 => (first | exact Or.inl ⟨by rfl, by intro w hSw; go_simp; with_reducible rfl⟩ | (refine Or.inr ⟨by rfl, ?_⟩; rfl))
          simp only [Act.put, List.setIfInBounds_toArray, List.set_cons_zero, List.set_cons_succ]
          have qM' := qM.drew
          have hRM' : (w7.alloc (.cells (u64s (List.replicate y3.toNat 0)) 22)).drew.heap[w7.heap.size]? = _ := hRM
          clear hRM qM
          generalize (w7.alloc (.cells (u64s (List.replicate y3.toNat 0)) 22)).drew = wM at *
          have qA := qM'.alloc qM'.size (.cells #[.int .i64 at0, .int .u64 y0, .int .i64 y1, .int .i64 y2, .int .i64 y3, .int .i64 y4, .int .i64 y5, .bool y6, .slice (some ⟨w7.heap.size, 0, none⟩) y3.toNat y3.toNat] 100)
          have cxl8 : wM.cell? ⟨x, 3, none⟩ = some v := (qM'.cell (p := ⟨x, 3, none⟩) (by simp only; omega)).trans cxl
          have fx8 : wM.frozen? ⟨x, 3, none⟩ = w7.frozen? ⟨x, 3, none⟩ := qM'.frozen (p := ⟨x, 3, none⟩) (by simp only; omega)
          refine one_next (i := 11) (oi := ?oi12) (by kernel_rfl) ?hi12 ?step12
          case hi12 => (simp only [List.getElem?_toArray, List.getElem?_cons_succ, List.getElem?_cons_zero]; rfl)
          intro K hK
          go_simp
          refine hK.out _ _ (two_0 (by kernel_rfl) ⟨(qA.cell (p := ⟨x, 3, none⟩) (by simp only; omega)).trans cxl, (qA.cell (p := ⟨p, 0, none⟩) (by simp only; omega)).trans ch0, (qA.cell (p := ⟨p, 1, none⟩) (by simp only; omega)).trans ch1, (qA.cell (p := ⟨p, 2, none⟩) (by simp only; omega)).trans ch2, (qA.cell (p := ⟨p, 3, none⟩) (by simp only; omega)).trans ch3, (qA.cell (p := ⟨p, 4, none⟩) (by simp only; omega)).trans ch4, (qA.cell (p := ⟨p, 5, none⟩) (by simp only; omega)).trans ch5, (qA.cell (p := ⟨p, 6, none⟩) (by simp only; omega)).trans ch6⟩) (fun hHeld => ?_)
          clear hK K
          try simp only [Act.put, List.setIfInBounds_toArray, List.set_cons_zero, List.set_cons_succ]
          clear hHeld
          have sM := qM'.size
          have RWM := (P7.lds.below qA).row
          simp only at RWM
          refine one_next (i := 12) (oi := ?oi13) (by kernel_rfl) ?hi13 ?step13
          case hi13 => (simp only [List.getElem?_toArray, List.getElem?_cons_succ, List.getElem?_cons_zero]; rfl)
          intro K hK
          refine step_append_lies _ (by rfl) _ _ 94 (by rfl) D 100 j1 _ 9 88 Tryd.underlying94 hj1 hz1 hs1 hy1 rfl (by decide) v Q.length (Q.flatMap Lt.cells) (by rfl) (RWM) ⟨wM.heap.size, 0, none⟩ 1 1 [.int .i64 at0, .int .u64 y0, .int .i64 y1, .int .i64 y2, .int .i64 y3, .int .i64 y4, .int .i64 y5, .bool y6, .slice (some ⟨w7.heap.size, 0, none⟩) y3.toNat y3.toNat] (by rfl) (by rfl) (World.news_of_block (cs := #[.int .i64 at0, .int .u64 y0, .int .i64 y1, .int .i64 y2, .int .i64 y3, .int .i64 y4, .int .i64 y5, .bool y6, .slice (some ⟨w7.heap.size, 0, none⟩) y3.toNat y3.toNat]) (t := 100) (fr := (0, 0)) (heap_alloc_new wM _)) (by simp [Value.oneCell']) (by omega) (by unfold maxLen; omega) (by omega) (by simp; omega) (wM.heap.size + 1) (by simp) ?_
          intro ga ka wd hown hgrow hat hlt
          have hf : ∀ (k j : Nat), k < w7.heap.size → some k ≠ v.ownBlock → wd.cell? ⟨k, j, none⟩ = w7.cell? ⟨k, j, none⟩ := fun k j hk hn => (hgrow.cell_far ⟨k, j, none⟩ (by have := qM'.size; simp; omega) hn).trans (qA.cell (p := ⟨k, j, none⟩) hk)
          refine hK.out _ _ (two_0 (by kernel_rfl) ⟨(hf x 3 (by omega) nvx).trans cxl, (hf p 0 (by omega) nvp).trans ch0, (hf p 1 (by omega) nvp).trans ch1, (hf p 2 (by omega) nvp).trans ch2, (hf p 3 (by omega) nvp).trans ch3, (hf p 4 (by omega) nvp).trans ch4, (hf p 5 (by omega) nvp).trans ch5, (hf p 6 (by omega) nvp).trans ch6⟩) (fun hHeld => ?_)
          clear hK K
          try simp only [Act.put, List.setIfInBounds_toArray, List.set_cons_zero, List.set_cons_succ]
          have fxd : wd.frozen? ⟨x, 3, none⟩ = _ := (hgrow.frozen_far ⟨x, 3, none⟩ (by simp; omega) nvx).trans (((Below.refl wM.heap.size wM).alloc (Nat.le_refl _) (.cells #[.int .i64 at0, .int .u64 y0, .int .i64 y1, .int .i64 y2, .int .i64 y3, .int .i64 y4, .int .i64 y5, .bool y6, .slice (some ⟨w7.heap.size, 0, none⟩) y3.toNat y3.toNat] 100)).frozen (p := ⟨x, 3, none⟩) (by simp only; omega) |>.trans (fx8.trans fx3))
          have cxd := (hf x 3 (by omega) nvx).trans cxl
          refine take_pure (i := 13) (oi := ?oi14) (v := ?vv14) ?hi14 (by kernel_rfl) (by kernel_rfl) (by kernel_rfl) (by decide) (by kernel_rfl) ?hQ14 ?hy14 (by assumption) (fun hHeld => ?rest14)
          case hi14 => (simp only [List.getElem?_toArray, List.getElem?_cons_succ, List.getElem?_cons_zero]; rfl)
          case hQ14 => exact fun _ _ _ h => h
          case hy14 => (first | exact Or.inl ⟨by rfl, by intro w hSw; go_simp; with_reducible rfl⟩ | (refine Or.inr ⟨by rfl, ?_⟩; rfl))
          simp only [Act.put, List.setIfInBounds_toArray, List.set_cons_zero, List.set_cons_succ]
          refine take_pure (i := 14) (oi := ?oi15) (v := ?vv15) ?hi15 (by kernel_rfl) (by kernel_rfl) (by kernel_rfl) (by decide) (by kernel_rfl) ?hQ15 ?hy15 (by assumption) (fun hHeld => ?rest15)
          case hi15 => (simp only [List.getElem?_toArray, List.getElem?_cons_succ, List.getElem?_cons_zero]; rfl)
          case hQ15 => exact fun _ _ _ h => h
          case hy15 => (first | exact Or.inl ⟨by rfl, by intro w hSw; go_simp; with_reducible rfl⟩ | (refine Or.inr ⟨by rfl, ?_⟩; rfl))
          simp only [Act.put, List.setIfInBounds_toArray, List.set_cons_zero, List.set_cons_succ]
          refine one_next (i := 15) (oi := ?oi16) (by kernel_rfl) ?hi16 ?step16
          case hi16 => (simp only [List.getElem?_toArray, List.getElem?_cons_succ, List.getElem?_cons_zero]; rfl)
          intro K hK
          go_simp
          refine hK.out _ _ (two_1 (by kernel_rfl) trivial) (fun hHeld => ?_)
          clear hK K
          try simp only [Act.put, List.setIfInBounds_toArray, List.set_cons_zero, List.set_cons_succ]
          refine none_next (by kernel_rfl) ?_
          go_wp2_with fail
          go_ret
          clear hHeld mkU j1 hj1 hz1 hs1 hy1 RWM ch0 ch1 ch2 ch3 ch4 ch5 ch6
          have gax : ga ≠ x := fun e => by
            rcases hat with q | q
            · exact nvx (by rw [← e]; exact q.symm)
            · omega
          have hb : ∀ k : Nat, k < w7.heap.size → some k ≠ v.ownBlock → wd.heap[k]? = w7.heap[k]? := fun k hk hn => (hgrow.block k (by simp; omega) hn).trans (qA.block k hk)
          have HXd := block_set ((hb x (by omega) nvx).trans PX7) 3 (.slice (some ⟨ga, 0, none⟩) (Q.length + 1) ka)
          have nvr : some w7.heap.size ≠ v.ownBlock := fun e => by have := (VL.out _ e.symm).1; omega
          have HRd : wd.heap[w7.heap.size]? = _ := (hgrow.block w7.heap.size (by have := lt_of_heap hRM'; simp; omega) nvr).trans ((((Below.refl wM.heap.size wM).alloc (Nat.le_refl _) (.cells #[.int .i64 at0, .int .u64 y0, .int .i64 y1, .int .i64 y2, .int .i64 y3, .int .i64 y4, .int .i64 y5, .bool y6, .slice (some ⟨w7.heap.size, 0, none⟩) y3.toNat y3.toNat] 100)).block _ (lt_of_heap hRM')).trans hRM')
          have bDx := ((qA.mono D7).grown hgrow (by simp; omega) (fun k hk => (P7.lds.row.lt k hk).1)).setCell (p := ⟨x, 3, none⟩) P7.gx (.slice (some ⟨ga, 0, none⟩) (Q.length + 1) ka)
          have hownS : (wd.setCell ⟨x, 3, none⟩ (.slice (some ⟨ga, 0, none⟩) (Q.length + 1) ka)).ownsRow D 100 9 (.slice (some ⟨ga, 0, none⟩) (Q.length + 1) ka) (Q.length + 1) (Q.flatMap Lt.cells ++ [.int .i64 at0, .int .u64 y0, .int .i64 y1, .int .i64 y2, .int .i64 y3, .int .i64 y4, .int .i64 y5, .bool y6, .slice (some ⟨w7.heap.size, 0, none⟩) y3.toNat y3.toNat]) := ownsRow_heap hown fun k hk => block_set_ne (fun e => gax (by cases hk; exact e))
          refine ⟨rfl, _, P7.grow (q := ⟨at0, ⟨y0, y1, y2, y3, y4, y5, y6⟩, List.replicate y3.toNat 0, w7.heap.size⟩) ⟨_, (E7 w7.heap.size).choose_spec⟩ (by simpa [Lt.cells, hdL] using hownS) HXd (fun k hk hx hv => (block_set_ne hx).trans (hb k hk (fun e => hv e.symm))) ((block_set_ne (fun e => by simp only at e; omega)).trans HRd) (Nat.le_refl _), rfl, PLL.out.2, bD7.trans bDx⟩
        · have dle : decide (2 + y2 + y3 ≤ rm) = false := by simpa using hle
          have okt : ok0 = false := by rw [E1.out]; exact dle
          subst okt
          obtain ⟨rfl, rfl⟩ := E3.out rfl
          go_wp2_with fail
          go_ret
          exact ⟨rfl, _, ⟨P7.hx, P7.pair, P7.lds, ⟨Ls, EE.out⟩, P7.len, P7.gx, P7.ga, P7.gw, P7.gb, P7.gr⟩, rfl, rfl, bD7⟩

end Go.Proofs.YtomgfdfgildkbaaDoor
/- BufferWalk: an object straight into eden, as a call of a script. No condition. -/

namespace Go.Proofs.YtomgfdfgildkbaaDoor
open Go.RowKit Go.BigFrame
set_option linter.unusedVariables false
theorem pair_arB {P : Program} {f : FuncId} {args : Array Value} {v : Value} {W : World} {b rb a wb : Nat} {B : Bu} {A A' : Ar} (h : PairAt W b rb B a wb A) (ok : A'.Ok) (hc : Calls P f args W fun e w' => e = .returned v ∧ ArAt w' a wb A' ∧ Only [a, wb] W w') : Calls P f args W fun e w' => e = .returned v ∧ PairAt w' b rb B a wb A' ∧ Only [b, rb, a, wb] W w' :=
  hc.mono fun _ _ ⟨h1, h2, h3⟩ => ⟨h1, ⟨h.hB.only h3 (by simp; exact ⟨h.ap.ba, h.ap.bw⟩) (by simp; exact ⟨h.ap.ra, h.ap.rw⟩), h2, h.okB, ok, h.ap⟩, h3.mono fun j hj => by simp at hj ⊢; omega⟩
theorem pair_reB {b rb a wb : Nat} {B : Bu} {A : Ar} {W : World} (av : Value) (h : PairAt W b rb B a wb A) : Calls Tryd.prog 68 #[.pointer (some ⟨b, 0, none⟩), av] W fun e w' => e = .returned (.tuple #[]) ∧ PairAt w' b rb B.retire a wb A ∧ Only [b, rb, a, wb] W w' :=
  (retire_any b rb B av W h.hB h.okB).mono fun _ _ ⟨h1, h2, h3⟩ => ⟨h1, ⟨h2, ArAt.only h.hA h3 (by simp; exact ⟨Ne.symm h.ap.ba, Ne.symm h.ap.ra⟩) (by simp; exact ⟨Ne.symm h.ap.bw, Ne.symm h.ap.rw⟩), Bu.retire_ok h.okB, h.okA, h.ap⟩, h3.mono fun j hj => by simp at hj ⊢; omega⟩
theorem WoPre.turn4 {w w' : World} {x D : Nat} {G : Wg} (h : WoPre w x D G) {A' : Ar} {B' : Bu} (hp : PairAt w' G.b G.rb B' G.a G.wb A') (hO : Only [G.b, G.rb, G.a, G.wb] w w') (hl : B'.rests.length = G.B.rests.length) : WoPre w' x D { G with A := A', B := B' } := by
  have hA := h.pair.hA
  have hB := h.pair.hB
  have e1 : ∀ (k : Nat) (cs : Array Value) (t : TypeId), w.heap[k]? = some (Obj.cells cs t (0, 0)) → t ≠ 125 → t ≠ 132 → t ≠ 129 → k ≠ G.wb → w'.heap[k]? = w.heap[k]? := fun k cs t hk t1 t2 t3 nw =>
    hO.block k (lt_of_heap hk) (by
      have a1 := ty_neA hk hA.st t1
      have a2 := ty_neA hk hB.rs t2
      have a3 := ty_neA hk hB.st t3
      simp only [List.mem_cons, List.not_mem_nil, or_false]; omega)
  refine ⟨(e1 x _ _ h.hx (by decide) (by decide) (by decide) (ty_neA h.hx hA.ws (by decide))).trans h.hx, hp, h.lds.keep fun k hk => ?_, hl.trans h.len, h.gx, h.ga, h.gw, h.gb, h.gr⟩
  rcases mem_lfp.1 hk with hk | ⟨q, hq, rfl⟩
  · obtain ⟨cs, hc⟩ := row_blockA h.lds.row hk
    exact e1 k _ _ hc (by decide) (by decide) (by decide) (ty_neA hc hA.ws (by decide))
  · exact e1 _ _ _ (h.lds.br q hq) (by decide) (by decide) (by decide) (h.lds.gr q hq).2
theorem Only.below4 {w w' : World} {x D : Nat} {G : Wg} (h : WoPre w x D G) (hO : Only [G.b, G.rb, G.a, G.wb] w w') : Below D w w' :=
  hO.below (by have := h.gx; have := lt_of_heap h.hx; omega) (fun k hk => by
    have g1 := h.gr; have g2 := h.ga; have g3 := h.gw; have g4 := h.gb
    simp only [List.mem_cons, List.not_mem_nil, or_false] at hk
    rcases hk with rfl | rfl | rfl | rfl <;> assumption)
theorem WoPre.xn4 {w : World} {x D : Nat} {G : Wg} (h : WoPre w x D G) : x ∉ [G.b, G.rb, G.a, G.wb] := fun hm => by
  have q1 := ty_neA h.hx h.pair.hA.st (by decide)
  have q2 := ty_neA h.hx h.pair.hA.ws (by decide)
  have q3 := ty_neA h.hx h.pair.hB.rs (by decide)
  have q4 := ty_neA h.hx h.pair.hB.st (by decide)
  simp only [List.mem_cons, List.not_mem_nil, or_false] at hm; omega
theorem WoPre.tn4 {w : World} {x D p : Nat} {G : Wg} (h : WoPre w x D G) {cs : Array Value} {t : TypeId} (hp : w.heap[p]? = some (.cells cs t (0, 0))) (t1 : t ≠ 125) (t2 : t ≠ 22) (t3 : t ≠ 132) (t4 : t ≠ 129) : p ∉ [G.b, G.rb, G.a, G.wb] := fun hm => by
  have q1 := ty_neA hp h.pair.hA.st t1
  have q2 := ty_neA hp h.pair.hA.ws t2
  have q3 := ty_neA hp h.pair.hB.rs t3
  have q4 := ty_neA hp h.pair.hB.st t4
  simp only [List.mem_cons, List.not_mem_nil, or_false] at hm; omega
theorem putOk_okB {A : Ar} (ok : A.Ok) {g : Hd} (sv : 0 ≤ g.ser ∧ g.ser < 18446744073709551616) : (if A.putOk 1 g then A.lay 1 g else A).Ok := by
  cases e : A.putOk 1 g with
  | true =>
    rw [if_pos rfl]
    unfold Ar.putOk at e
    simp only [Bool.and_eq_true, decide_eq_true_eq] at e
    exact Ar.Ok.lay ok rfl ((chk_iff _).1 e.1.1) e.2 sv.1 sv.2
  | false => rw [if_neg (by decide)]; exact ok
end Go.Proofs.YtomgfdfgildkbaaDoor
/- BufferWalk: an object straight into eden, as a call of a script. No condition. -/

namespace Go.Proofs.YtomgfdfgildkbaaDoor
open Go.RowKit Go.BigFrame
set_option linter.unusedVariables false
set_option maxRecDepth 100000 in
set_option maxHeartbeats 8000000 in
theorem stepEden (x D : Nat) (G : Wg) (o : Ct) (bd : o.Bd) (w : World) (tb : Tab w) (h : WoAt w x D G) (hk : o.kind = 5) :
    Calls Tryd.prog 64 #[.pointer (some ⟨x, 0, none⟩), o.val] w fun e w' => e = .returned (.bool true) ∧ Steps w w' x D G := by
  obtain ⟨o0, o1, ⟨x0, x1, x2, x3, x4, x5, x6⟩, o3, o4, o5⟩ := o
  simp only at hk
  subst hk
  have nb := h.bd
  have LA := Lib.hid (fun (W : World) (hb : Below w.heap.size w W) => h.below hb)
  have TB := Lib.hid (fun (W : World) (hb : Below w.heap.size w W) => tb.below hb)
  obtain ⟨a0, a1⟩ := amongI_bd o1 (n := (G.n : Int)) (by omega)
  have AM := Lib.hid (fun (W : World) => among13_any o1 (G.n : Int) W bd.t.1 bd.t.2 (by omega) (by omega))
  have SO' := fun (W : World) => sound_any x0 x1 x2 x3 x4 x5 x6 W bd.h1 bd.h2 bd.h3 bd.h4 bd.h5
  have fi := soundHd_fine ⟨x0, x1, x2, x3, x4, x5, x6⟩
  have sr : 0 ≤ (soundHd ⟨x0, x1, x2, x3, x4, x5, x6⟩).ser ∧ (soundHd ⟨x0, x1, x2, x3, x4, x5, x6⟩).ser < 18446744073709551616 := bd.s
  have bdn := bd.n
  have bdi := bd.i
  have bdw := bd.w
  simp only at bdn bdi bdw
  clear bd
  generalize soundHd ⟨x0, x1, x2, x3, x4, x5, x6⟩ = hh at *
  obtain ⟨y0, y1, y2, y3, y4, y5, y6⟩ := hh
  unfold Hd.val at SO'
  simp only at SO' sr
  have SO := Lib.hid SO'
  have hx := h.hx
  have HX := Lib.hid (fun (W : World) (hb : Below w.heap.size w W) => (hb.block _ (lt_of_heap hx)).trans hx)
  unfold Wg.cells at HX
  have lx := lt_of_heap hx
  have gx := h.gx
  clear SO' hx tb h
  generalize hn : G.n = n at *
  have HN := Lib.hid hn
  clear hn
  generalize hti : amongI o1 (n : Int) = t at *
  clear hti
  have hO := heap_one w (.cells #[.int .i64 5, .int .i64 o1, .int .u64 x0, .int .i64 x1, .int .i64 x2, .int .i64 x3, .int .i64 x4, .int .i64 x5, .bool x6, .int .i64 o3, .int .i64 o4, .int .u64 o5] 93)
  have b0 := (Below.refl w.heap.size w).alloc (Nat.le_refl _) (.cells #[.int .i64 5, .int .i64 o1, .int .u64 x0, .int .i64 x1, .int .i64 x2, .int .i64 x3, .int .i64 x4, .int .i64 x5, .bool x6, .int .i64 o3, .int .i64 o4, .int .u64 o5] 93)
  unfold Ct.val Ct.cells
  simp only
  go_enter Tryd.func64, Tryd.ntmps64
  go_upto_region 1 with fail
  generalize w.alloc (.cells #[.int .i64 5, .int .i64 o1, .int .u64 x0, .int .i64 x1, .int .i64 x2, .int .i64 x3, .int .i64 x4, .int .i64 x5, .bool x6, .int .i64 o3, .int .i64 o4, .int .u64 o5] 93) = w1 at *
  obtain ⟨cO, fO⟩ := hcell hO
  obtain ⟨cX, fX⟩ := hcell (HX.out _ b0)
  have cxn : w1.cell? ⟨x, 2, none⟩ = some (.int .i64 n) := by rw [cX]; rfl
  have co1 : w1.cell? ⟨w.heap.size, 1, none⟩ = some (.int .i64 o1) := by rw [cO]; rfl
  have KE := Lib.hid (fun (W : World) (hb : Below w1.heap.size w1 W) => (⟨(hb.cell (p := ⟨x, 2, none⟩) (World.block_lt_of_cell? w1 ⟨x, 2, none⟩ cxn)).trans cxn, (hb.cell (p := ⟨w.heap.size, 1, none⟩) (World.block_lt_of_cell? w1 ⟨w.heap.size, 1, none⟩ co1)).trans co1, hb⟩ : W.cell? ⟨x, 2, none⟩ = some (.int .i64 n) ∧ W.cell? ⟨w.heap.size, 1, none⟩ = some (.int .i64 o1) ∧ Below w1.heap.size w1 W))
  clear cO fO cX fX
  go_cut [5] from 14 to 21 (fun tv wx => tv = .int .i64 t ∧ Below w1.heap.size w1 wx)
  case first =>
    go_region_held3 (fun W => W.cell? ⟨x, 2, none⟩ = some (.int .i64 n) ∧ W.cell? ⟨w.heap.size, 1, none⟩ = some (.int .i64 o1) ∧ Below w1.heap.size w1 W) ((refine KE.out _ ?_; repeat (first | (with_reducible assumption) | (with_reducible exact Below.refl _ _) | (with_reducible refine Below.drew ?_)))) (first | (go_at_call 35; refine (AM.out _).mono ?_; rintro e w' ⟨rfl, rfl⟩))
    all_goals
      go_wp2_with fail
      go_meet
      exact ⟨rfl, (Below.refl _ _).drew⟩
  case rest =>
    obtain ⟨w2, rfl⟩ : ∃ W : World, W = wc := ⟨_, rfl⟩
    obtain ⟨rfl, hq⟩ := hcut
    have b2 := b0.trans (hq.mono b0.size)
    have hO2 := (hq.block _ (lt_of_heap hO)).trans hO
    clear KE AM cxn co1 hq hO
    obtain ⟨cO, fO⟩ := hcell hO2
    go_wp2_with fail
    refine (SO.out _).mono ?_
    rintro e w3 ⟨rfl, hq⟩
    have b3 := b2.trans (hq.mono b2.size)
    have hO3 := (hq.block _ (lt_of_heap hO2)).trans hO2
    clear cO fO hq hO2 b2 SO
    go_upto_region 3 with fail
    have hH := heap_one w3 (.cells #[.int .u64 y0, .int .i64 y1, .int .i64 y2, .int .i64 y3, .int .i64 y4, .int .i64 y5, .bool y6] 24)
    have hq := (Below.refl w3.heap.size w3).alloc (Nat.le_refl _) (.cells #[.int .u64 y0, .int .i64 y1, .int .i64 y2, .int .i64 y3, .int .i64 y4, .int .i64 y5, .bool y6] 24)
    generalize w3.alloc (.cells #[.int .u64 y0, .int .i64 y1, .int .i64 y2, .int .i64 y3, .int .i64 y4, .int .i64 y5, .bool y6] 24) = w4 at *
    have b4 := b3.trans (hq.mono b3.size)
    have hO4 := (hq.block _ (lt_of_heap hO3)).trans hO3
    have l3 := b3.size
    have lo3 := lt_of_heap hO3
    clear hO3 b3 hq
    generalize w3.heap.size = p at *
    have h4 := LA.out _ b4
    have tb4 := TB.out _ b4
    have hX4 := HX.out _ b4
    clear LA TB HX b0
    obtain ⟨cO, fO⟩ := hcell hO4
    obtain ⟨Ls, E⟩ := h4.eden
    have okA := h4.pair.okA
    have p0 : 0 ≤ y2 := fi.p0
    have p1 : y2 ≤ 4095 := fi.p1
    have r0 : 0 ≤ y3 := fi.r0
    have r1 : y3 ≤ 65535 := fi.r1
    have hlen := E.len okA
    have e2 : G.A.putOk 1 ⟨y0, y1, y2, y3, y4, y5, y6⟩ = true → ∀ rb : Nat, ∃ Ls', Eden (if G.A.putOk 1 ⟨y0, y1, y2, y3, y4, y5, y6⟩ then G.A.lay 1 ⟨y0, y1, y2, y3, y4, y5, y6⟩ else G.A) G.B Ls' (G.Q ++ [⟨(if G.A.putOk 1 ⟨y0, y1, y2, y3, y4, y5, y6⟩ then G.A.top 1 else 0), ⟨y0, y1, y2, y3, y4, y5, y6⟩, List.replicate y3.toNat 0, rb⟩]) := fun q rb => by rw [if_pos q, if_pos q]; exact E.lay okA q rb
    have e3 : G.A.putOk 1 ⟨y0, y1, y2, y3, y4, y5, y6⟩ = false → (if G.A.putOk 1 ⟨y0, y1, y2, y3, y4, y5, y6⟩ then G.A.lay 1 ⟨y0, y1, y2, y3, y4, y5, y6⟩ else G.A) = G.A := fun q => if_neg (by rw [q]; decide)
    have PU' := fun (W : World) (hb : Below w4.heap.size w4 W) => (pair_arB (h4.pair.below hb) (putOk_okB okA sr) (put_any G.a G.wb G.A 1 ⟨y0, y1, y2, y3, y4, y5, y6⟩ W (tb4.below hb) (h4.pair.below hb).hA okA)).mono (R' := fun e w' => e = .returned (.tuple #[.int .i64 (if G.A.putOk 1 ⟨y0, y1, y2, y3, y4, y5, y6⟩ then G.A.top 1 else 0), .bool (G.A.putOk 1 ⟨y0, y1, y2, y3, y4, y5, y6⟩)]) ∧ PairAt w' G.b G.rb G.B G.a G.wb (if G.A.putOk 1 ⟨y0, y1, y2, y3, y4, y5, y6⟩ then G.A.lay 1 ⟨y0, y1, y2, y3, y4, y5, y6⟩ else G.A) ∧ Only [G.b, G.rb, G.a, G.wb] w4 w') fun e w' ⟨h1, h2, h3⟩ => ⟨h1, h2, (Only.of_below hb).trans h3⟩
    unfold Hd.val at PU'
    simp only at PU'
    generalize (if G.A.putOk 1 ⟨y0, y1, y2, y3, y4, y5, y6⟩ then G.A.top 1 else 0) = at0 at *
    generalize (if G.A.putOk 1 ⟨y0, y1, y2, y3, y4, y5, y6⟩ then G.A.lay 1 ⟨y0, y1, y2, y3, y4, y5, y6⟩ else G.A) = A' at *
    generalize G.A.putOk 1 ⟨y0, y1, y2, y3, y4, y5, y6⟩ = ok0 at *
    have PU := Lib.hid PU'
    have E2 := Lib.hid e2
    have E3 := Lib.hid e3
    have EE := Lib.hid E
    clear PU' e2 e3 E
    obtain ⟨cX, fX⟩ := hcell hX4
    obtain ⟨cH, fH⟩ := hcell hH
    have cx0 : w4.cell? ⟨x, 0, none⟩ = some (.pointer (some ⟨G.a, 0, none⟩)) := by rw [cX]; rfl
    have ch0 : w4.cell? ⟨p, 0, none⟩ = some (.int .u64 y0) := by rw [cH]; rfl
    have ch1 : w4.cell? ⟨p, 1, none⟩ = some (.int .i64 y1) := by rw [cH]; rfl
    have ch2 : w4.cell? ⟨p, 2, none⟩ = some (.int .i64 y2) := by rw [cH]; rfl
    have ch3 : w4.cell? ⟨p, 3, none⟩ = some (.int .i64 y3) := by rw [cH]; rfl
    have ch4 : w4.cell? ⟨p, 4, none⟩ = some (.int .i64 y4) := by rw [cH]; rfl
    have ch5 : w4.cell? ⟨p, 5, none⟩ = some (.int .i64 y5) := by rw [cH]; rfl
    have ch6 : w4.cell? ⟨p, 6, none⟩ = some (.bool y6) := by rw [cH]; rfl
    have nx := h4.pre.xn4
    have np := h4.pre.tn4 hH (by decide) (by decide) (by decide) (by decide)
    go_upto_region 12 with fail
    have KE := Lib.hid (fun (W : World) (hO : Only [G.b, G.rb, G.a, G.wb] w4 W) => (⟨hO.cellB nx cx0, hO.cellB np ch0, hO.cellB np ch1, hO.cellB np ch2, hO.cellB np ch3, hO.cellB np ch4, hO.cellB np ch5, hO.cellB np ch6, hO⟩ : W.cell? ⟨x, 0, none⟩ = some (.pointer (some ⟨G.a, 0, none⟩)) ∧ W.cell? ⟨p, 0, none⟩ = some (.int .u64 y0) ∧ W.cell? ⟨p, 1, none⟩ = some (.int .i64 y1) ∧ W.cell? ⟨p, 2, none⟩ = some (.int .i64 y2) ∧ W.cell? ⟨p, 3, none⟩ = some (.int .i64 y3) ∧ W.cell? ⟨p, 4, none⟩ = some (.int .i64 y4) ∧ W.cell? ⟨p, 5, none⟩ = some (.int .i64 y5) ∧ W.cell? ⟨p, 6, none⟩ = some (.bool y6) ∧ Only [G.b, G.rb, G.a, G.wb] w4 W))
    clear cO fO cX fX cH fH
    go_cut [10, 11] from 76 to 85 (fun av okv wx => av = .int .i64 at0 ∧ okv = .bool ok0 ∧ PairAt wx G.b G.rb G.B G.a G.wb A' ∧ Only [G.b, G.rb, G.a, G.wb] w4 wx)
    case first =>
      go_region_held3 (fun W => W.cell? ⟨x, 0, none⟩ = some (.pointer (some ⟨G.a, 0, none⟩)) ∧ W.cell? ⟨p, 0, none⟩ = some (.int .u64 y0) ∧ W.cell? ⟨p, 1, none⟩ = some (.int .i64 y1) ∧ W.cell? ⟨p, 2, none⟩ = some (.int .i64 y2) ∧ W.cell? ⟨p, 3, none⟩ = some (.int .i64 y3) ∧ W.cell? ⟨p, 4, none⟩ = some (.int .i64 y4) ∧ W.cell? ⟨p, 5, none⟩ = some (.int .i64 y5) ∧ W.cell? ⟨p, 6, none⟩ = some (.bool y6) ∧ Only [G.b, G.rb, G.a, G.wb] w4 W) ((refine KE.out _ ?_; repeat (first | (with_reducible assumption) | (with_reducible exact Only.refl _ _) | (with_reducible refine Only.drew ?_)))) (first | (go_at_call 85; refine (PU.out _ ?_).mono ?_; (first | exact (Below.refl _ _).drew | exact (Below.refl _ _)); rintro e w' ⟨rfl, hp9, hO9⟩))
      all_goals
        go_wp2_with fail
        go_meet
        exact ⟨rfl, rfl, hp9, hO9⟩
    case rest =>
      obtain ⟨w7, rfl⟩ : ∃ W : World, W = wc := ⟨_, rfl⟩
      obtain ⟨rfl, rfl, hp7, hO7⟩ := hcut
      have P7 := h4.pre.turn4 hp7 hO7 rfl
      have hH7 := (hO7.block _ (lt_of_heap hH) np).trans hH
      have bD7 : Below D w w7 := (b4.mono (by have := h4.gx; omega)).trans (Only.below4 h4.pre hO7)
      clear KE PU cx0 ch0 ch1 ch2 ch3 ch4 ch5 ch6 hp7 hO7 hH
      cases ok0 with
      | true =>
          have E7 := E2.out rfl
          go_upto_region 14 with fail
          generalize hvv : G.v = v at *
          generalize hQQ : G.Q = Q at *
          obtain ⟨cX7, fX7⟩ := hcell P7.hx
          unfold Wg.cells at cX7
          simp only at cX7
          obtain ⟨cH7, fH7⟩ := hcell hH7
          have cxl : w7.cell? ⟨x, 3, none⟩ = some v := by rw [cX7]; rfl
          have ch0 : w7.cell? ⟨p, 0, none⟩ = some (.int .u64 y0) := by rw [cH7]; rfl
          have ch1 : w7.cell? ⟨p, 1, none⟩ = some (.int .i64 y1) := by rw [cH7]; rfl
          have ch2 : w7.cell? ⟨p, 2, none⟩ = some (.int .i64 y2) := by rw [cH7]; rfl
          have ch3 : w7.cell? ⟨p, 3, none⟩ = some (.int .i64 y3) := by rw [cH7]; rfl
          have ch4 : w7.cell? ⟨p, 4, none⟩ = some (.int .i64 y4) := by rw [cH7]; rfl
          have ch5 : w7.cell? ⟨p, 5, none⟩ = some (.int .i64 y5) := by rw [cH7]; rfl
          have ch6 : w7.cell? ⟨p, 6, none⟩ = some (.bool y6) := by rw [cH7]; rfl
          have fx3 := fX7 3
          clear cX7 fX7 cH7 fH7
          have mkU := fun (W : World) => mk_u64 y3 W r0 (by omega)
          obtain ⟨j1, hj1, hz1, hs1, hy1⟩ := info_parts infoLaid
          have P7r := P7.lds.row
          have lx7 := lt_of_heap P7.hx
          have lp7 := lt_of_heap hH7
          have vlt : ∀ k, v.ownBlock = some k → k < w7.heap.size ∧ k ≠ x ∧ k ≠ p := fun k hk => by
            obtain ⟨cs, hc⟩ := row_blockA P7r hk
            exact ⟨lt_of_heap hc, ty_neA hc P7.hx (by decide), ty_neA hc hH7 (by decide)⟩
          have VL := Lib.hid vlt
          have nvx : some x ≠ v.ownBlock := fun e => (vlt x e.symm).2.1 rfl
          have nvp : some p ≠ v.ownBlock := fun e => (vlt p e.symm).2.2 rfl
          have D7 : D ≤ w7.heap.size := by have := P7.gx; omega
          have PX7 := P7.hx
          unfold Wg.cells at PX7
          simp only at PX7 P7r
          clear vlt
          have hRM := heap_one w7 (.cells (u64s (List.replicate y3.toNat 0)) 22)
          have qM := (Below.refl w7.heap.size w7).alloc (Nat.le_refl _) (.cells (u64s (List.replicate y3.toNat 0)) 22)
          refine region_two 15 (fun W => W.cell? ⟨x, 3, none⟩ = some (v) ∧ W.cell? ⟨p, 0, none⟩ = some (.int .u64 y0) ∧ W.cell? ⟨p, 1, none⟩ = some (.int .i64 y1) ∧ W.cell? ⟨p, 2, none⟩ = some (.int .i64 y2) ∧ W.cell? ⟨p, 3, none⟩ = some (.int .i64 y3) ∧ W.cell? ⟨p, 4, none⟩ = some (.int .i64 y4) ∧ W.cell? ⟨p, 5, none⟩ = some (.int .i64 y5) ∧ W.cell? ⟨p, 6, none⟩ = some (.bool y6)) (fun _ => True) (by kernel_rfl) (two_0 (by kernel_rfl) (⟨cxl, ch0, ch1, ch2, ch3, ch4, ch5, ch6⟩)) (fun hHeld => ?_)
          refine take_pure (i := 0) (oi := ?oi17) (v := ?vv17) ?hi17 (by kernel_rfl) (by kernel_rfl) (by kernel_rfl) (by decide) (by kernel_rfl) ?hQ17 ?hy17 (by assumption) (fun hHeld => ?rest17)
          case hi17 => (simp only [List.getElem?_toArray, List.getElem?_cons_zero]; rfl)
          case hQ17 => exact fun _ _ _ h => h
          case hy17 => (first | exact Or.inl ⟨by rfl, by intro w hSw; go_simp; with_reducible rfl⟩ | (refine Or.inr ⟨by rfl, ?_⟩; rfl))
          simp only [Act.put, List.setIfInBounds_toArray, List.set_cons_zero, List.set_cons_succ]
          refine take_pure (i := 1) (oi := ?oi18) (v := ?vv18) ?hi18 (by kernel_rfl) (by kernel_rfl) (by kernel_rfl) (by decide) (by kernel_rfl) ?hQ18 ?hy18 (by assumption) (fun hHeld => ?rest18)
          case hi18 => (simp only [List.getElem?_toArray, List.getElem?_cons_succ, List.getElem?_cons_zero]; rfl)
          case hQ18 => exact fun _ _ _ h => h
          case hy18 => (first | exact Or.inl ⟨by rfl, by intro w hSw; go_simp; with_reducible rfl⟩ | (refine Or.inr ⟨by rfl, ?_⟩; rfl))
          simp only [Act.put, List.setIfInBounds_toArray, List.set_cons_zero, List.set_cons_succ]
          refine take_pure (i := 2) (oi := ?oi19) (v := ?vv19) ?hi19 (by kernel_rfl) (by kernel_rfl) (by kernel_rfl) (by decide) (by kernel_rfl) ?hQ19 ?hy19 (by assumption) (fun hHeld => ?rest19)
          case hi19 => (simp only [List.getElem?_toArray, List.getElem?_cons_succ, List.getElem?_cons_zero]; rfl)
          case hQ19 => exact fun _ _ _ h => h
          case hy19 => (first | exact Or.inl ⟨by rfl, by intro w hSw; go_simp; with_reducible rfl⟩ | (refine Or.inr ⟨by rfl, ?_⟩; rfl))
          simp only [Act.put, List.setIfInBounds_toArray, List.set_cons_zero, List.set_cons_succ]
          refine take_pure (i := 3) (oi := ?oi20) (v := ?vv20) ?hi20 (by kernel_rfl) (by kernel_rfl) (by kernel_rfl) (by decide) (by kernel_rfl) ?hQ20 ?hy20 (by assumption) (fun hHeld => ?rest20)
          case hi20 => (simp only [List.getElem?_toArray, List.getElem?_cons_succ, List.getElem?_cons_zero]; rfl)
          case hQ20 => exact fun _ _ _ h => h
          case hy20 => (first | exact Or.inl ⟨by rfl, by intro w hSw; go_simp; with_reducible rfl⟩ | (refine Or.inr ⟨by rfl, ?_⟩; rfl))
          simp only [Act.put, List.setIfInBounds_toArray, List.set_cons_zero, List.set_cons_succ]
          refine take_pure (i := 5) (oi := ?oi21) (v := ?vv21) ?hi21 (by kernel_rfl) (by kernel_rfl) (by kernel_rfl) (by decide) (by kernel_rfl) ?hQ21 ?hy21 (by assumption) (fun hHeld => ?rest21)
          case hi21 => (simp only [List.getElem?_toArray, List.getElem?_cons_succ, List.getElem?_cons_zero]; rfl)
          case hQ21 => exact fun _ _ _ h => h
          case hy21 => (first | exact Or.inl ⟨by rfl, by intro w hSw; go_simp; with_reducible rfl⟩ | (refine Or.inr ⟨by rfl, ?_⟩; rfl))
          simp only [Act.put, List.setIfInBounds_toArray, List.set_cons_zero, List.set_cons_succ]
          refine take_pure (i := 7) (oi := ?oi22) (v := ?vv22) ?hi22 (by kernel_rfl) (by kernel_rfl) (by kernel_rfl) (by decide) (by kernel_rfl) ?hQ22 ?hy22 (by assumption) (fun hHeld => ?rest22)
          case hi22 => (simp only [List.getElem?_toArray, List.getElem?_cons_succ, List.getElem?_cons_zero]; rfl)
          case hQ22 => exact fun _ _ _ h => h
          case hy22 => (first | exact Or.inl ⟨by rfl, by intro w hSw; go_simp; with_reducible rfl⟩ | (refine Or.inr ⟨by rfl, ?_⟩; rfl))
          simp only [Act.put, List.setIfInBounds_toArray, List.set_cons_zero, List.set_cons_succ]
          refine take_ahead (i := 4) (oi := ?oi23) (oK := ?oK23) (v := ?vv23) ?hi23 ?hK23 ?hw23 (by kernel_rfl) (by kernel_rfl) (by kernel_rfl) (by decide) (by kernel_rfl) ?hQ23 ?hy23 (by assumption) (fun hHeld => ?rest23)
          case hi23 => (simp only [List.getElem?_toArray, List.getElem?_cons_succ, List.getElem?_cons_zero]; rfl)
          case hK23 => (simp only [List.getElem?_toArray, List.getElem?_cons_succ, List.getElem?_cons_zero]; rfl)
          case hw23 => kernel_rfl
          case hQ23 => exact fun _ _ _ h => h
          case hy23 => (first | exact Or.inl ⟨by rfl, by intro w hSw; obtain ⟨e0, e1, e2, e3, e4, e5, e6, e7⟩ := hSw; go_simp; with_reducible rfl⟩ | (refine Or.inr ⟨by rfl, ?_⟩; rfl))
          simp only [Act.put, List.setIfInBounds_toArray, List.set_cons_zero, List.set_cons_succ]
          refine take_ahead (i := 6) (oi := ?oi24) (oK := ?oK24) (v := ?vv24) ?hi24 ?hK24 ?hw24 (by kernel_rfl) (by kernel_rfl) (by kernel_rfl) (by decide) (by kernel_rfl) ?hQ24 ?hy24 (by assumption) (fun hHeld => ?rest24)
          case hi24 => (simp only [List.getElem?_toArray, List.getElem?_cons_succ, List.getElem?_cons_zero]; rfl)
          case hK24 => (simp only [List.getElem?_toArray, List.getElem?_cons_succ, List.getElem?_cons_zero]; rfl)
          case hw24 => kernel_rfl
          case hQ24 => exact fun _ _ _ h => h
          case hy24 => (first | exact Or.inl ⟨by rfl, by intro w hSw; obtain ⟨e0, e1, e2, e3, e4, e5, e6, e7⟩ := hSw; go_simp; with_reducible rfl⟩ | (refine Or.inr ⟨by rfl, ?_⟩; rfl))
          simp only [Act.put, List.setIfInBounds_toArray, List.set_cons_zero, List.set_cons_succ]
          refine take_ahead (i := 8) (oi := ?oi25) (oK := ?oK25) (v := ?vv25) ?hi25 ?hK25 ?hw25 (by kernel_rfl) (by kernel_rfl) (by kernel_rfl) (by decide) (by kernel_rfl) ?hQ25 ?hy25 (by assumption) (fun hHeld => ?rest25)
          case hi25 => (simp only [List.getElem?_toArray, List.getElem?_cons_succ, List.getElem?_cons_zero]; rfl)
          case hK25 => (simp only [List.getElem?_toArray, List.getElem?_cons_succ, List.getElem?_cons_zero]; rfl)
          case hw25 => kernel_rfl
          case hQ25 => exact fun _ _ _ h => h
          case hy25 => (first | exact Or.inl ⟨by rfl, by intro w hSw; obtain ⟨e0, e1, e2, e3, e4, e5, e6, e7⟩ := hSw; go_simp; with_reducible rfl⟩ | (refine Or.inr ⟨by rfl, ?_⟩; rfl))
          simp only [Act.put, List.setIfInBounds_toArray, List.set_cons_zero, List.set_cons_succ]
          refine one_next (i := 9) (oi := ?oi26) (by kernel_rfl) ?hi26 ?step26
          case hi26 => (simp only [List.getElem?_toArray, List.getElem?_cons_succ, List.getElem?_cons_zero]; rfl)
          intro K hK
          go_simp
          refine hK.out _ _ (two_0 (by kernel_rfl) ⟨(qM.drew.cell (p := ⟨x, 3, none⟩) (by simp only; omega)).trans cxl, (qM.drew.cell (p := ⟨p, 0, none⟩) (by simp only; omega)).trans ch0, (qM.drew.cell (p := ⟨p, 1, none⟩) (by simp only; omega)).trans ch1, (qM.drew.cell (p := ⟨p, 2, none⟩) (by simp only; omega)).trans ch2, (qM.drew.cell (p := ⟨p, 3, none⟩) (by simp only; omega)).trans ch3, (qM.drew.cell (p := ⟨p, 4, none⟩) (by simp only; omega)).trans ch4, (qM.drew.cell (p := ⟨p, 5, none⟩) (by simp only; omega)).trans ch5, (qM.drew.cell (p := ⟨p, 6, none⟩) (by simp only; omega)).trans ch6⟩) (fun hHeld => ?_)
          clear hK K
          try simp only [Act.put, List.setIfInBounds_toArray, List.set_cons_zero, List.set_cons_succ]
          refine take_pure (i := 10) (oi := ?oi27) (v := ?vv27) ?hi27 (by kernel_rfl) (by kernel_rfl) (by kernel_rfl) (by decide) (by kernel_rfl) ?hQ27 ?hy27 (by assumption) (fun hHeld => ?rest27)
          case hi27 => (simp only [List.getElem?_toArray, List.getElem?_cons_succ, List.getElem?_cons_zero]; rfl)
          case hQ27 => exact fun _ _ _ h => h
          case hy27 => (first | exact Or.inl ⟨by rfl, by intro w hSw; go_simp; with_reducible rfl⟩ | (refine Or.inr ⟨by rfl, ?_⟩; rfl))
          simp only [Act.put, List.setIfInBounds_toArray, List.set_cons_zero, List.set_cons_succ]
          have qM' := qM.drew
          have hRM' : (w7.alloc (.cells (u64s (List.replicate y3.toNat 0)) 22)).drew.heap[w7.heap.size]? = _ := hRM
          clear hRM qM
          generalize (w7.alloc (.cells (u64s (List.replicate y3.toNat 0)) 22)).drew = wM at *
          have qA := qM'.alloc qM'.size (.cells #[.int .i64 at0, .int .u64 y0, .int .i64 y1, .int .i64 y2, .int .i64 y3, .int .i64 y4, .int .i64 y5, .bool y6, .slice (some ⟨w7.heap.size, 0, none⟩) y3.toNat y3.toNat] 100)
          have cxl8 : wM.cell? ⟨x, 3, none⟩ = some v := (qM'.cell (p := ⟨x, 3, none⟩) (by simp only; omega)).trans cxl
          have fx8 : wM.frozen? ⟨x, 3, none⟩ = w7.frozen? ⟨x, 3, none⟩ := qM'.frozen (p := ⟨x, 3, none⟩) (by simp only; omega)
          refine one_next (i := 11) (oi := ?oi28) (by kernel_rfl) ?hi28 ?step28
          case hi28 => (simp only [List.getElem?_toArray, List.getElem?_cons_succ, List.getElem?_cons_zero]; rfl)
          intro K hK
          go_simp
          refine hK.out _ _ (two_0 (by kernel_rfl) ⟨(qA.cell (p := ⟨x, 3, none⟩) (by simp only; omega)).trans cxl, (qA.cell (p := ⟨p, 0, none⟩) (by simp only; omega)).trans ch0, (qA.cell (p := ⟨p, 1, none⟩) (by simp only; omega)).trans ch1, (qA.cell (p := ⟨p, 2, none⟩) (by simp only; omega)).trans ch2, (qA.cell (p := ⟨p, 3, none⟩) (by simp only; omega)).trans ch3, (qA.cell (p := ⟨p, 4, none⟩) (by simp only; omega)).trans ch4, (qA.cell (p := ⟨p, 5, none⟩) (by simp only; omega)).trans ch5, (qA.cell (p := ⟨p, 6, none⟩) (by simp only; omega)).trans ch6⟩) (fun hHeld => ?_)
          clear hK K
          try simp only [Act.put, List.setIfInBounds_toArray, List.set_cons_zero, List.set_cons_succ]
          clear hHeld
          have sM := qM'.size
          have RWM := (P7.lds.below qA).row
          simp only at RWM
          refine one_next (i := 12) (oi := ?oi29) (by kernel_rfl) ?hi29 ?step29
          case hi29 => (simp only [List.getElem?_toArray, List.getElem?_cons_succ, List.getElem?_cons_zero]; rfl)
          intro K hK
          refine step_append_lies _ (by rfl) _ _ 94 (by rfl) D 100 j1 _ 9 88 Tryd.underlying94 hj1 hz1 hs1 hy1 rfl (by decide) v Q.length (Q.flatMap Lt.cells) (by rfl) (RWM) ⟨wM.heap.size, 0, none⟩ 1 1 [.int .i64 at0, .int .u64 y0, .int .i64 y1, .int .i64 y2, .int .i64 y3, .int .i64 y4, .int .i64 y5, .bool y6, .slice (some ⟨w7.heap.size, 0, none⟩) y3.toNat y3.toNat] (by rfl) (by rfl) (World.news_of_block (cs := #[.int .i64 at0, .int .u64 y0, .int .i64 y1, .int .i64 y2, .int .i64 y3, .int .i64 y4, .int .i64 y5, .bool y6, .slice (some ⟨w7.heap.size, 0, none⟩) y3.toNat y3.toNat]) (t := 100) (fr := (0, 0)) (heap_alloc_new wM _)) (by simp [Value.oneCell']) (by omega) (by unfold maxLen; omega) (by omega) (by simp; omega) (wM.heap.size + 1) (by simp) ?_
          intro ga ka wd hown hgrow hat hlt
          have hf : ∀ (k j : Nat), k < w7.heap.size → some k ≠ v.ownBlock → wd.cell? ⟨k, j, none⟩ = w7.cell? ⟨k, j, none⟩ := fun k j hk hn => (hgrow.cell_far ⟨k, j, none⟩ (by have := qM'.size; simp; omega) hn).trans (qA.cell (p := ⟨k, j, none⟩) hk)
          refine hK.out _ _ (two_0 (by kernel_rfl) ⟨(hf x 3 (by omega) nvx).trans cxl, (hf p 0 (by omega) nvp).trans ch0, (hf p 1 (by omega) nvp).trans ch1, (hf p 2 (by omega) nvp).trans ch2, (hf p 3 (by omega) nvp).trans ch3, (hf p 4 (by omega) nvp).trans ch4, (hf p 5 (by omega) nvp).trans ch5, (hf p 6 (by omega) nvp).trans ch6⟩) (fun hHeld => ?_)
          clear hK K
          try simp only [Act.put, List.setIfInBounds_toArray, List.set_cons_zero, List.set_cons_succ]
          have fxd : wd.frozen? ⟨x, 3, none⟩ = _ := (hgrow.frozen_far ⟨x, 3, none⟩ (by simp; omega) nvx).trans (((Below.refl wM.heap.size wM).alloc (Nat.le_refl _) (.cells #[.int .i64 at0, .int .u64 y0, .int .i64 y1, .int .i64 y2, .int .i64 y3, .int .i64 y4, .int .i64 y5, .bool y6, .slice (some ⟨w7.heap.size, 0, none⟩) y3.toNat y3.toNat] 100)).frozen (p := ⟨x, 3, none⟩) (by simp only; omega) |>.trans (fx8.trans fx3))
          have cxd := (hf x 3 (by omega) nvx).trans cxl
          refine take_pure (i := 13) (oi := ?oi30) (v := ?vv30) ?hi30 (by kernel_rfl) (by kernel_rfl) (by kernel_rfl) (by decide) (by kernel_rfl) ?hQ30 ?hy30 (by assumption) (fun hHeld => ?rest30)
          case hi30 => (simp only [List.getElem?_toArray, List.getElem?_cons_succ, List.getElem?_cons_zero]; rfl)
          case hQ30 => exact fun _ _ _ h => h
          case hy30 => (first | exact Or.inl ⟨by rfl, by intro w hSw; go_simp; with_reducible rfl⟩ | (refine Or.inr ⟨by rfl, ?_⟩; rfl))
          simp only [Act.put, List.setIfInBounds_toArray, List.set_cons_zero, List.set_cons_succ]
          refine take_pure (i := 14) (oi := ?oi31) (v := ?vv31) ?hi31 (by kernel_rfl) (by kernel_rfl) (by kernel_rfl) (by decide) (by kernel_rfl) ?hQ31 ?hy31 (by assumption) (fun hHeld => ?rest31)
          case hi31 => (simp only [List.getElem?_toArray, List.getElem?_cons_succ, List.getElem?_cons_zero]; rfl)
          case hQ31 => exact fun _ _ _ h => h
          case hy31 => (first | exact Or.inl ⟨by rfl, by intro w hSw; go_simp; with_reducible rfl⟩ | (refine Or.inr ⟨by rfl, ?_⟩; rfl))
          simp only [Act.put, List.setIfInBounds_toArray, List.set_cons_zero, List.set_cons_succ]
          refine one_next (i := 15) (oi := ?oi32) (by kernel_rfl) ?hi32 ?step32
          case hi32 => (simp only [List.getElem?_toArray, List.getElem?_cons_succ, List.getElem?_cons_zero]; rfl)
          intro K hK
          go_simp
          refine hK.out _ _ (two_1 (by kernel_rfl) trivial) (fun hHeld => ?_)
          clear hK K
          try simp only [Act.put, List.setIfInBounds_toArray, List.set_cons_zero, List.set_cons_succ]
          refine none_next (by kernel_rfl) ?_
          go_wp2_with fail
          go_ret
          clear hHeld mkU j1 hj1 hz1 hs1 hy1 RWM ch0 ch1 ch2 ch3 ch4 ch5 ch6
          have gax : ga ≠ x := fun e => by
            rcases hat with q | q
            · exact nvx (by rw [← e]; exact q.symm)
            · omega
          have hb : ∀ k : Nat, k < w7.heap.size → some k ≠ v.ownBlock → wd.heap[k]? = w7.heap[k]? := fun k hk hn => (hgrow.block k (by simp; omega) hn).trans (qA.block k hk)
          have HXd := block_set ((hb x (by omega) nvx).trans PX7) 3 (.slice (some ⟨ga, 0, none⟩) (Q.length + 1) ka)
          have nvr : some w7.heap.size ≠ v.ownBlock := fun e => by have := (VL.out _ e.symm).1; omega
          have HRd : wd.heap[w7.heap.size]? = _ := (hgrow.block w7.heap.size (by have := lt_of_heap hRM'; simp; omega) nvr).trans ((((Below.refl wM.heap.size wM).alloc (Nat.le_refl _) (.cells #[.int .i64 at0, .int .u64 y0, .int .i64 y1, .int .i64 y2, .int .i64 y3, .int .i64 y4, .int .i64 y5, .bool y6, .slice (some ⟨w7.heap.size, 0, none⟩) y3.toNat y3.toNat] 100)).block _ (lt_of_heap hRM')).trans hRM')
          have bDx := ((qA.mono D7).grown hgrow (by simp; omega) (fun k hk => (P7.lds.row.lt k hk).1)).setCell (p := ⟨x, 3, none⟩) P7.gx (.slice (some ⟨ga, 0, none⟩) (Q.length + 1) ka)
          have hownS : (wd.setCell ⟨x, 3, none⟩ (.slice (some ⟨ga, 0, none⟩) (Q.length + 1) ka)).ownsRow D 100 9 (.slice (some ⟨ga, 0, none⟩) (Q.length + 1) ka) (Q.length + 1) (Q.flatMap Lt.cells ++ [.int .i64 at0, .int .u64 y0, .int .i64 y1, .int .i64 y2, .int .i64 y3, .int .i64 y4, .int .i64 y5, .bool y6, .slice (some ⟨w7.heap.size, 0, none⟩) y3.toNat y3.toNat]) := ownsRow_heap hown fun k hk => block_set_ne (fun e => gax (by cases hk; exact e))
          refine ⟨rfl, _, P7.grow (q := ⟨at0, ⟨y0, y1, y2, y3, y4, y5, y6⟩, List.replicate y3.toNat 0, w7.heap.size⟩) ⟨_, (E7 w7.heap.size).choose_spec⟩ (by simpa [Lt.cells, hdL] using hownS) HXd (fun k hk hx hv => (block_set_ne hx).trans (hb k hk (fun e => hv e.symm))) ((block_set_ne (fun e => by simp only at e; omega)).trans HRd) (Nat.le_refl _), rfl, rfl, bD7.trans bDx⟩
      | false =>
          obtain rfl := E3.out rfl
          go_wp2_with fail
          go_ret
          exact ⟨rfl, _, ⟨P7.hx, P7.pair, P7.lds, ⟨Ls, EE.out⟩, P7.len, P7.gx, P7.ga, P7.gw, P7.gb, P7.gr⟩, rfl, rfl, bD7⟩

end Go.Proofs.YtomgfdfgildkbaaDoor
/- BufferWalk: Retire, and what is no call, as a call of a script. No condition. -/

namespace Go.Proofs.YtomgfdfgildkbaaDoor
open Go.RowKit Go.BigFrame
set_option linter.unusedVariables false
set_option maxRecDepth 100000 in
set_option maxHeartbeats 8000000 in
theorem stepRetire (x D : Nat) (G : Wg) (o : Ct) (bd : o.Bd) (w : World) (tb : Tab w) (h : WoAt w x D G) (hk : o.kind = 4) :
    Calls Tryd.prog 64 #[.pointer (some ⟨x, 0, none⟩), o.val] w fun e w' => e = .returned (.bool true) ∧ Steps w w' x D G := by
  obtain ⟨o0, o1, ⟨x0, x1, x2, x3, x4, x5, x6⟩, o3, o4, o5⟩ := o
  simp only at hk
  subst hk
  have nb := h.bd
  have LA := Lib.hid (fun (W : World) (hb : Below w.heap.size w W) => h.below hb)
  have TB := Lib.hid (fun (W : World) (hb : Below w.heap.size w W) => tb.below hb)
  obtain ⟨a0, a1⟩ := amongI_bd o1 (n := (G.n : Int)) (by omega)
  have AM := Lib.hid (fun (W : World) => among13_any o1 (G.n : Int) W bd.t.1 bd.t.2 (by omega) (by omega))
  have SO' := fun (W : World) => sound_any x0 x1 x2 x3 x4 x5 x6 W bd.h1 bd.h2 bd.h3 bd.h4 bd.h5
  have fi := soundHd_fine ⟨x0, x1, x2, x3, x4, x5, x6⟩
  have sr : 0 ≤ (soundHd ⟨x0, x1, x2, x3, x4, x5, x6⟩).ser ∧ (soundHd ⟨x0, x1, x2, x3, x4, x5, x6⟩).ser < 18446744073709551616 := bd.s
  have bdn := bd.n
  have bdi := bd.i
  have bdw := bd.w
  simp only at bdn bdi bdw
  clear bd
  generalize soundHd ⟨x0, x1, x2, x3, x4, x5, x6⟩ = hh at *
  obtain ⟨y0, y1, y2, y3, y4, y5, y6⟩ := hh
  unfold Hd.val at SO'
  simp only at SO' sr
  have SO := Lib.hid SO'
  have hx := h.hx
  have HX := Lib.hid (fun (W : World) (hb : Below w.heap.size w W) => (hb.block _ (lt_of_heap hx)).trans hx)
  unfold Wg.cells at HX
  have lx := lt_of_heap hx
  have gx := h.gx
  clear SO' hx tb h
  generalize hn : G.n = n at *
  have HN := Lib.hid hn
  clear hn
  generalize hti : amongI o1 (n : Int) = t at *
  clear hti
  have hO := heap_one w (.cells #[.int .i64 4, .int .i64 o1, .int .u64 x0, .int .i64 x1, .int .i64 x2, .int .i64 x3, .int .i64 x4, .int .i64 x5, .bool x6, .int .i64 o3, .int .i64 o4, .int .u64 o5] 93)
  have b0 := (Below.refl w.heap.size w).alloc (Nat.le_refl _) (.cells #[.int .i64 4, .int .i64 o1, .int .u64 x0, .int .i64 x1, .int .i64 x2, .int .i64 x3, .int .i64 x4, .int .i64 x5, .bool x6, .int .i64 o3, .int .i64 o4, .int .u64 o5] 93)
  unfold Ct.val Ct.cells
  simp only
  go_enter Tryd.func64, Tryd.ntmps64
  go_upto_region 1 with fail
  generalize w.alloc (.cells #[.int .i64 4, .int .i64 o1, .int .u64 x0, .int .i64 x1, .int .i64 x2, .int .i64 x3, .int .i64 x4, .int .i64 x5, .bool x6, .int .i64 o3, .int .i64 o4, .int .u64 o5] 93) = w1 at *
  obtain ⟨cO, fO⟩ := hcell hO
  obtain ⟨cX, fX⟩ := hcell (HX.out _ b0)
  have cxn : w1.cell? ⟨x, 2, none⟩ = some (.int .i64 n) := by rw [cX]; rfl
  have co1 : w1.cell? ⟨w.heap.size, 1, none⟩ = some (.int .i64 o1) := by rw [cO]; rfl
  have KE := Lib.hid (fun (W : World) (hb : Below w1.heap.size w1 W) => (⟨(hb.cell (p := ⟨x, 2, none⟩) (World.block_lt_of_cell? w1 ⟨x, 2, none⟩ cxn)).trans cxn, (hb.cell (p := ⟨w.heap.size, 1, none⟩) (World.block_lt_of_cell? w1 ⟨w.heap.size, 1, none⟩ co1)).trans co1, hb⟩ : W.cell? ⟨x, 2, none⟩ = some (.int .i64 n) ∧ W.cell? ⟨w.heap.size, 1, none⟩ = some (.int .i64 o1) ∧ Below w1.heap.size w1 W))
  clear cO fO cX fX
  go_cut [5] from 14 to 21 (fun tv wx => tv = .int .i64 t ∧ Below w1.heap.size w1 wx)
  case first =>
    go_region_held3 (fun W => W.cell? ⟨x, 2, none⟩ = some (.int .i64 n) ∧ W.cell? ⟨w.heap.size, 1, none⟩ = some (.int .i64 o1) ∧ Below w1.heap.size w1 W) ((refine KE.out _ ?_; repeat (first | (with_reducible assumption) | (with_reducible exact Below.refl _ _) | (with_reducible refine Below.drew ?_)))) (first | (go_at_call 35; refine (AM.out _).mono ?_; rintro e w' ⟨rfl, rfl⟩))
    all_goals
      go_wp2_with fail
      go_meet
      exact ⟨rfl, (Below.refl _ _).drew⟩
  case rest =>
    obtain ⟨w2, rfl⟩ : ∃ W : World, W = wc := ⟨_, rfl⟩
    obtain ⟨rfl, hq⟩ := hcut
    have b2 := b0.trans (hq.mono b0.size)
    have hO2 := (hq.block _ (lt_of_heap hO)).trans hO
    clear KE AM cxn co1 hq hO
    obtain ⟨cO, fO⟩ := hcell hO2
    go_wp2_with fail
    refine (SO.out _).mono ?_
    rintro e w3 ⟨rfl, hq⟩
    have b3 := b2.trans (hq.mono b2.size)
    have hO3 := (hq.block _ (lt_of_heap hO2)).trans hO2
    clear cO fO hq hO2 b2 SO
    go_upto_region 3 with fail
    have hH := heap_one w3 (.cells #[.int .u64 y0, .int .i64 y1, .int .i64 y2, .int .i64 y3, .int .i64 y4, .int .i64 y5, .bool y6] 24)
    have hq := (Below.refl w3.heap.size w3).alloc (Nat.le_refl _) (.cells #[.int .u64 y0, .int .i64 y1, .int .i64 y2, .int .i64 y3, .int .i64 y4, .int .i64 y5, .bool y6] 24)
    generalize w3.alloc (.cells #[.int .u64 y0, .int .i64 y1, .int .i64 y2, .int .i64 y3, .int .i64 y4, .int .i64 y5, .bool y6] 24) = w4 at *
    have b4 := b3.trans (hq.mono b3.size)
    have hO4 := (hq.block _ (lt_of_heap hO3)).trans hO3
    have l3 := b3.size
    have lo3 := lt_of_heap hO3
    clear hO3 b3 hq
    generalize w3.heap.size = p at *
    have h4 := LA.out _ b4
    have tb4 := TB.out _ b4
    have hX4 := HX.out _ b4
    clear LA TB HX b0
    obtain ⟨cO, fO⟩ := hcell hO4
    obtain ⟨Ls, E⟩ := h4.eden
    have EE := Lib.hid E
    have RE := Lib.hid (fun (W : World) (hb : Below w4.heap.size w4 W) => (pair_reB (.pointer (some ⟨G.a, 0, none⟩)) (h4.pair.below hb)).mono (R' := fun e w' => e = .returned (.tuple #[]) ∧ PairAt w' G.b G.rb G.B.retire G.a G.wb G.A ∧ Only [G.b, G.rb, G.a, G.wb] w4 w') fun e w' ⟨h1, h2, h3⟩ => ⟨h1, h2, (Only.of_below hb).trans h3⟩)
    obtain ⟨cX, fX⟩ := hcell hX4
    have cx0 : w4.cell? ⟨x, 0, none⟩ = some (.pointer (some ⟨G.a, 0, none⟩)) := by rw [cX]; rfl
    have cx1 : w4.cell? ⟨x, 1, none⟩ = some (.pointer (some ⟨G.b, 0, none⟩)) := by rw [cX]; rfl
    have nx := h4.pre.xn4
    go_upto_region 16 with fail
    have KE := Lib.hid (fun (W : World) (hO : Only [G.b, G.rb, G.a, G.wb] w4 W) => (⟨hO.cellB nx cx0, hO.cellB nx cx1, hO⟩ : W.cell? ⟨x, 0, none⟩ = some (.pointer (some ⟨G.a, 0, none⟩)) ∧ W.cell? ⟨x, 1, none⟩ = some (.pointer (some ⟨G.b, 0, none⟩)) ∧ Only [G.b, G.rb, G.a, G.wb] w4 W))
    clear cO fO cX fX E
    go_region_held3 (fun W => W.cell? ⟨x, 0, none⟩ = some (.pointer (some ⟨G.a, 0, none⟩)) ∧ W.cell? ⟨x, 1, none⟩ = some (.pointer (some ⟨G.b, 0, none⟩)) ∧ Only [G.b, G.rb, G.a, G.wb] w4 W) ((refine KE.out _ ?_; repeat (first | (with_reducible assumption) | (with_reducible exact Only.refl _ _) | (with_reducible refine Only.drew ?_)))) (first | (go_at_call 68; refine (RE.out _ ?_).mono ?_; (first | exact (Below.refl _ _).drew | exact (Below.refl _ _)); rintro e w7 ⟨rfl, hp7, hO7⟩))
    all_goals
      have P7 := h4.pre.turn4 hp7 hO7 (by simp [Bu.retire])
      have bD7 : Below D w w7 := (b4.mono (by have := h4.gx; omega)).trans (Only.below4 h4.pre hO7)
      clear KE RE cx0 cx1 hp7 hO7 hH
      go_wp2_with fail
      go_ret
      exact ⟨rfl, _, ⟨P7.hx, P7.pair, P7.lds, ⟨Ls, EE.out.retire⟩, P7.len, P7.gx, P7.ga, P7.gw, P7.gb, P7.gr⟩, rfl, rfl, bD7⟩

set_option maxRecDepth 100000 in
set_option maxHeartbeats 8000000 in
theorem stepNone (x D : Nat) (G : Wg) (o : Ct) (bd : o.Bd) (w : World) (tb : Tab w) (h : WoAt w x D G) (k1 : o.kind ≠ 1) (k5 : o.kind ≠ 5) (k4 : o.kind ≠ 4) (k6 : o.kind ≠ 6) :
    Calls Tryd.prog 64 #[.pointer (some ⟨x, 0, none⟩), o.val] w fun e w' => e = .returned (.bool true) ∧ Steps w w' x D G := by
  obtain ⟨o0, o1, ⟨x0, x1, x2, x3, x4, x5, x6⟩, o3, o4, o5⟩ := o
  simp only at k1 k5 k4 k6
  have nb := h.bd
  have LA := Lib.hid (fun (W : World) (hb : Below w.heap.size w W) => h.below hb)
  have TB := Lib.hid (fun (W : World) (hb : Below w.heap.size w W) => tb.below hb)
  obtain ⟨a0, a1⟩ := amongI_bd o1 (n := (G.n : Int)) (by omega)
  have AM := Lib.hid (fun (W : World) => among13_any o1 (G.n : Int) W bd.t.1 bd.t.2 (by omega) (by omega))
  have SO' := fun (W : World) => sound_any x0 x1 x2 x3 x4 x5 x6 W bd.h1 bd.h2 bd.h3 bd.h4 bd.h5
  have fi := soundHd_fine ⟨x0, x1, x2, x3, x4, x5, x6⟩
  have sr : 0 ≤ (soundHd ⟨x0, x1, x2, x3, x4, x5, x6⟩).ser ∧ (soundHd ⟨x0, x1, x2, x3, x4, x5, x6⟩).ser < 18446744073709551616 := bd.s
  have bdn := bd.n
  have bdi := bd.i
  have bdw := bd.w
  simp only at bdn bdi bdw
  clear bd
  generalize soundHd ⟨x0, x1, x2, x3, x4, x5, x6⟩ = hh at *
  obtain ⟨y0, y1, y2, y3, y4, y5, y6⟩ := hh
  unfold Hd.val at SO'
  simp only at SO' sr
  have SO := Lib.hid SO'
  have hx := h.hx
  have HX := Lib.hid (fun (W : World) (hb : Below w.heap.size w W) => (hb.block _ (lt_of_heap hx)).trans hx)
  unfold Wg.cells at HX
  have lx := lt_of_heap hx
  have gx := h.gx
  clear SO' hx tb h
  generalize hn : G.n = n at *
  have HN := Lib.hid hn
  clear hn
  generalize hti : amongI o1 (n : Int) = t at *
  clear hti
  have hO := heap_one w (.cells #[.int .i64 o0, .int .i64 o1, .int .u64 x0, .int .i64 x1, .int .i64 x2, .int .i64 x3, .int .i64 x4, .int .i64 x5, .bool x6, .int .i64 o3, .int .i64 o4, .int .u64 o5] 93)
  have b0 := (Below.refl w.heap.size w).alloc (Nat.le_refl _) (.cells #[.int .i64 o0, .int .i64 o1, .int .u64 x0, .int .i64 x1, .int .i64 x2, .int .i64 x3, .int .i64 x4, .int .i64 x5, .bool x6, .int .i64 o3, .int .i64 o4, .int .u64 o5] 93)
  unfold Ct.val Ct.cells
  simp only
  go_enter Tryd.func64, Tryd.ntmps64
  go_upto_region 1 with fail
  generalize w.alloc (.cells #[.int .i64 o0, .int .i64 o1, .int .u64 x0, .int .i64 x1, .int .i64 x2, .int .i64 x3, .int .i64 x4, .int .i64 x5, .bool x6, .int .i64 o3, .int .i64 o4, .int .u64 o5] 93) = w1 at *
  obtain ⟨cO, fO⟩ := hcell hO
  obtain ⟨cX, fX⟩ := hcell (HX.out _ b0)
  have cxn : w1.cell? ⟨x, 2, none⟩ = some (.int .i64 n) := by rw [cX]; rfl
  have co1 : w1.cell? ⟨w.heap.size, 1, none⟩ = some (.int .i64 o1) := by rw [cO]; rfl
  have KE := Lib.hid (fun (W : World) (hb : Below w1.heap.size w1 W) => (⟨(hb.cell (p := ⟨x, 2, none⟩) (World.block_lt_of_cell? w1 ⟨x, 2, none⟩ cxn)).trans cxn, (hb.cell (p := ⟨w.heap.size, 1, none⟩) (World.block_lt_of_cell? w1 ⟨w.heap.size, 1, none⟩ co1)).trans co1, hb⟩ : W.cell? ⟨x, 2, none⟩ = some (.int .i64 n) ∧ W.cell? ⟨w.heap.size, 1, none⟩ = some (.int .i64 o1) ∧ Below w1.heap.size w1 W))
  clear cO fO cX fX
  go_cut [5] from 14 to 21 (fun tv wx => tv = .int .i64 t ∧ Below w1.heap.size w1 wx)
  case first =>
    go_region_held3 (fun W => W.cell? ⟨x, 2, none⟩ = some (.int .i64 n) ∧ W.cell? ⟨w.heap.size, 1, none⟩ = some (.int .i64 o1) ∧ Below w1.heap.size w1 W) ((refine KE.out _ ?_; repeat (first | (with_reducible assumption) | (with_reducible exact Below.refl _ _) | (with_reducible refine Below.drew ?_)))) (first | (go_at_call 35; refine (AM.out _).mono ?_; rintro e w' ⟨rfl, rfl⟩))
    all_goals
      go_wp2_with fail
      go_meet
      exact ⟨rfl, (Below.refl _ _).drew⟩
  case rest =>
    obtain ⟨w2, rfl⟩ : ∃ W : World, W = wc := ⟨_, rfl⟩
    obtain ⟨rfl, hq⟩ := hcut
    have b2 := b0.trans (hq.mono b0.size)
    have hO2 := (hq.block _ (lt_of_heap hO)).trans hO
    clear KE AM cxn co1 hq hO
    obtain ⟨cO, fO⟩ := hcell hO2
    go_wp2_with fail
    refine (SO.out _).mono ?_
    rintro e w3 ⟨rfl, hq⟩
    have b3 := b2.trans (hq.mono b2.size)
    have hO3 := (hq.block _ (lt_of_heap hO2)).trans hO2
    clear cO fO hq hO2 b2 SO
    go_upto_region 3 with fail
    have hH := heap_one w3 (.cells #[.int .u64 y0, .int .i64 y1, .int .i64 y2, .int .i64 y3, .int .i64 y4, .int .i64 y5, .bool y6] 24)
    have hq := (Below.refl w3.heap.size w3).alloc (Nat.le_refl _) (.cells #[.int .u64 y0, .int .i64 y1, .int .i64 y2, .int .i64 y3, .int .i64 y4, .int .i64 y5, .bool y6] 24)
    generalize w3.alloc (.cells #[.int .u64 y0, .int .i64 y1, .int .i64 y2, .int .i64 y3, .int .i64 y4, .int .i64 y5, .bool y6] 24) = w4 at *
    have b4 := b3.trans (hq.mono b3.size)
    have hO4 := (hq.block _ (lt_of_heap hO3)).trans hO3
    have l3 := b3.size
    have lo3 := lt_of_heap hO3
    clear hO3 b3 hq
    generalize w3.heap.size = p at *
    have h4 := LA.out _ b4
    have tb4 := TB.out _ b4
    have hX4 := HX.out _ b4
    clear LA TB HX b0
    obtain ⟨cO, fO⟩ := hcell hO4
    have bD4 : Below D w w4 := b4.mono (by have := h4.gx; omega)
    go_wp2_with fail
    go_ret
    exact ⟨rfl, _, h4, rfl, rfl, bD4⟩

end Go.Proofs.YtomgfdfgildkbaaDoor
/- BufferWalk: a raw field of what was put is written: words. No condition. -/

namespace Go.Proofs.YtomgfdfgildkbaaDoor
open Go.RowKit Go.BigFrame
set_option linter.unusedVariables false
theorem map_set_sameB {α β : Type} (f : α → β) (l : List α) (d : α) {k : Nat} {y : α} (h : f y = f (l.getD k d)) : (l.set k y).map f = l.map f := by
  rw [List.map_set]
  apply List.ext_getElem?
  intro i
  rw [List.getElem?_set]
  by_cases hk : k = i
  · subst hk
    rw [if_pos rfl, h]
    split
    · rename_i hl
      simp only [List.length_map] at hl
      rw [List.getElem?_map, List.getD_eq_getElem?_getD, List.getElem?_eq_getElem hl]; rfl
    · rename_i hl
      rw [List.getElem?_eq_none (by omega)]
  · rw [if_neg hk]
theorem flatMap_set_sameB {α β : Type} (f : α → List β) (l : List α) (d : α) {k : Nat} {y : α} (h : f y = f (l.getD k d)) : (l.set k y).flatMap f = l.flatMap f := by
  rw [List.flatMap_def, List.flatMap_def, map_set_sameB f l d h]
theorem mem_setB {Q : List Lt} {k : Nat} {q y : Lt} (h : y ∈ Q.set k q) : (y = q ∧ k < Q.length) ∨ ∃ j, j < Q.length ∧ j ≠ k ∧ y = Q.getD j lt0 := by
  obtain ⟨j, hj, rfl⟩ := List.mem_iff_getElem.1 h
  rw [List.length_set] at hj
  by_cases e : k = j
  · subst e; left; exact ⟨by simp, hj⟩
  · right
    refine ⟨j, hj, fun q => e q.symm, ?_⟩
    rw [List.getElem_set_ne e, List.getD_eq_getElem?_getD, List.getElem?_eq_getElem hj]; rfl
theorem apart_ofB {Q : List Lt} (h : (Q.map Lt.rb).Nodup) {j k : Nat} (hj : j < Q.length) (hk : k < Q.length) (e : j ≠ k) : (Q.getD j lt0).rb ≠ (Q.getD k lt0).rb := by
  intro q
  rw [List.getD_eq_getElem?_getD, List.getD_eq_getElem?_getD, List.getElem?_eq_getElem hj, List.getElem?_eq_getElem hk] at q
  simp only [Option.getD_some] at q
  exact e ((List.getElem_inj h (h₀ := by simpa using hj) (h₁ := by simpa using hk)).1 (by simpa using q))
theorem LdsAt.setR {w : World} {D wb : Nat} {v : Value} {Q : List Lt} (h : LdsAt w D wb v Q) {k : Nat} (hk : k < Q.length) (i : Nat) (u : Int) : LdsAt (w.setCell ⟨(Q.getD k lt0).rb, i, none⟩ (.int .u64 u)) D wb v (Q.set k { Q.getD k lt0 with rs := (Q.getD k lt0).rs.set i u }) := by
  have hm := lt_mem hk
  have e2 := map_set_sameB Lt.rb Q lt0 (k := k) (y := { Q.getD k lt0 with rs := (Q.getD k lt0).rs.set i u }) rfl
  have ec : ({ Q.getD k lt0 with rs := (Q.getD k lt0).rs.set i u } : Lt).cells = (Q.getD k lt0).cells := by unfold Lt.cells; simp
  refine ⟨?_, fun y hy => ?_, fun y hy => ?_, by rw [e2]; exact h.nr⟩
  · rw [List.length_set, flatMap_set_sameB Lt.cells Q lt0 ec]
    exact ownsRow_heap h.row fun j hj => block_set_ne (fun e => by obtain ⟨cs, hc⟩ := row_blockA h.row hj; exact ty_neA hc (h.br _ hm) (by decide) e)
  · rcases mem_setB hy with ⟨rfl, -⟩ | ⟨j, hj, hne, rfl⟩
    · have := block_set (h.br _ hm) i (.int .u64 u)
      rw [u64s_set] at this
      exact this
    · exact (block_set_ne (apart_ofB h.nr hj hk hne)).trans (h.br _ (lt_mem hj))
  · rcases mem_setB hy with ⟨rfl, -⟩ | ⟨j, hj, hne, rfl⟩
    · exact h.gr (Q.getD k lt0) hm
    · exact h.gr _ (lt_mem hj)
theorem WoPre.setR {w : World} {x D : Nat} {G : Wg} (h : WoPre w x D G) {k : Nat} (hk : k < G.Q.length) (i : Nat) (u : Int) : WoPre (w.setCell ⟨(G.Q.getD k lt0).rb, i, none⟩ (.int .u64 u)) x D { G with Q := G.Q.set k { G.Q.getD k lt0 with rs := (G.Q.getD k lt0).rs.set i u } } := by
  have hA := h.pair.hA
  have hB := h.pair.hB
  have hm := lt_mem hk
  have hr := h.lds.br _ hm
  have e1 : ∀ (c : Nat), c ≠ (G.Q.getD k lt0).rb → (w.setCell ⟨(G.Q.getD k lt0).rb, i, none⟩ (.int .u64 u)).heap[c]? = w.heap[c]? := fun c hc => block_set_ne hc
  exact ⟨(e1 x (ty_neA h.hx hr (by decide))).trans h.hx, h.pair.keep (e1 _ (ty_neA hA.st hr (by decide))) (e1 _ (Ne.symm (h.lds.gr _ hm).2)) (e1 _ (ty_neA hB.st hr (by decide))) (e1 _ (ty_neA hB.rs hr (by decide))), h.lds.setR hk i u, h.len, h.gx, h.ga, h.gw, h.gb, h.gr⟩
theorem row_sl {w : World} {D : Nat} {e : TypeId} {sz : Nat} {v : Value} {n : Nat} {xs : List Value} (h : w.ownsRow D e sz v n xs) : ∃ p c, v = .slice p n c := by
  rcases h.2 with ⟨h1, h2⟩ | ⟨g, cap, cur, h1, h2⟩
  · exact ⟨none, 0, by rw [h1, h2]⟩
  · exact ⟨_, _, h1⟩
theorem setRaw_okB {A : Ar} (ok : A.Ok) {i j v : Int} (hv : 0 ≤ v ∧ v < 18446744073709551616) : (A.setRaw i j v).Ok := by
  unfold Ar.setRaw
  split
  · exact ok.putI _ hv
  · exact ok
theorem WoAt.ofPre {w : World} {x D : Nat} {G : Wg} (h : WoPre w x D G) (hE : ∃ Ls, Eden G.A G.B Ls G.Q) : WoAt w x D G := ⟨h.hx, h.pair, h.lds, hE, h.len, h.gx, h.ga, h.gw, h.gb, h.gr⟩
theorem set9 {W : World} {b : Nat} {c0 c1 c2 c3 c4 c5 c6 c7 c8 : Value} {t : TypeId} (h : W.heap[b]? = some (.cells #[c0, c1, c2, c3, c4, c5, c6, c7, c8] t (0, 0))) (v0 v1 v2 v3 v4 v5 v6 v7 v8 : Value) :
    (((((((((W.setCell ⟨b, 0, none⟩ v0).setCell ⟨b, 1, none⟩ v1).setCell ⟨b, 2, none⟩ v2).setCell ⟨b, 3, none⟩ v3).setCell ⟨b, 4, none⟩ v4).setCell ⟨b, 5, none⟩ v5).setCell ⟨b, 6, none⟩ v6).setCell ⟨b, 7, none⟩ v7).setCell ⟨b, 8, none⟩ v8).heap[b]? = some (.cells #[v0, v1, v2, v3, v4, v5, v6, v7, v8] t (0, 0)) := by
  have h0 := block_set h 0 v0
  have h1 := block_set h0 1 v1
  have h2 := block_set h1 2 v2
  have h3 := block_set h2 3 v3
  have h4 := block_set h3 4 v4
  have h5 := block_set h4 5 v5
  have h6 := block_set h5 6 v6
  have h7 := block_set h6 7 v7
  have h8 := block_set h7 8 v8
  simpa using h8
theorem set9_below {W a : World} {b B : Nat} (v0 v1 v2 v3 v4 v5 v6 v7 v8 : Value) (h : Below B a W) (hb : B ≤ b) :
    Below B a (((((((((W.setCell ⟨b, 0, none⟩ v0).setCell ⟨b, 1, none⟩ v1).setCell ⟨b, 2, none⟩ v2).setCell ⟨b, 3, none⟩ v3).setCell ⟨b, 4, none⟩ v4).setCell ⟨b, 5, none⟩ v5).setCell ⟨b, 6, none⟩ v6).setCell ⟨b, 7, none⟩ v7).setCell ⟨b, 8, none⟩ v8) := by
  refine Below.setCell ?_ hb _
  refine Below.setCell ?_ hb _
  refine Below.setCell ?_ hb _
  refine Below.setCell ?_ hb _
  refine Below.setCell ?_ hb _
  refine Below.setCell ?_ hb _
  refine Below.setCell ?_ hb _
  refine Below.setCell ?_ hb _
  exact Below.setCell h hb _
end Go.Proofs.YtomgfdfgildkbaaDoor
/- BufferWalk: SetRaw, as a call of a script. No condition. -/

namespace Go.Proofs.YtomgfdfgildkbaaDoor
open Go.RowKit Go.BigFrame
set_option linter.unusedVariables false
set_option maxRecDepth 100000 in
set_option maxHeartbeats 8000000 in
theorem stepRaw (x D : Nat) (G : Wg) (o : Ct) (bd : o.Bd) (w : World) (tb : Tab w) (h : WoAt w x D G) (td : ∀ W, Below D w W → Tab W) (hk : o.kind = 6) :
    Calls Tryd.prog 64 #[.pointer (some ⟨x, 0, none⟩), o.val] w fun e w' => e = .returned (.bool true) ∧ Steps w w' x D G := by
  obtain ⟨o0, o1, ⟨x0, x1, x2, x3, x4, x5, x6⟩, o3, o4, o5⟩ := o
  simp only at hk
  subst hk
  have nb := h.bd
  have LA := Lib.hid (fun (W : World) (hb : Below w.heap.size w W) => h.below hb)
  have TB := Lib.hid (fun (W : World) (hb : Below w.heap.size w W) => tb.below hb)
  obtain ⟨a0, a1⟩ := amongI_bd o1 (n := (G.n : Int)) (by omega)
  have AM := Lib.hid (fun (W : World) => among13_any o1 (G.n : Int) W bd.t.1 bd.t.2 (by omega) (by omega))
  have SO' := fun (W : World) => sound_any x0 x1 x2 x3 x4 x5 x6 W bd.h1 bd.h2 bd.h3 bd.h4 bd.h5
  have fi := soundHd_fine ⟨x0, x1, x2, x3, x4, x5, x6⟩
  have sr : 0 ≤ (soundHd ⟨x0, x1, x2, x3, x4, x5, x6⟩).ser ∧ (soundHd ⟨x0, x1, x2, x3, x4, x5, x6⟩).ser < 18446744073709551616 := bd.s
  have bdn := bd.n
  have bdi := bd.i
  have bdw := bd.w
  simp only at bdn bdi bdw
  clear bd
  generalize soundHd ⟨x0, x1, x2, x3, x4, x5, x6⟩ = hh at *
  obtain ⟨y0, y1, y2, y3, y4, y5, y6⟩ := hh
  unfold Hd.val at SO'
  simp only at SO' sr
  have SO := Lib.hid SO'
  have hx := h.hx
  have HX := Lib.hid (fun (W : World) (hb : Below w.heap.size w W) => (hb.block _ (lt_of_heap hx)).trans hx)
  unfold Wg.cells at HX
  have lx := lt_of_heap hx
  have gx := h.gx
  clear SO' hx tb h
  generalize hn : G.n = n at *
  have HN := Lib.hid hn
  clear hn
  generalize hti : amongI o1 (n : Int) = t at *
  clear hti
  have hO := heap_one w (.cells #[.int .i64 6, .int .i64 o1, .int .u64 x0, .int .i64 x1, .int .i64 x2, .int .i64 x3, .int .i64 x4, .int .i64 x5, .bool x6, .int .i64 o3, .int .i64 o4, .int .u64 o5] 93)
  have b0 := (Below.refl w.heap.size w).alloc (Nat.le_refl _) (.cells #[.int .i64 6, .int .i64 o1, .int .u64 x0, .int .i64 x1, .int .i64 x2, .int .i64 x3, .int .i64 x4, .int .i64 x5, .bool x6, .int .i64 o3, .int .i64 o4, .int .u64 o5] 93)
  unfold Ct.val Ct.cells
  simp only
  go_enter Tryd.func64, Tryd.ntmps64
  go_upto_region 1 with fail
  generalize w.alloc (.cells #[.int .i64 6, .int .i64 o1, .int .u64 x0, .int .i64 x1, .int .i64 x2, .int .i64 x3, .int .i64 x4, .int .i64 x5, .bool x6, .int .i64 o3, .int .i64 o4, .int .u64 o5] 93) = w1 at *
  obtain ⟨cO, fO⟩ := hcell hO
  obtain ⟨cX, fX⟩ := hcell (HX.out _ b0)
  have cxn : w1.cell? ⟨x, 2, none⟩ = some (.int .i64 n) := by rw [cX]; rfl
  have co1 : w1.cell? ⟨w.heap.size, 1, none⟩ = some (.int .i64 o1) := by rw [cO]; rfl
  have KE := Lib.hid (fun (W : World) (hb : Below w1.heap.size w1 W) => (⟨(hb.cell (p := ⟨x, 2, none⟩) (World.block_lt_of_cell? w1 ⟨x, 2, none⟩ cxn)).trans cxn, (hb.cell (p := ⟨w.heap.size, 1, none⟩) (World.block_lt_of_cell? w1 ⟨w.heap.size, 1, none⟩ co1)).trans co1, hb⟩ : W.cell? ⟨x, 2, none⟩ = some (.int .i64 n) ∧ W.cell? ⟨w.heap.size, 1, none⟩ = some (.int .i64 o1) ∧ Below w1.heap.size w1 W))
  clear cO fO cX fX
  go_cut [5] from 14 to 21 (fun tv wx => tv = .int .i64 t ∧ Below w1.heap.size w1 wx)
  case first =>
    go_region_held3 (fun W => W.cell? ⟨x, 2, none⟩ = some (.int .i64 n) ∧ W.cell? ⟨w.heap.size, 1, none⟩ = some (.int .i64 o1) ∧ Below w1.heap.size w1 W) ((refine KE.out _ ?_; repeat (first | (with_reducible assumption) | (with_reducible exact Below.refl _ _) | (with_reducible refine Below.drew ?_)))) (first | (go_at_call 35; refine (AM.out _).mono ?_; rintro e w' ⟨rfl, rfl⟩))
    all_goals
      go_wp2_with fail
      go_meet
      exact ⟨rfl, (Below.refl _ _).drew⟩
  case rest =>
    obtain ⟨w2, rfl⟩ : ∃ W : World, W = wc := ⟨_, rfl⟩
    obtain ⟨rfl, hq⟩ := hcut
    have b2 := b0.trans (hq.mono b0.size)
    have hO2 := (hq.block _ (lt_of_heap hO)).trans hO
    clear KE AM cxn co1 hq hO
    obtain ⟨cO, fO⟩ := hcell hO2
    go_wp2_with fail
    refine (SO.out _).mono ?_
    rintro e w3 ⟨rfl, hq⟩
    have b3 := b2.trans (hq.mono b2.size)
    have hO3 := (hq.block _ (lt_of_heap hO2)).trans hO2
    clear cO fO hq hO2 b2 SO
    go_upto_region 3 with fail
    have hH := heap_one w3 (.cells #[.int .u64 y0, .int .i64 y1, .int .i64 y2, .int .i64 y3, .int .i64 y4, .int .i64 y5, .bool y6] 24)
    have hq := (Below.refl w3.heap.size w3).alloc (Nat.le_refl _) (.cells #[.int .u64 y0, .int .i64 y1, .int .i64 y2, .int .i64 y3, .int .i64 y4, .int .i64 y5, .bool y6] 24)
    generalize w3.alloc (.cells #[.int .u64 y0, .int .i64 y1, .int .i64 y2, .int .i64 y3, .int .i64 y4, .int .i64 y5, .bool y6] 24) = w4 at *
    have b4 := b3.trans (hq.mono b3.size)
    have hO4 := (hq.block _ (lt_of_heap hO3)).trans hO3
    have l3 := b3.size
    have lo3 := lt_of_heap hO3
    clear hO3 b3 hq
    generalize w3.heap.size = p at *
    have h4 := LA.out _ b4
    have tb4 := TB.out _ b4
    have hX4 := HX.out _ b4
    clear LA TB HX b0
    obtain ⟨cO, fO⟩ := hcell hO4
    obtain ⟨Ls, E⟩ := h4.eden
    have okA := h4.pair.okA
    have hlen := E.len okA
    have bD4 : Below D w w4 := b4.mono (by have := h4.gx; omega)
    obtain ⟨cX, fX⟩ := hcell hX4
    have co9 : w4.cell? ⟨w.heap.size, 9, none⟩ = some (.int .i64 o3) := by rw [cO]; rfl
    by_cases h0 : 0 < G.Q.length
    · have d0 : decide ((0 : Int) < (G.Q.length : Int)) = true := by simpa using h0
      obtain ⟨g, cap, hv⟩ := h4.lds.form h0
      have cx3 : w4.cell? ⟨x, 3, none⟩ = some (.slice (some ⟨g, 0, none⟩) G.Q.length cap) := by rw [cX, ← hv]; rfl
      obtain ⟨k0, k1⟩ := amongI_bd o3 (n := (G.Q.length : Int)) (by omega)
      have AM19' := fun (W : World) => among13_any o3 (G.Q.length : Int) W bdn.1 bdn.2 (by omega) (by omega)
      obtain ⟨k, hk⟩ : ∃ k : Nat, amongI o3 (G.Q.length : Int) = (k : Int) := ⟨(amongI o3 (G.Q.length : Int)).toNat, by omega⟩
      rw [hk] at AM19' k1
      have AM19 := Lib.hid AM19'
      have hkl : k < G.Q.length := by omega
      have hm := lt_mem hkl
      have hL := h4.lds
      rw [hv] at hL
      have zc := fun j (hj : j < 9) => hL.cell (i := k) hkl hj
      have li := E.lies okA hm
      have RW := Lib.hid (fun (i : Nat) (hi : i < (G.Q.getD k lt0).rs.length) => (E.raw okA hm hi).1)
      have nrq := li.nr
      have ES := Lib.hid (fun (i : Nat) (hi : i < (G.Q.getD k lt0).rs.length) => E.setRaw okA hkl (i := (i : Int)) (v := o5) (by omega) (by omega))
      have SR := Lib.hid (fun (i : Nat) (W : World) (hP : WoPre W x D G) => hP.setR hkl i o5)
      have BR := Lib.hid (fun (W : World) (hP : WoPre W x D G) => hP.lds.br _ hm)
      have GR := h4.lds.gr _ hm
      clear hm hL AM19' k0 hk
      generalize hq : G.Q.getD k lt0 = q at *
      have HQ := Lib.hid hq
      clear hq
      obtain ⟨qat, ⟨q0, q1, q2, q3, q4, q5, q6⟩, rs, rb⟩ := q
      simp only at nrq RW ES SR BR GR
      have qf := li.fine
      have r0 : 0 ≤ q3 := qf.r0
      have r1 : q3 ≤ 65535 := qf.r1
      have nrl : rs.length ≤ 65535 := by omega
      have kk0 : (0 : Int) ≤ (k : Int) := Int.natCast_nonneg _
      have cz0 : w4.cell? ⟨g, k * 9, none⟩ = some (.int .i64 qat) := zc 0 (by decide)
      have cz1 : w4.cell? ⟨g, k * 9 + 1, none⟩ = some (.int .u64 q0) := zc 1 (by decide)
      have cz2 : w4.cell? ⟨g, k * 9 + 2, none⟩ = some (.int .i64 q1) := zc 2 (by decide)
      have cz3 : w4.cell? ⟨g, k * 9 + 3, none⟩ = some (.int .i64 q2) := zc 3 (by decide)
      have cz4 : w4.cell? ⟨g, k * 9 + 4, none⟩ = some (.int .i64 q3) := zc 4 (by decide)
      have cz5 : w4.cell? ⟨g, k * 9 + 5, none⟩ = some (.int .i64 q4) := zc 5 (by decide)
      have cz6 : w4.cell? ⟨g, k * 9 + 6, none⟩ = some (.int .i64 q5) := zc 6 (by decide)
      have cz7 : w4.cell? ⟨g, k * 9 + 7, none⟩ = some (.bool q6) := zc 7 (by decide)
      have cz8 : w4.cell? ⟨g, k * 9 + 8, none⟩ = some (.slice (some ⟨rb, 0, none⟩) rs.length rs.length) := zc 8 (by decide)
      clear zc li qf
      have KE := Lib.hid (fun (W : World) (hb : Below w4.heap.size w4 W) => (⟨(hb.cell (p := ⟨x, 3, none⟩) (World.block_lt_of_cell? w4 ⟨x, 3, none⟩ cx3)).trans cx3, (hb.cell (p := ⟨w.heap.size, 9, none⟩) (World.block_lt_of_cell? w4 ⟨w.heap.size, 9, none⟩ co9)).trans co9, (hb.cell (p := ⟨g, k * 9, none⟩) (World.block_lt_of_cell? w4 ⟨g, k * 9, none⟩ cz0)).trans cz0, (hb.cell (p := ⟨g, k * 9 + 1, none⟩) (World.block_lt_of_cell? w4 ⟨g, k * 9 + 1, none⟩ cz1)).trans cz1, (hb.cell (p := ⟨g, k * 9 + 2, none⟩) (World.block_lt_of_cell? w4 ⟨g, k * 9 + 2, none⟩ cz2)).trans cz2, (hb.cell (p := ⟨g, k * 9 + 3, none⟩) (World.block_lt_of_cell? w4 ⟨g, k * 9 + 3, none⟩ cz3)).trans cz3, (hb.cell (p := ⟨g, k * 9 + 4, none⟩) (World.block_lt_of_cell? w4 ⟨g, k * 9 + 4, none⟩ cz4)).trans cz4, (hb.cell (p := ⟨g, k * 9 + 5, none⟩) (World.block_lt_of_cell? w4 ⟨g, k * 9 + 5, none⟩ cz5)).trans cz5, (hb.cell (p := ⟨g, k * 9 + 6, none⟩) (World.block_lt_of_cell? w4 ⟨g, k * 9 + 6, none⟩ cz6)).trans cz6, (hb.cell (p := ⟨g, k * 9 + 7, none⟩) (World.block_lt_of_cell? w4 ⟨g, k * 9 + 7, none⟩ cz7)).trans cz7, (hb.cell (p := ⟨g, k * 9 + 8, none⟩) (World.block_lt_of_cell? w4 ⟨g, k * 9 + 8, none⟩ cz8)).trans cz8, hb⟩ : W.cell? ⟨x, 3, none⟩ = some (.slice (some ⟨g, 0, none⟩) G.Q.length cap) ∧ W.cell? ⟨w.heap.size, 9, none⟩ = some (.int .i64 o3) ∧ W.cell? ⟨g, k * 9, none⟩ = some (.int .i64 qat) ∧ W.cell? ⟨g, k * 9 + 1, none⟩ = some (.int .u64 q0) ∧ W.cell? ⟨g, k * 9 + 2, none⟩ = some (.int .i64 q1) ∧ W.cell? ⟨g, k * 9 + 3, none⟩ = some (.int .i64 q2) ∧ W.cell? ⟨g, k * 9 + 4, none⟩ = some (.int .i64 q3) ∧ W.cell? ⟨g, k * 9 + 5, none⟩ = some (.int .i64 q4) ∧ W.cell? ⟨g, k * 9 + 6, none⟩ = some (.int .i64 q5) ∧ W.cell? ⟨g, k * 9 + 7, none⟩ = some (.bool q6) ∧ W.cell? ⟨g, k * 9 + 8, none⟩ = some (.slice (some ⟨rb, 0, none⟩) rs.length rs.length) ∧ Below w4.heap.size w4 W))
      go_upto_region 19 with fail
      clear cX fX cO fO
      go_cut [12] from 120 to 134 (fun pq wx => ∃ y, pq = .pointer (some ⟨y, 0, none⟩) ∧ w4.heap.size ≤ y ∧ wx.heap[y]? = some (Obj.cells #[.int .i64 qat, .int .u64 q0, .int .i64 q1, .int .i64 q2, .int .i64 q3, .int .i64 q4, .int .i64 q5, .bool q6, .slice (some ⟨rb, 0, none⟩) rs.length rs.length] 100 (0, 0)) ∧ Below w4.heap.size w4 wx)
      case first =>
        have hA0 := ((Below.refl w4.heap.size w4).alloc (Nat.le_refl _) (.cells #[.int .i64 0, .int .u64 0, .int .i64 0, .int .i64 0, .int .i64 0, .int .i64 0, .int .i64 0, .bool false, .slice none 0 0] 100)).drew
        have hH0 : (w4.alloc (.cells #[.int .i64 0, .int .u64 0, .int .i64 0, .int .i64 0, .int .i64 0, .int .i64 0, .int .i64 0, .bool false, .slice none 0 0] 100)).drew.heap[w4.heap.size]? = some _ := heap_one w4 (.cells #[.int .i64 0, .int .u64 0, .int .i64 0, .int .i64 0, .int .i64 0, .int .i64 0, .int .i64 0, .bool false, .slice none 0 0] 100)
        go_region_held3 (fun W => W.cell? ⟨x, 3, none⟩ = some (.slice (some ⟨g, 0, none⟩) G.Q.length cap) ∧ W.cell? ⟨w.heap.size, 9, none⟩ = some (.int .i64 o3) ∧ W.cell? ⟨g, k * 9, none⟩ = some (.int .i64 qat) ∧ W.cell? ⟨g, k * 9 + 1, none⟩ = some (.int .u64 q0) ∧ W.cell? ⟨g, k * 9 + 2, none⟩ = some (.int .i64 q1) ∧ W.cell? ⟨g, k * 9 + 3, none⟩ = some (.int .i64 q2) ∧ W.cell? ⟨g, k * 9 + 4, none⟩ = some (.int .i64 q3) ∧ W.cell? ⟨g, k * 9 + 5, none⟩ = some (.int .i64 q4) ∧ W.cell? ⟨g, k * 9 + 6, none⟩ = some (.int .i64 q5) ∧ W.cell? ⟨g, k * 9 + 7, none⟩ = some (.bool q6) ∧ W.cell? ⟨g, k * 9 + 8, none⟩ = some (.slice (some ⟨rb, 0, none⟩) rs.length rs.length) ∧ Below w4.heap.size w4 W) ((refine KE.out _ ?_; repeat (first | (with_reducible assumption) | (with_reducible exact Below.refl _ _) | (with_reducible refine Below.drew ?_) | (with_reducible refine Below.setCell ?_ ?_ _) | (with_reducible refine Below.alloc ?_ ?_ _) | exact Nat.le_refl _ | exact hb9.size))) ((go_at_call 35; refine (AM19.out _).mono ?_; rintro e w' ⟨rfl, rfl⟩))
        all_goals
          have f1 := heap_one w4 (.cells #[.int .i64 qat, .int .u64 q0, .int .i64 q1, .int .i64 q2, .int .i64 q3, .int .i64 q4, .int .i64 q5, .bool q6, .slice (some ⟨rb, 0, none⟩) rs.length rs.length] 100)
          have f2 := ((Below.refl w4.heap.size w4).alloc (Nat.le_refl _) (.cells #[.int .i64 qat, .int .u64 q0, .int .i64 q1, .int .i64 q2, .int .i64 q3, .int .i64 q4, .int .i64 q5, .bool q6, .slice (some ⟨rb, 0, none⟩) rs.length rs.length] 100)).drew
          have f3 : (w4.alloc (.cells #[.int .i64 qat, .int .u64 q0, .int .i64 q1, .int .i64 q2, .int .i64 q3, .int .i64 q4, .int .i64 q5, .bool q6, .slice (some ⟨rb, 0, none⟩) rs.length rs.length] 100)).drew.heap[w4.heap.size]? = _ := f1
          generalize (w4.alloc (.cells #[.int .i64 qat, .int .u64 q0, .int .i64 q1, .int .i64 q2, .int .i64 q3, .int .i64 q4, .int .i64 q5, .bool q6, .slice (some ⟨rb, 0, none⟩) rs.length rs.length] 100)).drew = WZ at *
          go_wp2_with fail
          go_meet
          exact ⟨_, rfl, Nat.le_refl _, f3, f2⟩
      case rest =>
        obtain ⟨w5, rfl⟩ : ∃ W : World, W = wc := ⟨_, rfl⟩
        obtain ⟨y, rfl, hyl, hY, hb5⟩ := hcut
        have h5 := h4.below hb5
        have hO5 := (hb5.block _ (lt_of_heap hO4)).trans hO4
        have bD5 := bD4.trans (hb5.mono (by have := h4.gx; have := lt_of_heap h4.hx; omega))
        clear KE AM19 cx3 co9 cz0 cz1 cz2 cz3 cz4 cz5 cz6 cz7 cz8 hO4 hX4 hH b4 tb4
        obtain ⟨cY, fY⟩ := hcell hY
        obtain ⟨cO, fO⟩ := hcell hO5
        by_cases l0 : 0 < rs.length
        · have d1 : decide ((0 : Int) < (rs.length : Int)) = true := by simpa using l0
          obtain ⟨i0, i1⟩ := amongI_bd o4 (n := q3) (by omega)
          have AM21' := fun (W : World) => among13_any o4 q3 W bdi.1 bdi.2 (by omega) (by omega)
          obtain ⟨i, hi⟩ : ∃ i : Nat, amongI o4 q3 = (i : Int) := ⟨(amongI o4 q3).toNat, by omega⟩
          rw [hi] at AM21' i1
          have AM21 := Lib.hid AM21'
          have hil : i < rs.length := by omega
          have ii0 : (0 : Int) ≤ (i : Int) := Int.natCast_nonneg _
          clear AM21' hi i0
          have hR5 := BR.out w5 h5.pre
          obtain ⟨cR, fR⟩ := hcell hR5
          have cri : w5.cell? ⟨rb, i, none⟩ = some (.int .u64 (rs.getD i 0)) := by rw [cR, u64s_get hil]
          have fri := fR i
          have rok := RW.out i hil
          obtain ⟨Ls2, E2⟩ := ES.out i hil
          have P6 := SR.out i w5 h5.pre
          have hY6 := (block_set_ne (o := i) (v := .int .u64 o5) (ty_neA hY hR5 (by decide))).trans hY
          have hO6 := (block_set_ne (o := i) (v := .int .u64 o5) (ty_neA hO5 hR5 (by decide))).trans hO5
          have bD6 := bD5.setCell (p := ⟨rb, i, none⟩) GR.1 (.int .u64 o5)
          have tb6 := td _ bD6
          clear cR fR
          go_wp2_with fail
          refine (AM21.out _).mono ?_
          rintro e w6 ⟨rfl, rfl⟩
          go_upto_region 23 with fail
          generalize w5.setCell ⟨rb, i, none⟩ (.int .u64 o5) = w6 at *
          have okA6 := P6.pair.okA
          have PU := Lib.hid (fun (W : World) (hb : Below w6.heap.size w6 W) => (pair_arB (P6.pair.below hb) (setRaw_okB okA6 bdw) (setRaw_any G.a G.wb G.A qat i o5 W (tb6.below hb) (P6.pair.below hb).hA okA6)).mono (R' := fun e w' => e = .returned (.bool true) ∧ PairAt w' G.b G.rb G.B G.a G.wb (G.A.setRaw qat i o5) ∧ Only [G.b, G.rb, G.a, G.wb] w6 w') fun e w' ⟨h1, h2, h3⟩ => ⟨h1.trans (by rw [rok]), h2, (Only.of_below hb).trans h3⟩)
          have nx := P6.xn4
          have ny := P6.tn4 hY6 (by decide) (by decide) (by decide) (by decide)
          have no := P6.tn4 hO6 (by decide) (by decide) (by decide) (by decide)
          simp only at nx ny no
          obtain ⟨cX, fX⟩ := hcell P6.hx
          obtain ⟨cY, fY⟩ := hcell hY6
          obtain ⟨cO, fO⟩ := hcell hO6
          have cx0 : w6.cell? ⟨x, 0, none⟩ = some (.pointer (some ⟨G.a, 0, none⟩)) := by rw [cX]; rfl
          have cy0 : w6.cell? ⟨y, 0, none⟩ = some (.int .i64 qat) := by rw [cY]; rfl
          have co11 : w6.cell? ⟨w.heap.size, 11, none⟩ = some (.int .u64 o5) := by rw [cO]; rfl
          have KE := Lib.hid (fun (W : World) (hO : Only [G.b, G.rb, G.a, G.wb] w6 W) => (⟨hO.cellB nx cx0, hO.cellB ny cy0, hO.cellB no co11, hO⟩ : W.cell? ⟨x, 0, none⟩ = some (.pointer (some ⟨G.a, 0, none⟩)) ∧ W.cell? ⟨y, 0, none⟩ = some (.int .i64 qat) ∧ W.cell? ⟨w.heap.size, 11, none⟩ = some (.int .u64 o5) ∧ Only [G.b, G.rb, G.a, G.wb] w6 W))
          clear cX fX cY fY cO fO
          go_region_held3 (fun W => W.cell? ⟨x, 0, none⟩ = some (.pointer (some ⟨G.a, 0, none⟩)) ∧ W.cell? ⟨y, 0, none⟩ = some (.int .i64 qat) ∧ W.cell? ⟨w.heap.size, 11, none⟩ = some (.int .u64 o5) ∧ Only [G.b, G.rb, G.a, G.wb] w6 W) ((refine KE.out _ ?_; repeat (first | (with_reducible assumption) | (with_reducible exact Only.refl _ _) | (with_reducible refine Only.drew ?_)))) (first | (go_at_call 95; refine (PU.out _ ?_).mono ?_; (first | exact (Below.refl _ _).drew | exact (Below.refl _ _)); rintro e w7 ⟨rfl, hp7, hO7⟩))
          all_goals
            have P7 := P6.turn4 hp7 hO7 rfl
            have bD7 := bD6.trans (Only.below4 P6 hO7)
            go_wp2_with fail
            go_ret
            exact ⟨rfl, _, WoAt.ofPre P7 ⟨Ls2, E2⟩, rfl, rfl, bD7⟩
        · have d1 : decide ((0 : Int) < (rs.length : Int)) = false := by simpa using l0
          go_wp2_with fail
          go_ret
          exact ⟨rfl, _, h5, rfl, rfl, bD5⟩
    · have d0 : decide ((0 : Int) < (G.Q.length : Int)) = false := by simpa using h0
      obtain ⟨pa, ca, hv⟩ := row_sl h4.lds.row
      have cx3 : w4.cell? ⟨x, 3, none⟩ = some (.slice pa G.Q.length ca) := by rw [cX, ← hv]; rfl
      go_wp2_with fail
      go_ret
      exact ⟨rfl, _, h4, rfl, rfl, bD4⟩

end Go.Proofs.YtomgfdfgildkbaaDoor
/- BufferWalk: any call of a script; a world begun. No condition. -/







namespace Go.Proofs.YtomgfdfgildkbaaDoor
open Go.RowKit Go.BigFrame
set_option linter.unusedVariables false
theorem step_any13 (x D : Nat) (G : Wg) (o : Ct) (bd : o.Bd) (w : World) (td : ∀ W, Below D w W → Tab W) (h : WoAt w x D G) :
    Calls Tryd.prog 64 #[.pointer (some ⟨x, 0, none⟩), o.val] w fun e w' => e = .returned (.bool true) ∧ Steps w w' x D G := by
  have tb := td w (Below.refl _ _)
  by_cases k1 : o.kind = 1
  · exact stepPut x D G o bd w tb h k1
  by_cases k5 : o.kind = 5
  · exact stepEden x D G o bd w tb h k5
  by_cases k4 : o.kind = 4
  · exact stepRetire x D G o bd w tb h k4
  by_cases k6 : o.kind = 6
  · exact stepRaw x D G o bd w tb h td k6
  exact stepNone x D G o bd w tb h k1 k5 k4 k6

set_option maxRecDepth 100000 in
set_option maxHeartbeats 16000000 in
theorem begin_any (c : Cfg) (th wo : Int) (h1 : I64 th) (h2 : I64 wo) (w : World) : Calls Tryd.prog 63 #[c.val, .int .i64 th, .int .i64 wo] w fun e w' => ∃ (c' : Cfg) (x a wb b rb : Nat), e = .returned (.pointer (some ⟨x, 0, none⟩)) ∧ c'.valid = true ∧ WoAt w' x w.heap.size ⟨a, wb, b, rb, (1 + amongI th 8).toNat, Ar.new c', Bu.new (1 + amongI th 8) (amongI wo 200), .slice none 0 0, []⟩ ∧ Below w.heap.size w w' := by
  obtain ⟨n0, n1⟩ := amongI_bd th (n := 8) (by decide)
  obtain ⟨s0, s1⟩ := amongI_bd wo (n := 200) (by decide)
  have AM1 := Lib.hid (fun (W : World) => among13_any th 8 W h1.1 h1.2 (by decide) (by decide))
  have AM2 := Lib.hid (fun (W : World) => among13_any wo 200 W h2.1 h2.2 (by decide) (by decide))
  generalize amongI th 8 = t at *
  generalize amongI wo 200 = s at *
  have wt : IntKind.i64.wrap (1 + t) = 1 + t := by rw [IntKind.wrap_i64]; omega
  have CF := Lib.hid (fun (W : World) => config13_any c W)
  have NA := Lib.hid (fun (c' : Cfg) (hc : c'.valid = true) (W : World) => new_yes c' W hc)
  have NB := Lib.hid (fun (W : World) => bufNew_yes (1 + t) s W (by omega) (by omega) (by omega) (by omega))
  obtain ⟨q0, q1, q2, q3, q4, q5, q6, q7, q8, q9, q10, q11, q12, q13⟩ := c
  unfold Cfg.val Cfg.cells at CF ⊢
  simp only at CF ⊢
  have hX := heap_one w (.cells #[.int .i64 q0, .int .i64 q1, .int .i64 q2, .int .i64 q3, .int .i64 q4, .int .i64 q5, .int .i64 q6, .int .i64 q7, .int .i64 q8, .int .i64 q9, .int .i64 q10, .int .i64 q11, .int .i64 q12, .int .i64 q13] 45)
  have b1 := (Below.refl w.heap.size w).alloc (Nat.le_refl _) (.cells #[.int .i64 q0, .int .i64 q1, .int .i64 q2, .int .i64 q3, .int .i64 q4, .int .i64 q5, .int .i64 q6, .int .i64 q7, .int .i64 q8, .int .i64 q9, .int .i64 q10, .int .i64 q11, .int .i64 q12, .int .i64 q13] 45)
  go_enter Tryd.func63, Tryd.ntmps63
  go_upto_region 1 with fail
  generalize w.alloc (.cells #[.int .i64 q0, .int .i64 q1, .int .i64 q2, .int .i64 q3, .int .i64 q4, .int .i64 q5, .int .i64 q6, .int .i64 q7, .int .i64 q8, .int .i64 q9, .int .i64 q10, .int .i64 q11, .int .i64 q12, .int .i64 q13] 45) = w1 at *
  obtain ⟨cX, fX⟩ := hcell hX
  go_wp2_with fail
  refine (AM1.out _).mono ?_
  rintro e w2 ⟨rfl, rfl⟩
  go_wp2_with fail
  refine (CF.out _).mono ?_
  rintro e w2 ⟨⟨p0, p1, p2, p3, p4, p5, p6, p7, p8, p9, p10, p11, p12, p13⟩, rfl, hv, hq⟩
  have b2 := b1.trans (hq.mono b1.size)
  clear cX fX hX hq CF b1
  have NA1 := Lib.hid (NA.out ⟨p0, p1, p2, p3, p4, p5, p6, p7, p8, p9, p10, p11, p12, p13⟩ hv)
  have HV := Lib.hid hv
  unfold Cfg.val Cfg.cells at NA1
  simp only at NA1
  clear NA hv
  go_wp2_with fail
  refine (NA1.out _).mono ?_
  rintro e w3 ⟨a, wb, rfl, hA, a1, a2, hq⟩
  have b3 := b2.trans (hq.mono b2.size)
  have s2 := b2.size
  clear hq b2 NA1
  go_wp2_with fail
  refine (AM2.out _).mono ?_
  rintro e w4 ⟨rfl, rfl⟩
  go_wp2_with fail
  refine (NB.out _).mono ?_
  rintro e w4 ⟨b, rb, rfl, hB, c1, c2, hq⟩
  have hA4 := hA.below hq
  have b4 := b3.trans (hq.mono b3.size)
  have s3 := b3.size
  have ap := Apart.of (lt_of_heap hA.st) (lt_of_heap hA.ws) c1 c2
  clear hq b3 NB hA
  have hW := heap_one w4 (.cells #[.pointer (some ⟨a, 0, none⟩), .pointer (some ⟨b, 0, none⟩), .int .i64 (1 + t), .slice none 0 0] 96)
  have hN := (Below.refl w4.heap.size w4).alloc (Nat.le_refl _) (.cells #[.pointer (some ⟨a, 0, none⟩), .pointer (some ⟨b, 0, none⟩), .int .i64 (1 + t), .slice none 0 0] 96)
  have b5 := b4.trans (hN.mono b4.size)
  have hB5 := hB.below hN
  have hA5 := hA4.below hN
  have s4 := b4.size
  clear hB hA4 hN b4
  go_wp2_with fail
  go_ret
  refine ⟨⟨p0, p1, p2, p3, p4, p5, p6, p7, p8, p9, p10, p11, p12, p13⟩, w4.heap.size, a, wb, b, rb, rfl, HV.out, ?_, b5⟩
  have e0 : (((1 + t).toNat : Nat) : Int) = 1 + t := by omega
  refine ⟨?_, ⟨hB5, hA5, Bu.new_ok (by omega) (by omega) (by omega) (by omega), Ar.new_ok HV.out, ap⟩, LdsAt.nil _ _ _, ⟨_, Eden.new HV.out _ _⟩, by simp [Bu.new], by omega, by show w.heap.size ≤ a; omega, by show w.heap.size ≤ wb; omega, by show w.heap.size ≤ b; omega, by show w.heap.size ≤ rb; omega⟩
  unfold Wg.cells
  simp only [e0]
  exact hW
end Go.Proofs.YtomgfdfgildkbaaDoor
/- BufferWalk: twenty worlds beside one another: words. No condition. -/

namespace Go.Proofs.YtomgfdfgildkbaaDoor
open Go.RowKit Go.BigFrame
set_option linter.unusedVariables false
structure Mz where
  x : Nat
  a : Nat
  wb : Nat
  b : Nat
  rb : Nat
def Mz.ptr (z : Mz) : Value := .pointer (some ⟨z.x, 0, none⟩)
/-- One of the worlds: new, or with one object. -/
def Mst (w : World) (z : Mz) (ph : Bool) (s r : Int) : Prop := ∃ B A free len, PairAt w z.b z.rb B z.a z.wb A ∧ (if ph then Sum2 B A s (1 + s) free len (1 + (2 + r), s - (2 + r)) (0, 0) else s ≤ free ∧ Sum2 B A s 1 free len (0, 0) (0, 0))
structure Mw (w : World) (D : Nat) (z : Mz) (ph : Bool) (s r : Int) : Prop where
  hx : w.heap[z.x]? = some (.cells #[.pointer (some ⟨z.a, 0, none⟩), .pointer (some ⟨z.b, 0, none⟩), .int .i64 2, .slice none 0 0] 96 (0, 0))
  st : Mst w z ph s r
  gx : D ≤ z.x
  ga : D ≤ z.a
  gw : D ≤ z.wb
  gb : D ≤ z.b
  gr : D ≤ z.rb
theorem Mw.keep {w w' : World} {D : Nat} {z : Mz} {ph : Bool} {s r : Int} (h : Mw w D z ph s r) (e : ∀ k cs t, w.heap[k]? = some (.cells cs t (0, 0)) → (k = z.x ∧ t = 96) ∨ (k = z.a ∧ t = 125) ∨ (k = z.wb ∧ t = 22) ∨ (k = z.b ∧ t = 129) ∨ (k = z.rb ∧ t = 132) → w'.heap[k]? = w.heap[k]?) : Mw w' D z ph s r := by
  obtain ⟨B, A, free, len, hp, hs⟩ := h.st
  exact ⟨(e _ _ _ h.hx (.inl ⟨rfl, rfl⟩)).trans h.hx, ⟨B, A, free, len, hp.keep (e _ _ _ hp.hA.st (.inr (.inl ⟨rfl, rfl⟩))) (e _ _ _ hp.hA.ws (.inr (.inr (.inl ⟨rfl, rfl⟩)))) (e _ _ _ hp.hB.st (.inr (.inr (.inr (.inl ⟨rfl, rfl⟩))))) (e _ _ _ hp.hB.rs (.inr (.inr (.inr (.inr ⟨rfl, rfl⟩))))), hs⟩, h.gx, h.ga, h.gw, h.gb, h.gr⟩
theorem Mw.below {w w' : World} {D : Nat} {z : Mz} {ph : Bool} {s r : Int} (h : Mw w D z ph s r) (hb : Below w.heap.size w w') : Mw w' D z ph s r := h.keep fun k cs t hk _ => hb.block k (lt_of_heap hk)
theorem Mw.mono {w : World} {D D' : Nat} {z : Mz} {ph : Bool} {s r : Int} (h : Mw w D z ph s r) (hd : D' ≤ D) : Mw w D' z ph s r := ⟨h.hx, h.st, by have := h.gx; omega, by have := h.ga; omega, by have := h.gw; omega, by have := h.gb; omega, by have := h.gr; omega⟩
theorem Mw.lt {w : World} {D : Nat} {z : Mz} {ph : Bool} {s r : Int} (h : Mw w D z ph s r) : z.a < w.heap.size ∧ z.wb < w.heap.size ∧ z.rb < w.heap.size := by
  obtain ⟨B, A, free, len, hp, hs⟩ := h.st
  exact ⟨lt_of_heap hp.hA.st, lt_of_heap hp.hA.ws, lt_of_heap hp.hB.rs⟩
def sOf (j : Nat) : Int := 10 + (j : Int) % 7
def rOf (j : Nat) : Int := (j : Int) % 5
structure Ms (w : World) (D : Nat) (v : Value) (zs : List Mz) (m : Nat) : Prop where
  row : w.ownsRow D 89 1 v zs.length (zs.map Mz.ptr)
  each : ∀ (j : Nat) (z : Mz), zs[j]? = some z → Mw w D z (decide (j < m)) (sOf j) (rOf j)
  ap : zs.Pairwise fun y z => y.a < z.a ∧ y.wb < z.wb ∧ y.rb < z.rb
theorem Ms.nil (w : World) (D : Nat) : Ms w D (.slice none 0 0) [] 0 := ⟨World.ownsRow_nil _ _ _ _, fun j z h => by simp at h, List.Pairwise.nil⟩
theorem Ms.below {w w' : World} {D : Nat} {v : Value} {zs : List Mz} {m : Nat} (h : Ms w D v zs m) (hb : Below w.heap.size w w') : Ms w' D v zs m :=
  ⟨ownsRow_heap h.row fun k hk => hb.block k (h.row.lt k hk).2, fun j z hj => (h.each j z hj).below hb, h.ap⟩
/-- One world more, in a list that has grown. -/
theorem Ms.snoc {w w' : World} {D : Nat} {v v' : Value} {zs : List Mz} {z : Mz} (h : Ms w D v zs 0) (hz : Mw w D z false (sOf zs.length) (rOf zs.length)) (hf : ∀ (j : Nat) (y : Mz), zs[j]? = some y → y.a < z.a ∧ y.wb < z.wb ∧ y.rb < z.rb)
    (hr : w'.ownsRow D 89 1 v' (zs.length + 1) ((zs ++ [z]).map Mz.ptr)) (hk : ∀ k, k < w.heap.size → v.ownBlock ≠ some k → w'.heap[k]? = w.heap[k]?) : Ms w' D v' (zs ++ [z]) 0 := by
  have kp : ∀ (y : Mz) (ph : Bool) (s r : Int), Mw w D y ph s r → Mw w' D y ph s r := fun y ph s r hy => hy.keep fun k cs t hkk ht => hk k (lt_of_heap hkk) (fun e => by
    obtain ⟨cs2, hc2⟩ := row_blockA h.row e
    have : t ≠ 89 := by rcases ht with ⟨-, rfl⟩ | ⟨-, rfl⟩ | ⟨-, rfl⟩ | ⟨-, rfl⟩ | ⟨-, rfl⟩ <;> decide
    exact ty_neA hkk hc2 this rfl)
  refine ⟨by simpa using hr, fun j y hj => ?_, List.pairwise_append.2 ⟨h.ap, List.pairwise_singleton _ _, fun y hy y2 hy2 => ?_⟩⟩
  · rcases Nat.lt_or_ge j zs.length with c | c
    · rw [List.getElem?_append_left c] at hj
      exact kp _ _ _ _ (h.each j y hj)
    · rw [List.getElem?_append_right c] at hj
      have hj0 : j - zs.length = 0 := by
        rcases Nat.eq_zero_or_pos (j - zs.length) with e | e
        · exact e
        · rw [List.getElem?_eq_none (by simp; omega)] at hj; cases hj
      rw [hj0] at hj
      simp at hj
      subst hj
      have : j = zs.length := by omega
      subst this
      simpa using kp _ _ _ _ hz
  · simp at hy2
    subst hy2
    obtain ⟨j, hj⟩ := List.mem_iff_getElem?.1 hy
    exact hf j y hj
/-- The world number j is written alone. -/
theorem Ms.put {w w' : World} {D j : Nat} {v : Value} {zs : List Mz} {z : Mz} (h : Ms w D v zs j) (hj : zs[j]? = some z) (hO : Only [z.rb, z.a, z.wb] w w') (hst : Mst w' z true (sOf j) (rOf j)) : Ms w' D v zs (j + 1) := by
  have hz := h.each j z hj
  obtain ⟨B, A, free, len, hp, hs⟩ := hz.st
  have e1 : ∀ (k : Nat) (cs : Array Value) (t : TypeId), w.heap[k]? = some (Obj.cells cs t (0, 0)) → t ≠ 125 → t ≠ 132 → t ≠ 22 → w'.heap[k]? = w.heap[k]? := fun k cs t hk t1 t2 t3 =>
    hO.block k (lt_of_heap hk) (by
      have a1 := ty_neA hk hp.hA.st t1
      have a2 := ty_neA hk hp.hB.rs t2
      have a3 := ty_neA hk hp.hA.ws t3
      simp only [List.mem_cons, List.not_mem_nil, or_false]; omega)
  refine ⟨ownsRow_heap h.row fun k hk => ?_, fun i y hi => ?_, h.ap⟩
  · obtain ⟨cs, hc⟩ := row_blockA h.row hk
    exact e1 k _ _ hc (by decide) (by decide) (by decide)
  · by_cases hij : i = j
    · subst hij
      obtain rfl : y = z := Option.some.inj (hi.symm.trans hj)
      have : decide (i < i + 1) = true := by simp
      rw [this]
      exact ⟨(e1 _ _ _ hz.hx (by decide) (by decide) (by decide)).trans hz.hx, hst, hz.gx, hz.ga, hz.gw, hz.gb, hz.gr⟩
    · have : decide (i < j + 1) = decide (i < j) := by
        by_cases c : i < j
        · simp [c]; omega
        · simp [c]; omega
      rw [this]
      have hne : y.a ≠ z.a ∧ y.wb ≠ z.wb ∧ y.rb ≠ z.rb := by
        obtain ⟨li, ei⟩ := List.getElem?_eq_some_iff.1 hi
        obtain ⟨lj, ej⟩ := List.getElem?_eq_some_iff.1 hj
        rcases Nat.lt_or_gt_of_ne hij with c | c
        · have := List.pairwise_iff_getElem.1 h.ap i j li lj c
          rw [ei, ej] at this; omega
        · have := List.pairwise_iff_getElem.1 h.ap j i lj li c
          rw [ei, ej] at this; omega
      refine (h.each i y hi).keep fun k cs t hk ht => ?_
      refine hO.block k (lt_of_heap hk) ?_
      simp only [List.mem_cons, List.not_mem_nil, or_false]
      rcases ht with ⟨rfl, rfl⟩ | ⟨rfl, rfl⟩ | ⟨rfl, rfl⟩ | ⟨rfl, rfl⟩ | ⟨rfl, rfl⟩
      · have a1 := ty_neA hk hp.hA.st (by decide); have a2 := ty_neA hk hp.hB.rs (by decide); have a3 := ty_neA hk hp.hA.ws (by decide); omega
      · have a2 := ty_neA hk hp.hB.rs (by decide); have a3 := ty_neA hk hp.hA.ws (by decide); omega
      · have a1 := ty_neA hk hp.hA.st (by decide); have a2 := ty_neA hk hp.hB.rs (by decide); omega
      · have a1 := ty_neA hk hp.hA.st (by decide); have a2 := ty_neA hk hp.hB.rs (by decide); have a3 := ty_neA hk hp.hA.ws (by decide); omega
      · have a1 := ty_neA hk hp.hA.st (by decide); have a3 := ty_neA hk hp.hA.ws (by decide); omega
theorem Ms.ptr {w : World} {D g cap m n : Nat} {zs : List Mz} (h : Ms w D (.slice (some ⟨g, 0, none⟩) n cap) zs m) (hn : zs.length = n) {j : Nat} {z : Mz} (hj : zs[j]? = some z) : w.cell? ⟨g, j, none⟩ = some (.pointer (some ⟨z.x, 0, none⟩)) := by
  subst hn
  have hl : j < zs.length := (List.getElem?_eq_some_iff.1 hj).1
  rw [h.row.cellAt j (by omega), List.getElem?_map, hj]; rfl
/-- A world that was begun is one of them. -/
theorem Mw.begun {w : World} {D x a wb b rb : Nat} {c : Cfg} {s r : Int} (hv : c.valid = true) (h : WoAt w x D ⟨a, wb, b, rb, 2, Ar.new c, Bu.new 2 s, .slice none 0 0, []⟩) (h16 : s ≤ 16) : Mw w D ⟨x, a, wb, b, rb⟩ false s r := by
  have q := (Cfg.bd hv).e0
  exact ⟨h.hx, ⟨_, _, c.eden, c.size, h.pair, by simp; exact ⟨by omega, Sum2.new hv⟩⟩, h.gx, h.ga, h.gw, h.gb, h.gr⟩
end Go.Proofs.YtomgfdfgildkbaaDoor
/- BufferWalk: twenty worlds beside one another. No condition. -/

namespace Go.Proofs.YtomgfdfgildkbaaDoor
open Go.RowKit Go.BigFrame
set_option linter.unusedVariables false
theorem infoWp : (Tryd.prog.info? 89).map (fun i => (i.zero, i.size, i.bytes)) = some (some (.pointer none), 1, 8) := by kernel_rfl
theorem Sum2.told0 {B : Bu} {A : Ar} {sz top free len x y : Int} {r1 : Int × Int} (h : Sum2 B A sz top free len (x, y) r1) (hy : ¬ y = 0) : B.told 0 = (x, y) := by
  obtain ⟨h1, h2⟩ := h.is (t := 0) (.inl rfl)
  unfold Bu.told
  rw [h2]
  show (if B.is 0 = true ∧ ¬ y = 0 then (x, y) else (0, 0)) = (x, y)
  rw [if_pos ⟨h1, hy⟩]
set_option maxRecDepth 100000 in
set_option maxHeartbeats 8000000 in
theorem many_any (w : World) (tb : Tab w) : Calls Tryd.prog 67 #[] w fun e w' => e = .returned (.bool true) ∧ Below w.heap.size w w' := by
  have TB := Lib.hid (fun (W : World) (hb : Below w.heap.size w W) => tb.below hb)
  have SM := Lib.hid (fun (W : World) => small13_any W)
  have BG := Lib.hid (fun (wo : Int) (h2 : I64 wo) (W : World) => begin_any smallCfg 1 wo ⟨by decide, by decide⟩ h2 W)
  have PL := Lib.hid (fun (r : Int) (W : World) => plain13_any r W)
  obtain ⟨j1, hj1, hz1, hs1, hy1⟩ := info_parts infoWp
  clear tb
  go_enter Tryd.func67, Tryd.ntmps67
  go_wp2_with fail
  go_loopw [1, 2] (fun v iv wx => ∃ zs : List Mz, zs.length ≤ 20 ∧ iv = .int .i64 (zs.length : Nat) ∧ Ms wx w.heap.size v zs 0 ∧ Below w.heap.size w wx) (fun _ iv _ => 20 - (intOf iv).toNat)
  case atStart => exact ⟨[], by simp, rfl, Ms.nil _ _, Below.refl _ _⟩
  case round =>
    obtain ⟨zs, hz, rfl, hM, hb⟩ := hrel
    by_cases hlt : zs.length < 20
    · have dlt : decide ((zs.length : Int) < 20) = true := by simp; omega
      go_wp2_with fail
      refine (SM.out _).mono ?_
      rintro e w1 ⟨rfl, hq⟩
      have hM1 := hM.below hq
      have hb1 := hb.trans (hq.mono hb.size)
      clear hq hM hb
      go_wp2_with fail
      have e8 : 1 + amongI 1 8 = 2 := by decide
      have e200 : amongI (10 + (zs.length : Int) % 7) 200 = sOf zs.length := by
        unfold amongI sOf
        rw [if_neg (by omega)]
        exact Int.emod_eq_of_lt (by omega) (by omega)
      refine (BG.out _ (by constructor <;> omega) _).mono ?_
      rintro e w2 ⟨c', x, a, wb, b, rb, rfl, hv, hW, hq⟩
      rw [e8, e200] at hW
      have hM2 := hM1.below hq
      have hb2 := hb1.trans (hq.mono hb1.size)
      have hZ := (Mw.begun (s := sOf zs.length) (r := rOf zs.length) hv hW (by unfold sOf; omega)).mono hb1.size
      have hfr : ∀ (j : Nat) (y : Mz), zs[j]? = some y → y.a < a ∧ y.wb < wb ∧ y.rb < rb := fun j y hj => by
        have q := (hM1.each j y hj).lt
        have g1 := hW.ga; have g2 := hW.gw; have g3 := hW.gr
        simp only at g1 g2 g3
        omega
      have sz2 := hb2.size
      clear hq hM1 hb1 hv hW e8 e200
      have hrow := hM2.row
      go_wp2_with (at_builtin; refine wpList_append_lies _ rfl _ _ 165 rfl w.heap.size 89 j1 (.pointer none) 1 8 Tryd.underlying165 hj1 hz1 hs1 hy1 rfl (by decide) _ zs.length _ rfl (hrow.alloc _) ⟨w2.heap.size, 0, none⟩ 1 1 [.pointer (some ⟨x, 0, none⟩)] rfl rfl (cell_one_new _ _ _) (fun u hu => by simp at hu; subst hu; rfl) (by decide) (by unfold maxLen; omega) (by omega) (by simp; omega) (w2.heap.size + 1) (by simp) ?_; intro ga ka wd hown hgrow hat hlt)
      have b6 := (Below.refl w2.heap.size w2).alloc (Nat.le_refl _) (.cells #[.pointer (some ⟨x, 0, none⟩)] 89)
      have hS := hM2.snoc (w' := wd) (v' := .slice (some ⟨ga, 0, none⟩) (zs.length + 1) ka) (z := ⟨x, a, wb, b, rb⟩) hZ hfr (by simpa [Mz.ptr] using hown) (fun k hk hn => (hgrow.block k (by simp; omega) (fun e => hn e.symm)).trans (b6.block k hk))
      exact ⟨⟨zs ++ [⟨x, a, wb, b, rb⟩], by simp; omega, by simp, hS, (hb2.alloc hb2.size _).grown hgrow (by simp; omega) (fun k hk => (hrow.lt k hk).1)⟩, by simp [intOf]; omega⟩
    · have dlt : decide ((zs.length : Int) < 20) = false := by simp; omega
      have h20 : zs.length = 20 := by omega
      obtain ⟨g, cap, hgv, -, -⟩ := hM.row.form (by omega)
      subst hgv
      rw [h20] at hM
      have e20 : ((20 : Nat) : Int) = 20 := rfl
      simp only [h20, e20]
      have H20 := Lib.hid h20
      clear h20 dlt hlt hz
      go_wp2_with fail
      clear j1 hj1 hz1 hs1 hy1 BG SM
      go_loopw [4] (fun iv wx => ∃ j : Nat, j ≤ 20 ∧ iv = .int .i64 (j : Nat) ∧ Ms wx w.heap.size (.slice (some ⟨g, 0, none⟩) 20 cap) zs j ∧ Below w.heap.size w wx) (fun iv _ => 20 - (intOf iv).toNat)
      case atStart => exact ⟨0, by omega, rfl, hM, hb⟩
      case round =>
        clear hM hb
        obtain ⟨j, hj, rfl, hM, hb⟩ := hrel
        by_cases hlt2 : j < 20
        · have dlt2 : decide ((j : Int) < 20) = true := by simp; omega
          go_upto_region 12 with fail
          obtain ⟨z, hz⟩ : ∃ z, zs[j]? = some z := ⟨zs[j]'(by rw [H20.out]; exact hlt2), List.getElem?_eq_getElem _⟩
          have cg := hM.ptr H20.out hz
          have hw := hM.each j z hz
          have dj : decide (j < j) = false := by simp
          rw [dj] at hw
          obtain ⟨B, A, free, len, hp, hs⟩ := hw.st
          rw [if_neg (by decide)] at hs
          obtain ⟨hfree, hS⟩ := hs
          have jj0 : (0 : Int) ≤ (j : Int) := by omega
          have jj1 : (j : Int) < 20 := by omega
          have r0 : 0 ≤ (j : Int) % 5 := by omega
          have r1 : (j : Int) % 5 ≤ 4 := by omega
          have PU' := fun (W : World) (hb2 : Below wr.heap.size wr W) => (step_fresh z.b z.rb B z.a z.wb A 0 (plainHd ((j : Int) % 5)) W (TB.out W (hb.trans (hb2.mono hb.size))) (hp.below hb2) (plainHd_fine (by omega) (by omega)) ⟨by show (0 : Int) ≤ 1; decide, by show (1 : Int) < _; decide⟩ hS (.inl rfl) (2 + (j : Int) % 5) (by simp [plainHd]) (by show (0 : Int) < _; omega) hfree (by unfold sOf; omega)).mono (R' := fun e w' => e = .returned (.tuple #[.int .i64 1, .bool true]) ∧ Mst w' z true (sOf j) (rOf j) ∧ Only [z.rb, z.a, z.wb] wr w') fun e w' ⟨h1, ⟨B', A', h2, h3⟩, h4⟩ => ⟨h1, ⟨B', A', _, _, h2, by rw [if_pos rfl]; exact h3⟩, (Only.of_below hb2).trans h4⟩
          have PL1' := fun (W : World) => PL.out ((j : Int) % 5) W
          unfold plainHd Hd.val at PU' PL1'
          simp only at PU' PL1'
          have PU := Lib.hid PU'
          have PL1 := Lib.hid PL1'
          have hx := hw.hx
          have lg : g < wr.heap.size := World.block_lt_of_cell? wr ⟨g, j, none⟩ cg
          have nx : z.x ∉ [z.rb, z.a, z.wb] := fun hm => by
            have q1 := ty_neA hx hp.hA.st (by decide)
            have q2 := ty_neA hx hp.hA.ws (by decide)
            have q3 := ty_neA hx hp.hB.rs (by decide)
            simp only [List.mem_cons, List.not_mem_nil, or_false] at hm; omega
          have ng : g ∉ [z.rb, z.a, z.wb] := fun hm => by
            obtain ⟨cs, hc⟩ := row_blockA hM.row (k := g) rfl
            have q1 := ty_neA hc hp.hA.st (by decide)
            have q2 := ty_neA hc hp.hA.ws (by decide)
            have q3 := ty_neA hc hp.hB.rs (by decide)
            simp only [List.mem_cons, List.not_mem_nil, or_false] at hm; omega
          obtain ⟨cX, fX⟩ := hcell hx
          have cx0 : wr.cell? ⟨z.x, 0, none⟩ = some (.pointer (some ⟨z.a, 0, none⟩)) := by rw [cX]; rfl
          have cx1 : wr.cell? ⟨z.x, 1, none⟩ = some (.pointer (some ⟨z.b, 0, none⟩)) := by rw [cX]; rfl
          clear PU' PL1' hp hS hfree cX fX hx hw
          have KE := Lib.hid (fun (W : World) (hO : Only [z.rb, z.a, z.wb] wr W) => (⟨hO.cellB ng cg, hO.cellB nx cx0, hO.cellB nx cx1, hO⟩ : W.cell? ⟨g, j, none⟩ = some (.pointer (some ⟨z.x, 0, none⟩)) ∧ W.cell? ⟨z.x, 0, none⟩ = some (.pointer (some ⟨z.a, 0, none⟩)) ∧ W.cell? ⟨z.x, 1, none⟩ = some (.pointer (some ⟨z.b, 0, none⟩)) ∧ Only [z.rb, z.a, z.wb] wr W))
          go_cut [5, 6] from 29 to 50 (fun av okv wx => av = .int .i64 1 ∧ okv = .bool true ∧ Mst wx z true (sOf j) (rOf j) ∧ Only [z.rb, z.a, z.wb] wr wx)
          case first =>
            go_region_held3 (fun W => W.cell? ⟨g, j, none⟩ = some (.pointer (some ⟨z.x, 0, none⟩)) ∧ W.cell? ⟨z.x, 0, none⟩ = some (.pointer (some ⟨z.a, 0, none⟩)) ∧ W.cell? ⟨z.x, 1, none⟩ = some (.pointer (some ⟨z.b, 0, none⟩)) ∧ Only [z.rb, z.a, z.wb] wr W) ((refine KE.out _ ?_; repeat (first | (with_reducible assumption) | (with_reducible exact Only.refl _ _) | (with_reducible refine Only.drew ?_) | (with_reducible exact Only.of_below hb9)))) (first | (go_at_call 38; refine (PL1.out _).mono ?_; rintro e w' ⟨rfl, hq9⟩; have hb9 : Below wr.heap.size wr w' := (Below.refl _ _).drew.trans hq9) | (go_at_call 37; refine (PU.out _ ?_).mono ?_; exact hb9; rintro e w7 ⟨rfl, hp7, hO7⟩))
            all_goals
              go_wp2_with fail
              go_meet
              exact ⟨rfl, rfl, hp7, hO7⟩
          case rest =>
            obtain ⟨w7, rfl⟩ : ∃ W : World, W = wc := ⟨_, rfl⟩
            obtain ⟨rfl, rfl, hp7, hO7⟩ := hcut
            have hM7 := hM.put hz hO7 hp7
            have hw2 := hM.each j z hz
            have hb7 := hb.trans (hO7.below hb.size (fun k hk => by
              have g1 := hw2.gr; have g2 := hw2.ga; have g3 := hw2.gw
              simp only [List.mem_cons, List.not_mem_nil, or_false] at hk
              rcases hk with rfl | rfl | rfl <;> assumption))
            clear KE PU PL1 hM hb hO7 hp7 cg cx0 cx1
            go_wp2_with fail
            exact ⟨⟨j + 1, by omega, by simp, hM7, hb7⟩, by simp [intOf]; omega⟩
        · have dlt2 : decide ((j : Int) < 20) = false := by simp; omega
          obtain rfl : j = 20 := by omega
          simp only [e20]
          go_wp2_with fail
          go_loopw [7] (fun iv wx => ∃ i : Int, -1 ≤ i ∧ i ≤ 19 ∧ iv = .int .i64 i ∧ Below wr.heap.size wr wx) (fun iv _ => (intOf iv + 1).toNat)
          case atStart => exact ⟨19, by omega, by omega, rfl, Below.refl _ _⟩
          case round =>
            obtain ⟨i, i0, i1, rfl, hq3⟩ := hrel
            by_cases hpos : 0 ≤ i
            · obtain ⟨j, rfl⟩ := Int.eq_ofNat_of_zero_le hpos
              have dp : decide ((0 : Int) ≤ (j : Int)) = true := by simp
              have hM3 := hM.below hq3
              have hb3 := hb.trans (hq3.mono hb.size)
              obtain ⟨z, hz⟩ : ∃ z, zs[j]? = some z := ⟨zs[j]'(by rw [H20.out]; omega), List.getElem?_eq_getElem _⟩
              have cg := hM3.ptr H20.out hz
              have hw := hM3.each j z hz
              have dj : decide (j < 20) = true := by simp; omega
              rw [dj] at hw
              obtain ⟨B, A, free, len, hp, hs⟩ := hw.st
              rw [if_pos (by decide)] at hs
              have hx := hw.hx
              obtain ⟨cX, fX⟩ := hcell hx
              have t0 := hs.told0 (by unfold sOf rOf; omega)
              have tt := hs.t
              have RS' := fun (W : World) (hb2 : Below wr.heap.size wr W) => rest_any z.b z.rb B 0 W (hp.hB.below hb2) hp.okB
              have TP' := fun (W : World) (hb2 : Below wr.heap.size wr W) => top_any z.a z.wb A 1 W (hp.hA.below hb2)
              rw [tt] at TP'
              rw [t0] at RS'
              have e1 : 1 + (2 + rOf j) = 3 + (j : Int) % 5 := by unfold rOf; omega
              have e2 : sOf j - (2 + rOf j) = 10 + (j : Int) % 7 - 2 - (j : Int) % 5 := by unfold rOf sOf; omega
              have e3 : 1 + sOf j = 11 + (j : Int) % 7 := by unfold sOf; omega
              simp only [e1, e2, e3] at RS' TP'
              have RS := Lib.hid RS'
              have TP := Lib.hid TP'
              clear RS' TP' hs hp t0 tt e1 e2 e3 fX
              have hq0 := Below.refl wr.heap.size wr
              go_wp2_with fail
              refine (RS.out _ hq0).mono ?_
              rintro e w5 ⟨rfl, hb5⟩
              have cg5 := (hb5.cell (p := ⟨g, j, none⟩) (World.block_lt_of_cell? wr ⟨g, j, none⟩ cg)).trans cg
              have hx5 := (hb5.block _ (lt_of_heap hx)).trans hx
              clear cX cg hx
              obtain ⟨cX, fX⟩ := hcell hx5
              go_wp2_with fail
              refine (TP.out _ (hq0.trans hb5)).mono ?_
              rintro e w6 ⟨rfl, hb6⟩
              have hq6 := hq3.trans ((hb5.trans (hb6.mono hb5.size)).mono hq3.size)
              go_wp2_with fail
              exact ⟨⟨(j : Int) - 1, by omega, by omega, rfl, hq6⟩, by simp [intOf]⟩
            · obtain rfl : i = -1 := by omega
              go_wp2_with fail
              go_ret
              exact ⟨rfl, hb.trans (hq3.mono hb.size)⟩
end Go.Proofs.YtomgfdfgildkbaaDoor
/- The walk of BufferWalk. -/

namespace Go.Proofs.YtomgfdfgildkbaaDoor
open Go.RowKit Go.BigFrame
set_option linter.unusedVariables false
/-- A script that came in. -/
def CtsAt (w : World) (v : Value) (l : List Ct) : Prop :=
  ∃ p cap, v = .slice p l.length cap ∧ ∀ i, i < l.length → ∃ b off, p = some ⟨b, off, none⟩ ∧ ∀ j, j < 12 → w.cell? ⟨b, off + i * 12 + j, none⟩ = (l.getD i ct0).cells[j]?
theorem CtsAt.below {w w' : World} {v : Value} {l : List Ct} (h : CtsAt w v l) (hb : Below w.heap.size w w') : CtsAt w' v l := by
  obtain ⟨p, cap, hv, hc⟩ := h
  refine ⟨p, cap, hv, fun i hi => ?_⟩
  obtain ⟨b, off, hp, hx⟩ := hc i hi
  refine ⟨b, off, hp, fun j hj => ?_⟩
  have h1 := hx j hj
  have h2 : ∃ u, (l.getD i ct0).cells[j]? = some u := ⟨_, Array.getElem?_eq_getElem (show j < (l.getD i ct0).cells.size by simpa [Ct.cells] using hj)⟩
  obtain ⟨u, hu⟩ := h2
  rw [hu] at h1 ⊢
  exact (hb.cell (p := ⟨b, off + i * 12 + j, none⟩) (World.block_lt_of_cell? w ⟨b, off + i * 12 + j, none⟩ h1)).trans h1
/-- A world with so many threads and words a buffer, behind what was there. -/
def Wst (w0 : World) (x D n : Nat) (s : Int) (W : World) : Prop := ∃ G, WoAt W x D G ∧ G.n = n ∧ G.B.size = s ∧ Below D w0 W
theorem Wst.below {w0 W W' : World} {x D n : Nat} {s : Int} (h : Wst w0 x D n s W) (hb : Below W.heap.size W W') : Wst w0 x D n s W' := by
  obtain ⟨G, hW, h1, h2, h3⟩ := h
  exact ⟨G, hW.below hb, h1, h2, h3.trans (hb.mono (by have := hW.gx; have := lt_of_heap hW.hx; omega))⟩
theorem step_st {w0 : World} {x D n : Nat} {s : Int} (td : ∀ W, Below D w0 W → Tab W) (o : Ct) (bd : o.Bd) (W : World) (h : Wst w0 x D n s W) :
    Calls Tryd.prog 64 #[.pointer (some ⟨x, 0, none⟩), o.val] W fun e w' => e = .returned (.bool true) ∧ Wst w0 x D n s w' := by
  obtain ⟨G, hW, h1, h2, h3⟩ := h
  exact (step_any13 x D G o bd W (fun W' hb => td W' (h3.trans hb)) hW).mono fun e w' ⟨e1, G', g1, g2, g3, g4⟩ => ⟨e1, G', g1, g2.trans h1, g3.trans h2, h3.trans g4⟩
theorem whole_st {w0 : World} {x D n : Nat} {s : Int} (td : ∀ W, Below D w0 W → Tab W) (W : World) (h : Wst w0 x D n s W) :
    Calls Tryd.prog 65 #[.pointer (some ⟨x, 0, none⟩)] W fun e w' => e = .returned (.bool true) ∧ Wst w0 x D n s w' := by
  have h' := h
  obtain ⟨G, hW, h1, h2, h3⟩ := h
  exact (whole_any13 x D G W (td W h3) hW).mono fun e w' ⟨e1, hb⟩ => ⟨e1, h'.below hb⟩
theorem many_st {w0 : World} {x D n : Nat} {s : Int} (td : ∀ W, Below D w0 W → Tab W) (W : World) (h : Wst w0 x D n s W) :
    Calls Tryd.prog 67 #[] W fun e w' => e = .returned (.bool true) ∧ Wst w0 x D n s w' := by
  have h' := h
  obtain ⟨G, hW, h1, h2, h3⟩ := h
  exact (many_any W (td W h3)).mono fun e w' ⟨e1, hb⟩ => ⟨e1, h'.below hb⟩
def szs (Q : List Lt) : List Int := Q.map fun q => 2 + q.hd.ptrs + q.hd.raws
theorem sum_take_bd {l : List Int} (h : ∀ x ∈ l, 0 ≤ x) (k : Nat) : 0 ≤ (l.take k).sum ∧ (l.take k).sum ≤ l.sum := by
  induction l generalizing k with
  | nil => simp
  | cons a l ih =>
    have ha := h a (by simp)
    have hl : ∀ x ∈ l, 0 ≤ x := fun x hx => h x (by simp [hx])
    cases k with
    | zero =>
      have := ih hl l.length
      rw [List.take_length] at this
      simp only [List.take_zero, List.sum_nil, List.sum_cons]; omega
    | succ k => have := ih hl k; simp only [List.take_succ_cons, List.sum_cons]; omega
theorem sum_take_snoc {l : List Int} {k : Nat} {x : Int} (h : l[k]? = some x) : (l.take (k + 1)).sum = (l.take k).sum + x := by
  rw [List.take_add_one, h, List.sum_append]; simp
set_option maxRecDepth 100000 in
set_option maxHeartbeats 16000000 in
theorem bufferWalk_walk (c : Cfg) (th wo : Int) (v : Value) (l : List Ct) (w : World) (tb0 : Tab w) (h1 : I64 th) (h2 : I64 wo) (hv : CtsAt w v l) (hbd : ∀ o ∈ l, o.Bd) (hl : (l.length : Int) ≤ 9223372036854775807) : Calls Tryd.prog 12 #[c.val, .int .i64 th, .int .i64 wo, v] w fun e w' => e = .returned (.bool true) ∧ Below w.heap.size w w' := by
  have tb := Lib.hid tb0
  obtain ⟨n0, n1⟩ := amongI_bd th (n := 8) (by decide)
  obtain ⟨s0, s1⟩ := amongI_bd wo (n := 200) (by decide)
  have AM2 := Lib.hid (fun (W : World) => among13_any wo 200 W h2.1 h2.2 (by decide) (by decide))
  have KN := Lib.hid (fun (W : World) (hb : Below w.heap.size w W) => known13_any W (tb.out.below hb))
  have BG' := fun (W : World) => begin_any c th wo h1 h2 W
  obtain ⟨pv, cap, rfl, hcells⟩ := hv
  have HV := Lib.hid (fun (W : World) (hb : Below w.heap.size w W) => CtsAt.below ⟨pv, cap, rfl, hcells⟩ hb)
  have HBD := Lib.hid hbd
  clear tb0 hcells hbd
  generalize amongI th 8 = t at *
  generalize amongI wo 200 = s at *
  obtain ⟨q0, q1, q2, q3, q4, q5, q6, q7, q8, q9, q10, q11, q12, q13⟩ := c
  unfold Cfg.val Cfg.cells at BG' ⊢
  simp only at BG' ⊢
  have BG := Lib.hid BG'
  clear BG'
  have hX := heap_one w (.cells #[.int .i64 q0, .int .i64 q1, .int .i64 q2, .int .i64 q3, .int .i64 q4, .int .i64 q5, .int .i64 q6, .int .i64 q7, .int .i64 q8, .int .i64 q9, .int .i64 q10, .int .i64 q11, .int .i64 q12, .int .i64 q13] 45)
  have b1 := (Below.refl w.heap.size w).alloc (Nat.le_refl _) (.cells #[.int .i64 q0, .int .i64 q1, .int .i64 q2, .int .i64 q3, .int .i64 q4, .int .i64 q5, .int .i64 q6, .int .i64 q7, .int .i64 q8, .int .i64 q9, .int .i64 q10, .int .i64 q11, .int .i64 q12, .int .i64 q13] 45)
  go_enter Tryd.func12, Tryd.ntmps12
  go_upto_region 1 with fail
  generalize w.alloc (.cells #[.int .i64 q0, .int .i64 q1, .int .i64 q2, .int .i64 q3, .int .i64 q4, .int .i64 q5, .int .i64 q6, .int .i64 q7, .int .i64 q8, .int .i64 q9, .int .i64 q10, .int .i64 q11, .int .i64 q12, .int .i64 q13] 45) = w1 at *
  go_wp2_with fail
  refine (KN.out _ b1).mono ?_
  rintro e w2 ⟨rfl, hq⟩
  have hX2 := (hq.block _ (lt_of_heap hX)).trans hX
  have b2 := b1.trans (hq.mono b1.size)
  clear hX hq b1 KN
  obtain ⟨cX, fX⟩ := hcell hX2
  go_wp2_with fail
  refine (BG.out _).mono ?_
  rintro e w3 ⟨c', x, a, wb, b, rb, rfl, hc', hW, hq⟩
  have td : ∀ W, Below w2.heap.size w2 W → Tab W := fun W hb => tb.out.below (b2.trans (hb.mono b2.size))
  have S3 := Lib.hid (⟨_, hW, rfl, rfl, hq⟩ : Wst w2 x w2.heap.size (1 + t).toNat s w3)
  have ST := Lib.hid (fun (o : Ct) (bd : o.Bd) (W : World) (h : Wst w2 x w2.heap.size (1 + t).toNat s W) => step_st td o bd W h)
  have WH := Lib.hid (fun (W : World) (h : Wst w2 x w2.heap.size (1 + t).toNat s W) => whole_st td W h)
  have MA := Lib.hid (fun (W : World) (h : Wst w2 x w2.heap.size (1 + t).toNat s W) => many_st td W h)
  have BE := Lib.hid (fun (W : World) (h : Wst w2 x w2.heap.size (1 + t).toNat s W) => (by obtain ⟨G, -, -, -, hb⟩ := h; exact b2.trans (hb.mono b2.size) : Below w.heap.size w W))
  have TD := Lib.hid td
  clear td hW hq hX2 cX fX BG b2 hc'
  generalize hD : w2.heap.size = D at *
  clear hD
  obtain ⟨n, hn⟩ : ∃ n, n = (1 + t).toNat := ⟨_, rfl⟩
  rw [← hn] at S3 ST WH MA BE
  have hn8 : 1 ≤ n ∧ n ≤ 8 := by omega
  clear hn n0 n1
  go_wp2_with fail
  go_loopw [10] (fun iv wx => ∃ i : Nat, i ≤ l.length ∧ iv = .int .i64 i ∧ Wst w2 x D n s wx) (fun iv _ => l.length - (intOf iv).toNat)
  case atStart => exact ⟨0, Nat.zero_le _, rfl, S3.out⟩
  case round =>
    obtain ⟨i, hi, rfl, hS⟩ := hrel
    by_cases hlt : i < l.length
    · have dlt : decide ((i : Int) < (l.length : Int)) = true := by simpa using hlt
      obtain ⟨p', cap', he, hce⟩ := HV.out wr (BE.out _ hS)
      cases he
      obtain ⟨bb, off, rfl, hce⟩ := hce i hlt
      have hbk := HBD.out (l.getD i ct0) (by rw [List.getD_eq_getElem?_getD, List.getElem?_eq_getElem hlt]; exact List.getElem_mem hlt)
      generalize l.getD i ct0 = o at *
      have STo := Lib.hid (ST.out o hbk wr hS)
      obtain ⟨o0, o1, ⟨x0, x1, x2, x3, x4, x5, x6⟩, o3, o4, o5⟩ := o
      unfold Ct.val Ct.cells at STo
      simp only at STo
      have k0 : (0 : Int) ≤ (i : Int) := Int.natCast_nonneg _
      have k1 : (i : Int) < (l.length : Int) := by omega
      have z0 : wr.cell? ⟨bb, off + i * 12, none⟩ = some (.int .i64 o0) := hce 0 (by decide)
      have z1 : wr.cell? ⟨bb, off + i * 12 + 1, none⟩ = some (.int .i64 o1) := hce 1 (by decide)
      have z2 : wr.cell? ⟨bb, off + i * 12 + 2, none⟩ = some (.int .u64 x0) := hce 2 (by decide)
      have z3 : wr.cell? ⟨bb, off + i * 12 + 3, none⟩ = some (.int .i64 x1) := hce 3 (by decide)
      have z4 : wr.cell? ⟨bb, off + i * 12 + 4, none⟩ = some (.int .i64 x2) := hce 4 (by decide)
      have z5 : wr.cell? ⟨bb, off + i * 12 + 5, none⟩ = some (.int .i64 x3) := hce 5 (by decide)
      have z6 : wr.cell? ⟨bb, off + i * 12 + 6, none⟩ = some (.int .i64 x4) := hce 6 (by decide)
      have z7 : wr.cell? ⟨bb, off + i * 12 + 7, none⟩ = some (.int .i64 x5) := hce 7 (by decide)
      have z8 : wr.cell? ⟨bb, off + i * 12 + 8, none⟩ = some (.bool x6) := hce 8 (by decide)
      have z9 : wr.cell? ⟨bb, off + i * 12 + 9, none⟩ = some (.int .i64 o3) := hce 9 (by decide)
      have z10 : wr.cell? ⟨bb, off + i * 12 + 10, none⟩ = some (.int .i64 o4) := hce 10 (by decide)
      have z11 : wr.cell? ⟨bb, off + i * 12 + 11, none⟩ = some (.int .u64 o5) := hce 11 (by decide)
      clear hce ST
      by_cases c7 : (i : Int) % 7 = 3
      · have d7 : ((i : Int) % 7 == 3) = true := by simpa using c7
        go_wp2_with fail
        refine STo.out.mono ?_
        rintro e w9 ⟨rfl, hA9⟩
        go_wp2_with fail
        refine (WH.out _ hA9).mono ?_
        rintro e w10 ⟨rfl, hA10⟩
        go_wp2_with fail
        exact ⟨⟨i + 1, by omega, by go_num, hA10⟩, by simp [intOf]; omega⟩
      · have d7 : ((i : Int) % 7 == 3) = false := by simpa using c7
        go_wp2_with fail
        refine STo.out.mono ?_
        rintro e w9 ⟨rfl, hA9⟩
        go_wp2_with fail
        exact ⟨⟨i + 1, by omega, by go_num, hA9⟩, by simp [intOf]; omega⟩
    · have dlt : decide ((i : Int) < (l.length : Int)) = false := by simpa using hlt
      clear HV HBD ST S3
      go_wp2_with fail
      refine (AM2.out _).mono ?_
      rintro e w9 ⟨rfl, rfl⟩
      go_upto_if 49 with fail
      obtain ⟨wA, rfl⟩ : ∃ W : World, W = wr := ⟨_, rfl⟩
      go_cut [] from 50 (fun wx => Wst w2 x D n s wx)
      case first =>
        by_cases hs0 : s = 0
        · subst hs0
          have e00 : ((0 : Int) == 0) = true := rfl
          simp only [e00]
          have hS' := Lib.hid hS
          obtain ⟨G, hW, hn', hs', hbG⟩ := hS
          obtain ⟨Ls, E⟩ := hW.eden
          have okA := hW.pair.okA
          have hsum := E.sum hs'
          have hql := E.len okA
          have tz := (okA.top_le 1).2.2
          have LI := Lib.hid (fun (q : Lt) (hq : q ∈ G.Q) => (E.lies okA hq).fine)
          have hx := hW.hx
          have HX := Lib.hid (fun (W : World) (hb : Below wA.heap.size wA W) => hcell ((hb.block _ (lt_of_heap hx)).trans hx))
          have HL := Lib.hid (fun (W : World) (hb : Below wA.heap.size wA W) => hW.lds.below hb)
          have TP := Lib.hid (fun (W : World) (hb : Below wA.heap.size wA W) => top_any G.a G.wb G.A 1 W (hW.pair.hA.below hb))
          obtain ⟨pw, cw, hvw⟩ := row_sl hW.lds.row
          clear E okA hx hbG hn' hs' hW
          unfold Wg.cells at HX
          generalize G.A.top 1 = tp at *
          generalize G.Q = Q at *
          generalize G.a = ga at *
          generalize G.b = gb at *
          generalize G.v = vv at *
          generalize G.n = gn at *
          generalize G.wb = gw at *
          subst hvw
          have hsz : tp = 1 + (szs Q).sum := hsum
          have SB := Lib.hid (fun (k : Nat) => sum_take_bd (l := szs Q) (fun y hy => by
            obtain ⟨q, hq, rfl⟩ := List.mem_map.1 hy
            have f := LI.out q hq
            have := f.p0; have := f.r0; omega) k)
          clear hsum
          go_wp2_with fail
          go_loopw [11, 12] (fun sv iv wx => ∃ k : Nat, k ≤ Q.length ∧ iv = .int .i64 k ∧ sv = .int .i64 ((szs Q).take k).sum ∧ Below wA.heap.size wA wx) (fun _ iv _ => Q.length - (intOf iv).toNat)
          case atStart => exact ⟨0, Nat.zero_le _, rfl, by simp, Below.refl _ _⟩
          case round =>
            obtain ⟨k, hk, rfl, rfl, hbk⟩ := hrel
            obtain ⟨cX, fX⟩ := HX.out wr hbk
            have sb := SB.out k
            by_cases hlk : k < Q.length
            · have dlk : decide ((k : Int) < (Q.length : Int)) = true := by simpa using hlk
              have hTr := HL.out wr hbk
              obtain ⟨g, cap', e1⟩ := hTr.form (by omega)
              cases e1
              have zc := fun j (hj : j < 9) => hTr.cell (i := k) hlk hj
              have hm := lt_mem hlk
              have hge : (szs Q)[k]? = some (2 + (Q.getD k lt0).hd.ptrs + (Q.getD k lt0).hd.raws) := by
                unfold szs
                rw [List.getElem?_map, List.getD_eq_getElem?_getD, List.getElem?_eq_getElem hlk]; rfl
              have hsn := sum_take_snoc hge
              have sb2 := SB.out (k + 1)
              have f := LI.out _ hm
              clear hge hm
              generalize Q.getD k lt0 = q at *
              obtain ⟨qat, ⟨y0, y1, y2, y3, y4, y5, y6⟩, rs, rb⟩ := q
              have p0 : 0 ≤ y2 := f.p0
              have p1 : y2 ≤ 4095 := f.p1
              have r0 : 0 ≤ y3 := f.r0
              have r1 : y3 ≤ 65535 := f.r1
              simp only at hsn
              rw [hsn] at sb2
              have k0 : (0 : Int) ≤ (k : Int) := Int.natCast_nonneg _
              have k1 : (k : Int) < (Q.length : Int) := by omega
              have c0 : wr.cell? ⟨g, k * 9 + 1, none⟩ = some (.int .u64 y0) := zc 1 (by decide)
              have c1 : wr.cell? ⟨g, k * 9 + 2, none⟩ = some (.int .i64 y1) := zc 2 (by decide)
              have c2 : wr.cell? ⟨g, k * 9 + 3, none⟩ = some (.int .i64 y2) := zc 3 (by decide)
              have c3 : wr.cell? ⟨g, k * 9 + 4, none⟩ = some (.int .i64 y3) := zc 4 (by decide)
              have c4 : wr.cell? ⟨g, k * 9 + 5, none⟩ = some (.int .i64 y4) := zc 5 (by decide)
              have c5 : wr.cell? ⟨g, k * 9 + 6, none⟩ = some (.int .i64 y5) := zc 6 (by decide)
              have c6 : wr.cell? ⟨g, k * 9 + 7, none⟩ = some (.bool y6) := zc 7 (by decide)
              have SZ := Lib.hid (fun (W : World) => size13_any y0 y1 y2 y3 y4 y5 y6 W p0 (by omega) r0 (by omega))
              generalize hSk : ((szs Q).take k).sum = Sk at *
              have wS : IntKind.i64.wrap (Sk + (2 + y2 + y3)) = Sk + (2 + y2 + y3) := by rw [IntKind.wrap_i64]; omega
              clear zc hTr f
              go_wp2_with fail
              refine (SZ.out _).mono ?_
              rintro e w9 ⟨rfl, hq9⟩
              have hb9 := hbk.trans (hq9.mono hbk.size)
              clear cX fX
              go_wp2_with fail
              exact ⟨⟨k + 1, by omega, by go_num, by rw [hsn], hb9⟩, by simp [intOf]; omega⟩
            · have dlk : decide ((k : Int) < (Q.length : Int)) = false := by simpa using hlk
              obtain rfl : k = Q.length := by omega
              have hl2 : (szs Q).take Q.length = szs Q := by
                have : (szs Q).length = Q.length := by simp [szs]
                rw [← this, List.take_length]
              rw [hl2]
              rw [hl2] at sb
              have wS : IntKind.i64.wrap (1 + (szs Q).sum) = 1 + (szs Q).sum := by rw [IntKind.wrap_i64]; omega
              go_wp2_with fail
              refine (TP.out _ hbk).mono ?_
              rintro e w9 ⟨rfl, hq9⟩
              subst hsz
              go_wp2_with fail
              go_meet
              exact hS'.out.below (hbk.trans (hq9.mono hbk.size))
        · have ds : (s == 0) = false := by simpa using hs0
          go_wp2_with fail
          go_meet
          exact hS
      case rest =>
        clear hS
        obtain ⟨w5, rfl⟩ : ∃ W : World, W = wc := ⟨_, rfl⟩
        have hS := hcut
        go_wp2_with fail
        refine (WH.out _ hS).mono ?_
        rintro e w6 ⟨rfl, hS6⟩
        go_wp2_with fail
        refine (MA.out _ hS6).mono ?_
        rintro e w7 ⟨rfl, hS7⟩
        clear hcut hS hS6 MA
        go_upto_region 21 with fail
        obtain ⟨G, hW, hn', hs', hbG⟩ := hS7
        obtain ⟨Ls, E⟩ := hW.eden
        have RE := Lib.hid (fun (W : World) (hb : Below w7.heap.size w7 W) => (pair_reB (.pointer (some ⟨G.a, 0, none⟩)) (hW.pair.below hb)).mono (R' := fun e w' => e = .returned (.tuple #[]) ∧ PairAt w' G.b G.rb G.B.retire G.a G.wb G.A ∧ Only [G.b, G.rb, G.a, G.wb] w7 w') fun e w' ⟨h1, h2, h3⟩ => ⟨h1, h2, (Only.of_below hb).trans h3⟩)
        have nx := hW.pre.xn4
        obtain ⟨cX, fX⟩ := hcell hW.hx
        have cx0 : w7.cell? ⟨x, 0, none⟩ = some (.pointer (some ⟨G.a, 0, none⟩)) := by rw [cX]; rfl
        have cx1 : w7.cell? ⟨x, 1, none⟩ = some (.pointer (some ⟨G.b, 0, none⟩)) := by rw [cX]; rfl
        have KE := Lib.hid (fun (W : World) (hO : Only [G.b, G.rb, G.a, G.wb] w7 W) => (⟨hO.cellB nx cx0, hO.cellB nx cx1, hO⟩ : W.cell? ⟨x, 0, none⟩ = some (.pointer (some ⟨G.a, 0, none⟩)) ∧ W.cell? ⟨x, 1, none⟩ = some (.pointer (some ⟨G.b, 0, none⟩)) ∧ Only [G.b, G.rb, G.a, G.wb] w7 W))
        clear cX fX
        go_cut [] from 85 to 94 (fun wx => ∃ G', WoAt wx x D G' ∧ G'.n = n ∧ G'.B.size = s ∧ (∀ u, G'.B.told u = (0, 0)) ∧ Below D w2 wx)
        case first =>
          go_region_held3 (fun W => W.cell? ⟨x, 0, none⟩ = some (.pointer (some ⟨G.a, 0, none⟩)) ∧ W.cell? ⟨x, 1, none⟩ = some (.pointer (some ⟨G.b, 0, none⟩)) ∧ Only [G.b, G.rb, G.a, G.wb] w7 W) ((refine KE.out _ ?_; repeat (first | (with_reducible assumption) | (with_reducible exact Only.refl _ _) | (with_reducible refine Only.drew ?_)))) (first | (go_at_call 68; refine (RE.out _ ?_).mono ?_; (first | exact (Below.refl _ _).drew | exact (Below.refl _ _)); rintro e w8 ⟨rfl, hp8, hO8⟩))
          all_goals
            have P8 := hW.pre.turn4 hp8 hO8 (by simp [Bu.retire])
            have hb8 := hbG.trans (Only.below4 hW.pre hO8)
            go_wp2_with fail
            go_meet
            exact ⟨_, WoAt.ofPre P8 ⟨Ls, E.retire⟩, hn', hs', fun u => by show G.B.retire.told u = (0, 0); unfold Bu.told; rw [Bu.retire_rest]; split <;> rfl, hb8⟩
        case rest =>
          clear KE RE cx0 cx1 nx E hW hn' hs' hbG
          obtain ⟨w8, rfl⟩ : ∃ W : World, W = wc := ⟨_, rfl⟩
          obtain ⟨G', hW, hn', hs', hz, hbG⟩ := hcut
          have hS8 := Lib.hid (⟨G', hW, hn', hs', hbG⟩ : Wst w2 x D n s w8)
          have hx := hW.hx
          have HX := Lib.hid (fun (W : World) (hb : Below w8.heap.size w8 W) => hcell ((hb.block _ (lt_of_heap hx)).trans hx))
          have RC' := fun (u : Int) (W : World) (hb : Below w8.heap.size w8 W) => rest_any G'.b G'.rb G'.B u W (hW.pair.hB.below hb) hW.pair.okB
          unfold Wg.cells at HX
          simp only [hz] at RC'
          rw [hn'] at HX
          have RC := Lib.hid RC'
          clear RC' hx hW hn' hs' hz hbG
          generalize G'.b = gb at *
          generalize G'.a = ga at *
          generalize G'.v = gv at *
          go_wp2_with fail
          go_loopw [13] (fun iv wx => ∃ u : Nat, u ≤ n ∧ iv = .int .i64 u ∧ Below w8.heap.size w8 wx) (fun iv _ => n - (intOf iv).toNat)
          case atStart => exact ⟨0, Nat.zero_le _, rfl, Below.refl _ _⟩
          case round =>
            obtain ⟨u, hu, rfl, hbu⟩ := hrel
            obtain ⟨cX, fX⟩ := HX.out wr hbu
            by_cases hlu : u < n
            · have dlu : decide ((u : Int) < (n : Int)) = true := by simpa using hlu
              go_wp2_with fail
              refine (RC.out _ _ hbu).mono ?_
              rintro e w9 ⟨rfl, hq9⟩
              have hb9 := hbu.trans (hq9.mono hbu.size)
              go_wp2_with fail
              exact ⟨⟨u + 1, by omega, by go_num, hb9⟩, by simp [intOf]; omega⟩
            · have dlu : decide ((u : Int) < (n : Int)) = false := by simpa using hlu
              go_wp2_with fail
              refine (WH.out _ (Wst.below hS8.out hbu)).mono ?_
              rintro e w9 ⟨rfl, hS9⟩
              go_wp2_with fail
              go_ret
              exact ⟨rfl, BE.out _ hS9⟩
end Go.Proofs.YtomgfdfgildkbaaDoor
