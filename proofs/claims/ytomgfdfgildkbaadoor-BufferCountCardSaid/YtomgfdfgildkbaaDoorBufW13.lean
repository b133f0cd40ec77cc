/- The walk of the law BufferCount. -/
import Derived.Test.YtomgfdfgildkbaaDoorBufW12
namespace Go.Proofs.YtomgfdfgildkbaaDoor
open Go.RowKit Go.BigFrame

def bigCfg : Cfg := { smallCfg with eden := 2000 }
theorem bigCfg_valid : bigCfg.valid = true := by decide
theorem bigCfg_val : bigCfg.val = .agg #[.int .i64 2000, .int .i64 64, .int .i64 64, .int .i64 64, .int .i64 0, .int .i64 1, .int .i64 1, .int .i64 50, .int .i64 1, .int .i64 2, .int .i64 1, .int .i64 0, .int .i64 0, .int .i64 1] := rfl
theorem smallCfg_val : smallCfg.val = .agg #[.int .i64 64, .int .i64 64, .int .i64 64, .int .i64 64, .int .i64 0, .int .i64 1, .int .i64 1, .int .i64 50, .int .i64 1, .int .i64 2, .int .i64 1, .int .i64 0, .int .i64 0, .int .i64 1] := rfl
theorem wrap_id {a : Int} (h0 : -9223372036854775808 ≤ a) (h1 : a < 9223372036854775808) : IntKind.i64.wrap a = a := by rw [IntKind.wrap_i64]; omega
def toldOf (r : Int × Int) : Int × Int := if r.2 = 0 then (0, 0) else r
theorem Sum2.told {B : Bu} {A : Ar} {sz top free len : Int} {r0 r1 : Int × Int} (h : Sum2 B A sz top free len r0 r1) : B.told 1 = toldOf r1 := by
  obtain ⟨h1, h2⟩ := h.is (t := 1) (.inr rfl)
  unfold Bu.told toldOf
  rw [h1, h2]
  by_cases c : r1.2 = 0 <;> simp [pick2, c]
theorem toldOf_2 (r : Int × Int) : (toldOf r).2 = r.2 := by unfold toldOf; split <;> simp_all
theorem cnt_zero {each : Int} (h : 1 ≤ each) : cntB each 0 = 0 := by unfold cntB; exact Int.ediv_eq_zero_of_lt (by omega) (by omega)
set_option maxRecDepth 100000 in
set_option maxHeartbeats 4000000 in
theorem bufferCount_walk (words raws k : Int) (w : World) (tb : Tab w) (hw : -9223372036854775808 ≤ words ∧ words < 9223372036854775808) (hr : -9223372036854775808 ≤ raws ∧ raws < 9223372036854775808) (hk : -9223372036854775808 ≤ k ∧ k < 9223372036854775808) :
    Calls Tryd.prog 7 #[.int .i64 words, .int .i64 raws, .int .i64 k] w fun e w' => e = .returned (.bool true) ∧ Below w.heap.size w w' := by
  have KN := Lib.hid (known13_any w tb)
  have SM := Lib.hid (fun w => small13_any w)
  have NA := Lib.hid (fun w => new_yes bigCfg w bigCfg_valid)
  rw [smallCfg_val] at SM
  rw [bigCfg_val] at NA
  have NB := Lib.hid (fun s w => bufNew_yes 2 s w (by decide) (by decide))
  have AM1 := Lib.hid (fun w => among13_any raws 20 w hr.1 hr.2 (by decide) (by decide))
  have AM2 := Lib.hid (fun w => among13_any words 60 w hw.1 hw.2 (by decide) (by decide))
  have AM3 := Lib.hid (fun w => among13_any k 20 w hk.1 hk.2 (by decide) (by decide))
  obtain ⟨r0, r1⟩ := among_bd (a := raws) (n := 20) (by decide)
  obtain ⟨m0, m1⟩ := among_bd (a := words) (n := 60) (by decide)
  obtain ⟨k0, k1⟩ := among_bd (a := k) (n := 20) (by decide)
  generalize amongI raws 20 = r at *
  generalize amongI words 60 = m at *
  generalize amongI k 20 = kk at *
  have PL := Lib.hid (fun r w => plain13_any r w)
  have FR := Lib.hid @step_fresh
  have SK := Lib.hid @step_k
  have RS := Lib.hid @rest_any
  have TP := Lib.hid @top_any
  have FINE := Lib.hid (fun (r : Int) (h0 : 0 ≤ r) (h1 : r ≤ 65535) => plainHd_fine h0 h1)
  have T0 := Lib.hid (fun w' (hb : Below w.heap.size w w') => tb.below hb)
  have ONLY := Lib.hid (fun (w1 w2 : World) (rb a wb : Nat) (hb : Below w.heap.size w w1) (h1 : w.heap.size ≤ rb) (h2 : w.heap.size ≤ a) (h3 : w.heap.size ≤ wb) (ho : Only [rb, a, wb] w1 w2) => Only.tab hb h1 h2 h3 ho)
  clear tb hw hr hk
  go_enter Tryd.func7, Tryd.ntmps7
  go_wp2_with fail
  refine KN.out.mono ?_
  rintro e w1 ⟨rfl, hb1⟩
  clear KN
  go_wp2_with fail
  refine (SM.out _).mono ?_
  rintro e w2 ⟨rfl, hb⟩
  have hb2 := hb1.trans (hb.mono hb1.size)
  clear hb hb1 SM w1
  go_wp2_with fail
  refine (NA.out _).mono ?_
  rintro e w3 ⟨a, wb, rfl, hA, a1, a2, hb⟩
  have hbA := hb2.alloc hb2.size (.cells #[.int .i64 2000, .int .i64 64, .int .i64 64, .int .i64 64, .int .i64 0, .int .i64 1, .int .i64 1, .int .i64 50, .int .i64 1, .int .i64 2, .int .i64 1, .int .i64 0, .int .i64 0, .int .i64 1] 45)
  have hb3 := hbA.trans (hb.mono hbA.size)
  replace a1 := Nat.le_trans hbA.size a1
  replace a2 := Nat.le_trans hbA.size a2
  clear hb hbA hb2 NA
  go_wp2_with fail
  refine (AM1.out _).mono ?_
  rintro e w4 ⟨rfl, rfl⟩
  go_wp2_with fail
  refine (AM2.out _).mono ?_
  rintro e w4 ⟨rfl, rfl⟩
  go_wp2_with fail
  refine (AM3.out _).mono ?_
  rintro e w4 ⟨rfl, rfl⟩
  clear AM1 AM2 AM3
  go_wp2_with fail
  obtain ⟨n, hn⟩ : ∃ n, 2 + r = n := ⟨_, rfl⟩
  rw [hn]
  obtain ⟨wd, hwd⟩ : ∃ wd, n + m = wd := ⟨_, rfl⟩
  rw [hwd]
  have n2 : 2 ≤ n := by omega
  have n21 : n ≤ 21 := by omega
  have w0 : n ≤ wd := by omega
  have w1 : wd ≤ n + 59 := by omega
  clear hn hwd r0 r1 m0 m1
  refine (NB.out _ _ (by omega) (by omega)).mono ?_
  rintro e w4 ⟨b, rb, rfl, hB, b1, b2, hb⟩
  obtain ⟨B, A, hP, hS⟩ : ∃ B A, PairAt w4 b rb B a wb A ∧ Sum2 B A wd 1 2000 2193 (0, 0) (0, 0) := ⟨_, _, PairAt.first bigCfg_valid (by omega) (by omega) hA hB b1 b2 hb, Sum2.new bigCfg_valid⟩
  have hb4 := hb3.trans (hb.mono hb3.size)
  replace b1 := Nat.le_trans hb3.size b1
  replace b2 := Nat.le_trans hb3.size b2
  clear hb hb3 hA hB NB w3
  go_wp2_with fail
  refine (PL.out _ _).mono ?_
  rintro e w3 ⟨rfl, hb⟩
  replace hP := hP.below hb
  have hb3 := hb4.trans (hb.mono hb4.size)
  clear hb hb4 w4
  go_wp2_with fail
  refine (FR.out b rb B a wb A 1 (plainHd (n - 2)) w3 (T0.out _ hb3) hP (FINE.out _ (by omega) (by omega)) (by simp [plainHd]) hS (.inr rfl) n (by simp [plainHd]; omega) (by show (0 : Int) < n; omega) (by omega) (by omega)).mono ?_
  rintro e w4 ⟨rfl, ⟨B1, A1, hP1, hS1⟩, ho⟩
  have hb4 := ONLY.out _ _ _ _ _ hb3 b2 a1 a2 ho
  replace hS1 : Sum2 B1 A1 wd (1 + wd) (2000 - wd) 2193 (0, 0) (1 + n, wd - n) := hS1
  have tl := hS1.told
  have t2 := toldOf_2 (1 + n, wd - n)
  simp only at t2
  clear hP hS ho hb3 w3 B A
  go_wp2_with fail
  have R1 := RS.out b rb B1 1 w4 hP1.hB hP1.okB
  rw [tl, t2] at R1
  have TL := Lib.hid (fun (B : Bu) (A : Ar) (free top : Int) (r0 : Int × Int) (h : Sum2 B A wd top free 2193 r0 (1 + n, wd - n)) => h.told)
  have HT2 := Lib.hid t2
  clear t2
  generalize hq : toldOf (1 + n, wd - n) = q at *
  clear hq
  refine R1.mono ?_
  rintro e w3 ⟨rfl, hb⟩
  replace hP1 := hP1.below hb
  have hb3 := hb4.trans (hb.mono hb4.size)
  clear hb hb4 R1 tl w4
  have hn0 : (n == 0) = false := by simp; omega
  go_upto_region 17 with fail
  obtain ⟨e1, en, en2⟩ := each_ok n2 w0
  have e3 : wd / n ≤ wd := Int.ediv_le_self _ (by omega)
  obtain ⟨each, he⟩ : ∃ each, wd / n = each := ⟨_, rfl⟩
  rw [he] at e1 en en2 e3 ⊢
  clear he
  have cok : CntOk n wd each kk := ⟨n2, n21, w0, w1, e1, en, en2, by omega⟩
  have z0 := cnt_zero e1
  have COK := Lib.hid cok
  have hstart : Sum2 B1 A1 wd (1 + wd + cntB each 0 * wd) (2000 - wd - cntB each 0 * wd) 2193 (rstB n wd each 0) (1 + n, wd - n) := by
    rw [z0]
    rw [show 1 + wd + 0 * wd = 1 + wd by omega, show 2000 - wd - 0 * wd = 2000 - wd by omega]
    exact hS1
  clear hS1 FR z0 cok
  have he0 : (each == 0) = false := by simp; omega
  go_wp2_with fail
  go_loopw [18] (fun i wx => ∃ (k : Int) (B : Bu) (A : Ar), 0 ≤ k ∧ k ≤ kk ∧ i = .int .i64 k ∧ PairAt wx b rb B a wb A ∧ Sum2 B A wd (1 + wd + cntB each k * wd) (2000 - wd - cntB each k * wd) 2193 (rstB n wd each k) (1 + n, wd - n) ∧ Below w.heap.size w wx) (fun i _ => (kk - intOf i).toNat)
  case atStart => exact ⟨0, B1, A1, by omega, by omega, rfl, hP1, hstart, hb3⟩
  case round =>
    obtain ⟨k, B, A, i0, i1, rfl, hP, hS, hb⟩ := hrel
    by_cases hlt : k < kk
    · go_wp2_with fail
      refine (PL.out _ _).mono ?_
      rintro e w4 ⟨rfl, hq⟩
      replace hP := hP.below hq
      replace hb := hb.trans (hq.mono hb.size)
      clear hq
      have SK1 := SK.out b rb B a wb A n wd each kk k w4 (T0.out _ hb) hP COK.out i0 hlt hS
      unfold adrB at SK1
      obtain ⟨d0, d1, d2, d3, d4⟩ := dm e1 i0
      have qw : k / each * wd ≤ 18 * 80 := Int.mul_le_mul (by omega) (by omega) (by omega) (by omega)
      have qw0 : 0 ≤ k / each * wd := Int.mul_nonneg d0 (by omega)
      have rn : k % each * n ≤ each * n := Int.mul_le_mul_of_nonneg_right (by omega) (by omega)
      have rn0 : 0 ≤ k % each * n := Int.mul_nonneg d1 (by omega)
      clear hS hP d3
      go_wp2_with fail
      refine SK1.mono ?_
      rintro e w5 ⟨rfl, ⟨B2, A2, hP2, hS2⟩, ho⟩
      replace hb := ONLY.out _ _ _ _ _ hb b2 a1 a2 ho
      clear SK1 ho w4
      go_upto_region 21 with fail
      go_quiet (fail)
      go_wp2_with fail
      exact ⟨⟨k + 1, B2, A2, by omega, by omega, rfl, hP2.below (below_drewN (Below.refl _ _) _), hS2, below_drewN hb _⟩, by simp [intOf]; omega⟩
    · obtain rfl : k = kk := by omega
      have tl := TL.out _ _ _ _ _ hS
      have tt := hS.t
      have R1 := RS.out b rb B 1 wr hP.hB hP.okB
      rw [tl, HT2.out] at R1
      obtain ⟨d0, d1, d2, d3, d4⟩ := dm (i := k + each - 1) e1 (by omega)
      have cb : cntB each k ≤ 19 := by
        unfold cntB
        have h19 : (k + each - 1) / each < 20 := Int.ediv_lt_of_lt_mul (by omega) (by omega)
        omega
      have qw : (k + each - 1) / each * wd ≤ 19 * 80 := Int.mul_le_mul cb (by omega) (by omega) (by omega)
      have qw0 : 0 ≤ (k + each - 1) / each * wd := Int.mul_nonneg d0 (by omega)
      have TP1 := Lib.hid (fun w' (hq : Below wr.heap.size wr w') => (TP.out a wb A 1 w' (hP.hA.below hq)))
      rw [tt] at TP1
      unfold cntB at TP1
      clear tl tt hS d3 SK PL TL HT2 TP RS
      go_wp2_with fail
      refine R1.mono ?_
      rintro e w5 ⟨rfl, hq⟩
      clear R1
      have hq0 := Lib.hid (fun (W : World) (hb : Below wr.heap.size wr W) => hb)
      go_upto_region 24 with fail
      have TP2 := Lib.hid (fun W' (hb : Below wr.heap.size wr W') => (TP1.out W' hb).mono (R' := fun e w' => e = .returned (.int .i64 (1 + wd + (k + each - 1) / each * wd)) ∧ Below wr.heap.size wr w') fun e w' ⟨h1, h2⟩ => ⟨h1, hb.trans (h2.mono hb.size)⟩)
      clear TP1
      have f1 : IntKind.i64.wrap (k + each) = k + each := wrap_id (by omega) (by omega)
      have f2 : IntKind.i64.wrap (k + each - 1) = k + each - 1 := wrap_id (by omega) (by omega)
      have f3 : IntKind.i64.wrap ((k + each - 1).tdiv each) = (k + each - 1) / each := by rw [Int.tdiv_eq_ediv_of_nonneg (by omega)]; exact wrap_id (by omega) (by omega)
      have f4 : ¬ each = 0 := by omega
      have f5 : IntKind.i64.wrap ((k + each - 1) / each * wd) = (k + each - 1) / each * wd := wrap_id (by omega) (by omega)
      have f6 : IntKind.i64.wrap (1 + wd) = 1 + wd := wrap_id (by omega) (by omega)
      have f7 : IntKind.i64.wrap (1 + wd + (k + each - 1) / each * wd) = 1 + wd + (k + each - 1) / each * wd := wrap_id (by omega) (by omega)
      have f8 : IntKind.i64.wrap (wd - n) = wd - n := wrap_id (by omega) (by omega)
      go_cut [6] (fun s wx => s = .bool true ∧ Below wr.heap.size wr wx)
      case first =>
        go_region_held3 (fun W => Below wr.heap.size wr W) (first | exact hq0.out _ hq.drew | exact hq0.out _ hq | exact hq0.out _ (by assumption)) (first | (go_at_call 40; refine (TP2.out _ ?_).mono ?_; (first | assumption | exact hq.drew); rintro e w' ⟨rfl, hb9⟩))
        all_goals
          go_wp2_with fail
          go_meet
          exact ⟨rfl, by assumption⟩
      case rest =>
        obtain ⟨rfl, hb9⟩ := hcut
        go_wp2_with fail
        go_ret
        exact ⟨rfl, hb.trans (hb9.mono hb.size)⟩
end Go.Proofs.YtomgfdfgildkbaaDoor
