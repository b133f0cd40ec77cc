/- The walk of the law BufferMakes, over the seat without tables. -/
import Derived.Test.YtlmmobihnnhkfaaBufW1
namespace Go.Proofs.Ytlmmobihnnhkfaa
open Go.RowKit Go.BigFrame

def sCfg : Cfg := ⟨64, 64, 64, 64, 0, 1, 1, 50, 1, 2, 1, 0, 0, 1⟩
theorem sCfg_valid : sCfg.valid = true := by decide
theorem new_ok {c : Cfg} (h : c.valid = true) : (Ar.new c).Ok := by
  obtain ⟨e0, e1, s0, s1, t0, t1⟩ := Cfg.bd h
  refine ⟨h, ?_, ?_, ?_, ?_, ?_, ?_, ?_, ?_, ?_, ?_, Or.inl rfl⟩
  · simp [Ar.new, Cfg.size]; omega
  · intro x hx; simp [Ar.new] at hx; rw [hx.2]; decide
  all_goals (simp [Ar.new]; try omega)
theorem smallCfg_any (w : World) : Calls Try.prog 24 #[] w fun e w' => e = .returned sCfg.val ∧ Below w.heap.size w w' := by
  unfold Cfg.val Cfg.cells sCfg
  simp only
  go_enter Try.func24, Try.ntmps24
  go_wp2
  exact bodyPost_ret (v := .agg #[.int .i64 64, .int .i64 64, .int .i64 64, .int .i64 64, .int .i64 0, .int .i64 1, .int .i64 1, .int .i64 50, .int .i64 1, .int .i64 2, .int .i64 1, .int .i64 0, .int .i64 0, .int .i64 1]) (by simp [results, Try.results24, go_sem]) rfl ⟨rfl, (Below.refl _ _).alloc (Nat.le_refl _) _⟩
theorem buNew_ok {n s : Int} (h1 : 1 ≤ n) (h2 : n ≤ 8) (h3 : 0 ≤ s) (h4 : s ≤ 65536) : (Bu.new n s).Ok := by
  refine ⟨?_, ?_, h3, h4⟩ <;> simp [Bu.new] <;> omega
theorem buNew_rest (n s t : Int) : (Bu.new n s).rest t = (0, 0) := by
  unfold Bu.rest Bu.new
  split
  · rw [List.getD_eq_getElem?_getD]
    by_cases c : t.toNat < n.toNat
    · simp [c]
    · rw [List.getElem?_eq_none (by simp; omega)]; rfl
  · rfl
theorem buNew_told (n s t : Int) : (Bu.new n s).told t = (0, 0) := by
  unfold Bu.told; rw [buNew_rest]; simp

set_option maxHeartbeats 1000000 in
theorem bufferMakes_walk (n s t : Int) (w : World) :
    Calls Try.prog 13 #[.int .i64 n, .int .i64 s, .int .i64 t] w fun e w' => e = .returned (.bool true) ∧ Below w.heap.size w w' := by
  by_cases f : 1 ≤ n ∧ n ≤ 8 ∧ 0 ≤ s ∧ s ≤ 65536
  · obtain ⟨f1, f2, f3, f4⟩ := f
    have N := Lib.hid (fun W => bufNew_yes n s W f1 f2 f3 f4)
    have C := Lib.hid smallCfg_any
    have A := Lib.hid (fun W => new_yes sCfg W sCfg_valid)
    have hB := buNew_ok f1 f2 f3 f4
    have R := Lib.hid (fun b rb W (h : BuAt W b rb (Bu.new n s)) => (buNew_told n s t) ▸ rest_any b rb (Bu.new n s) t W h hB)
    have hfr : (Ar.new sCfg).free 1 = 64 := by decide
    have hroom : (Bu.new n s).room (Ar.new sCfg) t = if 0 ≤ t ∧ t < n then 64 else 0 := by
      unfold Bu.room
      rw [buNew_rest, hfr]
      have : (Bu.new n s).is t = decide (0 ≤ t ∧ t < n) := by unfold Bu.is Bu.new; rw [decide_eq_decide]; simp only [List.length_replicate]; omega
      rw [this]
      by_cases q : 0 ≤ t ∧ t < n <;> simp [q]
    have M := fun b rb a wb W (h : BuAt W b rb (Bu.new n s)) (hA : ArAt W a wb (Ar.new sCfg)) => room_any b rb (Bu.new n s) a wb (Ar.new sCfg) t W h hB hA (new_ok sCfg_valid)
    rw [hroom] at M
    clear hroom
    by_cases q : 0 ≤ t ∧ t < n
    · rw [if_pos q] at M
      obtain ⟨q1, q2⟩ := q
      have MM := Lib.hid M
      clear M hB hfr
      go_enter Try.func13, Try.ntmps13
      go_wp2_with fail
      refine (N.out _).mono ?_
      rintro e w1 ⟨b, rb, rfl, hB, hg1, hg2, hb1⟩
      go_wp2_with fail
      refine (C.out _).mono ?_
      rintro e w2 ⟨rfl, hb⟩
      have hB2 := hB.below hb
      have hb2 := hb1.trans (hb.mono hb1.size)
      clear hb
      go_wp2_with fail
      refine (A.out _).mono ?_
      rintro e w3 ⟨a, wb, rfl, hA, hg3, hg4, hb⟩
      have hB3 := hB2.below hb
      have hb3 := hb2.trans (hb.mono hb2.size)
      clear hb
      go_wp2_with fail
      refine (R.out _ _ _ hB3).mono ?_
      rintro e w4 ⟨rfl, hb⟩
      have hB4 := hB3.below hb
      have hA4 := hA.below hb
      have hb4 := hb3.trans (hb.mono hb3.size)
      clear hb
      go_wp2_with fail
      refine (MM.out _ _ _ _ _ hB4 hA4).mono ?_
      rintro e w5 ⟨rfl, hb⟩
      have hb5 := hb4.trans (hb.mono hb4.size)
      clear hb
      go_wp2_with fail
      go_ret
      exact ⟨rfl, hb5⟩
    · rw [if_neg q] at M
      have MM := Lib.hid M
      clear M hB hfr
      by_cases q1 : 0 ≤ t
      · have q2 : n ≤ t := by omega
        have q3 : decide (t < n) = false := by simp; omega
        clear q
        go_enter Try.func13, Try.ntmps13
        go_wp2_with fail
        refine (N.out _).mono ?_
        rintro e w1 ⟨b, rb, rfl, hB, hg1, hg2, hb1⟩
        go_wp2_with fail
        refine (C.out _).mono ?_
        rintro e w2 ⟨rfl, hb⟩
        have hB2 := hB.below hb
        have hb2 := hb1.trans (hb.mono hb1.size)
        clear hb
        go_wp2_with fail
        refine (A.out _).mono ?_
        rintro e w3 ⟨a, wb, rfl, hA, hg3, hg4, hb⟩
        have hB3 := hB2.below hb
        have hb3 := hb2.trans (hb.mono hb2.size)
        clear hb
        go_wp2_with fail
        refine (R.out _ _ _ hB3).mono ?_
        rintro e w4 ⟨rfl, hb⟩
        have hB4 := hB3.below hb
        have hA4 := hA.below hb
        have hb4 := hb3.trans (hb.mono hb3.size)
        clear hb
        go_wp2_with fail
        refine (MM.out _ _ _ _ _ hB4 hA4).mono ?_
        rintro e w5 ⟨rfl, hb⟩
        have hb5 := hb4.trans (hb.mono hb4.size)
        clear hb
        go_wp2_with fail
        go_ret
        exact ⟨rfl, hb5⟩
      · have q2 : t < 0 := by omega
        have q3 : decide (0 ≤ t) = false := by simp; omega
        clear q q1
        go_enter Try.func13, Try.ntmps13
        go_wp2_with fail
        refine (N.out _).mono ?_
        rintro e w1 ⟨b, rb, rfl, hB, hg1, hg2, hb1⟩
        go_wp2_with fail
        refine (C.out _).mono ?_
        rintro e w2 ⟨rfl, hb⟩
        have hB2 := hB.below hb
        have hb2 := hb1.trans (hb.mono hb1.size)
        clear hb
        go_wp2_with fail
        refine (A.out _).mono ?_
        rintro e w3 ⟨a, wb, rfl, hA, hg3, hg4, hb⟩
        have hB3 := hB2.below hb
        have hb3 := hb2.trans (hb.mono hb2.size)
        clear hb
        go_wp2_with fail
        refine (R.out _ _ _ hB3).mono ?_
        rintro e w4 ⟨rfl, hb⟩
        have hB4 := hB3.below hb
        have hA4 := hA.below hb
        have hb4 := hb3.trans (hb.mono hb3.size)
        clear hb
        go_wp2_with fail
        refine (MM.out _ _ _ _ _ hB4 hA4).mono ?_
        rintro e w5 ⟨rfl, hb⟩
        have hb5 := hb4.trans (hb.mono hb4.size)
        clear hb
        go_wp2_with fail
        go_ret
        exact ⟨rfl, hb5⟩
  · have N := Lib.hid (fun W => bufNew_no n s W f)
    by_cases c1 : 1 ≤ n
    · by_cases c2 : n ≤ 8
      · by_cases c3 : 0 ≤ s
        · have c4 : 65536 < s := by omega
          have d4 : decide (s ≤ 65536) = false := by simp; omega
          clear f
          go_enter Try.func13, Try.ntmps13
          go_wp2_with fail
          refine (N.out _).mono ?_
          rintro e w1 ⟨rfl, rfl⟩
          go_wp2_with fail
          go_ret
          exact ⟨rfl, Below.refl _ _⟩
        · have d4 : decide (0 ≤ s) = false := decide_eq_false c3
          clear f
          go_enter Try.func13, Try.ntmps13
          go_wp2_with fail
          refine (N.out _).mono ?_
          rintro e w1 ⟨rfl, rfl⟩
          go_wp2_with fail
          go_ret
          exact ⟨rfl, Below.refl _ _⟩
      · have d4 : decide (n ≤ 8) = false := decide_eq_false c2
        clear f
        go_enter Try.func13, Try.ntmps13
        go_wp2_with fail
        refine (N.out _).mono ?_
        rintro e w1 ⟨rfl, rfl⟩
        go_wp2_with fail
        go_ret
        exact ⟨rfl, Below.refl _ _⟩
    · have d4 : decide (1 ≤ n) = false := decide_eq_false c1
      clear f
      go_enter Try.func13, Try.ntmps13
      go_wp2_with fail
      refine (N.out _).mono ?_
      rintro e w1 ⟨rfl, rfl⟩
      go_wp2_with fail
      go_ret
      exact ⟨rfl, Below.refl _ _⟩
end Go.Proofs.Ytlmmobihnnhkfaa
