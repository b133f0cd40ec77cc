/- Merged texts: Fx1, Fx2. -/
import Derived.Test.YtomgfdfgildkbaaDoorLaw3aG
/- middenlay: Fits; Fix of a plan without things. -/

namespace Go.Proofs.YtomgfdfgildkbaaDoor
open Go.RowKit Go.BigFrame
set_option linter.unusedVariables false

/-- It answers true only if P. -/
def TellsIf (P : Prop) (e : Ending) : Prop := ∃ b, e = .returned (.bool b) ∧ (b = true → P)

set_option maxRecDepth 100000 in
set_option maxHeartbeats 8000000 in
theorem fits_any (q0 q1 q2 q3 q4 q5 q6 q7 q8 q9 q10 q11 q12 q13 : Int) (w : World) : Calls Tryd.prog 154 #[.agg #[.int .i64 q0, .int .i64 q1, .int .i64 q2, .int .i64 q3, .int .i64 q4, .int .i64 q5, .int .i64 q6, .int .i64 q7, .int .i64 q8, .int .i64 q9, .int .i64 q10, .int .i64 q11, .int .i64 q12, .int .i64 q13]] w fun e w' => TellsIf ((64 ≤ q0 ∧ q0 ≤ 65536 ∧ 64 ≤ q1 ∧ q1 ≤ 65536 ∧ 64 ≤ q2 ∧ q2 ≤ 65536) ∧ (2 ≤ q3 ∧ q3 ≤ 65536 ∧ 0 ≤ q4 ∧ q4 ≤ 65536 ∧ 0 ≤ q12 ∧ q12 ≤ q0) ∧ (1 ≤ q6 ∧ q6 ≤ q5 ∧ q5 ≤ 65536 ∧ 1 ≤ q7 ∧ q7 ≤ 100 ∧ 1 ≤ q8 ∧ q8 ≤ 15) ∧ (1 ≤ q9 ∧ q9 ≤ 8 ∧ 1 ≤ q10 ∧ q10 ≤ 4096 ∧ 0 ≤ q11 ∧ q11 ≤ 1024 ∧ 1 ≤ q13 ∧ q13 ≤ 8)) e ∧ Below w.heap.size w w' := by
  have hX := heap_one w (.cells #[.int .i64 q0, .int .i64 q1, .int .i64 q2, .int .i64 q3, .int .i64 q4, .int .i64 q5, .int .i64 q6, .int .i64 q7, .int .i64 q8, .int .i64 q9, .int .i64 q10, .int .i64 q11, .int .i64 q12, .int .i64 q13] 45)
  have hb := (Below.refl w.heap.size w).alloc (Nat.le_refl _) (.cells #[.int .i64 q0, .int .i64 q1, .int .i64 q2, .int .i64 q3, .int .i64 q4, .int .i64 q5, .int .i64 q6, .int .i64 q7, .int .i64 q8, .int .i64 q9, .int .i64 q10, .int .i64 q11, .int .i64 q12, .int .i64 q13] 45)
  go_enter Tryd.func154, Tryd.ntmps154
  go_upto_region 1 with fail
  generalize w.alloc (.cells #[.int .i64 q0, .int .i64 q1, .int .i64 q2, .int .i64 q3, .int .i64 q4, .int .i64 q5, .int .i64 q6, .int .i64 q7, .int .i64 q8, .int .i64 q9, .int .i64 q10, .int .i64 q11, .int .i64 q12, .int .i64 q13] 45) = w1 at *
  obtain ⟨cX, fX⟩ := hcell hX
  go_cut [3] from 7 to 34 (fun s wx => ∃ b, s = .bool b ∧ (b = true → 64 ≤ q0 ∧ q0 ≤ 65536 ∧ 64 ≤ q1 ∧ q1 ≤ 65536 ∧ 64 ≤ q2 ∧ q2 ≤ 65536) ∧ wx = w1)
  case first =>
    by_cases h0 : 64 ≤ q0
    case neg =>
      have d0 : decide (64 ≤ q0) = false := by simpa using h0
      go_wp2_with fail
      go_meet
      exact ⟨false, rfl, fun q => by (cases q), rfl⟩
    have d0 : decide (64 ≤ q0) = true := by simpa using h0
    by_cases h1 : q0 ≤ 65536
    case neg =>
      have d1 : decide (q0 ≤ 65536) = false := by simpa using h1
      go_wp2_with fail
      go_meet
      exact ⟨false, rfl, fun q => by (cases q), rfl⟩
    have d1 : decide (q0 ≤ 65536) = true := by simpa using h1
    by_cases h2 : 64 ≤ q1
    case neg =>
      have d2 : decide (64 ≤ q1) = false := by simpa using h2
      go_wp2_with fail
      go_meet
      exact ⟨false, rfl, fun q => by (cases q), rfl⟩
    have d2 : decide (64 ≤ q1) = true := by simpa using h2
    by_cases h3 : q1 ≤ 65536
    case neg =>
      have d3 : decide (q1 ≤ 65536) = false := by simpa using h3
      go_wp2_with fail
      go_meet
      exact ⟨false, rfl, fun q => by (cases q), rfl⟩
    have d3 : decide (q1 ≤ 65536) = true := by simpa using h3
    by_cases h4 : 64 ≤ q2
    case neg =>
      have d4 : decide (64 ≤ q2) = false := by simpa using h4
      go_wp2_with fail
      go_meet
      exact ⟨false, rfl, fun q => by (cases q), rfl⟩
    have d4 : decide (64 ≤ q2) = true := by simpa using h4
    by_cases h5 : q2 ≤ 65536
    case neg =>
      have d5 : decide (q2 ≤ 65536) = false := by simpa using h5
      go_wp2_with fail
      go_meet
      exact ⟨false, rfl, fun q => by (cases q), rfl⟩
    have d5 : decide (q2 ≤ 65536) = true := by simpa using h5
    go_wp2_with fail
    go_meet
    exact ⟨true, rfl, fun _ => ⟨h0, h1, h2, h3, h4, h5⟩, rfl⟩
  case rest =>
    obtain ⟨b0, rfl, hp0, rfl⟩ := hcut
    go_upto_region 2 with fail
    go_cut [4] from 35 to 64 (fun s wx => ∃ b, s = .bool b ∧ (b = true → 2 ≤ q3 ∧ q3 ≤ 65536 ∧ 0 ≤ q4 ∧ q4 ≤ 65536 ∧ 0 ≤ q12 ∧ q12 ≤ q0) ∧ wx = wc)
    case first =>
      by_cases h0 : 2 ≤ q3
      case neg =>
        have d0 : decide (2 ≤ q3) = false := by simpa using h0
        go_wp2_with fail
        go_meet
        exact ⟨false, rfl, fun q => by (cases q), rfl⟩
      have d0 : decide (2 ≤ q3) = true := by simpa using h0
      by_cases h1 : q3 ≤ 65536
      case neg =>
        have d1 : decide (q3 ≤ 65536) = false := by simpa using h1
        go_wp2_with fail
        go_meet
        exact ⟨false, rfl, fun q => by (cases q), rfl⟩
      have d1 : decide (q3 ≤ 65536) = true := by simpa using h1
      by_cases h2 : 0 ≤ q4
      case neg =>
        have d2 : decide (0 ≤ q4) = false := by simpa using h2
        go_wp2_with fail
        go_meet
        exact ⟨false, rfl, fun q => by (cases q), rfl⟩
      have d2 : decide (0 ≤ q4) = true := by simpa using h2
      by_cases h3 : q4 ≤ 65536
      case neg =>
        have d3 : decide (q4 ≤ 65536) = false := by simpa using h3
        go_wp2_with fail
        go_meet
        exact ⟨false, rfl, fun q => by (cases q), rfl⟩
      have d3 : decide (q4 ≤ 65536) = true := by simpa using h3
      by_cases h4 : 0 ≤ q12
      case neg =>
        have d4 : decide (0 ≤ q12) = false := by simpa using h4
        go_wp2_with fail
        go_meet
        exact ⟨false, rfl, fun q => by (cases q), rfl⟩
      have d4 : decide (0 ≤ q12) = true := by simpa using h4
      by_cases h5 : q12 ≤ q0
      case neg =>
        have d5 : decide (q12 ≤ q0) = false := by simpa using h5
        go_wp2_with fail
        go_meet
        exact ⟨false, rfl, fun q => by (cases q), rfl⟩
      have d5 : decide (q12 ≤ q0) = true := by simpa using h5
      go_wp2_with fail
      go_meet
      exact ⟨true, rfl, fun _ => ⟨h0, h1, h2, h3, h4, h5⟩, rfl⟩
    case rest =>
      obtain ⟨b1, rfl, hp1, rfl⟩ := hcut
      go_upto_region 3 with fail
      go_cut [5] from 65 to 99 (fun s wx => ∃ b, s = .bool b ∧ (b = true → 1 ≤ q6 ∧ q6 ≤ q5 ∧ q5 ≤ 65536 ∧ 1 ≤ q7 ∧ q7 ≤ 100 ∧ 1 ≤ q8 ∧ q8 ≤ 15) ∧ wx = wc)
      case first =>
        by_cases h0 : 1 ≤ q6
        case neg =>
          have d0 : decide (1 ≤ q6) = false := by simpa using h0
          go_wp2_with fail
          go_meet
          exact ⟨false, rfl, fun q => by (cases q), rfl⟩
        have d0 : decide (1 ≤ q6) = true := by simpa using h0
        by_cases h1 : q6 ≤ q5
        case neg =>
          have d1 : decide (q6 ≤ q5) = false := by simpa using h1
          go_wp2_with fail
          go_meet
          exact ⟨false, rfl, fun q => by (cases q), rfl⟩
        have d1 : decide (q6 ≤ q5) = true := by simpa using h1
        by_cases h2 : q5 ≤ 65536
        case neg =>
          have d2 : decide (q5 ≤ 65536) = false := by simpa using h2
          go_wp2_with fail
          go_meet
          exact ⟨false, rfl, fun q => by (cases q), rfl⟩
        have d2 : decide (q5 ≤ 65536) = true := by simpa using h2
        by_cases h3 : 1 ≤ q7
        case neg =>
          have d3 : decide (1 ≤ q7) = false := by simpa using h3
          go_wp2_with fail
          go_meet
          exact ⟨false, rfl, fun q => by (cases q), rfl⟩
        have d3 : decide (1 ≤ q7) = true := by simpa using h3
        by_cases h4 : q7 ≤ 100
        case neg =>
          have d4 : decide (q7 ≤ 100) = false := by simpa using h4
          go_wp2_with fail
          go_meet
          exact ⟨false, rfl, fun q => by (cases q), rfl⟩
        have d4 : decide (q7 ≤ 100) = true := by simpa using h4
        by_cases h5 : 1 ≤ q8
        case neg =>
          have d5 : decide (1 ≤ q8) = false := by simpa using h5
          go_wp2_with fail
          go_meet
          exact ⟨false, rfl, fun q => by (cases q), rfl⟩
        have d5 : decide (1 ≤ q8) = true := by simpa using h5
        by_cases h6 : q8 ≤ 15
        case neg =>
          have d6 : decide (q8 ≤ 15) = false := by simpa using h6
          go_wp2_with fail
          go_meet
          exact ⟨false, rfl, fun q => by (cases q), rfl⟩
        have d6 : decide (q8 ≤ 15) = true := by simpa using h6
        go_wp2_with fail
        go_meet
        exact ⟨true, rfl, fun _ => ⟨h0, h1, h2, h3, h4, h5, h6⟩, rfl⟩
      case rest =>
        obtain ⟨b2, rfl, hp2, rfl⟩ := hcut
        go_upto_region 4 with fail
        go_cut [6] from 100 to 137 (fun s wx => ∃ b, s = .bool b ∧ (b = true → 1 ≤ q9 ∧ q9 ≤ 8 ∧ 1 ≤ q10 ∧ q10 ≤ 4096 ∧ 0 ≤ q11 ∧ q11 ≤ 1024 ∧ 1 ≤ q13 ∧ q13 ≤ 8) ∧ wx = wc)
        case first =>
          by_cases h0 : 1 ≤ q9
          case neg =>
            have d0 : decide (1 ≤ q9) = false := by simpa using h0
            go_wp2_with fail
            go_meet
            exact ⟨false, rfl, fun q => by (cases q), rfl⟩
          have d0 : decide (1 ≤ q9) = true := by simpa using h0
          by_cases h1 : q9 ≤ 8
          case neg =>
            have d1 : decide (q9 ≤ 8) = false := by simpa using h1
            go_wp2_with fail
            go_meet
            exact ⟨false, rfl, fun q => by (cases q), rfl⟩
          have d1 : decide (q9 ≤ 8) = true := by simpa using h1
          by_cases h2 : 1 ≤ q10
          case neg =>
            have d2 : decide (1 ≤ q10) = false := by simpa using h2
            go_wp2_with fail
            go_meet
            exact ⟨false, rfl, fun q => by (cases q), rfl⟩
          have d2 : decide (1 ≤ q10) = true := by simpa using h2
          by_cases h3 : q10 ≤ 4096
          case neg =>
            have d3 : decide (q10 ≤ 4096) = false := by simpa using h3
            go_wp2_with fail
            go_meet
            exact ⟨false, rfl, fun q => by (cases q), rfl⟩
          have d3 : decide (q10 ≤ 4096) = true := by simpa using h3
          by_cases h4 : 0 ≤ q11
          case neg =>
            have d4 : decide (0 ≤ q11) = false := by simpa using h4
            go_wp2_with fail
            go_meet
            exact ⟨false, rfl, fun q => by (cases q), rfl⟩
          have d4 : decide (0 ≤ q11) = true := by simpa using h4
          by_cases h5 : q11 ≤ 1024
          case neg =>
            have d5 : decide (q11 ≤ 1024) = false := by simpa using h5
            go_wp2_with fail
            go_meet
            exact ⟨false, rfl, fun q => by (cases q), rfl⟩
          have d5 : decide (q11 ≤ 1024) = true := by simpa using h5
          by_cases h6 : 1 ≤ q13
          case neg =>
            have d6 : decide (1 ≤ q13) = false := by simpa using h6
            go_wp2_with fail
            go_meet
            exact ⟨false, rfl, fun q => by (cases q), rfl⟩
          have d6 : decide (1 ≤ q13) = true := by simpa using h6
          by_cases h7 : q13 ≤ 8
          case neg =>
            have d7 : decide (q13 ≤ 8) = false := by simpa using h7
            go_wp2_with fail
            go_meet
            exact ⟨false, rfl, fun q => by (cases q), rfl⟩
          have d7 : decide (q13 ≤ 8) = true := by simpa using h7
          go_wp2_with fail
          go_meet
          exact ⟨true, rfl, fun _ => ⟨h0, h1, h2, h3, h4, h5, h6, h7⟩, rfl⟩
        case rest =>
          obtain ⟨b3, rfl, hp3, rfl⟩ := hcut
          cases b0 with
          | false =>
            go_wp2_with fail
            go_ret
            exact ⟨⟨false, rfl, fun q => by (cases q)⟩, hb⟩
          | true =>
            cases b1 with
            | false =>
              go_wp2_with fail
              go_ret
              exact ⟨⟨false, rfl, fun q => by (cases q)⟩, hb⟩
            | true =>
              cases b2 with
              | false =>
                go_wp2_with fail
                go_ret
                exact ⟨⟨false, rfl, fun q => by (cases q)⟩, hb⟩
              | true =>
                cases b3 with
                | false =>
                  go_wp2_with fail
                  go_ret
                  exact ⟨⟨false, rfl, fun q => by (cases q)⟩, hb⟩
                | true =>
                  have FI := Lib.hid (⟨hp0 rfl, hp1 rfl, hp2 rfl, hp3 rfl⟩ : _ ∧ _ ∧ _ ∧ _)
                  clear hp0 hp1 hp2 hp3
                  go_wp2_with fail
                  go_ret
                  exact ⟨⟨true, rfl, fun _ => FI.out⟩, hb⟩

def cfgP : Cfg := ⟨64, 64, 128, 32, 64, 3, 2, 50, 3, 2, 16, 4, 0, 2⟩
theorem cfgP_valid : cfgP.valid = true := by decide
theorem plainCfg_any (w : World) : Calls Tryd.prog 155 #[] w fun e w' => e = .returned cfgP.val ∧ Below w.heap.size w w' := by
  go_enter Tryd.func155, Tryd.ntmps155
  go_wp2
  exact bodyPost_ret (v := cfgP.val) (by simp [results, Tryd.results155, go_sem, cfgP, Cfg.val, Cfg.cells]) rfl ⟨rfl, (Below.refl _ _).alloc (Nat.le_refl _) _⟩
/-- A lay without things, of a configuration. -/
def layCells (c : Cfg) : Array Value := #[.int .i64 c.eden, .int .i64 c.surv, .int .i64 c.ten, .int .i64 c.large, .int .i64 c.floor, .int .i64 c.num, .int .i64 c.den, .int .i64 c.target, .int .i64 c.maxAge, .int .i64 c.threads, .int .i64 c.slots, .int .i64 c.handles, .int .i64 c.buffer, .int .i64 c.workers, .slice none 0 0, .slice none 0 0, .int .i64 0, .int .i64 0, .int .i64 0, .int .i64 0, .int .i64 0, .int .i64 0, .int .i64 0, .int .i64 0, .int .i64 0, .int .i64 0, .int .i64 0, .int .i64 0, .int .i64 0, .int .i64 0, .int .i64 0, .int .i64 0]


end Go.Proofs.YtomgfdfgildkbaaDoor
/- middenlay: Fix of a plan without things; middenlaw13's config. -/

namespace Go.Proofs.YtomgfdfgildkbaaDoor
open Go.RowKit Go.BigFrame
set_option linter.unusedVariables false

theorem fits_valid (c : Cfg) (h : (64 ≤ c.eden ∧ c.eden ≤ 65536 ∧ 64 ≤ c.surv ∧ c.surv ≤ 65536 ∧ 64 ≤ c.ten ∧ c.ten ≤ 65536) ∧ (2 ≤ c.large ∧ c.large ≤ 65536 ∧ 0 ≤ c.floor ∧ c.floor ≤ 65536 ∧ 0 ≤ c.buffer ∧ c.buffer ≤ c.eden) ∧ (1 ≤ c.den ∧ c.den ≤ c.num ∧ c.num ≤ 65536 ∧ 1 ≤ c.target ∧ c.target ≤ 100 ∧ 1 ≤ c.maxAge ∧ c.maxAge ≤ 15) ∧ (1 ≤ c.threads ∧ c.threads ≤ 8 ∧ 1 ≤ c.slots ∧ c.slots ≤ 4096 ∧ 0 ≤ c.handles ∧ c.handles ≤ 1024 ∧ 1 ≤ c.workers ∧ c.workers ≤ 8)) : c.valid = true := by
  obtain ⟨⟨a0, a1, a2, a3, a4, a5⟩, ⟨b0, b1, b2, b3, b4, b5⟩, ⟨c0, c1, c2, c3, c4, c5, c6⟩, ⟨d0, d1, d2, d3, d4, d5, d6, d7⟩⟩ := h
  simp only [Cfg.valid, Cfg.v1, Cfg.v2, Cfg.v3, Cfg.v4, inB, Bool.and_eq_true, decide_eq_true_eq]
  omega
theorem set14 {w : World} {b : Nat} {x0 x1 x2 x3 x4 x5 x6 x7 x8 x9 x10 x11 x12 x13 : Value} {l : List Value} {t : TypeId} (h : w.heap[b]? = some (.cells (x0 :: x1 :: x2 :: x3 :: x4 :: x5 :: x6 :: x7 :: x8 :: x9 :: x10 :: x11 :: x12 :: x13 :: l).toArray t (0, 0))) (v0 v1 v2 v3 v4 v5 v6 v7 v8 v9 v10 v11 v12 v13 : Value) :
    ((((((((((((((w.setCell ⟨b, 0, none⟩ (v0)).setCell ⟨b, 1, none⟩ (v1)).setCell ⟨b, 2, none⟩ (v2)).setCell ⟨b, 3, none⟩ (v3)).setCell ⟨b, 4, none⟩ (v4)).setCell ⟨b, 5, none⟩ (v5)).setCell ⟨b, 6, none⟩ (v6)).setCell ⟨b, 7, none⟩ (v7)).setCell ⟨b, 8, none⟩ (v8)).setCell ⟨b, 9, none⟩ (v9)).setCell ⟨b, 10, none⟩ (v10)).setCell ⟨b, 11, none⟩ (v11)).setCell ⟨b, 12, none⟩ (v12)).setCell ⟨b, 13, none⟩ (v13)).heap[b]? = some (.cells (v0 :: v1 :: v2 :: v3 :: v4 :: v5 :: v6 :: v7 :: v8 :: v9 :: v10 :: v11 :: v12 :: v13 :: l).toArray t (0, 0)) := by
  have h0 := block_set h 0 v0
  have h1 := block_set h0 1 v1
  have h2 := block_set h1 2 v2
  have h3 := block_set h2 3 v3
  have h4 := block_set h3 4 v4
  have h5 := block_set h4 5 v5
  have h6 := block_set h5 6 v6
  have h7 := block_set h6 7 v7
  have h8 := block_set h7 8 v8
  have h9 := block_set h8 9 v9
  have h10 := block_set h9 10 v10
  have h11 := block_set h10 11 v11
  have h12 := block_set h11 12 v12
  have h13 := block_set h12 13 v13
  simpa only [List.setIfInBounds_toArray, List.set_cons_zero, List.set_cons_succ] using h13
set_option maxRecDepth 100000 in
set_option maxHeartbeats 16000000 in
theorem fix_none (q0 q1 q2 q3 q4 q5 q6 q7 q8 q9 q10 q11 q12 q13 : Int) (w : World) : Calls Tryd.prog 123 #[.agg #[.int .i64 q0, .int .i64 q1, .int .i64 q2, .int .i64 q3, .int .i64 q4, .int .i64 q5, .int .i64 q6, .int .i64 q7, .int .i64 q8, .int .i64 q9, .int .i64 q10, .int .i64 q11, .int .i64 q12, .int .i64 q13, .slice none 0 0]] w fun e w' => ∃ lb, ∃ c' : Cfg, e = .returned (.pointer (some ⟨lb, 0, none⟩)) ∧ c'.valid = true ∧ (∀ o, o < 14 → w'.cell? ⟨lb, o, none⟩ = c'.cells[o]?) ∧ w.heap.size ≤ lb ∧ Below w.heap.size w w' := by
  have FT := Lib.hid (fun (W : World) => fits_any q0 q1 q2 q3 q4 q5 q6 q7 q8 q9 q10 q11 q12 q13 W)
  have PLN := Lib.hid (fun (W : World) => plainCfg_any W)
  have VA := Lib.hid (fits_valid ⟨q0, q1, q2, q3, q4, q5, q6, q7, q8, q9, q10, q11, q12, q13⟩)
  unfold cfgP Cfg.val Cfg.cells at PLN
  simp only at PLN VA
  have hP := heap_one w (.cells #[.int .i64 q0, .int .i64 q1, .int .i64 q2, .int .i64 q3, .int .i64 q4, .int .i64 q5, .int .i64 q6, .int .i64 q7, .int .i64 q8, .int .i64 q9, .int .i64 q10, .int .i64 q11, .int .i64 q12, .int .i64 q13, .slice none 0 0] 170)
  have hb1 := (Below.refl w.heap.size w).alloc (Nat.le_refl _) (.cells #[.int .i64 q0, .int .i64 q1, .int .i64 q2, .int .i64 q3, .int .i64 q4, .int .i64 q5, .int .i64 q6, .int .i64 q7, .int .i64 q8, .int .i64 q9, .int .i64 q10, .int .i64 q11, .int .i64 q12, .int .i64 q13, .slice none 0 0] 170)
  have hz1 : (w.alloc (.cells #[.int .i64 q0, .int .i64 q1, .int .i64 q2, .int .i64 q3, .int .i64 q4, .int .i64 q5, .int .i64 q6, .int .i64 q7, .int .i64 q8, .int .i64 q9, .int .i64 q10, .int .i64 q11, .int .i64 q12, .int .i64 q13, .slice none 0 0] 170)).heap.size = w.heap.size + 1 := by simp
  go_enter Tryd.func123, Tryd.ntmps123
  go_upto_region 1 with fail
  generalize w.alloc (.cells #[.int .i64 q0, .int .i64 q1, .int .i64 q2, .int .i64 q3, .int .i64 q4, .int .i64 q5, .int .i64 q6, .int .i64 q7, .int .i64 q8, .int .i64 q9, .int .i64 q10, .int .i64 q11, .int .i64 q12, .int .i64 q13, .slice none 0 0] 170) = w1 at *
  obtain ⟨cP, fP⟩ := hcell hP
  go_upto_region 2 with fail
  have hL := heap_one w1 (.cells #[.int .i64 q0, .int .i64 q1, .int .i64 q2, .int .i64 q3, .int .i64 q4, .int .i64 q5, .int .i64 q6, .int .i64 q7, .int .i64 q8, .int .i64 q9, .int .i64 q10, .int .i64 q11, .int .i64 q12, .int .i64 q13, .slice none 0 0, .slice none 0 0, .int .i64 0, .int .i64 0, .int .i64 0, .int .i64 0, .int .i64 0, .int .i64 0, .int .i64 0, .int .i64 0, .int .i64 0, .int .i64 0, .int .i64 0, .int .i64 0, .int .i64 0, .int .i64 0, .int .i64 0, .int .i64 0] 172)
  have hP2 := (((Below.refl w1.heap.size w1).alloc (Nat.le_refl _) (.cells #[.int .i64 q0, .int .i64 q1, .int .i64 q2, .int .i64 q3, .int .i64 q4, .int .i64 q5, .int .i64 q6, .int .i64 q7, .int .i64 q8, .int .i64 q9, .int .i64 q10, .int .i64 q11, .int .i64 q12, .int .i64 q13, .slice none 0 0, .slice none 0 0, .int .i64 0, .int .i64 0, .int .i64 0, .int .i64 0, .int .i64 0, .int .i64 0, .int .i64 0, .int .i64 0, .int .i64 0, .int .i64 0, .int .i64 0, .int .i64 0, .int .i64 0, .int .i64 0, .int .i64 0, .int .i64 0] 172)).block _ (lt_of_heap hP)).trans hP
  have hb2 := hb1.alloc hb1.size (.cells #[.int .i64 q0, .int .i64 q1, .int .i64 q2, .int .i64 q3, .int .i64 q4, .int .i64 q5, .int .i64 q6, .int .i64 q7, .int .i64 q8, .int .i64 q9, .int .i64 q10, .int .i64 q11, .int .i64 q12, .int .i64 q13, .slice none 0 0, .slice none 0 0, .int .i64 0, .int .i64 0, .int .i64 0, .int .i64 0, .int .i64 0, .int .i64 0, .int .i64 0, .int .i64 0, .int .i64 0, .int .i64 0, .int .i64 0, .int .i64 0, .int .i64 0, .int .i64 0, .int .i64 0, .int .i64 0] 172)
  rw [hz1] at hL
  clear cP fP hP
  generalize w1.alloc (.cells #[.int .i64 q0, .int .i64 q1, .int .i64 q2, .int .i64 q3, .int .i64 q4, .int .i64 q5, .int .i64 q6, .int .i64 q7, .int .i64 q8, .int .i64 q9, .int .i64 q10, .int .i64 q11, .int .i64 q12, .int .i64 q13, .slice none 0 0, .slice none 0 0, .int .i64 0, .int .i64 0, .int .i64 0, .int .i64 0, .int .i64 0, .int .i64 0, .int .i64 0, .int .i64 0, .int .i64 0, .int .i64 0, .int .i64 0, .int .i64 0, .int .i64 0, .int .i64 0, .int .i64 0, .int .i64 0] 172) = w2 at *
  obtain ⟨cP, fP⟩ := hcell hP2
  go_wp2_with fail
  refine (FT.out _).mono ?_
  rintro e w3 ⟨⟨b, rfl, hbv⟩, hq⟩
  have hL3 := (hq.block _ (lt_of_heap hL)).trans hL
  have hP3 := (hq.block _ (lt_of_heap hP2)).trans hP2
  have b3 := hb2.trans (hq.mono hb2.size)
  clear cP fP hP2 hL hq FT
  go_upto_if 23 with fail
  go_cut [] from 24 (fun wx => ∃ c' : Cfg, c'.valid = true ∧ wx.heap[w.heap.size + 1]? = some (Obj.cells #[.int .i64 c'.eden, .int .i64 c'.surv, .int .i64 c'.ten, .int .i64 c'.large, .int .i64 c'.floor, .int .i64 c'.num, .int .i64 c'.den, .int .i64 c'.target, .int .i64 c'.maxAge, .int .i64 c'.threads, .int .i64 c'.slots, .int .i64 c'.handles, .int .i64 c'.buffer, .int .i64 c'.workers, .slice none 0 0, .slice none 0 0, .int .i64 0, .int .i64 0, .int .i64 0, .int .i64 0, .int .i64 0, .int .i64 0, .int .i64 0, .int .i64 0, .int .i64 0, .int .i64 0, .int .i64 0, .int .i64 0, .int .i64 0, .int .i64 0, .int .i64 0, .int .i64 0] 172 (0, 0)) ∧ wx.heap[w.heap.size]? = some (Obj.cells #[.int .i64 q0, .int .i64 q1, .int .i64 q2, .int .i64 q3, .int .i64 q4, .int .i64 q5, .int .i64 q6, .int .i64 q7, .int .i64 q8, .int .i64 q9, .int .i64 q10, .int .i64 q11, .int .i64 q12, .int .i64 q13, .slice none 0 0] 170 (0, 0)) ∧ Below w.heap.size w wx)
  case first =>
    cases b with
    | true =>
      have hv := VA.out (hbv rfl)
      go_wp2_with fail
      go_meet
      exact ⟨⟨q0, q1, q2, q3, q4, q5, q6, q7, q8, q9, q10, q11, q12, q13⟩, hv, hL3, hP3, b3⟩
    | false =>
      go_wp2_with fail
      refine (PLN.out _).mono ?_
      rintro e w4 ⟨rfl, hq⟩
      have hL4 := (hq.block _ (lt_of_heap hL3)).trans hL3
      have hP4 := (hq.block _ (lt_of_heap hP3)).trans hP3
      have b4 := b3.trans (hq.mono b3.size)
      have q := set14 hL4 (.int .i64 64) (.int .i64 64) (.int .i64 128) (.int .i64 32) (.int .i64 64) (.int .i64 3) (.int .i64 2) (.int .i64 50) (.int .i64 3) (.int .i64 2) (.int .i64 16) (.int .i64 4) (.int .i64 0) (.int .i64 2)
      have qP : ((((((((((((((w4.setCell ⟨w.heap.size + 1, 0, none⟩ (.int .i64 64)).setCell ⟨w.heap.size + 1, 1, none⟩ (.int .i64 64)).setCell ⟨w.heap.size + 1, 2, none⟩ (.int .i64 128)).setCell ⟨w.heap.size + 1, 3, none⟩ (.int .i64 32)).setCell ⟨w.heap.size + 1, 4, none⟩ (.int .i64 64)).setCell ⟨w.heap.size + 1, 5, none⟩ (.int .i64 3)).setCell ⟨w.heap.size + 1, 6, none⟩ (.int .i64 2)).setCell ⟨w.heap.size + 1, 7, none⟩ (.int .i64 50)).setCell ⟨w.heap.size + 1, 8, none⟩ (.int .i64 3)).setCell ⟨w.heap.size + 1, 9, none⟩ (.int .i64 2)).setCell ⟨w.heap.size + 1, 10, none⟩ (.int .i64 16)).setCell ⟨w.heap.size + 1, 11, none⟩ (.int .i64 4)).setCell ⟨w.heap.size + 1, 12, none⟩ (.int .i64 0)).setCell ⟨w.heap.size + 1, 13, none⟩ (.int .i64 2)).heap[w.heap.size]? = _ := (block_set_ne (by omega)).trans ((block_set_ne (by omega)).trans ((block_set_ne (by omega)).trans ((block_set_ne (by omega)).trans ((block_set_ne (by omega)).trans ((block_set_ne (by omega)).trans ((block_set_ne (by omega)).trans ((block_set_ne (by omega)).trans ((block_set_ne (by omega)).trans ((block_set_ne (by omega)).trans ((block_set_ne (by omega)).trans ((block_set_ne (by omega)).trans ((block_set_ne (by omega)).trans ((block_set_ne (by omega)).trans (hP4))))))))))))))
      have qB := Below.setCell (p := ⟨w.heap.size + 1, 13, none⟩) (Below.setCell (p := ⟨w.heap.size + 1, 12, none⟩) (Below.setCell (p := ⟨w.heap.size + 1, 11, none⟩) (Below.setCell (p := ⟨w.heap.size + 1, 10, none⟩) (Below.setCell (p := ⟨w.heap.size + 1, 9, none⟩) (Below.setCell (p := ⟨w.heap.size + 1, 8, none⟩) (Below.setCell (p := ⟨w.heap.size + 1, 7, none⟩) (Below.setCell (p := ⟨w.heap.size + 1, 6, none⟩) (Below.setCell (p := ⟨w.heap.size + 1, 5, none⟩) (Below.setCell (p := ⟨w.heap.size + 1, 4, none⟩) (Below.setCell (p := ⟨w.heap.size + 1, 3, none⟩) (Below.setCell (p := ⟨w.heap.size + 1, 2, none⟩) (Below.setCell (p := ⟨w.heap.size + 1, 1, none⟩) (Below.setCell (p := ⟨w.heap.size + 1, 0, none⟩) (b4) (by simp) (.int .i64 64)) (by simp) (.int .i64 64)) (by simp) (.int .i64 128)) (by simp) (.int .i64 32)) (by simp) (.int .i64 64)) (by simp) (.int .i64 3)) (by simp) (.int .i64 2)) (by simp) (.int .i64 50)) (by simp) (.int .i64 3)) (by simp) (.int .i64 2)) (by simp) (.int .i64 16)) (by simp) (.int .i64 4)) (by simp) (.int .i64 0)) (by simp) (.int .i64 2)
      obtain ⟨cL, fL⟩ := hcell hL4
      clear hL3 hP3 b3 hq
      go_wp2_with fail
      go_meet
      exact ⟨cfgP, cfgP_valid, q, qP, qB⟩
  case rest =>
    obtain ⟨⟨p0, p1, p2, p3, p4, p5, p6, p7, p8, p9, p10, p11, p12, p13⟩, hv, hL5, hP5, b5⟩ := hcut
    have bdd := Cfg.bd hv
    simp only at hL5
    obtain ⟨e0, e1, s0, s1, t0, t1⟩ := bdd
    simp only at e0 e1 s0 s1 t0 t1
    have HV := Lib.hid hv
    clear hL3 hP3 b3 hv hbv VA PLN
    obtain ⟨cL, fL⟩ := hcell hL5
    go_upto_region 6 with fail
    have hC := heap_one wc (.cells #[.int .i64 p0, .int .i64 p1, .int .i64 p2, .int .i64 p3, .int .i64 p4, .int .i64 p5, .int .i64 p6, .int .i64 p7, .int .i64 p8, .int .i64 p9, .int .i64 p10, .int .i64 p11, .int .i64 p12, .int .i64 p13] 45)
    have hbc := (Below.refl wc.heap.size wc).alloc (Nat.le_refl _) (.cells #[.int .i64 p0, .int .i64 p1, .int .i64 p2, .int .i64 p3, .int .i64 p4, .int .i64 p5, .int .i64 p6, .int .i64 p7, .int .i64 p8, .int .i64 p9, .int .i64 p10, .int .i64 p11, .int .i64 p12, .int .i64 p13] 45)
    have hL := (hbc.block _ (lt_of_heap hL5)).trans hL5
    have hP := (hbc.block _ (lt_of_heap hP5)).trans hP5
    have b6 := b5.alloc b5.size (.cells #[.int .i64 p0, .int .i64 p1, .int .i64 p2, .int .i64 p3, .int .i64 p4, .int .i64 p5, .int .i64 p6, .int .i64 p7, .int .i64 p8, .int .i64 p9, .int .i64 p10, .int .i64 p11, .int .i64 p12, .int .i64 p13] 45)
    have llc := lt_of_heap hL5
    clear cL fL hL5 hP5 b5 hbc
    generalize wc.alloc (.cells #[.int .i64 p0, .int .i64 p1, .int .i64 p2, .int .i64 p3, .int .i64 p4, .int .i64 p5, .int .i64 p6, .int .i64 p7, .int .i64 p8, .int .i64 p9, .int .i64 p10, .int .i64 p11, .int .i64 p12, .int .i64 p13] 45) = w6 at *
    generalize wc.heap.size = pc at *
    obtain ⟨cL, fL⟩ := hcell hL
    obtain ⟨cP, fP⟩ := hcell hP
    obtain ⟨cC, fC⟩ := hcell hC
    go_upto_region 7 with fail
    have hM0 := block_set hL 16 (.int .i64 0)
    have hM1 := block_set hM0 17 (.int .i64 1)
    have hM2 := block_set hM1 18 (.int .i64 (1 + p0))
    have hM3 := block_set hM2 19 (.int .i64 (1 + p0 + p1))
    have hM4 := block_set hM3 20 (.int .i64 (1 + p0 + 2 * p1))
    have hM := hM4
    simp only [List.setIfInBounds_toArray, List.set_cons_zero, List.set_cons_succ] at hM
    have hP' : (((((w6.setCell ⟨w.heap.size + 1, 16, none⟩ (.int .i64 0)).setCell ⟨w.heap.size + 1, 17, none⟩ (.int .i64 1)).setCell ⟨w.heap.size + 1, 18, none⟩ (.int .i64 (1 + p0))).setCell ⟨w.heap.size + 1, 19, none⟩ (.int .i64 (1 + p0 + p1))).setCell ⟨w.heap.size + 1, 20, none⟩ (.int .i64 (1 + p0 + 2 * p1))).heap[w.heap.size]? = _ := (block_set_ne (by omega)).trans ((block_set_ne (by omega)).trans ((block_set_ne (by omega)).trans ((block_set_ne (by omega)).trans ((block_set_ne (by omega)).trans (hP)))))
    have hC' : (((((w6.setCell ⟨w.heap.size + 1, 16, none⟩ (.int .i64 0)).setCell ⟨w.heap.size + 1, 17, none⟩ (.int .i64 1)).setCell ⟨w.heap.size + 1, 18, none⟩ (.int .i64 (1 + p0))).setCell ⟨w.heap.size + 1, 19, none⟩ (.int .i64 (1 + p0 + p1))).setCell ⟨w.heap.size + 1, 20, none⟩ (.int .i64 (1 + p0 + 2 * p1))).heap[pc]? = _ := (block_set_ne (by omega)).trans ((block_set_ne (by omega)).trans ((block_set_ne (by omega)).trans ((block_set_ne (by omega)).trans ((block_set_ne (by omega)).trans (hC)))))
    have b6' := (Below.setCell (p := ⟨w.heap.size + 1, 20, none⟩) (Below.setCell (p := ⟨w.heap.size + 1, 19, none⟩) (Below.setCell (p := ⟨w.heap.size + 1, 18, none⟩) (Below.setCell (p := ⟨w.heap.size + 1, 17, none⟩) (Below.setCell (p := ⟨w.heap.size + 1, 16, none⟩) b6 (by simp) (.int .i64 0)) (by simp) (.int .i64 1)) (by simp) (.int .i64 (1 + p0))) (by simp) (.int .i64 (1 + p0 + p1))) (by simp) (.int .i64 (1 + p0 + 2 * p1)))
    clear hM0 hM1 hM2 hM3 hM4 hL hP hC b6 cL fL cP fP cC fC
    generalize (((((w6.setCell ⟨w.heap.size + 1, 16, none⟩ (.int .i64 0)).setCell ⟨w.heap.size + 1, 17, none⟩ (.int .i64 1)).setCell ⟨w.heap.size + 1, 18, none⟩ (.int .i64 (1 + p0))).setCell ⟨w.heap.size + 1, 19, none⟩ (.int .i64 (1 + p0 + p1))).setCell ⟨w.heap.size + 1, 20, none⟩ (.int .i64 (1 + p0 + 2 * p1))) = w7 at *
    have hL := hM
    have hP := hP'
    have hC := hC'
    have b6 := b6'
    clear hM hP' hC' b6'
    obtain ⟨cL, fL⟩ := hcell hL
    obtain ⟨cP, fP⟩ := hcell hP
    obtain ⟨cC, fC⟩ := hcell hC
    go_upto_region 8 with fail
    have hM0 := block_set hL 26 (.int .i64 0)
    have hM1 := block_set hM0 27 (.int .i64 (1 + p0))
    have hM2 := block_set hM1 28 (.int .i64 (1 + p0 + p1))
    have hM3 := block_set hM2 29 (.int .i64 (1 + p0 + 2 * p1))
    have hM4 := block_set hM3 30 (.int .i64 (1 + p0 + 2 * p1 + p2))
    have hM := hM4
    simp only [List.setIfInBounds_toArray, List.set_cons_zero, List.set_cons_succ] at hM
    have hP' : (((((w7.setCell ⟨w.heap.size + 1, 26, none⟩ (.int .i64 0)).setCell ⟨w.heap.size + 1, 27, none⟩ (.int .i64 (1 + p0))).setCell ⟨w.heap.size + 1, 28, none⟩ (.int .i64 (1 + p0 + p1))).setCell ⟨w.heap.size + 1, 29, none⟩ (.int .i64 (1 + p0 + 2 * p1))).setCell ⟨w.heap.size + 1, 30, none⟩ (.int .i64 (1 + p0 + 2 * p1 + p2))).heap[w.heap.size]? = _ := (block_set_ne (by omega)).trans ((block_set_ne (by omega)).trans ((block_set_ne (by omega)).trans ((block_set_ne (by omega)).trans ((block_set_ne (by omega)).trans (hP)))))
    have hC' : (((((w7.setCell ⟨w.heap.size + 1, 26, none⟩ (.int .i64 0)).setCell ⟨w.heap.size + 1, 27, none⟩ (.int .i64 (1 + p0))).setCell ⟨w.heap.size + 1, 28, none⟩ (.int .i64 (1 + p0 + p1))).setCell ⟨w.heap.size + 1, 29, none⟩ (.int .i64 (1 + p0 + 2 * p1))).setCell ⟨w.heap.size + 1, 30, none⟩ (.int .i64 (1 + p0 + 2 * p1 + p2))).heap[pc]? = _ := (block_set_ne (by omega)).trans ((block_set_ne (by omega)).trans ((block_set_ne (by omega)).trans ((block_set_ne (by omega)).trans ((block_set_ne (by omega)).trans (hC)))))
    have b6' := (Below.setCell (p := ⟨w.heap.size + 1, 30, none⟩) (Below.setCell (p := ⟨w.heap.size + 1, 29, none⟩) (Below.setCell (p := ⟨w.heap.size + 1, 28, none⟩) (Below.setCell (p := ⟨w.heap.size + 1, 27, none⟩) (Below.setCell (p := ⟨w.heap.size + 1, 26, none⟩) b6 (by simp) (.int .i64 0)) (by simp) (.int .i64 (1 + p0))) (by simp) (.int .i64 (1 + p0 + p1))) (by simp) (.int .i64 (1 + p0 + 2 * p1))) (by simp) (.int .i64 (1 + p0 + 2 * p1 + p2)))
    clear hM0 hM1 hM2 hM3 hM4 hL hP hC b6 cL fL cP fP cC fC
    generalize (((((w7.setCell ⟨w.heap.size + 1, 26, none⟩ (.int .i64 0)).setCell ⟨w.heap.size + 1, 27, none⟩ (.int .i64 (1 + p0))).setCell ⟨w.heap.size + 1, 28, none⟩ (.int .i64 (1 + p0 + p1))).setCell ⟨w.heap.size + 1, 29, none⟩ (.int .i64 (1 + p0 + 2 * p1))).setCell ⟨w.heap.size + 1, 30, none⟩ (.int .i64 (1 + p0 + 2 * p1 + p2))) = w8 at *
    have hL := hM
    have hP := hP'
    have hC := hC'
    have b6 := b6'
    clear hM hP' hC' b6'
    obtain ⟨cL, fL⟩ := hcell hL
    obtain ⟨cP, fP⟩ := hcell hP
    obtain ⟨cC, fC⟩ := hcell hC
    go_upto_region 9 with fail
    have hM0 := block_set hL 21 (.int .i64 0)
    have hM1 := block_set hM0 22 (.int .i64 1)
    have hM2 := block_set hM1 23 (.int .i64 (1 + p0))
    have hM3 := block_set hM2 24 (.int .i64 (1 + p0 + p1))
    have hM4 := block_set hM3 25 (.int .i64 (1 + p0 + 2 * p1))
    have hM := hM4
    simp only [List.setIfInBounds_toArray, List.set_cons_zero, List.set_cons_succ] at hM
    have hP' : (((((w8.setCell ⟨w.heap.size + 1, 21, none⟩ (.int .i64 0)).setCell ⟨w.heap.size + 1, 22, none⟩ (.int .i64 1)).setCell ⟨w.heap.size + 1, 23, none⟩ (.int .i64 (1 + p0))).setCell ⟨w.heap.size + 1, 24, none⟩ (.int .i64 (1 + p0 + p1))).setCell ⟨w.heap.size + 1, 25, none⟩ (.int .i64 (1 + p0 + 2 * p1))).heap[w.heap.size]? = _ := (block_set_ne (by omega)).trans ((block_set_ne (by omega)).trans ((block_set_ne (by omega)).trans ((block_set_ne (by omega)).trans ((block_set_ne (by omega)).trans (hP)))))
    have hC' : (((((w8.setCell ⟨w.heap.size + 1, 21, none⟩ (.int .i64 0)).setCell ⟨w.heap.size + 1, 22, none⟩ (.int .i64 1)).setCell ⟨w.heap.size + 1, 23, none⟩ (.int .i64 (1 + p0))).setCell ⟨w.heap.size + 1, 24, none⟩ (.int .i64 (1 + p0 + p1))).setCell ⟨w.heap.size + 1, 25, none⟩ (.int .i64 (1 + p0 + 2 * p1))).heap[pc]? = _ := (block_set_ne (by omega)).trans ((block_set_ne (by omega)).trans ((block_set_ne (by omega)).trans ((block_set_ne (by omega)).trans ((block_set_ne (by omega)).trans (hC)))))
    have b6' := (Below.setCell (p := ⟨w.heap.size + 1, 25, none⟩) (Below.setCell (p := ⟨w.heap.size + 1, 24, none⟩) (Below.setCell (p := ⟨w.heap.size + 1, 23, none⟩) (Below.setCell (p := ⟨w.heap.size + 1, 22, none⟩) (Below.setCell (p := ⟨w.heap.size + 1, 21, none⟩) b6 (by simp) (.int .i64 0)) (by simp) (.int .i64 1)) (by simp) (.int .i64 (1 + p0))) (by simp) (.int .i64 (1 + p0 + p1))) (by simp) (.int .i64 (1 + p0 + 2 * p1)))
    clear hM0 hM1 hM2 hM3 hM4 hL hP hC b6 cL fL cP fP cC fC
    generalize (((((w8.setCell ⟨w.heap.size + 1, 21, none⟩ (.int .i64 0)).setCell ⟨w.heap.size + 1, 22, none⟩ (.int .i64 1)).setCell ⟨w.heap.size + 1, 23, none⟩ (.int .i64 (1 + p0))).setCell ⟨w.heap.size + 1, 24, none⟩ (.int .i64 (1 + p0 + p1))).setCell ⟨w.heap.size + 1, 25, none⟩ (.int .i64 (1 + p0 + 2 * p1))) = w9 at *
    have hL := hM
    have hP := hP'
    have hC := hC'
    have b6 := b6'
    clear hM hP' hC' b6'
    obtain ⟨cL, fL⟩ := hcell hL
    obtain ⟨cP, fP⟩ := hcell hP
    obtain ⟨cC, fC⟩ := hcell hC
    go_upto_region 10 with fail
    have hM0 := block_set hL 31 (.int .i64 (1 + p0 + 2 * p1 + p2))
    have hM := hM0
    simp only [List.setIfInBounds_toArray, List.set_cons_zero, List.set_cons_succ] at hM
    have hP' : (w9.setCell ⟨w.heap.size + 1, 31, none⟩ (.int .i64 (1 + p0 + 2 * p1 + p2))).heap[w.heap.size]? = _ := (block_set_ne (by omega)).trans (hP)
    have hC' : (w9.setCell ⟨w.heap.size + 1, 31, none⟩ (.int .i64 (1 + p0 + 2 * p1 + p2))).heap[pc]? = _ := (block_set_ne (by omega)).trans (hC)
    have b6' := (Below.setCell (p := ⟨w.heap.size + 1, 31, none⟩) b6 (by simp) (.int .i64 (1 + p0 + 2 * p1 + p2)))
    clear hM0 hL hP hC b6 cL fL cP fP cC fC
    generalize (w9.setCell ⟨w.heap.size + 1, 31, none⟩ (.int .i64 (1 + p0 + 2 * p1 + p2))) = w10 at *
    have hL := hM
    have hP := hP'
    have hC := hC'
    have b6 := b6'
    clear hM hP' hC' b6'
    obtain ⟨cL, fL⟩ := hcell hL
    obtain ⟨cP, fP⟩ := hcell hP
    obtain ⟨cC, fC⟩ := hcell hC
    go_wp2_with fail
    go_loopw [6] (fun iv wx => iv = .int .i64 0 ∧ wx = w10) (fun _ _ => 0)
    case atStart => exact ⟨rfl, rfl⟩
    case round =>
      obtain ⟨rfl, rfl⟩ := hrel
      go_wp2_with fail
      go_loopw [11] (fun iv wx => iv = .int .i64 0 ∧ wx = wr) (fun _ _ => 0)
      case atStart => exact ⟨rfl, rfl⟩
      case round =>
        obtain ⟨rfl, rfl⟩ := hrel
        go_wp2_with fail
        go_ret
        exact ⟨w.heap.size + 1, ⟨p0, p1, p2, p3, p4, p5, p6, p7, p8, p9, p10, p11, p12, p13⟩, rfl, HV.out, fun o ho => by
          rw [cL]
          match o, ho with
          | 0, _ => rfl
          | 1, _ => rfl
          | 2, _ => rfl
          | 3, _ => rfl
          | 4, _ => rfl
          | 5, _ => rfl
          | 6, _ => rfl
          | 7, _ => rfl
          | 8, _ => rfl
          | 9, _ => rfl
          | 10, _ => rfl
          | 11, _ => rfl
          | 12, _ => rfl
          | 13, _ => rfl, by omega, b6⟩
set_option maxRecDepth 100000 in
set_option maxHeartbeats 8000000 in
theorem config13_any (c : Cfg) (w : World) : Calls Tryd.prog 69 #[c.val] w fun e w' => ∃ c' : Cfg, e = .returned c'.val ∧ c'.valid = true ∧ Below w.heap.size w w' := by
  obtain ⟨q0, q1, q2, q3, q4, q5, q6, q7, q8, q9, q10, q11, q12, q13⟩ := c
  unfold Cfg.val Cfg.cells
  simp only
  have FX := Lib.hid (fun (W : World) => fix_none q0 q1 q2 q3 q4 q5 q6 q7 q8 q9 q10 q11 q12 q13 W)
  have hX := heap_one w (.cells #[.int .i64 q0, .int .i64 q1, .int .i64 q2, .int .i64 q3, .int .i64 q4, .int .i64 q5, .int .i64 q6, .int .i64 q7, .int .i64 q8, .int .i64 q9, .int .i64 q10, .int .i64 q11, .int .i64 q12, .int .i64 q13] 45)
  have hb1 := (Below.refl w.heap.size w).alloc (Nat.le_refl _) (.cells #[.int .i64 q0, .int .i64 q1, .int .i64 q2, .int .i64 q3, .int .i64 q4, .int .i64 q5, .int .i64 q6, .int .i64 q7, .int .i64 q8, .int .i64 q9, .int .i64 q10, .int .i64 q11, .int .i64 q12, .int .i64 q13] 45)
  have hz1 : (w.alloc (.cells #[.int .i64 q0, .int .i64 q1, .int .i64 q2, .int .i64 q3, .int .i64 q4, .int .i64 q5, .int .i64 q6, .int .i64 q7, .int .i64 q8, .int .i64 q9, .int .i64 q10, .int .i64 q11, .int .i64 q12, .int .i64 q13] 45)).heap.size = w.heap.size + 1 := by simp
  go_enter Tryd.func69, Tryd.ntmps69
  have hR := heap_one (w.alloc (.cells #[.int .i64 q0, .int .i64 q1, .int .i64 q2, .int .i64 q3, .int .i64 q4, .int .i64 q5, .int .i64 q6, .int .i64 q7, .int .i64 q8, .int .i64 q9, .int .i64 q10, .int .i64 q11, .int .i64 q12, .int .i64 q13] 45)) (.cells #[.int .i64 0, .int .i64 0, .int .i64 0, .int .i64 0, .int .i64 0, .int .i64 0, .int .i64 0, .int .i64 0, .int .i64 0, .int .i64 0, .int .i64 0, .int .i64 0, .int .i64 0, .int .i64 0] 45)
  have hX2 := (((Below.refl (w.alloc (.cells #[.int .i64 q0, .int .i64 q1, .int .i64 q2, .int .i64 q3, .int .i64 q4, .int .i64 q5, .int .i64 q6, .int .i64 q7, .int .i64 q8, .int .i64 q9, .int .i64 q10, .int .i64 q11, .int .i64 q12, .int .i64 q13] 45)).heap.size (w.alloc (.cells #[.int .i64 q0, .int .i64 q1, .int .i64 q2, .int .i64 q3, .int .i64 q4, .int .i64 q5, .int .i64 q6, .int .i64 q7, .int .i64 q8, .int .i64 q9, .int .i64 q10, .int .i64 q11, .int .i64 q12, .int .i64 q13] 45))).alloc (Nat.le_refl _) (.cells #[.int .i64 0, .int .i64 0, .int .i64 0, .int .i64 0, .int .i64 0, .int .i64 0, .int .i64 0, .int .i64 0, .int .i64 0, .int .i64 0, .int .i64 0, .int .i64 0, .int .i64 0, .int .i64 0] 45)).block _ (lt_of_heap hX)).trans hX
  have hb2 := hb1.alloc hb1.size (.cells #[.int .i64 0, .int .i64 0, .int .i64 0, .int .i64 0, .int .i64 0, .int .i64 0, .int .i64 0, .int .i64 0, .int .i64 0, .int .i64 0, .int .i64 0, .int .i64 0, .int .i64 0, .int .i64 0] 45)
  rw [hz1] at hR
  go_upto_region 1 with fail
  generalize (w.alloc (.cells #[.int .i64 q0, .int .i64 q1, .int .i64 q2, .int .i64 q3, .int .i64 q4, .int .i64 q5, .int .i64 q6, .int .i64 q7, .int .i64 q8, .int .i64 q9, .int .i64 q10, .int .i64 q11, .int .i64 q12, .int .i64 q13] 45)).alloc (.cells #[.int .i64 0, .int .i64 0, .int .i64 0, .int .i64 0, .int .i64 0, .int .i64 0, .int .i64 0, .int .i64 0, .int .i64 0, .int .i64 0, .int .i64 0, .int .i64 0, .int .i64 0, .int .i64 0] 45) = w1 at *
  obtain ⟨cX, fX⟩ := hcell hX2
  go_wp2_with fail
  refine (FX.out _).mono ?_
  rintro e w2 ⟨lb, c', rfl, hv, hcl, hlb, hq⟩
  have hR2 := (hq.block _ (lt_of_heap hR)).trans hR
  have b2 := hb2.trans (hq.mono hb2.size)
  obtain ⟨p0, p1, p2, p3, p4, p5, p6, p7, p8, p9, p10, p11, p12, p13⟩ := c'
  have k0 : w2.cell? ⟨lb, 0, none⟩ = some (.int .i64 p0) := hcl 0 (by decide)
  have k1 : w2.cell? ⟨lb, 1, none⟩ = some (.int .i64 p1) := hcl 1 (by decide)
  have k2 : w2.cell? ⟨lb, 2, none⟩ = some (.int .i64 p2) := hcl 2 (by decide)
  have k3 : w2.cell? ⟨lb, 3, none⟩ = some (.int .i64 p3) := hcl 3 (by decide)
  have k4 : w2.cell? ⟨lb, 4, none⟩ = some (.int .i64 p4) := hcl 4 (by decide)
  have k5 : w2.cell? ⟨lb, 5, none⟩ = some (.int .i64 p5) := hcl 5 (by decide)
  have k6 : w2.cell? ⟨lb, 6, none⟩ = some (.int .i64 p6) := hcl 6 (by decide)
  have k7 : w2.cell? ⟨lb, 7, none⟩ = some (.int .i64 p7) := hcl 7 (by decide)
  have k8 : w2.cell? ⟨lb, 8, none⟩ = some (.int .i64 p8) := hcl 8 (by decide)
  have k9 : w2.cell? ⟨lb, 9, none⟩ = some (.int .i64 p9) := hcl 9 (by decide)
  have k10 : w2.cell? ⟨lb, 10, none⟩ = some (.int .i64 p10) := hcl 10 (by decide)
  have k11 : w2.cell? ⟨lb, 11, none⟩ = some (.int .i64 p11) := hcl 11 (by decide)
  have k12 : w2.cell? ⟨lb, 12, none⟩ = some (.int .i64 p12) := hcl 12 (by decide)
  have k13 : w2.cell? ⟨lb, 13, none⟩ = some (.int .i64 p13) := hcl 13 (by decide)
  have HV := Lib.hid hv
  obtain ⟨cR, fR⟩ := hcell hR2
  clear cX fX hX2 hX hR hcl hq FX hv
  have hW := set14 hR2 (.int .i64 p0) (.int .i64 p1) (.int .i64 p2) (.int .i64 p3) (.int .i64 p4) (.int .i64 p5) (.int .i64 p6) (.int .i64 p7) (.int .i64 p8) (.int .i64 p9) (.int .i64 p10) (.int .i64 p11) (.int .i64 p12) (.int .i64 p13)
  obtain ⟨cW, fW⟩ := hcell hW
  go_wp2_with fail
  exact bodyPost_ret (v := .agg #[.int .i64 p0, .int .i64 p1, .int .i64 p2, .int .i64 p3, .int .i64 p4, .int .i64 p5, .int .i64 p6, .int .i64 p7, .int .i64 p8, .int .i64 p9, .int .i64 p10, .int .i64 p11, .int .i64 p12, .int .i64 p13]) (by simp [results, Tryd.results69, go_sem, cW]) rfl ⟨⟨p0, p1, p2, p3, p4, p5, p6, p7, p8, p9, p10, p11, p12, p13⟩, rfl, HV.out, Below.setCell (p := ⟨w.heap.size + 1, 13, none⟩) (Below.setCell (p := ⟨w.heap.size + 1, 12, none⟩) (Below.setCell (p := ⟨w.heap.size + 1, 11, none⟩) (Below.setCell (p := ⟨w.heap.size + 1, 10, none⟩) (Below.setCell (p := ⟨w.heap.size + 1, 9, none⟩) (Below.setCell (p := ⟨w.heap.size + 1, 8, none⟩) (Below.setCell (p := ⟨w.heap.size + 1, 7, none⟩) (Below.setCell (p := ⟨w.heap.size + 1, 6, none⟩) (Below.setCell (p := ⟨w.heap.size + 1, 5, none⟩) (Below.setCell (p := ⟨w.heap.size + 1, 4, none⟩) (Below.setCell (p := ⟨w.heap.size + 1, 3, none⟩) (Below.setCell (p := ⟨w.heap.size + 1, 2, none⟩) (Below.setCell (p := ⟨w.heap.size + 1, 1, none⟩) (Below.setCell (p := ⟨w.heap.size + 1, 0, none⟩) (b2) (by simp) (.int .i64 p0)) (by simp) (.int .i64 p1)) (by simp) (.int .i64 p2)) (by simp) (.int .i64 p3)) (by simp) (.int .i64 p4)) (by simp) (.int .i64 p5)) (by simp) (.int .i64 p6)) (by simp) (.int .i64 p7)) (by simp) (.int .i64 p8)) (by simp) (.int .i64 p9)) (by simp) (.int .i64 p10)) (by simp) (.int .i64 p11)) (by simp) (.int .i64 p12)) (by simp) (.int .i64 p13)⟩
end Go.Proofs.YtomgfdfgildkbaaDoor
