/- The document's own arena: Valid. -/
import Derived.Test.YtomgfdfgildkbaaDoorGo
import Derived.Deep.DeepCutAuto
namespace Go.Proofs.YtomgfdfgildkbaaDoor
open Go.RowKit Go.BigFrame

theorem between_any (n lo hi : Int) (w : World) : Calls Tryd.prog 118 #[.int .i64 n, .int .i64 lo, .int .i64 hi] w fun e w' => e = .returned (.bool (inB n lo hi)) ∧ w = w' := by
  unfold inB
  by_cases h : lo ≤ n
  · by_cases h2 : n ≤ hi
    · rw [decide_eq_true ⟨h, h2⟩]
      go_enter Tryd.func118, Tryd.ntmps118
      go_wp2
      go_ret
      exact ⟨rfl, rfl⟩
    · rw [decide_eq_false (fun x => h2 x.2)]
      have h3 : hi < n := by omega
      have h4 : decide (n ≤ hi) = false := decide_eq_false h2
      clear h2
      go_enter Tryd.func118, Tryd.ntmps118
      go_wp2
      go_ret
      exact ⟨rfl, rfl⟩
  · rw [decide_eq_false (fun x => h x.1)]
    have h3 : n < lo := by omega
    have h4 : decide (lo ≤ n) = false := decide_eq_false h
    clear h
    go_enter Tryd.func118, Tryd.ntmps118
    go_wp2
    go_ret
    exact ⟨rfl, rfl⟩
theorem ratio_eq (num den : Int) : (inB den 1 65536 && inB num den 65536) = (decide (1 ≤ den) && decide (den ≤ num) && decide (num ≤ 65536)) := by
  unfold inB
  rw [Bool.eq_iff_iff]
  simp only [Bool.and_eq_true, decide_eq_true_eq]
  omega
set_option maxRecDepth 100000 in
set_option maxHeartbeats 4000000 in
theorem rvalid_any (c : Cfg) (w : World) : Calls Tryd.prog 62 #[c.val] w fun e w' => e = .returned (.bool c.valid) ∧ Below w.heap.size w w' := by
  obtain ⟨eden, surv, ten, large, floor, num, den, target, maxAge, threads, slots, handles, buffer, workers⟩ := c
  have W := Lib.hid (fun n lo hi w => between_any n lo hi w)
  have HV : (⟨eden, surv, ten, large, floor, num, den, target, maxAge, threads, slots, handles, buffer, workers⟩ : Cfg).valid = ((inB eden 64 65536 && inB surv 64 65536 && inB ten 64 65536) && (inB large 2 65536 && inB floor 0 65536) && (decide (1 ≤ den) && decide (den ≤ num) && decide (num ≤ 65536)) && (inB target 1 100 && inB maxAge 1 15) && (inB threads 1 8 && inB slots 1 4096 && inB handles 0 1024) && inB buffer 0 eden && inB workers 1 8) := by
    unfold Cfg.valid Cfg.v1 Cfg.v2 Cfg.v3 Cfg.v4
    simp only
    rw [← ratio_eq]
    simp only [Bool.and_assoc]
  rw [HV]
  clear HV
  unfold Cfg.val Cfg.cells
  simp only
  go_enter Tryd.func62, Tryd.ntmps62
  go_upto_region 1 with fail
  go_cut [3] (fun s wx => s = .bool (inB eden 64 65536 && inB surv 64 65536 && inB ten 64 65536) ∧ wx = w.alloc (Obj.cells #[Value.int .i64 eden, Value.int .i64 surv, Value.int .i64 ten, Value.int .i64 large, Value.int .i64 floor, Value.int .i64 num, Value.int .i64 den, Value.int .i64 target, Value.int .i64 maxAge, Value.int .i64 threads, Value.int .i64 slots, Value.int .i64 handles, Value.int .i64 buffer, Value.int .i64 workers] 45))
  case first =>
    have D : (inB eden 64 65536) = false ∨ (inB eden 64 65536) = true ∧ (inB surv 64 65536) = false ∨ (inB eden 64 65536) = true ∧ (inB surv 64 65536) = true ∧ (inB ten 64 65536) = false ∨ (inB eden 64 65536) = true ∧ (inB surv 64 65536) = true ∧ (inB ten 64 65536) = true := by cases (inB eden 64 65536) <;> cases (inB surv 64 65536) <;> cases (inB ten 64 65536) <;> simp
    rcases D with h0 | ⟨h0, h1⟩ | ⟨h0, h1, h2⟩ | ⟨h0, h1, h2⟩
    all_goals
      go_wp2_with (go_at_call 118; refine (W.out _ _ _ _).mono ?_; rintro e w' ⟨rfl, rfl⟩)
      go_meet
      exact ⟨by simp [*], rfl⟩
  obtain ⟨rfl, rfl⟩ := hcut
  generalize hq1 : (inB eden 64 65536 && inB surv 64 65536 && inB ten 64 65536) = q1 at *
  have HQ1 := Lib.hid hq1; clear hq1
  go_upto_region 2 with fail
  go_cut [4] (fun s wx => s = .bool (inB large 2 65536 && inB floor 0 65536) ∧ wx = w.alloc (Obj.cells #[Value.int .i64 eden, Value.int .i64 surv, Value.int .i64 ten, Value.int .i64 large, Value.int .i64 floor, Value.int .i64 num, Value.int .i64 den, Value.int .i64 target, Value.int .i64 maxAge, Value.int .i64 threads, Value.int .i64 slots, Value.int .i64 handles, Value.int .i64 buffer, Value.int .i64 workers] 45))
  case first =>
    have D : (inB large 2 65536) = false ∨ (inB large 2 65536) = true ∧ (inB floor 0 65536) = false ∨ (inB large 2 65536) = true ∧ (inB floor 0 65536) = true := by cases (inB large 2 65536) <;> cases (inB floor 0 65536) <;> simp
    rcases D with h0 | ⟨h0, h1⟩ | ⟨h0, h1⟩
    all_goals
      go_wp2_with (go_at_call 118; refine (W.out _ _ _ _).mono ?_; rintro e w' ⟨rfl, rfl⟩)
      go_meet
      exact ⟨by simp [*], rfl⟩
  obtain ⟨rfl, rfl⟩ := hcut
  generalize hq2 : (inB large 2 65536 && inB floor 0 65536) = q2 at *
  have HQ2 := Lib.hid hq2; clear hq2
  go_upto_region 3 with fail
  go_cut [5] (fun s wx => s = .bool (decide (1 ≤ den) && decide (den ≤ num) && decide (num ≤ 65536)) ∧ wx = w.alloc (Obj.cells #[Value.int .i64 eden, Value.int .i64 surv, Value.int .i64 ten, Value.int .i64 large, Value.int .i64 floor, Value.int .i64 num, Value.int .i64 den, Value.int .i64 target, Value.int .i64 maxAge, Value.int .i64 threads, Value.int .i64 slots, Value.int .i64 handles, Value.int .i64 buffer, Value.int .i64 workers] 45))
  case first =>
    have D : (decide (1 ≤ den)) = false ∨ (decide (1 ≤ den)) = true ∧ (decide (den ≤ num)) = false ∨ (decide (1 ≤ den)) = true ∧ (decide (den ≤ num)) = true ∧ (decide (num ≤ 65536)) = false ∨ (decide (1 ≤ den)) = true ∧ (decide (den ≤ num)) = true ∧ (decide (num ≤ 65536)) = true := by cases (decide (1 ≤ den)) <;> cases (decide (den ≤ num)) <;> cases (decide (num ≤ 65536)) <;> simp
    rcases D with h0 | ⟨h0, h1⟩ | ⟨h0, h1, h2⟩ | ⟨h0, h1, h2⟩
    all_goals
      go_wp2_with (go_at_call 118; refine (W.out _ _ _ _).mono ?_; rintro e w' ⟨rfl, rfl⟩)
      go_meet
      exact ⟨by simp [*], rfl⟩
  obtain ⟨rfl, rfl⟩ := hcut
  generalize hq3 : (decide (1 ≤ den) && decide (den ≤ num) && decide (num ≤ 65536)) = q3 at *
  have HQ3 := Lib.hid hq3; clear hq3
  go_upto_region 4 with fail
  go_cut [6] (fun s wx => s = .bool (inB target 1 100 && inB maxAge 1 15) ∧ wx = w.alloc (Obj.cells #[Value.int .i64 eden, Value.int .i64 surv, Value.int .i64 ten, Value.int .i64 large, Value.int .i64 floor, Value.int .i64 num, Value.int .i64 den, Value.int .i64 target, Value.int .i64 maxAge, Value.int .i64 threads, Value.int .i64 slots, Value.int .i64 handles, Value.int .i64 buffer, Value.int .i64 workers] 45))
  case first =>
    have D : (inB target 1 100) = false ∨ (inB target 1 100) = true ∧ (inB maxAge 1 15) = false ∨ (inB target 1 100) = true ∧ (inB maxAge 1 15) = true := by cases (inB target 1 100) <;> cases (inB maxAge 1 15) <;> simp
    rcases D with h0 | ⟨h0, h1⟩ | ⟨h0, h1⟩
    all_goals
      go_wp2_with (go_at_call 118; refine (W.out _ _ _ _).mono ?_; rintro e w' ⟨rfl, rfl⟩)
      go_meet
      exact ⟨by simp [*], rfl⟩
  obtain ⟨rfl, rfl⟩ := hcut
  generalize hq4 : (inB target 1 100 && inB maxAge 1 15) = q4 at *
  have HQ4 := Lib.hid hq4; clear hq4
  go_upto_region 5 with fail
  go_cut [7] (fun s wx => s = .bool (inB threads 1 8 && inB slots 1 4096 && inB handles 0 1024) ∧ wx = w.alloc (Obj.cells #[Value.int .i64 eden, Value.int .i64 surv, Value.int .i64 ten, Value.int .i64 large, Value.int .i64 floor, Value.int .i64 num, Value.int .i64 den, Value.int .i64 target, Value.int .i64 maxAge, Value.int .i64 threads, Value.int .i64 slots, Value.int .i64 handles, Value.int .i64 buffer, Value.int .i64 workers] 45))
  case first =>
    have D : (inB threads 1 8) = false ∨ (inB threads 1 8) = true ∧ (inB slots 1 4096) = false ∨ (inB threads 1 8) = true ∧ (inB slots 1 4096) = true ∧ (inB handles 0 1024) = false ∨ (inB threads 1 8) = true ∧ (inB slots 1 4096) = true ∧ (inB handles 0 1024) = true := by cases (inB threads 1 8) <;> cases (inB slots 1 4096) <;> cases (inB handles 0 1024) <;> simp
    rcases D with h0 | ⟨h0, h1⟩ | ⟨h0, h1, h2⟩ | ⟨h0, h1, h2⟩
    all_goals
      go_wp2_with (go_at_call 118; refine (W.out _ _ _ _).mono ?_; rintro e w' ⟨rfl, rfl⟩)
      go_meet
      exact ⟨by simp [*], rfl⟩
  obtain ⟨rfl, rfl⟩ := hcut
  generalize hq5 : (inB threads 1 8 && inB slots 1 4096 && inB handles 0 1024) = q5 at *
  have HQ5 := Lib.hid hq5; clear hq5
  have D : (q1) = false ∨ (q1) = true ∧ (q2) = false ∨ (q1) = true ∧ (q2) = true ∧ (q3) = false ∨ (q1) = true ∧ (q2) = true ∧ (q3) = true ∧ (q4) = false ∨ (q1) = true ∧ (q2) = true ∧ (q3) = true ∧ (q4) = true ∧ (q5) = false ∨ (q1) = true ∧ (q2) = true ∧ (q3) = true ∧ (q4) = true ∧ (q5) = true ∧ (inB buffer 0 eden) = false ∨ (q1) = true ∧ (q2) = true ∧ (q3) = true ∧ (q4) = true ∧ (q5) = true ∧ (inB buffer 0 eden) = true ∧ (inB workers 1 8) = false ∨ (q1) = true ∧ (q2) = true ∧ (q3) = true ∧ (q4) = true ∧ (q5) = true ∧ (inB buffer 0 eden) = true ∧ (inB workers 1 8) = true := by cases (q1) <;> cases (q2) <;> cases (q3) <;> cases (q4) <;> cases (q5) <;> cases (inB buffer 0 eden) <;> cases (inB workers 1 8) <;> simp
  rcases D with h0 | ⟨h0, h1⟩ | ⟨h0, h1, h2⟩ | ⟨h0, h1, h2, h3⟩ | ⟨h0, h1, h2, h3, h4⟩ | ⟨h0, h1, h2, h3, h4, h5⟩ | ⟨h0, h1, h2, h3, h4, h5, h6⟩ | ⟨h0, h1, h2, h3, h4, h5, h6⟩
  all_goals
    go_wp2_with (go_at_call 118; refine (W.out _ _ _ _).mono ?_; rintro e w' ⟨rfl, rfl⟩)
    go_ret
    exact ⟨ret_bool (by rw [HQ1.out, HQ2.out, HQ3.out, HQ4.out, HQ5.out]; simp [*]), (Below.refl _ _).alloc (Nat.le_refl _) _⟩
end Go.Proofs.YtomgfdfgildkbaaDoor
