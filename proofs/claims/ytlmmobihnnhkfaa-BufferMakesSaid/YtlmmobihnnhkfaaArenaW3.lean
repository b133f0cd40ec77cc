/- The walks of package arena, third part: words, spaces, tops. -/
import Derived.Test.YtlmmobihnnhkfaaArenaW2
namespace Go.Proofs.Ytlmmobihnnhkfaa
open Go.RowKit Go.BigFrame

theorem ArAt.cells {w : World} {b wb : Nat} {A : Ar} (h : ArAt w b wb A) : (∀ o, w.cell? ⟨b, o, none⟩ = (arCells A wb)[o]?) ∧ (∀ o, w.frozen? ⟨b, o, none⟩ = false) := hcell h.st
theorem ArAt.wcell {w : World} {b wb : Nat} {A : Ar} (h : ArAt w b wb A) {i : Nat} (hi : i < A.words.length) : w.cell? ⟨wb, i, none⟩ = some (.int .u64 (A.words.getD i 0)) := by
  rw [(hcell h.ws).1, u64s_get hi]
theorem ArAt.wfree {w : World} {b wb : Nat} {A : Ar} (h : ArAt w b wb A) (i : Nat) : w.frozen? ⟨wb, i, none⟩ = false := (hcell h.ws).2 i

theorem ArAt.setWord {w : World} {b wb : Nat} {A : Ar} (h : ArAt w b wb A) (i : Nat) (v : Int) : ArAt (w.setCell ⟨wb, i, none⟩ (.int .u64 v)) b wb { A with words := A.words.set i v } := by
  refine ⟨?_, ?_, h.ne⟩
  · rw [block_set_ne h.ne, h.st]; simp [arCells]
  · rw [block_set h.ws, u64s_set]

theorem Ar.Ok.put {A : Ar} (h : A.Ok) (i : Nat) {v : Int} (hv : 0 ≤ v ∧ v < 18446744073709551616) : ({ A with words := A.words.set i v } : Ar).Ok := by
  obtain ⟨cv, len, rng, a1, b1, a2, b2, a3, b3, a4, b4, fr⟩ := h
  refine ⟨cv, by simpa using len, ?_, a1, b1, a2, b2, a3, b3, a4, b4, fr⟩
  intro x hx
  rcases List.mem_or_eq_of_mem_set hx with h | h
  · exact rng x h
  · exact h ▸ hv

theorem is_any (s : Int) (w : World) : Calls Try.prog 36 #[.int .i64 s] w fun e w' => e = .returned (.bool (isSp s)) ∧ w = w' := by
  unfold isSp
  by_cases c0 : 1 ≤ s
  · by_cases c1 : s ≤ 4
    · rw [decide_eq_true ⟨c0, c1⟩]
      go_enter Try.func36, Try.ntmps36
      go_wp2
      go_ret
      exact ⟨rfl, rfl⟩
    · rw [decide_eq_false (fun x => c1 x.2)]
      have d1 : decide (s ≤ 4) = false := decide_eq_false c1
      have c2 : 4 < s := by omega
      clear c1
      go_enter Try.func36, Try.ntmps36
      go_wp2
      go_ret
      exact ⟨rfl, rfl⟩
  · rw [decide_eq_false (fun x => c0 x.1)]
    have d0 : decide (1 ≤ s) = false := decide_eq_false c0
    have c2 : s < 1 := by omega
    clear c0
    go_enter Try.func36, Try.ntmps36
    go_wp2
    go_ret
    exact ⟨rfl, rfl⟩

set_option maxHeartbeats 1000000 in
theorem of_any (b wb : Nat) (A : Ar) (s : Int) (w : World) (h : ArAt w b wb A) : Calls Try.prog 35 #[.pointer (some ⟨b, 0, none⟩), .int .i64 s] w fun e w' => e = .returned (.agg #[.int .i64 (A.first s), .int .i64 (A.behind s), .int .i64 (A.top s)]) ∧ Below w.heap.size w w' := by
  obtain ⟨hc, hf⟩ := h.cells
  have hlt := lt_of_heap h.st
  unfold arCells at hc
  have I := fun w => is_any s w
  by_cases c : isSp s = true
  · rw [c] at I
    have II := Lib.hid I
    unfold isSp at c
    have hs : s = 1 ∨ s = 2 ∨ s = 3 ∨ s = 4 := by have := of_decide_eq_true c; omega
    clear c I h
    rcases hs with rfl | rfl | rfl | rfl
    all_goals
      go_enter Try.func35, Try.ntmps35
      go_wp2_with fail
      refine (II.out _).mono ?_
      rintro e w' ⟨rfl, rfl⟩
      go_wp2_with fail
      refine bodyPost_ret (v := .agg #[_, _, _]) (by simp [results, Try.results35, go_sem]; exact ⟨rfl, rfl, rfl⟩) rfl ⟨?_, (Below.refl _ _).alloc (Nat.le_refl _) _⟩
      simp [Ar.first, Ar.behind, Ar.top]
  · have c' : isSp s = false := by simpa using c
    rw [c'] at I
    have II := Lib.hid I
    have hs : ¬ s = 1 ∧ ¬ s = 2 ∧ ¬ s = 3 ∧ ¬ s = 4 := by
      unfold isSp at c'; have := of_decide_eq_false c'; omega
    have e1 : A.first s = 0 := by unfold Ar.first; rw [if_neg hs.1, if_neg hs.2.1, if_neg hs.2.2.1, if_neg hs.2.2.2]
    have e2 : A.behind s = 0 := by unfold Ar.behind; rw [if_neg hs.1, if_neg hs.2.1, if_neg hs.2.2.1, if_neg hs.2.2.2]
    have e3 : A.top s = 0 := by unfold Ar.top; rw [if_neg hs.1, if_neg hs.2.1, if_neg hs.2.2.1, if_neg hs.2.2.2]
    rw [e1, e2, e3]
    clear c c' I h hs e1 e2 e3
    go_enter Try.func35, Try.ntmps35
    go_wp2_with fail
    refine (II.out _).mono ?_
    rintro e w' ⟨rfl, rfl⟩
    go_wp2_with fail
    exact bodyPost_ret (v := .agg #[.int .i64 0, .int .i64 0, .int .i64 0]) (by simp [results, Try.results35, go_sem]) rfl ⟨rfl, (Below.refl _ _).alloc (Nat.le_refl _) _⟩

@[go_sem] theorem fld_space0 (x y z : Value) (w : World) : (Instr.field 51 (.agg #[x, y, z]) 0).run Try.prog w = .ok x w := by kernel_rfl
@[go_sem] theorem fld_space1 (x y z : Value) (w : World) : (Instr.field 51 (.agg #[x, y, z]) 1).run Try.prog w = .ok y w := by kernel_rfl
@[go_sem] theorem fld_space2 (x y z : Value) (w : World) : (Instr.field 51 (.agg #[x, y, z]) 2).run Try.prog w = .ok z w := by kernel_rfl
theorem Ar.Ok.sizes {A : Ar} (h : A.Ok) (s : Int) : 0 ≤ A.first s ∧ A.first s ≤ A.top s ∧ A.top s ≤ A.behind s ∧ A.behind s ≤ 262145 := by
  obtain ⟨cv, len, rng, a1, b1, a2, b2, a3, b3, a4, b4, fr⟩ := h
  obtain ⟨e0, e1, s0, s1, t0, t1⟩ := Cfg.bd cv
  unfold Ar.first Ar.top Ar.behind
  by_cases c1 : s = 1
  · rw [if_pos c1, if_pos c1, if_pos c1]; omega
  rw [if_neg c1, if_neg c1, if_neg c1]
  by_cases c2 : s = 2
  · rw [if_pos c2, if_pos c2, if_pos c2]; omega
  rw [if_neg c2, if_neg c2, if_neg c2]
  by_cases c3 : s = 3
  · rw [if_pos c3, if_pos c3, if_pos c3]; omega
  rw [if_neg c3, if_neg c3, if_neg c3]
  by_cases c4 : s = 4
  · rw [if_pos c4, if_pos c4, if_pos c4]; omega
  rw [if_neg c4, if_neg c4, if_neg c4]; omega

theorem free_any (b wb : Nat) (A : Ar) (s : Int) (w : World) (h : ArAt w b wb A) (ok : A.Ok) : Calls Try.prog 33 #[.pointer (some ⟨b, 0, none⟩), .int .i64 s] w fun e w' => e = .returned (.int .i64 (A.free s)) ∧ Below w.heap.size w w' := by
  have O := Lib.hid (fun W (hb : Below w.heap.size w W) => of_any b wb A s W (h.below hb))
  have hz := ok.sizes s
  unfold Ar.free
  generalize A.first s = x at *
  generalize A.behind s = y at *
  generalize A.top s = z at *
  clear h ok
  go_enter Try.func33, Try.ntmps33
  go_wp2_with fail
  refine (O.out _ (Below.refl _ _)).mono ?_
  rintro e w1 ⟨rfl, hb⟩
  go_wp2_with fail
  refine (O.out _ hb).mono ?_
  rintro e w2 ⟨rfl, hb2⟩
  have hb3 := hb.trans (hb2.mono hb.size)
  go_wp2_with fail
  go_ret
  exact ⟨rfl, hb3⟩
