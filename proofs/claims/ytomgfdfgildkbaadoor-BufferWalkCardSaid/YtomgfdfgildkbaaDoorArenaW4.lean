/- The walks of package arena, fourth part: the space of an address; words taken and given back. -/
import Derived.Test.YtomgfdfgildkbaaDoorArenaW3
import Derived.StillTailTactics
import Derived.Lib.SliceRun
namespace Go.Proofs.YtomgfdfgildkbaaDoor
open Go.RowKit Go.BigFrame

theorem clr_u64 (w : World) (wb : Nat) (l : List Int) (o n c : Nat) (ty : TypeId) (hw : w.heap[wb]? = some (.cells (u64s l) 22 (0, 0))) (h : o + n ≤ l.length) (hn : 0 < n) :
    (Builtin.clear_ #[98] ty #[.slice (some ⟨wb, o, none⟩) n c]).run Tryd.prog w = .ok (.tuple #[]) (w.setRow wb (u64s (zeroAt l o n))) := by
  have hzc : (Builtin.zeroCells (Value.int IntKind.u64 0).cells n).toList = List.replicate n (Value.int .u64 0) := by
    rw [show (Value.int IntKind.u64 0).cells = #[.int .u64 0] from rfl]
    simp [Builtin.zeroCells]
    apply List.ext_getElem
    · simp
    · intro i h1 h2
      simp [Nat.mod_one]
  have hv : ∀ w, (zeroValue 22).run Tryd.prog w = .ok (.int .u64 0) w := fun w => by kernel_rfl
  have hst := run_storeCells_at Tryd.prog wb o 22 (List.replicate n (Value.int .u64 0)) 0 (u64s l) w hw (by simp [u64s_size]; omega) (by intro v hv'; rw [List.eq_of_mem_replicate hv']; rfl)
  have e : ((u64s l).toList.take (o + 0) ++ List.replicate n (Value.int .u64 0) ++ (u64s l).toList.drop (o + 0 + (List.replicate n (Value.int IntKind.u64 0)).length)).toArray = u64s (zeroAt l o n) := by
    simp [u64s, zeroAt]
  rw [e] at hst
  obtain ⟨m, rfl⟩ : ∃ m, n = m + 1 := ⟨n - 1, by omega⟩
  simp [Builtin.clear_, run_underlying Tryd.underlying98, hv, hzc, hst]

theorem ArAt.zero {w : World} {b wb : Nat} {A : Ar} (h : ArAt w b wb A) (o n : Nat) (hl : o + n ≤ A.words.length) : ArAt (w.setRow wb (u64s (zeroAt A.words o n))) b wb { A with words := zeroAt A.words o n } := by
  refine ⟨?_, setRow_heap w wb _ _ _ _ h.ws, h.ne⟩
  rw [setRow_other _ _ _ _ h.ne, h.st]
  simp [arCells, zeroAt_length hl]

set_option maxHeartbeats 1000000 in
theorem space_any (b wb : Nat) (A : Ar) (i : Int) (w : World) (h : ArAt w b wb A) (ok : A.Ok) : Calls Tryd.prog 44 #[.pointer (some ⟨b, 0, none⟩), .int .i64 i] w fun e w' => e = .returned (.int .i64 (A.space i)) ∧ w = w' := by
  obtain ⟨hc, hf⟩ := h.cells
  obtain ⟨e0, e1, s0, s1, t0, t1⟩ := Cfg.bd ok.cv
  unfold arCells at hc
  have hcase : i < 1 ∨ (1 ≤ i ∧ i < 1 + A.cfg.eden) ∨ (1 + A.cfg.eden ≤ i ∧ i < 1 + A.cfg.eden + A.cfg.surv) ∨ (1 + A.cfg.eden + A.cfg.surv ≤ i ∧ i < 1 + A.cfg.eden + A.cfg.surv + A.cfg.surv) ∨ (1 + A.cfg.eden + A.cfg.surv + A.cfg.surv ≤ i ∧ i < 1 + A.cfg.eden + A.cfg.surv + A.cfg.surv + A.cfg.ten) ∨ 1 + A.cfg.eden + A.cfg.surv + A.cfg.surv + A.cfg.ten ≤ i := by omega
  clear h ok
  unfold Ar.space
  generalize A.cfg.eden = E at *
  generalize A.cfg.surv = S at *
  generalize A.cfg.ten = T at *
  rcases hcase with c | c | c | c | c | c
  · have G : (if i < 1 then (0 : Int) else if i < 1 + E then 1 else if i < 1 + E + S then 2 else if i < 1 + E + S + S then 3 else if i < 1 + E + S + S + T then 4 else 0) = 0 := by (repeat (first | rw [if_pos (by omega)] | rw [if_neg (by omega)]))
    rw [G]; clear G
    have l0 : i < 1 := by omega
    have m0 : decide (1 ≤ i) = false := by simp; omega
    have l1 : i < 1 + E := by omega
    have m1 : decide (1 + E ≤ i) = false := by simp; omega
    have l2 : i < 1 + E + S := by omega
    have m2 : decide (1 + E + S ≤ i) = false := by simp; omega
    have l3 : i < 1 + E + S + S := by omega
    have m3 : decide (1 + E + S + S ≤ i) = false := by simp; omega
    have l4 : i < 1 + E + S + S + T := by omega
    have m4 : decide (1 + E + S + S + T ≤ i) = false := by simp; omega
    clear c
    go_enter Tryd.func44, Tryd.ntmps44
    go_wp2
    refine wp_loop_rounds 6 ?_
    iterate 6 (try (rw [rounds_succ]; go_wp2))
    go_ret
    exact ⟨rfl, rfl⟩
  · have G : (if i < 1 then (0 : Int) else if i < 1 + E then 1 else if i < 1 + E + S then 2 else if i < 1 + E + S + S then 3 else if i < 1 + E + S + S + T then 4 else 0) = 1 := by (repeat (first | rw [if_pos (by omega)] | rw [if_neg (by omega)]))
    rw [G]; clear G
    have l0 : 1 ≤ i := by omega
    have m0 : decide (i < 1) = false := by simp; omega
    have l1 : i < 1 + E := by omega
    have m1 : decide (1 + E ≤ i) = false := by simp; omega
    have l2 : i < 1 + E + S := by omega
    have m2 : decide (1 + E + S ≤ i) = false := by simp; omega
    have l3 : i < 1 + E + S + S := by omega
    have m3 : decide (1 + E + S + S ≤ i) = false := by simp; omega
    have l4 : i < 1 + E + S + S + T := by omega
    have m4 : decide (1 + E + S + S + T ≤ i) = false := by simp; omega
    clear c
    go_enter Tryd.func44, Tryd.ntmps44
    go_wp2
    refine wp_loop_rounds 6 ?_
    iterate 6 (try (rw [rounds_succ]; go_wp2))
    go_ret
    exact ⟨rfl, rfl⟩
  · have G : (if i < 1 then (0 : Int) else if i < 1 + E then 1 else if i < 1 + E + S then 2 else if i < 1 + E + S + S then 3 else if i < 1 + E + S + S + T then 4 else 0) = 2 := by (repeat (first | rw [if_pos (by omega)] | rw [if_neg (by omega)]))
    rw [G]; clear G
    have l0 : 1 ≤ i := by omega
    have m0 : decide (i < 1) = false := by simp; omega
    have l1 : 1 + E ≤ i := by omega
    have m1 : decide (i < 1 + E) = false := by simp; omega
    have l2 : i < 1 + E + S := by omega
    have m2 : decide (1 + E + S ≤ i) = false := by simp; omega
    have l3 : i < 1 + E + S + S := by omega
    have m3 : decide (1 + E + S + S ≤ i) = false := by simp; omega
    have l4 : i < 1 + E + S + S + T := by omega
    have m4 : decide (1 + E + S + S + T ≤ i) = false := by simp; omega
    clear c
    go_enter Tryd.func44, Tryd.ntmps44
    go_wp2
    refine wp_loop_rounds 6 ?_
    iterate 6 (try (rw [rounds_succ]; go_wp2))
    go_ret
    exact ⟨rfl, rfl⟩
  · have G : (if i < 1 then (0 : Int) else if i < 1 + E then 1 else if i < 1 + E + S then 2 else if i < 1 + E + S + S then 3 else if i < 1 + E + S + S + T then 4 else 0) = 3 := by (repeat (first | rw [if_pos (by omega)] | rw [if_neg (by omega)]))
    rw [G]; clear G
    have l0 : 1 ≤ i := by omega
    have m0 : decide (i < 1) = false := by simp; omega
    have l1 : 1 + E ≤ i := by omega
    have m1 : decide (i < 1 + E) = false := by simp; omega
    have l2 : 1 + E + S ≤ i := by omega
    have m2 : decide (i < 1 + E + S) = false := by simp; omega
    have l3 : i < 1 + E + S + S := by omega
    have m3 : decide (1 + E + S + S ≤ i) = false := by simp; omega
    have l4 : i < 1 + E + S + S + T := by omega
    have m4 : decide (1 + E + S + S + T ≤ i) = false := by simp; omega
    clear c
    go_enter Tryd.func44, Tryd.ntmps44
    go_wp2
    refine wp_loop_rounds 6 ?_
    iterate 6 (try (rw [rounds_succ]; go_wp2))
    go_ret
    exact ⟨rfl, rfl⟩
  · have G : (if i < 1 then (0 : Int) else if i < 1 + E then 1 else if i < 1 + E + S then 2 else if i < 1 + E + S + S then 3 else if i < 1 + E + S + S + T then 4 else 0) = 4 := by (repeat (first | rw [if_pos (by omega)] | rw [if_neg (by omega)]))
    rw [G]; clear G
    have l0 : 1 ≤ i := by omega
    have m0 : decide (i < 1) = false := by simp; omega
    have l1 : 1 + E ≤ i := by omega
    have m1 : decide (i < 1 + E) = false := by simp; omega
    have l2 : 1 + E + S ≤ i := by omega
    have m2 : decide (i < 1 + E + S) = false := by simp; omega
    have l3 : 1 + E + S + S ≤ i := by omega
    have m3 : decide (i < 1 + E + S + S) = false := by simp; omega
    have l4 : i < 1 + E + S + S + T := by omega
    have m4 : decide (1 + E + S + S + T ≤ i) = false := by simp; omega
    clear c
    go_enter Tryd.func44, Tryd.ntmps44
    go_wp2
    refine wp_loop_rounds 6 ?_
    iterate 6 (try (rw [rounds_succ]; go_wp2))
    go_ret
    exact ⟨rfl, rfl⟩
  · have G : (if i < 1 then (0 : Int) else if i < 1 + E then 1 else if i < 1 + E + S then 2 else if i < 1 + E + S + S then 3 else if i < 1 + E + S + S + T then 4 else 0) = 0 := by (repeat (first | rw [if_pos (by omega)] | rw [if_neg (by omega)]))
    rw [G]; clear G
    have l0 : 1 ≤ i := by omega
    have m0 : decide (i < 1) = false := by simp; omega
    have l1 : 1 + E ≤ i := by omega
    have m1 : decide (i < 1 + E) = false := by simp; omega
    have l2 : 1 + E + S ≤ i := by omega
    have m2 : decide (i < 1 + E + S) = false := by simp; omega
    have l3 : 1 + E + S + S ≤ i := by omega
    have m3 : decide (i < 1 + E + S + S) = false := by simp; omega
    have l4 : 1 + E + S + S + T ≤ i := by omega
    have m4 : decide (i < 1 + E + S + S + T) = false := by simp; omega
    clear c
    go_enter Tryd.func44, Tryd.ntmps44
    go_wp2
    refine wp_loop_rounds 6 ?_
    iterate 6 (try (rw [rounds_succ]; go_wp2))
    go_ret
    exact ⟨rfl, rfl⟩

theorem young_any (b wb : Nat) (A : Ar) (i : Int) (w : World) (h : ArAt w b wb A) (ok : A.Ok) : Calls Tryd.prog 46 #[.pointer (some ⟨b, 0, none⟩), .int .i64 i] w fun e w' => e = .returned (.bool (A.young i)) ∧ w = w' := by
  obtain ⟨hc, hf⟩ := h.cells
  have S := Lib.hid (space_any b wb A i w h ok)
  unfold arCells at hc
  unfold Ar.young
  generalize A.space i = s at *
  generalize A.frm = fr at *
  clear h ok
  by_cases c : s = 1
  · subst c
    rw [decide_eq_true (Or.inl rfl)]
    go_enter Tryd.func46, Tryd.ntmps46
    go_wp2_with fail
    refine S.out.mono ?_
    rintro e w1 ⟨rfl, rfl⟩
    go_wp2_with fail
    go_ret
    exact ⟨rfl, rfl⟩
  · have d : (s == 1) = false := by simpa using c
    have e : decide (s = 1 ∨ s = fr) = (s == fr) := by by_cases q : s = fr <;> simp [c, q]
    rw [e]
    clear c e
    go_enter Tryd.func46, Tryd.ntmps46
    go_wp2_with fail
    refine S.out.mono ?_
    rintro e w1 ⟨rfl, rfl⟩
    go_wp2_with fail
    go_ret
    exact ⟨rfl, rfl⟩
end Go.Proofs.YtomgfdfgildkbaaDoor
