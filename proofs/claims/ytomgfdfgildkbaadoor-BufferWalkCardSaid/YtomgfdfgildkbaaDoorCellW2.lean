/- The walks of package cell, second part: Pack, Unpack, Size. -/
import Derived.Test.YtomgfdfgildkbaaDoorCellW
import Derived.Outline
namespace Go.Proofs.YtomgfdfgildkbaaDoor
open Go.RowKit Go.BigFrame

@[go_sem] theorem idx6_0 (a0 a1 a2 a3 a4 a5 : Value) (w : World) : (Instr.index 114 (.agg #[a0, a1, a2, a3, a4, a5]) (.int .i64 0)).run Tryd.prog w = .ok a0 w := by kernel_rfl
@[go_sem] theorem idx6_1 (a0 a1 a2 a3 a4 a5 : Value) (w : World) : (Instr.index 114 (.agg #[a0, a1, a2, a3, a4, a5]) (.int .i64 1)).run Tryd.prog w = .ok a1 w := by kernel_rfl
@[go_sem] theorem idx6_2 (a0 a1 a2 a3 a4 a5 : Value) (w : World) : (Instr.index 114 (.agg #[a0, a1, a2, a3, a4, a5]) (.int .i64 2)).run Tryd.prog w = .ok a2 w := by kernel_rfl
@[go_sem] theorem idx6_3 (a0 a1 a2 a3 a4 a5 : Value) (w : World) : (Instr.index 114 (.agg #[a0, a1, a2, a3, a4, a5]) (.int .i64 3)).run Tryd.prog w = .ok a3 w := by kernel_rfl
@[go_sem] theorem idx6_4 (a0 a1 a2 a3 a4 a5 : Value) (w : World) : (Instr.index 114 (.agg #[a0, a1, a2, a3, a4, a5]) (.int .i64 4)).run Tryd.prog w = .ok a4 w := by kernel_rfl
@[go_sem] theorem idx6_5 (a0 a1 a2 a3 a4 a5 : Value) (w : World) : (Instr.index 114 (.agg #[a0, a1, a2, a3, a4, a5]) (.int .i64 5)).run Tryd.prog w = .ok a5 w := by kernel_rfl

theorem pack_no (h : Hd) (w : World) (ht : Tab w) (f : ¬ chk h = 0) :
    Calls Tryd.prog 14 #[h.val] w fun e w' => e = .returned (.tuple #[.int .u64 (pack h), .int .i64 (chk h)]) ∧ Below w.heap.size w w' := by
  have CC := Lib.hid (fun (W : World) (hb : Below w.heap.size w W) => check_any h W (ht.below hb))
  have hp : pack h = 0 := by unfold pack; rw [if_neg f]
  rw [hp]; clear hp
  have f1 : (chk h == 0) = false := by simpa using f
  generalize chk h = c at *
  clear f
  unfold Hd.val at *
  obtain ⟨ser, kind, ptrs, raws, age, site, held⟩ := h
  simp only at *
  go_enter Tryd.func14, Tryd.ntmps14
  go_wp2_with fail
  refine (CC.out _ ((Below.refl _ _).alloc (Nat.le_refl _) _)).mono ?_
  rintro e w' ⟨rfl, hb⟩
  obtain ⟨hX, hb0, hz⟩ := kept_new hb
  clear hX hb
  go_wp2_with fail
  go_ret2
  exact ⟨rfl, hb0⟩

set_option maxHeartbeats 1000000 in
theorem pack_yes (h : Hd) (w : World) (ht : Tab w) (f : Fine h) :
    Calls Tryd.prog 14 #[h.val] w fun e w' => e = .returned (.tuple #[.int .u64 (enc h), .int .i64 0]) ∧ Below w.heap.size w w' := by
  have cc := fun (W : World) (hb : Below w.heap.size w W) => check_any h W (ht.below hb)
  rw [(chk_iff h).2 f] at cc
  have CC := Lib.hid cc; clear cc
  obtain ⟨fk0, fk1, fp0, fp1, fr0, fr1, fa0, fa1, fs0, fs1, -, -⟩ := f
  unfold Hd.val at *
  obtain ⟨ser, kind, ptrs, raws, age, site, held⟩ := h
  simp only at *
  have P := Lib.hid (@pack_or kind age site ptrs raws held (by omega) (by omega) (by omega) (by omega) (by omega) (by omega) (by omega) (by omega) (by omega) (by omega))
  cases held
  all_goals
    go_enter Tryd.func14, Tryd.ntmps14
    go_wp2_with fail
    refine (CC.out _ ((Below.refl _ _).alloc (Nat.le_refl _) _)).mono ?_
    rintro e w' ⟨rfl, hb⟩
    obtain ⟨hX, hb0, hz⟩ := kept_new hb
    obtain ⟨hc, hf⟩ := hcell hX
    clear hX hb
    obtain ⟨-, -, -, -, -, w0, w1, w2, w3, w4, w5, -, htt⟩ := ht.below hb0
    have hne : ¬ w'.heap = #[] := by intro h; rw [h] at htt; simp at htt
    go_wp2_with fail
    refine wp_loop_rounds 7 ?_
    iterate 7 (rw [rounds_succ]; go_wp2_with fail)
    go_ret2
    refine ⟨?_, ?_⟩
    · refine Eq.trans ?_ (congrArg (fun x => Ending.returned (Value.tuple #[.int .u64 x, .int .i64 0])) P.out)
      rfl
    · first | exact hb0.alloc (by omega) _ | exact (hb0.alloc (by omega) _).setCell (by simp; omega) _

theorem pack_any (h : Hd) (w : World) (ht : Tab w) :
    Calls Tryd.prog 14 #[h.val] w fun e w' => e = .returned (.tuple #[.int .u64 (pack h), .int .i64 (chk h)]) ∧ Below w.heap.size w w' := by
  by_cases f : chk h = 0
  · have hp : pack h = enc h := by unfold pack; rw [if_pos f]
    rw [hp, f]
    exact pack_yes h w ht ((chk_iff h).1 f)
  · exact pack_no h w ht f
end Go.Proofs.YtomgfdfgildkbaaDoor
