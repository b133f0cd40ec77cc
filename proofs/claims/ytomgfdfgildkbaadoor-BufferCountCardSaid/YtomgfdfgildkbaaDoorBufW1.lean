/- The walks of package buffer, first part: New, Rest, Room. -/
import Derived.Test.YtomgfdfgildkbaaDoorBufP
import Derived.Test.YtomgfdfgildkbaaDoorArenaW3
import Derived.Deep.RegionHeld3
namespace Go.Proofs.YtomgfdfgildkbaaDoor
open Go.RowKit Go.BigFrame

theorem infoRest : (Tryd.prog.info? 132).map (fun i => (i.zero, i.size, i.bytes)) = some (some (.agg #[.int .i64 0, .int .i64 0]), 2, 16) := by kernel_rfl
theorem mk_rest (n : Int) (w : World) (h0 : 0 ≤ n) (h1 : n ≤ 1000) : (Instr.makeSlice 127 (.int .i64 n) (.int .i64 n)).run Tryd.prog w = .ok (.slice (some ⟨w.heap.size, 0, none⟩) n.toNat n.toNat) (w.alloc (.cells (restsC (List.replicate n.toNat (0, 0))) 132)) := by
  obtain ⟨i, hi, hz, hs, hb⟩ := info_parts infoRest
  have hr := run_make (P := Tryd.prog) w 127 132 i (.agg #[.int .i64 0, .int .i64 0]) Tryd.underlying127 hi hz .i64 .i64 n n h0 (Int.le_refl _) (by rw [hb]; omega) (by omega)
  have e : madeCells (Value.agg #[.int .i64 0, .int .i64 0]).cells (n.toNat * 2) = restsC (List.replicate n.toNat (0, 0)) := by
    rw [restsC_zero]
    apply Array.ext'
    apply List.ext_getElem?
    intro j
    by_cases hj : j < n.toNat * 2
    · rcases Nat.mod_two_eq_zero_or_one j with hm | hm <;> simp [madeCells, hj, hm, Value.cells, show j < 2 * n.toNat by omega]
    · simp [madeCells, hj, show ¬ j < 2 * n.toNat by omega]
  rw [hr, hs, e]

theorem is_buf (b rb : Nat) (B : Bu) (t : Int) (w : World) (h : BuAt w b rb B) : Calls Tryd.prog 84 #[.pointer (some ⟨b, 0, none⟩), .int .i64 t] w fun e w' => e = .returned (.bool (B.is t)) ∧ w = w' := by
  obtain ⟨hc, hf⟩ := h.cells
  unfold Bu.is
  generalize B.rests.length = n at *
  clear h
  by_cases c0 : 0 ≤ t
  · by_cases c1 : t < (n : Int)
    · rw [decide_eq_true ⟨c0, c1⟩]
      go_enter Tryd.func84, Tryd.ntmps84
      go_wp2
      go_ret
      exact ⟨rfl, rfl⟩
    · rw [decide_eq_false (fun x => c1 x.2)]
      have d1 : decide (t < (n : Int)) = false := decide_eq_false c1
      go_enter Tryd.func84, Tryd.ntmps84
      go_wp2
      go_ret
      exact ⟨rfl, rfl⟩
  · rw [decide_eq_false (fun x => c0 x.1)]
    have d1 : decide (0 ≤ t) = false := decide_eq_false c0
    go_enter Tryd.func84, Tryd.ntmps84
    go_wp2
    go_ret
    exact ⟨rfl, rfl⟩

theorem bufNew_yes (n s : Int) (w : World) (h1 : 1 ≤ n) (h2 : n ≤ 8) (h3 : 0 ≤ s) (h4 : s ≤ 65536) :
    Calls Tryd.prog 36 #[.int .i64 n, .int .i64 s] w fun e w' => ∃ b rb, e = .returned (.tuple #[.pointer (some ⟨b, 0, none⟩), .int .i64 0]) ∧ BuAt w' b rb (Bu.new n s) ∧ w.heap.size ≤ b ∧ w.heap.size ≤ rb ∧ Below w.heap.size w w' := by
  have hmk := fun w => mk_rest n w (by omega) (by omega)
  have d1 : decide (n < 1) = false := by simp; omega
  have d2 : decide (8 < n) = false := by simp; omega
  have d3 : decide (s < 0) = false := by simp; omega
  go_enter Tryd.func36, Tryd.ntmps36
  go_wp2
  go_ret2
  refine ⟨w.heap.size + 1, w.heap.size, rfl, ⟨?_, ?_, by omega⟩, by omega, Nat.le_refl _, ((Below.refl _ _).alloc (Nat.le_refl _) _).alloc (by simp) _⟩
  · rw [(heap_two _ _ _).2]; simp [Bu.new]
  · exact (heap_two _ _ _).1
theorem bufNew_no (n s : Int) (w : World) (h : ¬ (1 ≤ n ∧ n ≤ 8 ∧ 0 ≤ s ∧ s ≤ 65536)) :
    Calls Tryd.prog 36 #[.int .i64 n, .int .i64 s] w fun e w' => e = .returned (.tuple #[.pointer none, .int .i64 130]) ∧ w = w' := by
  by_cases c1 : n < 1
  · clear h
    go_enter Tryd.func36, Tryd.ntmps36
    go_wp2
    go_ret2
    exact ⟨rfl, rfl⟩
  have d1 : decide (n < 1) = false := by simp; omega
  by_cases c2 : 8 < n
  · clear h
    go_enter Tryd.func36, Tryd.ntmps36
    go_wp2
    go_ret2
    exact ⟨rfl, rfl⟩
  have d2 : decide (8 < n) = false := by simp; omega
  by_cases c3 : s < 0
  · clear h
    go_enter Tryd.func36, Tryd.ntmps36
    go_wp2
    go_ret2
    exact ⟨rfl, rfl⟩
  have d3 : decide (s < 0) = false := by simp; omega
  have c4 : 65536 < s := by omega
  clear h
  go_enter Tryd.func36, Tryd.ntmps36
  go_wp2
  go_ret2
  exact ⟨rfl, rfl⟩

def Bu.told (B : Bu) (t : Int) : Int × Int := if B.is t = true ∧ ¬ (B.rest t).2 = 0 then B.rest t else (0, 0)
theorem rest_any (b rb : Nat) (B : Bu) (t : Int) (w : World) (h : BuAt w b rb B) (ok : B.Ok) : Calls Tryd.prog 39 #[.pointer (some ⟨b, 0, none⟩), .int .i64 t] w fun e w' => e = .returned (.tuple #[.int .i64 (B.told t).1, .int .i64 (B.told t).2]) ∧ Below w.heap.size w w' := by
  have I := fun w hA => is_buf b rb B t w hA
  have II := Lib.hid (I w h)
  have n8 := ok.n8
  unfold Bu.told
  by_cases c : B.is t = true
  · have hr := h.rcell c
    obtain ⟨hc, hf⟩ := h.cells
    have ht : 0 ≤ t ∧ t < (B.rests.length : Int) := by unfold Bu.is at c; exact of_decide_eq_true c
    obtain ⟨t0, t1⟩ := ht
    have I' := Lib.hid (I w h)
    rw [c] at I'
    clear I II
    by_cases z : (B.rest t).2 = 0
    · rw [if_neg (fun x => x.2 z)]
      rw [z] at hr
      obtain ⟨r1, r2⟩ := hr
      generalize (B.rest t).1 = x at *
      generalize B.rests.length = n at *
      clear h c z ok
      go_enter Tryd.func39, Tryd.ntmps39
      go_wp2_with fail
      refine I'.out.mono ?_
      rintro e w1 ⟨rfl, rfl⟩
      go_wp2_with fail
      go_ret2
      exact ⟨rfl, Below.refl _ _⟩
    · rw [if_pos ⟨c, z⟩]
      have hz : ((B.rest t).2 == 0) = false := by simpa using z
      obtain ⟨r1, r2⟩ := hr
      generalize (B.rest t).1 = x at *
      generalize (B.rest t).2 = y at *
      generalize B.rests.length = n at *
      clear h c z ok
      go_enter Tryd.func39, Tryd.ntmps39
      go_wp2_with fail
      refine I'.out.mono ?_
      rintro e w1 ⟨rfl, rfl⟩
      go_wp2_with fail
      go_big_quiet (fail)
      go_wp2_with fail
      go_ret2
      exact ⟨rfl, below_drewN (Below.refl _ _) _⟩
  · rw [if_neg (fun x => c x.1)]
    have c' : B.is t = false := by simpa using c
    have I' := Lib.hid (I w h)
    rw [c'] at I'
    clear I II h c c' ok
    go_enter Tryd.func39, Tryd.ntmps39
    go_wp2_with fail
    refine I'.out.mono ?_
    rintro e w1 ⟨rfl, rfl⟩
    go_wp2_with fail
    go_ret2
    exact ⟨rfl, Below.refl _ _⟩

def Bu.room (B : Bu) (A : Ar) (t : Int) : Int := if B.is t = true then (if (B.rest t).2 < A.free 1 then A.free 1 else (B.rest t).2) else 0
set_option maxHeartbeats 1000000 in
theorem room_any (b rb : Nat) (B : Bu) (a wb : Nat) (A : Ar) (t : Int) (w : World) (h : BuAt w b rb B) (ok : B.Ok) (hA : ArAt w a wb A) (okA : A.Ok) :
    Calls Tryd.prog 120 #[.pointer (some ⟨b, 0, none⟩), .pointer (some ⟨a, 0, none⟩), .int .i64 t] w fun e w' => e = .returned (.int .i64 (B.room A t)) ∧ Below w.heap.size w w' := by
  have I := Lib.hid (is_buf b rb B t w h)
  have F := Lib.hid (fun W (hb : Below w.heap.size w W) => (free_any a wb A 1 W (hA.below hb) okA).mono (R' := fun e w' => e = .returned (.int .i64 (A.free 1)) ∧ Below w.heap.size w w') fun e w' ⟨h1, h2⟩ => ⟨h1, hb.trans (h2.mono hb.size)⟩)
  have n8 := ok.n8
  unfold Bu.room
  by_cases c : B.is t = true
  · have hr := h.rcell c
    have ht : 0 ≤ t ∧ t < (B.rests.length : Int) := by unfold Bu.is at c; exact of_decide_eq_true c
    obtain ⟨t0, t1⟩ := ht
    obtain ⟨hc, hf⟩ := h.cells
    have hlb := lt_of_heap h.st
    have hlr := lt_of_heap h.rs
    rw [c] at I
    rw [if_pos c]
    have h1 : w.cell? ⟨b, 1, none⟩ = some (.slice (some ⟨rb, 0, none⟩) B.rests.length B.rests.length) := by rw [hc]; rfl
    have r2 := hr.2
    generalize (B.rest t).2 = y at *
    generalize B.rests.length = n at *
    generalize A.free 1 = f at *
    clear h c ok hA okA hr hc
    by_cases q : y < f
    · rw [if_pos q]
      go_enter Tryd.func120, Tryd.ntmps120
      go_wp2_with fail
      refine I.out.mono ?_
      rintro e w1 ⟨rfl, rfl⟩
      have KEEP := Lib.hid (fun (W : World) (hb : Below w.heap.size w W) => (⟨(hb.cell (p := ⟨b, 1, none⟩) hlb).trans h1, (hb.cell (p := ⟨rb, t.toNat * 2 + 1, none⟩) hlr).trans r2, hb⟩ : W.cell? ⟨b, 1, none⟩ = some (.slice (some ⟨rb, 0, none⟩) n n) ∧ W.cell? ⟨rb, t.toNat * 2 + 1, none⟩ = some (.int .i64 y) ∧ Below w.heap.size w W))
      go_upto_region 3 with fail
      go_cut [6] (fun s wx => s = .int .i64 f ∧ Below w.heap.size w wx)
      case first =>
        go_region_held3 (fun w' => w'.cell? ⟨b, 1, none⟩ = some (.slice (some ⟨rb, 0, none⟩) n n) ∧ w'.cell? ⟨rb, t.toNat * 2 + 1, none⟩ = some (.int .i64 y) ∧ Below w.heap.size w w') (first | exact KEEP.out _ (Below.refl _ _).drew | exact KEEP.out _ (by assumption)) (first | (go_at_call 45; refine (F.out _ ?_).mono ?_; (exact (Below.refl _ _).drew); rintro e w' ⟨rfl, hb⟩))
        all_goals
          go_wp2_with fail
          go_meet
          exact ⟨rfl, by assumption⟩
      case rest =>
        obtain ⟨rfl, hb⟩ := hcut
        go_wp2_with fail
        go_ret
        exact ⟨rfl, hb⟩
    · rw [if_neg q]
      have q2 : f ≤ y := by omega
      go_enter Tryd.func120, Tryd.ntmps120
      go_wp2_with fail
      refine I.out.mono ?_
      rintro e w1 ⟨rfl, rfl⟩
      have KEEP := Lib.hid (fun (W : World) (hb : Below w.heap.size w W) => (⟨(hb.cell (p := ⟨b, 1, none⟩) hlb).trans h1, (hb.cell (p := ⟨rb, t.toNat * 2 + 1, none⟩) hlr).trans r2, hb⟩ : W.cell? ⟨b, 1, none⟩ = some (.slice (some ⟨rb, 0, none⟩) n n) ∧ W.cell? ⟨rb, t.toNat * 2 + 1, none⟩ = some (.int .i64 y) ∧ Below w.heap.size w W))
      go_upto_region 3 with fail
      go_cut [6] (fun s wx => s = .int .i64 y ∧ Below w.heap.size w wx)
      case first =>
        go_region_held3 (fun w' => w'.cell? ⟨b, 1, none⟩ = some (.slice (some ⟨rb, 0, none⟩) n n) ∧ w'.cell? ⟨rb, t.toNat * 2 + 1, none⟩ = some (.int .i64 y) ∧ Below w.heap.size w w') (first | exact KEEP.out _ (Below.refl _ _).drew | exact KEEP.out _ (by assumption)) (first | (go_at_call 45; refine (F.out _ ?_).mono ?_; (exact (Below.refl _ _).drew); rintro e w' ⟨rfl, hb⟩))
        all_goals
          go_wp2_with fail
          go_meet
          exact ⟨rfl, by assumption⟩
      case rest =>
        obtain ⟨rfl, hb⟩ := hcut
        go_wp2_with fail
        go_ret
        exact ⟨rfl, hb⟩
  · rw [if_neg c]
    have c' : B.is t = false := by simpa using c
    rw [c'] at I
    clear h c c' ok hA okA F
    go_enter Tryd.func120, Tryd.ntmps120
    go_wp2_with fail
    refine I.out.mono ?_
    rintro e w1 ⟨rfl, rfl⟩
    go_wp2_with fail
    go_ret
    exact ⟨rfl, Below.refl _ _⟩
end Go.Proofs.YtomgfdfgildkbaaDoor
