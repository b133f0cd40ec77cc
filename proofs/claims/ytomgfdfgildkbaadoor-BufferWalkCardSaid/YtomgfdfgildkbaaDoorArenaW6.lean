/- The walks of package arena, sixth part: Cut. -/
import Derived.Test.YtomgfdfgildkbaaDoorArenaW5
namespace Go.Proofs.YtomgfdfgildkbaaDoor
open Go.RowKit Go.BigFrame

set_option maxHeartbeats 1000000 in
theorem cut_1 (b wb : Nat) (A : Ar) (t : Int) (w : World) (h : ArAt w b wb A) :
    Calls Tryd.prog 51 #[.pointer (some ⟨b, 0, none⟩), .int .i64 1, .int .i64 t] w fun e w' => e = .returned (.bool (inB t (1) A.t1)) ∧ ArAt w' b wb (if inB t (1) A.t1 = true then A.setTop 1 t else A) ∧ Only [b, wb] w w' := by
  have I := fun w => is_any 1 w
  rw [show isSp 1 = true by decide] at I
  have W := fun w => within_any t (1) A.t1 w
  obtain ⟨hc, hf⟩ := h.cells
  unfold arCells at hc
  have HH := Lib.hid h
  clear h
  have II := Lib.hid I
  by_cases q : inB t (1) A.t1 = true
  · rw [q] at W
    rw [q, if_pos rfl]
    have WW := Lib.hid W
    clear I W q
    go_enter Tryd.func51, Tryd.ntmps51
    go_wp2_with fail
    go_big_quiet ((first | (go_at_call 91; exact quiet_mine (II.out _)) | (go_at_call 90; exact quiet_mine (WW.out _))))
    go_wp2_with fail
    go_ret
    have hz := HH.out.drewN nq
    refine ⟨rfl, ⟨?_, ?_, hz.ne⟩, ((Only.refl _ _).setCell (by simp) _).drewN nq⟩
    · show (w.setCell _ _).heap[b]? = _
      rw [block_set HH.out.st]; simp [arCells, Ar.setTop]
    · show (w.setCell _ _).heap[wb]? = _
      rw [block_set_ne (Ne.symm hz.ne), HH.out.ws]; simp [Ar.setTop]
  · have q' : inB t (1) A.t1 = false := by simpa using q
    rw [q'] at W
    rw [q', if_neg (by simp)]
    have WW := Lib.hid W
    clear I W q q'
    go_enter Tryd.func51, Tryd.ntmps51
    go_wp2_with fail
    go_big_quiet ((first | (go_at_call 91; exact quiet_mine (II.out _)) | (go_at_call 90; exact quiet_mine (WW.out _))))
    go_wp2_with fail
    go_ret
    exact ⟨rfl, HH.out.drewN nq, (Only.refl _ _).drewN nq⟩

set_option maxHeartbeats 1000000 in
theorem cut_2 (b wb : Nat) (A : Ar) (t : Int) (w : World) (h : ArAt w b wb A) :
    Calls Tryd.prog 51 #[.pointer (some ⟨b, 0, none⟩), .int .i64 2, .int .i64 t] w fun e w' => e = .returned (.bool (inB t (1 + A.cfg.eden) A.t2)) ∧ ArAt w' b wb (if inB t (1 + A.cfg.eden) A.t2 = true then A.setTop 2 t else A) ∧ Only [b, wb] w w' := by
  have I := fun w => is_any 2 w
  rw [show isSp 2 = true by decide] at I
  have W := fun w => within_any t (1 + A.cfg.eden) A.t2 w
  obtain ⟨hc, hf⟩ := h.cells
  unfold arCells at hc
  have HH := Lib.hid h
  clear h
  have II := Lib.hid I
  by_cases q : inB t (1 + A.cfg.eden) A.t2 = true
  · rw [q] at W
    rw [q, if_pos rfl]
    have WW := Lib.hid W
    clear I W q
    go_enter Tryd.func51, Tryd.ntmps51
    go_wp2_with fail
    go_big_quiet ((first | (go_at_call 91; exact quiet_mine (II.out _)) | (go_at_call 90; exact quiet_mine (WW.out _))))
    go_wp2_with fail
    go_ret
    have hz := HH.out.drewN nq
    refine ⟨rfl, ⟨?_, ?_, hz.ne⟩, ((Only.refl _ _).setCell (by simp) _).drewN nq⟩
    · show (w.setCell _ _).heap[b]? = _
      rw [block_set HH.out.st]; simp [arCells, Ar.setTop]
    · show (w.setCell _ _).heap[wb]? = _
      rw [block_set_ne (Ne.symm hz.ne), HH.out.ws]; simp [Ar.setTop]
  · have q' : inB t (1 + A.cfg.eden) A.t2 = false := by simpa using q
    rw [q'] at W
    rw [q', if_neg (by simp)]
    have WW := Lib.hid W
    clear I W q q'
    go_enter Tryd.func51, Tryd.ntmps51
    go_wp2_with fail
    go_big_quiet ((first | (go_at_call 91; exact quiet_mine (II.out _)) | (go_at_call 90; exact quiet_mine (WW.out _))))
    go_wp2_with fail
    go_ret
    exact ⟨rfl, HH.out.drewN nq, (Only.refl _ _).drewN nq⟩

set_option maxHeartbeats 1000000 in
theorem cut_3 (b wb : Nat) (A : Ar) (t : Int) (w : World) (h : ArAt w b wb A) :
    Calls Tryd.prog 51 #[.pointer (some ⟨b, 0, none⟩), .int .i64 3, .int .i64 t] w fun e w' => e = .returned (.bool (inB t (1 + A.cfg.eden + A.cfg.surv) A.t3)) ∧ ArAt w' b wb (if inB t (1 + A.cfg.eden + A.cfg.surv) A.t3 = true then A.setTop 3 t else A) ∧ Only [b, wb] w w' := by
  have I := fun w => is_any 3 w
  rw [show isSp 3 = true by decide] at I
  have W := fun w => within_any t (1 + A.cfg.eden + A.cfg.surv) A.t3 w
  obtain ⟨hc, hf⟩ := h.cells
  unfold arCells at hc
  have HH := Lib.hid h
  clear h
  have II := Lib.hid I
  by_cases q : inB t (1 + A.cfg.eden + A.cfg.surv) A.t3 = true
  · rw [q] at W
    rw [q, if_pos rfl]
    have WW := Lib.hid W
    clear I W q
    go_enter Tryd.func51, Tryd.ntmps51
    go_wp2_with fail
    go_big_quiet ((first | (go_at_call 91; exact quiet_mine (II.out _)) | (go_at_call 90; exact quiet_mine (WW.out _))))
    go_wp2_with fail
    go_ret
    have hz := HH.out.drewN nq
    refine ⟨rfl, ⟨?_, ?_, hz.ne⟩, ((Only.refl _ _).setCell (by simp) _).drewN nq⟩
    · show (w.setCell _ _).heap[b]? = _
      rw [block_set HH.out.st]; simp [arCells, Ar.setTop]
    · show (w.setCell _ _).heap[wb]? = _
      rw [block_set_ne (Ne.symm hz.ne), HH.out.ws]; simp [Ar.setTop]
  · have q' : inB t (1 + A.cfg.eden + A.cfg.surv) A.t3 = false := by simpa using q
    rw [q'] at W
    rw [q', if_neg (by simp)]
    have WW := Lib.hid W
    clear I W q q'
    go_enter Tryd.func51, Tryd.ntmps51
    go_wp2_with fail
    go_big_quiet ((first | (go_at_call 91; exact quiet_mine (II.out _)) | (go_at_call 90; exact quiet_mine (WW.out _))))
    go_wp2_with fail
    go_ret
    exact ⟨rfl, HH.out.drewN nq, (Only.refl _ _).drewN nq⟩

set_option maxHeartbeats 1000000 in
theorem cut_4 (b wb : Nat) (A : Ar) (t : Int) (w : World) (h : ArAt w b wb A) :
    Calls Tryd.prog 51 #[.pointer (some ⟨b, 0, none⟩), .int .i64 4, .int .i64 t] w fun e w' => e = .returned (.bool (inB t (1 + A.cfg.eden + A.cfg.surv + A.cfg.surv) A.t4)) ∧ ArAt w' b wb (if inB t (1 + A.cfg.eden + A.cfg.surv + A.cfg.surv) A.t4 = true then A.setTop 4 t else A) ∧ Only [b, wb] w w' := by
  have I := fun w => is_any 4 w
  rw [show isSp 4 = true by decide] at I
  have W := fun w => within_any t (1 + A.cfg.eden + A.cfg.surv + A.cfg.surv) A.t4 w
  obtain ⟨hc, hf⟩ := h.cells
  unfold arCells at hc
  have HH := Lib.hid h
  clear h
  have II := Lib.hid I
  by_cases q : inB t (1 + A.cfg.eden + A.cfg.surv + A.cfg.surv) A.t4 = true
  · rw [q] at W
    rw [q, if_pos rfl]
    have WW := Lib.hid W
    clear I W q
    go_enter Tryd.func51, Tryd.ntmps51
    go_wp2_with fail
    go_big_quiet ((first | (go_at_call 91; exact quiet_mine (II.out _)) | (go_at_call 90; exact quiet_mine (WW.out _))))
    go_wp2_with fail
    go_ret
    have hz := HH.out.drewN nq
    refine ⟨rfl, ⟨?_, ?_, hz.ne⟩, ((Only.refl _ _).setCell (by simp) _).drewN nq⟩
    · show (w.setCell _ _).heap[b]? = _
      rw [block_set HH.out.st]; simp [arCells, Ar.setTop]
    · show (w.setCell _ _).heap[wb]? = _
      rw [block_set_ne (Ne.symm hz.ne), HH.out.ws]; simp [Ar.setTop]
  · have q' : inB t (1 + A.cfg.eden + A.cfg.surv + A.cfg.surv) A.t4 = false := by simpa using q
    rw [q'] at W
    rw [q', if_neg (by simp)]
    have WW := Lib.hid W
    clear I W q q'
    go_enter Tryd.func51, Tryd.ntmps51
    go_wp2_with fail
    go_big_quiet ((first | (go_at_call 91; exact quiet_mine (II.out _)) | (go_at_call 90; exact quiet_mine (WW.out _))))
    go_wp2_with fail
    go_ret
    exact ⟨rfl, HH.out.drewN nq, (Only.refl _ _).drewN nq⟩

theorem cut_none (b wb : Nat) (A : Ar) (s t : Int) (w : World) (h : ArAt w b wb A) (hs : isSp s = false) :
    Calls Tryd.prog 51 #[.pointer (some ⟨b, 0, none⟩), .int .i64 s, .int .i64 t] w fun e w' => e = .returned (.bool false) ∧ ArAt w' b wb A ∧ Only [b, wb] w w' := by
  have I := fun w => is_any s w
  rw [hs] at I
  have HH := Lib.hid h
  have II := Lib.hid I
  clear I h hs
  go_enter Tryd.func51, Tryd.ntmps51
  go_wp2_with fail
  go_big_quiet ((go_at_call 91; exact quiet_mine (II.out _)))
  go_wp2_with fail
  go_ret
  exact ⟨rfl, HH.out.drewN nq, (Only.refl _ _).drewN nq⟩

def Ar.cuts (A : Ar) (s t : Int) : Bool := isSp s && inB t (A.first s) (A.top s)
theorem cut_any (b wb : Nat) (A : Ar) (s t : Int) (w : World) (h : ArAt w b wb A) :
    Calls Tryd.prog 51 #[.pointer (some ⟨b, 0, none⟩), .int .i64 s, .int .i64 t] w fun e w' => e = .returned (.bool (A.cuts s t)) ∧ ArAt w' b wb (if A.cuts s t = true then A.setTop s t else A) ∧ Only [b, wb] w w' := by
  by_cases hs : isSp s = true
  · unfold Ar.cuts
    rw [hs, Bool.true_and]
    unfold isSp at hs
    have hs' : s = 1 ∨ s = 2 ∨ s = 3 ∨ s = 4 := by have := of_decide_eq_true hs; omega
    rcases hs' with rfl | rfl | rfl | rfl
    · exact cut_1 b wb A t w h
    · exact cut_2 b wb A t w h
    · exact cut_3 b wb A t w h
    · exact cut_4 b wb A t w h
  · have hs' : isSp s = false := by simpa using hs
    have e : A.cuts s t = false := by unfold Ar.cuts; rw [hs']; rfl
    rw [e, if_neg (by simp)]
    exact cut_none b wb A s t w h hs'
end Go.Proofs.YtomgfdfgildkbaaDoor
