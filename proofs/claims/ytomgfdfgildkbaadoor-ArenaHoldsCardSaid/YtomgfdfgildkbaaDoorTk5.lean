/- middenlaw3.sameHead; the cells of a row of headers. -/
import Derived.Test.YtomgfdfgildkbaaDoorTk4
namespace Go.Proofs.YtomgfdfgildkbaaDoor
open Go.RowKit Go.BigFrame

def hdEq (g h : Hd) : Bool := decide (g.ser = h.ser ∧ g.kind = h.kind ∧ g.ptrs = h.ptrs ∧ g.raws = h.raws ∧ g.age = h.age ∧ g.site = h.site ∧ g.held = h.held)
theorem hdEq_iff {g h : Hd} : hdEq g h = true ↔ g = h := by
  unfold hdEq
  rw [decide_eq_true_iff]
  constructor
  · intro ⟨h1, h2, h3, h4, h5, h6, h7⟩
    cases g; cases h; simp_all
  · rintro rfl; simp
set_option maxRecDepth 100000 in
set_option maxHeartbeats 4000000 in
theorem sameHead_any (g h : Hd) (w : World) : Calls Tryd.prog 96 #[g.val, h.val] w fun e w' => e = .returned (.bool (hdEq g h)) ∧ Below w.heap.size w w' := by
  obtain ⟨a0, a1, a2, a3, a4, a5, a6⟩ := g
  obtain ⟨b0, b1, b2, b3, b4, b5, b6⟩ := h
  have H0 : hdEq ⟨a0, a1, a2, a3, a4, a5, a6⟩ ⟨b0, b1, b2, b3, b4, b5, b6⟩ = decide (a0 = b0 ∧ a1 = b1 ∧ a2 = b2 ∧ a3 = b3 ∧ a4 = b4 ∧ a5 = b5 ∧ a6 = b6) := rfl
  unfold Hd.val
  simp only
  generalize hdEq ⟨a0, a1, a2, a3, a4, a5, a6⟩ ⟨b0, b1, b2, b3, b4, b5, b6⟩ = r at *
  have H := Lib.hid H0
  clear H0
  by_cases e0 : a0 = b0
  case neg =>
    have q0 : (a0 == b0) = false := by simpa using e0
    have hr : r = false := by rw [H.out]; simp [e0]
    have HR := Lib.hid hr
    clear H hr e0
    go_enter Tryd.func96, Tryd.ntmps96
    go_wp2
    go_ret
    exact ⟨ret_bool HR.out.symm, ((Below.refl _ _).alloc (Nat.le_refl _) _).alloc (by simp) _⟩
  subst e0
  by_cases e1 : a1 = b1
  case neg =>
    have q1 : (a1 == b1) = false := by simpa using e1
    have hr : r = false := by rw [H.out]; simp [e1]
    have HR := Lib.hid hr
    clear H hr e1
    go_enter Tryd.func96, Tryd.ntmps96
    go_wp2
    go_ret
    exact ⟨ret_bool HR.out.symm, ((Below.refl _ _).alloc (Nat.le_refl _) _).alloc (by simp) _⟩
  subst e1
  by_cases e2 : a2 = b2
  case neg =>
    have q2 : (a2 == b2) = false := by simpa using e2
    have hr : r = false := by rw [H.out]; simp [e2]
    have HR := Lib.hid hr
    clear H hr e2
    go_enter Tryd.func96, Tryd.ntmps96
    go_wp2
    go_ret
    exact ⟨ret_bool HR.out.symm, ((Below.refl _ _).alloc (Nat.le_refl _) _).alloc (by simp) _⟩
  subst e2
  by_cases e3 : a3 = b3
  case neg =>
    have q3 : (a3 == b3) = false := by simpa using e3
    have hr : r = false := by rw [H.out]; simp [e3]
    have HR := Lib.hid hr
    clear H hr e3
    go_enter Tryd.func96, Tryd.ntmps96
    go_wp2
    go_ret
    exact ⟨ret_bool HR.out.symm, ((Below.refl _ _).alloc (Nat.le_refl _) _).alloc (by simp) _⟩
  subst e3
  by_cases e4 : a4 = b4
  case neg =>
    have q4 : (a4 == b4) = false := by simpa using e4
    have hr : r = false := by rw [H.out]; simp [e4]
    have HR := Lib.hid hr
    clear H hr e4
    go_enter Tryd.func96, Tryd.ntmps96
    go_wp2
    go_ret
    exact ⟨ret_bool HR.out.symm, ((Below.refl _ _).alloc (Nat.le_refl _) _).alloc (by simp) _⟩
  subst e4
  by_cases e5 : a5 = b5
  case neg =>
    have q5 : (a5 == b5) = false := by simpa using e5
    have hr : r = false := by rw [H.out]; simp [e5]
    have HR := Lib.hid hr
    clear H hr e5
    go_enter Tryd.func96, Tryd.ntmps96
    go_wp2
    go_ret
    exact ⟨ret_bool HR.out.symm, ((Below.refl _ _).alloc (Nat.le_refl _) _).alloc (by simp) _⟩
  subst e5
  by_cases e6 : a6 = b6
  case neg =>
    have q6 : (a6 == b6) = false := by simpa using e6
    have hr : r = false := by rw [H.out]; simp [e6]
    have HR := Lib.hid hr
    clear H hr e6
    go_enter Tryd.func96, Tryd.ntmps96
    go_wp2
    go_ret
    exact ⟨ret_bool HR.out.symm, ((Below.refl _ _).alloc (Nat.le_refl _) _).alloc (by simp) _⟩
  subst e6
  have hr : r = true := by rw [H.out]; simp
  have HR := Lib.hid hr
  clear H hr
  go_enter Tryd.func96, Tryd.ntmps96
  go_wp2
  go_ret
  exact ⟨ret_bool HR.out.symm, ((Below.refl _ _).alloc (Nat.le_refl _) _).alloc (by simp) _⟩
theorem hdL_get (l : List Hd) (i j : Nat) (hi : i < l.length) (hj : j < 7) : (l.flatMap hdL)[i * 7 + j]? = (hdL (l.getD i nohd))[j]? := by
  induction l generalizing i with
  | nil => simp at hi
  | cons a l ih =>
    rw [List.flatMap_cons]
    have hl : (hdL a).length = 7 := rfl
    cases i with
    | zero => rw [List.getElem?_append_left (by omega)]; simp
    | succ i =>
      rw [List.getElem?_append_right (by omega), hl, show (i + 1) * 7 + j - 7 = i * 7 + j by omega, ih i (by simpa using hi)]
      simp
end Go.Proofs.YtomgfdfgildkbaaDoor
