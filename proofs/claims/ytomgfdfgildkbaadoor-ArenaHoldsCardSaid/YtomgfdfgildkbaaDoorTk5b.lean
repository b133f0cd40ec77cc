/- middenlaw3's within.same, where both walks gave the same. -/
import Derived.Test.YtomgfdfgildkbaaDoorTk5
namespace Go.Proofs.YtomgfdfgildkbaaDoor
open Go.RowKit Go.BigFrame

theorem row_form {w : World} {B : Nat} {e : TypeId} {sz : Nat} {v : Value} {n : Nat} {xs : List Value} (h : w.ownsRow B e sz v n xs) : ∃ p cap, v = .slice p n cap := by
  rcases h.2 with ⟨h1, rfl⟩ | ⟨g, cap, cur, hv, _⟩
  · exact ⟨none, 0, h1⟩
  · exact ⟨_, cap, hv⟩
theorem row_int {w : World} {B g cap n : Nat} {l : List Int} (h : w.ownsRow B 3 1 (.slice (some ⟨g, 0, none⟩) n cap) n (l.map (Value.int .i64))) {i : Nat} (hi : i < l.length) : w.cell? ⟨g, i, none⟩ = some (.int .i64 (l.getD i 0)) := by
  have hl := h.1
  simp at hl
  rw [h.cellAt i (by omega)]
  simp [hi]
theorem row_hd {w : World} {B g cap n : Nat} {l : List Hd} (h : w.ownsRow B 24 7 (.slice (some ⟨g, 0, none⟩) n cap) n (l.flatMap hdL)) {i : Nat} (hi : i < l.length) {j : Nat} (hj : j < 7) (hn : n = l.length) : w.cell? ⟨g, i * 7 + j, none⟩ = (hdL (l.getD i nohd))[j]? := by
  rw [h.cellAt (i * 7 + j) (by omega)]
  exact hdL_get l i j hi hj
set_option maxRecDepth 100000 in
set_option maxHeartbeats 4000000 in
theorem same_true (r t B : Nat) (T M : Tk) (u1 u2 z1 z2 v1 v2 : Value) (w : World) (h1 : TkAt w r 1 184 B T u1 u2) (h7 : TkAt w r 7 184 B M z1 z2) (hT : TkAt w t 0 140 B T v1 v2) (hM : M.at_ = T.at_) (hn : T.at_.length ≤ 262145) :
    Calls Tryd.prog 138 #[.pointer (some ⟨r, 0, none⟩), .pointer (some ⟨t, 0, none⟩)] w fun e w' => e = .returned (.bool true) ∧ Below w.heap.size w w' := by
  obtain ⟨p1, n1, rfl⟩ := row_form h1.r1
  obtain ⟨p2, n2, rfl⟩ := row_form h7.r1
  obtain ⟨p3, n3, rfl⟩ := row_form hT.r1
  have c1 := h1.c0
  have c7 := h7.c0
  have ct := hT.c0
  rw [hM] at c7
  have r1 := h1.r1
  have r7 := h7.r1
  have rt := hT.r1
  rw [hM] at r7
  have HR := Lib.hid (⟨r1, r7, rt⟩ : _ ∧ _ ∧ _)
  clear h1 h7 hT hM r1 r7 rt
  generalize hl : T.at_.length = n at *
  go_enter Tryd.func138, Tryd.ntmps138
  go_upto_region 1 with fail
  go_big_region
  go_wp2_with fail
  have k1 : w.drew.cell? ⟨r, 1, none⟩ = _ := c1
  have k7 : w.drew.cell? ⟨r, 7, none⟩ = _ := c7
  have kt : w.drew.cell? ⟨t, 0, none⟩ = _ := ct
  have hd := (Below.refl w.heap.size w).drew
  have HR' := Lib.hid (⟨HR.out.1.drew, HR.out.2.1.drew, HR.out.2.2.drew⟩ : _ ∧ _ ∧ _)
  clear HR c1 c7 ct
  generalize w.drew = w1 at *
  go_loopw [5] (fun i wx => ∃ k : Nat, k ≤ n ∧ i = .int .i64 k ∧ ∃ m, wx = w1.drewN m) (fun i _ => n - (intOf i).toNat)
  case atStart => exact ⟨0, Nat.zero_le _, rfl, 0, rfl⟩
  case round =>
    obtain ⟨k, hk, rfl, m, rfl⟩ := hrel
    by_cases hlt : k < n
    · obtain ⟨q1, q7, qt⟩ := HR'.out
      obtain ⟨g1, cp1, e1, -, -⟩ := q1.form (by omega)
      obtain ⟨g2, cp2, e2, -, -⟩ := q7.form (by omega)
      obtain ⟨g3, cp3, e3, -, -⟩ := qt.form (by omega)
      cases e1
      cases e2
      cases e3
      have a1 := row_int q1 (i := k) (by omega)
      have a2 := row_int q7 (i := k) (by omega)
      have a3 := row_int qt (i := k) (by omega)
      have k0 : (0 : Int) ≤ (k : Int) := Int.natCast_nonneg _
      have k1' : (k : Int) < (n : Int) := by omega
      generalize T.at_.getD k 0 = av at *
      clear q1 q7 qt
      have b1 : (w1.drewN m).cell? ⟨g1, k, none⟩ = _ := a1
      have b2 : (w1.drewN m).cell? ⟨g2, k, none⟩ = _ := a2
      have b3 : (w1.drewN m).cell? ⟨g3, k, none⟩ = _ := a3
      have m1 : (w1.drewN m).cell? ⟨r, 1, none⟩ = _ := k1
      have m7 : (w1.drewN m).cell? ⟨r, 7, none⟩ = _ := k7
      have mt : (w1.drewN m).cell? ⟨t, 0, none⟩ = _ := kt
      go_upto_region 6 with fail
      go_big_region
      go_wp2_with fail
      exact ⟨⟨k + 1, by omega, by go_num, m + 1, rfl⟩, by simp [intOf]; omega⟩
    · obtain rfl : k = n := by omega
      have mt : (w1.drewN m).cell? ⟨t, 0, none⟩ = _ := kt
      go_wp2_with fail
      go_ret
      exact ⟨rfl, below_drewN hd _⟩
end Go.Proofs.YtomgfdfgildkbaaDoor
