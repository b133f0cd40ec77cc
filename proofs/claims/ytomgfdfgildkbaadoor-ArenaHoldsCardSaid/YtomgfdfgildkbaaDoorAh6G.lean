/- ArenaHolds: the list of things in memory, one thing of it written anew; mod. No condition. -/
import Derived.Test.YtomgfdfgildkbaaDoorAh4G
namespace Go.Proofs.YtomgfdfgildkbaaDoor
open Go.RowKit Go.BigFrame
set_option linter.unusedVariables false
theorem tmod_inA {n k : Int} (hk : 0 < k) : -k < n.tmod k ∧ n.tmod k < k := by
  by_cases h : 0 ≤ n
  · rw [Int.tmod_eq_emod_of_nonneg h]
    have := Int.emod_nonneg n (show k ≠ 0 by omega)
    have := Int.emod_lt_of_pos n hk
    omega
  · have e : n.tmod k = -((-n).tmod k) := by rw [Int.neg_tmod]; omega
    rw [e, Int.tmod_eq_emod_of_nonneg (show 0 ≤ -n by omega)]
    have := Int.emod_nonneg (-n) (show k ≠ 0 by omega)
    have := Int.emod_lt_of_pos (-n) hk
    omega
set_option maxHeartbeats 1000000 in
theorem mod_anyA (n : Int) (k : Nat) (w : World) (k0 : 0 < k) (k1 : k ≤ 1000000) (h0 : -9223372036854775808 ≤ n) (h1 : n < 9223372036854775808) :
    Calls Tryd.prog 47 #[.int .i64 n, .int .i64 k] w fun e w' => (∃ m : Nat, m < k ∧ e = .returned (.int .i64 m)) ∧ w = w' := by
  obtain ⟨t0, t1⟩ := tmod_inA (n := n) (k := (k : Int)) (by omega)
  have f2 : IntKind.i64.wrap (n.tmod k) = n.tmod k := by rw [IntKind.wrap_i64]; omega
  have f1 : IntKind.i64.wrap (n.tmod k + k) = n.tmod k + k := by rw [IntKind.wrap_i64]; omega
  have e3 : (n.tmod k + k).tmod k = (n.tmod k + k) % k := Int.tmod_eq_emod_of_nonneg (by omega)
  have p0 := Int.emod_nonneg (n.tmod k + k) (show (k : Int) ≠ 0 by omega)
  have p1 := Int.emod_lt_of_pos (n.tmod k + k) (show 0 < (k : Int) by omega)
  have f3 : IntKind.i64.wrap ((n.tmod k + k).tmod k) = (n.tmod k + k).tmod k := by rw [e3, IntKind.wrap_i64]; omega
  have z0 : ((k : Int) == 0) = false := by simp; omega
  have FI := Lib.hid (⟨((n.tmod k + k) % k).toNat, by omega, by congr 2; omega⟩ : ∃ m : Nat, m < k ∧ Ending.returned (.int .i64 ((n.tmod k + k) % k)) = .returned (.int .i64 m))
  clear e3 p0 p1
  go_enter Tryd.func47, Tryd.ntmps47
  go_wp2
  go_ret
  exact ⟨FI.out, rfl⟩
theorem map_set_same {α β : Type} (f : α → β) (l : List α) (d : α) {k : Nat} {y : α} (h : f y = f (l.getD k d)) : (l.set k y).map f = l.map f := by
  apply List.ext_getElem?
  intro i
  rw [List.getElem?_map, List.getElem?_map, List.getElem?_set]
  by_cases hk : k = i
  · subst hk
    rw [if_pos rfl]
    split
    · rename_i hl
      rw [List.getD_eq_getElem?_getD, List.getElem?_eq_getElem hl] at h
      rw [List.getElem?_eq_getElem hl]
      simpa using h
    · rename_i hl
      rw [List.getElem?_eq_none (by omega)]
  · rw [if_neg hk]
theorem flatMap_set_same {α β : Type} (f : α → List β) (l : List α) (d : α) {k : Nat} {y : α} (h : f y = f (l.getD k d)) : (l.set k y).flatMap f = l.flatMap f := by
  rw [List.flatMap_def, List.flatMap_def, map_set_same f l d h]
theorem mem_set_at {Q : List Gt} {k : Nat} {q y : Gt} (h : y ∈ Q.set k q) : (y = q ∧ k < Q.length) ∨ ∃ j, j < Q.length ∧ j ≠ k ∧ y = Q.getD j gt0 := by
  obtain ⟨j, hj, rfl⟩ := List.mem_iff_getElem.1 h
  rw [List.length_set] at hj
  by_cases e : k = j
  · subst e; left; exact ⟨by simp, hj⟩
  · right
    refine ⟨j, hj, fun q => e q.symm, ?_⟩
    rw [List.getElem_set_ne e, List.getD_eq_getElem?_getD, List.getElem?_eq_getElem hj]; rfl
theorem apart_of {Q : List Gt} {f : Gt → Nat} (h : (Q.map f).Nodup) {j k : Nat} (hj : j < Q.length) (hk : k < Q.length) (e : j ≠ k) : f (Q.getD j gt0) ≠ f (Q.getD k gt0) := by
  intro q
  rw [List.getD_eq_getElem?_getD, List.getD_eq_getElem?_getD, List.getElem?_eq_getElem hj, List.getElem?_eq_getElem hk] at q
  simp only [Option.getD_some] at q
  exact e ((List.getElem_inj h (h₀ := by simpa using hj) (h₁ := by simpa using hk)).1 (by simpa using q))
section
variable {w : World} {B wb : Nat} {v : Value} {Q : List Gt}
theorem tfp_set {k : Nat} {q : Gt} (h1 : q.pb = (Q.getD k gt0).pb) (h2 : q.rb = (Q.getD k gt0).rb) : tfp v (Q.set k q) = tfp v Q := by
  unfold tfp
  rw [map_set_same Gt.pb Q gt0 h1, map_set_same Gt.rb Q gt0 h2]
/-- A pointer field of the list's copy is written. -/
theorem ThsAt.setP (h : ThsAt w B wb v Q) {k : Nat} (hk : k < Q.length) (i : Nat) (u : Int) : ThsAt (w.setCell ⟨(Q.getD k gt0).pb, i, none⟩ (.int .i64 u)) B wb v (Q.set k { Q.getD k gt0 with ps := (Q.getD k gt0).ps.set i u }) := by
  have hm := getD_mem hk
  have e1 := map_set_same Gt.pb Q gt0 (k := k) (y := { Q.getD k gt0 with ps := (Q.getD k gt0).ps.set i u }) rfl
  have e2 := map_set_same Gt.rb Q gt0 (k := k) (y := { Q.getD k gt0 with ps := (Q.getD k gt0).ps.set i u }) rfl
  have ec : ({ Q.getD k gt0 with ps := (Q.getD k gt0).ps.set i u } : Gt).cells = (Q.getD k gt0).cells := by unfold Gt.cells; simp
  refine ⟨?_, fun y hy => ?_, fun y hy => ?_, fun y hy => ?_, fun y hy => ?_, by rw [e1]; exact h.np, by rw [e2]; exact h.nr⟩
  · rw [List.length_set, flatMap_set_same Gt.cells Q gt0 ec]
    exact ownsRow_heap h.row fun j hj => block_set_ne (fun e => by obtain ⟨cs, hc⟩ := row_blockA h.row hj; exact ty_neA hc (h.bp _ hm) (by decide) e)
  · rcases mem_set_at hy with ⟨rfl, -⟩ | ⟨j, hj, hne, rfl⟩
    · have := block_set (h.bp _ hm) i (.int .i64 u)
      rw [i64s_set] at this
      exact this
    · exact (block_set_ne (apart_of h.np hj hk hne)).trans (h.bp _ (getD_mem hj))
  · rcases mem_set_at hy with ⟨rfl, -⟩ | ⟨j, hj, hne, rfl⟩
    · exact (block_set_ne (ty_neA (h.br _ hm) (h.bp _ hm) (by decide))).trans (h.br _ hm)
    · exact (block_set_ne (ty_neA (h.br _ (getD_mem hj)) (h.bp _ hm) (by decide))).trans (h.br _ (getD_mem hj))
  · rcases mem_set_at hy with ⟨rfl, -⟩ | ⟨j, hj, hne, rfl⟩
    · exact h.gp (Q.getD k gt0) hm
    · exact h.gp _ (getD_mem hj)
  · rcases mem_set_at hy with ⟨rfl, -⟩ | ⟨j, hj, hne, rfl⟩
    · exact h.gr (Q.getD k gt0) hm
    · exact h.gr _ (getD_mem hj)
/-- A raw field of the list's copy is written. -/
theorem ThsAt.setR (h : ThsAt w B wb v Q) {k : Nat} (hk : k < Q.length) (i : Nat) (u : Int) : ThsAt (w.setCell ⟨(Q.getD k gt0).rb, i, none⟩ (.int .u64 u)) B wb v (Q.set k { Q.getD k gt0 with rs := (Q.getD k gt0).rs.set i u }) := by
  have hm := getD_mem hk
  have e1 := map_set_same Gt.pb Q gt0 (k := k) (y := { Q.getD k gt0 with rs := (Q.getD k gt0).rs.set i u }) rfl
  have e2 := map_set_same Gt.rb Q gt0 (k := k) (y := { Q.getD k gt0 with rs := (Q.getD k gt0).rs.set i u }) rfl
  have ec : ({ Q.getD k gt0 with rs := (Q.getD k gt0).rs.set i u } : Gt).cells = (Q.getD k gt0).cells := by unfold Gt.cells; simp
  refine ⟨?_, fun y hy => ?_, fun y hy => ?_, fun y hy => ?_, fun y hy => ?_, by rw [e1]; exact h.np, by rw [e2]; exact h.nr⟩
  · rw [List.length_set, flatMap_set_same Gt.cells Q gt0 ec]
    exact ownsRow_heap h.row fun j hj => block_set_ne (fun e => by obtain ⟨cs, hc⟩ := row_blockA h.row hj; exact ty_neA hc (h.br _ hm) (by decide) e)
  · rcases mem_set_at hy with ⟨rfl, -⟩ | ⟨j, hj, hne, rfl⟩
    · exact (block_set_ne (ty_neA (h.bp _ hm) (h.br _ hm) (by decide))).trans (h.bp _ hm)
    · exact (block_set_ne (ty_neA (h.bp _ (getD_mem hj)) (h.br _ hm) (by decide))).trans (h.bp _ (getD_mem hj))
  · rcases mem_set_at hy with ⟨rfl, -⟩ | ⟨j, hj, hne, rfl⟩
    · have := block_set (h.br _ hm) i (.int .u64 u)
      rw [u64s_set] at this
      exact this
    · exact (block_set_ne (apart_of h.nr hj hk hne)).trans (h.br _ (getD_mem hj))
  · rcases mem_set_at hy with ⟨rfl, -⟩ | ⟨j, hj, hne, rfl⟩
    · exact h.gp (Q.getD k gt0) hm
    · exact h.gp _ (getD_mem hj)
  · rcases mem_set_at hy with ⟨rfl, -⟩ | ⟨j, hj, hne, rfl⟩
    · exact h.gr (Q.getD k gt0) hm
    · exact h.gr _ (getD_mem hj)
def setHdL (L : List Value) (o : Nat) (h : Hd) : List Value := ((((((L.set o (.int .u64 h.ser)).set (o + 1) (.int .i64 h.kind)).set (o + 2) (.int .i64 h.ptrs)).set (o + 3) (.int .i64 h.raws)).set (o + 4) (.int .i64 h.age)).set (o + 5) (.int .i64 h.site)).set (o + 6) (.bool h.held)
theorem setHdL_get (L : List Value) (o : Nat) (h : Hd) (i : Nat) (hl : o + 7 ≤ L.length) : (setHdL L o h)[i]? = if o ≤ i ∧ i < o + 7 then (hdL h)[i - o]? else L[i]? := by
  unfold setHdL
  by_cases c : o ≤ i ∧ i < o + 7
  · rw [if_pos c]
    obtain ⟨j, rfl⟩ : ∃ j, i = o + j := ⟨i - o, by omega⟩
    rw [Nat.add_sub_cancel_left]
    rcases (show j = 0 ∨ j = 1 ∨ j = 2 ∨ j = 3 ∨ j = 4 ∨ j = 5 ∨ j = 6 by omega) with rfl | rfl | rfl | rfl | rfl | rfl | rfl
    · simp only [Nat.add_zero]; rw [List.getElem?_set_ne (by omega), List.getElem?_set_ne (by omega), List.getElem?_set_ne (by omega), List.getElem?_set_ne (by omega), List.getElem?_set_ne (by omega), List.getElem?_set_ne (by omega), List.getElem?_set_self (by omega)]; rfl
    · rw [List.getElem?_set_ne (by omega), List.getElem?_set_ne (by omega), List.getElem?_set_ne (by omega), List.getElem?_set_ne (by omega), List.getElem?_set_ne (by omega), List.getElem?_set_self (by simp; omega)]; rfl
    · rw [List.getElem?_set_ne (by omega), List.getElem?_set_ne (by omega), List.getElem?_set_ne (by omega), List.getElem?_set_ne (by omega), List.getElem?_set_self (by simp; omega)]; rfl
    · rw [List.getElem?_set_ne (by omega), List.getElem?_set_ne (by omega), List.getElem?_set_ne (by omega), List.getElem?_set_self (by simp; omega)]; rfl
    · rw [List.getElem?_set_ne (by omega), List.getElem?_set_ne (by omega), List.getElem?_set_self (by simp; omega)]; rfl
    · rw [List.getElem?_set_ne (by omega), List.getElem?_set_self (by simp; omega)]; rfl
    · rw [List.getElem?_set_self (by simp; omega)]; rfl
  · rw [if_neg c, List.getElem?_set_ne (by omega), List.getElem?_set_ne (by omega), List.getElem?_set_ne (by omega), List.getElem?_set_ne (by omega), List.getElem?_set_ne (by omega), List.getElem?_set_ne (by omega), List.getElem?_set_ne (by omega)]
theorem Gt.cells_hd (q : Gt) (g : Hd) (j : Nat) : ({ q with hd := g } : Gt).cells[j]? = if 2 ≤ j ∧ j < 9 then (hdL g)[j - 2]? else q.cells[j]? := by
  by_cases c : 2 ≤ j ∧ j < 9
  · rw [if_pos c]
    rcases (show j = 2 ∨ j = 3 ∨ j = 4 ∨ j = 5 ∨ j = 6 ∨ j = 7 ∨ j = 8 by omega) with rfl | rfl | rfl | rfl | rfl | rfl | rfl <;> rfl
  · rw [if_neg c]
    by_cases d : j < 11
    · rcases (show j = 0 ∨ j = 1 ∨ j = 9 ∨ j = 10 by omega) with rfl | rfl | rfl | rfl <;> rfl
    · rw [List.getElem?_eq_none (by rw [Gt.cells_len]; omega), List.getElem?_eq_none (by rw [Gt.cells_len]; omega)]
theorem gts_setHd (Q : List Gt) {k : Nat} (hk : k < Q.length) (g : Hd) : setHdL (Q.flatMap Gt.cells) (k * 11 + 2) g = (Q.set k { Q.getD k gt0 with hd := g }).flatMap Gt.cells := by
  apply List.ext_getElem?
  intro i
  have hL := gts_len Q
  rw [setHdL_get _ _ _ _ (by omega)]
  by_cases hi : i < Q.length * 11
  · obtain ⟨m, j, rfl, hm, hj⟩ : ∃ m j, i = m * 11 + j ∧ m < Q.length ∧ j < 11 := ⟨i / 11, i % 11, by omega, by omega, by omega⟩
    rw [gts_get (Q.set k { Q.getD k gt0 with hd := g }) m j (by simpa using hm) hj, gts_get Q m j hm hj]
    by_cases e : m = k
    · subst e
      have e3 : (Q.set m { Q.getD m gt0 with hd := g }).getD m gt0 = { Q.getD m gt0 with hd := g } := by
        rw [List.getD_eq_getElem?_getD, List.getElem?_set_self hm]; rfl
      rw [e3]
      refine Eq.trans ?_ (Gt.cells_hd (Q.getD m gt0) g j).symm
      by_cases c : 2 ≤ j ∧ j < 9
      · rw [if_pos c, if_pos (by omega), show m * 11 + j - (m * 11 + 2) = j - 2 by omega]
      · rw [if_neg c, if_neg (by omega)]
    · rw [if_neg (by omega)]
      have e3 : (Q.set k { Q.getD k gt0 with hd := g }).getD m gt0 = Q.getD m gt0 := by
        rw [List.getD_eq_getElem?_getD, List.getElem?_set_ne (fun q => e q.symm), ← List.getD_eq_getElem?_getD]
      rw [e3]
  · rw [if_neg (by omega), List.getElem?_eq_none (by omega), List.getElem?_eq_none (by rw [gts_len]; simp; omega)]
def setHdC (w : World) (g o : Nat) (h : Hd) : World := ((((((w.setCell ⟨g, o, none⟩ (.int .u64 h.ser)).setCell ⟨g, o + 1, none⟩ (.int .i64 h.kind)).setCell ⟨g, o + 2, none⟩ (.int .i64 h.ptrs)).setCell ⟨g, o + 3, none⟩ (.int .i64 h.raws)).setCell ⟨g, o + 4, none⟩ (.int .i64 h.age)).setCell ⟨g, o + 5, none⟩ (.int .i64 h.site)).setCell ⟨g, o + 6, none⟩ (.bool h.held)
theorem setHdC_far {w : World} {g o k : Nat} {h : Hd} (e : k ≠ g) : (setHdC w g o h).heap[k]? = w.heap[k]? := by
  unfold setHdC
  rw [block_set_ne e, block_set_ne e, block_set_ne e, block_set_ne e, block_set_ne e, block_set_ne e, block_set_ne e]
/-- A header of the list's is written. -/
theorem ThsAt.setH {g cap : Nat} (h : ThsAt w B wb (.slice (some ⟨g, 0, none⟩) Q.length cap) Q) {k : Nat} (hk : k < Q.length) (x : Hd) : ThsAt (setHdC w g (k * 11 + 2) x) B wb (.slice (some ⟨g, 0, none⟩) Q.length cap) (Q.set k { Q.getD k gt0 with hd := x }) := by
  have hm := getD_mem hk
  have e1 := map_set_same Gt.pb Q gt0 (k := k) (y := { Q.getD k gt0 with hd := x }) rfl
  have e2 := map_set_same Gt.rb Q gt0 (k := k) (y := { Q.getD k gt0 with hd := x }) rfl
  obtain ⟨cs, hc⟩ := row_blockA h.row (k := g) rfl
  refine ⟨?_, fun y hy => ?_, fun y hy => ?_, fun y hy => ?_, fun y hy => ?_, by rw [e1]; exact h.np, by rw [e2]; exact h.nr⟩
  · rw [List.length_set, ← gts_setHd Q hk x]
    have s1 := (h.row.stored (k * 11 + 2) (.int .u64 x.ser)).1
    have s2 := (s1.stored (k * 11 + 2 + 1) (.int .i64 x.kind)).1
    have s3 := (s2.stored (k * 11 + 2 + 2) (.int .i64 x.ptrs)).1
    have s4 := (s3.stored (k * 11 + 2 + 3) (.int .i64 x.raws)).1
    have s5 := (s4.stored (k * 11 + 2 + 4) (.int .i64 x.age)).1
    have s6 := (s5.stored (k * 11 + 2 + 5) (.int .i64 x.site)).1
    exact (s6.stored (k * 11 + 2 + 6) (.bool x.held)).1
  · rcases mem_set_at hy with ⟨rfl, -⟩ | ⟨j, hj, hne, rfl⟩
    · exact (setHdC_far (ty_neA (h.bp _ hm) hc (by decide))).trans (h.bp _ hm)
    · exact (setHdC_far (ty_neA (h.bp _ (getD_mem hj)) hc (by decide))).trans (h.bp _ (getD_mem hj))
  · rcases mem_set_at hy with ⟨rfl, -⟩ | ⟨j, hj, hne, rfl⟩
    · exact (setHdC_far (ty_neA (h.br _ hm) hc (by decide))).trans (h.br _ hm)
    · exact (setHdC_far (ty_neA (h.br _ (getD_mem hj)) hc (by decide))).trans (h.br _ (getD_mem hj))
  · rcases mem_set_at hy with ⟨rfl, -⟩ | ⟨j, hj, hne, rfl⟩
    · exact h.gp (Q.getD k gt0) hm
    · exact h.gp _ (getD_mem hj)
  · rcases mem_set_at hy with ⟨rfl, -⟩ | ⟨j, hj, hne, rfl⟩
    · exact h.gr (Q.getD k gt0) hm
    · exact h.gr _ (getD_mem hj)
end
end Go.Proofs.YtomgfdfgildkbaaDoor
