/- The walks of package middenref2, third part: one thing of a header changed. -/
import Derived.Test.YtomgfdfgildkbaaDoorRefTwoB
namespace Go.Proofs.YtomgfdfgildkbaaDoor
open Go.RowKit Go.BigFrame

theorem rwith_any (m : Int) (h : Hd) (ok : Bool) (w : World) :
    Calls Tryd.prog 79 #[.int .u64 m, h.val, .bool ok] w fun e w' => e = .returned (.int .u64 (if ok = true ∧ chk h = 0 then enc h else m)) ∧ Below w.heap.size w w' := by
  have P := fun W => rpack_any h W
  have hv : h.val = .agg #[.int .u64 h.ser, .int .i64 h.kind, .int .i64 h.ptrs, .int .i64 h.raws, .int .i64 h.age, .int .i64 h.site, .bool h.held] := rfl
  cases ok
  · rw [if_neg (by simp), hv]
    clear P hv
    go_enter Tryd.func79, Tryd.ntmps79
    go_wp2_with fail
    go_ret
    exact ⟨rfl, (Below.refl _ _).alloc (Nat.le_refl _) _⟩
  · by_cases q : chk h = 0
    · rw [if_pos ⟨rfl, q⟩]
      rw [show pack h = enc h by unfold pack; rw [if_pos q], q] at P
      rw [hv] at *
      have PP := Lib.hid P
      generalize enc h = x at *
      clear P q hv
      go_enter Tryd.func79, Tryd.ntmps79
      go_wp2_with fail
      refine (PP.out _).mono ?_
      rintro e w' ⟨rfl, hb⟩
      obtain ⟨hX, hb0, hz⟩ := kept_new hb
      clear hX hb
      go_wp2_with fail
      go_ret
      exact ⟨rfl, hb0⟩
    · rw [if_neg (by simp [q])]
      have q1 : (chk h == 0) = false := by simpa using q
      rw [show pack h = 0 by unfold pack; rw [if_neg q]] at P
      rw [hv] at *
      generalize chk h = cc at *
      have PP := Lib.hid P
      clear P q hv
      go_enter Tryd.func79, Tryd.ntmps79
      go_wp2_with fail
      refine (PP.out _).mono ?_
      rintro e w' ⟨rfl, hb⟩
      obtain ⟨hX, hb0, hz⟩ := kept_new hb
      clear hX hb
      go_wp2_with fail
      go_ret
      exact ⟨rfl, hb0⟩

theorem rWith_age_any (v : Int) (m : Int) (w : World) (h0 : 0 ≤ m) (h1 : m < 18446744073709551616) :
    Calls Tryd.prog 21 #[.int .u64 m, .int .i64 v] w fun e w' => e = .returned (.int .u64 (withH m (fun (h : Hd) => { h with age := v }))) ∧ Below w.heap.size w w' := by
  have U := runpack_any m w h0 h1
  have e0 : withH m (fun (h : Hd) => { h with age := v }) = if isHd m = true ∧ chk { unp m with age := v } = 0 then enc { unp m with age := v } else m := by
    unfold withH unp
    cases isHd m <;> simp
  rw [e0]
  clear e0
  have W := fun W => rwith_any m { unp m with age := v } (isHd m) W
  generalize isHd m = b at *
  generalize unp m = d at *
  generalize (if b = true ∧ chk { d with age := v } = 0 then enc { d with age := v } else m) = x at *
  unfold Hd.val at *
  simp only at *
  have UU := Lib.hid U
  have WW := Lib.hid W
  clear U W
  go_enter Tryd.func21, Tryd.ntmps21
  go_wp2_with fail
  refine UU.out.mono ?_
  rintro e w1 ⟨rfl, hb1⟩
  go_wp2_with fail
  refine (WW.out _).mono ?_
  rintro e w2 ⟨rfl, hb2⟩
  go_wp2_with fail
  go_ret
  exact ⟨rfl, (hb1.alloc hb1.size _).trans (hb2.mono (by have := hb1.size; simp; omega))⟩

theorem rWith_held_any (v : Bool) (m : Int) (w : World) (h0 : 0 ≤ m) (h1 : m < 18446744073709551616) :
    Calls Tryd.prog 23 #[.int .u64 m, .bool v] w fun e w' => e = .returned (.int .u64 (withH m (fun (h : Hd) => { h with held := v }))) ∧ Below w.heap.size w w' := by
  have U := runpack_any m w h0 h1
  have e0 : withH m (fun (h : Hd) => { h with held := v }) = if isHd m = true ∧ chk { unp m with held := v } = 0 then enc { unp m with held := v } else m := by
    unfold withH unp
    cases isHd m <;> simp
  rw [e0]
  clear e0
  have W := fun W => rwith_any m { unp m with held := v } (isHd m) W
  generalize isHd m = b at *
  generalize unp m = d at *
  generalize (if b = true ∧ chk { d with held := v } = 0 then enc { d with held := v } else m) = x at *
  unfold Hd.val at *
  simp only at *
  have UU := Lib.hid U
  have WW := Lib.hid W
  clear U W
  go_enter Tryd.func23, Tryd.ntmps23
  go_wp2_with fail
  refine UU.out.mono ?_
  rintro e w1 ⟨rfl, hb1⟩
  go_wp2_with fail
  refine (WW.out _).mono ?_
  rintro e w2 ⟨rfl, hb2⟩
  go_wp2_with fail
  go_ret
  exact ⟨rfl, (hb1.alloc hb1.size _).trans (hb2.mono (by have := hb1.size; simp; omega))⟩

theorem rWith_kind_any (v : Int) (m : Int) (w : World) (h0 : 0 ≤ m) (h1 : m < 18446744073709551616) :
    Calls Tryd.prog 25 #[.int .u64 m, .int .i64 v] w fun e w' => e = .returned (.int .u64 (withH m (fun (h : Hd) => { h with kind := v }))) ∧ Below w.heap.size w w' := by
  have U := runpack_any m w h0 h1
  have e0 : withH m (fun (h : Hd) => { h with kind := v }) = if isHd m = true ∧ chk { unp m with kind := v } = 0 then enc { unp m with kind := v } else m := by
    unfold withH unp
    cases isHd m <;> simp
  rw [e0]
  clear e0
  have W := fun W => rwith_any m { unp m with kind := v } (isHd m) W
  generalize isHd m = b at *
  generalize unp m = d at *
  generalize (if b = true ∧ chk { d with kind := v } = 0 then enc { d with kind := v } else m) = x at *
  unfold Hd.val at *
  simp only at *
  have UU := Lib.hid U
  have WW := Lib.hid W
  clear U W
  go_enter Tryd.func25, Tryd.ntmps25
  go_wp2_with fail
  refine UU.out.mono ?_
  rintro e w1 ⟨rfl, hb1⟩
  go_wp2_with fail
  refine (WW.out _).mono ?_
  rintro e w2 ⟨rfl, hb2⟩
  go_wp2_with fail
  go_ret
  exact ⟨rfl, (hb1.alloc hb1.size _).trans (hb2.mono (by have := hb1.size; simp; omega))⟩
end Go.Proofs.YtomgfdfgildkbaaDoor
