/- The walks of package cell, fifth part: one thing of a header changed. -/
import Derived.Test.YtomgfdfgildkbaaDoorCellW4
import Derived.Lib.SmallJoins
namespace Go.Proofs.YtomgfdfgildkbaaDoor
open Go.RowKit Go.BigFrame

theorem with_age (b c : Nat) (h : Hd) (v : Int) (w : World) (hb : w.heap[b]? = some (.cells (hdCells h) 24 (0, 0))) (hc : w.cell? ⟨c, 0, none⟩ = some (.int .i64 v)) :
    Calls Tryd.prog 78 #[.pointer (some ⟨b, 0, none⟩), .pointer (some ⟨c, 0, none⟩)] w fun e w' => e = .returned (.tuple #[]) ∧ w' = w.setCell ⟨b, 4, none⟩ (.int .i64 v) := by
  obtain ⟨h1, h2⟩ := hcell hb
  unfold hdCells at h1
  go_enter Tryd.func78, Tryd.ntmps78
  go_wp2
  go_end0
  exact ⟨rfl, rfl⟩
theorem with_held (b c : Nat) (h : Hd) (v : Bool) (w : World) (hb : w.heap[b]? = some (.cells (hdCells h) 24 (0, 0))) (hc : w.cell? ⟨c, 0, none⟩ = some (.bool v)) :
    Calls Tryd.prog 80 #[.pointer (some ⟨b, 0, none⟩), .pointer (some ⟨c, 0, none⟩)] w fun e w' => e = .returned (.tuple #[]) ∧ w' = w.setCell ⟨b, 6, none⟩ (.bool v) := by
  obtain ⟨h1, h2⟩ := hcell hb
  unfold hdCells at h1
  go_enter Tryd.func80, Tryd.ntmps80
  go_wp2
  go_end0
  exact ⟨rfl, rfl⟩
theorem with_kind (b c : Nat) (h : Hd) (v : Int) (w : World) (hb : w.heap[b]? = some (.cells (hdCells h) 24 (0, 0))) (hc : w.cell? ⟨c, 0, none⟩ = some (.int .i64 v)) :
    Calls Tryd.prog 81 #[.pointer (some ⟨b, 0, none⟩), .pointer (some ⟨c, 0, none⟩)] w fun e w' => e = .returned (.tuple #[]) ∧ w' = w.setCell ⟨b, 1, none⟩ (.int .i64 v) := by
  obtain ⟨h1, h2⟩ := hcell hb
  unfold hdCells at h1
  go_enter Tryd.func81, Tryd.ntmps81
  go_wp2
  go_end0
  exact ⟨rfl, rfl⟩

/-- The function handed to 'with': it changes the header in block b, nothing else. -/
def Turns (F : FuncId) (c : Nat) (v : Value) (upd : Hd → Hd) : Prop :=
  ∀ (b : Nat) (h : Hd) (w : World), w.heap[b]? = some (.cells (hdCells h) 24 (0, 0)) → w.cell? ⟨c, 0, none⟩ = some v →
    Calls Tryd.prog F #[.pointer (some ⟨b, 0, none⟩), .pointer (some ⟨c, 0, none⟩)] w fun e w' => e = .returned (.tuple #[]) ∧ w'.heap[b]? = some (.cells (hdCells (upd h)) 24 (0, 0)) ∧ Below b w w'

theorem turns_of {F : FuncId} {c : Nat} {v : Value} {upd : Hd → Hd} (o : Nat) (u : Value) (hu : ∀ h, (hdCells h).setIfInBounds o u = hdCells (upd h))
    (H : ∀ (b : Nat) (h : Hd) (w : World), w.heap[b]? = some (.cells (hdCells h) 24 (0, 0)) → w.cell? ⟨c, 0, none⟩ = some v →
      Calls Tryd.prog F #[.pointer (some ⟨b, 0, none⟩), .pointer (some ⟨c, 0, none⟩)] w fun e w' => e = .returned (.tuple #[]) ∧ w' = w.setCell ⟨b, o, none⟩ u) : Turns F c v upd := by
  intro b h w hb hc
  refine (H b h w hb hc).mono ?_
  rintro e w' ⟨rfl, rfl⟩
  refine ⟨rfl, ?_, Below.setCell (p := ⟨b, o, none⟩) (Below.refl b w) (Nat.le_refl b) u⟩
  simp [World.setCell, Array.getElem?_modify, hb, hu]

theorem with_age_any (c : Nat) (v : Int) (m : Int) (w : World) (ht : Tab w) (h0 : 0 ≤ m) (h1 : m < 18446744073709551616)
    (hc : w.cell? ⟨c, 0, none⟩ = some (.int .i64 v)) (hcs : c < w.heap.size) :
    Calls Tryd.prog 77 #[.int .u64 m, .func (.func 78) #[] #[.pointer (some ⟨c, 0, none⟩)]] w fun e w' => e = .returned (.int .u64 (withH m (fun (h : Hd) => { h with age := v }))) ∧ Below w.heap.size w w' := by
  have U := unpack_any m w ht h0 h1
  have hF : Turns 78 c (.int .i64 v) (fun (h : Hd) => { h with age := v }) := turns_of 4 (.int .i64 v) (fun h => rfl) (fun b h w hb hc => with_age b c h v w hb hc)
  generalize hu : (fun (h : Hd) => { h with age := v }) = upd at *
  clear hu
  unfold withH
  by_cases i : isHd m = true
  · rw [if_pos i]
    have e1 : unp m = dec m := by unfold unp; rw [if_pos i]
    rw [e1, i] at U
    have hv : (dec m).val = .agg (hdCells (dec m)) := rfl
    rw [hv] at U
    generalize dec m = d at *
    have P := fun W (hb : Below w.heap.size w W) => pack_any (upd d) W (ht.below hb)
    have UU := Lib.hid U
    have PP := Lib.hid P
    have FF := Lib.hid hF
    have CC := Lib.hid hc
    have hcl : hdCells d = #[.int .u64 d.ser, .int .i64 d.kind, .int .i64 d.ptrs, .int .i64 d.raws, .int .i64 d.age, .int .i64 d.site, .bool d.held] := rfl
    clear U e1 hv i P hF hc
    by_cases q : chk (upd d) = 0
    · rw [if_pos q]
      have Q := Lib.hid q; clear q
      go_enter Tryd.func77, Tryd.ntmps77
      go_wp2_with fail
      refine UU.out.mono ?_
      rintro e w1 ⟨rfl, hb1⟩
      have HL := Lib.hid hcl
      rw [hcl]; clear hcl
      go_wp2_with fail
      refine (FF.out w1.heap.size d _ (by rw [HL.out]; show (w1.heap.push _)[w1.heap.size]? = _; simp) ?_).mono ?_
      · rw [World.cell?_of_block (w := w1) (Below.heap_alloc w1 _ c (Nat.lt_of_lt_of_le hcs hb1.size)), hb1.cell hcs]
        exact CC.out
      rintro e w2 ⟨rfl, hX, hb2⟩
      have hs2 := hb2.size
      simp at hs2
      have hz : w.heap.size < w2.heap.size := by have := hb1.size; omega
      obtain ⟨k1, k2⟩ := hcell hX
      have hb3 : Below w.heap.size w w2 := (hb1.alloc hb1.size _).trans (hb2.mono hb1.size)
      have hcl2 : hdCells (upd d) = #[.int .u64 (upd d).ser, .int .i64 (upd d).kind, .int .i64 (upd d).ptrs, .int .i64 (upd d).raws, .int .i64 (upd d).age, .int .i64 (upd d).site, .bool (upd d).held] := rfl
      have hv2 : (upd d).val = .agg #[.int .u64 (upd d).ser, .int .i64 (upd d).kind, .int .i64 (upd d).ptrs, .int .i64 (upd d).raws, .int .i64 (upd d).age, .int .i64 (upd d).site, .bool (upd d).held] := rfl
      have P2 := PP.out _ hb3
      rw [hv2] at P2
      rw [hcl2] at k1
      have q := Q.out
      rw [show pack (upd d) = enc (upd d) by unfold pack; rw [if_pos q], q] at P2
      generalize hug : upd d = u at *
      have HUG := Lib.hid hug
      clear hug
      have PQ := Lib.hid P2
      clear P2 hcl2 hv2 q hX hb2 hs2
      go_wp2_with fail
      refine PQ.out.mono ?_
      rintro e w3 ⟨rfl, hb4⟩
      go_wp2_with fail
      go_ret
      exact ⟨ret_int (by rw [HUG.out]), hb3.trans (hb4.mono (by omega))⟩
    · rw [if_neg q]
      have Q := Lib.hid q; clear q
      go_enter Tryd.func77, Tryd.ntmps77
      go_wp2_with fail
      refine UU.out.mono ?_
      rintro e w1 ⟨rfl, hb1⟩
      have HL := Lib.hid hcl
      rw [hcl]; clear hcl
      go_wp2_with fail
      refine (FF.out w1.heap.size d _ (by rw [HL.out]; show (w1.heap.push _)[w1.heap.size]? = _; simp) ?_).mono ?_
      · rw [World.cell?_of_block (w := w1) (Below.heap_alloc w1 _ c (Nat.lt_of_lt_of_le hcs hb1.size)), hb1.cell hcs]
        exact CC.out
      rintro e w2 ⟨rfl, hX, hb2⟩
      have hs2 := hb2.size
      simp at hs2
      have hz : w.heap.size < w2.heap.size := by have := hb1.size; omega
      obtain ⟨k1, k2⟩ := hcell hX
      have hb3 : Below w.heap.size w w2 := (hb1.alloc hb1.size _).trans (hb2.mono hb1.size)
      have hcl2 : hdCells (upd d) = #[.int .u64 (upd d).ser, .int .i64 (upd d).kind, .int .i64 (upd d).ptrs, .int .i64 (upd d).raws, .int .i64 (upd d).age, .int .i64 (upd d).site, .bool (upd d).held] := rfl
      have hv2 : (upd d).val = .agg #[.int .u64 (upd d).ser, .int .i64 (upd d).kind, .int .i64 (upd d).ptrs, .int .i64 (upd d).raws, .int .i64 (upd d).age, .int .i64 (upd d).site, .bool (upd d).held] := rfl
      have P2 := PP.out _ hb3
      rw [hv2] at P2
      rw [hcl2] at k1
      have q := Q.out
      have q1 : (chk (upd d) == 0) = false := by simpa using q
      rw [show pack (upd d) = 0 by unfold pack; rw [if_neg q]] at P2
      generalize chk (upd d) = cc at *
      generalize upd d = u at *
      have PQ := Lib.hid P2
      clear P2 hcl2 hv2 q hX hb2 hs2
      go_wp2_with fail
      refine PQ.out.mono ?_
      rintro e w3 ⟨rfl, hb4⟩
      go_wp2_with fail
      go_ret
      exact ⟨rfl, hb3.trans (hb4.mono (by omega))⟩
  · rw [if_neg i]
    have e1 : unp m = nohd := by unfold unp; rw [if_neg i]
    have i' : isHd m = false := by simpa using i
    rw [e1, i'] at U
    have UU := Lib.hid U
    clear U e1 i i' hF hc
    go_enter Tryd.func77, Tryd.ntmps77
    go_wp2_with fail
    refine UU.out.mono ?_
    rintro e w1 ⟨rfl, hb1⟩
    unfold nohd Hd.val
    simp only
    go_wp2_with fail
    go_ret
    exact ⟨rfl, hb1.alloc hb1.size _⟩

theorem With_age_any (v : Int) (m : Int) (w : World) (ht : Tab w) (h0 : 0 ≤ m) (h1 : m < 18446744073709551616) :
    Calls Tryd.prog 20 #[.int .u64 m, .int .i64 v] w fun e w' => e = .returned (.int .u64 (withH m (fun (h : Hd) => { h with age := v }))) ∧ Below w.heap.size w w' := by
  have hb : Below w.heap.size w (w.alloc (.cells #[.int .i64 v] 3)) := (Below.refl _ _).alloc (Nat.le_refl _) _
  have W := with_age_any w.heap.size v m (w.alloc (.cells #[.int .i64 v] 3)) (ht.below hb) h0 h1 (cell_new1 w _ _) (by simp)
  have WW := Lib.hid W
  have B := Lib.hid hb
  clear W hb
  go_enter Tryd.func20, Tryd.ntmps20
  go_wp2_with fail
  refine WW.out.mono ?_
  rintro e w1 ⟨rfl, hb1⟩
  go_wp2_with fail
  go_ret
  exact ⟨rfl, B.out.trans (hb1.mono (by simp))⟩

theorem with_held_any (c : Nat) (v : Bool) (m : Int) (w : World) (ht : Tab w) (h0 : 0 ≤ m) (h1 : m < 18446744073709551616)
    (hc : w.cell? ⟨c, 0, none⟩ = some (.bool v)) (hcs : c < w.heap.size) :
    Calls Tryd.prog 77 #[.int .u64 m, .func (.func 80) #[] #[.pointer (some ⟨c, 0, none⟩)]] w fun e w' => e = .returned (.int .u64 (withH m (fun (h : Hd) => { h with held := v }))) ∧ Below w.heap.size w w' := by
  have U := unpack_any m w ht h0 h1
  have hF : Turns 80 c (.bool v) (fun (h : Hd) => { h with held := v }) := turns_of 6 (.bool v) (fun h => rfl) (fun b h w hb hc => with_held b c h v w hb hc)
  generalize hu : (fun (h : Hd) => { h with held := v }) = upd at *
  clear hu
  unfold withH
  by_cases i : isHd m = true
  · rw [if_pos i]
    have e1 : unp m = dec m := by unfold unp; rw [if_pos i]
    rw [e1, i] at U
    have hv : (dec m).val = .agg (hdCells (dec m)) := rfl
    rw [hv] at U
    generalize dec m = d at *
    have P := fun W (hb : Below w.heap.size w W) => pack_any (upd d) W (ht.below hb)
    have UU := Lib.hid U
    have PP := Lib.hid P
    have FF := Lib.hid hF
    have CC := Lib.hid hc
    have hcl : hdCells d = #[.int .u64 d.ser, .int .i64 d.kind, .int .i64 d.ptrs, .int .i64 d.raws, .int .i64 d.age, .int .i64 d.site, .bool d.held] := rfl
    clear U e1 hv i P hF hc
    by_cases q : chk (upd d) = 0
    · rw [if_pos q]
      have Q := Lib.hid q; clear q
      go_enter Tryd.func77, Tryd.ntmps77
      go_wp2_with fail
      refine UU.out.mono ?_
      rintro e w1 ⟨rfl, hb1⟩
      have HL := Lib.hid hcl
      rw [hcl]; clear hcl
      go_wp2_with fail
      refine (FF.out w1.heap.size d _ (by rw [HL.out]; show (w1.heap.push _)[w1.heap.size]? = _; simp) ?_).mono ?_
      · rw [World.cell?_of_block (w := w1) (Below.heap_alloc w1 _ c (Nat.lt_of_lt_of_le hcs hb1.size)), hb1.cell hcs]
        exact CC.out
      rintro e w2 ⟨rfl, hX, hb2⟩
      have hs2 := hb2.size
      simp at hs2
      have hz : w.heap.size < w2.heap.size := by have := hb1.size; omega
      obtain ⟨k1, k2⟩ := hcell hX
      have hb3 : Below w.heap.size w w2 := (hb1.alloc hb1.size _).trans (hb2.mono hb1.size)
      have hcl2 : hdCells (upd d) = #[.int .u64 (upd d).ser, .int .i64 (upd d).kind, .int .i64 (upd d).ptrs, .int .i64 (upd d).raws, .int .i64 (upd d).age, .int .i64 (upd d).site, .bool (upd d).held] := rfl
      have hv2 : (upd d).val = .agg #[.int .u64 (upd d).ser, .int .i64 (upd d).kind, .int .i64 (upd d).ptrs, .int .i64 (upd d).raws, .int .i64 (upd d).age, .int .i64 (upd d).site, .bool (upd d).held] := rfl
      have P2 := PP.out _ hb3
      rw [hv2] at P2
      rw [hcl2] at k1
      have q := Q.out
      rw [show pack (upd d) = enc (upd d) by unfold pack; rw [if_pos q], q] at P2
      generalize hug : upd d = u at *
      have HUG := Lib.hid hug
      clear hug
      have PQ := Lib.hid P2
      clear P2 hcl2 hv2 q hX hb2 hs2
      go_wp2_with fail
      refine PQ.out.mono ?_
      rintro e w3 ⟨rfl, hb4⟩
      go_wp2_with fail
      go_ret
      exact ⟨ret_int (by rw [HUG.out]), hb3.trans (hb4.mono (by omega))⟩
    · rw [if_neg q]
      have Q := Lib.hid q; clear q
      go_enter Tryd.func77, Tryd.ntmps77
      go_wp2_with fail
      refine UU.out.mono ?_
      rintro e w1 ⟨rfl, hb1⟩
      have HL := Lib.hid hcl
      rw [hcl]; clear hcl
      go_wp2_with fail
      refine (FF.out w1.heap.size d _ (by rw [HL.out]; show (w1.heap.push _)[w1.heap.size]? = _; simp) ?_).mono ?_
      · rw [World.cell?_of_block (w := w1) (Below.heap_alloc w1 _ c (Nat.lt_of_lt_of_le hcs hb1.size)), hb1.cell hcs]
        exact CC.out
      rintro e w2 ⟨rfl, hX, hb2⟩
      have hs2 := hb2.size
      simp at hs2
      have hz : w.heap.size < w2.heap.size := by have := hb1.size; omega
      obtain ⟨k1, k2⟩ := hcell hX
      have hb3 : Below w.heap.size w w2 := (hb1.alloc hb1.size _).trans (hb2.mono hb1.size)
      have hcl2 : hdCells (upd d) = #[.int .u64 (upd d).ser, .int .i64 (upd d).kind, .int .i64 (upd d).ptrs, .int .i64 (upd d).raws, .int .i64 (upd d).age, .int .i64 (upd d).site, .bool (upd d).held] := rfl
      have hv2 : (upd d).val = .agg #[.int .u64 (upd d).ser, .int .i64 (upd d).kind, .int .i64 (upd d).ptrs, .int .i64 (upd d).raws, .int .i64 (upd d).age, .int .i64 (upd d).site, .bool (upd d).held] := rfl
      have P2 := PP.out _ hb3
      rw [hv2] at P2
      rw [hcl2] at k1
      have q := Q.out
      have q1 : (chk (upd d) == 0) = false := by simpa using q
      rw [show pack (upd d) = 0 by unfold pack; rw [if_neg q]] at P2
      generalize chk (upd d) = cc at *
      generalize upd d = u at *
      have PQ := Lib.hid P2
      clear P2 hcl2 hv2 q hX hb2 hs2
      go_wp2_with fail
      refine PQ.out.mono ?_
      rintro e w3 ⟨rfl, hb4⟩
      go_wp2_with fail
      go_ret
      exact ⟨rfl, hb3.trans (hb4.mono (by omega))⟩
  · rw [if_neg i]
    have e1 : unp m = nohd := by unfold unp; rw [if_neg i]
    have i' : isHd m = false := by simpa using i
    rw [e1, i'] at U
    have UU := Lib.hid U
    clear U e1 i i' hF hc
    go_enter Tryd.func77, Tryd.ntmps77
    go_wp2_with fail
    refine UU.out.mono ?_
    rintro e w1 ⟨rfl, hb1⟩
    unfold nohd Hd.val
    simp only
    go_wp2_with fail
    go_ret
    exact ⟨rfl, hb1.alloc hb1.size _⟩

theorem With_held_any (v : Bool) (m : Int) (w : World) (ht : Tab w) (h0 : 0 ≤ m) (h1 : m < 18446744073709551616) :
    Calls Tryd.prog 22 #[.int .u64 m, .bool v] w fun e w' => e = .returned (.int .u64 (withH m (fun (h : Hd) => { h with held := v }))) ∧ Below w.heap.size w w' := by
  have hb : Below w.heap.size w (w.alloc (.cells #[.bool v] 4)) := (Below.refl _ _).alloc (Nat.le_refl _) _
  have W := with_held_any w.heap.size v m (w.alloc (.cells #[.bool v] 4)) (ht.below hb) h0 h1 (cell_new1 w _ _) (by simp)
  have WW := Lib.hid W
  have B := Lib.hid hb
  clear W hb
  go_enter Tryd.func22, Tryd.ntmps22
  go_wp2_with fail
  refine WW.out.mono ?_
  rintro e w1 ⟨rfl, hb1⟩
  go_wp2_with fail
  go_ret
  exact ⟨rfl, B.out.trans (hb1.mono (by simp))⟩

theorem with_kind_any (c : Nat) (v : Int) (m : Int) (w : World) (ht : Tab w) (h0 : 0 ≤ m) (h1 : m < 18446744073709551616)
    (hc : w.cell? ⟨c, 0, none⟩ = some (.int .i64 v)) (hcs : c < w.heap.size) :
    Calls Tryd.prog 77 #[.int .u64 m, .func (.func 81) #[] #[.pointer (some ⟨c, 0, none⟩)]] w fun e w' => e = .returned (.int .u64 (withH m (fun (h : Hd) => { h with kind := v }))) ∧ Below w.heap.size w w' := by
  have U := unpack_any m w ht h0 h1
  have hF : Turns 81 c (.int .i64 v) (fun (h : Hd) => { h with kind := v }) := turns_of 1 (.int .i64 v) (fun h => rfl) (fun b h w hb hc => with_kind b c h v w hb hc)
  generalize hu : (fun (h : Hd) => { h with kind := v }) = upd at *
  clear hu
  unfold withH
  by_cases i : isHd m = true
  · rw [if_pos i]
    have e1 : unp m = dec m := by unfold unp; rw [if_pos i]
    rw [e1, i] at U
    have hv : (dec m).val = .agg (hdCells (dec m)) := rfl
    rw [hv] at U
    generalize dec m = d at *
    have P := fun W (hb : Below w.heap.size w W) => pack_any (upd d) W (ht.below hb)
    have UU := Lib.hid U
    have PP := Lib.hid P
    have FF := Lib.hid hF
    have CC := Lib.hid hc
    have hcl : hdCells d = #[.int .u64 d.ser, .int .i64 d.kind, .int .i64 d.ptrs, .int .i64 d.raws, .int .i64 d.age, .int .i64 d.site, .bool d.held] := rfl
    clear U e1 hv i P hF hc
    by_cases q : chk (upd d) = 0
    · rw [if_pos q]
      have Q := Lib.hid q; clear q
      go_enter Tryd.func77, Tryd.ntmps77
      go_wp2_with fail
      refine UU.out.mono ?_
      rintro e w1 ⟨rfl, hb1⟩
      have HL := Lib.hid hcl
      rw [hcl]; clear hcl
      go_wp2_with fail
      refine (FF.out w1.heap.size d _ (by rw [HL.out]; show (w1.heap.push _)[w1.heap.size]? = _; simp) ?_).mono ?_
      · rw [World.cell?_of_block (w := w1) (Below.heap_alloc w1 _ c (Nat.lt_of_lt_of_le hcs hb1.size)), hb1.cell hcs]
        exact CC.out
      rintro e w2 ⟨rfl, hX, hb2⟩
      have hs2 := hb2.size
      simp at hs2
      have hz : w.heap.size < w2.heap.size := by have := hb1.size; omega
      obtain ⟨k1, k2⟩ := hcell hX
      have hb3 : Below w.heap.size w w2 := (hb1.alloc hb1.size _).trans (hb2.mono hb1.size)
      have hcl2 : hdCells (upd d) = #[.int .u64 (upd d).ser, .int .i64 (upd d).kind, .int .i64 (upd d).ptrs, .int .i64 (upd d).raws, .int .i64 (upd d).age, .int .i64 (upd d).site, .bool (upd d).held] := rfl
      have hv2 : (upd d).val = .agg #[.int .u64 (upd d).ser, .int .i64 (upd d).kind, .int .i64 (upd d).ptrs, .int .i64 (upd d).raws, .int .i64 (upd d).age, .int .i64 (upd d).site, .bool (upd d).held] := rfl
      have P2 := PP.out _ hb3
      rw [hv2] at P2
      rw [hcl2] at k1
      have q := Q.out
      rw [show pack (upd d) = enc (upd d) by unfold pack; rw [if_pos q], q] at P2
      generalize hug : upd d = u at *
      have HUG := Lib.hid hug
      clear hug
      have PQ := Lib.hid P2
      clear P2 hcl2 hv2 q hX hb2 hs2
      go_wp2_with fail
      refine PQ.out.mono ?_
      rintro e w3 ⟨rfl, hb4⟩
      go_wp2_with fail
      go_ret
      exact ⟨ret_int (by rw [HUG.out]), hb3.trans (hb4.mono (by omega))⟩
    · rw [if_neg q]
      have Q := Lib.hid q; clear q
      go_enter Tryd.func77, Tryd.ntmps77
      go_wp2_with fail
      refine UU.out.mono ?_
      rintro e w1 ⟨rfl, hb1⟩
      have HL := Lib.hid hcl
      rw [hcl]; clear hcl
      go_wp2_with fail
      refine (FF.out w1.heap.size d _ (by rw [HL.out]; show (w1.heap.push _)[w1.heap.size]? = _; simp) ?_).mono ?_
      · rw [World.cell?_of_block (w := w1) (Below.heap_alloc w1 _ c (Nat.lt_of_lt_of_le hcs hb1.size)), hb1.cell hcs]
        exact CC.out
      rintro e w2 ⟨rfl, hX, hb2⟩
      have hs2 := hb2.size
      simp at hs2
      have hz : w.heap.size < w2.heap.size := by have := hb1.size; omega
      obtain ⟨k1, k2⟩ := hcell hX
      have hb3 : Below w.heap.size w w2 := (hb1.alloc hb1.size _).trans (hb2.mono hb1.size)
      have hcl2 : hdCells (upd d) = #[.int .u64 (upd d).ser, .int .i64 (upd d).kind, .int .i64 (upd d).ptrs, .int .i64 (upd d).raws, .int .i64 (upd d).age, .int .i64 (upd d).site, .bool (upd d).held] := rfl
      have hv2 : (upd d).val = .agg #[.int .u64 (upd d).ser, .int .i64 (upd d).kind, .int .i64 (upd d).ptrs, .int .i64 (upd d).raws, .int .i64 (upd d).age, .int .i64 (upd d).site, .bool (upd d).held] := rfl
      have P2 := PP.out _ hb3
      rw [hv2] at P2
      rw [hcl2] at k1
      have q := Q.out
      have q1 : (chk (upd d) == 0) = false := by simpa using q
      rw [show pack (upd d) = 0 by unfold pack; rw [if_neg q]] at P2
      generalize chk (upd d) = cc at *
      generalize upd d = u at *
      have PQ := Lib.hid P2
      clear P2 hcl2 hv2 q hX hb2 hs2
      go_wp2_with fail
      refine PQ.out.mono ?_
      rintro e w3 ⟨rfl, hb4⟩
      go_wp2_with fail
      go_ret
      exact ⟨rfl, hb3.trans (hb4.mono (by omega))⟩
  · rw [if_neg i]
    have e1 : unp m = nohd := by unfold unp; rw [if_neg i]
    have i' : isHd m = false := by simpa using i
    rw [e1, i'] at U
    have UU := Lib.hid U
    clear U e1 i i' hF hc
    go_enter Tryd.func77, Tryd.ntmps77
    go_wp2_with fail
    refine UU.out.mono ?_
    rintro e w1 ⟨rfl, hb1⟩
    unfold nohd Hd.val
    simp only
    go_wp2_with fail
    go_ret
    exact ⟨rfl, hb1.alloc hb1.size _⟩

theorem With_kind_any (v : Int) (m : Int) (w : World) (ht : Tab w) (h0 : 0 ≤ m) (h1 : m < 18446744073709551616) :
    Calls Tryd.prog 24 #[.int .u64 m, .int .i64 v] w fun e w' => e = .returned (.int .u64 (withH m (fun (h : Hd) => { h with kind := v }))) ∧ Below w.heap.size w w' := by
  have hb : Below w.heap.size w (w.alloc (.cells #[.int .i64 v] 3)) := (Below.refl _ _).alloc (Nat.le_refl _) _
  have W := with_kind_any w.heap.size v m (w.alloc (.cells #[.int .i64 v] 3)) (ht.below hb) h0 h1 (cell_new1 w _ _) (by simp)
  have WW := Lib.hid W
  have B := Lib.hid hb
  clear W hb
  go_enter Tryd.func24, Tryd.ntmps24
  go_wp2_with fail
  refine WW.out.mono ?_
  rintro e w1 ⟨rfl, hb1⟩
  go_wp2_with fail
  go_ret
  exact ⟨rfl, B.out.trans (hb1.mono (by simp))⟩

end Go.Proofs.YtomgfdfgildkbaaDoor
