/- The document's own arena: New. -/
import Derived.Test.YtomgfdfgildkbaaDoorRf6G
import Derived.Test.YtomgfdfgildkbaaDoorLaw3aG
namespace Go.Proofs.YtomgfdfgildkbaaDoor
open Go.RowKit Go.BigFrame

theorem rnew_no (c : Cfg) (w : World) (h : c.valid = false) : Calls Tryd.prog 70 #[c.val] w fun e w' => e = .returned (.tuple #[.pointer none, .int .i64 30]) ∧ Below w.heap.size w w' := by
  have V := Lib.hid (fun w => rvalid_any c w)
  rw [h] at V
  clear h
  have hX := heap_one w (.cells c.cells 45)
  have hb := (Below.refl w.heap.size w).alloc (Nat.le_refl _) (.cells c.cells 45)
  obtain ⟨q0, q1, q2, q3, q4, q5, q6, q7, q8, q9, q10, q11, q12, q13⟩ := c
  unfold Cfg.val Cfg.cells at *
  simp only at *
  go_enter Tryd.func70, Tryd.ntmps70
  go_upto_region 1 with fail
  generalize w.alloc (.cells #[.int .i64 q0, .int .i64 q1, .int .i64 q2, .int .i64 q3, .int .i64 q4, .int .i64 q5, .int .i64 q6, .int .i64 q7, .int .i64 q8, .int .i64 q9, .int .i64 q10, .int .i64 q11, .int .i64 q12, .int .i64 q13] 45) = w1 at *
  obtain ⟨cX, fX⟩ := hcell hX
  go_wp2_with fail
  refine (V.out _).mono ?_
  rintro e w2 ⟨rfl, hq⟩
  go_wp2_with fail
  go_ret2
  exact ⟨rfl, hb.trans (hq.mono hb.size)⟩
theorem rf_step {w w3 : World} {b o : Nat} {cs : Array Value} {t : TypeId} {sl : Value} {l : List Int} (hB : w3.heap[b]? = some (.cells cs t (0, 0))) (hb : Below w.heap.size w w3) (wb : w.heap.size ≤ b) :
    ((w3.setCell ⟨b, o, none⟩ sl).alloc (.cells (u64s l) 22)).drew.heap[b]? = some (.cells (cs.setIfInBounds o sl) t (0, 0)) ∧ (∀ k, k < w3.heap.size → k ≠ b → ((w3.setCell ⟨b, o, none⟩ sl).alloc (.cells (u64s l) 22)).drew.heap[k]? = w3.heap[k]?) ∧
    ((w3.setCell ⟨b, o, none⟩ sl).alloc (.cells (u64s l) 22)).drew.heap[w3.heap.size]? = some (.cells (u64s l) 22 (0, 0)) ∧ ((w3.setCell ⟨b, o, none⟩ sl).alloc (.cells (u64s l) 22)).drew.heap.size = w3.heap.size + 1 ∧ Below w.heap.size w ((w3.setCell ⟨b, o, none⟩ sl).alloc (.cells (u64s l) 22)).drew := by
  have hz : (w3.setCell ⟨b, o, none⟩ sl).heap.size = w3.heap.size := by simp
  have lb := lt_of_heap hB
  have h1 := heap_one (w3.setCell ⟨b, o, none⟩ sl) (.cells (u64s l) 22)
  have h2 := (Below.refl (w3.setCell ⟨b, o, none⟩ sl).heap.size (w3.setCell ⟨b, o, none⟩ sl)).alloc (Nat.le_refl _) (.cells (u64s l) 22)
  have hbs := Below.setCell (p := ⟨b, o, none⟩) hb wb sl
  refine ⟨?_, fun k hk hn => ?_, ?_, ?_, (hbs.alloc hbs.size _).drew⟩
  · show ((w3.setCell ⟨b, o, none⟩ sl).alloc (.cells (u64s l) 22)).heap[b]? = _
    rw [h2.block b (by omega)]; exact block_set hB o sl
  · show ((w3.setCell ⟨b, o, none⟩ sl).alloc (.cells (u64s l) 22)).heap[k]? = _
    rw [h2.block k (by omega)]; exact block_set_ne hn
  · show ((w3.setCell ⟨b, o, none⟩ sl).alloc (.cells (u64s l) 22)).heap[w3.heap.size]? = _
    rw [← hz]; exact h1
  · show ((w3.setCell ⟨b, o, none⟩ sl).alloc (.cells (u64s l) 22)).heap.size = _
    rw [World.size_alloc, hz]
theorem seg_new {c : Cfg} (h : c.valid = true) {s : Int} (hs : isSp s = true) : (Ar.new c).seg s = List.replicate (szOf c s).toNat 0 := by
  have hl := Ar.seg_len (Ar.new_ok3 h) hs
  apply List.ext_getElem?
  intro j
  by_cases hj : j < (szOf c s).toNat
  · rw [Ar.seg_get hj, List.getElem?_replicate, if_pos hj]
    have hz := (Ar.new_ok3 h).sizes s
    have hf := new_first c hs
    have hlen := (Ar.new_ok3 h).len
    have hb := (Ar.new_ok3 h).top_le s
    obtain ⟨e0, e1, s0, s1, t0, t1⟩ := Cfg.bd h
    show (List.replicate c.size.toNat (0 : Int))[_]? = _
    rw [List.getElem?_replicate, if_pos]
    rw [hf.1]
    unfold Cfg.size
    rcases sp_cases hs with rfl | rfl | rfl | rfl <;> simp [posOf, szOf] at hj ⊢ <;> omega
  · rw [List.getElem?_eq_none (by rw [hl]; exact Nat.le_of_not_lt hj), List.getElem?_eq_none (by rw [List.length_replicate]; omega)]
set_option maxRecDepth 100000 in
set_option maxHeartbeats 8000000 in
theorem rnew_yes (c : Cfg) (w : World) (h : c.valid = true) : Calls Tryd.prog 70 #[c.val] w fun e w' => ∃ b cs, e = .returned (.tuple #[.pointer (some ⟨b, 0, none⟩), .int .i64 0]) ∧ RfAt w' b cs (Ar.new c) ∧ w.heap.size ≤ b ∧ (∀ s, isSp s = true → w.heap.size ≤ cs s) ∧ Below w.heap.size w w' := by
  have V := Lib.hid (fun w => rvalid_any c w)
  rw [h] at V
  obtain ⟨e0, e1, s0, s1, t0, t1⟩ := Cfg.bd h
  have M1 := fun w => mk_u64 c.eden w (by omega) (by omega)
  have M2 := fun w => mk_u64 c.surv w (by omega) (by omega)
  have M3 := fun w => mk_u64 c.ten w (by omega) (by omega)
  have hX := heap_one w (.cells c.cells 45)
  have hb := (Below.refl w.heap.size w).alloc (Nat.le_refl _) (.cells c.cells 45)
  have HC := Lib.hid h
  clear h e0 e1 s0 s1 t0 t1
  have cvd : c.val = .agg #[.int .i64 c.eden, .int .i64 c.surv, .int .i64 c.ten, .int .i64 c.large, .int .i64 c.floor, .int .i64 c.num, .int .i64 c.den, .int .i64 c.target, .int .i64 c.maxAge, .int .i64 c.threads, .int .i64 c.slots, .int .i64 c.handles, .int .i64 c.buffer, .int .i64 c.workers] := rfl
  unfold Cfg.cells at hX hb
  rw [cvd] at V ⊢
  clear cvd
  go_enter Tryd.func70, Tryd.ntmps70
  go_upto_region 1 with fail
  generalize w.alloc (.cells #[.int .i64 c.eden, .int .i64 c.surv, .int .i64 c.ten, .int .i64 c.large, .int .i64 c.floor, .int .i64 c.num, .int .i64 c.den, .int .i64 c.target, .int .i64 c.maxAge, .int .i64 c.threads, .int .i64 c.slots, .int .i64 c.handles, .int .i64 c.buffer, .int .i64 c.workers] 45) = w1 at *
  obtain ⟨cX, fX⟩ := hcell hX
  go_wp2_with fail
  refine (V.out _).mono ?_
  rintro e w2 ⟨rfl, hq⟩
  replace hX := (hq.block _ (lt_of_heap hX)).trans hX
  replace hb := hb.trans (hq.mono hb.size)
  clear hq cX fX V w1
  obtain ⟨cX, fX⟩ := hcell hX
  go_upto_region 4 with fail
  have hB := heap_one w2 (.cells #[.int .i64 c.eden, .int .i64 c.surv, .int .i64 c.ten, .int .i64 c.large, .int .i64 c.floor, .int .i64 c.num, .int .i64 c.den, .int .i64 c.target, .int .i64 c.maxAge, .int .i64 c.threads, .int .i64 c.slots, .int .i64 c.handles, .int .i64 c.buffer, .int .i64 c.workers, .slice none 0 0, .slice none 0 0, .slice none 0 0, .slice none 0 0, .slice none 0 0, .int .i64 0, .int .i64 0, .int .i64 0, .int .i64 0, .int .i64 0, .int .i64 2] 157)
  have hq := (Below.refl w2.heap.size w2).alloc (Nat.le_refl _) (.cells #[.int .i64 c.eden, .int .i64 c.surv, .int .i64 c.ten, .int .i64 c.large, .int .i64 c.floor, .int .i64 c.num, .int .i64 c.den, .int .i64 c.target, .int .i64 c.maxAge, .int .i64 c.threads, .int .i64 c.slots, .int .i64 c.handles, .int .i64 c.buffer, .int .i64 c.workers, .slice none 0 0, .slice none 0 0, .slice none 0 0, .slice none 0 0, .slice none 0 0, .int .i64 0, .int .i64 0, .int .i64 0, .int .i64 0, .int .i64 0, .int .i64 2] 157)
  have w1b := lt_of_heap hX
  replace hX := (hq.block _ (lt_of_heap hX)).trans hX
  have hbb := hb.size
  replace hb := hb.trans (hq.mono hb.size)
  generalize w2.alloc (.cells #[.int .i64 c.eden, .int .i64 c.surv, .int .i64 c.ten, .int .i64 c.large, .int .i64 c.floor, .int .i64 c.num, .int .i64 c.den, .int .i64 c.target, .int .i64 c.maxAge, .int .i64 c.threads, .int .i64 c.slots, .int .i64 c.handles, .int .i64 c.buffer, .int .i64 c.workers, .slice none 0 0, .slice none 0 0, .slice none 0 0, .slice none 0 0, .slice none 0 0, .int .i64 0, .int .i64 0, .int .i64 0, .int .i64 0, .int .i64 0, .int .i64 2] 157) = w3 at *
  generalize w2.heap.size = b at *
  clear hq cX fX
  have HS := Lib.hid (fun (w3 : World) (o : Nat) (cs : Array Value) (sl : Value) (l : List Int) (hB : w3.heap[b]? = some (.cells cs 157 (0, 0))) (hb : Below w.heap.size w w3) => rf_step (o := o) (sl := sl) (l := l) hB hb hbb)
  go_upto_region 4 with fail
  obtain ⟨cX, fX⟩ := hcell hX
  obtain ⟨cB, fB⟩ := hcell hB
  have lX := lt_of_heap hX
  have lB := lt_of_heap hB
  obtain ⟨r1, r2, r3, r4, r5⟩ := HS.out w3 15 _ (.slice (some ⟨w3.heap.size, 0, none⟩) c.eden.toNat c.eden.toNat) (List.replicate c.eden.toNat 0) hB hb
  simp only [List.setIfInBounds_toArray, List.set_cons_zero, List.set_cons_succ] at r1
  go_big_region
  replace hX := (r2 _ lX (by omega)).trans hX
  have hA0 := r3
  have hgb0 := lB
  have z0 := lt_of_heap r3
  replace hB := r1
  replace hb := r5
  clear cX fX cB fB lX lB r1 r2 r3 r4 r5
  generalize ((w3.setCell ⟨b, 15, none⟩ (.slice (some ⟨w3.heap.size, 0, none⟩) c.eden.toNat c.eden.toNat)).alloc (.cells (u64s (List.replicate c.eden.toNat 0)) 22)).drew = w4 at *
  generalize w3.heap.size = g0 at *
  go_upto_region 5 with fail
  obtain ⟨cX, fX⟩ := hcell hX
  obtain ⟨cB, fB⟩ := hcell hB
  have lX := lt_of_heap hX
  have lB := lt_of_heap hB
  obtain ⟨r1, r2, r3, r4, r5⟩ := HS.out w4 16 _ (.slice (some ⟨w4.heap.size, 0, none⟩) c.surv.toNat c.surv.toNat) (List.replicate c.surv.toNat 0) hB hb
  simp only [List.setIfInBounds_toArray, List.set_cons_zero, List.set_cons_succ] at r1
  go_big_region
  replace hX := (r2 _ lX (by omega)).trans hX
  replace hA0 := (r2 _ (lt_of_heap hA0) (by omega)).trans hA0
  have hA1 := r3
  have hgb1 := lB
  have z1 := lt_of_heap r3
  replace hB := r1
  replace hb := r5
  clear cX fX cB fB lX lB r1 r2 r3 r4 r5
  generalize ((w4.setCell ⟨b, 16, none⟩ (.slice (some ⟨w4.heap.size, 0, none⟩) c.surv.toNat c.surv.toNat)).alloc (.cells (u64s (List.replicate c.surv.toNat 0)) 22)).drew = w5 at *
  generalize w4.heap.size = g1 at *
  go_upto_region 6 with fail
  obtain ⟨cX, fX⟩ := hcell hX
  obtain ⟨cB, fB⟩ := hcell hB
  have lX := lt_of_heap hX
  have lB := lt_of_heap hB
  obtain ⟨r1, r2, r3, r4, r5⟩ := HS.out w5 17 _ (.slice (some ⟨w5.heap.size, 0, none⟩) c.surv.toNat c.surv.toNat) (List.replicate c.surv.toNat 0) hB hb
  simp only [List.setIfInBounds_toArray, List.set_cons_zero, List.set_cons_succ] at r1
  go_big_region
  replace hX := (r2 _ lX (by omega)).trans hX
  replace hA0 := (r2 _ (lt_of_heap hA0) (by omega)).trans hA0
  replace hA1 := (r2 _ (lt_of_heap hA1) (by omega)).trans hA1
  have hA2 := r3
  have hgb2 := lB
  have z2 := lt_of_heap r3
  replace hB := r1
  replace hb := r5
  clear cX fX cB fB lX lB r1 r2 r3 r4 r5
  generalize ((w5.setCell ⟨b, 17, none⟩ (.slice (some ⟨w5.heap.size, 0, none⟩) c.surv.toNat c.surv.toNat)).alloc (.cells (u64s (List.replicate c.surv.toNat 0)) 22)).drew = w6 at *
  generalize w5.heap.size = g2 at *
  go_upto_region 7 with fail
  obtain ⟨cX, fX⟩ := hcell hX
  obtain ⟨cB, fB⟩ := hcell hB
  have lX := lt_of_heap hX
  have lB := lt_of_heap hB
  obtain ⟨r1, r2, r3, r4, r5⟩ := HS.out w6 18 _ (.slice (some ⟨w6.heap.size, 0, none⟩) c.ten.toNat c.ten.toNat) (List.replicate c.ten.toNat 0) hB hb
  simp only [List.setIfInBounds_toArray, List.set_cons_zero, List.set_cons_succ] at r1
  go_big_region
  replace hX := (r2 _ lX (by omega)).trans hX
  replace hA0 := (r2 _ (lt_of_heap hA0) (by omega)).trans hA0
  replace hA1 := (r2 _ (lt_of_heap hA1) (by omega)).trans hA1
  replace hA2 := (r2 _ (lt_of_heap hA2) (by omega)).trans hA2
  have hA3 := r3
  have hgb3 := lB
  have z3 := lt_of_heap r3
  replace hB := r1
  replace hb := r5
  clear cX fX cB fB lX lB r1 r2 r3 r4 r5
  generalize ((w6.setCell ⟨b, 18, none⟩ (.slice (some ⟨w6.heap.size, 0, none⟩) c.ten.toNat c.ten.toNat)).alloc (.cells (u64s (List.replicate c.ten.toNat 0)) 22)).drew = w7 at *
  generalize w6.heap.size = g3 at *
  go_wp2_with fail
  go_ret2
  have hcs : ∀ s, isSp s = true → b < (fun s : Int => if s = 1 then g0 else if s = 2 then g1 else if s = 3 then g2 else g3) s := fun s hs => by
    rcases sp_cases hs with rfl | rfl | rfl | rfl <;> simp <;> omega
  refine ⟨b, fun s => if s = 1 then g0 else if s = 2 then g1 else if s = 3 then g2 else g3, rfl, ⟨?_, ?_, fun s hs => Nat.ne_of_gt (hcs s hs), ?_, ?_⟩, Nat.le_of_lt w1b, fun s hs => Nat.le_of_lt (Nat.lt_trans w1b (hcs s hs)), hb⟩
  · rw [hB]; unfold rfCells; simp [Ar.top, Ar.first, Ar.new, szOf]
  · intro s hs
    rw [seg_new HC.out hs]
    rcases sp_cases hs with rfl | rfl | rfl | rfl
    · exact hA0
    · exact hA1
    · exact hA2
    · exact hA3
  · intro s t hs ht hn
    rcases sp_cases hs with rfl | rfl | rfl | rfl <;> rcases sp_cases ht with rfl | rfl | rfl | rfl <;> simp at hn ⊢ <;> omega
  · show (if (0 : Int) ≤ 0 then (List.replicate c.size.toNat (0 : Int)).getD 0 0 else 0) = 0
    rw [if_pos (by decide), List.getD_eq_getElem?_getD, List.getElem?_replicate]
    split <;> rfl
end Go.Proofs.YtomgfdfgildkbaaDoor
