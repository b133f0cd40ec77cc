/- The walk of middenlaw3's within: a walk gone through once more within its first step. -/
import Derived.Test.YtomgfdfgildkbaaDoorTk2
namespace Go.Proofs.YtomgfdfgildkbaaDoor
open Go.RowKit Go.BigFrame

theorem TkAt.beside {w w' : World} {b o : Nat} {ty : TypeId} {B : Nat} {T : Tk} {v1 v2 : Value} (h : TkAt w b o ty B T v1 v2) (hb : ∃ cs, w'.heap[b]? = some (.cells cs ty (0, 0))) (hc : ∀ j, o ≤ j → j < o + 6 → w'.cell? ⟨b, j, none⟩ = w.cell? ⟨b, j, none⟩)
    (hr : ∀ k, v1.ownBlock = some k ∨ v2.ownBlock = some k → w'.heap[k]? = w.heap[k]?) : TkAt w' b o ty B T v1 v2 :=
  ⟨hb, (hc _ (by omega) (by omega)).trans h.c0, (hc _ (by omega) (by omega)).trans h.c1, (hc _ (by omega) (by omega)).trans h.c2, (hc _ (by omega) (by omega)).trans h.c3, (hc _ (by omega) (by omega)).trans h.c4, (hc _ (by omega) (by omega)).trans h.c5,
    ownsRow_heap h.r1 fun k hk => hr k (.inl hk), ownsRow_heap h.r2 fun k hk => hr k (.inr hk), h.n1, h.n2, h.n12, h.bB⟩
def Tk.new (stop most : Int) : Tk := ⟨[], [], stop, most, false, false⟩
set_option maxRecDepth 100000 in
set_option maxHeartbeats 4000000 in
/-- The rest of within.take: the outer taker takes. -/
theorem within_on (b : Nat) (B : Nat) (T : Tk) (v1 v2 : Value) (x : Int) (h : Hd) (w : World) (hT : TkAt w b 1 184 B T v1 v2) (hB : B ≤ w.heap.size) (hn : T.at_.length ≤ 1000000) (hl : T.at_.length = T.hd.length) (h0 : T.at_ ≠ []) :
    Calls Tryd.prog 137 #[.pointer (some ⟨b, 0, none⟩), .int .i64 x, h.val] w fun e w' => e = .returned (.bool (!(T.take x h).done)) ∧ ∃ v1' v2', TkAt w' b 1 184 B (T.take x h) v1' v2' ∧ (∀ k ∈ fpOf b v1' v2', k ∈ fpOf b v1 v2 ∨ w.heap.size ≤ k) ∧ (∀ j, j < 1 ∨ 7 ≤ j → w'.cell? ⟨b, j, none⟩ = w.cell? ⟨b, j, none⟩) ∧ Only (fpOf b v1 v2) w w' := by
  have TA := Lib.hid (fun (W : World) (hT : TkAt W b 1 184 B T v1 v2) (hB : B ≤ W.heap.size) => take_any b 1 184 B T v1 v2 x h W hT hB hn hl)
  have hlen : 0 < T.at_.length := by cases hq : T.at_ with
    | nil => exact absurd hq h0
    | cons a l => simp
  obtain ⟨g, cap, rfl, -, -⟩ := hT.r1.form hlen
  have c0 := hT.c0
  have lb := World.block_lt_of_cell? w ⟨b, 1, none⟩ hT.c0
  have hq : ((T.at_.length : Int) == 0) = false := by simp; omega
  obtain ⟨x0, x1, x2, x3, x4, x5, x6⟩ := h
  unfold Hd.val at TA ⊢
  simp only at TA ⊢
  generalize hz : T.at_.length = z at *
  clear hl hz hn h0
  go_enter Tryd.func137, Tryd.ntmps137
  go_upto_region 4 with fail
  have hbA := (Below.refl w.heap.size w).alloc (Nat.le_refl _) (.cells #[.int .u64 x0, .int .i64 x1, .int .i64 x2, .int .i64 x3, .int .i64 x4, .int .i64 x5, .bool x6] 24)
  have hH := heap_one w (.cells #[.int .u64 x0, .int .i64 x1, .int .i64 x2, .int .i64 x3, .int .i64 x4, .int .i64 x5, .bool x6] 24)
  generalize w.alloc (.cells #[.int .u64 x0, .int .i64 x1, .int .i64 x2, .int .i64 x3, .int .i64 x4, .int .i64 x5, .bool x6] 24) = wA at *
  obtain ⟨cH, fH⟩ := hcell hH
  have lH := lt_of_heap hH
  have FIN := Lib.hid (TA.out wA.drew (hT.below (hbA.drew)) (by have := hbA.size; show B ≤ wA.heap.size; omega))
  clear TA
  refine wp_region_still_tail 5 (by kernel_rfl) (by kernel_rfl) ?_
  simp only [List.take_succ_cons, List.take_zero, List.drop_succ_cons, List.drop_zero]
  iterate 5 still_step
  refine wpStill_nil ?_
  change wpList _ _ _ _ _ wA.drew
  have hbD := hbA.drew
  generalize wA.drew = wD at *
  go_wp2_with fail
  refine FIN.out.mono ?_
  rintro e w' ⟨rfl, u1, u2, h1, h2, h3, h4⟩
  go_wp2_with fail
  go_ret
  refine ⟨rfl, u1, u2, h1, fun k hk => ?_, fun j hj => (h3 j hj).trans (hbD.cell (p := ⟨b, j, none⟩) lb), (Only.of_below hbD).trans h4⟩
  rcases h2 k hk with q | q
  · exact .inl q
  · right; have := hbD.size; omega
theorem six_cells {w : World} {b : Nat} {ty : TypeId} {B : Nat} {Z : Tk} {y1 y2 : Value} (h : TkAt w b 7 ty B Z y1 y2) (stop most : Int) :
    TkAt ((((((w.setCell ⟨b, 7, none⟩ (.slice none 0 0)).setCell ⟨b, 8, none⟩ (.slice none 0 0)).setCell ⟨b, 9, none⟩ (.int .i64 stop)).setCell ⟨b, 10, none⟩ (.int .i64 most)).setCell ⟨b, 11, none⟩ (.bool false)).setCell ⟨b, 12, none⟩ (.bool false)) b 7 ty B (Tk.new stop most) (.slice none 0 0) (.slice none 0 0) ∧ (∀ j, j < 7 → ((((((w.setCell ⟨b, 7, none⟩ (.slice none 0 0)).setCell ⟨b, 8, none⟩ (.slice none 0 0)).setCell ⟨b, 9, none⟩ (.int .i64 stop)).setCell ⟨b, 10, none⟩ (.int .i64 most)).setCell ⟨b, 11, none⟩ (.bool false)).setCell ⟨b, 12, none⟩ (.bool false)).cell? ⟨b, j, none⟩ = w.cell? ⟨b, j, none⟩) ∧ Only [b] w ((((((w.setCell ⟨b, 7, none⟩ (.slice none 0 0)).setCell ⟨b, 8, none⟩ (.slice none 0 0)).setCell ⟨b, 9, none⟩ (.int .i64 stop)).setCell ⟨b, 10, none⟩ (.int .i64 most)).setCell ⟨b, 11, none⟩ (.bool false)).setCell ⟨b, 12, none⟩ (.bool false)) ∧ (∀ k, k ≠ b → ((((((w.setCell ⟨b, 7, none⟩ (.slice none 0 0)).setCell ⟨b, 8, none⟩ (.slice none 0 0)).setCell ⟨b, 9, none⟩ (.int .i64 stop)).setCell ⟨b, 10, none⟩ (.int .i64 most)).setCell ⟨b, 11, none⟩ (.bool false)).setCell ⟨b, 12, none⟩ (.bool false)).heap[k]? = w.heap[k]?) := by
  obtain ⟨cs, hb⟩ := h.hb
  have k0 := cell_eq (v := .slice none 0 0) h.c0
  have k1 : (w.setCell ⟨b, 7, none⟩ (.slice none 0 0)).cell? ⟨b, 8, none⟩ = some y2 := (cell_ne (by decide)).trans h.c1
  have hO : Only [b] w ((((((w.setCell ⟨b, 7, none⟩ (.slice none 0 0)).setCell ⟨b, 8, none⟩ (.slice none 0 0)).setCell ⟨b, 9, none⟩ (.int .i64 stop)).setCell ⟨b, 10, none⟩ (.int .i64 most)).setCell ⟨b, 11, none⟩ (.bool false)).setCell ⟨b, 12, none⟩ (.bool false)) := by
    have o0 := Only.setCell (p := ⟨b, 7, none⟩) (Only.refl [b] w) (by simp) (.slice none 0 0)
    have o1 := Only.setCell (p := ⟨b, 8, none⟩) o0 (by simp) (.slice none 0 0)
    have o2 := Only.setCell (p := ⟨b, 9, none⟩) o1 (by simp) (.int .i64 stop)
    have o3 := Only.setCell (p := ⟨b, 10, none⟩) o2 (by simp) (.int .i64 most)
    have o4 := Only.setCell (p := ⟨b, 11, none⟩) o3 (by simp) (.bool false)
    exact Only.setCell (p := ⟨b, 12, none⟩) o4 (by simp) (.bool false)
  refine ⟨⟨⟨_, block_set (block_set (block_set (block_set (block_set (block_set hb _ _) _ _) _ _) _ _) _ _) _ _⟩, ?_, ?_, ?_, ?_, ?_, ?_, World.ownsRow_nil _ _ _ _, World.ownsRow_nil _ _ _ _, by simp [Value.ownBlock], by simp [Value.ownBlock], by simp [Value.ownBlock], h.bB⟩, fun j hj => ?_, hO, fun k hk => ?_⟩
  · rw [cell_ne (by decide), cell_ne (by decide), cell_ne (by decide), cell_ne (by decide), cell_ne (by decide)]; exact k0
  · rw [cell_ne (by decide), cell_ne (by decide), cell_ne (by decide), cell_ne (by decide)]; exact cell_eq k1
  · rw [cell_ne (by decide), cell_ne (by decide), cell_ne (by decide)]; exact cell_eq ((cell_ne (by decide)).trans ((cell_ne (by decide)).trans h.c2))
  · rw [cell_ne (by decide), cell_ne (by decide)]; exact cell_eq ((cell_ne (by decide)).trans ((cell_ne (by decide)).trans ((cell_ne (by decide)).trans h.c3)))
  · rw [cell_ne (by decide)]; exact cell_eq ((cell_ne (by decide)).trans ((cell_ne (by decide)).trans ((cell_ne (by decide)).trans ((cell_ne (by decide)).trans h.c4))))
  · exact cell_eq ((cell_ne (by decide)).trans ((cell_ne (by decide)).trans ((cell_ne (by decide)).trans ((cell_ne (by decide)).trans ((cell_ne (by decide)).trans h.c5)))))
  · rw [cell_ne (by omega), cell_ne (by omega), cell_ne (by omega), cell_ne (by omega), cell_ne (by omega), cell_ne (by omega)]
  · rw [block_set_ne hk, block_set_ne hk, block_set_ne hk, block_set_ne hk, block_set_ne hk, block_set_ne hk]
set_option maxRecDepth 100000 in
set_option maxHeartbeats 4000000 in
theorem within_first (a wb bs ba : Nat) (A : Ar) (s : Int) (S : List Nat) (m1 : a ∈ S) (m2 : wb ∈ S) (m3 : bs ∈ S) (m4 : ba ∈ S) (m5 : 1 ∈ S) (m6 : 0 ∈ S) (ok : A.Ok) (w : World) (tb : Tab w) (hA : ArAt w a wb A)
    (hbs : w.cell? ⟨bs, 0, none⟩ = some (.int .i64 s)) (hba : w.cell? ⟨ba, 0, none⟩ = some (.pointer (some ⟨a, 0, none⟩))) (hS : ∀ k ∈ S, k < w.heap.size)
    (b B : Nat) (stop most : Int) (Z : Tk) (y1 y2 : Value) (hT : TkAt w b 1 184 B (Tk.new stop most) (.slice none 0 0) (.slice none 0 0)) (hM : TkAt w b 7 184 B Z y1 y2)
    (hit : w.cell? ⟨b, 0, none⟩ = some (.func (.func 152) #[] #[.pointer (some ⟨ba, 0, none⟩), .pointer (some ⟨bs, 0, none⟩)])) (hd0 : b ∉ S) (x : Int) (h : Hd) :
    Calls Tryd.prog 137 #[.pointer (some ⟨b, 0, none⟩), .int .i64 x, h.val] w fun e w' => e = .returned (.bool (!((Tk.new stop most).take x h).done)) ∧ ∃ u1 u2 z1 z2, TkAt w' b 1 184 B ((Tk.new stop most).take x h) u1 u2 ∧ TkAt w' b 7 184 B ((Tk.new stop most).over (A.objs s)) z1 z2 ∧
      (∀ k ∈ fpOf b u1 u2, k = b ∨ w.heap.size ≤ k) ∧ (∀ k ∈ fpOf b z1 z2, k = b ∨ w.heap.size ≤ k) ∧ (∀ k ∈ fpOf b z1 z2, k ∈ fpOf b u1 u2 → k = b) ∧ w'.cell? ⟨b, 0, none⟩ = w.cell? ⟨b, 0, none⟩ ∧ Only [b] w w' := by
  have hmf : ∀ (fn : Fn) (first cap : Array Value) (w : World), (Instr.makeFunc fn first cap).run Tryd.prog w = .ok (.func fn first cap) w := fun _ _ _ _ => rfl
  have lb : b < w.heap.size := World.block_lt_of_cell? w ⟨b, 1, none⟩ hT.c0
  have bB := hT.bB
  have c0 := hT.c0
  have c2 : w.cell? ⟨b, 3, none⟩ = some (.int .i64 stop) := hT.c2
  have c3 : w.cell? ⟨b, 4, none⟩ = some (.int .i64 most) := hT.c3
  obtain ⟨cs, hbb⟩ := hT.hb
  have ff := (hcell hbb).2
  have m7 : w.cell? ⟨b, 7, none⟩ = some y1 := hM.c0
  have m8 : w.cell? ⟨b, 8, none⟩ = some y2 := hM.c1
  have m9 : w.cell? ⟨b, 9, none⟩ = some (.int .i64 Z.stop) := hM.c2
  have m10 : w.cell? ⟨b, 10, none⟩ = some (.int .i64 Z.most) := hM.c3
  have m11 : w.cell? ⟨b, 11, none⟩ = some (.bool Z.done) := hM.c4
  have m12 : w.cell? ⟨b, 12, none⟩ = some (.bool Z.deaf) := hM.c5
  obtain ⟨x0, x1, x2, x3, x4, x5, x6⟩ := h
  unfold Hd.val
  simp only
  go_enter Tryd.func137, Tryd.ntmps137
  go_upto_region 2 with fail
  have hbA := (Below.refl w.heap.size w).alloc (Nat.le_refl _) (.cells #[.int .u64 x0, .int .i64 x1, .int .i64 x2, .int .i64 x3, .int .i64 x4, .int .i64 x5, .bool x6] 24)
  have hH := heap_one w (.cells #[.int .u64 x0, .int .i64 x1, .int .i64 x2, .int .i64 x3, .int .i64 x4, .int .i64 x5, .bool x6] 24)
  have kb : ∀ j, (w.alloc (.cells #[.int .u64 x0, .int .i64 x1, .int .i64 x2, .int .i64 x3, .int .i64 x4, .int .i64 x5, .bool x6] 24)).cell? ⟨b, j, none⟩ = w.cell? ⟨b, j, none⟩ := fun j => hbA.cell (p := ⟨b, j, none⟩) lb
  have kf : ∀ j, (w.alloc (.cells #[.int .u64 x0, .int .i64 x1, .int .i64 x2, .int .i64 x3, .int .i64 x4, .int .i64 x5, .bool x6] 24)).frozen? ⟨b, j, none⟩ = false := fun j => (hbA.frozen (p := ⟨b, j, none⟩) lb).trans (ff j)
  generalize w.alloc (.cells #[.int .u64 x0, .int .i64 x1, .int .i64 x2, .int .i64 x3, .int .i64 x4, .int .i64 x5, .bool x6] 24) = wA at *
  replace c2 := (kb _).trans c2
  replace c3 := (kb _).trans c3
  replace m7 := (kb _).trans m7
  replace m8 := (kb _).trans m8
  replace m9 := (kb _).trans m9
  replace m10 := (kb _).trans m10
  replace m11 := (kb _).trans m11
  replace m12 := (kb _).trans m12
  clear c0 ff hbb kb
  go_big_region
  have hMA := hM.below hbA
  obtain ⟨hM6, hC6, hO6, hK6⟩ := six_cells hMA stop most
  have lbA : b < wA.heap.size := by have := hbA.size; omega
  generalize ((((((wA.setCell ⟨b, 7, none⟩ (.slice none 0 0)).setCell ⟨b, 8, none⟩ (.slice none 0 0)).setCell ⟨b, 9, none⟩ (.int .i64 stop)).setCell ⟨b, 10, none⟩ (.int .i64 most)).setCell ⟨b, 11, none⟩ (.bool false)).setCell ⟨b, 12, none⟩ (.bool false)) = wS at *
  replace hM6 := hM6.below (Below.refl wS.heap.size wS).drew
  replace hO6 := (Only.of_below (S := [b]) hbA).trans hO6.drew
  have hC6' : ∀ j, j < 7 → wS.drew.cell? ⟨b, j, none⟩ = w.cell? ⟨b, j, none⟩ := fun j hj => (hC6 j hj).trans (hbA.cell (p := ⟨b, j, none⟩) lb)
  have hH6 := (hK6 w.heap.size (by omega)).trans hH
  replace hH6 : wS.drew.heap[w.heap.size]? = some (Obj.cells #[.int .u64 x0, .int .i64 x1, .int .i64 x2, .int .i64 x3, .int .i64 x4, .int .i64 x5, .bool x6] 24 (0, 0)) := hH6
  clear hC6 hK6 hMA hH kf m7 m8 m9 m10 m11 m12 c2 c3 lbA hbA
  generalize wS.drew = w6 at *
  have hfr := Frame.of_only hO6 (fun k hk => by simp at hk; subst hk; obtain ⟨cs, hb⟩ := hM.hb; exact ⟨cs, _, hb, by decide⟩)
  have hkt := hfr.kept (S := S) (fun k hk hm => by simp at hm; subst hm; exact hd0 hk)
  have hT6 := hT.beside (w' := w6) hM6.hb (fun j h1 h2 => hC6' j (by omega)) (fun k hk => by simp [Value.ownBlock] at hk)
  have hdr := (Below.refl w6.heap.size w6).drew
  have hTD := hT6.below hdr
  have hMD := hM6.below hdr
  have hOD := hO6.drew
  have HCD : ∀ j, j < 7 → w6.drew.cell? ⟨b, j, none⟩ = w.cell? ⟨b, j, none⟩ := hC6'
  have hHD : w6.drew.heap[w.heap.size]? = some (Obj.cells #[.int .u64 x0, .int .i64 x1, .int .i64 x2, .int .i64 x3, .int .i64 x4, .int .i64 x5, .bool x6] 24 (0, 0)) := hH6
  have OT := Lib.hid (obj1_take a wb bs ba A s S m1 m2 m3 m4 m5 m6 ok w6.drew ((tb.kept hkt m5 m6).below hdr) ((hA.kept hkt m1 m2).below hdr) (hkt.cell m3 hbs) (hkt.cell m4 hba) (fun k hk => by have := hS k hk; have := hkt.size; show k < w6.heap.size; omega) b 7 184 B (Tk.new stop most) (.slice none 0 0) (.slice none 0 0) hMD (by decide) (by have := hMD.bB; have := hkt.size; show B ≤ w6.heap.size; omega)
    (fun k hk hm => by simp [fpOf, Value.ownBlock] at hm; subst hm; exact hd0 hk) rfl (by simp [Tk.new]))
  have hit6 := (hC6' 0 (by decide)).trans hit
  have TA := Lib.hid (fun (W : World) (hT : TkAt W b 1 184 B (Tk.new stop most) (.slice none 0 0) (.slice none 0 0)) (hB : B ≤ W.heap.size) => take_any b 1 184 B (Tk.new stop most) (.slice none 0 0) (.slice none 0 0) x ⟨x0, x1, x2, x3, x4, x5, x6⟩ W hT hB (by simp [Tk.new]) rfl)
  unfold Hd.val at TA
  simp only at TA
  have HC6 := Lib.hid HCD
  have HIT := Lib.hid hit
  clear hfr hkt tb hA hbs hba hT hM hit hS hC6' hT6 hM6 hO6 hdr HCD
  go_upto_region 3 with fail
  refine wp_region_still_tail 8 (by kernel_rfl) (by kernel_rfl) ?_
  simp only [List.take_succ_cons, List.take_zero, List.drop_succ_cons, List.drop_zero]
  iterate 8 still_step
  refine wpStill_nil ?_
  change wpList _ _ _ _ _ w6.drew
  clear hit6 hH6
  generalize w6.drew = wD at *
  go_wp2_with fail
  refine OT.out.mono ?_
  rintro e w7 ⟨rfl, ⟨z1, z2, hz, hzk⟩, hzc, hzo⟩
  have ez : fpOf b (.slice none 0 0) (.slice none 0 0) = [b] := rfl
  rw [ez] at hzk hzo
  clear OT
  have hT7 := hTD.beside (w' := w7) hz.hb (fun j h1 h2 => hzc j (by omega)) (fun k hk => by simp [Value.ownBlock] at hk)
  have lqD := lt_of_heap hHD
  have hH7 := (hzo.block _ lqD (by simp; omega)).trans hHD
  have lq7 := lt_of_heap hH7
  obtain ⟨cH, fH⟩ := hcell hH7
  have TA7 := Lib.hid (TA.out w7.drew (hT7.below (Below.refl w7.heap.size w7).drew) (by show B ≤ w7.heap.size; omega))
  clear TA
  go_upto_region 4 with fail
  refine wp_region_still_tail 5 (by kernel_rfl) (by kernel_rfl) ?_
  simp only [List.take_succ_cons, List.take_zero, List.drop_succ_cons, List.drop_zero]
  iterate 5 still_step
  refine wpStill_nil ?_
  change wpList _ _ _ _ _ w7.drew
  have hz8 := hz.below (Below.refl w7.heap.size w7).drew
  have hzo8 := hzo.drew
  have hzc8 : ∀ j, j < 7 ∨ 7 + 6 ≤ j → w7.drew.cell? ⟨b, j, none⟩ = wD.cell? ⟨b, j, none⟩ := hzc
  have HZC := Lib.hid hzc8
  clear hzc hzc8 hz hzo hT7 hH7 cH fH lq7
  generalize w7.drew = w8 at *
  go_wp2_with fail
  refine TA7.out.mono ?_
  rintro e w9 ⟨rfl, u1, u2, h1, h2, h3, h4⟩
  rw [ez] at h2 h4
  go_wp2_with fail
  go_ret
  refine ⟨rfl, u1, u2, z1, z2, h1, ?_, ?_, ?_, ?_, ?_, ?_⟩
  · refine hz8.beside h1.hb (fun j q1 q2 => h3 j (.inr q1)) (fun k hk => h4.block k ?_ ?_)
    · rcases hk with hk | hk
      · exact (hz8.lt k (mem_fp.2 (.inr (.inl hk)))).1
      · exact (hz8.lt k (mem_fp.2 (.inr (.inr hk)))).1
    · intro hm
      simp at hm
      subst hm
      rcases hk with hk | hk
      · exact hz8.n1 hk
      · exact hz8.n2 hk
  · intro k hk
    rcases h2 k hk with q | q
    · exact .inl (by simpa using q)
    · right; have := hOD.size; have := hzo8.size; omega
  · intro k hk
    rcases hzk k hk with q | q
    · exact .inl (by simpa using q)
    · right; have := hOD.size; omega
  · intro k hk hu
    rcases h2 k hu with q | q
    · simpa using q
    · have := (hz8.lt k hk).1; omega
  · exact (h3 0 (.inl (by decide))).trans ((HZC.out 0 (.inl (by decide))).trans (HC6.out 0 (by decide)))
  · exact hOD.trans (hzo8.trans h4)
end Go.Proofs.YtomgfdfgildkbaaDoor
