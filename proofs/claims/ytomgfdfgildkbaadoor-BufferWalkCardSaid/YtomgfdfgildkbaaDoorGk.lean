/- Merged texts: Ba1, Ba2, Ba3, Ba4, Ba5. -/
import Derived.Test.YtomgfdfgildkbaaDoorGj
import Derived.Test.YtomgfdfgildkbaaDoorRf11G
/- The document's buffers (middenref13) as the same plain buffers: New, is, Room, Rest, Retire. -/


namespace Go.Proofs.YtomgfdfgildkbaaDoor
open Go.RowKit Go.BigFrame
set_option linter.unusedVariables false

def intsC (l : List Int) : Array Value := (l.map (Value.int .i64)).toArray
theorem intsC_get {l : List Int} {i : Nat} (h : i < l.length) : (intsC l)[i]? = some (.int .i64 (l.getD i 0)) := by simp [intsC, h]
theorem intsC_set (l : List Int) (i : Nat) (v : Int) : (intsC l).setIfInBounds i (.int .i64 v) = intsC (l.set i v) := by
  simp [intsC, List.map_set]
theorem intsC_zero (n : Nat) : intsC (List.replicate n 0) = (List.replicate n (Value.int .i64 0)).toArray := by simp [intsC]
theorem infoIntB : (Tryd.prog.info? 3).map (fun i => (i.zero, i.size, i.bytes)) = some (some (.int .i64 0), 1, 8) := by kernel_rfl
theorem mk_ints (n : Int) (w : World) (h0 : 0 ≤ n) (h1 : n ≤ 1000000) : (Instr.makeSlice 59 (.int .i64 n) (.int .i64 n)).run Tryd.prog w = .ok (.slice (some ⟨w.heap.size, 0, none⟩) n.toNat n.toNat) (w.alloc (.cells (intsC (List.replicate n.toNat 0)) 3)) := by
  obtain ⟨i, hi, hz, hs, hb⟩ := info_parts infoIntB
  have hr := run_make (P := Tryd.prog) w 59 3 i (.int .i64 0) Tryd.underlying59 hi hz .i64 .i64 n n h0 (Int.le_refl _) (by rw [hb]; omega) (by omega)
  have e : madeCells (Value.int .i64 0).cells (n.toNat * 1) = intsC (List.replicate n.toNat 0) := by
    apply Array.ext'
    rw [Nat.mul_one, show (Value.int IntKind.i64 0).cells = #[.int .i64 0] from rfl, toList_madeCells_one]
    simp [intsC]
  rw [hr, hs, e]
theorem heap_three (w : World) (A B C : Obj) : (((w.alloc A).alloc B).alloc C).heap[w.heap.size]? = some A ∧ (((w.alloc A).alloc B).alloc C).heap[w.heap.size + 1]? = some B ∧ (((w.alloc A).alloc B).alloc C).heap[w.heap.size + 1 + 1]? = some C := by
  obtain ⟨h1, h2⟩ := heap_two w A B
  have hz : ((w.alloc A).alloc B).heap.size = w.heap.size + 1 + 1 := by simp
  have hb := (Below.refl ((w.alloc A).alloc B).heap.size ((w.alloc A).alloc B)).alloc (Nat.le_refl _) C
  refine ⟨(hb.block _ (by omega)).trans h1, (hb.block _ (by omega)).trans h2, ?_⟩
  rw [← hz]; exact heap_one _ C
structure RbAt (w : World) (v ab sb : Nat) (B : Bu) : Prop where
  st : w.heap[v]? = some (.cells #[.int .i64 B.size, .slice (some ⟨ab, 0, none⟩) B.rests.length B.rests.length, .slice (some ⟨sb, 0, none⟩) B.rests.length B.rests.length] 174 (0, 0))
  as_ : w.heap[ab]? = some (.cells (intsC (B.rests.map (·.1))) 3 (0, 0))
  ss : w.heap[sb]? = some (.cells (intsC (B.rests.map (·.2))) 3 (0, 0))
  n1 : v ≠ ab
  n2 : v ≠ sb
  n3 : ab ≠ sb
theorem RbAt.below {w w' : World} {v ab sb : Nat} {B : Bu} (h : RbAt w v ab sb B) (hb : Below w.heap.size w w') : RbAt w' v ab sb B :=
  ⟨(hb.block _ (lt_of_heap h.st)).trans h.st, (hb.block _ (lt_of_heap h.as_)).trans h.as_, (hb.block _ (lt_of_heap h.ss)).trans h.ss, h.n1, h.n2, h.n3⟩
theorem RbAt.drew {w : World} {v ab sb : Nat} {B : Bu} (h : RbAt w v ab sb B) : RbAt w.drew v ab sb B := ⟨h.st, h.as_, h.ss, h.n1, h.n2, h.n3⟩
theorem Bu.is_bd {B : Bu} {t : Int} (h : B.is t = true) : 0 ≤ t ∧ t < (B.rests.length : Int) := by unfold Bu.is at h; exact of_decide_eq_true h
theorem RbAt.acell {w : World} {v ab sb : Nat} {B : Bu} (h : RbAt w v ab sb B) {t : Int} (ht : B.is t = true) : w.cell? ⟨ab, t.toNat, none⟩ = some (.int .i64 (B.rest t).1) ∧ w.cell? ⟨sb, t.toNat, none⟩ = some (.int .i64 (B.rest t).2) := by
  obtain ⟨h0, h1⟩ := Bu.is_bd ht
  have hl : t.toNat < B.rests.length := by omega
  unfold Bu.rest
  rw [if_pos h0, (hcell h.as_).1, (hcell h.ss).1, intsC_get (by simpa using hl), intsC_get (by simpa using hl)]
  simp [List.getD_eq_getElem?_getD, List.getElem?_eq_getElem hl]
theorem Bu.setRest_map1 {B : Bu} {t x : Int} (ht : B.is t = true) : (B.setRest t (x, (B.rest t).2)).rests.map (·.2) = B.rests.map (·.2) := by
  obtain ⟨h0, h1⟩ := Bu.is_bd ht
  have hl : t.toNat < B.rests.length := by omega
  unfold Bu.setRest Bu.rest
  rw [if_pos h0]
  simp only [List.map_set]
  apply List.ext_getElem?
  intro j
  rw [List.getElem?_set]
  split
  · rename_i e
    subst e
    rw [if_pos (by simpa using hl), List.getElem?_map, List.getD_eq_getElem?_getD, List.getElem?_eq_getElem hl]
    rfl
  · rfl
theorem Bu.setRest_map2 {B : Bu} {t y : Int} (ht : B.is t = true) : (B.setRest t ((B.rest t).1, y)).rests.map (·.1) = B.rests.map (·.1) := by
  obtain ⟨h0, h1⟩ := Bu.is_bd ht
  have hl : t.toNat < B.rests.length := by omega
  unfold Bu.setRest Bu.rest
  rw [if_pos h0]
  simp only [List.map_set]
  apply List.ext_getElem?
  intro j
  rw [List.getElem?_set]
  split
  · rename_i e
    subst e
    rw [if_pos (by simpa using hl), List.getElem?_map, List.getD_eq_getElem?_getD, List.getElem?_eq_getElem hl]
    rfl
  · rfl
theorem RbAt.setA {w : World} {v ab sb : Nat} {B : Bu} (h : RbAt w v ab sb B) {t : Int} (ht : B.is t = true) (x : Int) : RbAt (w.setCell ⟨ab, t.toNat, none⟩ (.int .i64 x)) v ab sb (B.setRest t (x, (B.rest t).2)) := by
  refine ⟨?_, ?_, ?_, h.n1, h.n2, h.n3⟩
  · rw [block_set_ne h.n1, h.st]; simp [Bu.setRest]
  · rw [block_set h.as_, intsC_set]; simp [Bu.setRest, List.map_set]
  · rw [block_set_ne (Ne.symm h.n3), h.ss, Bu.setRest_map1 ht]
theorem RbAt.setS {w : World} {v ab sb : Nat} {B : Bu} (h : RbAt w v ab sb B) {t : Int} (ht : B.is t = true) (y : Int) : RbAt (w.setCell ⟨sb, t.toNat, none⟩ (.int .i64 y)) v ab sb (B.setRest t ((B.rest t).1, y)) := by
  refine ⟨?_, ?_, ?_, h.n1, h.n2, h.n3⟩
  · rw [block_set_ne h.n2, h.st]; simp [Bu.setRest]
  · rw [block_set_ne h.n3, h.as_, Bu.setRest_map2 ht]
  · rw [block_set h.ss, intsC_set]; simp [Bu.setRest, List.map_set]
theorem rbIs_any (v ab sb : Nat) (B : Bu) (t : Int) (w : World) (h : RbAt w v ab sb B) : Calls Tryd.prog 159 #[.pointer (some ⟨v, 0, none⟩), .int .i64 t] w fun e w' => e = .returned (.bool (B.is t)) ∧ w = w' := by
  obtain ⟨hc, hf⟩ := hcell h.st
  unfold Bu.is
  generalize B.rests.length = n at *
  clear h
  by_cases h0 : 0 ≤ t
  · have d0 : decide (0 ≤ t) = true := by simpa using h0
    by_cases h1 : t < (n : Int)
    · have d1 : decide (t < (n : Int)) = true := by simpa using h1
      rw [decide_eq_true ⟨h0, h1⟩]
      go_enter Tryd.func159, Tryd.ntmps159
      go_wp2_with fail
      go_ret
      exact ⟨rfl, rfl⟩
    · have d1 : decide (t < (n : Int)) = false := by simpa using h1
      rw [decide_eq_false (fun q => h1 q.2)]
      go_enter Tryd.func159, Tryd.ntmps159
      go_wp2_with fail
      go_ret
      exact ⟨rfl, rfl⟩
  · have d0 : decide (0 ≤ t) = false := by simpa using h0
    rw [decide_eq_false (fun q => h0 q.1)]
    go_enter Tryd.func159, Tryd.ntmps159
    go_wp2_with fail
    go_ret
    exact ⟨rfl, rfl⟩
set_option maxHeartbeats 1000000 in
theorem rbNew_yes (n s : Int) (w : World) (h1 : 1 ≤ n) (h2 : n ≤ 8) (h3 : 0 ≤ s) (h4 : s ≤ 65536) :
    Calls Tryd.prog 71 #[.int .i64 n, .int .i64 s] w fun e w' => ∃ v ab sb, e = .returned (.tuple #[.pointer (some ⟨v, 0, none⟩), .int .i64 0]) ∧ RbAt w' v ab sb (Bu.new n s) ∧ w.heap.size ≤ v ∧ w.heap.size ≤ ab ∧ w.heap.size ≤ sb ∧ Below w.heap.size w w' := by
  have hmk := fun w => mk_ints n w (by omega) (by omega)
  have d1 : decide (n < 1) = false := by simp; omega
  have d2 : decide (8 < n) = false := by simp; omega
  have d3 : decide (s < 0) = false := by simp; omega
  have d4 : decide (65536 < s) = false := by simp; omega
  go_enter Tryd.func71, Tryd.ntmps71
  go_upto_region 3 with fail
  go_region
  all_goals
    go_wp2_with fail
    go_ret2
    have hX : intsC ((Bu.new n s).rests.map (·.1)) = intsC (List.replicate n.toNat 0) := by simp [Bu.new]
    have hY : intsC ((Bu.new n s).rests.map (·.2)) = intsC (List.replicate n.toNat 0) := by simp [Bu.new]
    have hL : (Bu.new n s).rests.length = n.toNat := by simp [Bu.new]
    first
      | exact ⟨w.heap.size + 1 + 1, w.heap.size, w.heap.size + 1, rfl, ⟨by rw [hL]; exact (heap_three _ _ _ _).2.2, by rw [hX]; exact (heap_three _ _ _ _).1, by rw [hY]; exact (heap_three _ _ _ _).2.1, by omega, by omega, by omega⟩, by omega, by omega, by omega, ((((Below.refl _ _).alloc (Nat.le_refl _) _).alloc (by simp) _).alloc (by simp; omega) _).drew⟩
      | exact ⟨w.heap.size + 1 + 1, w.heap.size + 1, w.heap.size, rfl, ⟨by rw [hL]; exact (heap_three _ _ _ _).2.2, by rw [hX]; exact (heap_three _ _ _ _).2.1, by rw [hY]; exact (heap_three _ _ _ _).1, by omega, by omega, by omega⟩, by omega, by omega, by omega, ((((Below.refl _ _).alloc (Nat.le_refl _) _).alloc (by simp) _).alloc (by simp; omega) _).drew⟩
theorem rbNew_no (n s : Int) (w : World) (h : ¬ (1 ≤ n ∧ n ≤ 8 ∧ 0 ≤ s ∧ s ≤ 65536)) :
    Calls Tryd.prog 71 #[.int .i64 n, .int .i64 s] w fun e w' => e = .returned (.tuple #[.pointer none, .int .i64 130]) ∧ w = w' := by
  by_cases c1 : n < 1
  · have d1 : decide (n < 1) = true := by simpa using c1
    clear h
    go_enter Tryd.func71, Tryd.ntmps71
    go_wp2_with fail
    go_ret2
    exact ⟨rfl, rfl⟩
  have d1 : decide (n < 1) = false := by simpa using c1
  by_cases c2 : 8 < n
  · have d2 : decide (8 < n) = true := by simpa using c2
    clear h
    go_enter Tryd.func71, Tryd.ntmps71
    go_wp2_with fail
    go_ret2
    exact ⟨rfl, rfl⟩
  have d2 : decide (8 < n) = false := by simpa using c2
  by_cases c3 : s < 0
  · have d3 : decide (s < 0) = true := by simpa using c3
    clear h
    go_enter Tryd.func71, Tryd.ntmps71
    go_wp2_with fail
    go_ret2
    exact ⟨rfl, rfl⟩
  have d3 : decide (s < 0) = false := by simpa using c3
  have d4 : decide (65536 < s) = true := by simp; omega
  clear h
  go_enter Tryd.func71, Tryd.ntmps71
  go_wp2_with fail
  go_ret2
  exact ⟨rfl, rfl⟩
set_option maxHeartbeats 2000000 in
theorem rbRoom_any (v ab sb : Nat) (B : Bu) (r : Nat) (c : Int → Nat) (A : Ar) (t : Int) (w : World) (h : RbAt w v ab sb B) (ok : B.Ok) (hR : RfAt w r c A) (okA : A.Ok) :
    Calls Tryd.prog 126 #[.pointer (some ⟨v, 0, none⟩), .pointer (some ⟨r, 0, none⟩), .int .i64 t] w fun e w' => e = .returned (.int .i64 (B.room A t)) ∧ Below w.heap.size w w' := by
  have I := Lib.hid (rbIs_any v ab sb B t w h)
  have F := Lib.hid (fun W (hb : Below w.heap.size w W) => Bm hb (rfree_any r c A 1 W (hR.below hb) okA))
  have n8 := ok.n8
  unfold Bu.room
  by_cases ct : B.is t = true
  · have hr := (h.acell ct).2
    obtain ⟨t0, t1⟩ := Bu.is_bd ct
    have hc := (hcell h.st).1
    have hlb := lt_of_heap h.st
    rw [ct] at I
    rw [if_pos ct]
    have h1 : w.cell? ⟨v, 2, none⟩ = some (.slice (some ⟨sb, 0, none⟩) B.rests.length B.rests.length) := by rw [hc]; rfl
    have KE := Lib.hid (fun (W : World) (hb : Below w.heap.size w W) => (⟨(hb.cell (p := ⟨v, 2, none⟩) hlb).trans h1, (hb.cell (p := ⟨sb, t.toNat, none⟩) (World.block_lt_of_cell? w ⟨sb, t.toNat, none⟩ hr)).trans hr⟩ : _ ∧ _))
    generalize (B.rest t).2 = y at *
    generalize B.rests.length = n at *
    generalize A.free 1 = f at *
    clear h ct ok hR okA hc
    by_cases q : y < f
    · rw [if_pos q]
      go_enter Tryd.func126, Tryd.ntmps126
      go_wp2_with fail
      refine I.out.mono ?_
      rintro e w1 ⟨rfl, rfl⟩
      go_wp2_with fail
      refine (F.out _ (Below.refl _ _)).mono ?_
      rintro e w2 ⟨rfl, hb⟩
      obtain ⟨k1, k2⟩ := KE.out _ hb
      go_wp2_with fail
      go_ret
      exact ⟨rfl, hb⟩
    · rw [if_neg q]
      have q2 : f ≤ y := by omega
      go_enter Tryd.func126, Tryd.ntmps126
      go_wp2_with fail
      refine I.out.mono ?_
      rintro e w1 ⟨rfl, rfl⟩
      go_wp2_with fail
      refine (F.out _ (Below.refl _ _)).mono ?_
      rintro e w2 ⟨rfl, hb⟩
      obtain ⟨k1, k2⟩ := KE.out _ hb
      go_wp2_with fail
      go_ret
      exact ⟨rfl, hb⟩
  · rw [if_neg ct]
    have c' : B.is t = false := by simpa using ct
    rw [c'] at I
    clear h ct c' ok hR okA F
    go_enter Tryd.func126, Tryd.ntmps126
    go_wp2_with fail
    refine I.out.mono ?_
    rintro e w1 ⟨rfl, rfl⟩
    go_wp2_with fail
    go_ret
    exact ⟨rfl, Below.refl _ _⟩
set_option maxHeartbeats 2000000 in
theorem rbRest_any (v ab sb : Nat) (B : Bu) (t : Int) (w : World) (h : RbAt w v ab sb B) (ok : B.Ok) :
    Calls Tryd.prog 127 #[.pointer (some ⟨v, 0, none⟩), .int .i64 t] w fun e w' => e = .returned (.tuple #[.int .i64 (B.told t).1, .int .i64 (B.told t).2]) ∧ Below w.heap.size w w' := by
  have I := Lib.hid (rbIs_any v ab sb B t w h)
  have n8 := ok.n8
  unfold Bu.told
  by_cases ct : B.is t = true
  · obtain ⟨ha, hr⟩ := h.acell ct
    obtain ⟨t0, t1⟩ := Bu.is_bd ct
    have hc := (hcell h.st).1
    rw [ct] at I
    have h1 : w.cell? ⟨v, 1, none⟩ = some (.slice (some ⟨ab, 0, none⟩) B.rests.length B.rests.length) := by rw [hc]; rfl
    have h2 : w.cell? ⟨v, 2, none⟩ = some (.slice (some ⟨sb, 0, none⟩) B.rests.length B.rests.length) := by rw [hc]; rfl
    generalize B.rest t = xy at *
    generalize B.rests.length = n at *
    obtain ⟨x, y⟩ := xy
    simp only at *
    clear h ok hc
    by_cases q : y = 0
    · subst q
      rw [if_neg (by simp)]
      go_enter Tryd.func127, Tryd.ntmps127
      go_wp2_with fail
      refine I.out.mono ?_
      rintro e w1 ⟨rfl, rfl⟩
      go_wp2_with fail
      go_ret2
      exact ⟨rfl, Below.refl _ _⟩
    · rw [if_pos ⟨ct, q⟩]
      have q2 : (y == 0) = false := by simpa using q
      clear q ct
      go_enter Tryd.func127, Tryd.ntmps127
      go_wp2_with fail
      refine I.out.mono ?_
      rintro e w1 ⟨rfl, rfl⟩
      go_upto_region 4 with fail
      go_region
      all_goals
        go_wp2_with fail
        go_ret2
        exact ⟨rfl, (Below.refl _ _).drew⟩
  · rw [if_neg (fun q => ct q.1)]
    have c' : B.is t = false := by simpa using ct
    rw [c'] at I
    clear h ct c' ok
    go_enter Tryd.func127, Tryd.ntmps127
    go_wp2_with fail
    refine I.out.mono ?_
    rintro e w1 ⟨rfl, rfl⟩
    go_wp2_with fail
    go_ret2
    exact ⟨rfl, Below.refl _ _⟩
end Go.Proofs.YtomgfdfgildkbaaDoor
/- Both buffers: Retire; the document's lay. -/

namespace Go.Proofs.YtomgfdfgildkbaaDoor
open Go.RowKit Go.BigFrame
set_option linter.unusedVariables false

def Bu.retire (B : Bu) : Bu := { B with rests := List.replicate B.rests.length (0, 0) }
theorem Bu.retire_ok {B : Bu} (h : B.Ok) : B.retire.Ok := ⟨by simp [Bu.retire]; exact h.n1, by simp [Bu.retire]; exact h.n8, h.s0, h.s1⟩
theorem restsC_len (l : List (Int × Int)) : (restsC l).size = 2 * l.length := by
  unfold restsC
  induction l with
  | nil => rfl
  | cons a l ih => simp at ih ⊢; omega
theorem clr_rest (w : World) (rb : Nat) (l : List (Int × Int)) (c : Nat) (ty : TypeId) (hw : w.heap[rb]? = some (.cells (restsC l) 132 (0, 0))) (hn : 0 < l.length) :
    (Builtin.clear_ #[127] ty #[.slice (some ⟨rb, 0, none⟩) l.length c]).run Tryd.prog w = .ok (.tuple #[]) (w.setRow rb (restsC (List.replicate l.length (0, 0)))) := by
  have hzc : (Builtin.zeroCells (Value.agg #[.int .i64 0, .int .i64 0]).cells l.length).toList = List.replicate (2 * l.length) (Value.int .i64 0) := by
    rw [show (Value.agg #[.int .i64 0, .int .i64 0]).cells = #[.int .i64 0, .int .i64 0] from rfl]
    simp [Builtin.zeroCells]
    apply List.ext_getElem
    · simp; omega
    · intro i h1 h2
      have hm : i % 2 = 0 ∨ i % 2 = 1 := by omega
      rcases hm with e | e <;> simp [e]
  have hv : ∀ w, (zeroValue 132).run Tryd.prog w = .ok (.agg #[.int .i64 0, .int .i64 0]) w := fun w => by kernel_rfl
  have hst := run_storeCells_at Tryd.prog rb 0 132 (List.replicate (2 * l.length) (Value.int .i64 0)) 0 (restsC l) w hw (by simp [restsC_len]) (by intro v hv'; rw [List.eq_of_mem_replicate hv']; rfl)
  have e : ((restsC l).toList.take (0 + 0) ++ List.replicate (2 * l.length) (Value.int .i64 0) ++ (restsC l).toList.drop (0 + 0 + (List.replicate (2 * l.length) (Value.int IntKind.i64 0)).length)).toArray = restsC (List.replicate l.length (0, 0)) := by
    have hl : (restsC l).toList.length = 2 * l.length := restsC_len l
    have hd : (restsC l).toList.drop (0 + 0 + (List.replicate (2 * l.length) (Value.int IntKind.i64 0)).length) = [] := List.drop_eq_nil_of_le (by rw [hl]; simp)
    rw [hd, restsC_zero]
    simp
  rw [e] at hst
  obtain ⟨m, hm⟩ : ∃ m, l.length = m + 1 := ⟨l.length - 1, by omega⟩
  rw [hm] at hzc hst ⊢
  simp [Builtin.clear_, run_underlying Tryd.underlying127, hv, hzc, hst]
theorem retire_any (b rb : Nat) (B : Bu) (a : Value) (w : World) (h : BuAt w b rb B) (ok : B.Ok) :
    Calls Tryd.prog 68 #[.pointer (some ⟨b, 0, none⟩), a] w fun e w' => e = .returned (.tuple #[]) ∧ BuAt w' b rb B.retire ∧ Only [b, rb] w w' := by
  have hc := (hcell h.st).1
  have n1 := ok.n1
  have hclr := fun c ty => clr_rest w rb B.rests c ty h.rs (by omega)
  have hA' : BuAt (w.setRow rb (restsC (List.replicate B.rests.length (0, 0)))) b rb B.retire := by
    refine ⟨?_, setRow_heap w rb _ _ _ _ h.rs, h.ne⟩
    rw [setRow_other _ _ _ _ h.ne, h.st]
    simp [Bu.retire]
  have hO : Only [b, rb] w (w.setRow rb (restsC (List.replicate B.rests.length (0, 0)))) := (Only.refl _ _).setRow (by simp) _
  have HF := Lib.hid (⟨hA', hO⟩ : _ ∧ _)
  clear hA' hO h ok
  generalize restsC (List.replicate B.rests.length (0, 0)) = z at *
  generalize B.rests.length = n at *
  go_enter Tryd.func68, Tryd.ntmps68
  go_wp2
  go_end0
  exact ⟨rfl, HF.out⟩
/-- The first k rests closed. -/
def Bu.ret (B : Bu) (k : Nat) : Bu := { B with rests := List.replicate k (0, 0) ++ B.rests.drop k }
theorem Bu.ret_zero (B : Bu) : B.ret 0 = B := by simp [Bu.ret]
theorem Bu.ret_all (B : Bu) : B.ret B.rests.length = B.retire := by simp [Bu.ret, Bu.retire]
theorem Bu.ret_len {B : Bu} {k : Nat} (h : k ≤ B.rests.length) : (B.ret k).rests.length = B.rests.length := by simp [Bu.ret]; omega
theorem Bu.ret_succ {B : Bu} {k : Nat} (h : k < B.rests.length) : (B.ret k).setRest k (0, 0) = B.ret (k + 1) := by
  unfold Bu.ret Bu.setRest
  simp only
  congr 1
  apply List.ext_getElem?
  intro j
  rw [List.getElem?_set]
  simp only [Int.toNat_natCast, List.length_append, List.length_replicate, List.length_drop]
  by_cases e : k = j
  · subst e
    rw [if_pos rfl, if_pos (by omega), List.getElem?_append_left (by simp), List.getElem?_replicate, if_pos (by omega)]
  · rw [if_neg e]
    by_cases e2 : j < k
    · rw [List.getElem?_append_left (by simpa using e2), List.getElem?_append_left (by simp; omega), List.getElem?_replicate, List.getElem?_replicate, if_pos e2, if_pos (by omega)]
    · rw [List.getElem?_append_right (by simp; omega), List.getElem?_append_right (by simp; omega), List.getElem?_drop, List.getElem?_drop]
      congr 1
      simp; omega
set_option maxHeartbeats 4000000 in
theorem rbRetire_any (v ab sb : Nat) (B : Bu) (a : Value) (w : World) (h : RbAt w v ab sb B) (ok : B.Ok) :
    Calls Tryd.prog 128 #[.pointer (some ⟨v, 0, none⟩), a] w fun e w' => e = .returned (.tuple #[]) ∧ RbAt w' v ab sb B.retire ∧ Only [v, ab, sb] w w' := by
  have n8 := ok.n8
  have STEP := Lib.hid (fun (k : Nat) (hk : k < B.rests.length) (W : World) (hR : RbAt W v ab sb (B.ret k)) => (show RbAt ((W.setCell ⟨ab, k, none⟩ (.int .i64 0)).setCell ⟨sb, k, none⟩ (.int .i64 0)) v ab sb (B.ret (k + 1)) by
    have ht : (B.ret k).is (k : Int) = true := by unfold Bu.is; rw [Bu.ret_len (by omega)]; simp; omega
    have q := hR.setA ht 0
    have ht2 : ((B.ret k).setRest k (0, ((B.ret k).rest k).2)).is (k : Int) = true := by rw [Bu.is_setRest]; exact ht
    have q2 := q.setS ht2 0
    rw [Bu.rest_setRest ht, Bu.setRest_setRest, Bu.ret_succ hk] at q2
    simpa using q2))
  have CE := Lib.hid (fun (k : Nat) (hk : k < B.rests.length) (W : World) (hR : RbAt W v ab sb (B.ret k)) => (by
    have ht : (B.ret k).is (k : Int) = true := by unfold Bu.is; rw [Bu.ret_len (by omega)]; simp; omega
    have q := hR.acell ht
    rw [Int.toNat_natCast] at q
    have hl : (B.ret k).rests.length = B.rests.length := Bu.ret_len (by omega)
    have st := (hcell hR.st).1
    rw [hl] at st
    exact ⟨q.1, q.2, (hcell hR.as_).2, (hcell hR.ss).2, st, hR.n1, hR.n2, hR.n3⟩ : (W.cell? ⟨ab, k, none⟩ = some (.int .i64 ((B.ret k).rest k).1) ∧ W.cell? ⟨sb, k, none⟩ = some (.int .i64 ((B.ret k).rest k).2) ∧ (∀ o, W.frozen? ⟨ab, o, none⟩ = false) ∧ (∀ o, W.frozen? ⟨sb, o, none⟩ = false) ∧ (∀ o, W.cell? ⟨v, o, none⟩ = (#[.int .i64 (B.ret k).size, .slice (some ⟨ab, 0, none⟩) B.rests.length B.rests.length, .slice (some ⟨sb, 0, none⟩) B.rests.length B.rests.length] : Array Value)[o]?) ∧ v ≠ ab ∧ v ≠ sb ∧ ab ≠ sb)))
  have CL := Lib.hid (fun (W : World) (hR : RbAt W v ab sb (B.ret B.rests.length)) => (by
    have st := (hcell hR.st).1
    rw [Bu.ret_len (Nat.le_refl _)] at st
    exact st : ∀ o, W.cell? ⟨v, o, none⟩ = (#[.int .i64 (B.ret B.rests.length).size, .slice (some ⟨ab, 0, none⟩) B.rests.length B.rests.length, .slice (some ⟨sb, 0, none⟩) B.rests.length B.rests.length] : Array Value)[o]?))
  have START := Lib.hid (show RbAt w v ab sb (B.ret 0) by rw [Bu.ret_zero]; exact h)
  rw [← Bu.ret_all]
  clear h ok
  generalize hn : B.rests.length = n at *
  clear hn
  go_enter Tryd.func128, Tryd.ntmps128
  go_wp2_with fail
  go_loopw [4] (fun iv wx => ∃ k : Nat, k ≤ n ∧ iv = .int .i64 k ∧ RbAt wx v ab sb (B.ret k) ∧ Only [v, ab, sb] w wx) (fun iv _ => n - (intOf iv).toNat)
  case atStart => exact ⟨0, Nat.zero_le _, rfl, START.out, .refl _ _⟩
  case round =>
    obtain ⟨k, hk, rfl, hR, hO⟩ := hrel
    by_cases hlt : k < n
    · have dlt : decide ((k : Int) < (n : Int)) = true := by simpa using hlt
      obtain ⟨c1, c2, f1, f2, st, q1, q2, q3⟩ := CE.out k hlt wr hR
      have hR' := STEP.out k hlt wr hR
      have hO' := (hO.setCell (p := ⟨ab, k, none⟩) (by simp) (.int .i64 0)).setCell (p := ⟨sb, k, none⟩) (by simp) (.int .i64 0)
      have k0 : (0 : Int) ≤ (k : Int) := Int.natCast_nonneg _
      have k1 : (k : Int) < (n : Int) := by omega
      clear STEP CE CL START hR
      generalize (B.ret k).rest k = xy at *
      go_wp2_with fail
      exact ⟨⟨k + 1, by omega, by go_num, hR', hO'⟩, by simp [intOf]; omega⟩
    · obtain rfl : k = n := by omega
      have st := CL.out wr hR
      clear STEP CE CL START
      go_wp2_with fail
      go_end0
      exact ⟨rfl, hR, hO⟩
end Go.Proofs.YtomgfdfgildkbaaDoor
/- The document's buffers (middenref13): lay. -/

namespace Go.Proofs.YtomgfdfgildkbaaDoor
open Go.RowKit Go.BigFrame
set_option linter.unusedVariables false

theorem blit_set {l : List Int} {o : Nat} {xs : List Int} (h : o + xs.length ≤ l.length) {k : Nat} (hk : k < xs.length) (v : Int) : (blit l o xs).set (o + k) v = blit l o (xs.set k v) := by
  have h2 : o + (xs.set k v).length ≤ l.length := by simpa using h
  apply List.ext_getElem?
  intro j
  rw [List.getElem?_set, blit_get h, blit_get h2, blit_length h]
  by_cases e : o + k = j
  · subst e
    rw [if_pos rfl, if_pos (by omega), if_neg (by omega), if_pos (by simp; omega), show o + k - o = k by omega, List.getElem?_set, if_pos rfl, if_pos hk]
  · rw [if_neg e]
    by_cases e1 : j < o
    · rw [if_pos e1, if_pos e1]
    · rw [if_neg e1, if_neg e1]
      by_cases e2 : j < o + xs.length
      · rw [if_pos e2, if_pos (by simpa using e2), List.getElem?_set, if_neg (by omega)]
      · rw [if_neg e2, if_neg (by simpa using e2)]
theorem Ar.blit_put2 {A : Ar} {x : Int} {xs : List Int} (h0 : 0 ≤ x) (h : x + xs.length ≤ (A.words.length : Int)) {k : Nat} (hk : k < xs.length) (v : Int) : (A.blit x xs).put (x + k) v = A.blit x (xs.set k v) := by
  unfold Ar.blit Ar.put
  simp only
  rw [show (x + k).toNat = x.toNat + k by omega, blit_set (by omega) hk]
theorem objW_sets (m s : Int) {n : Nat} (h : 2 ≤ n) : ((List.replicate n (0 : Int)).set 0 m).set 1 s = objW m s n := by
  obtain ⟨k, rfl⟩ : ∃ k, n = k + 2 := ⟨n - 2, by omega⟩
  simp [objW, List.replicate_succ]
theorem Ar.zeros_put {A : Ar} {x : Int} (h0 : 0 ≤ x) {k : Nat} (h : x + (k + 1) ≤ (A.words.length : Int)) : (A.blit x (List.replicate k 0)).put (x + k) 0 = A.blit x (List.replicate (k + 1) 0) := by
  have := Ar.blit_put (A := A) (x := x) (xs := List.replicate (k + 1) 0) h0 (by simp; omega) (k := k) (by simp)
  simpa [List.take_replicate] using this
theorem Ar.blit_space (A : Ar) (x : Int) (xs : List Int) (i : Int) : (A.blit x xs).space i = A.space i := rfl
theorem Ar.rest_space (A : Ar) (x y i : Int) : (A.rest x y).space i = A.space i := by unfold Ar.rest; split <;> rfl
theorem Ar.Ok.zeros {A : Ar} (ok : A.Ok) {x : Int} (h0 : 0 ≤ x) {k : Nat} (h : x + k ≤ (A.words.length : Int)) : (A.blit x (List.replicate k 0)).Ok :=
  ok.blit h0 (by simpa using h) (fun v hv => by rw [(List.mem_replicate.1 hv).2]; decide)
theorem RbAt.only {w w' : World} {S : List Nat} {v ab sb : Nat} {B : Bu} (h : RbAt w v ab sb B) (ho : Only S w w') (h1 : v ∉ S) (h2 : ab ∉ S) (h3 : sb ∉ S) : RbAt w' v ab sb B :=
  ⟨(ho.block _ (lt_of_heap h.st) h1).trans h.st, (ho.block _ (lt_of_heap h.as_) h2).trans h.as_, (ho.block _ (lt_of_heap h.ss) h3).trans h.ss, h.n1, h.n2, h.n3⟩
theorem RfAt.keep2 {w w' : World} {S : List Nat} {r : Nat} {c : Int → Nat} {A : Ar} (h : RfAt w r c A) (ho : Only S w w') (hS : ∀ k ∈ rfp r c, k ∉ S) : RfAt w' r c A :=
  ⟨(ho.block _ (lt_of_heap h.st) (hS _ rfp_r)).trans h.st, fun s hs => (ho.block _ (lt_of_heap (h.ws s hs)) (hS _ (mem_rfp hs))).trans (h.ws s hs), h.nb, h.nn, h.z0⟩
/-- The document's buffers lie apart from its arena. -/
structure RApart (v ab sb r : Nat) (c : Int → Nat) : Prop where
  hv : v ∉ rfp r c
  ha : ab ∉ rfp r c
  hs : sb ∉ rfp r c
theorem RApart.cons {v ab sb r : Nat} {c : Int → Nat} (h : RApart v ab sb r c) : ∀ k ∈ rfp r c, k ≠ ab ∧ k ≠ sb ∧ k ≠ v := fun k hk => ⟨fun e => h.ha (e ▸ hk), fun e => h.hs (e ▸ hk), fun e => h.hv (e ▸ hk)⟩
theorem RfAt.far {w : World} {r : Nat} {c : Int → Nat} {A : Ar} (h : RfAt w r c A) {b o : Nat} {u : Value} (hb : b ∉ rfp r c) : RfAt (w.setCell ⟨b, o, none⟩ u) r c A :=
  h.keep2 ((Only.refl [b] w).setCell (p := ⟨b, o, none⟩) (by simp) u) (fun k hk hm => by rw [List.mem_singleton.1 hm] at hk; exact hb hk)
/-- The blocks that the document's buffers and arena may write. -/
def bfp (ab sb r : Nat) (c : Int → Nat) : List Nat := ab :: sb :: rfp r c
theorem bfp_r {ab sb r : Nat} {c : Int → Nat} : ∀ k ∈ rfp r c, k ∈ bfp ab sb r c := fun k hk => by simp [bfp, hk]
set_option maxRecDepth 100000 in
set_option maxHeartbeats 8000000 in
theorem rbLay_any (v ab sb : Nat) (B : Bu) (r : Nat) (c : Int → Nat) (A : Ar) (t : Int) (g : Hd) (w : World) (hB : RbAt w v ab sb B) (okB : B.Ok) (hR : RfAt w r c A) (okA : A.Ok) (ap : RApart v ab sb r c) (ht : B.is t = true) (f : Fine g) (sv : 0 ≤ g.ser ∧ g.ser < 18446744073709551616)
    (n x y : Int) (hn : n = 2 + g.ptrs + g.raws) (hr : B.rest t = (x, y)) (x1 : 1 ≤ x) (x2 : x + y ≤ (A.words.length : Int)) (ny : n ≤ y) :
    Calls Tryd.prog 160 #[.pointer (some ⟨v, 0, none⟩), .pointer (some ⟨r, 0, none⟩), .int .i64 t, g.val, .int .u64 (enc g)] w fun e w' => e = .returned (.int .i64 x) ∧ RbAt w' v ab sb (B.setRest t (x + n, y - n)) ∧ RfAt w' r c (A.laid x y n g) ∧ Only (bfp ab sb r c) w w' := by
  have eb := enc_bd f
  have fp0 := f.p0
  have fp1 := f.p1
  have fr0 := f.r0
  have fr1 := f.r1
  have n8 := okB.n8
  have len := okA.tops.2.2.2.2
  have n2 : 2 ≤ n := by omega
  obtain ⟨t0, t1⟩ := Bu.is_bd ht
  have SZ := Lib.hid (fun (W : World) => rhsize_any g W ⟨fp0, by omega⟩ ⟨fr0, by omega⟩)
  rw [← hn] at SZ
  have sp : ∀ j : Int, 0 ≤ j → j < y → A.space (x + j) ≠ 0 := fun j h0 h1 => (Ar.space_iff okA _).2 ⟨by omega, by omega⟩
  have S0 := Lib.hid (fun (k : Nat) (hk : (k : Int) < n) (W : World) (h : RfAt W r c (A.blit x (List.replicate k 0))) => (by
    have q := rsetWord_yes r c _ (x + k) 0 W h (okA.zeros (by omega) (by omega)) (by decide) (sp k (by omega) (by omega))
    rw [Ar.zeros_put (by omega) (by omega)] at q
    exact q : Calls Tryd.prog 148 #[.pointer (some ⟨r, 0, none⟩), .int .i64 (x + k), .int .u64 0] W fun e w' => e = .returned (.bool true) ∧ RfAt w' r c (A.blit x (List.replicate (k + 1) 0)) ∧ Only (rfp r c) W w'))
  have zl : (List.replicate n.toNat (0 : Int)).length = n.toNat := by simp
  have S1 := Lib.hid (fun (W : World) (h : RfAt W r c (A.blit x (List.replicate n.toNat 0))) => (by
    have q := rsetWord_yes r c _ (x + (0 : Nat)) (enc g) W h (okA.zeros (by omega) (by omega)) ⟨eb.1, by omega⟩ (sp 0 (by omega) (by omega))
    rw [Ar.blit_put2 (by omega) (by rw [zl]; omega) (by rw [zl]; omega)] at q
    simpa using q : Calls Tryd.prog 148 #[.pointer (some ⟨r, 0, none⟩), .int .i64 x, .int .u64 (enc g)] W fun e w' => e = .returned (.bool true) ∧ RfAt w' r c (A.blit x ((List.replicate n.toNat 0).set 0 (enc g))) ∧ Only (rfp r c) W w'))
  have ok1 : (A.blit x ((List.replicate n.toNat 0).set 0 (enc g))).Ok := okA.blit (by omega) (by simp; omega) (fun u hu => by
    rcases List.mem_or_eq_of_mem_set hu with e | e
    · rw [(List.mem_replicate.1 e).2]; decide
    · rw [e]; exact ⟨eb.1, by omega⟩)
  have S2 := Lib.hid (fun (W : World) (h : RfAt W r c (A.blit x ((List.replicate n.toNat 0).set 0 (enc g)))) => (by
    have q := rsetWord_yes r c _ (x + (1 : Nat)) g.ser W h ok1 sv (sp 1 (by omega) (by omega))
    rw [Ar.blit_put2 (by omega) (by simp; omega) (by simp; omega), objW_sets _ _ (by omega)] at q
    simpa using q : Calls Tryd.prog 148 #[.pointer (some ⟨r, 0, none⟩), .int .i64 (x + 1), .int .u64 g.ser] W fun e w' => e = .returned (.bool true) ∧ RfAt w' r c (A.blit x (objW (enc g) g.ser n.toNat)) ∧ Only (rfp r c) W w'))
  have ok2 : (A.blit x (objW (enc g) g.ser n.toNat)).Ok := okA.blit (by omega) (by rw [objW_length (by omega)]; omega) (objW_range ⟨eb.1, by omega⟩ sv)
  have FL := Lib.hid (fun (W : World) => rfiller_any (y - n) W)
  have S3 := Lib.hid (fun (hy : 0 < y - n) (W : World) (h : RfAt W r c (A.blit x (objW (enc g) g.ser n.toNat))) => (by
    have q := rsetWord_yes r c _ (x + n) (wordT 3 (y - n)) W h ok2 (by unfold wordT; rw [if_pos (by omega)]; omega) (sp n (by omega) (by omega))
    have e : (A.blit x (objW (enc g) g.ser n.toNat)).put (x + n) (wordT 3 (y - n)) = A.laid x y n g := by unfold Ar.laid Ar.rest; rw [if_pos hy]
    rw [e] at q
    exact q : Calls Tryd.prog 148 #[.pointer (some ⟨r, 0, none⟩), .int .i64 (x + n), .int .u64 (wordT 3 (y - n))] W fun e w' => e = .returned (.bool true) ∧ RfAt w' r c (A.laid x y n g) ∧ Only (rfp r c) W w'))
  have FIN0 : ¬ 0 < y - n → A.laid x y n g = A.blit x (objW (enc g) g.ser n.toNat) := fun hy => by unfold Ar.laid Ar.rest; rw [if_neg hy]
  have FZ := Lib.hid FIN0
  have LT := Lib.hid hR.lt
  have APC := Lib.hid ap.cons
  have BK := Lib.hid (fun (W W' : World) (h : RbAt W v ab sb B) (ho : Only (rfp r c) W W') => h.only ho ap.hv ap.ha ap.hs)
  have CELL := Lib.hid (fun (W : World) (B' : Bu) (hs : B'.rests.length = B.rests.length) (h : RbAt W v ab sb B') => (by
    have st := (hcell h.st).1
    rw [hs] at st
    exact ⟨st, (hcell h.as_).2, (hcell h.ss).2⟩ : (∀ o, W.cell? ⟨v, o, none⟩ = (#[.int .i64 B'.size, .slice (some ⟨ab, 0, none⟩) B.rests.length B.rests.length, .slice (some ⟨sb, 0, none⟩) B.rests.length B.rests.length] : Array Value)[o]?) ∧ (∀ o, W.frozen? ⟨ab, o, none⟩ = false) ∧ (∀ o, W.frozen? ⟨sb, o, none⟩ = false)))
  have AC := Lib.hid (fun (W : World) (h : RbAt W v ab sb B) => (by have q := h.acell ht; rw [hr] at q; exact q : W.cell? ⟨ab, t.toNat, none⟩ = some (.int .i64 x) ∧ W.cell? ⟨sb, t.toNat, none⟩ = some (.int .i64 y)))
  have SA := Lib.hid (fun (W : World) (h : RbAt W v ab sb B) => (by have q := h.setA ht (x + n); rw [hr] at q; exact q : RbAt (W.setCell ⟨ab, t.toNat, none⟩ (.int .i64 (x + n))) v ab sb (B.setRest t (x + n, y))))
  have ht2 : (B.setRest t (x + n, y)).is t = true := by rw [Bu.is_setRest]; exact ht
  have AC2 := Lib.hid (fun (W : World) (h : RbAt W v ab sb (B.setRest t (x + n, y))) => (by have q := h.acell ht2; rw [Bu.rest_setRest ht] at q; exact q : W.cell? ⟨ab, t.toNat, none⟩ = some (.int .i64 (x + n)) ∧ W.cell? ⟨sb, t.toNat, none⟩ = some (.int .i64 y)))
  have SS := Lib.hid (fun (W : World) (h : RbAt W v ab sb (B.setRest t (x + n, y))) => (by have q := h.setS ht2 (y - n); rw [Bu.rest_setRest ht, Bu.setRest_setRest] at q; exact q : RbAt (W.setCell ⟨sb, t.toNat, none⟩ (.int .i64 (y - n))) v ab sb (B.setRest t (x + n, y - n))))
  have ht3 : (B.setRest t (x + n, y - n)).is t = true := by rw [Bu.is_setRest]; exact ht
  have AC3 := Lib.hid (fun (W : World) (h : RbAt W v ab sb (B.setRest t (x + n, y - n))) => (by have q := h.acell ht3; rw [Bu.rest_setRest ht] at q; exact q : W.cell? ⟨ab, t.toNat, none⟩ = some (.int .i64 (x + n)) ∧ W.cell? ⟨sb, t.toNat, none⟩ = some (.int .i64 (y - n))))
  have hl1 : (B.setRest t (x + n, y)).rests.length = B.rests.length := by simp [Bu.setRest]
  have hl2 : (B.setRest t (x + n, y - n)).rests.length = B.rests.length := by simp [Bu.setRest]
  have BK3 := Lib.hid (fun (W W' : World) (h : RbAt W v ab sb (B.setRest t (x + n, y - n))) (ho : Only (rfp r c) W W') => h.only ho ap.hv ap.ha ap.hs)
  have FA := Lib.hid (fun (W : World) (A' : Ar) (h : RfAt W r c A') (u : Value) (o : Nat) => (⟨h.far (b := ab) (o := o) (u := u) ap.ha, h.far (b := sb) (o := o) (u := u) ap.hs⟩ : _ ∧ _))
  have Z0 := Lib.hid (show A = A.blit x (List.replicate 0 0) by rw [List.replicate_zero, Ar.blit_nil])
  clear hn eb fp0 fp1 fr0 fr1 okB okA f sv ok1 ok2 sp ht hr ht2 ht3 FIN0 ap zl
  generalize enc g = m at *
  generalize A.laid x y n g = A4 at *
  have tn : ((t.toNat : Nat) : Int) = t := by omega
  generalize hnb : B.rests.length = nb at *
  obtain ⟨x0, g1, g2, g3, g4, g5, g6⟩ := g
  unfold Hd.val at *
  simp only at *
  have hX := heap_one w (.cells #[.int .u64 x0, .int .i64 g1, .int .i64 g2, .int .i64 g3, .int .i64 g4, .int .i64 g5, .bool g6] 24)
  have hb1 := (Below.refl w.heap.size w).alloc (Nat.le_refl _) (.cells #[.int .u64 x0, .int .i64 g1, .int .i64 g2, .int .i64 g3, .int .i64 g4, .int .i64 g5, .bool g6] 24)
  have hB1 := hB.below hb1
  have hR1 := hR.below hb1
  go_enter Tryd.func160, Tryd.ntmps160
  go_upto_region 1 with fail
  generalize w.alloc (.cells #[.int .u64 x0, .int .i64 g1, .int .i64 g2, .int .i64 g3, .int .i64 g4, .int .i64 g5, .bool g6] 24) = w1 at *
  obtain ⟨cX, fX⟩ := hcell hX
  obtain ⟨st, -, -⟩ := CELL.out w1 B hnb hB1
  obtain ⟨ca, cs⟩ := AC.out w1 hB1
  go_wp2_with fail
  refine (SZ.out _).mono ?_
  rintro e w2 ⟨rfl, hq⟩
  have hX2 := (hq.block _ (lt_of_heap hX)).trans hX
  have hB2 := hB1.below hq
  have hR2 := hR1.below hq
  have hb2 := hb1.trans (hq.mono hb1.size)
  clear cX fX hX st ca cs hq hB1 hR1 hb1
  go_wp2_with fail
  go_loopw [13] (fun iv wx => ∃ k : Nat, (k : Int) ≤ n ∧ iv = .int .i64 k ∧ RfAt wx r c (A.blit x (List.replicate k 0)) ∧ Only (rfp r c) w2 wx) (fun iv _ => n.toNat - (intOf iv).toNat)
  case atStart => exact ⟨0, by omega, rfl, Z0.out ▸ hR2, .refl _ _⟩
  case round =>
    obtain ⟨k, hk, rfl, hRr, hO⟩ := hrel
    by_cases hlt : (k : Int) < n
    · have dlt : decide ((k : Int) < n) = true := by simpa using hlt
      have S0k := Lib.hid (S0.out k hlt wr hRr)
      clear S0 S1 S2 S3
      go_wp2_with fail
      refine S0k.out.mono ?_
      rintro e w3 ⟨rfl, hR3, hO3⟩
      go_wp2_with fail
      exact ⟨⟨k + 1, by omega, by go_num, hR3, hO.trans hO3⟩, by simp [intOf]; omega⟩
    · have dlt : decide ((k : Int) < n) = false := by simpa using hlt
      obtain rfl : k = n.toNat := by omega
      have S1k := Lib.hid (S1.out wr hRr)
      clear S0 S1
      have hBr := BK.out _ _ hB2 hO
      have hXr := hO.new hX2 LT.out
      go_wp2_with fail
      refine S1k.out.mono ?_
      rintro e w3 ⟨rfl, hR3, hO3⟩
      have hB3 := BK.out _ _ hBr hO3
      have hX3 := hO3.new hXr LT.out
      have S2k := Lib.hid (S2.out w3 hR3)
      obtain ⟨cX, fX⟩ := hcell hX3
      clear S1k S2 hBr hXr
      go_wp2_with fail
      refine S2k.out.mono ?_
      rintro e w4 ⟨rfl, hR4, hO4⟩
      have hB4 := BK.out _ _ hB3 hO4
      have hO5 := ((hO.trans hO3).trans hO4).mono (T := bfp ab sb r c) bfp_r
      clear cX fX hX3 S2k hB3 hR3 hO3 hO4 hO
      obtain ⟨st, fa, fs⟩ := CELL.out w4 B hnb hB4
      obtain ⟨ca, cs⟩ := AC.out w4 hB4
      go_upto_region 10 with fail
      have hB5 := SA.out w4 hB4
      have hR5 := (FA.out w4 _ hR4 (.int .i64 (x + n)) t.toNat).1
      have hO6 := hO5.setCell (p := ⟨ab, t.toNat, none⟩) (by simp [bfp]) (.int .i64 (x + n))
      clear st fa fs ca cs hB4 hR4 hO5
      generalize w4.setCell ⟨ab, t.toNat, none⟩ (.int .i64 (x + n)) = w5 at *
      obtain ⟨st, fa, fs⟩ := CELL.out w5 _ hl1 hB5
      obtain ⟨ca, cs⟩ := AC2.out w5 hB5
      have hB6 := (SS.out w5 hB5).drew
      have hR6 := (FA.out w5 _ hR5 (.int .i64 (y - n)) t.toNat).2.drewN 1
      have hO7 := (hO6.setCell (p := ⟨sb, t.toNat, none⟩) (by simp [bfp]) (.int .i64 (y - n))).drew
      go_big_region
      clear st fa fs ca cs hB5 hR5 hO6
      change RfAt (w5.setCell ⟨sb, t.toNat, none⟩ (.int .i64 (y - n))).drew r c _ at hR6
      generalize (w5.setCell ⟨sb, t.toNat, none⟩ (.int .i64 (y - n))).drew = w6 at *
      obtain ⟨st, fa, fs⟩ := CELL.out w6 _ hl2 hB6
      obtain ⟨ca, cs⟩ := AC3.out w6 hB6
      by_cases hy : 0 < y - n
      · have dy : decide (0 < y - n) = true := by simpa using hy
        have S3k := Lib.hid (S3.out hy w6 hR6)
        clear S3
        go_wp2_with fail
        refine (FL.out _).mono ?_
        rintro e w7 ⟨rfl, rfl⟩
        go_wp2_with fail
        refine S3k.out.mono ?_
        rintro e w8 ⟨rfl, hR8, hO8⟩
        have hB8 := BK3.out _ _ hB6 hO8
        go_wp2_with fail
        go_ret
        exact ⟨rfl, hB8, hR8, ((Only.of_below hb2).trans hO7).trans (hO8.mono bfp_r)⟩
      · have dy : decide (0 < y - n) = false := by simpa using hy
        have hR7 := FZ.out (by omega) ▸ hR6
        clear S3
        go_wp2_with fail
        go_ret
        exact ⟨rfl, hB6, hR7, (Only.of_below hb2).trans hO7⟩
end Go.Proofs.YtomgfdfgildkbaaDoor
/- Buffers: what Put does, in plain words; the document's Put. -/

namespace Go.Proofs.YtomgfdfgildkbaaDoor
open Go.RowKit Go.BigFrame
set_option linter.unusedVariables false

/-- How many words a new buffer has. -/
def newLen (B : Bu) (A : Ar) : Int := if B.size < A.free 1 then B.size else A.free 1
/-- What Put answers, and what it makes of the buffers and of the arena. -/
def putB (B : Bu) (A : Ar) (t : Int) (g : Hd) : (Int × Bool) × Bu × Ar :=
  if B.is t = true ∧ chk g = 0 then
    if 2 + g.ptrs + g.raws ≤ (B.rest t).2 then (((B.rest t).1, true), B.setRest t ((B.rest t).1 + (2 + g.ptrs + g.raws), (B.rest t).2 - (2 + g.ptrs + g.raws)), A.laid (B.rest t).1 (B.rest t).2 (2 + g.ptrs + g.raws) g)
    else if 2 + g.ptrs + g.raws ≤ B.size ∧ 2 + g.ptrs + g.raws ≤ A.free 1 then ((A.top 1, true), B.setRest t (A.top 1 + (2 + g.ptrs + g.raws), newLen B A - (2 + g.ptrs + g.raws)), (A.take 1 (newLen B A)).laid (A.top 1) (newLen B A) (2 + g.ptrs + g.raws) g)
    else ((if A.putOk 1 g then A.top 1 else 0, A.putOk 1 g), B, if A.putOk 1 g then A.lay 1 g else A)
  else ((0, false), B, A)
/-- The rests lie within the array. -/
def RestsIn (B : Bu) (A : Ar) : Prop := ∀ t, B.is t = true → 0 ≤ (B.rest t).2 ∧ (0 < (B.rest t).2 → 1 ≤ (B.rest t).1 ∧ (B.rest t).1 + (B.rest t).2 ≤ (A.words.length : Int))
theorem Ar.fill_laid {A : Ar} {y n : Int} {g : Hd} (h0 : 0 ≤ A.top 1) (h2 : 2 ≤ n) (h : A.top 1 + n ≤ ((A.take 1 y).words.length : Int)) : (A.fill 1 y).laid (A.top 1) y n g = (A.take 1 y).laid (A.top 1) y n g := by
  unfold Ar.laid
  congr 1
  unfold Ar.fill Ar.blit Ar.put
  simp only
  congr 1
  have hl : (objW (enc g) g.ser n.toNat).length = n.toNat := objW_length (by omega)
  apply List.ext_getElem?
  intro j
  rw [blit_get (by rw [hl]; simp; omega), blit_get (by rw [hl]; omega), List.getElem?_set, hl]
  by_cases e1 : j < (A.top 1).toNat
  · rw [if_pos e1, if_pos e1, if_neg (by omega)]
  · rw [if_neg e1, if_neg e1]
    by_cases e2 : j < (A.top 1).toNat + n.toNat
    · rw [if_pos e2, if_pos e2]
    · rw [if_neg e2, if_neg e2, if_neg (by omega)]
set_option maxRecDepth 100000 in
set_option maxHeartbeats 4000000 in
theorem rbPut_no (v ab sb : Nat) (B : Bu) (r : Nat) (t : Int) (g : Hd) (w : World) (hB : RbAt w v ab sb B) (hn : ¬ (B.is t = true ∧ chk g = 0)) :
    Calls Tryd.prog 124 #[.pointer (some ⟨v, 0, none⟩), .pointer (some ⟨r, 0, none⟩), .int .i64 t, g.val] w fun e w' => e = .returned (.tuple #[.int .i64 0, .bool false]) ∧ Below w.heap.size w w' := by
  have IS := Lib.hid (fun (W : World) (hb : Below w.heap.size w W) => rbIs_any v ab sb B t W (hB.below hb))
  have PK := Lib.hid (fun (W : World) => rpack_any g W)
  clear hB
  generalize pack g = x at *
  generalize chk g = e0 at *
  obtain ⟨x0, g1, g2, g3, g4, g5, g6⟩ := g
  unfold Hd.val at *
  simp only at *
  have hX := heap_one w (.cells #[.int .u64 x0, .int .i64 g1, .int .i64 g2, .int .i64 g3, .int .i64 g4, .int .i64 g5, .bool g6] 24)
  have hb1 := (Below.refl w.heap.size w).alloc (Nat.le_refl _) (.cells #[.int .u64 x0, .int .i64 g1, .int .i64 g2, .int .i64 g3, .int .i64 g4, .int .i64 g5, .bool g6] 24)
  cases hi : B.is t with
  | false =>
    rw [hi] at IS
    clear hn
    go_enter Tryd.func124, Tryd.ntmps124
    go_upto_region 1 with fail
    generalize w.alloc (.cells #[.int .u64 x0, .int .i64 g1, .int .i64 g2, .int .i64 g3, .int .i64 g4, .int .i64 g5, .bool g6] 24) = w1 at *
    obtain ⟨cX, fX⟩ := hcell hX
    go_wp2_with fail
    refine (IS.out _ hb1).mono ?_
    rintro e w2 ⟨rfl, rfl⟩
    go_wp2_with fail
    refine (PK.out _).mono ?_
    rintro e w3 ⟨rfl, hq⟩
    go_wp2_with fail
    go_ret2
    exact ⟨rfl, hb1.trans (hq.mono hb1.size)⟩
  | true =>
    rw [hi] at IS
    have h1 : (e0 == 0) = false := by simp; exact fun q => hn ⟨hi, q⟩
    have h2 : (e0 != 0) = true := by simp; exact fun q => hn ⟨hi, q⟩
    clear hn
    go_enter Tryd.func124, Tryd.ntmps124
    go_upto_region 1 with fail
    generalize w.alloc (.cells #[.int .u64 x0, .int .i64 g1, .int .i64 g2, .int .i64 g3, .int .i64 g4, .int .i64 g5, .bool g6] 24) = w1 at *
    obtain ⟨cX, fX⟩ := hcell hX
    go_wp2_with fail
    refine (IS.out _ hb1).mono ?_
    rintro e w2 ⟨rfl, rfl⟩
    go_wp2_with fail
    refine (PK.out _).mono ?_
    rintro e w3 ⟨rfl, hq⟩
    go_wp2_with fail
    go_ret2
    exact ⟨rfl, hb1.trans (hq.mono hb1.size)⟩
/-- Put up to the test of the rest. -/
structure PutPre (v ab sb : Nat) (B : Bu) (r : Nat) (c : Int → Nat) (A : Ar) (t : Int) (g : Hd) (w : World) : Prop where
  hB : RbAt w v ab sb B
  okB : B.Ok
  hR : RfAt w r c A
  okA : A.Ok
  ap : RApart v ab sb r c
  ht : B.is t = true
  f : Fine g
  sv : 0 ≤ g.ser ∧ g.ser < 18446744073709551616

set_option maxRecDepth 100000 in
set_option maxHeartbeats 8000000 in
theorem rbPut_old (v ab sb : Nat) (B : Bu) (r : Nat) (c : Int → Nat) (A : Ar) (t : Int) (g : Hd) (w : World) (h : PutPre v ab sb B r c A t g w) (n x y : Int) (hn : n = 2 + g.ptrs + g.raws) (hr : B.rest t = (x, y)) (x1 : 1 ≤ x) (x2 : x + y ≤ (A.words.length : Int)) (ny : n ≤ y) :
    Calls Tryd.prog 124 #[.pointer (some ⟨v, 0, none⟩), .pointer (some ⟨r, 0, none⟩), .int .i64 t, g.val] w fun e w' => e = .returned (.tuple #[.int .i64 x, .bool true]) ∧ RbAt w' v ab sb (B.setRest t (x + n, y - n)) ∧ RfAt w' r c (A.laid x y n g) ∧ Only (bfp ab sb r c) w w' := by
  obtain ⟨hB, okB, hR, okA, ap, ht, f, sv⟩ := h
  have fp0 := f.p0
  have fp1 := f.p1
  have fr0 := f.r0
  have fr1 := f.r1
  obtain ⟨t0, t1⟩ := Bu.is_bd ht
  have n8 := okB.n8
  have IS := Lib.hid (fun (W : World) (hb : Below w.heap.size w W) => rbIs_any v ab sb B t W (hB.below hb))
  rw [ht] at IS
  have PK := Lib.hid (fun (W : World) => rpack_yes g W f)
  have SZ := Lib.hid (fun (W : World) => rhsize_any g W ⟨fp0, by omega⟩ ⟨fr0, by omega⟩)
  rw [← hn] at SZ
  have FR := Lib.hid (fun (W : World) (hb : Below w.heap.size w W) => rfree_any r c A 1 W (hR.below hb) okA)
  have KE := Lib.hid (fun (W : World) (hb : Below w.heap.size w W) => (by have q := (hB.below hb).acell ht; rw [hr] at q; exact ⟨(hcell (hB.below hb).st).1, q.1, q.2, (hcell (hB.below hb).as_).2, (hcell (hB.below hb).ss).2⟩ : (∀ o, W.cell? ⟨v, o, none⟩ = (#[.int .i64 B.size, .slice (some ⟨ab, 0, none⟩) B.rests.length B.rests.length, .slice (some ⟨sb, 0, none⟩) B.rests.length B.rests.length] : Array Value)[o]?) ∧ W.cell? ⟨ab, t.toNat, none⟩ = some (.int .i64 x) ∧ W.cell? ⟨sb, t.toNat, none⟩ = some (.int .i64 y) ∧ (∀ o, W.frozen? ⟨ab, o, none⟩ = false) ∧ (∀ o, W.frozen? ⟨sb, o, none⟩ = false)))
  have LY := Lib.hid (fun (W : World) (hb : Below w.heap.size w W) => (rbLay_any v ab sb B r c A t g W (hB.below hb) okB (hR.below hb) okA ap ht f sv n x y hn hr x1 x2 ny).mono (R' := fun e w' => e = .returned (.int .i64 x) ∧ RbAt w' v ab sb (B.setRest t (x + n, y - n)) ∧ RfAt w' r c (A.laid x y n g) ∧ Only (bfp ab sb r c) w w') fun e w' ⟨h1, h2, h3, h4⟩ => ⟨h1, h2, h3, (Only.of_below hb).trans h4⟩)
  clear hB okB hR okA ap ht f sv hr fp0 fp1 fr0 fr1 hn
  generalize B.rests.length = nb at *
  generalize A.laid x y n g = A4 at *
  generalize A.free 1 = fr at *
  generalize enc g = m at *
  obtain ⟨x0, g1, g2, g3, g4, g5, g6⟩ := g
  unfold Hd.val at *
  simp only at *
  have hX := heap_one w (.cells #[.int .u64 x0, .int .i64 g1, .int .i64 g2, .int .i64 g3, .int .i64 g4, .int .i64 g5, .bool g6] 24)
  have hb1 := (Below.refl w.heap.size w).alloc (Nat.le_refl _) (.cells #[.int .u64 x0, .int .i64 g1, .int .i64 g2, .int .i64 g3, .int .i64 g4, .int .i64 g5, .bool g6] 24)
  go_enter Tryd.func124, Tryd.ntmps124
  go_upto_region 1 with fail
  generalize w.alloc (.cells #[.int .u64 x0, .int .i64 g1, .int .i64 g2, .int .i64 g3, .int .i64 g4, .int .i64 g5, .bool g6] 24) = w1 at *
  obtain ⟨cX, fX⟩ := hcell hX
  go_wp2_with fail
  refine (IS.out _ hb1).mono ?_
  rintro e w2 ⟨rfl, rfl⟩
  go_wp2_with fail
  refine (PK.out _).mono ?_
  rintro e w3 ⟨rfl, hq⟩
  have hX3 := (hq.block _ (lt_of_heap hX)).trans hX
  have hb3 := hb1.trans (hq.mono hb1.size)
  clear cX fX hX hq
  obtain ⟨cX, fX⟩ := hcell hX3
  go_wp2_with fail
  refine (SZ.out _).mono ?_
  rintro e w4 ⟨rfl, hq⟩
  have hX4 := (hq.block _ (lt_of_heap hX3)).trans hX3
  have hb4 := hb3.trans (hq.mono hb3.size)
  clear cX fX hX3 hq
  go_wp2_with fail
  refine (FR.out _ hb4).mono ?_
  rintro e w5 ⟨rfl, m5, rfl⟩
  replace hX4 : (w4.drewN m5).heap[w.heap.size]? = _ := hX4
  replace hb4 := below_drewN hb4 m5
  clear FR SZ PK IS
  generalize w4.drewN m5 = w5 at *
  obtain ⟨cX, fX⟩ := hcell hX4
  obtain ⟨st, ca, cs, fa, fs⟩ := KE.out _ hb4
  go_wp2_with fail
  refine (LY.out _ hb4).mono ?_
  rintro e w6 ⟨rfl, h1, h2, h3⟩
  go_wp2_with fail
  go_ret2
  exact ⟨rfl, h1, h2, h3⟩

set_option maxRecDepth 100000 in
set_option maxHeartbeats 8000000 in
theorem rbPut_rest (v ab sb : Nat) (B : Bu) (r : Nat) (c : Int → Nat) (A : Ar) (t : Int) (g : Hd) (w : World) (h : PutPre v ab sb B r c A t g w) (n x y : Int) (hn : n = 2 + g.ptrs + g.raws) (hr : B.rest t = (x, y)) (ny : y < n) (hno : ¬ (n ≤ B.size ∧ n ≤ A.free 1)) :
    Calls Tryd.prog 124 #[.pointer (some ⟨v, 0, none⟩), .pointer (some ⟨r, 0, none⟩), .int .i64 t, g.val] w fun e w' => e = .returned (.tuple #[.int .i64 (if A.putOk 1 g then A.top 1 else 0), .bool (A.putOk 1 g)]) ∧ RbAt w' v ab sb B ∧ RfAt w' r c (if A.putOk 1 g then A.lay 1 g else A) ∧ Only (bfp ab sb r c) w w' := by
  obtain ⟨hB, okB, hR, okA, ap, ht, f, sv⟩ := h
  have fp0 := f.p0
  have fp1 := f.p1
  have fr0 := f.r0
  have fr1 := f.r1
  obtain ⟨t0, t1⟩ := Bu.is_bd ht
  have n8 := okB.n8
  have IS := Lib.hid (fun (W : World) (hb : Below w.heap.size w W) => rbIs_any v ab sb B t W (hB.below hb))
  rw [ht] at IS
  have PK := Lib.hid (fun (W : World) => rpack_yes g W f)
  have SZ := Lib.hid (fun (W : World) => rhsize_any g W ⟨fp0, by omega⟩ ⟨fr0, by omega⟩)
  rw [← hn] at SZ
  have FR := Lib.hid (fun (W : World) (hb : Below w.heap.size w W) => rfree_any r c A 1 W (hR.below hb) okA)
  have KE := Lib.hid (fun (W : World) (hb : Below w.heap.size w W) => (by have q := (hB.below hb).acell ht; rw [hr] at q; exact ⟨(hcell (hB.below hb).st).1, q.1, q.2, (hcell (hB.below hb).as_).2, (hcell (hB.below hb).ss).2⟩ : (∀ o, W.cell? ⟨v, o, none⟩ = (#[.int .i64 B.size, .slice (some ⟨ab, 0, none⟩) B.rests.length B.rests.length, .slice (some ⟨sb, 0, none⟩) B.rests.length B.rests.length] : Array Value)[o]?) ∧ W.cell? ⟨ab, t.toNat, none⟩ = some (.int .i64 x) ∧ W.cell? ⟨sb, t.toNat, none⟩ = some (.int .i64 y) ∧ (∀ o, W.frozen? ⟨ab, o, none⟩ = false) ∧ (∀ o, W.frozen? ⟨sb, o, none⟩ = false)))
  have PU := Lib.hid (fun (W : World) (hb : Below w.heap.size w W) => (rput_any r c A 1 g W (hR.below hb) okA sv).mono (R' := fun e w' => e = .returned (.tuple #[.int .i64 (if A.putOk 1 g then A.top 1 else 0), .bool (A.putOk 1 g)]) ∧ RbAt w' v ab sb B ∧ RfAt w' r c (if A.putOk 1 g then A.lay 1 g else A) ∧ Only (bfp ab sb r c) w w') fun e w' ⟨h1, h2, h3⟩ => ⟨h1, (hB.below hb).only h3 ap.hv ap.ha ap.hs, h2, (Only.of_below hb).trans (h3.mono bfp_r)⟩)
  clear hB okB hR okA ap ht f sv hr fp0 fp1 fr0 fr1 hn
  generalize B.rests.length = nb at *
  generalize (if A.putOk 1 g = true then A.lay 1 g else A) = A4 at *
  generalize (if A.putOk 1 g = true then A.top 1 else 0) = rv at *
  generalize A.putOk 1 g = rb at *
  generalize A.free 1 = fr at *
  generalize enc g = m at *
  generalize B.size = sz at *
  have d1 : decide (n ≤ y) = false := by simpa using ny
  by_cases q1 : n ≤ sz
  · have d2 : decide (n ≤ sz) = true := by simpa using q1
    have d3 : decide (n ≤ fr) = false := by simp; omega
    clear hno q1 ny
    obtain ⟨x0, g1, g2, g3, g4, g5, g6⟩ := g
    unfold Hd.val at *
    simp only at *
    have hX := heap_one w (.cells #[.int .u64 x0, .int .i64 g1, .int .i64 g2, .int .i64 g3, .int .i64 g4, .int .i64 g5, .bool g6] 24)
    have hb1 := (Below.refl w.heap.size w).alloc (Nat.le_refl _) (.cells #[.int .u64 x0, .int .i64 g1, .int .i64 g2, .int .i64 g3, .int .i64 g4, .int .i64 g5, .bool g6] 24)
    go_enter Tryd.func124, Tryd.ntmps124
    go_upto_region 1 with fail
    generalize w.alloc (.cells #[.int .u64 x0, .int .i64 g1, .int .i64 g2, .int .i64 g3, .int .i64 g4, .int .i64 g5, .bool g6] 24) = w1 at *
    obtain ⟨cX, fX⟩ := hcell hX
    go_wp2_with fail
    refine (IS.out _ hb1).mono ?_
    rintro e w2 ⟨rfl, rfl⟩
    go_wp2_with fail
    refine (PK.out _).mono ?_
    rintro e w3 ⟨rfl, hq⟩
    have hX3 := (hq.block _ (lt_of_heap hX)).trans hX
    have hb3 := hb1.trans (hq.mono hb1.size)
    clear cX fX hX hq
    obtain ⟨cX, fX⟩ := hcell hX3
    go_wp2_with fail
    refine (SZ.out _).mono ?_
    rintro e w4 ⟨rfl, hq⟩
    have hX4 := (hq.block _ (lt_of_heap hX3)).trans hX3
    have hb4 := hb3.trans (hq.mono hb3.size)
    clear cX fX hX3 hq
    go_wp2_with fail
    refine (FR.out _ hb4).mono ?_
    rintro e w5 ⟨rfl, m5, rfl⟩
    replace hX4 : (w4.drewN m5).heap[w.heap.size]? = _ := hX4
    replace hb4 := below_drewN hb4 m5
    clear FR SZ PK IS
    generalize w4.drewN m5 = w5 at *
    obtain ⟨cX, fX⟩ := hcell hX4
    obtain ⟨st, ca, cs, fa, fs⟩ := KE.out _ hb4
    go_wp2_with fail
    refine (PU.out _ hb4).mono ?_
    rintro e w6 ⟨rfl, h1, h2, h3⟩
    go_wp2_with fail
    go_ret2
    exact ⟨rfl, h1, h2, h3⟩
  · have d2 : decide (n ≤ sz) = false := by simpa using q1
    clear hno q1 ny
    obtain ⟨x0, g1, g2, g3, g4, g5, g6⟩ := g
    unfold Hd.val at *
    simp only at *
    have hX := heap_one w (.cells #[.int .u64 x0, .int .i64 g1, .int .i64 g2, .int .i64 g3, .int .i64 g4, .int .i64 g5, .bool g6] 24)
    have hb1 := (Below.refl w.heap.size w).alloc (Nat.le_refl _) (.cells #[.int .u64 x0, .int .i64 g1, .int .i64 g2, .int .i64 g3, .int .i64 g4, .int .i64 g5, .bool g6] 24)
    go_enter Tryd.func124, Tryd.ntmps124
    go_upto_region 1 with fail
    generalize w.alloc (.cells #[.int .u64 x0, .int .i64 g1, .int .i64 g2, .int .i64 g3, .int .i64 g4, .int .i64 g5, .bool g6] 24) = w1 at *
    obtain ⟨cX, fX⟩ := hcell hX
    go_wp2_with fail
    refine (IS.out _ hb1).mono ?_
    rintro e w2 ⟨rfl, rfl⟩
    go_wp2_with fail
    refine (PK.out _).mono ?_
    rintro e w3 ⟨rfl, hq⟩
    have hX3 := (hq.block _ (lt_of_heap hX)).trans hX
    have hb3 := hb1.trans (hq.mono hb1.size)
    clear cX fX hX hq
    obtain ⟨cX, fX⟩ := hcell hX3
    go_wp2_with fail
    refine (SZ.out _).mono ?_
    rintro e w4 ⟨rfl, hq⟩
    have hX4 := (hq.block _ (lt_of_heap hX3)).trans hX3
    have hb4 := hb3.trans (hq.mono hb3.size)
    clear cX fX hX3 hq
    go_wp2_with fail
    refine (FR.out _ hb4).mono ?_
    rintro e w5 ⟨rfl, m5, rfl⟩
    replace hX4 : (w4.drewN m5).heap[w.heap.size]? = _ := hX4
    replace hb4 := below_drewN hb4 m5
    clear FR SZ PK IS
    generalize w4.drewN m5 = w5 at *
    obtain ⟨cX, fX⟩ := hcell hX4
    obtain ⟨st, ca, cs, fa, fs⟩ := KE.out _ hb4
    go_wp2_with fail
    refine (PU.out _ hb4).mono ?_
    rintro e w6 ⟨rfl, h1, h2, h3⟩
    go_wp2_with fail
    go_ret2
    exact ⟨rfl, h1, h2, h3⟩

set_option maxRecDepth 100000 in
set_option maxHeartbeats 8000000 in
theorem rbPut_new (v ab sb : Nat) (B : Bu) (r : Nat) (c : Int → Nat) (A : Ar) (t : Int) (g : Hd) (w : World) (h : PutPre v ab sb B r c A t g w) (n x y : Int) (hn : n = 2 + g.ptrs + g.raws) (hr : B.rest t = (x, y)) (ny : y < n) (h2 : n ≤ B.size) (h3 : n ≤ A.free 1) :
    Calls Tryd.prog 124 #[.pointer (some ⟨v, 0, none⟩), .pointer (some ⟨r, 0, none⟩), .int .i64 t, g.val] w fun e w' => e = .returned (.tuple #[.int .i64 (A.top 1), .bool true]) ∧ RbAt w' v ab sb (B.setRest t (A.top 1 + n, newLen B A - n)) ∧ RfAt w' r c ((A.take 1 (newLen B A)).laid (A.top 1) (newLen B A) n g) ∧ Only (bfp ab sb r c) w w' := by
  have hHR := h.hR
  have hHB := h.hB
  obtain ⟨hB, okB, hR, okA, ap, ht, f, sv⟩ := h
  have fp0 := f.p0
  have fp1 := f.p1
  have fr0 := f.r0
  have fr1 := f.r1
  obtain ⟨t0, t1⟩ := Bu.is_bd ht
  have n8 := okB.n8
  have IS := Lib.hid (fun (W : World) (hb : Below w.heap.size w W) => rbIs_any v ab sb B t W (hB.below hb))
  rw [ht] at IS
  have PK := Lib.hid (fun (W : World) => rpack_yes g W f)
  have SZ := Lib.hid (fun (W : World) => rhsize_any g W ⟨fp0, by omega⟩ ⟨fr0, by omega⟩)
  rw [← hn] at SZ
  have FR := Lib.hid (fun (W : World) (hb : Below w.heap.size w W) => rfree_any r c A 1 W (hR.below hb) okA)
  have KE := Lib.hid (fun (W : World) (hb : Below w.heap.size w W) => (by have q := (hB.below hb).acell ht; rw [hr] at q; exact ⟨(hcell (hB.below hb).st).1, q.1, q.2, (hcell (hB.below hb).as_).2, (hcell (hB.below hb).ss).2⟩ : (∀ o, W.cell? ⟨v, o, none⟩ = (#[.int .i64 B.size, .slice (some ⟨ab, 0, none⟩) B.rests.length B.rests.length, .slice (some ⟨sb, 0, none⟩) B.rests.length B.rests.length] : Array Value)[o]?) ∧ W.cell? ⟨ab, t.toNat, none⟩ = some (.int .i64 x) ∧ W.cell? ⟨sb, t.toNat, none⟩ = some (.int .i64 y) ∧ (∀ o, W.frozen? ⟨ab, o, none⟩ = false) ∧ (∀ o, W.frozen? ⟨sb, o, none⟩ = false)))
  have n2 : 2 ≤ n := by omega
  have l1 : 1 ≤ newLen B A := by unfold newLen; split <;> omega
  have l2 : newLen B A ≤ A.free 1 := by unfold newLen; split <;> omega
  have l3 : n ≤ newLen B A := by unfold newLen; split <;> omega
  obtain ⟨p1, p2, p3⟩ := okA.top_bd (s := 1) rfl l1 l2
  have okT : (A.take 1 (newLen B A)).Ok := okA.take (s := 1) rfl l1 l2
  have fok : A.fillOk 1 (newLen B A) = true := by unfold Ar.fillOk; simp [isSp]; omega
  have okF : (A.fill 1 (newLen B A)).Ok := (okA.take (s := 1) rfl l1 l2).putI (A.top 1) (by unfold wordT; rw [if_pos (by omega)]; omega)
  have flen : (A.fill 1 (newLen B A)).words.length = (A.take 1 (newLen B A)).words.length := by simp [Ar.fill, Ar.put]
  have FI := Lib.hid (fun (W : World) (hR' : RfAt W r c A) => rfill_yes r c A 1 (newLen B A) W hR' okA rfl l1 l2)
  have TP := Lib.hid (fun (W : World) (hb : Below w.heap.size w W) => (rtop_any r c A 1 W (hR.below hb) okA))
  have ht2 : (B.setRest t (A.top 1, y)).is t = true := by rw [Bu.is_setRest]; exact ht
  have SA := Lib.hid (fun (W : World) (h : RbAt W v ab sb B) => (by have q := h.setA ht (A.top 1); rw [hr] at q; exact q : RbAt (W.setCell ⟨ab, t.toNat, none⟩ (.int .i64 (A.top 1))) v ab sb (B.setRest t (A.top 1, y))))
  have SS := Lib.hid (fun (W : World) (h : RbAt W v ab sb (B.setRest t (A.top 1, y))) => (by have q := h.setS ht2 (newLen B A); rw [Bu.rest_setRest ht, Bu.setRest_setRest] at q; exact q : RbAt (W.setCell ⟨sb, t.toNat, none⟩ (.int .i64 (newLen B A))) v ab sb (B.setRest t (A.top 1, newLen B A))))
  have C2 := Lib.hid (fun (W : World) (h : RbAt W v ab sb (B.setRest t (A.top 1, y))) => (by
    have q := h.acell ht2
    rw [Bu.rest_setRest ht] at q
    have st := (hcell h.st).1
    rw [show (B.setRest t (A.top 1, y)).rests.length = B.rests.length by simp [Bu.setRest]] at st
    exact ⟨st, q.2, (hcell h.ss).2⟩ : (∀ o, W.cell? ⟨v, o, none⟩ = (#[.int .i64 B.size, .slice (some ⟨ab, 0, none⟩) B.rests.length B.rests.length, .slice (some ⟨sb, 0, none⟩) B.rests.length B.rests.length] : Array Value)[o]?) ∧ W.cell? ⟨sb, t.toNat, none⟩ = some (.int .i64 y) ∧ (∀ o, W.frozen? ⟨sb, o, none⟩ = false)))
  have ht4 : (B.setRest t (A.top 1, newLen B A)).is t = true := by rw [Bu.is_setRest]; exact ht
  have LY := Lib.hid (fun (W : World) (hB' : RbAt W v ab sb (B.setRest t (A.top 1, newLen B A))) (hR' : RfAt W r c (A.fill 1 (newLen B A))) => (by
    have q := rbLay_any v ab sb (B.setRest t (A.top 1, newLen B A)) r c (A.fill 1 (newLen B A)) t g W hB' (okB.set t _) hR' okF ap ht4 f sv n (A.top 1) (newLen B A) hn (Bu.rest_setRest ht _) p1 (by rw [flen]; omega) l3
    rw [Bu.setRest_setRest, Ar.fill_laid (by omega) n2 (by omega)] at q
    exact q : Calls Tryd.prog 160 #[.pointer (some ⟨v, 0, none⟩), .pointer (some ⟨r, 0, none⟩), .int .i64 t, g.val, .int .u64 (enc g)] W fun e w' => e = .returned (.int .i64 (A.top 1)) ∧ RbAt w' v ab sb (B.setRest t (A.top 1 + n, newLen B A - n)) ∧ RfAt w' r c ((A.take 1 (newLen B A)).laid (A.top 1) (newLen B A) n g) ∧ Only (bfp ab sb r c) W w'))
  have APO := Lib.hid (fun (W W' : World) (h : RbAt W v ab sb (B.setRest t (A.top 1, newLen B A))) (ho : Only (rfp r c) W W') => h.only ho ap.hv ap.ha ap.hs)
  have FAR := Lib.hid (fun (W : World) (h : RfAt W r c A) (o : Nat) (u : Value) => (⟨h.far (b := ab) (o := o) (u := u) ap.ha, h.far (b := sb) (o := o) (u := u) ap.hs⟩ : _ ∧ _))
  have LT := Lib.hid hR.lt
  have NV := Lib.hid (⟨hB.n1, hB.n2, hB.n3, lt_of_heap hB.st, lt_of_heap hB.as_, lt_of_heap hB.ss⟩ : _ ∧ _ ∧ _ ∧ _ ∧ _ ∧ _)
  have hmin : newLen B A = (if B.size < A.free 1 then B.size else A.free 1) := rfl
  have fbd := okA.sizes 1
  have fre : A.free 1 = A.behind 1 - A.top 1 := rfl
  have fr0' : 0 ≤ A.free 1 := by omega
  have fr1' : A.free 1 ≤ 262145 := by omega
  have tp1 : A.top 1 ≤ 262145 := by omega
  have tp0 : 0 ≤ A.top 1 := by omega
  clear fre fbd
  have bs1 := okB.s1
  have bs0 := okB.s0
  clear hB okB hR okA ap ht ht2 ht4 f sv hr fp0 fp1 fr0 fr1 hn okT okF fok flen
  generalize (A.take 1 (newLen B A)).laid (A.top 1) (newLen B A) n g = A4 at *
  generalize A.fill 1 (newLen B A) = A3 at *
  have HM := Lib.hid hmin
  clear hmin
  generalize newLen B A = nl at *
  generalize hnb : B.rests.length = nb at *
  generalize A.free 1 = fr at *
  generalize A.top 1 = tp at *
  generalize enc g = m at *
  generalize hsz : B.size = sz at *
  have d1 : decide (n ≤ y) = false := by simpa using ny
  have d2 : decide (n ≤ sz) = true := by simpa using h2
  have d3 : decide (n ≤ fr) = true := by simpa using h3
  obtain ⟨x0, g1, g2, g3, g4, g5, g6⟩ := g
  unfold Hd.val at *
  simp only at *
  have hX := heap_one w (.cells #[.int .u64 x0, .int .i64 g1, .int .i64 g2, .int .i64 g3, .int .i64 g4, .int .i64 g5, .bool g6] 24)
  have hb1 := (Below.refl w.heap.size w).alloc (Nat.le_refl _) (.cells #[.int .u64 x0, .int .i64 g1, .int .i64 g2, .int .i64 g3, .int .i64 g4, .int .i64 g5, .bool g6] 24)
  go_enter Tryd.func124, Tryd.ntmps124
  go_upto_region 1 with fail
  generalize w.alloc (.cells #[.int .u64 x0, .int .i64 g1, .int .i64 g2, .int .i64 g3, .int .i64 g4, .int .i64 g5, .bool g6] 24) = w1 at *
  obtain ⟨cX, fX⟩ := hcell hX
  go_wp2_with fail
  refine (IS.out _ hb1).mono ?_
  rintro e w2 ⟨rfl, rfl⟩
  go_wp2_with fail
  refine (PK.out _).mono ?_
  rintro e w3 ⟨rfl, hq⟩
  have hX3 := (hq.block _ (lt_of_heap hX)).trans hX
  have hb3 := hb1.trans (hq.mono hb1.size)
  clear cX fX hX hq
  obtain ⟨cX, fX⟩ := hcell hX3
  go_wp2_with fail
  refine (SZ.out _).mono ?_
  rintro e w4 ⟨rfl, hq⟩
  have hX4 := (hq.block _ (lt_of_heap hX3)).trans hX3
  have hb4 := hb3.trans (hq.mono hb3.size)
  clear cX fX hX3 hq
  go_wp2_with fail
  refine (FR.out _ hb4).mono ?_
  rintro e w5 ⟨rfl, m5, rfl⟩
  replace hX4 : (w4.drewN m5).heap[w.heap.size]? = _ := hX4
  replace hb4 := below_drewN hb4 m5
  clear FR SZ PK IS
  generalize w4.drewN m5 = w5 at *
  obtain ⟨cX, fX⟩ := hcell hX4
  obtain ⟨st, ca, cs, fa, fs⟩ := KE.out _ hb4
  go_upto_region 11 with fail
  go_cut [16] from 65 to 70 (fun s wx => s = .int .i64 nl ∧ wx = w5)
  case first =>
    by_cases q : sz < fr
    · have hq := HM.out
      rw [if_pos q] at hq
      have dq : decide (sz < fr) = true := by simpa using q
      go_wp2_with fail
      go_meet
      exact ⟨by rw [hq], rfl⟩
    · have hq := HM.out
      rw [if_neg q] at hq
      have dq : decide (sz < fr) = false := by simpa using q
      have dq2 : fr ≤ sz := by omega
      go_wp2_with fail
      all_goals
        go_meet
        exact ⟨by congr 1; omega, rfl⟩
  case rest =>
    obtain ⟨rfl, rfl⟩ := hcut
    have hHBc := hHB.below hb4
    have hHRc := hHR.below hb4
    obtain ⟨nv1, nv2, nv3, lv, la, ls⟩ := NV.out
    have hcs := hb4.size
    have c1 : wc.cell? ⟨v, 1, none⟩ = some (.slice (some ⟨ab, 0, none⟩) nb nb) := by rw [st]; rfl
    have KV := Lib.hid (fun (W : World) (h : Only [ab] wc W) => (⟨(World.cell?_of_block (a := ⟨v, 1, none⟩) (h.block v (by show v < _; omega) (by simpa using nv1))).trans c1, h⟩ : W.cell? ⟨v, 1, none⟩ = some (.slice (some ⟨ab, 0, none⟩) nb nb) ∧ Only [ab] wc W))
    have KA := Lib.hid (fun (W : World) (h : Below wc.heap.size wc W) => (⟨(h.cell (p := ⟨ab, t.toNat, none⟩) (World.block_lt_of_cell? wc ⟨ab, t.toNat, none⟩ ca)).trans ca, (hcell (hHBc.below h).as_).2 t.toNat⟩ : W.cell? ⟨ab, t.toNat, none⟩ = some (.int .i64 x) ∧ W.frozen? ⟨ab, t.toNat, none⟩ = false))
    have TP2 := Lib.hid (fun (W : World) (h : Below wc.heap.size wc W) => (TP.out W (hb4.trans (h.mono hb4.size))).mono (R' := fun e w' => e = .returned (.int .i64 tp) ∧ Below wc.heap.size wc w') fun e w' ⟨h1, m, h2⟩ => ⟨h1, by rw [h2]; exact below_drewN h m⟩)
    clear TP KE d1 d2 d3 HM
    go_upto_region 12 with fail
    go_cut [] from 71 to 78 (fun wx => RbAt wx v ab sb (B.setRest t (tp, y)) ∧ RfAt wx r c A ∧ Only [ab] wc wx)
    case first =>
      have FIX := Lib.hid (fun (W : World) (h : Below wc.heap.size wc W) => (⟨SA.out _ (hHBc.below h), (FAR.out _ (hHRc.below h) t.toNat (.int .i64 tp)).1, (Only.of_below h).setCell (p := ⟨ab, t.toNat, none⟩) (by simp) (.int .i64 tp)⟩ : RbAt (W.setCell ⟨ab, t.toNat, none⟩ (.int .i64 tp)) v ab sb (B.setRest t (tp, y)) ∧ RfAt (W.setCell ⟨ab, t.toNat, none⟩ (.int .i64 tp)) r c A ∧ Only [ab] wc (W.setCell ⟨ab, t.toNat, none⟩ (.int .i64 tp))))
      clear st ca cs fa fs hHB hHR
      go_region_held3 (fun W => W.cell? ⟨v, 1, none⟩ = some (.slice (some ⟨ab, 0, none⟩) nb nb) ∧ Only [ab] wc W) ((refine KV.out _ ?_; repeat (first | (with_reducible assumption) | (with_reducible exact Only.refl _ _) | (with_reducible refine Only.drew ?_) | (with_reducible refine Only.drewN ?_ _) | (with_reducible refine Only.setCell ?_ ?_ _) | exact List.mem_cons_self | exact Only.of_below hb9))) (first | (go_at_call 133; refine (TP2.out _ ?_).mono ?_; (first | exact (Below.refl _ _).drew | exact (Below.refl _ _)); rintro e w' ⟨rfl, hb9⟩; obtain ⟨ca9, fa9⟩ := KA.out _ hb9))
      all_goals
        go_wp2_with fail
        go_meet
        exact FIX.out _ hb9
    case rest =>
      obtain ⟨hB2, hR2, hO2⟩ := hcut
      have hX5 := (hO2.block _ (lt_of_heap hX4) (by simp; omega)).trans hX4
      have hOb := (Only.of_below (S := bfp ab sb r c) hb4).trans (hO2.mono (T := bfp ab sb r c) (fun k hk => by rw [List.mem_singleton.1 hk]; simp [bfp]))
      clear st ca cs fa fs cX fX hX4 hb4 hO2 KV KA TP2 c1 hHB hHR hHBc hHRc
      obtain ⟨st, cs, fs⟩ := C2.out _ hB2
      have hB3 := SS.out _ hB2
      have hR3 := (FAR.out _ hR2 t.toNat (.int .i64 nl)).2
      have hO3 := hOb.setCell (p := ⟨sb, t.toNat, none⟩) (by simp [bfp]) (.int .i64 nl)
      have hX6 := (block_set_ne (o := t.toNat) (v := .int .i64 nl) (show w.heap.size ≠ sb by omega)).trans hX5
      go_wp2_with fail
      refine (FI.out _ hR3).mono ?_
      rintro e w6 ⟨rfl, hR6, hO6⟩
      have hB6 := APO.out _ _ hB3 hO6
      have hX7 := hO6.new hX6 LT.out
      obtain ⟨cX, fX⟩ := hcell hX7
      have hO7 := hO3.trans (hO6.mono bfp_r)
      clear st cs fs hB2 hR2 hB3 hR3 hO3 hX5 hX6 hO6 hOb FI SS C2
      go_wp2_with fail
      refine (LY.out _ hB6 hR6).mono ?_
      rintro e w8 ⟨rfl, h1', h2', h3'⟩
      go_wp2_with fail
      go_ret2
      exact ⟨rfl, h1', h2', hO7.trans h3'⟩

end Go.Proofs.YtomgfdfgildkbaaDoor
/- Both Puts do what putB says; the rests stay within the array. -/

namespace Go.Proofs.YtomgfdfgildkbaaDoor
open Go.RowKit Go.BigFrame
set_option linter.unusedVariables false

theorem put13_all (b rb : Nat) (B : Bu) (a wb : Nat) (A : Ar) (t : Int) (g : Hd) (w : World) (tb : Tab w) (h : PairAt w b rb B a wb A) (ri : RestsIn B A) (sv : 0 ≤ g.ser ∧ g.ser < 18446744073709551616) :
    Calls Tryd.prog 37 #[.pointer (some ⟨b, 0, none⟩), .pointer (some ⟨a, 0, none⟩), .int .i64 t, g.val] w fun e w' => e = .returned (.tuple #[.int .i64 (putB B A t g).1.1, .bool (putB B A t g).1.2]) ∧ PairAt w' b rb (putB B A t g).2.1 a wb (putB B A t g).2.2 ∧ Only [rb, a, wb] w w' := by
  unfold putB
  by_cases ht : B.is t = true
  · by_cases hc : chk g = 0
    · have f := (chk_iff g).1 hc
      rw [if_pos ⟨ht, hc⟩]
      have n2 : 2 ≤ 2 + g.ptrs + g.raws := by have := f.p0; have := f.r0; omega
      obtain ⟨r0, r1⟩ := ri t ht
      by_cases q1 : 2 + g.ptrs + g.raws ≤ (B.rest t).2
      · rw [if_pos q1]
        obtain ⟨r2, r3⟩ := r1 (by omega)
        exact put_old b rb B a wb A t g w tb h ht f sv _ _ _ rfl rfl r2 r3 q1
      · rw [if_neg q1]
        by_cases q2 : 2 + g.ptrs + g.raws ≤ B.size ∧ 2 + g.ptrs + g.raws ≤ A.free 1
        · rw [if_pos q2]
          exact put_fresh b rb B a wb A t g w tb h ht f sv _ _ rfl (by omega) q2.2 q2.1 rfl
        · rw [if_neg q2]
          by_cases q3 : 2 + g.ptrs + g.raws ≤ A.free 1
          · have e1 : A.putOk 1 g = true := by unfold Ar.putOk; rw [decide_eq_true hc, decide_eq_true q3]; rfl
            rw [e1]
            refine (put_big b rb B a wb A t g w tb h.hB h.hA h.okA ht f _ rfl (by omega) q3 (by omega)).mono fun e w' ⟨h1, h2, h3⟩ => ⟨h1, ⟨h.hB.only h3 (by simp; exact ⟨h.ap.ba, h.ap.bw⟩) (by simp; exact ⟨h.ap.ra, h.ap.rw⟩), h2, h.okB, Ar.Ok.lay h.okA rfl f q3 sv.1 sv.2, h.ap⟩, h3.mono fun k hk => by simp at hk ⊢; omega⟩
          · have e1 : A.putOk 1 g = false := by unfold Ar.putOk; rw [decide_eq_false q3]; simp
            rw [e1]
            exact (put_full b rb B a wb A t g w tb h.hB h.hA h.okA ht f _ rfl (by omega) (by omega)).mono fun e w' ⟨h1, h2⟩ => ⟨h1, h.below h2, .of_below h2⟩
    · rw [if_neg (fun q => hc q.2)]
      exact (put_badHead b rb B a t g w tb h.hB ht hc).mono fun e w' ⟨h1, h2⟩ => ⟨h1, h.below h2, .of_below h2⟩
  · rw [if_neg (fun q => ht q.1)]
    exact (put_noThread b rb B a t g w tb h.hB (by simpa using ht)).mono fun e w' ⟨h1, h2⟩ => ⟨h1, h.below h2, .of_below h2⟩
theorem rput13_all (v ab sb : Nat) (B : Bu) (r : Nat) (c : Int → Nat) (A : Ar) (t : Int) (g : Hd) (w : World) (hB : RbAt w v ab sb B) (okB : B.Ok) (hR : RfAt w r c A) (okA : A.Ok) (ap : RApart v ab sb r c) (ri : RestsIn B A) (sv : 0 ≤ g.ser ∧ g.ser < 18446744073709551616) :
    Calls Tryd.prog 124 #[.pointer (some ⟨v, 0, none⟩), .pointer (some ⟨r, 0, none⟩), .int .i64 t, g.val] w fun e w' => e = .returned (.tuple #[.int .i64 (putB B A t g).1.1, .bool (putB B A t g).1.2]) ∧ RbAt w' v ab sb (putB B A t g).2.1 ∧ RfAt w' r c (putB B A t g).2.2 ∧ Only (bfp ab sb r c) w w' := by
  unfold putB
  by_cases hq : B.is t = true ∧ chk g = 0
  · rw [if_pos hq]
    obtain ⟨ht, hc⟩ := hq
    have f := (chk_iff g).1 hc
    have pp : PutPre v ab sb B r c A t g w := ⟨hB, okB, hR, okA, ap, ht, f, sv⟩
    have n2 : 2 ≤ 2 + g.ptrs + g.raws := by have := f.p0; have := f.r0; omega
    obtain ⟨r0, r1⟩ := ri t ht
    by_cases q1 : 2 + g.ptrs + g.raws ≤ (B.rest t).2
    · rw [if_pos q1]
      obtain ⟨r2, r3⟩ := r1 (by omega)
      exact rbPut_old v ab sb B r c A t g w pp _ _ _ rfl rfl r2 r3 q1
    · rw [if_neg q1]
      by_cases q2 : 2 + g.ptrs + g.raws ≤ B.size ∧ 2 + g.ptrs + g.raws ≤ A.free 1
      · rw [if_pos q2]
        exact rbPut_new v ab sb B r c A t g w pp _ _ _ rfl (Prod.eta _).symm (by omega) q2.1 q2.2
      · rw [if_neg q2]
        exact rbPut_rest v ab sb B r c A t g w pp _ _ _ rfl (Prod.eta _).symm (by omega) q2
  · rw [if_neg hq]
    exact (rbPut_no v ab sb B r t g w hB hq).mono fun e w' ⟨h1, h2⟩ => ⟨h1, hB.below h2, hR.below h2, .of_below h2⟩
theorem Bu.rest_setRest_ne {B : Bu} {t u : Int} (hu : B.is u = true) (ht : B.is t = true) (h : u ≠ t) (r : Int × Int) : (B.setRest t r).rest u = B.rest u := by
  obtain ⟨u0, u1⟩ := Bu.is_bd hu
  obtain ⟨t0, t1⟩ := Bu.is_bd ht
  unfold Bu.rest Bu.setRest
  rw [if_pos u0, if_pos u0]
  simp only [List.getD_eq_getElem?_getD]
  rw [List.getElem?_set, if_neg (by omega)]
theorem RestsIn.set {B : Bu} {A A' : Ar} (h : RestsIn B A) (hl : A'.words.length = A.words.length) {t : Int} (ht : B.is t = true) {x y : Int} (hy : 0 ≤ y) (hx : 0 < y → 1 ≤ x ∧ x + y ≤ (A.words.length : Int)) : RestsIn (B.setRest t (x, y)) A' := fun u hu => by
  rw [Bu.is_setRest] at hu
  rw [hl]
  by_cases e : u = t
  · subst e
    rw [Bu.rest_setRest hu]
    exact ⟨hy, hx⟩
  · rw [Bu.rest_setRest_ne hu ht e]
    exact h u hu
theorem RestsIn.same {B : Bu} {A A' : Ar} (h : RestsIn B A) (hl : A'.words.length = A.words.length) : RestsIn B A' := fun u hu => by rw [hl]; exact h u hu
theorem Ar.lay_len {A : Ar} (ok : A.Ok) {s : Int} {g : Hd} (f : Fine g) (hs : isSp s = true) (hn : 2 + g.ptrs + g.raws ≤ A.free s) : (A.lay s g).words.length = A.words.length := by
  have h1 : 1 ≤ 2 + g.ptrs + g.raws := by have := f.p0; have := f.r0; omega
  have okT := ok.take hs h1 hn
  have e : (A.take s (2 + g.ptrs + g.raws)).words.length = A.words.length := by
    have l1 := okT.len
    have l2 := ok.len
    rw [Ar.take_cfg] at l1
    omega
  unfold Ar.lay Ar.put
  simp only [List.length_set]
  exact e
theorem RestsIn.put {B : Bu} {A : Ar} (h : RestsIn B A) (okA : A.Ok) (t : Int) (g : Hd) : RestsIn (putB B A t g).2.1 (putB B A t g).2.2 := by
  unfold putB
  by_cases hq : B.is t = true ∧ chk g = 0
  · rw [if_pos hq]
    obtain ⟨ht, hc⟩ := hq
    have f := (chk_iff g).1 hc
    have n2 : 2 ≤ 2 + g.ptrs + g.raws := by have := f.p0; have := f.r0; omega
    obtain ⟨r0, r1⟩ := h t ht
    by_cases q1 : 2 + g.ptrs + g.raws ≤ (B.rest t).2
    · rw [if_pos q1]
      obtain ⟨r2, r3⟩ := r1 (by omega)
      exact h.set (Ar.laid_len (by omega) n2 (by omega)) ht (by omega) (fun _ => ⟨by omega, by omega⟩)
    · rw [if_neg q1]
      by_cases q2 : 2 + g.ptrs + g.raws ≤ B.size ∧ 2 + g.ptrs + g.raws ≤ A.free 1
      · rw [if_pos q2]
        have l1 : 1 ≤ newLen B A := by unfold newLen; split <;> omega
        have l2 : newLen B A ≤ A.free 1 := by unfold newLen; split <;> omega
        have l3 : 2 + g.ptrs + g.raws ≤ newLen B A := by unfold newLen; split <;> omega
        obtain ⟨p1, p2, p3⟩ := okA.top_bd (s := 1) rfl l1 l2
        have tl := Ar.take_len1 okA l1 l2
        exact h.set ((Ar.laid_len (by omega) n2 (by omega)).trans tl) ht (by omega) (fun _ => ⟨by omega, by omega⟩)
      · rw [if_neg q2]
        show RestsIn B (if A.putOk 1 g then A.lay 1 g else A)
        cases e : A.putOk 1 g with
        | true =>
          rw [if_pos rfl]
          unfold Ar.putOk at e
          simp only [Bool.and_eq_true, decide_eq_true_eq] at e
          exact h.same (Ar.lay_len okA f rfl e.2)
        | false => rw [if_neg (by decide)]; exact h
  · rw [if_neg hq]; exact h
theorem RestsIn.retire (B : Bu) (A : Ar) : RestsIn B.retire A := fun t ht => by
  obtain ⟨t0, t1⟩ := Bu.is_bd ht
  have e : B.retire.rest t = (0, 0) := by
    unfold Bu.rest
    rw [if_pos t0]
    have hl : t.toNat < B.rests.length := by simp [Bu.retire] at t1; omega
    simp [Bu.retire, List.getD_eq_getElem?_getD, hl]
  rw [e]
  exact ⟨Int.le_refl _, fun h => by simp at h⟩
theorem RestsIn.new (n s : Int) (A : Ar) : RestsIn (Bu.new n s) A := fun t ht => by
  have h := RestsIn.retire (Bu.new n s) A
  have e : (Bu.new n s).retire = Bu.new n s := by simp [Bu.retire, Bu.new]
  rw [e] at h
  exact h t ht
end Go.Proofs.YtomgfdfgildkbaaDoor
