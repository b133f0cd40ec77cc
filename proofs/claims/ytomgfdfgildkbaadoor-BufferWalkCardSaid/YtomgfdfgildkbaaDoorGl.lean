/- Merged texts: Al1, Al2. -/
import Derived.Test.YtomgfdfgildkbaaDoorRf11G
import Derived.Test.YtomgfdfgildkbaaDoorGe
import Derived.Laws.StructEq
/- middenlay: thingAlike: of two arenas that are the same plain arena. -/


namespace Go.Proofs.YtomgfdfgildkbaaDoor
open Go.RowKit Go.BigFrame
set_option linter.unusedVariables false

set_option maxRecDepth 100000 in
theorem neq_head (y0 y1 y2 y3 y4 y5 : Int) (y6 : Bool) (w : World) : (binOp .neq 24 (.agg #[.int .u64 y0, .int .i64 y1, .int .i64 y2, .int .i64 y3, .int .i64 y4, .int .i64 y5, .bool y6]) (.agg #[.int .u64 y0, .int .i64 y1, .int .i64 y2, .int .i64 y3, .int .i64 y4, .int .i64 y5, .bool y6])).run Tryd.prog w = .ok (.bool false) w := by
  rw [run_neq_struct, run_equalIn_agg w 9999 24 _ _ (by kernel_rfl) (by kernel_rfl)]
  have e : (Op.eqFields 9999 #[.int .u64 y0, .int .i64 y1, .int .i64 y2, .int .i64 y3, .int .i64 y4, .int .i64 y5, .bool y6] #[.int .u64 y0, .int .i64 y1, .int .i64 y2, .int .i64 y3, .int .i64 y4, .int .i64 y5, .bool y6] (Tryd.prog.fieldsOf 24).toList).run Tryd.prog w = .ok true w := by
    have hf : Tryd.prog.fieldsOf 24 = (match Tryd.prog.underlying 24 with | some (.struct fs) => fs | _ => #[]) := rfl
    rw [hf, Tryd.underlying24]
    simp [Op.eqFields, go_sem]
  rw [e]; rfl
set_option maxRecDepth 100000 in
set_option maxHeartbeats 8000000 in
theorem thingAlike_any (a wb r : Nat) (c : Int → Nat) (A : Ar) (i : Int) (w : World) (tb : Tab w) (hA : ArAt w a wb A) (hR : RfAt w r c A) (ok : A.Ok) : Calls Tryd.prog 134 #[.pointer (some ⟨a, 0, none⟩), .pointer (some ⟨r, 0, none⟩), .int .i64 i] w fun e w' => e = .returned (.bool true) ∧ Below w.heap.size w w' := by
  have H1 := Lib.hid (head_any a wb A i w tb hA ok)
  have H2 := Lib.hid (fun (W : World) (hb : Below w.heap.size w W) => rhead_any r c A i W (hR.below hb) ok)
  have P1 := Lib.hid (fun (k : Int) (W : World) (hb : Below w.heap.size w W) => ptr_any a wb A i k W (tb.below hb) (hA.below hb) ok)
  have P2 := Lib.hid (fun (k : Int) (W : World) (hb : Below w.heap.size w W) => rptr_any r c A i k W (hR.below hb) ok)
  have R1 := Lib.hid (fun (k : Int) (W : World) (hb : Below w.heap.size w W) => raw_any a wb A i k W (tb.below hb) (hA.below hb) ok)
  have R2 := Lib.hid (fun (k : Int) (W : World) (hb : Below w.heap.size w W) => rraw_any r c A i k W (hR.below hb) ok)
  have bd : 0 ≤ (A.hd i).ptrs ∧ (A.hd i).ptrs ≤ 4095 ∧ 0 ≤ (A.hd i).raws ∧ (A.hd i).raws ≤ 65535 := by
    cases ho : A.isObj i with
    | true => obtain ⟨b1, b2, b3, b4, b5, b6, b7⟩ := hd_bd ok ho; exact ⟨b2, b3, b4, b5⟩
    | false => unfold Ar.hd; rw [ho, if_neg (by decide)]; decide
  clear tb hA hR ok
  generalize A.hd i = g at *
  generalize A.isObj i = io at *
  obtain ⟨y0, y1, y2, y3, y4, y5, y6⟩ := g
  unfold Hd.val at *
  simp only at *
  obtain ⟨p0, p1, q0, q1⟩ := bd
  have NQ := neq_head y0 y1 y2 y3 y4 y5 y6
  go_enter Tryd.func134, Tryd.ntmps134
  go_wp2_with fail
  refine H1.out.mono ?_
  rintro e w1 ⟨rfl, b1⟩
  clear H1
  go_upto_region 2 with fail
  have hX := heap_one w1 (.cells #[.int .u64 y0, .int .i64 y1, .int .i64 y2, .int .i64 y3, .int .i64 y4, .int .i64 y5, .bool y6] 24)
  have b2 := b1.alloc b1.size (.cells #[.int .u64 y0, .int .i64 y1, .int .i64 y2, .int .i64 y3, .int .i64 y4, .int .i64 y5, .bool y6] 24)
  generalize w1.alloc (.cells #[.int .u64 y0, .int .i64 y1, .int .i64 y2, .int .i64 y3, .int .i64 y4, .int .i64 y5, .bool y6] 24) = w2 at *
  generalize w1.heap.size = p at *
  go_wp2_with fail
  refine (H2.out _ b2).mono ?_
  rintro e w3 ⟨rfl, hq⟩
  have hX3 := (hq.block _ (lt_of_heap hX)).trans hX
  have b3 := b2.trans (hq.mono b2.size)
  clear hX hq H2
  go_upto_region 3 with fail
  have hY := heap_one w3 (.cells #[.int .u64 y0, .int .i64 y1, .int .i64 y2, .int .i64 y3, .int .i64 y4, .int .i64 y5, .bool y6] 24)
  have hX4 := (((Below.refl w3.heap.size w3).alloc (Nat.le_refl _) (.cells #[.int .u64 y0, .int .i64 y1, .int .i64 y2, .int .i64 y3, .int .i64 y4, .int .i64 y5, .bool y6] 24)).block _ (lt_of_heap hX3)).trans hX3
  have b4 := b3.alloc b3.size (.cells #[.int .u64 y0, .int .i64 y1, .int .i64 y2, .int .i64 y3, .int .i64 y4, .int .i64 y5, .bool y6] 24)
  generalize w3.alloc (.cells #[.int .u64 y0, .int .i64 y1, .int .i64 y2, .int .i64 y3, .int .i64 y4, .int .i64 y5, .bool y6] 24) = w4 at *
  generalize w3.heap.size = q at *
  obtain ⟨cX, fX⟩ := hcell hX4
  obtain ⟨cY, fY⟩ := hcell hY
  go_wp2_with fail
  go_loopw [11] (fun iv wx => ∃ k : Int, 0 ≤ k ∧ k ≤ y2 ∧ iv = .int .i64 k ∧ Below w4.heap.size w4 wx) (fun iv _ => (y2 - intOf iv).toNat)
  case atStart => exact ⟨0, by omega, by omega, rfl, Below.refl _ _⟩
  case round =>
    obtain ⟨k, k0, k1, rfl, hbr⟩ := hrel
    have hYr := (hbr.block _ (lt_of_heap hY)).trans hY
    have br := b4.trans (hbr.mono b4.size)
    obtain ⟨cYr, fYr⟩ := hcell hYr
    by_cases hlt : k < y2
    · have dlt : decide (k < y2) = true := by simpa using hlt
      have P1k := Lib.hid (P1.out k)
      have P2k := Lib.hid (P2.out k)
      generalize A.ptr i k = pv at *
      generalize A.ptrOk i k = pk at *
      clear P1 P2 R1 R2 cX fX cY fY
      go_wp2_with fail
      refine (P1k.out _ br).mono ?_
      rintro e w5 ⟨rfl, h5⟩
      have r5 := hbr.trans (h5.mono hbr.size)
      go_wp2_with fail
      refine (P2k.out _ (b4.trans (r5.mono b4.size))).mono ?_
      rintro e w6 ⟨rfl, h6⟩
      have r6 := r5.trans (h6.mono r5.size)
      go_wp2_with fail
      exact ⟨⟨k + 1, by omega, by omega, rfl, r6⟩, by simp [intOf]; omega⟩
    · have dlt : decide (k < y2) = false := by simpa using hlt
      clear P1 P2
      go_wp2_with fail
      go_loopw [16] (fun iv wx => ∃ k : Int, 0 ≤ k ∧ k ≤ y3 ∧ iv = .int .i64 k ∧ Below w4.heap.size w4 wx) (fun iv _ => (y3 - intOf iv).toNat)
      case atStart => exact ⟨0, by omega, by omega, rfl, hbr⟩
      case round =>
        obtain ⟨k, k0, k1, rfl, hbr⟩ := hrel
        have hYr := (hbr.block _ (lt_of_heap hY)).trans hY
        have br := b4.trans (hbr.mono b4.size)
        obtain ⟨cYr, fYr⟩ := hcell hYr
        by_cases hlt : k < y3
        · have dlt : decide (k < y3) = true := by simpa using hlt
          have P1k := Lib.hid (R1.out k)
          have P2k := Lib.hid (R2.out k)
          generalize A.raw i k = pv at *
          generalize A.rawOk i k = pk at *
          clear R1 R2 cX fX cY fY
          go_wp2_with fail
          refine (P1k.out _ br).mono ?_
          rintro e w5 ⟨rfl, h5⟩
          have r5 := hbr.trans (h5.mono hbr.size)
          go_wp2_with fail
          refine (P2k.out _ (b4.trans (r5.mono b4.size))).mono ?_
          rintro e w6 ⟨rfl, h6⟩
          have r6 := r5.trans (h6.mono r5.size)
          go_wp2_with fail
          exact ⟨⟨k + 1, by omega, by omega, rfl, r6⟩, by simp [intOf]; omega⟩
        · have dlt : decide (k < y3) = false := by simpa using hlt
          clear R1 R2
          go_wp2_with fail
          go_ret
          exact ⟨rfl, br⟩
end Go.Proofs.YtomgfdfgildkbaaDoor
/- middenlay: walked: the addresses of a space's objects. -/


namespace Go.Proofs.YtomgfdfgildkbaaDoor
open Go.RowKit Go.BigFrame
set_option linter.unusedVariables false

theorem objsOf_cons (x : Th) (l : List Th) : (objsOf (x :: l)).length = (if x.obj then 1 else 0) + (objsOf l).length := by
  unfold objsOf
  rw [List.filter_cons]
  cases x.obj <;> simp; omega
theorem Ar.th_words {A : Ar} {s i : Int} (h : (A.th s i).obj = true) : 2 ≤ (A.th s i).words := by
  unfold Ar.th at h ⊢
  split at h
  · rename_i q
    rw [if_pos q]
    unfold Ar.isObj at q
    simp only [Bool.and_eq_true, decide_eq_true_eq] at q
    exact (Ar.osz_bd q.1.2).1
  · simp at h
theorem Ar.th_end {A : Ar} {s i : Int} (hi : i < A.top s) (h : (A.th s i).obj = true) (hs : A.top s = A.top (A.space i)) : i + (A.th s i).words ≤ A.top s := by
  unfold Ar.th at h ⊢
  split at h
  · rename_i q
    rw [if_pos q]
    unfold Ar.isObj at q
    simp only [Bool.and_eq_true, decide_eq_true_eq] at q
    show i + A.osz i ≤ _
    omega
  · simp at h
theorem Ar.objs_half {A : Ar} (ok : A.Ok) {s : Int} (hs : isSp s = true) : ∀ n i, (A.top s - i).toNat = n → A.first s ≤ i → 2 * (objsOf (A.things s i)).length ≤ n := by
  have hz := ok.sizes s
  intro n
  induction n using Nat.strongRecOn with
  | ind n ih =>
    intro i hi hf
    by_cases h : i < A.top s
    · have hsp : A.space i = s := Ar.space_eq ok hs hf (by omega)
      by_cases h2 : 0 < (A.th s i).words
      · rw [A.things_on h h2, objsOf_cons]
        cases ho : (A.th s i).obj with
        | true =>
          have w2 := Ar.th_words ho
          have we := Ar.th_end h ho (by rw [hsp])
          have := ih (A.top s - (i + (A.th s i).words)).toNat (by omega) _ rfl (by omega)
          simp only [if_true]; omega
        | false =>
          have := ih (A.top s - (i + (A.th s i).words)).toNat (by omega) _ rfl (by omega)
          simp only [Bool.false_eq_true, if_false]; omega
      · rw [A.things_bad h h2, objsOf_cons]
        cases ho : (A.th s i).obj with
        | true => have := Ar.th_words ho; omega
        | false => simp [objsOf]
    · rw [A.things_end h]; simp [objsOf]
theorem Ar.objs_short {A : Ar} (ok : A.Ok) (s : Int) : (A.objs s).length ≤ 32768 := by
  unfold Ar.objs
  split
  · rename_i hs
    have h := Ar.objs_half ok hs _ (A.first s) rfl (Int.le_refl _)
    have hz := ok.sizes s
    have bf := A.behind_first hs
    obtain ⟨e0, e1, s0, s1, t0, t1⟩ := Cfg.bd ok.cv
    have hsz : szOf A.cfg s ≤ 65536 := by rcases sp_cases hs with rfl | rfl | rfl | rfl <;> simp [szOf] <;> omega
    omega
  · simp
/-- A list of addresses that is being taken, in a variable of its own. -/
structure LaAt (w : World) (lb B : Nat) (xs : List Int) (v : Value) : Prop where
  hb : w.heap[lb]? = some (.cells #[v] 59 (0, 0))
  r : w.ownsRow B 3 1 v xs.length (xs.map (Value.int .i64))
  n : v.ownBlock ≠ some lb
  bB : B ≤ lb
def fpL (lb : Nat) (v : Value) : List Nat := lb :: v.ownBlock.toList
theorem mem_fpL {lb : Nat} {v : Value} {k : Nat} : k ∈ fpL lb v ↔ k = lb ∨ v.ownBlock = some k := by simp [fpL, Option.mem_toList]
theorem LaAt.lt {w : World} {lb B : Nat} {xs : List Int} {v : Value} (h : LaAt w lb B xs v) : ∀ k ∈ fpL lb v, k < w.heap.size ∧ B ≤ k := fun k hk => by
  rcases mem_fpL.1 hk with rfl | hk
  · exact ⟨lt_of_heap h.hb, h.bB⟩
  · exact ⟨(h.r.lt k hk).2, (h.r.lt k hk).1⟩
theorem LaAt.same {w w' : World} {lb B : Nat} {xs : List Int} {v : Value} (h : LaAt w lb B xs v) (e : ∀ k ∈ fpL lb v, w'.heap[k]? = w.heap[k]?) : LaAt w' lb B xs v :=
  ⟨(e lb (mem_fpL.2 (.inl rfl))).trans h.hb, ownsRow_heap h.r fun k hk => e k (mem_fpL.2 (.inr hk)), h.n, h.bB⟩
theorem LaAt.turn {X Y : World} {row : Option Nat} {B0 lb B : Nat} {xs : List Int} {v : Value} (h : LaAt X lb B xs v) (hg : X.grownBy Y row) (hr : ∀ r, row = some r → B0 ≤ r ∧ ∃ o : Obj, X.heap[r]? = some o ∧ o.isCells = false) : LaAt Y lb B xs v := by
  refine h.same fun k hk => ?_
  rcases mem_fpL.1 hk with rfl | hk
  · exact cells_turn h.hb hg hr
  · rcases h.r.2 with ⟨hn, _⟩ | ⟨g, cap, cur, hv, _, hg', _⟩
    · rw [hn] at hk; cases hk
    · rw [hv] at hk; cases hk; exact cells_turn hg' hg hr
theorem LaAt.types {w : World} {lb B : Nat} {xs : List Int} {v : Value} (h : LaAt w lb B xs v) : ∀ k ∈ fpL lb v, ∃ cs ty, w.heap[k]? = some (Obj.cells cs ty (0, 0)) ∧ ty ≠ 193 := fun k hk => by
  rcases mem_fpL.1 hk with rfl | hk
  · exact ⟨_, _, h.hb, by decide⟩
  · rcases h.r.2 with ⟨hn, _⟩ | ⟨g, cap, cur, hv, _, hg, _⟩
    · rw [hn] at hk; cases hk
    · rw [hv] at hk; cases hk; exact ⟨cur, _, hg, by decide⟩
set_option maxRecDepth 100000 in
set_option maxHeartbeats 8000000 in
theorem wk1_any (lb B : Nat) (xs : List Int) (v : Value) (x : Int) (h : Hd) (w : World) (hL : LaAt w lb B xs v) (hB : B ≤ w.heap.size) (hn : xs.length ≤ 1000000) :
    Calls Tryd.prog 162 #[.int .i64 x, h.val, .pointer (some ⟨lb, 0, none⟩)] w fun e w' => e = .returned (.bool (decide ((xs.length : Int) + 1 < 70000))) ∧ ∃ v', LaAt w' lb B (xs ++ [x]) v' ∧ (∀ k ∈ fpL lb v', k ∈ fpL lb v ∨ w.heap.size ≤ k) ∧ Only (fpL lb v) w w' := by
  obtain ⟨x0, x1, x2, x3, x4, x5, x6⟩ := h
  unfold Hd.val
  simp only
  obtain ⟨i1, hi1, hz1, hs1, hy1⟩ := info_parts infoInt
  have hbA := (Below.refl w.heap.size w).alloc (Nat.le_refl _) (.cells #[.int .u64 x0, .int .i64 x1, .int .i64 x2, .int .i64 x3, .int .i64 x4, .int .i64 x5, .bool x6] 24)
  have hLA : LaAt (w.alloc (.cells #[.int .u64 x0, .int .i64 x1, .int .i64 x2, .int .i64 x3, .int .i64 x4, .int .i64 x5, .bool x6] 24)) lb B xs v := hL.same fun k hk => hbA.block k (hL.lt k hk).1
  have hvlt := fun k hk => (hL.r.lt k hk).2
  have llb := lt_of_heap hL.hb
  go_enter Tryd.func162, Tryd.ntmps162
  go_upto_region 1 with fail
  generalize w.alloc (.cells #[.int .u64 x0, .int .i64 x1, .int .i64 x2, .int .i64 x3, .int .i64 x4, .int .i64 x5, .bool x6] 24) = wA at *
  have hsA := hbA.size
  obtain ⟨cA, fA⟩ := hcell hLA.hb
  have lA := lt_of_heap hLA.hb
  have nn : some lb ≠ v.ownBlock := fun e => hLA.n e.symm
  go_upto_region 2 with (at_builtin; refine wpList_append_lies _ rfl _ _ 59 rfl B 3 i1 (.int .i64 0) 1 8 Tryd.underlying59 hi1 hz1 hs1 hy1 rfl (by decide) v xs.length _ rfl (hLA.r.alloc _) ⟨wA.heap.size, 0, none⟩ 1 1 [.int .i64 x] rfl rfl (cell_one_new _ _ _) (fun u hu => by simp at hu; subst hu; rfl) (by decide) (by unfold maxLen; omega) (by omega) (by simp; omega) (wA.heap.size + 1) (by simp) ?_; intro g1 cap1 w1 hown1 hgrow1 hat1 hlt1; have hb1 := (hgrow1.block lb (by simp; omega) nn).trans (((Below.refl wA.heap.size wA).alloc (Nat.le_refl _) _).block _ lA |>.trans hLA.hb); obtain ⟨c1, f1⟩ := hcell hb1)
  have hO : Only (fpL lb v) w w1 := (((Only.of_below hbA).alloc _).grown hgrow1 (fun k hk => mem_fpL.2 (.inr hk)))
  have hO2 := hO.setCell (p := ⟨lb, 0, none⟩) (mem_fpL.2 (.inl rfl)) (.slice (some ⟨g1, 0, none⟩) (xs.length + 1) cap1)
  have ng : g1 ≠ lb := by
    rcases hat1 with q | q
    · intro e; exact hLA.n (by rw [q, e])
    · omega
  have hb2 := block_set hb1 0 (.slice (some ⟨g1, 0, none⟩) (xs.length + 1) cap1)
  simp only [List.setIfInBounds_toArray, List.set_cons_zero] at hb2
  have hr2 := ownsRow_heap (w' := w1.setCell ⟨lb, 0, none⟩ (.slice (some ⟨g1, 0, none⟩) (xs.length + 1) cap1)) hown1 (fun k hk => by cases hk; exact block_set_ne ng)
  have hfp : ∀ k ∈ fpL lb (.slice (some ⟨g1, 0, none⟩) (xs.length + 1) cap1), k ∈ fpL lb v ∨ w.heap.size ≤ k := fun k hk => by
    rcases mem_fpL.1 hk with rfl | hk
    · exact .inl (mem_fpL.2 (.inl rfl))
    · cases hk
      rcases hat1 with q | q
      · exact .inl (mem_fpL.2 (.inr q))
      · right; show w.heap.size ≤ g1; omega
  have FI := Lib.hid (⟨_, ⟨hb2, by simpa using hr2, fun e => by cases e; exact ng rfl, hL.bB⟩, hfp, hO2⟩ : ∃ v', LaAt (w1.setCell ⟨lb, 0, none⟩ (.slice (some ⟨g1, 0, none⟩) (xs.length + 1) cap1)) lb B (xs ++ [x]) v' ∧ (∀ k ∈ fpL lb v', k ∈ fpL lb v ∨ w.heap.size ≤ k) ∧ Only (fpL lb v) w (w1.setCell ⟨lb, 0, none⟩ (.slice (some ⟨g1, 0, none⟩) (xs.length + 1) cap1)))
  clear hO hO2 hr2 hfp hown1 hgrow1 hat1 hLA hL hbA cA fA c1 f1 hb1
  generalize w1.setCell ⟨lb, 0, none⟩ (.slice (some ⟨g1, 0, none⟩) (xs.length + 1) cap1) = w2 at *
  obtain ⟨c2, f2⟩ := hcell hb2
  go_wp2_with fail
  go_ret
  exact ⟨rfl, FI.out⟩
set_option maxRecDepth 100000 in
set_option maxHeartbeats 4000000 in
theorem obj1_list (b wb bs ba : Nat) (A : Ar) (s : Int) (S : List Nat) (m1 : b ∈ S) (m2 : wb ∈ S) (m3 : bs ∈ S) (m4 : ba ∈ S) (m5 : 1 ∈ S) (m6 : 0 ∈ S) (ok : A.Ok) (w : World) (tb : Tab w) (hA : ArAt w b wb A)
    (hbs : w.cell? ⟨bs, 0, none⟩ = some (.int .i64 s)) (hba : w.cell? ⟨ba, 0, none⟩ = some (.pointer (some ⟨b, 0, none⟩))) (hS : ∀ k ∈ S, k < w.heap.size)
    (lb B : Nat) (hL : LaAt w lb B [] (.slice none 0 0)) (hB : B ≤ w.heap.size) (hd0 : ∀ k ∈ S, k ≠ lb) :
    Calls Tryd.prog 152 #[.func (.func 162) #[] #[.pointer (some ⟨lb, 0, none⟩)], .pointer (some ⟨ba, 0, none⟩), .pointer (some ⟨bs, 0, none⟩)] w fun e w' => e = .returned (.tuple #[]) ∧ (∃ v, LaAt w' lb B ((A.objs s).map (·.1)) v) ∧ Only [lb] w w' := by
  have C := obj1_calls b wb bs ba A s S m1 m2 m3 m4 m5 m6 ok w tb hA hbs hba hS 162 #[] #[.pointer (some ⟨lb, 0, none⟩)] (enters_of Tryd.func162 (by kernel_rfl) rfl)
    (fun pre fp W => (∃ v, fp = fpL lb v ∧ LaAt W lb B (pre.map (·.1)) v ∧ ∀ k ∈ fpL lb v, k = lb ∨ w.heap.size ≤ k) ∧ Only [lb] w W)
    (fun _ _ => False)
    ?_ ?_ ?_ [lb] (fun k hk hm => hd0 k hk (List.mem_singleton.1 hm)) ?_ ?_
  · refine C.mono fun e w' ⟨h1, h2⟩ => ⟨h1, ?_⟩
    rcases h2 with ⟨fp, ⟨v, _, h3, _⟩, h4⟩ | ⟨pre, hp, hf⟩
    · exact ⟨⟨v, h3⟩, h4⟩
    · exact hf.elim
  · intro st X Y row hs hg hr
    obtain ⟨⟨v, h2, h3, h4⟩, h6⟩ := hs
    exact ⟨⟨v, h2, h3.turn hg hr, h4⟩, only_own (Nat.le_refl _) () X Y row h6 hg hr⟩
  · intro pre X Y row hs hg hr
    exact hs.elim
  · rintro pre fp W ⟨⟨v, rfl, h3, _⟩, _⟩ k hk
    exact (h3.lt k hk).1
  · rintro pre fp x W ⟨⟨v, rfl, h3, h4⟩, h6⟩ hpre hk
    have hlen : pre.length < (A.objs s).length := by
      obtain ⟨m, hm⟩ := hpre
      rw [← hm]; simp
    have hsh := Ar.objs_short ok s
    have K := wk1_any lb B (pre.map (·.1)) v x.1 x.2 W h3 (Nat.le_trans hB h6.size) (by simp; omega)
    have hd : decide (((pre.map (·.1)).length : Int) + 1 < 70000) = true := by simp; omega
    rw [hd] at K
    have ea : (#[] ++ (#[Value.int .i64 x.1, x.2.val] ++ #[Value.pointer (some ⟨lb, 0, none⟩)]) : Array Value) = #[.int .i64 x.1, x.2.val, .pointer (some ⟨lb, 0, none⟩)] := by simp
    rw [ea]
    refine K.mono fun e W' ⟨he, v', h7, h8, h10⟩ => ⟨.inl ⟨he, fpL lb v', ⟨⟨v', rfl, by simpa using h7, fun k hk => ?_⟩, ?_⟩, h8⟩, Frame.of_only h10 h3.types⟩
    · rcases h8 k hk with q | q
      · exact h4 k q
      · right; have := h6.size; omega
    · exact ⟨h10.os.trans h6.os, h10.tape.trans h6.tape, h10.output.trans h6.output, Nat.le_trans h6.size h10.size, fun k hk hn => (h10.block k (Nat.lt_of_lt_of_le hk h6.size) (fun hm => by
        rcases h4 k hm with q | q
        · exact hn (by simp [q])
        · omega)).trans (h6.block k hk hn)⟩
  · exact ⟨⟨.slice none 0 0, rfl, hL, fun k hk => by rcases mem_fpL.1 hk with q | q; exact .inl q; cases q⟩, .refl _ _⟩
set_option maxRecDepth 100000 in
set_option maxHeartbeats 8000000 in
theorem walked_any (a wb : Nat) (A : Ar) (s : Int) (w : World) (tb : Tab w) (hA : ArAt w a wb A) (ok : A.Ok) :
    Calls Tryd.prog 131 #[.pointer (some ⟨a, 0, none⟩), .int .i64 s] w fun e w' => ∃ v, e = .returned (.tuple #[v, .bool true]) ∧ w'.ownsRow w.heap.size 3 1 v (A.objs s).length ((A.objs s).map fun x => Value.int .i64 x.1) ∧ Below w.heap.size w w' := by
  have hmf : ∀ (fn : Fn) (first cap : Array Value) (w : World), (Instr.makeFunc fn first cap).run Tryd.prog w = .ok (.func fn first cap) w := fun _ _ _ _ => rfl
  have OM := Lib.hid (fun (W : World) => objects_mk a s W)
  have EF := eql_func
  have hs1 := tb.hs
  have hs2 := tb.ht
  have la := lt_of_heap hA.st
  have lwb := lt_of_heap hA.ws
  have hsh := Ar.objs_short ok s
  go_enter Tryd.func131, Tryd.ntmps131
  go_wp2_with fail
  refine (OM.out _).mono ?_
  rintro e w2 ⟨rfl, hw2⟩
  obtain ⟨hbx, hby⟩ := heap_two w (.cells #[.pointer (some ⟨a, 0, none⟩)] 47) (.cells #[.int .i64 s] 3)
  have hb2 := ((Below.refl w.heap.size w).alloc (Nat.le_refl _) (.cells #[.pointer (some ⟨a, 0, none⟩)] 47)).alloc (by simp) (.cells #[.int .i64 s] 3)
  have hz2 : ((w.alloc (.cells #[.pointer (some ⟨a, 0, none⟩)] 47)).alloc (.cells #[.int .i64 s] 3)).heap.size = w.heap.size + 2 := by simp
  rw [← hw2] at hbx hby hb2 hz2
  clear hw2 OM
  go_upto_region 5 with fail
  have hX := heap_one w2 (.cells #[.slice none 0 0] 59)
  have hb3 := hb2.alloc hb2.size (.cells #[.slice none 0 0] 59)
  have hc := (Below.refl w2.heap.size w2).alloc (Nat.le_refl _) (.cells #[.slice none 0 0] 59)
  have hbx3 := (hc.block _ (lt_of_heap hbx)).trans hbx
  have hby3 := (hc.block _ (lt_of_heap hby)).trans hby
  have lX := lt_of_heap hX
  have lx := lt_of_heap hbx
  have ly := lt_of_heap hby
  have hcs := hc.size
  have OT := Lib.hid (obj1_list a wb (w.heap.size + 1) w.heap.size A s [a, wb, 1, 0, w.heap.size, w.heap.size + 1] (by simp) (by simp) (by simp) (by simp) (by simp) (by simp) ok (w2.alloc (.cells #[.slice none 0 0] 59)) (tb.below hb3) (hA.below hb3) (by rw [(hcell hby3).1]; rfl) (by rw [(hcell hbx3).1]; rfl) (fun k hk => by simp at hk; omega)
    w2.heap.size w.heap.size ⟨hX, World.ownsRow_nil _ _ _ _, by simp [Value.ownBlock], hb2.size⟩ hb3.size (fun k hk => by simp at hk; omega))
  have lw2 := hb2.size
  clear hX hbx hby hbx3 hby3 hc hA tb
  generalize w2.alloc (.cells #[.slice none 0 0] 59) = w3 at *
  rw [hz2] at OT lw2
  go_wp2_with fail
  refine OT.out.mono ?_
  rintro e w4 ⟨rfl, ⟨v, hL⟩, hO⟩
  have hb4 := hb3.trans (hO.below (B := w.heap.size) hb3.size (by simp))
  have hr : w4.ownsRow w.heap.size 3 1 v (A.objs s).length ((A.objs s).map fun x => Value.int .i64 x.1) := by
    have q := hL.r
    rw [List.length_map, List.map_map] at q
    exact q
  obtain ⟨cX, fX⟩ := hcell hL.hb
  obtain ⟨p, cap, rfl⟩ := row_form hr
  have d7 : decide (((A.objs s).length : Int) < 70000) = true := by simp; omega
  have FI := Lib.hid (⟨hr, hb4⟩ : _ ∧ _)
  clear hL hO hb3 OT hr hb4
  generalize hn : (A.objs s).length = n at *
  have HN := Lib.hid hn
  clear hn
  go_upto_region 6 with fail
  go_region
  all_goals
    go_wp2_with fail
    go_ret2
    exact ⟨.slice p n cap, rfl, by rw [HN.out]; exact FI.out.1.drew, FI.out.2.drew⟩
end Go.Proofs.YtomgfdfgildkbaaDoor
