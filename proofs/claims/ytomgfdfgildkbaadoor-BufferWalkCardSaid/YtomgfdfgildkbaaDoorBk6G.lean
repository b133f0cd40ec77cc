/- BufferWalk: `walk`: the addresses that eden's walk meets. No condition. -/
import Derived.Test.YtomgfdfgildkbaaDoorGr
import Derived.Test.YtomgfdfgildkbaaDoorGl
import Derived.Test.YtomgfdfgildkbaaDoorBo4G
namespace Go.Proofs.YtomgfdfgildkbaaDoor
open Go.RowKit Go.BigFrame
set_option linter.unusedVariables false
theorem Eden.chk {A : Ar} {B : Bu} {Ls : Int → List It} {Q : List Lt} (ok : A.Ok) (h : Eden A B Ls Q) : chkFrom A 1 = (0, 0) := by
  have z : ∀ s, isSp s = true → ¬ 0 < badOf (A.all s) := fun s hs => by
    rw [badOf_none fun x hx => by have := h.tiled.good ok hs x hx; omega]; decide
  rw [chkFrom_on A (by decide) (z 1 (by decide)), chkFrom_on A (by decide) (z (1 + 1) (by decide)), chkFrom_on A (by decide) (z (1 + 1 + 1) (by decide)), chkFrom_on A (by decide) (z (1 + 1 + 1 + 1) (by decide)), chkFrom_end A (by decide)]
set_option maxRecDepth 100000 in
set_option maxHeartbeats 8000000 in
theorem wk13_any (lb B : Nat) (xs : List Int) (v : Value) (x : Int) (h : Hd) (w : World) (hL : LaAt w lb B xs v) (hB : B ≤ w.heap.size) (hn : xs.length ≤ 1000000) :
    Calls Tryd.prog 153 #[.int .i64 x, h.val, .pointer (some ⟨lb, 0, none⟩)] w fun e w' => e = .returned (.bool (decide ((xs.length : Int) + 1 < 70000))) ∧ ∃ v', LaAt w' lb B (xs ++ [x]) v' ∧ (∀ k ∈ fpL lb v', k ∈ fpL lb v ∨ w.heap.size ≤ k) ∧ Only (fpL lb v) w w' := by
  obtain ⟨x0, x1, x2, x3, x4, x5, x6⟩ := h
  unfold Hd.val
  simp only
  obtain ⟨i1, hi1, hz1, hs1, hy1⟩ := info_parts infoInt
  have hbA := (Below.refl w.heap.size w).alloc (Nat.le_refl _) (.cells #[.int .u64 x0, .int .i64 x1, .int .i64 x2, .int .i64 x3, .int .i64 x4, .int .i64 x5, .bool x6] 24)
  have hLA : LaAt (w.alloc (.cells #[.int .u64 x0, .int .i64 x1, .int .i64 x2, .int .i64 x3, .int .i64 x4, .int .i64 x5, .bool x6] 24)) lb B xs v := hL.same fun k hk => hbA.block k (hL.lt k hk).1
  have hvlt := fun k hk => (hL.r.lt k hk).2
  have llb := lt_of_heap hL.hb
  go_enter Tryd.func153, Tryd.ntmps153
  go_upto_region 1 with fail
  generalize w.alloc (.cells #[.int .u64 x0, .int .i64 x1, .int .i64 x2, .int .i64 x3, .int .i64 x4, .int .i64 x5, .bool x6] 24) = wA at *
  have hsA := hbA.size
  obtain ⟨cA, fA⟩ := hcell hLA.hb
  have lA := lt_of_heap hLA.hb
  have nn : some lb ≠ v.ownBlock := fun e => hLA.n e.symm
  go_upto_region 2 with (at_builtin; refine wpList_append_lies _ rfl _ _ 59 rfl B 3 i1 (.int .i64 0) 1 8 Tryd.underlying59 hi1 hz1 hs1 hy1 rfl (by decide) v xs.length _ rfl (hLA.r.alloc _) ⟨wA.heap.size, 0, none⟩ 1 1 [.int .i64 x] rfl rfl (cell_one_new _ _ _) (fun u hu => by simp at hu; subst hu; rfl) (by decide) (by unfold maxLen; omega) (by omega) (by simp; omega) (wA.heap.size + 1) (by simp) ?_; intro g1 cap1 w1 hown1 hgrow1 hat1 hlt1; have hb1 := (hgrow1.block lb (by simp; omega) nn).trans (((Below.refl wA.heap.size wA).alloc (Nat.le_refl _) _).block _ lA |>.trans hLA.hb); obtain ⟨c1, f1⟩ := hcell hb1)
  have hO : Only (fpL lb v) w w1 := (((Only.of_below hbA).alloc _).grown hgrow1 (fun k hk => mem_fpL.2 (.inr hk)))
  have hO2 := hO.setCell (p := ⟨lb, 0, none⟩) (mem_fpL.2 (.inl rfl)) (.slice (some ⟨g1, 0, none⟩) (xs.length + 1) cap1)
  have ng : g1 ≠ lb := by
    rcases hat1 with q | q
    · intro e; exact hLA.n (by rw [q, e])
    · omega
  have hb2 := block_set hb1 0 (.slice (some ⟨g1, 0, none⟩) (xs.length + 1) cap1)
  simp only [List.setIfInBounds_toArray, List.set_cons_zero] at hb2
  have hr2 := ownsRow_heap (w' := w1.setCell ⟨lb, 0, none⟩ (.slice (some ⟨g1, 0, none⟩) (xs.length + 1) cap1)) hown1 (fun k hk => by cases hk; exact block_set_ne ng)
  have hfp : ∀ k ∈ fpL lb (.slice (some ⟨g1, 0, none⟩) (xs.length + 1) cap1), k ∈ fpL lb v ∨ w.heap.size ≤ k := fun k hk => by
    rcases mem_fpL.1 hk with rfl | hk
    · exact .inl (mem_fpL.2 (.inl rfl))
    · cases hk
      rcases hat1 with q | q
      · exact .inl (mem_fpL.2 (.inr q))
      · right; show w.heap.size ≤ g1; omega
  have FI := Lib.hid (⟨_, ⟨hb2, by simpa using hr2, fun e => by cases e; exact ng rfl, hL.bB⟩, hfp, hO2⟩ : ∃ v', LaAt (w1.setCell ⟨lb, 0, none⟩ (.slice (some ⟨g1, 0, none⟩) (xs.length + 1) cap1)) lb B (xs ++ [x]) v' ∧ (∀ k ∈ fpL lb v', k ∈ fpL lb v ∨ w.heap.size ≤ k) ∧ Only (fpL lb v) w (w1.setCell ⟨lb, 0, none⟩ (.slice (some ⟨g1, 0, none⟩) (xs.length + 1) cap1)))
  clear hO hO2 hr2 hfp hown1 hgrow1 hat1 hLA hL hbA cA fA c1 f1 hb1
  generalize w1.setCell ⟨lb, 0, none⟩ (.slice (some ⟨g1, 0, none⟩) (xs.length + 1) cap1) = w2 at *
  obtain ⟨c2, f2⟩ := hcell hb2
  go_wp2_with fail
  go_ret
  exact ⟨rfl, FI.out⟩
set_option maxRecDepth 100000 in
set_option maxHeartbeats 4000000 in
theorem obj13_list (b wb bs ba : Nat) (A : Ar) (s : Int) (S : List Nat) (m1 : b ∈ S) (m2 : wb ∈ S) (m3 : bs ∈ S) (m4 : ba ∈ S) (m5 : 1 ∈ S) (m6 : 0 ∈ S) (ok : A.Ok) (w : World) (tb : Tab w) (hA : ArAt w b wb A)
    (hbs : w.cell? ⟨bs, 0, none⟩ = some (.int .i64 s)) (hba : w.cell? ⟨ba, 0, none⟩ = some (.pointer (some ⟨b, 0, none⟩))) (hS : ∀ k ∈ S, k < w.heap.size)
    (lb B : Nat) (hL : LaAt w lb B [] (.slice none 0 0)) (hB : B ≤ w.heap.size) (hd0 : ∀ k ∈ S, k ≠ lb) :
    Calls Tryd.prog 152 #[.func (.func 153) #[] #[.pointer (some ⟨lb, 0, none⟩)], .pointer (some ⟨ba, 0, none⟩), .pointer (some ⟨bs, 0, none⟩)] w fun e w' => e = .returned (.tuple #[]) ∧ (∃ v, LaAt w' lb B ((A.objs s).map (·.1)) v) ∧ Only [lb] w w' := by
  have C := obj1_calls b wb bs ba A s S m1 m2 m3 m4 m5 m6 ok w tb hA hbs hba hS 153 #[] #[.pointer (some ⟨lb, 0, none⟩)] (enters_of Tryd.func153 (by kernel_rfl) rfl)
    (fun pre fp W => (∃ v, fp = fpL lb v ∧ LaAt W lb B (pre.map (·.1)) v ∧ ∀ k ∈ fpL lb v, k = lb ∨ w.heap.size ≤ k) ∧ Only [lb] w W)
    (fun _ _ => False)
    ?_ ?_ ?_ [lb] (fun k hk hm => hd0 k hk (List.mem_singleton.1 hm)) ?_ ?_
  · refine C.mono fun e w' ⟨h1, h2⟩ => ⟨h1, ?_⟩
    rcases h2 with ⟨fp, ⟨v, _, h3, _⟩, h4⟩ | ⟨pre, hp, hf⟩
    · exact ⟨⟨v, h3⟩, h4⟩
    · exact hf.elim
  · intro st X Y row hs hg hr
    obtain ⟨⟨v, h2, h3, h4⟩, h6⟩ := hs
    exact ⟨⟨v, h2, h3.turn hg hr, h4⟩, only_own (Nat.le_refl _) () X Y row h6 hg hr⟩
  · intro pre X Y row hs hg hr
    exact hs.elim
  · rintro pre fp W ⟨⟨v, rfl, h3, _⟩, _⟩ k hk
    exact (h3.lt k hk).1
  · rintro pre fp x W ⟨⟨v, rfl, h3, h4⟩, h6⟩ hpre hk
    have hlen : pre.length < (A.objs s).length := by
      obtain ⟨m, hm⟩ := hpre
      rw [← hm]; simp
    have hsh := Ar.objs_short ok s
    have K := wk13_any lb B (pre.map (·.1)) v x.1 x.2 W h3 (Nat.le_trans hB h6.size) (by simp; omega)
    have hd : decide (((pre.map (·.1)).length : Int) + 1 < 70000) = true := by simp; omega
    rw [hd] at K
    have ea : (#[] ++ (#[Value.int .i64 x.1, x.2.val] ++ #[Value.pointer (some ⟨lb, 0, none⟩)]) : Array Value) = #[.int .i64 x.1, x.2.val, .pointer (some ⟨lb, 0, none⟩)] := by simp
    rw [ea]
    refine K.mono fun e W' ⟨he, v', h7, h8, h10⟩ => ⟨.inl ⟨he, fpL lb v', ⟨⟨v', rfl, by simpa using h7, fun k hk => ?_⟩, ?_⟩, h8⟩, Frame.of_only h10 h3.types⟩
    · rcases h8 k hk with q | q
      · exact h4 k q
      · right; have := h6.size; omega
    · exact ⟨h10.os.trans h6.os, h10.tape.trans h6.tape, h10.output.trans h6.output, Nat.le_trans h6.size h10.size, fun k hk hn => (h10.block k (Nat.lt_of_lt_of_le hk h6.size) (fun hm => by
        rcases h4 k hm with q | q
        · exact hn (by simp [q])
        · omega)).trans (h6.block k hk hn)⟩
  · exact ⟨⟨.slice none 0 0, rfl, hL, fun k hk => by rcases mem_fpL.1 hk with q | q; exact .inl q; cases q⟩, .refl _ _⟩
set_option maxRecDepth 100000 in
set_option maxHeartbeats 8000000 in
theorem walk13_any (x D : Nat) (G : Wg) (w : World) (tb : Tab w) (h : WoAt w x D G) :
    Calls Tryd.prog 121 #[.pointer (some ⟨x, 0, none⟩)] w fun e w' => ∃ v, e = .returned (.tuple #[v, .bool true]) ∧ w'.ownsRow w.heap.size 3 1 v (G.A.objs 1).length ((G.A.objs 1).map fun x => Value.int .i64 x.1) ∧ Below w.heap.size w w' := by
  have hmf : ∀ (fn : Fn) (first cap : Array Value) (w : World), (Instr.makeFunc fn first cap).run Tryd.prog w = .ok (.func fn first cap) w := fun _ _ _ _ => rfl
  have hA := h.pair.hA
  have ok := h.pair.okA
  obtain ⟨Ls, E⟩ := h.eden
  have CK' := fun (W : World) (hb : Below w.heap.size w W) => acheck_any G.a G.wb G.A W (tb.below hb) (hA.below hb) ok
  rw [E.chk ok] at CK'
  have CK := Lib.hid CK'
  have hx := h.hx
  have lx0 := lt_of_heap hx
  have HX := Lib.hid (fun (W : World) (hb : Below w.heap.size w W) => hcell ((hb.block _ (lt_of_heap hx)).trans hx))
  unfold Wg.cells at HX
  clear h E CK' hx
  generalize G.A = A at *
  generalize G.a = a at *
  generalize G.b = b at *
  generalize G.v = v at *
  generalize G.n = n at *
  generalize G.wb = wb at *
  have OM := Lib.hid (fun (W : World) => objects_mk a 1 W)
  have EF := eql_func
  have hs1 := tb.hs
  have hs2 := tb.ht
  have la := lt_of_heap hA.st
  have lwb := lt_of_heap hA.ws
  have hsh := Ar.objs_short ok 1
  obtain ⟨cX, fX⟩ := HX.out _ (Below.refl _ _)
  go_enter Tryd.func121, Tryd.ntmps121
  go_wp2_with fail
  refine (OM.out _).mono ?_
  rintro e w2 ⟨rfl, hw2⟩
  clear cX fX
  obtain ⟨hbx, hby⟩ := heap_two w (.cells #[.pointer (some ⟨a, 0, none⟩)] 47) (.cells #[.int .i64 1] 3)
  have hb2 := ((Below.refl w.heap.size w).alloc (Nat.le_refl _) (.cells #[.pointer (some ⟨a, 0, none⟩)] 47)).alloc (by simp) (.cells #[.int .i64 1] 3)
  have hz2 : ((w.alloc (.cells #[.pointer (some ⟨a, 0, none⟩)] 47)).alloc (.cells #[.int .i64 1] 3)).heap.size = w.heap.size + 2 := by simp
  rw [← hw2] at hbx hby hb2 hz2
  clear hw2 OM
  go_upto_region 5 with fail
  have hX := heap_one w2 (.cells #[.slice none 0 0] 59)
  have hb3 := hb2.alloc hb2.size (.cells #[.slice none 0 0] 59)
  have hc := (Below.refl w2.heap.size w2).alloc (Nat.le_refl _) (.cells #[.slice none 0 0] 59)
  have hbx3 := (hc.block _ (lt_of_heap hbx)).trans hbx
  have hby3 := (hc.block _ (lt_of_heap hby)).trans hby
  have lX := lt_of_heap hX
  have lx := lt_of_heap hbx
  have ly := lt_of_heap hby
  have hcs := hc.size
  have OT := Lib.hid (obj13_list a wb (w.heap.size + 1) w.heap.size A 1 [a, wb, 1, 0, w.heap.size, w.heap.size + 1] (by simp) (by simp) (by simp) (by simp) (by simp) (by simp) ok (w2.alloc (.cells #[.slice none 0 0] 59)) (tb.below hb3) (hA.below hb3) (by rw [(hcell hby3).1]; rfl) (by rw [(hcell hbx3).1]; rfl) (fun k hk => by simp at hk; omega)
    w2.heap.size w.heap.size ⟨hX, World.ownsRow_nil _ _ _ _, by simp [Value.ownBlock], hb2.size⟩ hb3.size (fun k hk => by simp at hk; omega))
  have lw2 := hb2.size
  clear hX hbx hby hbx3 hby3 hc hA tb
  generalize w2.alloc (.cells #[.slice none 0 0] 59) = w3 at *
  rw [hz2] at OT lw2
  go_wp2_with fail
  refine OT.out.mono ?_
  rintro e w4 ⟨rfl, ⟨vl, hL⟩, hO⟩
  have hb4 := hb3.trans (hO.below (B := w.heap.size) hb3.size (by simp))
  have hr : w4.ownsRow w.heap.size 3 1 vl (A.objs 1).length ((A.objs 1).map fun x => Value.int .i64 x.1) := by
    have q := hL.r
    rw [List.length_map, List.map_map] at q
    exact q
  obtain ⟨cX, fX⟩ := HX.out _ hb4
  have hLb := hL.hb
  have llb := lt_of_heap hLb
  have hvl : ∀ k, vl.ownBlock = some k → k < w4.heap.size := fun k hk => (hr.lt k hk).2
  have HV := Lib.hid hvl
  obtain ⟨p, cap, rfl⟩ := row_form hr
  have HR := Lib.hid hr
  clear hL hO hb3 OT hr hvl
  generalize hn : (A.objs 1).length = m at *
  have HN := Lib.hid hn
  clear hn
  go_wp2_with fail
  refine (CK.out _ hb4).mono ?_
  rintro e w5 ⟨rfl, hq⟩
  have hb5 := hb4.trans (hq.mono hb4.size)
  have hr5 := ownsRow_heap (w' := w5) HR.out (fun k hk => hq.block k (HV.out k hk))
  have hLb5 := (hq.block _ llb).trans hLb
  clear cX fX hLb hq
  obtain ⟨cL, fL⟩ := hcell hLb5
  have FI := Lib.hid (⟨hr5, hb5⟩ : _ ∧ _)
  clear hr5 hb5 hLb5
  go_upto_region 7 with fail
  go_wp2_with fail
  go_ret2
  exact ⟨.slice p m cap, rfl, by rw [HN.out]; exact FI.out.1, FI.out.2⟩
end Go.Proofs.YtomgfdfgildkbaaDoor
