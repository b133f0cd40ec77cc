/- The program's Check: every walk's first fault. -/
import Derived.Test.YtomgfdfgildkbaaDoorGo
namespace Go.Proofs.YtomgfdfgildkbaaDoor
open Go.RowKit Go.BigFrame
attribute [local go_sem] Oper.semAt_some

theorem things_ge (A : Ar) (s : Int) : ∀ n i, (A.top s - i).toNat = n → ∀ x ∈ A.things s i, i ≤ x.at_ := by
  intro n
  induction n using Nat.strongRecOn with
  | ind n ih =>
    intro i hi x hx
    by_cases h : i < A.top s
    · by_cases h2 : 0 < (A.th s i).words
      · rw [A.things_on h h2] at hx
        rcases List.mem_cons.1 hx with e | e
        · rw [e, A.th_at]; omega
        · have := ih _ (by omega) (i + (A.th s i).words) rfl x e
          omega
      · rw [A.things_bad h h2] at hx
        simp at hx
        rw [hx, A.th_at]; omega
    · rw [A.things_end h] at hx; simp at hx
theorem all_pos (A : Ar) (ok : A.Ok) (s : Int) : ∀ x ∈ A.all s, 0 < x.at_ := by
  intro x hx
  unfold Ar.all at hx
  split at hx
  · rename_i h
    have := things_ge A s _ _ rfl x hx
    have : 1 ≤ A.first s := by
      obtain ⟨e0, e1, s0, s1, t0, t1⟩ := Cfg.bd ok.cv
      rcases sp_cases h with rfl | rfl | rfl | rfl <;> simp [Ar.first] <;> omega
    omega
  · simp at hx
theorem badOf_none {l : List Th} (h : ∀ x ∈ l, x.words ≠ 0) : badOf l = 0 := by
  have := badOf_app (m := []) h
  simpa [badOf] using this
theorem badOf_at {l pre : List Th} {x : Th} (h : ∀ x ∈ pre, x.words ≠ 0) (hx : x.words = 0) (hp : pre ++ [x] <+: l) : badOf l = x.at_ := by
  obtain ⟨q, rfl⟩ := hp
  rw [List.append_assoc, badOf_app h]
  show (if x.words = 0 then x.at_ else _) = _
  rw [if_pos hx]
def markOf (D : Nat) : Deferred := { target := .collected D, args := #[] }
theorem leave_marks {F : Fence} {n : Nat} {P : Program} {fn : Func} {tmps : Array Value} {R : Ending → World → Prop} : ∀ (Ds : List Nat) (W : World), Ds.Pairwise (· ≠ ·) → (∀ D ∈ Ds, W.heap[D]? = some (.deferred (some []))) →
    (∀ W', W'.os = W.os → W'.tape = W.tape → W'.output = W.output → W'.heap.size = W.heap.size → (∀ k, k ∉ Ds → W'.heap[k]? = W.heap[k]?) → ∃ v, (results fn tmps).run P W' = .ok v W' ∧ R (.returned v) W') →
    LeavesInM F n P fn tmps R (Ds.map markOf) .returning W := by
  intro Ds
  induction Ds with
  | nil => intro W _ _ hf; exact hf W rfl rfl rfl rfl fun _ _ => rfl
  | cons D Ds ih =>
    intro W hp hD hf
    obtain ⟨hp1, hp2⟩ := List.pairwise_cons.1 hp
    refine ⟨by simp, .inl ⟨D, _, rfl, run_takeDeferred (hD D (by simp)), ih _ hp2 (fun E hE => ?_) ?_⟩⟩
    · rw [World.putObj_heap_other (Ne.symm (hp1 E hE))]; exact hD E (by simp [hE])
    · intro W' h1 h2 h3 h4 h5
      refine hf W' h1 h2 h3 (by rw [h4]; simp [World.putObj]) fun k hk => ?_
      have : k ≠ D ∧ k ∉ Ds := by simpa using hk
      rw [h5 k this.2, World.putObj_heap_other this.1]
set_option maxRecDepth 100000 in
set_option maxHeartbeats 4000000 in
theorem acheck_any (b wb : Nat) (A : Ar) (w : World) (tb : Tab w) (h : ArAt w b wb A) (ok : A.Ok) : Calls Tryd.prog 99 #[.pointer (some ⟨b, 0, none⟩)] w fun e w' => e = .returned (.tuple #[.int .i64 (chkFrom A 1).1, .int .i64 (chkFrom A 1).2]) ∧ Below w.heap.size w w' := by
  have WM := Lib.hid (fun s w => walk_mk b s w)
  have C1 := Lib.hid (fun s => @chkFrom_end A s)
  have C2 := Lib.hid (fun s => @chkFrom_bad A s)
  have C3 := Lib.hid (fun s => @chkFrom_on A s)
  have AP := Lib.hid (all_pos A ok)
  have hr0 : chkFrom A 0 = chkFrom A 1 := chkFrom_on A (by decide) (by rw [show A.all 0 = [] from if_neg (by decide)]; decide)
  generalize chkFrom A 1 = r at *
  have HR := Lib.hid hr0
  clear hr0
  have lb := lt_of_heap h.st
  have lwb := lt_of_heap h.ws
  have ln := World.block_lt_of_cell? w _ tb.n0
  have lw := World.block_lt_of_cell? w _ tb.w0
  obtain ⟨n, hn⟩ : ∃ n : Nat, n = 7 := ⟨_, rfl⟩
  clear hn
  refine (callsIn_wide (n := n)).1 ?_
  refine callsIn_of_wp_marks Tryd.func99 rfl trivial ?_ rfl
  simp only [Tryd.ntmps99, List.size_toArray, List.length_cons, List.length_nil, Nat.reduceAdd, Nat.reduceSub, Array.replicate_succ, Array.replicate_zero, List.push_toArray, List.append_toArray, List.nil_append, List.cons_append]
  gi_wp2_with fail
  have e1 := heap_two w (.cells #[.int .i64 0] 3) (.cells #[.int .i64 0] 25)
  have hb1 : Below w.heap.size w ((w.alloc (.cells #[.int .i64 0] 3)).alloc (.cells #[.int .i64 0] 25)) := ((Below.refl _ w).alloc (Nat.le_refl _) _).alloc (by simp) _
  generalize (w.alloc (.cells #[.int .i64 0] 3)).alloc (.cells #[.int .i64 0] 25) = w0 at *
  refine wpIn_loop (fun a W => ∃ (k : Int) (Ds : List Nat) (u1 u4 u5 u7 u8 u9 u10 u11 u12 u13 u14 u15 u16 u17 u18 : Value), a = { tmps := #[.pointer (some ⟨b, 0, none⟩), u1, .pointer (some ⟨w.heap.size, 0, none⟩), .pointer (some ⟨w.heap.size + 1, 0, none⟩), u4, u5, .int .i64 k, u7, u8, u9, u10, u11, u12, u13, u14, u15, u16, u17, u18], defers := Ds.map markOf } ∧ 0 ≤ k ∧ k ≤ 5 ∧ chkFrom A k = r ∧ Below w.heap.size w W ∧ W.heap[w.heap.size]? = some (.cells #[.int .i64 0] 3 (0, 0)) ∧ W.heap[w.heap.size + 1]? = some (.cells #[.int .i64 0] 25 (0, 0)) ∧ Ds.Pairwise (· ≠ ·) ∧ ∀ D ∈ Ds, w.heap.size + 1 < D ∧ D < W.heap.size ∧ W.heap[D]? = some (.deferred (some []))) (fun a _ => (5 - intOf (a.tmps.getD 6 undef)).toNat) ?_ ?_
  · exact ⟨0, [], _, _, _, _, _, _, _, _, _, _, _, _, _, _, _, rfl, by decide, by decide, HR.out, hb1, e1.1, e1.2, .nil, fun _ h => by simp at h⟩
  · clear e1 hb1 w0
    rintro a W ⟨k, Ds, u1, u4, u5, u7, u8, u9, u10, u11, u12, u13, u14, u15, u16, u17, u18, rfl, k0, k5, hc, hb, g1, g2, hp, hD⟩
    by_cases hlt : k < 5
    · have d0 : decide (k < 5) = true := by simpa using hlt
      have hk0 := Lib.hid (chkFrom_bad A hlt)
      have hk1 := Lib.hid (chkFrom_on A hlt)
      gi_wp2_with fail
      refine ⟨trivial, (fun h => by cases h), (callsIn_wide.2 (WM.out k W)).mono ?_⟩
      rintro e W0 ⟨rfl, hW0⟩
      have b1 := heap_two W (.cells #[.pointer (some ⟨b, 0, none⟩)] 47) (.cells #[.int .i64 k] 3)
      have hbW : Below W.heap.size W W0 := by rw [hW0]; exact ((Below.refl _ W).alloc (Nat.le_refl _) _).alloc (by simp) _
      have hz : W0.heap.size = W.heap.size + 2 := by rw [hW0]; simp
      rw [← hW0] at b1
      obtain ⟨b1, b2⟩ := b1
      clear hW0 WM
      obtain ⟨c1, d1⟩ := hcell b1
      obtain ⟨c2, d2⟩ := hcell b2
      have hb0 := hb.trans (hbW.mono hb.size)
      have hbs := hb.size
      have g10 := (hbW.block _ (lt_of_heap g1)).trans g1
      have g20 := (hbW.block _ (lt_of_heap g2)).trans g2
      have hD0 : ∀ D ∈ Ds, w.heap.size + 1 < D ∧ D < W.heap.size ∧ W0.heap[D]? = some (.deferred (some [])) := fun D h => ⟨(hD D h).1, (hD D h).2.1, (hbW.block _ (hD D h).2.1).trans (hD D h).2.2⟩
      have lg1 := lt_of_heap g1
      have lg2 := lt_of_heap g2
      clear g1 g2 hD hbW
      obtain ⟨S, hS⟩ : ∃ S : List Nat, S = [b, wb, 1, 0, W.heap.size, W.heap.size + 1, w.heap.size, w.heap.size + 1] ++ Ds := ⟨_, rfl⟩
      have hSl : ∀ j ∈ S, j < W0.heap.size := fun j hj => by
        rw [hS] at hj
        simp only [List.cons_append, List.nil_append, List.mem_cons] at hj
        rcases hj with h | h | h | h | h | h | h | h | h
        · omega
        · omega
        · omega
        · omega
        · omega
        · omega
        · omega
        · omega
        · have := (hD0 j h).2.1; omega
      have IN : ∀ j, j ∈ [b, wb, 1, 0, W.heap.size, W.heap.size + 1, w.heap.size, w.heap.size + 1] → j ∈ S := fun j hj => by rw [hS]; exact List.mem_append_left _ hj
      have IND : ∀ j, j ∈ Ds → j ∈ S := fun j hj => by rw [hS]; exact List.mem_append_right _ hj
      clear hS
      gi_wp2_with fail
      refine range_gives (gf := 163) (lb := #[.pointer (some ⟨W.heap.size + 1, 0, none⟩), .pointer (some ⟨W.heap.size, 0, none⟩)]) (S := S) (xs := A.all k) rfl (enters_of Tryd.func163 (by kernel_rfl) rfl)
        (walk1_gives b wb (W.heap.size + 1) W.heap.size A k _ (IN _ (by simp)) (IN _ (by simp)) (IN _ (by simp)) (IN _ (by simp)) (IN _ (by simp)) (IN _ (by simp)) ok W0 (tb.below hb0) (h.below hb0) (by rw [c2]; rfl) (by rw [c1]; rfl)) hSl (fun _ => rfl)
        (fun pre W' => (∀ x ∈ pre, x.words ≠ 0) ∧ Below w.heap.size w W' ∧ KeptT S W0 W')
        (fun c pre W' => c = .ret ∧ (∃ pre' x, pre = pre' ++ [x] ∧ (∀ y ∈ pre', y.words ≠ 0) ∧ x.words = 0 ∧ W'.heap[w.heap.size]? = some (.cells #[.int .i64 x.at_] 3 (0, 0)) ∧ W'.heap[w.heap.size + 1]? = some (.cells #[.int .i64 31] 25 (0, 0))) ∧ (∀ D ∈ Ds, W'.heap[D]? = some (.deferred (some []))) ∧ Below w.heap.size w W')
        ?own1 ?own2 ⟨fun _ h => by simp at h, hb0, .refl _ _⟩
        (fun x a' W' => ∃ Bx, W0.heap.size ≤ Bx ∧ W'.heap[Bx]? = some (.cells x.cells 193 (0, 0)) ∧ a' = { tmps := #[.pointer (some ⟨b, 0, none⟩), u1, .pointer (some ⟨w.heap.size, 0, none⟩), .pointer (some ⟨w.heap.size + 1, 0, none⟩), .int .i64 k, .pointer (some ⟨Bx, 0, none⟩), .int .i64 k, .bool true, .int .i64 k, .pointer (some ⟨b, 0, none⟩), .int .i64 k, .func (.func 163) #[] #[.pointer (some ⟨W.heap.size + 1, 0, none⟩), .pointer (some ⟨W.heap.size, 0, none⟩)], x.val, u13, u14, u15, u16, u17, u18], defers := [] })
        ?ownA ?assign ?body ?done ?stop
      case own1 =>
        refine OwnFrom.and (fun pre X Y row hs hg hr => hs) (OwnFrom.and (fun pre X Y row hs hg hr => ?_) (keptT_own (Nat.le_refl _) hSl))
        exact Below.grown hs hg hs.size fun j e => by have := (hr j e).1; have := hb0.size; omega
      case own2 =>
        intro c pre X Y row hs hg hr
        obtain ⟨h1, ⟨p', x, h2, h3, h4, h5, h6⟩, h7, h8⟩ := hs
        have hkp : ∀ j o, X.heap[j]? = some o → j < W0.heap.size → Y.heap[j]? = some o := fun j o hj hl => (hg.block j (lt_of_heap hj) (fun e => by have := (hr j e.symm).1; omega)).trans hj
        refine ⟨h1, ⟨p', x, h2, h3, h4, hkp _ _ h5 (by omega), hkp _ _ h6 (by omega)⟩, fun D hD => hkp _ _ (h7 D hD) (by have := (hD0 D hD).2.1; omega), ?_⟩
        exact Below.grown h8 hg h8.size fun j e => by have := (hr j e).1; have := hb0.size; omega
      case ownA =>
        intro x a' _ X Y row hs hg hr
        obtain ⟨Bx, h1, h2, h3⟩ := hs
        refine ⟨Bx, h1, (hg.block Bx (lt_of_heap h2) (fun e => ?_)).trans h2, h3⟩
        obtain ⟨o, ho, hc⟩ := (hr Bx e.symm).2
        rw [h2] at ho; cases ho; cases hc
      case assign =>
        rintro m l pre ⟨xa, xw, ⟨x0, x1, x2, x3, x4, x5, x6⟩, xo⟩ W' K ⟨hpw, hbw, hk⟩ hpre hK
        simp only [Th.val, Th.cells]
        gi_wp2
        have hb1 : ∀ X, Below W'.heap.size W' (W'.alloc X) := fun X => (Below.refl _ W').alloc (Nat.le_refl _) X
        have hsz := hk.size
        exact hK _ _ ((KeepsOthers.alloc _ _).from _) (.below (hb1 _)) ⟨hpw, hbw.trans ((hb1 _).mono hbw.size), hk.trans (.below (hb1 _))⟩ ⟨W'.heap.size, hsz, heap_one W' _, rfl⟩
      case body =>
        rintro m l pre x a' W' hl ⟨r', hr'⟩ ⟨hpw, hbw, hk⟩ ⟨Bx, hBx, hX, rfl⟩ hpre
        have e1 := (hk.blk _ (IN w.heap.size (by simp)) (by omega)).trans g10
        have e2 := (hk.blk _ (IN (w.heap.size + 1) (by simp)) (by omega)).trans g20
        have hD1 : ∀ D ∈ Ds, W'.heap[D]? = some (.deferred (some [])) := fun D hD => (hk.blk _ (IND D hD) (by have := (hD0 D hD).2.1; omega)).trans (hD0 D hD).2.2
        by_cases q : x.words = 0
        · have dq : decide (x.words = 0) = true := by simpa using q
          have PX := Lib.hid (⟨x, rfl, hpw, q, rfl⟩ : ∃ y, y = x ∧ (∀ z ∈ pre, z.words ≠ 0) ∧ x.words = 0 ∧ y = x)
          obtain ⟨xa, xw, ⟨x0, x1, x2, x3, x4, x5, x6⟩, xo⟩ := x
          unfold Th.cells at hX
          simp only at hX dq q
          obtain ⟨cX, fX⟩ := hcell hX
          obtain ⟨cE1, fE1⟩ := hcell e1
          obtain ⟨cE2, fE2⟩ := hcell e2
          gi_wp2_with fail
          have f1 := block_set e1 0 (.int .i64 xa)
          have f2 : (W'.setCell ⟨w.heap.size, 0, none⟩ (.int .i64 xa)).heap[w.heap.size + 1]? = _ := (block_set_ne (by simp)).trans e2
          have f3 : ((W'.setCell ⟨w.heap.size, 0, none⟩ (.int .i64 xa)).setCell ⟨w.heap.size + 1, 0, none⟩ (.int .i64 31)).heap[w.heap.size]? = _ := (block_set_ne (by simp)).trans f1
          have f4 := block_set f2 0 (.int .i64 31)
          obtain ⟨y, hy1, hy2, hy3, hy4⟩ := PX.out
          refine ⟨((KeepsOthers.setCell _ _ _).trans (KeepsOthers.setCell _ _ _)).from _, rfl, ⟨pre, _, rfl, hpw, rfl, f3, f4⟩, fun D hD => ?_, ?_⟩
          · have := (hD0 D hD).1
            rw [block_set_ne (by show D ≠ w.heap.size + 1; omega), block_set_ne (by show D ≠ w.heap.size; omega)]
            exact hD1 D hD
          · exact Below.setCell (Below.setCell hbw (Nat.le_refl _) _) (Nat.le_succ _) _
        · have dq : decide (x.words = 0) = false := by simpa using q
          have PX := Lib.hid (show ∀ z ∈ pre ++ [x], z.words ≠ 0 from fun z hz => by
            rcases List.mem_append.1 hz with h | h
            · exact hpw z h
            · rw [List.mem_singleton.1 h]; exact q)
          obtain ⟨xa, xw, ⟨x0, x1, x2, x3, x4, x5, x6⟩, xo⟩ := x
          unfold Th.cells at hX
          simp only at hX dq q
          obtain ⟨cX, fX⟩ := hcell hX
          gi_wp2_with fail
          exact ⟨KeepsFrom.refl _ _, .refl _ _, PX.out, hbw, hk⟩
      case done =>
        rintro D W' hD ⟨hpw, hbw, hk⟩ hK
        gi_wp2
        have e1 := (hk.blk _ (IN w.heap.size (by simp)) (by omega)).trans g10
        have e2 := (hk.blk _ (IN (w.heap.size + 1) (by simp)) (by omega)).trans g20
        refine ⟨⟨k + 1, D :: Ds, _, _, _, _, _, _, _, _, _, _, _, _, _, _, _, rfl, by omega, by omega, ?_, hbw, e1, e2, ?_, ?_⟩, ?_⟩
        · rw [← hk1.out (by rw [badOf_none hpw]; decide)]; exact hc
        · exact List.pairwise_cons.2 ⟨fun E hE => by have := (hD0 E hE).2.1; omega, hp⟩
        · intro E hE
          rcases List.mem_cons.1 hE with rfl | h
          · exact ⟨by omega, lt_of_heap hK, hK⟩
          · have h1 := hD0 E h
            exact ⟨h1.1, by have := hk.size; omega, (hk.blk _ (IND E h) (by omega)).trans h1.2.2⟩
        · simp [intOf]; omega
      case stop =>
        rintro D c pre W' hD hpre ⟨rfl, ⟨p', x, rfl, hpw, hx, e1, e2⟩, hDs, hbw⟩ hK
        gi_wp2
        have l1 := lt_of_heap hK
        refine leave_marks (D :: Ds) W' (List.pairwise_cons.2 ⟨fun E hE => by have := (hD0 E hE).2.1; omega, hp⟩) (fun E hE => ?_) ?_
        · rcases List.mem_cons.1 hE with rfl | hE
          · exact hK
          · exact hDs E hE
        · intro W1 o1 o2 o3 hsz hsm
          have i1 := (hsm w.heap.size (fun hE => by
            rcases List.mem_cons.1 hE with hE | hE
            · omega
            · have := (hD0 _ hE).1; omega)).trans e1
          have i2 := (hsm (w.heap.size + 1) (fun hE => by
            rcases List.mem_cons.1 hE with hE | hE
            · omega
            · have := (hD0 _ hE).1; omega)).trans e2
          have hbd := badOf_at hpw hx hpre
          have hps := AP.out k x (hpre.subset (by simp))
          have hr1 := hk0.out (by omega)
          rw [hc, hbd] at hr1
          obtain ⟨cE1, fE1⟩ := hcell i1
          obtain ⟨cE2, fE2⟩ := hcell i2
          refine ⟨.tuple #[.int .i64 x.at_, .int .i64 31], by simp [results, Tryd.results99, go_sem, cE1, cE2], by rw [hr1], ⟨o1.trans hbw.os, o2.trans hbw.tape, o3.trans hbw.output, by rw [hsz]; exact hbw.size, fun j hj => ?_⟩⟩
          rw [hsm j (fun hE => by
            rcases List.mem_cons.1 hE with hE | hE
            · omega
            · have := (hD0 _ hE).1; omega)]
          exact hbw.block j hj
    · have d0 : decide (k < 5) = false := by simpa using hlt
      have hk2 := Lib.hid (chkFrom_end A hlt)
      obtain ⟨cE1, fE1⟩ := hcell g1
      obtain ⟨cE2, fE2⟩ := hcell g2
      gi_wp2_with fail
      have f1 := block_set g1 0 (.int .i64 0)
      have f2 : (W.setCell ⟨w.heap.size, 0, none⟩ (.int .i64 0)).heap[w.heap.size + 1]? = _ := (block_set_ne (by simp)).trans g2
      have f3 : ((W.setCell ⟨w.heap.size, 0, none⟩ (.int .i64 0)).setCell ⟨w.heap.size + 1, 0, none⟩ (.int .i64 0)).heap[w.heap.size]? = _ := (block_set_ne (by simp)).trans f1
      have f4 := block_set f2 0 (.int .i64 0)
      have hbw : Below w.heap.size w ((W.setCell ⟨w.heap.size, 0, none⟩ (.int .i64 0)).setCell ⟨w.heap.size + 1, 0, none⟩ (.int .i64 0)) := Below.setCell (Below.setCell hb (Nat.le_refl _) _) (Nat.le_succ _) _
      have hDs : ∀ D ∈ Ds, ((W.setCell ⟨w.heap.size, 0, none⟩ (.int .i64 0)).setCell ⟨w.heap.size + 1, 0, none⟩ (.int .i64 0)).heap[D]? = some (.deferred (some [])) := fun D h => by
        have := (hD D h).1
        rw [block_set_ne (by show D ≠ w.heap.size + 1; omega), block_set_ne (by show D ≠ w.heap.size; omega)]
        exact (hD D h).2.2
      generalize (W.setCell ⟨w.heap.size, 0, none⟩ (.int .i64 0)).setCell ⟨w.heap.size + 1, 0, none⟩ (.int .i64 0) = W' at *
      refine leave_marks Ds W' hp hDs ?_
      intro W1 o1 o2 o3 hsz hsm
      have i1 := (hsm w.heap.size (fun hE => by have := (hD _ hE).1; omega)).trans f3
      have i2 := (hsm (w.heap.size + 1) (fun hE => by have := (hD _ hE).1; omega)).trans f4
      have hr1 := hk2.out
      rw [hc] at hr1
      clear cE1 fE1 cE2 fE2
      obtain ⟨cE1, fE1⟩ := hcell i1
      obtain ⟨cE2, fE2⟩ := hcell i2
      refine ⟨.tuple #[.int .i64 0, .int .i64 0], by simp [results, Tryd.results99, go_sem, cE1, cE2], by rw [hr1], ⟨o1.trans hbw.os, o2.trans hbw.tape, o3.trans hbw.output, by rw [hsz]; exact hbw.size, fun j hj => ?_⟩⟩
      rw [hsm j (fun hE => by have := (hD _ hE).1; omega)]
      exact hbw.block j hj
end Go.Proofs.YtomgfdfgildkbaaDoor
