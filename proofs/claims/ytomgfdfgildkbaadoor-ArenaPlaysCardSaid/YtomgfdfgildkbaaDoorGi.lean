/- Merged texts: Pl1, Pl2, Pl3, Pl4, Pl5, Pl6, Pl7. -/
import Derived.Test.YtomgfdfgildkbaaDoorGh
/- ArenaPlays: what a step makes of an arena, in plain words; what a write leaves. -/

namespace Go.Proofs.YtomgfdfgildkbaaDoor
open Go.RowKit Go.BigFrame

/-- What a step of a script makes of an arena. -/
def Ar.step (A : Ar) (o : St) : Ar :=
  if o.kind = 1 then (if A.takeOk o.s o.a then A.take o.s o.a else A)
  else if o.kind = 2 then (if A.cuts o.s o.a = true then A.setTop o.s o.a else A)
  else if o.kind = 3 then { A with frm := A.to }
  else if o.kind = 4 then (if A.putOk o.s o.hd then A.lay o.s o.hd else A)
  else if o.kind = 5 then (if A.fillOk o.s o.a then A.fill o.s o.a else A)
  else if o.kind = 6 then A.setHead o.a o.hd
  else if o.kind = 7 then A.setPtr o.a o.b o.c
  else if o.kind = 8 then A.setRaw o.a o.b o.w
  else A.setw o.a o.w
/-- The bounds of a step's numbers. -/
structure St.Bd (o : St) : Prop where
  k : -9223372036854775808 ≤ o.kind ∧ o.kind < 9223372036854775808
  a : -9223372036854775808 ≤ o.a ∧ o.a < 9223372036854775808
  c : -9223372036854775808 ≤ o.c ∧ o.c < 9223372036854775808
  w : 0 ≤ o.w ∧ o.w < 18446744073709551616
  s : 0 ≤ o.hd.ser ∧ o.hd.ser < 18446744073709551616
theorem Ar.Ok.fill {A : Ar} (ok : A.Ok) {s n : Int} (h : A.fillOk s n = true) : (A.fill s n).Ok := by
  unfold Ar.fillOk at h
  simp only [Bool.and_eq_true, decide_eq_true_eq] at h
  obtain ⟨h1, h2, h3⟩ := h
  have hz := ok.sizes s
  have hfr : A.free s = A.behind s - A.top s := rfl
  exact (ok.take h1 h2 h3).putI (A.top s) (by unfold wordT; rw [if_pos (by omega)]; omega)
theorem Ar.Ok.step {A : Ar} (ok : A.Ok) {o : St} (hb : o.Bd) : (A.step o).Ok := by
  unfold Ar.step
  have hz := ok.sizes o.s
  split
  · split
    · rename_i h
      obtain ⟨h1, h2, h3⟩ := Ar.takeOk_iff.1 h
      exact ok.take h1 h2 h3
    · exact ok
  split
  · split
    · rename_i h
      unfold Ar.cuts inB at h
      simp only [Bool.and_eq_true, decide_eq_true_eq] at h
      exact ok.setTop h.1 h.2.1 (by omega)
    · exact ok
  split
  · exact ok.swap
  split
  · split
    · rename_i h
      unfold Ar.putOk at h
      simp only [Bool.and_eq_true, decide_eq_true_eq] at h
      exact Ar.Ok.lay ok h.1.2 ((chk_iff _).1 h.1.1) h.2 hb.s.1 hb.s.2
    · exact ok
  split
  · split
    · rename_i h
      exact ok.fill h
    · exact ok
  split
  · unfold Ar.setHead
    split
    · rename_i h
      unfold Ar.setHeadOk at h
      simp only [Bool.and_eq_true, decide_eq_true_eq] at h
      have eb := enc_bd ((chk_iff _).1 h.1.1.2)
      exact (ok.putI _ ⟨eb.1, by omega⟩).putI _ hb.s
    · exact ok
  split
  · unfold Ar.setPtr
    split
    · rename_i h
      unfold Ar.setPtrOk at h
      simp only [Bool.and_eq_true, decide_eq_true_eq] at h
      have := ok.tops.2.2.2.2
      exact ok.putI _ ⟨h.2.1, by omega⟩
    · exact ok
  split
  · unfold Ar.setRaw
    split
    · exact ok.putI _ hb.w
    · exact ok
  · unfold Ar.setw
    split
    · exact ok.putI _ hb.w
    · exact ok
theorem RfAt.only {w w' : World} {S : List Nat} {r : Nat} {c : Int → Nat} {A : Ar} (h : RfAt w r c A) (ho : Only S w w') (hS : ∀ k ∈ rfp r c, k ∉ S) : RfAt w' r c A :=
  ⟨(ho.block _ (lt_of_heap h.st) (hS _ rfp_r)).trans h.st, fun s hs => (ho.block _ (lt_of_heap (h.ws s hs)) (hS _ (mem_rfp hs))).trans (h.ws s hs), h.nb, h.nn, h.z0⟩
theorem ArAt.only {w w' : World} {S : List Nat} {b wb : Nat} {A : Ar} (h : ArAt w b wb A) (ho : Only S w w') (h1 : b ∉ S) (h2 : wb ∉ S) : ArAt w' b wb A :=
  ⟨(ho.block _ (lt_of_heap h.st) h1).trans h.st, (ho.block _ (lt_of_heap h.ws) h2).trans h.ws, h.ne⟩
/-- Between the program's write and the document's. -/
structure MidAt (w : World) (a wb r : Nat) (c : Int → Nat) (A' A : Ar) : Prop where
  hA : ArAt w a wb A'
  hR : RfAt w r c A
theorem MidAt.drew {w : World} {a wb r : Nat} {c : Int → Nat} {A' A : Ar} (h : MidAt w a wb r c A' A) : MidAt w.drew a wb r c A' A := ⟨h.hA.drew, h.hR.drewN 1⟩
/-- The blocks that a step may write. -/
def sfp (a wb r : Nat) (c : Int → Nat) : List Nat := a :: wb :: rfp r c
theorem mid_of {P : Program} {f : FuncId} {args : Array Value} {v : Value} {w1 W : World} {x a wb r : Nat} {c : Int → Nat} {A' A : Ar} (sp : Sep x a wb r c) (hR : RfAt w1 r c A) (hb : Below w1.heap.size w1 W)
    (h : Calls P f args W fun e w' => e = .returned v ∧ ArAt w' a wb A' ∧ Only [a, wb] W w') : Calls P f args W fun e w' => e = .returned v ∧ MidAt w' a wb r c A' A ∧ Only (sfp a wb r c) w1 w' :=
  h.mono fun _ _ ⟨h1, h2, h3⟩ => ⟨h1, ⟨h2, (hR.below hb).only h3 (fun k hk hm => by
    simp only [List.mem_cons, List.not_mem_nil, or_false] at hm
    rcases hm with rfl | rfl
    · exact sp.ra hk
    · exact sp.rw_ hk)⟩, (Only.of_below hb).trans (h3.mono fun k hk => by
    simp only [List.mem_cons, List.not_mem_nil, or_false] at hk
    unfold sfp
    rcases hk with rfl | rfl <;> simp)⟩
theorem both_of {P : Program} {f : FuncId} {args : Array Value} {v : Value} {w1 W : World} {x a wb r : Nat} {c : Int → Nat} {A' A : Ar} {wv av : Value} (sp : Sep x a wb r c) (hx : w1.heap[x]? = some (.cells #[.pointer (some ⟨a, 0, none⟩), .pointer (some ⟨r, 0, none⟩), wv, av] 85 (0, 0)))
    (ok : A'.Ok) (hM : MidAt W a wb r c A' A) (hO : Only (sfp a wb r c) w1 W) (h : Calls P f args W fun e w' => e = .returned v ∧ RfAt w' r c A' ∧ Only (rfp r c) W w') : Calls P f args W fun e w' => e = .returned v ∧ BothAt w' x a wb r c A' wv av ∧ Only (sfp a wb r c) w1 w' :=
  h.mono fun _ _ ⟨h1, h2, h3⟩ => by
    have hO' : Only (sfp a wb r c) w1 _ := hO.trans (h3.mono fun k hk => by unfold sfp; simp [hk])
    refine ⟨h1, ⟨(hO'.block _ (lt_of_heap hx) (fun hm => ?_)).trans hx, hM.hA.only h3 sp.ra sp.rw_, h2, ok⟩, hO'⟩
    unfold sfp at hm
    simp only [List.mem_cons] at hm
    rcases hm with e | e | e
    · exact sp.xa e
    · exact sp.xw e
    · exact sp.xr e
end Go.Proofs.YtomgfdfgildkbaaDoor
/- ArenaPlays: the steps that write, the program's arena and the document's. -/

namespace Go.Proofs.YtomgfdfgildkbaaDoor
open Go.RowKit Go.BigFrame
set_option linter.unusedVariables false

theorem Only.cell {S : List Nat} {w w' : World} (h : Only S w w') {b o : Nat} {v : Value} (hb : b ∉ S) (hc : w.cell? ⟨b, o, none⟩ = some v) : w'.cell? ⟨b, o, none⟩ = some v :=
  (World.cell?_of_block (a := ⟨b, o, none⟩) (h.block b (World.block_lt_of_cell? w ⟨b, o, none⟩ hc) hb)).trans hc

set_option maxRecDepth 100000 in
set_option maxHeartbeats 8000000 in
theorem writes1 (x a wb r : Nat) (c : Int → Nat) (A : Ar) (wv av : Value) (o : St) (w : World) (tb : Tab w) (h : BothAt w x a wb r c A wv av) (sp : Sep x a wb r c) (bd : o.Bd) (hk : o.kind = 1) : Calls Tryd.prog 100 #[.pointer (some ⟨x, 0, none⟩), o.val] w fun e w' => e = .returned (.bool true) ∧ BothAt w' x a wb r c (A.step o) wv av ∧ Only (sfp a wb r c) w w' := by
  have ok' := h.ok.step bd
  obtain ⟨-, -, -, bw, bs⟩ := bd
  obtain ⟨o0, o1, o2, o3, o4, o5, o6, ⟨x0, x1, x2, x3, x4, x5, x6⟩⟩ := o
  simp only at hk bw bs
  subst hk
  have es : A.step ⟨1, o1, o2, o3, o4, o5, o6, ⟨x0, x1, x2, x3, x4, x5, x6⟩⟩ = if A.takeOk o2 o3 then A.take o2 o3 else A := rfl
  rw [es] at ok' ⊢
  clear es
  have C1' := Lib.hid (fun (w1 : World) (b0w : Below w.heap.size w w1) (W : World) (hb : Below w1.heap.size w1 W) => mid_of sp (h.hR.below b0w) hb (by have bz := b0w.trans (hb.mono b0w.size); exact (atake_any a wb A o2 o3 W (h.hA.below bz) h.ok)))
  have C2' := Lib.hid (fun (w1 : World) (b0w : Below w.heap.size w w1) (W : World) (hM : MidAt W a wb r c (if A.takeOk o2 o3 then A.take o2 o3 else A) A) (hO : Only (sfp a wb r c) w1 W) => both_of sp ((b0w.block _ (lt_of_heap h.hx)).trans h.hx) ok' hM hO (rtake_any r c A o2 o3 W hM.hR h.ok))
  have HX := Lib.hid (fun (W : World) (hb : Below w.heap.size w W) => (hcell ((hb.block _ (lt_of_heap h.hx)).trans h.hx)).1)
  have nq' : w.heap.size ∉ sfp a wb r c := fun hm => by
    unfold sfp at hm
    simp only [List.mem_cons] at hm
    rcases hm with e | e | e
    · have := lt_of_heap h.hA.st; omega
    · have := lt_of_heap h.hA.ws; omega
    · have := h.hR.lt _ e; omega
  have nx : x ∉ sfp a wb r c := fun hm => by
    unfold sfp at hm
    simp only [List.mem_cons] at hm
    rcases hm with e | e | e
    · exact sp.xa e
    · exact sp.xw e
    · exact sp.xr e
  clear h tb ok' sp
  unfold St.val St.cells
  simp only
  generalize (if A.takeOk o2 o3 = true then A.take o2 o3 else A) = A' at *
  generalize (if A.takeOk o2 o3 = true then A.top o2 else 0) = v at *
  generalize A.takeOk o2 o3 = u at *
  have hO := heap_one w (.cells #[.int .i64 1, .int .i64 o1, .int .i64 o2, .int .i64 o3, .int .i64 o4, .int .i64 o5, .int .u64 o6, .int .u64 x0, .int .i64 x1, .int .i64 x2, .int .i64 x3, .int .i64 x4, .int .i64 x5, .bool x6] 81)
  have b0w := (Below.refl w.heap.size w).alloc (Nat.le_refl _) (.cells #[.int .i64 1, .int .i64 o1, .int .i64 o2, .int .i64 o3, .int .i64 o4, .int .i64 o5, .int .u64 o6, .int .u64 x0, .int .i64 x1, .int .i64 x2, .int .i64 x3, .int .i64 x4, .int .i64 x5, .bool x6] 81)
  go_enter Tryd.func100, Tryd.ntmps100
  go_upto_region 1 with fail
  generalize w.alloc (.cells #[.int .i64 1, .int .i64 o1, .int .i64 o2, .int .i64 o3, .int .i64 o4, .int .i64 o5, .int .u64 o6, .int .u64 x0, .int .i64 x1, .int .i64 x2, .int .i64 x3, .int .i64 x4, .int .i64 x5, .bool x6] 81) = w1 at *
  have OB := Lib.hid (Only.of_below (S := sfp a wb r c) b0w)
  generalize hqe : w.heap.size = q at *
  have HQ := Lib.hid hqe
  clear hqe
  have nq := nq'
  obtain ⟨cO, fO⟩ := hcell hO
  have cX := HX.out _ b0w
  have cx0 : w1.cell? ⟨x, 0, none⟩ = some (.pointer (some ⟨a, 0, none⟩)) := by rw [cX]; rfl
  have cx1 : w1.cell? ⟨x, 1, none⟩ = some (.pointer (some ⟨r, 0, none⟩)) := by rw [cX]; rfl
  have co2 : w1.cell? ⟨q, 2, none⟩ = some (.int .i64 o2) := by rw [cO]; rfl
  have co3 : w1.cell? ⟨q, 3, none⟩ = some (.int .i64 o3) := by rw [cO]; rfl
  have C1 := Lib.hid (C1'.out w1 b0w)
  have C2 := Lib.hid (C2'.out w1 b0w)
  clear C1' C2'
  have KE := Lib.hid (fun (W : World) (hO : Only (sfp a wb r c) w1 W) => (⟨hO.cell nx cx0, hO.cell nx cx1, hO.cell nq co2, hO.cell nq co3, hO⟩ : W.cell? ⟨x, 0, none⟩ = some (.pointer (some ⟨a, 0, none⟩)) ∧ W.cell? ⟨x, 1, none⟩ = some (.pointer (some ⟨r, 0, none⟩)) ∧ W.cell? ⟨q, 2, none⟩ = some (.int .i64 o2) ∧ W.cell? ⟨q, 3, none⟩ = some (.int .i64 o3) ∧ Only (sfp a wb r c) w1 W))
  clear HX cX b0w nq nq' nx bw bs
  go_upto_region 3 with fail
  go_region_held3 (fun W => W.cell? ⟨x, 0, none⟩ = some (.pointer (some ⟨a, 0, none⟩)) ∧ W.cell? ⟨x, 1, none⟩ = some (.pointer (some ⟨r, 0, none⟩)) ∧ W.cell? ⟨q, 2, none⟩ = some (.int .i64 o2) ∧ W.cell? ⟨q, 3, none⟩ = some (.int .i64 o3) ∧ Only (sfp a wb r c) w1 W) ((refine KE.out _ ?_; repeat (first | (with_reducible assumption) | (with_reducible exact Only.refl _ _) | (with_reducible refine Only.drew ?_)))) (first | (go_at_call 48; refine (C1.out _ ?_).mono ?_; (first | exact (Below.refl _ _).drew | exact (Below.refl _ _)); rintro e w' ⟨rfl, hM9, hO9⟩))
  all_goals
    go_upto_region 4 with fail
    go_region_held3 (fun W => W.cell? ⟨x, 0, none⟩ = some (.pointer (some ⟨a, 0, none⟩)) ∧ W.cell? ⟨x, 1, none⟩ = some (.pointer (some ⟨r, 0, none⟩)) ∧ W.cell? ⟨q, 2, none⟩ = some (.int .i64 o2) ∧ W.cell? ⟨q, 3, none⟩ = some (.int .i64 o3) ∧ Only (sfp a wb r c) w1 W) ((refine KE.out _ ?_; repeat (first | (with_reducible assumption) | (with_reducible exact Only.refl _ _) | (with_reducible refine Only.drew ?_)))) (first | (go_at_call 143; refine (C2.out _ ?_ ?_).mono ?_; (repeat (first | exact hM9 | refine MidAt.drew ?_)); (repeat (first | exact hO9 | refine Only.drew ?_)); rintro e w'' ⟨rfl, hB9, hO8⟩))
    all_goals
      go_wp2_with fail
      go_ret
      exact ⟨rfl, hB9, OB.out.trans hO8⟩
set_option maxRecDepth 100000 in
set_option maxHeartbeats 8000000 in
theorem writes2 (x a wb r : Nat) (c : Int → Nat) (A : Ar) (wv av : Value) (o : St) (w : World) (tb : Tab w) (h : BothAt w x a wb r c A wv av) (sp : Sep x a wb r c) (bd : o.Bd) (hk : o.kind = 2) : Calls Tryd.prog 100 #[.pointer (some ⟨x, 0, none⟩), o.val] w fun e w' => e = .returned (.bool true) ∧ BothAt w' x a wb r c (A.step o) wv av ∧ Only (sfp a wb r c) w w' := by
  have ok' := h.ok.step bd
  obtain ⟨-, -, -, bw, bs⟩ := bd
  obtain ⟨o0, o1, o2, o3, o4, o5, o6, ⟨x0, x1, x2, x3, x4, x5, x6⟩⟩ := o
  simp only at hk bw bs
  subst hk
  have es : A.step ⟨2, o1, o2, o3, o4, o5, o6, ⟨x0, x1, x2, x3, x4, x5, x6⟩⟩ = if A.cuts o2 o3 = true then A.setTop o2 o3 else A := rfl
  rw [es] at ok' ⊢
  clear es
  have C1' := Lib.hid (fun (w1 : World) (b0w : Below w.heap.size w w1) (W : World) (hb : Below w1.heap.size w1 W) => mid_of sp (h.hR.below b0w) hb (by have bz := b0w.trans (hb.mono b0w.size); exact (cut_any a wb A o2 o3 W (h.hA.below bz))))
  have C2' := Lib.hid (fun (w1 : World) (b0w : Below w.heap.size w w1) (W : World) (hM : MidAt W a wb r c (if A.cuts o2 o3 = true then A.setTop o2 o3 else A) A) (hO : Only (sfp a wb r c) w1 W) => both_of sp ((b0w.block _ (lt_of_heap h.hx)).trans h.hx) ok' hM hO (rcut_any r c A o2 o3 W hM.hR h.ok))
  have HX := Lib.hid (fun (W : World) (hb : Below w.heap.size w W) => (hcell ((hb.block _ (lt_of_heap h.hx)).trans h.hx)).1)
  have nq' : w.heap.size ∉ sfp a wb r c := fun hm => by
    unfold sfp at hm
    simp only [List.mem_cons] at hm
    rcases hm with e | e | e
    · have := lt_of_heap h.hA.st; omega
    · have := lt_of_heap h.hA.ws; omega
    · have := h.hR.lt _ e; omega
  have nx : x ∉ sfp a wb r c := fun hm => by
    unfold sfp at hm
    simp only [List.mem_cons] at hm
    rcases hm with e | e | e
    · exact sp.xa e
    · exact sp.xw e
    · exact sp.xr e
  clear h tb ok' sp
  unfold St.val St.cells
  simp only
  generalize (if A.cuts o2 o3 = true then A.setTop o2 o3 else A) = A' at *
  generalize A.cuts o2 o3 = u at *
  have hO := heap_one w (.cells #[.int .i64 2, .int .i64 o1, .int .i64 o2, .int .i64 o3, .int .i64 o4, .int .i64 o5, .int .u64 o6, .int .u64 x0, .int .i64 x1, .int .i64 x2, .int .i64 x3, .int .i64 x4, .int .i64 x5, .bool x6] 81)
  have b0w := (Below.refl w.heap.size w).alloc (Nat.le_refl _) (.cells #[.int .i64 2, .int .i64 o1, .int .i64 o2, .int .i64 o3, .int .i64 o4, .int .i64 o5, .int .u64 o6, .int .u64 x0, .int .i64 x1, .int .i64 x2, .int .i64 x3, .int .i64 x4, .int .i64 x5, .bool x6] 81)
  go_enter Tryd.func100, Tryd.ntmps100
  go_upto_region 1 with fail
  generalize w.alloc (.cells #[.int .i64 2, .int .i64 o1, .int .i64 o2, .int .i64 o3, .int .i64 o4, .int .i64 o5, .int .u64 o6, .int .u64 x0, .int .i64 x1, .int .i64 x2, .int .i64 x3, .int .i64 x4, .int .i64 x5, .bool x6] 81) = w1 at *
  have OB := Lib.hid (Only.of_below (S := sfp a wb r c) b0w)
  generalize hqe : w.heap.size = q at *
  have HQ := Lib.hid hqe
  clear hqe
  have nq := nq'
  obtain ⟨cO, fO⟩ := hcell hO
  have cX := HX.out _ b0w
  have cx0 : w1.cell? ⟨x, 0, none⟩ = some (.pointer (some ⟨a, 0, none⟩)) := by rw [cX]; rfl
  have cx1 : w1.cell? ⟨x, 1, none⟩ = some (.pointer (some ⟨r, 0, none⟩)) := by rw [cX]; rfl
  have co2 : w1.cell? ⟨q, 2, none⟩ = some (.int .i64 o2) := by rw [cO]; rfl
  have co3 : w1.cell? ⟨q, 3, none⟩ = some (.int .i64 o3) := by rw [cO]; rfl
  have C1 := Lib.hid (C1'.out w1 b0w)
  have C2 := Lib.hid (C2'.out w1 b0w)
  clear C1' C2'
  have KE := Lib.hid (fun (W : World) (hO : Only (sfp a wb r c) w1 W) => (⟨hO.cell nx cx0, hO.cell nx cx1, hO.cell nq co2, hO.cell nq co3, hO⟩ : W.cell? ⟨x, 0, none⟩ = some (.pointer (some ⟨a, 0, none⟩)) ∧ W.cell? ⟨x, 1, none⟩ = some (.pointer (some ⟨r, 0, none⟩)) ∧ W.cell? ⟨q, 2, none⟩ = some (.int .i64 o2) ∧ W.cell? ⟨q, 3, none⟩ = some (.int .i64 o3) ∧ Only (sfp a wb r c) w1 W))
  clear HX cX b0w nq nq' nx bw bs
  go_upto_region 7 with fail
  go_region_held3 (fun W => W.cell? ⟨x, 0, none⟩ = some (.pointer (some ⟨a, 0, none⟩)) ∧ W.cell? ⟨x, 1, none⟩ = some (.pointer (some ⟨r, 0, none⟩)) ∧ W.cell? ⟨q, 2, none⟩ = some (.int .i64 o2) ∧ W.cell? ⟨q, 3, none⟩ = some (.int .i64 o3) ∧ Only (sfp a wb r c) w1 W) ((refine KE.out _ ?_; repeat (first | (with_reducible assumption) | (with_reducible exact Only.refl _ _) | (with_reducible refine Only.drew ?_)))) (first | (go_at_call 51; refine (C1.out _ ?_).mono ?_; (first | exact (Below.refl _ _).drew | exact (Below.refl _ _)); rintro e w' ⟨rfl, hM9, hO9⟩))
  all_goals
    go_upto_region 8 with fail
    go_region_held3 (fun W => W.cell? ⟨x, 0, none⟩ = some (.pointer (some ⟨a, 0, none⟩)) ∧ W.cell? ⟨x, 1, none⟩ = some (.pointer (some ⟨r, 0, none⟩)) ∧ W.cell? ⟨q, 2, none⟩ = some (.int .i64 o2) ∧ W.cell? ⟨q, 3, none⟩ = some (.int .i64 o3) ∧ Only (sfp a wb r c) w1 W) ((refine KE.out _ ?_; repeat (first | (with_reducible assumption) | (with_reducible exact Only.refl _ _) | (with_reducible refine Only.drew ?_)))) (first | (go_at_call 130; refine (C2.out _ ?_ ?_).mono ?_; (repeat (first | exact hM9 | refine MidAt.drew ?_)); (repeat (first | exact hO9 | refine Only.drew ?_)); rintro e w'' ⟨rfl, hB9, hO8⟩))
    all_goals
      go_wp2_with fail
      go_ret
      exact ⟨rfl, hB9, OB.out.trans hO8⟩
set_option maxRecDepth 100000 in
set_option maxHeartbeats 8000000 in
theorem writes3 (x a wb r : Nat) (c : Int → Nat) (A : Ar) (wv av : Value) (o : St) (w : World) (tb : Tab w) (h : BothAt w x a wb r c A wv av) (sp : Sep x a wb r c) (bd : o.Bd) (hk : o.kind = 3) : Calls Tryd.prog 100 #[.pointer (some ⟨x, 0, none⟩), o.val] w fun e w' => e = .returned (.bool true) ∧ BothAt w' x a wb r c (A.step o) wv av ∧ Only (sfp a wb r c) w w' := by
  have ok' := h.ok.step bd
  obtain ⟨-, -, -, bw, bs⟩ := bd
  obtain ⟨o0, o1, o2, o3, o4, o5, o6, ⟨x0, x1, x2, x3, x4, x5, x6⟩⟩ := o
  simp only at hk bw bs
  subst hk
  have es : A.step ⟨3, o1, o2, o3, o4, o5, o6, ⟨x0, x1, x2, x3, x4, x5, x6⟩⟩ = { A with frm := A.to } := rfl
  rw [es] at ok' ⊢
  clear es
  have C1' := Lib.hid (fun (w1 : World) (b0w : Below w.heap.size w w1) (W : World) (hb : Below w1.heap.size w1 W) => mid_of sp (h.hR.below b0w) hb (by have bz := b0w.trans (hb.mono b0w.size); exact (swap_any a wb A W (h.hA.below bz) h.ok)))
  have C2' := Lib.hid (fun (w1 : World) (b0w : Below w.heap.size w w1) (W : World) (hM : MidAt W a wb r c ({ A with frm := A.to }) A) (hO : Only (sfp a wb r c) w1 W) => both_of sp ((b0w.block _ (lt_of_heap h.hx)).trans h.hx) ok' hM hO (rswap_any r c A W hM.hR h.ok))
  have HX := Lib.hid (fun (W : World) (hb : Below w.heap.size w W) => (hcell ((hb.block _ (lt_of_heap h.hx)).trans h.hx)).1)
  have nq' : w.heap.size ∉ sfp a wb r c := fun hm => by
    unfold sfp at hm
    simp only [List.mem_cons] at hm
    rcases hm with e | e | e
    · have := lt_of_heap h.hA.st; omega
    · have := lt_of_heap h.hA.ws; omega
    · have := h.hR.lt _ e; omega
  have nx : x ∉ sfp a wb r c := fun hm => by
    unfold sfp at hm
    simp only [List.mem_cons] at hm
    rcases hm with e | e | e
    · exact sp.xa e
    · exact sp.xw e
    · exact sp.xr e
  clear h tb ok' sp
  unfold St.val St.cells
  simp only
  generalize ({ A with frm := A.to } : Ar) = A' at *
  have hO := heap_one w (.cells #[.int .i64 3, .int .i64 o1, .int .i64 o2, .int .i64 o3, .int .i64 o4, .int .i64 o5, .int .u64 o6, .int .u64 x0, .int .i64 x1, .int .i64 x2, .int .i64 x3, .int .i64 x4, .int .i64 x5, .bool x6] 81)
  have b0w := (Below.refl w.heap.size w).alloc (Nat.le_refl _) (.cells #[.int .i64 3, .int .i64 o1, .int .i64 o2, .int .i64 o3, .int .i64 o4, .int .i64 o5, .int .u64 o6, .int .u64 x0, .int .i64 x1, .int .i64 x2, .int .i64 x3, .int .i64 x4, .int .i64 x5, .bool x6] 81)
  go_enter Tryd.func100, Tryd.ntmps100
  go_upto_region 1 with fail
  generalize w.alloc (.cells #[.int .i64 3, .int .i64 o1, .int .i64 o2, .int .i64 o3, .int .i64 o4, .int .i64 o5, .int .u64 o6, .int .u64 x0, .int .i64 x1, .int .i64 x2, .int .i64 x3, .int .i64 x4, .int .i64 x5, .bool x6] 81) = w1 at *
  have OB := Lib.hid (Only.of_below (S := sfp a wb r c) b0w)
  generalize hqe : w.heap.size = q at *
  have HQ := Lib.hid hqe
  clear hqe
  have nq := nq'
  obtain ⟨cO, fO⟩ := hcell hO
  have cX := HX.out _ b0w
  have cx0 : w1.cell? ⟨x, 0, none⟩ = some (.pointer (some ⟨a, 0, none⟩)) := by rw [cX]; rfl
  have cx1 : w1.cell? ⟨x, 1, none⟩ = some (.pointer (some ⟨r, 0, none⟩)) := by rw [cX]; rfl
  have C1 := Lib.hid (C1'.out w1 b0w)
  have C2 := Lib.hid (C2'.out w1 b0w)
  clear C1' C2'
  have KE := Lib.hid (fun (W : World) (hO : Only (sfp a wb r c) w1 W) => (⟨hO.cell nx cx0, hO.cell nx cx1, hO⟩ : W.cell? ⟨x, 0, none⟩ = some (.pointer (some ⟨a, 0, none⟩)) ∧ W.cell? ⟨x, 1, none⟩ = some (.pointer (some ⟨r, 0, none⟩)) ∧ Only (sfp a wb r c) w1 W))
  clear HX cX b0w nq nq' nx bw bs
  go_wp2_with fail
  refine (C1.out _ (Below.refl _ _)).mono ?_
  rintro e w' ⟨rfl, hM9, hO9⟩
  obtain ⟨cx0', cx1', -⟩ := KE.out _ hO9
  go_wp2_with fail
  refine (C2.out _ hM9 hO9).mono ?_
  rintro e w'' ⟨rfl, hB9, hO8⟩
  all_goals
   all_goals
      go_wp2_with fail
      go_ret
      exact ⟨rfl, hB9, OB.out.trans hO8⟩
set_option maxRecDepth 100000 in
set_option maxHeartbeats 8000000 in
theorem writes4 (x a wb r : Nat) (c : Int → Nat) (A : Ar) (wv av : Value) (o : St) (w : World) (tb : Tab w) (h : BothAt w x a wb r c A wv av) (sp : Sep x a wb r c) (bd : o.Bd) (hk : o.kind = 4) : Calls Tryd.prog 100 #[.pointer (some ⟨x, 0, none⟩), o.val] w fun e w' => e = .returned (.bool true) ∧ BothAt w' x a wb r c (A.step o) wv av ∧ Only (sfp a wb r c) w w' := by
  have ok' := h.ok.step bd
  obtain ⟨-, -, -, bw, bs⟩ := bd
  obtain ⟨o0, o1, o2, o3, o4, o5, o6, ⟨x0, x1, x2, x3, x4, x5, x6⟩⟩ := o
  simp only at hk bw bs
  subst hk
  have es : A.step ⟨4, o1, o2, o3, o4, o5, o6, ⟨x0, x1, x2, x3, x4, x5, x6⟩⟩ = if A.putOk o2 ⟨x0, x1, x2, x3, x4, x5, x6⟩ then A.lay o2 ⟨x0, x1, x2, x3, x4, x5, x6⟩ else A := rfl
  rw [es] at ok' ⊢
  clear es
  have C1' := Lib.hid (fun (w1 : World) (b0w : Below w.heap.size w w1) (W : World) (hb : Below w1.heap.size w1 W) => mid_of sp (h.hR.below b0w) hb (by have bz := b0w.trans (hb.mono b0w.size); exact (put_any a wb A o2 ⟨x0, x1, x2, x3, x4, x5, x6⟩ W (tb.below bz) (h.hA.below bz) h.ok)))
  have C2' := Lib.hid (fun (w1 : World) (b0w : Below w.heap.size w w1) (W : World) (hM : MidAt W a wb r c (if A.putOk o2 ⟨x0, x1, x2, x3, x4, x5, x6⟩ then A.lay o2 ⟨x0, x1, x2, x3, x4, x5, x6⟩ else A) A) (hO : Only (sfp a wb r c) w1 W) => both_of sp ((b0w.block _ (lt_of_heap h.hx)).trans h.hx) ok' hM hO (rput_any r c A o2 ⟨x0, x1, x2, x3, x4, x5, x6⟩ W hM.hR h.ok bs))
  have HX := Lib.hid (fun (W : World) (hb : Below w.heap.size w W) => (hcell ((hb.block _ (lt_of_heap h.hx)).trans h.hx)).1)
  have nq' : w.heap.size ∉ sfp a wb r c := fun hm => by
    unfold sfp at hm
    simp only [List.mem_cons] at hm
    rcases hm with e | e | e
    · have := lt_of_heap h.hA.st; omega
    · have := lt_of_heap h.hA.ws; omega
    · have := h.hR.lt _ e; omega
  have nx : x ∉ sfp a wb r c := fun hm => by
    unfold sfp at hm
    simp only [List.mem_cons] at hm
    rcases hm with e | e | e
    · exact sp.xa e
    · exact sp.xw e
    · exact sp.xr e
  clear h tb ok' sp
  unfold St.val St.cells
  simp only
  unfold Hd.val at C1' C2'
  simp only at C1' C2'
  generalize (if A.putOk o2 ⟨x0, x1, x2, x3, x4, x5, x6⟩ = true then A.lay o2 ⟨x0, x1, x2, x3, x4, x5, x6⟩ else A) = A' at *
  generalize (if A.putOk o2 ⟨x0, x1, x2, x3, x4, x5, x6⟩ = true then A.top o2 else 0) = v at *
  generalize A.putOk o2 ⟨x0, x1, x2, x3, x4, x5, x6⟩ = u at *
  have hO := heap_one w (.cells #[.int .i64 4, .int .i64 o1, .int .i64 o2, .int .i64 o3, .int .i64 o4, .int .i64 o5, .int .u64 o6, .int .u64 x0, .int .i64 x1, .int .i64 x2, .int .i64 x3, .int .i64 x4, .int .i64 x5, .bool x6] 81)
  have b0w := (Below.refl w.heap.size w).alloc (Nat.le_refl _) (.cells #[.int .i64 4, .int .i64 o1, .int .i64 o2, .int .i64 o3, .int .i64 o4, .int .i64 o5, .int .u64 o6, .int .u64 x0, .int .i64 x1, .int .i64 x2, .int .i64 x3, .int .i64 x4, .int .i64 x5, .bool x6] 81)
  go_enter Tryd.func100, Tryd.ntmps100
  go_upto_region 1 with fail
  generalize w.alloc (.cells #[.int .i64 4, .int .i64 o1, .int .i64 o2, .int .i64 o3, .int .i64 o4, .int .i64 o5, .int .u64 o6, .int .u64 x0, .int .i64 x1, .int .i64 x2, .int .i64 x3, .int .i64 x4, .int .i64 x5, .bool x6] 81) = w1 at *
  have OB := Lib.hid (Only.of_below (S := sfp a wb r c) b0w)
  generalize hqe : w.heap.size = q at *
  have HQ := Lib.hid hqe
  clear hqe
  have nq := nq'
  obtain ⟨cO, fO⟩ := hcell hO
  have cX := HX.out _ b0w
  have cx0 : w1.cell? ⟨x, 0, none⟩ = some (.pointer (some ⟨a, 0, none⟩)) := by rw [cX]; rfl
  have cx1 : w1.cell? ⟨x, 1, none⟩ = some (.pointer (some ⟨r, 0, none⟩)) := by rw [cX]; rfl
  have co2 : w1.cell? ⟨q, 2, none⟩ = some (.int .i64 o2) := by rw [cO]; rfl
  have ch0 : w1.cell? ⟨q, 7, none⟩ = some (.int .u64 x0) := by rw [cO]; rfl
  have ch1 : w1.cell? ⟨q, 8, none⟩ = some (.int .i64 x1) := by rw [cO]; rfl
  have ch2 : w1.cell? ⟨q, 9, none⟩ = some (.int .i64 x2) := by rw [cO]; rfl
  have ch3 : w1.cell? ⟨q, 10, none⟩ = some (.int .i64 x3) := by rw [cO]; rfl
  have ch4 : w1.cell? ⟨q, 11, none⟩ = some (.int .i64 x4) := by rw [cO]; rfl
  have ch5 : w1.cell? ⟨q, 12, none⟩ = some (.int .i64 x5) := by rw [cO]; rfl
  have ch6 : w1.cell? ⟨q, 13, none⟩ = some (.bool x6) := by rw [cO]; rfl
  have C1 := Lib.hid (C1'.out w1 b0w)
  have C2 := Lib.hid (C2'.out w1 b0w)
  clear C1' C2'
  have KE := Lib.hid (fun (W : World) (hO : Only (sfp a wb r c) w1 W) => (⟨hO.cell nx cx0, hO.cell nx cx1, hO.cell nq co2, hO.cell nq ch0, hO.cell nq ch1, hO.cell nq ch2, hO.cell nq ch3, hO.cell nq ch4, hO.cell nq ch5, hO.cell nq ch6, hO⟩ : W.cell? ⟨x, 0, none⟩ = some (.pointer (some ⟨a, 0, none⟩)) ∧ W.cell? ⟨x, 1, none⟩ = some (.pointer (some ⟨r, 0, none⟩)) ∧ W.cell? ⟨q, 2, none⟩ = some (.int .i64 o2) ∧ W.cell? ⟨q, 7, none⟩ = some (.int .u64 x0) ∧ W.cell? ⟨q, 8, none⟩ = some (.int .i64 x1) ∧ W.cell? ⟨q, 9, none⟩ = some (.int .i64 x2) ∧ W.cell? ⟨q, 10, none⟩ = some (.int .i64 x3) ∧ W.cell? ⟨q, 11, none⟩ = some (.int .i64 x4) ∧ W.cell? ⟨q, 12, none⟩ = some (.int .i64 x5) ∧ W.cell? ⟨q, 13, none⟩ = some (.bool x6) ∧ Only (sfp a wb r c) w1 W))
  clear HX cX b0w nq nq' nx bw bs
  go_upto_region 14 with fail
  go_region_held3 (fun W => W.cell? ⟨x, 0, none⟩ = some (.pointer (some ⟨a, 0, none⟩)) ∧ W.cell? ⟨x, 1, none⟩ = some (.pointer (some ⟨r, 0, none⟩)) ∧ W.cell? ⟨q, 2, none⟩ = some (.int .i64 o2) ∧ W.cell? ⟨q, 7, none⟩ = some (.int .u64 x0) ∧ W.cell? ⟨q, 8, none⟩ = some (.int .i64 x1) ∧ W.cell? ⟨q, 9, none⟩ = some (.int .i64 x2) ∧ W.cell? ⟨q, 10, none⟩ = some (.int .i64 x3) ∧ W.cell? ⟨q, 11, none⟩ = some (.int .i64 x4) ∧ W.cell? ⟨q, 12, none⟩ = some (.int .i64 x5) ∧ W.cell? ⟨q, 13, none⟩ = some (.bool x6) ∧ Only (sfp a wb r c) w1 W) ((refine KE.out _ ?_; repeat (first | (with_reducible assumption) | (with_reducible exact Only.refl _ _) | (with_reducible refine Only.drew ?_)))) (first | (go_at_call 85; refine (C1.out _ ?_).mono ?_; (first | exact (Below.refl _ _).drew | exact (Below.refl _ _)); rintro e w' ⟨rfl, hM9, hO9⟩))
  all_goals
    go_upto_region 15 with fail
    go_region_held3 (fun W => W.cell? ⟨x, 0, none⟩ = some (.pointer (some ⟨a, 0, none⟩)) ∧ W.cell? ⟨x, 1, none⟩ = some (.pointer (some ⟨r, 0, none⟩)) ∧ W.cell? ⟨q, 2, none⟩ = some (.int .i64 o2) ∧ W.cell? ⟨q, 7, none⟩ = some (.int .u64 x0) ∧ W.cell? ⟨q, 8, none⟩ = some (.int .i64 x1) ∧ W.cell? ⟨q, 9, none⟩ = some (.int .i64 x2) ∧ W.cell? ⟨q, 10, none⟩ = some (.int .i64 x3) ∧ W.cell? ⟨q, 11, none⟩ = some (.int .i64 x4) ∧ W.cell? ⟨q, 12, none⟩ = some (.int .i64 x5) ∧ W.cell? ⟨q, 13, none⟩ = some (.bool x6) ∧ Only (sfp a wb r c) w1 W) ((refine KE.out _ ?_; repeat (first | (with_reducible assumption) | (with_reducible exact Only.refl _ _) | (with_reducible refine Only.drew ?_)))) (first | (go_at_call 125; refine (C2.out _ ?_ ?_).mono ?_; (repeat (first | exact hM9 | refine MidAt.drew ?_)); (repeat (first | exact hO9 | refine Only.drew ?_)); rintro e w'' ⟨rfl, hB9, hO8⟩))
    all_goals
      go_wp2_with fail
      go_ret
      exact ⟨rfl, hB9, OB.out.trans hO8⟩
set_option maxRecDepth 100000 in
set_option maxHeartbeats 8000000 in
theorem writes5 (x a wb r : Nat) (c : Int → Nat) (A : Ar) (wv av : Value) (o : St) (w : World) (tb : Tab w) (h : BothAt w x a wb r c A wv av) (sp : Sep x a wb r c) (bd : o.Bd) (hk : o.kind = 5) : Calls Tryd.prog 100 #[.pointer (some ⟨x, 0, none⟩), o.val] w fun e w' => e = .returned (.bool true) ∧ BothAt w' x a wb r c (A.step o) wv av ∧ Only (sfp a wb r c) w w' := by
  have ok' := h.ok.step bd
  obtain ⟨-, -, -, bw, bs⟩ := bd
  obtain ⟨o0, o1, o2, o3, o4, o5, o6, ⟨x0, x1, x2, x3, x4, x5, x6⟩⟩ := o
  simp only at hk bw bs
  subst hk
  have es : A.step ⟨5, o1, o2, o3, o4, o5, o6, ⟨x0, x1, x2, x3, x4, x5, x6⟩⟩ = if A.fillOk o2 o3 then A.fill o2 o3 else A := rfl
  rw [es] at ok' ⊢
  clear es
  have C1' := Lib.hid (fun (w1 : World) (b0w : Below w.heap.size w w1) (W : World) (hb : Below w1.heap.size w1 W) => mid_of sp (h.hR.below b0w) hb (by have bz := b0w.trans (hb.mono b0w.size); exact (fill_any a wb A o2 o3 W (h.hA.below bz) h.ok)))
  have C2' := Lib.hid (fun (w1 : World) (b0w : Below w.heap.size w w1) (W : World) (hM : MidAt W a wb r c (if A.fillOk o2 o3 then A.fill o2 o3 else A) A) (hO : Only (sfp a wb r c) w1 W) => both_of sp ((b0w.block _ (lt_of_heap h.hx)).trans h.hx) ok' hM hO (rfill_any r c A o2 o3 W hM.hR h.ok))
  have HX := Lib.hid (fun (W : World) (hb : Below w.heap.size w W) => (hcell ((hb.block _ (lt_of_heap h.hx)).trans h.hx)).1)
  have nq' : w.heap.size ∉ sfp a wb r c := fun hm => by
    unfold sfp at hm
    simp only [List.mem_cons] at hm
    rcases hm with e | e | e
    · have := lt_of_heap h.hA.st; omega
    · have := lt_of_heap h.hA.ws; omega
    · have := h.hR.lt _ e; omega
  have nx : x ∉ sfp a wb r c := fun hm => by
    unfold sfp at hm
    simp only [List.mem_cons] at hm
    rcases hm with e | e | e
    · exact sp.xa e
    · exact sp.xw e
    · exact sp.xr e
  clear h tb ok' sp
  unfold St.val St.cells
  simp only
  generalize (if A.fillOk o2 o3 = true then A.fill o2 o3 else A) = A' at *
  generalize A.fillOk o2 o3 = u at *
  have hO := heap_one w (.cells #[.int .i64 5, .int .i64 o1, .int .i64 o2, .int .i64 o3, .int .i64 o4, .int .i64 o5, .int .u64 o6, .int .u64 x0, .int .i64 x1, .int .i64 x2, .int .i64 x3, .int .i64 x4, .int .i64 x5, .bool x6] 81)
  have b0w := (Below.refl w.heap.size w).alloc (Nat.le_refl _) (.cells #[.int .i64 5, .int .i64 o1, .int .i64 o2, .int .i64 o3, .int .i64 o4, .int .i64 o5, .int .u64 o6, .int .u64 x0, .int .i64 x1, .int .i64 x2, .int .i64 x3, .int .i64 x4, .int .i64 x5, .bool x6] 81)
  go_enter Tryd.func100, Tryd.ntmps100
  go_upto_region 1 with fail
  generalize w.alloc (.cells #[.int .i64 5, .int .i64 o1, .int .i64 o2, .int .i64 o3, .int .i64 o4, .int .i64 o5, .int .u64 o6, .int .u64 x0, .int .i64 x1, .int .i64 x2, .int .i64 x3, .int .i64 x4, .int .i64 x5, .bool x6] 81) = w1 at *
  have OB := Lib.hid (Only.of_below (S := sfp a wb r c) b0w)
  generalize hqe : w.heap.size = q at *
  have HQ := Lib.hid hqe
  clear hqe
  have nq := nq'
  obtain ⟨cO, fO⟩ := hcell hO
  have cX := HX.out _ b0w
  have cx0 : w1.cell? ⟨x, 0, none⟩ = some (.pointer (some ⟨a, 0, none⟩)) := by rw [cX]; rfl
  have cx1 : w1.cell? ⟨x, 1, none⟩ = some (.pointer (some ⟨r, 0, none⟩)) := by rw [cX]; rfl
  have co2 : w1.cell? ⟨q, 2, none⟩ = some (.int .i64 o2) := by rw [cO]; rfl
  have co3 : w1.cell? ⟨q, 3, none⟩ = some (.int .i64 o3) := by rw [cO]; rfl
  have C1 := Lib.hid (C1'.out w1 b0w)
  have C2 := Lib.hid (C2'.out w1 b0w)
  clear C1' C2'
  have KE := Lib.hid (fun (W : World) (hO : Only (sfp a wb r c) w1 W) => (⟨hO.cell nx cx0, hO.cell nx cx1, hO.cell nq co2, hO.cell nq co3, hO⟩ : W.cell? ⟨x, 0, none⟩ = some (.pointer (some ⟨a, 0, none⟩)) ∧ W.cell? ⟨x, 1, none⟩ = some (.pointer (some ⟨r, 0, none⟩)) ∧ W.cell? ⟨q, 2, none⟩ = some (.int .i64 o2) ∧ W.cell? ⟨q, 3, none⟩ = some (.int .i64 o3) ∧ Only (sfp a wb r c) w1 W))
  clear HX cX b0w nq nq' nx bw bs
  go_upto_region 18 with fail
  go_region_held3 (fun W => W.cell? ⟨x, 0, none⟩ = some (.pointer (some ⟨a, 0, none⟩)) ∧ W.cell? ⟨x, 1, none⟩ = some (.pointer (some ⟨r, 0, none⟩)) ∧ W.cell? ⟨q, 2, none⟩ = some (.int .i64 o2) ∧ W.cell? ⟨q, 3, none⟩ = some (.int .i64 o3) ∧ Only (sfp a wb r c) w1 W) ((refine KE.out _ ?_; repeat (first | (with_reducible assumption) | (with_reducible exact Only.refl _ _) | (with_reducible refine Only.drew ?_)))) (first | (go_at_call 53; refine (C1.out _ ?_).mono ?_; (first | exact (Below.refl _ _).drew | exact (Below.refl _ _)); rintro e w' ⟨rfl, hM9, hO9⟩))
  all_goals
    go_upto_region 19 with fail
    go_region_held3 (fun W => W.cell? ⟨x, 0, none⟩ = some (.pointer (some ⟨a, 0, none⟩)) ∧ W.cell? ⟨x, 1, none⟩ = some (.pointer (some ⟨r, 0, none⟩)) ∧ W.cell? ⟨q, 2, none⟩ = some (.int .i64 o2) ∧ W.cell? ⟨q, 3, none⟩ = some (.int .i64 o3) ∧ Only (sfp a wb r c) w1 W) ((refine KE.out _ ?_; repeat (first | (with_reducible assumption) | (with_reducible exact Only.refl _ _) | (with_reducible refine Only.drew ?_)))) (first | (go_at_call 145; refine (C2.out _ ?_ ?_).mono ?_; (repeat (first | exact hM9 | refine MidAt.drew ?_)); (repeat (first | exact hO9 | refine Only.drew ?_)); rintro e w'' ⟨rfl, hB9, hO8⟩))
    all_goals
      go_wp2_with fail
      go_ret
      exact ⟨rfl, hB9, OB.out.trans hO8⟩
set_option maxRecDepth 100000 in
set_option maxHeartbeats 8000000 in
theorem writes6 (x a wb r : Nat) (c : Int → Nat) (A : Ar) (wv av : Value) (o : St) (w : World) (tb : Tab w) (h : BothAt w x a wb r c A wv av) (sp : Sep x a wb r c) (bd : o.Bd) (hk : o.kind = 6) : Calls Tryd.prog 100 #[.pointer (some ⟨x, 0, none⟩), o.val] w fun e w' => e = .returned (.bool true) ∧ BothAt w' x a wb r c (A.step o) wv av ∧ Only (sfp a wb r c) w w' := by
  have ok' := h.ok.step bd
  obtain ⟨-, -, -, bw, bs⟩ := bd
  obtain ⟨o0, o1, o2, o3, o4, o5, o6, ⟨x0, x1, x2, x3, x4, x5, x6⟩⟩ := o
  simp only at hk bw bs
  subst hk
  have es : A.step ⟨6, o1, o2, o3, o4, o5, o6, ⟨x0, x1, x2, x3, x4, x5, x6⟩⟩ = A.setHead o3 ⟨x0, x1, x2, x3, x4, x5, x6⟩ := rfl
  rw [es] at ok' ⊢
  clear es
  have C1' := Lib.hid (fun (w1 : World) (b0w : Below w.heap.size w w1) (W : World) (hb : Below w1.heap.size w1 W) => mid_of sp (h.hR.below b0w) hb (by have bz := b0w.trans (hb.mono b0w.size); exact (setHead_any a wb A o3 ⟨x0, x1, x2, x3, x4, x5, x6⟩ W (tb.below bz) (h.hA.below bz) h.ok)))
  have C2' := Lib.hid (fun (w1 : World) (b0w : Below w.heap.size w w1) (W : World) (hM : MidAt W a wb r c (A.setHead o3 ⟨x0, x1, x2, x3, x4, x5, x6⟩) A) (hO : Only (sfp a wb r c) w1 W) => both_of sp ((b0w.block _ (lt_of_heap h.hx)).trans h.hx) ok' hM hO (rsetHead_any r c A o3 ⟨x0, x1, x2, x3, x4, x5, x6⟩ W hM.hR h.ok bs))
  have HX := Lib.hid (fun (W : World) (hb : Below w.heap.size w W) => (hcell ((hb.block _ (lt_of_heap h.hx)).trans h.hx)).1)
  have nq' : w.heap.size ∉ sfp a wb r c := fun hm => by
    unfold sfp at hm
    simp only [List.mem_cons] at hm
    rcases hm with e | e | e
    · have := lt_of_heap h.hA.st; omega
    · have := lt_of_heap h.hA.ws; omega
    · have := h.hR.lt _ e; omega
  have nx : x ∉ sfp a wb r c := fun hm => by
    unfold sfp at hm
    simp only [List.mem_cons] at hm
    rcases hm with e | e | e
    · exact sp.xa e
    · exact sp.xw e
    · exact sp.xr e
  clear h tb ok' sp
  unfold St.val St.cells
  simp only
  unfold Hd.val at C1' C2'
  simp only at C1' C2'
  generalize A.setHead o3 ⟨x0, x1, x2, x3, x4, x5, x6⟩ = A' at *
  generalize A.setHeadOk o3 ⟨x0, x1, x2, x3, x4, x5, x6⟩ = u at *
  have hO := heap_one w (.cells #[.int .i64 6, .int .i64 o1, .int .i64 o2, .int .i64 o3, .int .i64 o4, .int .i64 o5, .int .u64 o6, .int .u64 x0, .int .i64 x1, .int .i64 x2, .int .i64 x3, .int .i64 x4, .int .i64 x5, .bool x6] 81)
  have b0w := (Below.refl w.heap.size w).alloc (Nat.le_refl _) (.cells #[.int .i64 6, .int .i64 o1, .int .i64 o2, .int .i64 o3, .int .i64 o4, .int .i64 o5, .int .u64 o6, .int .u64 x0, .int .i64 x1, .int .i64 x2, .int .i64 x3, .int .i64 x4, .int .i64 x5, .bool x6] 81)
  go_enter Tryd.func100, Tryd.ntmps100
  go_upto_region 1 with fail
  generalize w.alloc (.cells #[.int .i64 6, .int .i64 o1, .int .i64 o2, .int .i64 o3, .int .i64 o4, .int .i64 o5, .int .u64 o6, .int .u64 x0, .int .i64 x1, .int .i64 x2, .int .i64 x3, .int .i64 x4, .int .i64 x5, .bool x6] 81) = w1 at *
  have OB := Lib.hid (Only.of_below (S := sfp a wb r c) b0w)
  generalize hqe : w.heap.size = q at *
  have HQ := Lib.hid hqe
  clear hqe
  have nq := nq'
  obtain ⟨cO, fO⟩ := hcell hO
  have cX := HX.out _ b0w
  have cx0 : w1.cell? ⟨x, 0, none⟩ = some (.pointer (some ⟨a, 0, none⟩)) := by rw [cX]; rfl
  have cx1 : w1.cell? ⟨x, 1, none⟩ = some (.pointer (some ⟨r, 0, none⟩)) := by rw [cX]; rfl
  have co3 : w1.cell? ⟨q, 3, none⟩ = some (.int .i64 o3) := by rw [cO]; rfl
  have ch0 : w1.cell? ⟨q, 7, none⟩ = some (.int .u64 x0) := by rw [cO]; rfl
  have ch1 : w1.cell? ⟨q, 8, none⟩ = some (.int .i64 x1) := by rw [cO]; rfl
  have ch2 : w1.cell? ⟨q, 9, none⟩ = some (.int .i64 x2) := by rw [cO]; rfl
  have ch3 : w1.cell? ⟨q, 10, none⟩ = some (.int .i64 x3) := by rw [cO]; rfl
  have ch4 : w1.cell? ⟨q, 11, none⟩ = some (.int .i64 x4) := by rw [cO]; rfl
  have ch5 : w1.cell? ⟨q, 12, none⟩ = some (.int .i64 x5) := by rw [cO]; rfl
  have ch6 : w1.cell? ⟨q, 13, none⟩ = some (.bool x6) := by rw [cO]; rfl
  have C1 := Lib.hid (C1'.out w1 b0w)
  have C2 := Lib.hid (C2'.out w1 b0w)
  clear C1' C2'
  have KE := Lib.hid (fun (W : World) (hO : Only (sfp a wb r c) w1 W) => (⟨hO.cell nx cx0, hO.cell nx cx1, hO.cell nq co3, hO.cell nq ch0, hO.cell nq ch1, hO.cell nq ch2, hO.cell nq ch3, hO.cell nq ch4, hO.cell nq ch5, hO.cell nq ch6, hO⟩ : W.cell? ⟨x, 0, none⟩ = some (.pointer (some ⟨a, 0, none⟩)) ∧ W.cell? ⟨x, 1, none⟩ = some (.pointer (some ⟨r, 0, none⟩)) ∧ W.cell? ⟨q, 3, none⟩ = some (.int .i64 o3) ∧ W.cell? ⟨q, 7, none⟩ = some (.int .u64 x0) ∧ W.cell? ⟨q, 8, none⟩ = some (.int .i64 x1) ∧ W.cell? ⟨q, 9, none⟩ = some (.int .i64 x2) ∧ W.cell? ⟨q, 10, none⟩ = some (.int .i64 x3) ∧ W.cell? ⟨q, 11, none⟩ = some (.int .i64 x4) ∧ W.cell? ⟨q, 12, none⟩ = some (.int .i64 x5) ∧ W.cell? ⟨q, 13, none⟩ = some (.bool x6) ∧ Only (sfp a wb r c) w1 W))
  clear HX cX b0w nq nq' nx bw bs
  go_upto_region 21 with fail
  go_region_held3 (fun W => W.cell? ⟨x, 0, none⟩ = some (.pointer (some ⟨a, 0, none⟩)) ∧ W.cell? ⟨x, 1, none⟩ = some (.pointer (some ⟨r, 0, none⟩)) ∧ W.cell? ⟨q, 3, none⟩ = some (.int .i64 o3) ∧ W.cell? ⟨q, 7, none⟩ = some (.int .u64 x0) ∧ W.cell? ⟨q, 8, none⟩ = some (.int .i64 x1) ∧ W.cell? ⟨q, 9, none⟩ = some (.int .i64 x2) ∧ W.cell? ⟨q, 10, none⟩ = some (.int .i64 x3) ∧ W.cell? ⟨q, 11, none⟩ = some (.int .i64 x4) ∧ W.cell? ⟨q, 12, none⟩ = some (.int .i64 x5) ∧ W.cell? ⟨q, 13, none⟩ = some (.bool x6) ∧ Only (sfp a wb r c) w1 W) ((refine KE.out _ ?_; repeat (first | (with_reducible assumption) | (with_reducible exact Only.refl _ _) | (with_reducible refine Only.drew ?_)))) (first | (go_at_call 93; refine (C1.out _ ?_).mono ?_; (first | exact (Below.refl _ _).drew | exact (Below.refl _ _)); rintro e w' ⟨rfl, hM9, hO9⟩))
  all_goals
    go_upto_region 22 with fail
    go_region_held3 (fun W => W.cell? ⟨x, 0, none⟩ = some (.pointer (some ⟨a, 0, none⟩)) ∧ W.cell? ⟨x, 1, none⟩ = some (.pointer (some ⟨r, 0, none⟩)) ∧ W.cell? ⟨q, 3, none⟩ = some (.int .i64 o3) ∧ W.cell? ⟨q, 7, none⟩ = some (.int .u64 x0) ∧ W.cell? ⟨q, 8, none⟩ = some (.int .i64 x1) ∧ W.cell? ⟨q, 9, none⟩ = some (.int .i64 x2) ∧ W.cell? ⟨q, 10, none⟩ = some (.int .i64 x3) ∧ W.cell? ⟨q, 11, none⟩ = some (.int .i64 x4) ∧ W.cell? ⟨q, 12, none⟩ = some (.int .i64 x5) ∧ W.cell? ⟨q, 13, none⟩ = some (.bool x6) ∧ Only (sfp a wb r c) w1 W) ((refine KE.out _ ?_; repeat (first | (with_reducible assumption) | (with_reducible exact Only.refl _ _) | (with_reducible refine Only.drew ?_)))) (first | (go_at_call 146; refine (C2.out _ ?_ ?_).mono ?_; (repeat (first | exact hM9 | refine MidAt.drew ?_)); (repeat (first | exact hO9 | refine Only.drew ?_)); rintro e w'' ⟨rfl, hB9, hO8⟩))
    all_goals
      go_wp2_with fail
      go_ret
      exact ⟨rfl, hB9, OB.out.trans hO8⟩
set_option maxRecDepth 100000 in
set_option maxHeartbeats 8000000 in
theorem writes7 (x a wb r : Nat) (c : Int → Nat) (A : Ar) (wv av : Value) (o : St) (w : World) (tb : Tab w) (h : BothAt w x a wb r c A wv av) (sp : Sep x a wb r c) (bd : o.Bd) (hk : o.kind = 7) : Calls Tryd.prog 100 #[.pointer (some ⟨x, 0, none⟩), o.val] w fun e w' => e = .returned (.bool true) ∧ BothAt w' x a wb r c (A.step o) wv av ∧ Only (sfp a wb r c) w w' := by
  have ok' := h.ok.step bd
  obtain ⟨-, -, -, bw, bs⟩ := bd
  obtain ⟨o0, o1, o2, o3, o4, o5, o6, ⟨x0, x1, x2, x3, x4, x5, x6⟩⟩ := o
  simp only at hk bw bs
  subst hk
  have es : A.step ⟨7, o1, o2, o3, o4, o5, o6, ⟨x0, x1, x2, x3, x4, x5, x6⟩⟩ = A.setPtr o3 o4 o5 := rfl
  rw [es] at ok' ⊢
  clear es
  have C1' := Lib.hid (fun (w1 : World) (b0w : Below w.heap.size w w1) (W : World) (hb : Below w1.heap.size w1 W) => mid_of sp (h.hR.below b0w) hb (by have bz := b0w.trans (hb.mono b0w.size); exact (setPtr_any a wb A o3 o4 o5 W (tb.below bz) (h.hA.below bz) h.ok)))
  have C2' := Lib.hid (fun (w1 : World) (b0w : Below w.heap.size w w1) (W : World) (hM : MidAt W a wb r c (A.setPtr o3 o4 o5) A) (hO : Only (sfp a wb r c) w1 W) => both_of sp ((b0w.block _ (lt_of_heap h.hx)).trans h.hx) ok' hM hO (rsetPtr_any r c A o3 o4 o5 W hM.hR h.ok))
  have HX := Lib.hid (fun (W : World) (hb : Below w.heap.size w W) => (hcell ((hb.block _ (lt_of_heap h.hx)).trans h.hx)).1)
  have nq' : w.heap.size ∉ sfp a wb r c := fun hm => by
    unfold sfp at hm
    simp only [List.mem_cons] at hm
    rcases hm with e | e | e
    · have := lt_of_heap h.hA.st; omega
    · have := lt_of_heap h.hA.ws; omega
    · have := h.hR.lt _ e; omega
  have nx : x ∉ sfp a wb r c := fun hm => by
    unfold sfp at hm
    simp only [List.mem_cons] at hm
    rcases hm with e | e | e
    · exact sp.xa e
    · exact sp.xw e
    · exact sp.xr e
  clear h tb ok' sp
  unfold St.val St.cells
  simp only
  generalize A.setPtr o3 o4 o5 = A' at *
  generalize A.setPtrOk o3 o4 o5 = u at *
  have hO := heap_one w (.cells #[.int .i64 7, .int .i64 o1, .int .i64 o2, .int .i64 o3, .int .i64 o4, .int .i64 o5, .int .u64 o6, .int .u64 x0, .int .i64 x1, .int .i64 x2, .int .i64 x3, .int .i64 x4, .int .i64 x5, .bool x6] 81)
  have b0w := (Below.refl w.heap.size w).alloc (Nat.le_refl _) (.cells #[.int .i64 7, .int .i64 o1, .int .i64 o2, .int .i64 o3, .int .i64 o4, .int .i64 o5, .int .u64 o6, .int .u64 x0, .int .i64 x1, .int .i64 x2, .int .i64 x3, .int .i64 x4, .int .i64 x5, .bool x6] 81)
  go_enter Tryd.func100, Tryd.ntmps100
  go_upto_region 1 with fail
  generalize w.alloc (.cells #[.int .i64 7, .int .i64 o1, .int .i64 o2, .int .i64 o3, .int .i64 o4, .int .i64 o5, .int .u64 o6, .int .u64 x0, .int .i64 x1, .int .i64 x2, .int .i64 x3, .int .i64 x4, .int .i64 x5, .bool x6] 81) = w1 at *
  have OB := Lib.hid (Only.of_below (S := sfp a wb r c) b0w)
  generalize hqe : w.heap.size = q at *
  have HQ := Lib.hid hqe
  clear hqe
  have nq := nq'
  obtain ⟨cO, fO⟩ := hcell hO
  have cX := HX.out _ b0w
  have cx0 : w1.cell? ⟨x, 0, none⟩ = some (.pointer (some ⟨a, 0, none⟩)) := by rw [cX]; rfl
  have cx1 : w1.cell? ⟨x, 1, none⟩ = some (.pointer (some ⟨r, 0, none⟩)) := by rw [cX]; rfl
  have co3 : w1.cell? ⟨q, 3, none⟩ = some (.int .i64 o3) := by rw [cO]; rfl
  have co4 : w1.cell? ⟨q, 4, none⟩ = some (.int .i64 o4) := by rw [cO]; rfl
  have co5 : w1.cell? ⟨q, 5, none⟩ = some (.int .i64 o5) := by rw [cO]; rfl
  have C1 := Lib.hid (C1'.out w1 b0w)
  have C2 := Lib.hid (C2'.out w1 b0w)
  clear C1' C2'
  have KE := Lib.hid (fun (W : World) (hO : Only (sfp a wb r c) w1 W) => (⟨hO.cell nx cx0, hO.cell nx cx1, hO.cell nq co3, hO.cell nq co4, hO.cell nq co5, hO⟩ : W.cell? ⟨x, 0, none⟩ = some (.pointer (some ⟨a, 0, none⟩)) ∧ W.cell? ⟨x, 1, none⟩ = some (.pointer (some ⟨r, 0, none⟩)) ∧ W.cell? ⟨q, 3, none⟩ = some (.int .i64 o3) ∧ W.cell? ⟨q, 4, none⟩ = some (.int .i64 o4) ∧ W.cell? ⟨q, 5, none⟩ = some (.int .i64 o5) ∧ Only (sfp a wb r c) w1 W))
  clear HX cX b0w nq nq' nx bw bs
  go_upto_region 24 with fail
  go_region_held3 (fun W => W.cell? ⟨x, 0, none⟩ = some (.pointer (some ⟨a, 0, none⟩)) ∧ W.cell? ⟨x, 1, none⟩ = some (.pointer (some ⟨r, 0, none⟩)) ∧ W.cell? ⟨q, 3, none⟩ = some (.int .i64 o3) ∧ W.cell? ⟨q, 4, none⟩ = some (.int .i64 o4) ∧ W.cell? ⟨q, 5, none⟩ = some (.int .i64 o5) ∧ Only (sfp a wb r c) w1 W) ((refine KE.out _ ?_; repeat (first | (with_reducible assumption) | (with_reducible exact Only.refl _ _) | (with_reducible refine Only.drew ?_)))) (first | (go_at_call 94; refine (C1.out _ ?_).mono ?_; (first | exact (Below.refl _ _).drew | exact (Below.refl _ _)); rintro e w' ⟨rfl, hM9, hO9⟩))
  all_goals
    go_upto_region 25 with fail
    go_region_held3 (fun W => W.cell? ⟨x, 0, none⟩ = some (.pointer (some ⟨a, 0, none⟩)) ∧ W.cell? ⟨x, 1, none⟩ = some (.pointer (some ⟨r, 0, none⟩)) ∧ W.cell? ⟨q, 3, none⟩ = some (.int .i64 o3) ∧ W.cell? ⟨q, 4, none⟩ = some (.int .i64 o4) ∧ W.cell? ⟨q, 5, none⟩ = some (.int .i64 o5) ∧ Only (sfp a wb r c) w1 W) ((refine KE.out _ ?_; repeat (first | (with_reducible assumption) | (with_reducible exact Only.refl _ _) | (with_reducible refine Only.drew ?_)))) (first | (go_at_call 147; refine (C2.out _ ?_ ?_).mono ?_; (repeat (first | exact hM9 | refine MidAt.drew ?_)); (repeat (first | exact hO9 | refine Only.drew ?_)); rintro e w'' ⟨rfl, hB9, hO8⟩))
    all_goals
      go_wp2_with fail
      go_ret
      exact ⟨rfl, hB9, OB.out.trans hO8⟩
set_option maxRecDepth 100000 in
set_option maxHeartbeats 8000000 in
theorem writes8 (x a wb r : Nat) (c : Int → Nat) (A : Ar) (wv av : Value) (o : St) (w : World) (tb : Tab w) (h : BothAt w x a wb r c A wv av) (sp : Sep x a wb r c) (bd : o.Bd) (hk : o.kind = 8) : Calls Tryd.prog 100 #[.pointer (some ⟨x, 0, none⟩), o.val] w fun e w' => e = .returned (.bool true) ∧ BothAt w' x a wb r c (A.step o) wv av ∧ Only (sfp a wb r c) w w' := by
  have ok' := h.ok.step bd
  obtain ⟨-, -, -, bw, bs⟩ := bd
  obtain ⟨o0, o1, o2, o3, o4, o5, o6, ⟨x0, x1, x2, x3, x4, x5, x6⟩⟩ := o
  simp only at hk bw bs
  subst hk
  have es : A.step ⟨8, o1, o2, o3, o4, o5, o6, ⟨x0, x1, x2, x3, x4, x5, x6⟩⟩ = A.setRaw o3 o4 o6 := rfl
  rw [es] at ok' ⊢
  clear es
  have C1' := Lib.hid (fun (w1 : World) (b0w : Below w.heap.size w w1) (W : World) (hb : Below w1.heap.size w1 W) => mid_of sp (h.hR.below b0w) hb (by have bz := b0w.trans (hb.mono b0w.size); exact (setRaw_any a wb A o3 o4 o6 W (tb.below bz) (h.hA.below bz) h.ok)))
  have C2' := Lib.hid (fun (w1 : World) (b0w : Below w.heap.size w w1) (W : World) (hM : MidAt W a wb r c (A.setRaw o3 o4 o6) A) (hO : Only (sfp a wb r c) w1 W) => both_of sp ((b0w.block _ (lt_of_heap h.hx)).trans h.hx) ok' hM hO (rsetRaw_any r c A o3 o4 o6 W hM.hR h.ok bw))
  have HX := Lib.hid (fun (W : World) (hb : Below w.heap.size w W) => (hcell ((hb.block _ (lt_of_heap h.hx)).trans h.hx)).1)
  have nq' : w.heap.size ∉ sfp a wb r c := fun hm => by
    unfold sfp at hm
    simp only [List.mem_cons] at hm
    rcases hm with e | e | e
    · have := lt_of_heap h.hA.st; omega
    · have := lt_of_heap h.hA.ws; omega
    · have := h.hR.lt _ e; omega
  have nx : x ∉ sfp a wb r c := fun hm => by
    unfold sfp at hm
    simp only [List.mem_cons] at hm
    rcases hm with e | e | e
    · exact sp.xa e
    · exact sp.xw e
    · exact sp.xr e
  clear h tb ok' sp
  unfold St.val St.cells
  simp only
  generalize A.setRaw o3 o4 o6 = A' at *
  generalize A.rawOk o3 o4 = u at *
  have hO := heap_one w (.cells #[.int .i64 8, .int .i64 o1, .int .i64 o2, .int .i64 o3, .int .i64 o4, .int .i64 o5, .int .u64 o6, .int .u64 x0, .int .i64 x1, .int .i64 x2, .int .i64 x3, .int .i64 x4, .int .i64 x5, .bool x6] 81)
  have b0w := (Below.refl w.heap.size w).alloc (Nat.le_refl _) (.cells #[.int .i64 8, .int .i64 o1, .int .i64 o2, .int .i64 o3, .int .i64 o4, .int .i64 o5, .int .u64 o6, .int .u64 x0, .int .i64 x1, .int .i64 x2, .int .i64 x3, .int .i64 x4, .int .i64 x5, .bool x6] 81)
  go_enter Tryd.func100, Tryd.ntmps100
  go_upto_region 1 with fail
  generalize w.alloc (.cells #[.int .i64 8, .int .i64 o1, .int .i64 o2, .int .i64 o3, .int .i64 o4, .int .i64 o5, .int .u64 o6, .int .u64 x0, .int .i64 x1, .int .i64 x2, .int .i64 x3, .int .i64 x4, .int .i64 x5, .bool x6] 81) = w1 at *
  have OB := Lib.hid (Only.of_below (S := sfp a wb r c) b0w)
  generalize hqe : w.heap.size = q at *
  have HQ := Lib.hid hqe
  clear hqe
  have nq := nq'
  obtain ⟨cO, fO⟩ := hcell hO
  have cX := HX.out _ b0w
  have cx0 : w1.cell? ⟨x, 0, none⟩ = some (.pointer (some ⟨a, 0, none⟩)) := by rw [cX]; rfl
  have cx1 : w1.cell? ⟨x, 1, none⟩ = some (.pointer (some ⟨r, 0, none⟩)) := by rw [cX]; rfl
  have co3 : w1.cell? ⟨q, 3, none⟩ = some (.int .i64 o3) := by rw [cO]; rfl
  have co4 : w1.cell? ⟨q, 4, none⟩ = some (.int .i64 o4) := by rw [cO]; rfl
  have co6 : w1.cell? ⟨q, 6, none⟩ = some (.int .u64 o6) := by rw [cO]; rfl
  have C1 := Lib.hid (C1'.out w1 b0w)
  have C2 := Lib.hid (C2'.out w1 b0w)
  clear C1' C2'
  have KE := Lib.hid (fun (W : World) (hO : Only (sfp a wb r c) w1 W) => (⟨hO.cell nx cx0, hO.cell nx cx1, hO.cell nq co3, hO.cell nq co4, hO.cell nq co6, hO⟩ : W.cell? ⟨x, 0, none⟩ = some (.pointer (some ⟨a, 0, none⟩)) ∧ W.cell? ⟨x, 1, none⟩ = some (.pointer (some ⟨r, 0, none⟩)) ∧ W.cell? ⟨q, 3, none⟩ = some (.int .i64 o3) ∧ W.cell? ⟨q, 4, none⟩ = some (.int .i64 o4) ∧ W.cell? ⟨q, 6, none⟩ = some (.int .u64 o6) ∧ Only (sfp a wb r c) w1 W))
  clear HX cX b0w nq nq' nx bw bs
  go_upto_region 27 with fail
  go_region_held3 (fun W => W.cell? ⟨x, 0, none⟩ = some (.pointer (some ⟨a, 0, none⟩)) ∧ W.cell? ⟨x, 1, none⟩ = some (.pointer (some ⟨r, 0, none⟩)) ∧ W.cell? ⟨q, 3, none⟩ = some (.int .i64 o3) ∧ W.cell? ⟨q, 4, none⟩ = some (.int .i64 o4) ∧ W.cell? ⟨q, 6, none⟩ = some (.int .u64 o6) ∧ Only (sfp a wb r c) w1 W) ((refine KE.out _ ?_; repeat (first | (with_reducible assumption) | (with_reducible exact Only.refl _ _) | (with_reducible refine Only.drew ?_)))) (first | (go_at_call 95; refine (C1.out _ ?_).mono ?_; (first | exact (Below.refl _ _).drew | exact (Below.refl _ _)); rintro e w' ⟨rfl, hM9, hO9⟩))
  all_goals
    go_upto_region 28 with fail
    go_region_held3 (fun W => W.cell? ⟨x, 0, none⟩ = some (.pointer (some ⟨a, 0, none⟩)) ∧ W.cell? ⟨x, 1, none⟩ = some (.pointer (some ⟨r, 0, none⟩)) ∧ W.cell? ⟨q, 3, none⟩ = some (.int .i64 o3) ∧ W.cell? ⟨q, 4, none⟩ = some (.int .i64 o4) ∧ W.cell? ⟨q, 6, none⟩ = some (.int .u64 o6) ∧ Only (sfp a wb r c) w1 W) ((refine KE.out _ ?_; repeat (first | (with_reducible assumption) | (with_reducible exact Only.refl _ _) | (with_reducible refine Only.drew ?_)))) (first | (go_at_call 129; refine (C2.out _ ?_ ?_).mono ?_; (repeat (first | exact hM9 | refine MidAt.drew ?_)); (repeat (first | exact hO9 | refine Only.drew ?_)); rintro e w'' ⟨rfl, hB9, hO8⟩))
    all_goals
      go_wp2_with fail
      go_ret
      exact ⟨rfl, hB9, OB.out.trans hO8⟩
set_option maxRecDepth 100000 in
set_option maxHeartbeats 8000000 in
theorem writes9 (x a wb r : Nat) (c : Int → Nat) (A : Ar) (wv av : Value) (o : St) (w : World) (tb : Tab w) (h : BothAt w x a wb r c A wv av) (sp : Sep x a wb r c) (bd : o.Bd) (hk : ∀ k ∈ [1, 2, 3, 4, 5, 6, 7, 8], o.kind ≠ k) : Calls Tryd.prog 100 #[.pointer (some ⟨x, 0, none⟩), o.val] w fun e w' => e = .returned (.bool true) ∧ BothAt w' x a wb r c (A.step o) wv av ∧ Only (sfp a wb r c) w w' := by
  have ok' := h.ok.step bd
  obtain ⟨-, -, -, bw, bs⟩ := bd
  obtain ⟨o0, o1, o2, o3, o4, o5, o6, ⟨x0, x1, x2, x3, x4, x5, x6⟩⟩ := o
  simp only at hk bw bs
  have n1 : ¬ o0 = 1 := hk 1 (by simp)
  have m1 : (o0 == 1) = false := by simpa using n1
  have n2 : ¬ o0 = 2 := hk 2 (by simp)
  have m2 : (o0 == 2) = false := by simpa using n2
  have n3 : ¬ o0 = 3 := hk 3 (by simp)
  have m3 : (o0 == 3) = false := by simpa using n3
  have n4 : ¬ o0 = 4 := hk 4 (by simp)
  have m4 : (o0 == 4) = false := by simpa using n4
  have n5 : ¬ o0 = 5 := hk 5 (by simp)
  have m5 : (o0 == 5) = false := by simpa using n5
  have n6 : ¬ o0 = 6 := hk 6 (by simp)
  have m6 : (o0 == 6) = false := by simpa using n6
  have n7 : ¬ o0 = 7 := hk 7 (by simp)
  have m7 : (o0 == 7) = false := by simpa using n7
  have n8 : ¬ o0 = 8 := hk 8 (by simp)
  have m8 : (o0 == 8) = false := by simpa using n8
  have es : A.step ⟨o0, o1, o2, o3, o4, o5, o6, ⟨x0, x1, x2, x3, x4, x5, x6⟩⟩ = A.setw o3 o6 := by
    unfold Ar.step
    simp only
    rw [if_neg n1, if_neg n2, if_neg n3, if_neg n4, if_neg n5, if_neg n6, if_neg n7, if_neg n8]
  clear hk n1 n2 n3 n4 n5 n6 n7 n8
  rw [es] at ok' ⊢
  clear es
  have C1' := Lib.hid (fun (w1 : World) (b0w : Below w.heap.size w w1) (W : World) (hb : Below w1.heap.size w1 W) => mid_of sp (h.hR.below b0w) hb (by have bz := b0w.trans (hb.mono b0w.size); exact (setWord_any a wb A o3 o6 W (h.hA.below bz))))
  have C2' := Lib.hid (fun (w1 : World) (b0w : Below w.heap.size w w1) (W : World) (hM : MidAt W a wb r c (A.setw o3 o6) A) (hO : Only (sfp a wb r c) w1 W) => both_of sp ((b0w.block _ (lt_of_heap h.hx)).trans h.hx) ok' hM hO (rsetWord_any r c A o3 o6 W hM.hR h.ok bw))
  have HX := Lib.hid (fun (W : World) (hb : Below w.heap.size w W) => (hcell ((hb.block _ (lt_of_heap h.hx)).trans h.hx)).1)
  have nq' : w.heap.size ∉ sfp a wb r c := fun hm => by
    unfold sfp at hm
    simp only [List.mem_cons] at hm
    rcases hm with e | e | e
    · have := lt_of_heap h.hA.st; omega
    · have := lt_of_heap h.hA.ws; omega
    · have := h.hR.lt _ e; omega
  have nx : x ∉ sfp a wb r c := fun hm => by
    unfold sfp at hm
    simp only [List.mem_cons] at hm
    rcases hm with e | e | e
    · exact sp.xa e
    · exact sp.xw e
    · exact sp.xr e
  clear h tb ok' sp
  unfold St.val St.cells
  simp only
  generalize A.setw o3 o6 = A' at *
  generalize A.setwOk o3 = u at *
  have hO := heap_one w (.cells #[.int .i64 o0, .int .i64 o1, .int .i64 o2, .int .i64 o3, .int .i64 o4, .int .i64 o5, .int .u64 o6, .int .u64 x0, .int .i64 x1, .int .i64 x2, .int .i64 x3, .int .i64 x4, .int .i64 x5, .bool x6] 81)
  have b0w := (Below.refl w.heap.size w).alloc (Nat.le_refl _) (.cells #[.int .i64 o0, .int .i64 o1, .int .i64 o2, .int .i64 o3, .int .i64 o4, .int .i64 o5, .int .u64 o6, .int .u64 x0, .int .i64 x1, .int .i64 x2, .int .i64 x3, .int .i64 x4, .int .i64 x5, .bool x6] 81)
  go_enter Tryd.func100, Tryd.ntmps100
  go_upto_region 1 with fail
  generalize w.alloc (.cells #[.int .i64 o0, .int .i64 o1, .int .i64 o2, .int .i64 o3, .int .i64 o4, .int .i64 o5, .int .u64 o6, .int .u64 x0, .int .i64 x1, .int .i64 x2, .int .i64 x3, .int .i64 x4, .int .i64 x5, .bool x6] 81) = w1 at *
  have OB := Lib.hid (Only.of_below (S := sfp a wb r c) b0w)
  generalize hqe : w.heap.size = q at *
  have HQ := Lib.hid hqe
  clear hqe
  have nq := nq'
  obtain ⟨cO, fO⟩ := hcell hO
  have cX := HX.out _ b0w
  have cx0 : w1.cell? ⟨x, 0, none⟩ = some (.pointer (some ⟨a, 0, none⟩)) := by rw [cX]; rfl
  have cx1 : w1.cell? ⟨x, 1, none⟩ = some (.pointer (some ⟨r, 0, none⟩)) := by rw [cX]; rfl
  have co3 : w1.cell? ⟨q, 3, none⟩ = some (.int .i64 o3) := by rw [cO]; rfl
  have co6 : w1.cell? ⟨q, 6, none⟩ = some (.int .u64 o6) := by rw [cO]; rfl
  have C1 := Lib.hid (C1'.out w1 b0w)
  have C2 := Lib.hid (C2'.out w1 b0w)
  clear C1' C2'
  have KE := Lib.hid (fun (W : World) (hO : Only (sfp a wb r c) w1 W) => (⟨hO.cell nx cx0, hO.cell nx cx1, hO.cell nq co3, hO.cell nq co6, hO⟩ : W.cell? ⟨x, 0, none⟩ = some (.pointer (some ⟨a, 0, none⟩)) ∧ W.cell? ⟨x, 1, none⟩ = some (.pointer (some ⟨r, 0, none⟩)) ∧ W.cell? ⟨q, 3, none⟩ = some (.int .i64 o3) ∧ W.cell? ⟨q, 6, none⟩ = some (.int .u64 o6) ∧ Only (sfp a wb r c) w1 W))
  clear HX cX b0w nq nq' nx bw bs
  go_upto_region 29 with fail
  go_region_held3 (fun W => W.cell? ⟨x, 0, none⟩ = some (.pointer (some ⟨a, 0, none⟩)) ∧ W.cell? ⟨x, 1, none⟩ = some (.pointer (some ⟨r, 0, none⟩)) ∧ W.cell? ⟨q, 3, none⟩ = some (.int .i64 o3) ∧ W.cell? ⟨q, 6, none⟩ = some (.int .u64 o6) ∧ Only (sfp a wb r c) w1 W) ((refine KE.out _ ?_; repeat (first | (with_reducible assumption) | (with_reducible exact Only.refl _ _) | (with_reducible refine Only.drew ?_)))) (first | (go_at_call 50; refine (C1.out _ ?_).mono ?_; (first | exact (Below.refl _ _).drew | exact (Below.refl _ _)); rintro e w' ⟨rfl, hM9, hO9⟩))
  all_goals
    go_upto_region 30 with fail
    go_region_held3 (fun W => W.cell? ⟨x, 0, none⟩ = some (.pointer (some ⟨a, 0, none⟩)) ∧ W.cell? ⟨x, 1, none⟩ = some (.pointer (some ⟨r, 0, none⟩)) ∧ W.cell? ⟨q, 3, none⟩ = some (.int .i64 o3) ∧ W.cell? ⟨q, 6, none⟩ = some (.int .u64 o6) ∧ Only (sfp a wb r c) w1 W) ((refine KE.out _ ?_; repeat (first | (with_reducible assumption) | (with_reducible exact Only.refl _ _) | (with_reducible refine Only.drew ?_)))) (first | (go_at_call 148; refine (C2.out _ ?_ ?_).mono ?_; (repeat (first | exact hM9 | refine MidAt.drew ?_)); (repeat (first | exact hO9 | refine Only.drew ?_)); rintro e w'' ⟨rfl, hB9, hO8⟩))
    all_goals
      go_wp2_with fail
      go_ret
      exact ⟨rfl, hB9, OB.out.trans hO8⟩
end Go.Proofs.YtomgfdfgildkbaaDoor
/- ArenaPlays: the walks that were taken earlier: old. -/

namespace Go.Proofs.YtomgfdfgildkbaaDoor
open Go.RowKit Go.BigFrame
set_option linter.unusedVariables false

/-- A walk that was taken: through which space; the blocks of its two variables. -/
structure Wk where
  s : Int
  ba : Nat
  bs : Nat
def Wk.val (k : Wk) : Value := .func (.func 152) #[] #[.pointer (some ⟨k.ba, 0, none⟩), .pointer (some ⟨k.bs, 0, none⟩)]
structure WkAt (w : World) (a B : Nat) (Q : List Wk) (wv av : Value) : Prop where
  r1 : w.ownsRow B 158 1 wv Q.length (Q.map Wk.val)
  r2 : w.ownsRow B 3 1 av Q.length (Q.map fun k => Value.int .i64 k.s)
  b1 : ∀ k ∈ Q, w.heap[k.ba]? = some (.cells #[.pointer (some ⟨a, 0, none⟩)] 47 (0, 0))
  b2 : ∀ k ∈ Q, w.heap[k.bs]? = some (.cells #[.int .i64 k.s] 3 (0, 0))
theorem WkAt.below {w w' : World} {a B : Nat} {Q : List Wk} {wv av : Value} (h : WkAt w a B Q wv av) (hb : Below w.heap.size w w') : WkAt w' a B Q wv av :=
  ⟨ownsRow_heap h.r1 fun k hk => hb.block k (h.r1.lt k hk).2, ownsRow_heap h.r2 fun k hk => hb.block k (h.r2.lt k hk).2, fun k hk => (hb.block _ (lt_of_heap (h.b1 k hk))).trans (h.b1 k hk), fun k hk => (hb.block _ (lt_of_heap (h.b2 k hk))).trans (h.b2 k hk)⟩
theorem row_mono {w : World} {B B' : Nat} {e : TypeId} {sz : Nat} {v : Value} {n : Nat} {xs : List Value} (h : w.ownsRow B e sz v n xs) (hb : B' ≤ B) : w.ownsRow B' e sz v n xs := by
  refine ⟨h.1, ?_⟩
  rcases h.2 with hn | ⟨g, cap, cur, hv, h1, rest⟩
  · exact .inl hn
  · exact .inr ⟨g, cap, cur, hv, Nat.le_trans hb h1, rest⟩
theorem lookN_zero (n : Nat) : lookN 0 n = n := by unfold lookN; simp
set_option maxRecDepth 100000 in
set_option maxHeartbeats 8000000 in
theorem old_any (x a wb r : Nat) (c : Int → Nat) (A : Ar) (wv av : Value) (B : Nat) (Q : List Wk) (i : Nat) (hi : i < Q.length) (w : World) (tb : Tab w) (h : BothAt w x a wb r c A wv av) (hw : WkAt w a B Q wv av) : Calls Tryd.prog 116 #[.pointer (some ⟨x, 0, none⟩), .int .i64 i] w fun e w' => e = .returned (.bool true) ∧ Below w.heap.size w w' := by
  have hmf : ∀ (fn : Fn) (first cap : Array Value) (w : World), (Instr.makeFunc fn first cap).run Tryd.prog w = .ok (.func fn first cap) w := fun _ _ _ _ => rfl
  obtain ⟨g1, p1, e1, -, -⟩ := hw.r1.form (by omega)
  obtain ⟨g2, p2, e2, -, -⟩ := hw.r2.form (by omega)
  obtain ⟨kw, hkm, hk1, hk2⟩ : ∃ kw, kw ∈ Q ∧ (Q.map Wk.val)[i]? = some kw.val ∧ (Q.map fun k => Value.int .i64 k.s)[i]? = some (.int .i64 kw.s) := ⟨Q[i], List.getElem_mem hi, by simp [hi], by simp [hi]⟩
  rw [e1, e2] at h hw
  have q1 : w.cell? ⟨g1, i, none⟩ = some kw.val := by rw [hw.r1.cellAt i (by omega)]; exact hk1
  have q2 : w.cell? ⟨g2, i, none⟩ = some (.int .i64 kw.s) := by rw [hw.r2.cellAt i (by omega)]; exact hk2
  have v1 := hw.b1 kw hkm
  have v2 := hw.b2 kw hkm
  clear hk1 hk2 hkm hw e1 e2
  obtain ⟨s, ba, bs⟩ := kw
  unfold Wk.val at q1
  simp only at q1 q2 v1 v2
  have RW := Lib.hid (fun (W : World) (hb : Below w.heap.size w W) => (rwalk_any r c A s W (h.hR.below hb) h.ok).mono (R' := fun e w' => ∃ v, e = .returned (.tuple #[v, .int .i64 (badOf (A.all s))]) ∧ w'.ownsRow w.heap.size 3 1 v (A.objs s).length ((A.objs s).map fun x => Value.int .i64 x.1) ∧ Below w.heap.size w w') fun e w' ⟨v, h1, h2, h3⟩ => ⟨v, h1, row_mono h2 hb.size, hb.trans (h3.mono hb.size)⟩)
  have h262 := A.objs_len h.ok s
  have la := lt_of_heap h.hA.st
  have lwb := lt_of_heap h.hA.ws
  have lv1 := lt_of_heap v1
  have lv2 := lt_of_heap v2
  have hs1 := tb.hs
  have hs2 := tb.ht
  have OT := Lib.hid (fun (t : Nat) (W : World) (hb : Below w.heap.size w W) (ht : w.heap.size ≤ t) (hT : TkAt W t 0 140 w.heap.size (Tk.new 0 ((A.objs s).length + 1)) (.slice none 0 0) (.slice none 0 0)) =>
    obj1_take a wb bs ba A s [a, wb, 1, 0, ba, bs] (by simp) (by simp) (by simp) (by simp) (by simp) (by simp) h.ok W (tb.below hb) (h.hA.below hb)
      (by rw [(hcell ((hb.block _ lv2).trans v2)).1]; rfl) (by rw [(hcell ((hb.block _ lv1).trans v1)).1]; rfl) (fun k hk => by have := hb.size; simp at hk; omega) t 0 140 w.heap.size _ _ _ hT (by decide) hb.size (fun k hk hm => by simp [fpOf, Value.ownBlock] at hm hk; omega) rfl (by simp [Tk.new]))
  obtain ⟨ov1, ov2⟩ := over_look (A.objs s) 0
  have hdeaf := Tk.run_deaf (l := A.objs s) (T := Tk.new 0 ((A.objs s).length + 1)) rfl rfl
  rw [lookN_zero] at ov1 ov2
  have RH := Lib.hid (fun (i : Int) (W : World) (hb : Below w.heap.size w W) => rhead_any r c A i W (h.hR.below hb) h.ok)
  have OH := Lib.hid (objs_hd A s)
  have HX := Lib.hid (fun (W : World) (hb : Below w.heap.size w W) => (hcell ((hb.block _ (lt_of_heap h.hx)).trans h.hx)).1)
  have SHE := Lib.hid (fun (h : Hd) (W : World) => (sameHead_any h h W).mono (R' := fun e w' => e = .returned (.bool true) ∧ Below W.heap.size W w') fun e w' ⟨h1, h2⟩ => ⟨by rw [h1, hdEq_iff.2 rfl], h2⟩)
  have lxw := lt_of_heap h.hx
  have c0 := HX.out _ (Below.refl _ w)
  have cx1 : w.cell? ⟨x, 1, none⟩ = some (.pointer (some ⟨r, 0, none⟩)) := by rw [c0]; rfl
  have cx3 : w.cell? ⟨x, 3, none⟩ = some (.slice (some ⟨g2, 0, none⟩) Q.length p2) := by rw [c0]; rfl
  clear h tb c0
  generalize badOf (A.all s) = bad at *
  generalize A.objs s = L at *
  generalize hT1 : (Tk.new 0 ((L.length : Int) + 1)).over L = T1 at *
  clear hT1
  generalize Q.length = nq at *
  have hlen1 : T1.at_.length = L.length := by rw [ov1, List.length_map, List.length_take]; omega
  have hlen2 : T1.hd.length = L.length := by rw [ov2, List.length_map, List.length_take]; omega
  have i0 : (0 : Int) ≤ (i : Int) := Int.natCast_nonneg _
  have i1 : (i : Int) < (nq : Int) := by omega
  have KE0 := Lib.hid (fun (W : World) (hb : Below w.heap.size w W) => (⟨(hb.cell (p := ⟨x, 1, none⟩) lxw).trans cx1, (hb.cell (p := ⟨x, 3, none⟩) lxw).trans cx3, (hb.cell (p := ⟨g2, i, none⟩) (World.block_lt_of_cell? w ⟨g2, i, none⟩ q2)).trans q2, hb⟩ : W.cell? ⟨x, 1, none⟩ = some (.pointer (some ⟨r, 0, none⟩)) ∧ W.cell? ⟨x, 3, none⟩ = some (.slice (some ⟨g2, 0, none⟩) nq p2) ∧ W.cell? ⟨g2, i, none⟩ = some (.int .i64 s) ∧ Below w.heap.size w W))
  go_enter Tryd.func116, Tryd.ntmps116
  go_upto_region 1 with fail
  go_cut [5, 6] from 11 to 25 (fun sl _ wx => wx.ownsRow w.heap.size 3 1 sl L.length (L.map fun x => Value.int .i64 x.1) ∧ Below w.heap.size w wx)
  case first =>
    go_region_held3 (fun W => W.cell? ⟨x, 1, none⟩ = some (.pointer (some ⟨r, 0, none⟩)) ∧ W.cell? ⟨x, 3, none⟩ = some (.slice (some ⟨g2, 0, none⟩) nq p2) ∧ W.cell? ⟨g2, i, none⟩ = some (.int .i64 s) ∧ Below w.heap.size w W) ((refine KE0.out _ ?_; repeat (first | (with_reducible assumption) | (with_reducible exact Below.refl _ _) | (with_reducible refine Below.drew ?_)))) (first | (go_at_call 132; refine (RW.out _ ?_).mono ?_; (first | assumption | exact (Below.refl _ _).drew | exact (Below.refl _ _)); rintro e w' ⟨vv, rfl, hr9, hb9⟩))
    all_goals
      go_wp2_with fail
      go_meet
      exact ⟨hr9, hb9⟩
  case rest =>
    obtain ⟨hrow, b1⟩ := hcut
    obtain ⟨p, cap, rfl⟩ := row_form hrow
    have hcap := row_cap hrow
    clear RW KE0
    generalize hm : L.length = m at *
    have GL := Lib.hid (show ∀ k, k < m → T1.at_.getD k 0 = (L.getD k (0, nohd)).1 ∧ T1.hd.getD k nohd = (L.getD k (0, nohd)).2 ∧ k < L.length from fun k hk => by
      rw [ov1, ov2]
      simp only [List.getD_eq_getElem?_getD, List.getElem?_map, List.getElem?_take, hk, if_true]
      rw [List.getElem?_eq_getElem (show k < L.length by omega)]
      exact ⟨rfl, rfl, by omega⟩)
    clear ov1 ov2
    go_upto_region 3 with fail
    have hX1 := heap_one wc (.cells #[.slice none 0 0, .slice none 0 0, .int .i64 0, .int .i64 ((m : Int) + 1), .bool false, .bool false] 140)
    have hbX := b1.alloc b1.size (.cells #[.slice none 0 0, .slice none 0 0, .int .i64 0, .int .i64 ((m : Int) + 1), .bool false, .bool false] 140)
    have hrow1 := hrow.alloc (.cells #[.slice none 0 0, .slice none 0 0, .int .i64 0, .int .i64 ((m : Int) + 1), .bool false, .bool false] 140)
    have lt0 := b1.size
    have rl1 := fun k hk => (hrow.lt k hk).2
    generalize wc.alloc (.cells #[.slice none 0 0, .slice none 0 0, .int .i64 0, .int .i64 ((m : Int) + 1), .bool false, .bool false] 140) = w1 at *
    generalize wc.heap.size = t at *
    have hTN := TkAt.fresh (B := w.heap.size) hX1 lt0
    have OT1 := Lib.hid (OT.out t w1 hbX lt0 hTN)
    have c1 := HX.out _ hbX
    have qq1 := (hbX.cell (p := ⟨g1, i, none⟩) (World.block_lt_of_cell? w ⟨g1, i, none⟩ q1)).trans q1
    clear OT hTN hX1 hrow
    go_wp2_with fail
    refine OT1.out.mono ?_
    rintro e w2 ⟨rfl, hW3⟩
    obtain ⟨⟨u1, u2, hT, hfp3⟩, -, ho3⟩ := hW3
    have ez : fpOf t (.slice none 0 0) (.slice none 0 0) = [t] := rfl
    rw [ez] at ho3
    have b2 := hbX.trans (ho3.below (B := w.heap.size) hbX.size (by simpa using lt0))
    have hrow2 := ownsRow_heap (w' := w2) hrow1 (fun k hk => ho3.block k (hrow1.lt k hk).2 (by have := rl1 k hk; simp; omega))
    obtain ⟨p1', n1, rfl⟩ := row_form hT.r1
    obtain ⟨p2', n2, rfl⟩ := row_form hT.r2
    have tc0 := hT.c0
    have tc5 := hT.c5
    rw [hlen1] at tc0
    rw [hdeaf] at tc5
    clear OT1 c1 qq1 hrow1 ho3 ez hfp3 q1 q2 v1 v2 lv1 lv2
    go_wp2_with fail
    go_loopw [8] (fun iv wx => ∃ k : Nat, k ≤ m ∧ iv = .int .i64 k ∧ Below w2.heap.size w2 wx) (fun iv _ => m - (intOf iv).toNat)
    case atStart => exact ⟨0, Nat.zero_le _, rfl, Below.refl _ _⟩
    case round =>
      obtain ⟨k, hk, rfl, hbr⟩ := hrel
      by_cases hlt : k < m
      · obtain ⟨gl1, gl2, gl3⟩ := GL.out k hlt
        have hTr := hT.below hbr
        have br := b2.trans (hbr.mono b2.size)
        have hrowr := ownsRow_heap (w' := wr) hrow2 (fun k hk => hbr.block k (hrow2.lt k hk).2)
        obtain ⟨g1, cp1, e1, -, -⟩ := hTr.r1.form (by omega)
        obtain ⟨g2, cp2, e2, -, -⟩ := hTr.r2.form (by omega)
        obtain ⟨g3, cp3, e3, -, -⟩ := hrowr.form (by omega)
        cases e1
        cases e2
        cases e3
        have c1 := HX.out _ br
        have d0 := hTr.c0
        have d1 := hTr.c1
        rw [hlen1] at d0
        rw [hlen2] at d1
        have a1 := row_int hTr.r1 (i := k) (by omega)
        have q2 := fun j (hj : j < 7) => row_hd hTr.r2 (i := k) (by omega) hj rfl
        have a3 : wr.cell? ⟨g3, k, none⟩ = some (.int .i64 (L.getD k (0, nohd)).1) := by
          rw [hrowr.cellAt k (by omega)]
          simp only [List.getElem?_map, List.getD_eq_getElem?_getD]
          rw [List.getElem?_eq_getElem gl3]; rfl
        have ohd : (L.getD k (0, nohd)).2 = A.hd (L.getD k (0, nohd)).1 := OH.out _ (by rw [List.getD_eq_getElem?_getD, List.getElem?_eq_getElem gl3]; exact List.getElem_mem gl3)
        rw [gl1] at a1
        rw [gl2, ohd] at q2
        have RHk := Lib.hid (fun (W : World) (hb : Below wr.heap.size wr W) => (RH.out (L.getD k (0, nohd)).1 W (br.trans (hb.mono br.size))))
        clear gl1 gl2 ohd hTr hrowr hT hrow2
        generalize (L.getD k (0, nohd)).1 = ak at *
        generalize A.hd ak = h9 at *
        generalize A.isObj ak = io at *
        obtain ⟨x0, x1, x2, x3, x4, x5, x6⟩ := h9
        have q20 : wr.cell? ⟨g2, k * 7, none⟩ = some (.int .u64 x0) := q2 0 (by decide)
        have q21 : wr.cell? ⟨g2, k * 7 + 1, none⟩ = some (.int .i64 x1) := q2 1 (by decide)
        have q22 : wr.cell? ⟨g2, k * 7 + 2, none⟩ = some (.int .i64 x2) := q2 2 (by decide)
        have q23 : wr.cell? ⟨g2, k * 7 + 3, none⟩ = some (.int .i64 x3) := q2 3 (by decide)
        have q24 : wr.cell? ⟨g2, k * 7 + 4, none⟩ = some (.int .i64 x4) := q2 4 (by decide)
        have q25 : wr.cell? ⟨g2, k * 7 + 5, none⟩ = some (.int .i64 x5) := q2 5 (by decide)
        have q26 : wr.cell? ⟨g2, k * 7 + 6, none⟩ = some (.bool x6) := q2 6 (by decide)
        have k0 : (0 : Int) ≤ (k : Int) := Int.natCast_nonneg _
        have k1 : (k : Int) < (m : Int) := by omega
        have cx1 : wr.cell? ⟨x, 1, none⟩ = some (.pointer (some ⟨r, 0, none⟩)) := by rw [c1]; rfl
        clear q2 c1
        unfold Hd.val at RHk
        simp only at RHk
        have KE1 := Lib.hid (fun (W : World) (hb : Below wr.heap.size wr W) => (⟨(hb.cell (p := ⟨x, 1, none⟩) (World.block_lt_of_cell? wr ⟨x, 1, none⟩ cx1)).trans cx1, (hb.cell (p := ⟨g3, k, none⟩) (World.block_lt_of_cell? wr ⟨g3, k, none⟩ a3)).trans a3, hb⟩ : W.cell? ⟨x, 1, none⟩ = some (.pointer (some ⟨r, 0, none⟩)) ∧ W.cell? ⟨g3, k, none⟩ = some (.int .i64 ak) ∧ Below wr.heap.size wr W))
        go_upto_region 9 with fail
        go_cut [9, 10] from 55 to 96 (fun pq _ wx => ∃ q, pq = .pointer (some ⟨q, 0, none⟩) ∧ wx.heap[q]? = some (Obj.cells #[.int .u64 x0, .int .i64 x1, .int .i64 x2, .int .i64 x3, .int .i64 x4, .int .i64 x5, .bool x6] 24 (0, 0)) ∧ Below wr.heap.size wr wx)
        case first =>
          have hA0 := ((Below.refl wr.heap.size wr).alloc (Nat.le_refl _) (.cells #[.int .u64 0, .int .i64 0, .int .i64 0, .int .i64 0, .int .i64 0, .int .i64 0, .bool false] 24)).drew
          have hH0 : (wr.alloc (.cells #[.int .u64 0, .int .i64 0, .int .i64 0, .int .i64 0, .int .i64 0, .int .i64 0, .bool false] 24)).drew.heap[wr.heap.size]? = some (Obj.cells #[.int .u64 0, .int .i64 0, .int .i64 0, .int .i64 0, .int .i64 0, .int .i64 0, .bool false] 24 (0, 0)) := heap_one wr (.cells #[.int .u64 0, .int .i64 0, .int .i64 0, .int .i64 0, .int .i64 0, .int .i64 0, .bool false] 24)
          go_region_held3 (fun W => W.cell? ⟨x, 1, none⟩ = some (.pointer (some ⟨r, 0, none⟩)) ∧ W.cell? ⟨g3, k, none⟩ = some (.int .i64 ak) ∧ Below wr.heap.size wr W) ((refine KE1.out _ ?_; repeat (first | (with_reducible assumption) | (with_reducible exact Below.refl _ _) | (with_reducible refine Below.drew ?_) | (with_reducible refine Below.setCell ?_ ?_ _) | (with_reducible refine Below.alloc ?_ ?_ _) | exact Nat.le_refl _ | exact hb9.size))) ((go_at_call 108; refine (RHk.out _ ?_).mono ?_; first | (exact hA0; rintro e w' ⟨rfl, hq9⟩; have hb9 := hA0.trans (hq9.mono hA0.size); have hH9 := (hq9.block _ (lt_of_heap hH0)).trans hH0; obtain ⟨cH9, fH9⟩ := hcell hH9) | (exact (Below.refl _ _).drew; rintro e w' ⟨rfl, hq9⟩; have hb9 : Below wr.heap.size wr w' := (Below.refl _ _).drew.trans hq9)))
          · have f1 := heap_one w' (.cells #[.int .u64 x0, .int .i64 x1, .int .i64 x2, .int .i64 x3, .int .i64 x4, .int .i64 x5, .bool x6] 24)
            have f2 := hb9.alloc hb9.size (.cells #[.int .u64 x0, .int .i64 x1, .int .i64 x2, .int .i64 x3, .int .i64 x4, .int .i64 x5, .bool x6] 24)
            generalize w'.alloc (.cells #[.int .u64 x0, .int .i64 x1, .int .i64 x2, .int .i64 x3, .int .i64 x4, .int .i64 x5, .bool x6] 24) = WZ at *
            generalize w'.heap.size = nq at *
            go_wp2_with fail
            go_meet
            exact ⟨_, rfl, f1, f2⟩
          · have f1 := set7 hH9 (.int .u64 x0) (.int .i64 x1) (.int .i64 x2) (.int .i64 x3) (.int .i64 x4) (.int .i64 x5) (.bool x6)
            have f2 := set7_below (.int .u64 x0) (.int .i64 x1) (.int .i64 x2) (.int .i64 x3) (.int .i64 x4) (.int .i64 x5) (.bool x6) hb9 (Nat.le_refl _)
            generalize (((((((w'.setCell ⟨wr.heap.size, 0, none⟩ (.int .u64 x0)).setCell ⟨wr.heap.size, 1, none⟩ (.int .i64 x1)).setCell ⟨wr.heap.size, 2, none⟩ (.int .i64 x2)).setCell ⟨wr.heap.size, 3, none⟩ (.int .i64 x3)).setCell ⟨wr.heap.size, 4, none⟩ (.int .i64 x4)).setCell ⟨wr.heap.size, 5, none⟩ (.int .i64 x5)).setCell ⟨wr.heap.size, 6, none⟩ (.bool x6)) = WZ at *
            go_wp2_with fail
            go_meet
            exact ⟨_, rfl, f1, f2⟩
        case rest =>
          obtain ⟨q, rfl, hq, hbq⟩ := hcut
          have d0 := (hbq.cell (p := ⟨t, 0, none⟩) (World.block_lt_of_cell? wr ⟨t, 0, none⟩ d0)).trans d0
          have d1 := (hbq.cell (p := ⟨t, 1, none⟩) (World.block_lt_of_cell? wr ⟨t, 1, none⟩ d1)).trans d1
          have a1 := (hbq.cell (p := ⟨g1, k, none⟩) (World.block_lt_of_cell? wr ⟨g1, k, none⟩ a1)).trans a1
          have a3 := (hbq.cell (p := ⟨g3, k, none⟩) (World.block_lt_of_cell? wr ⟨g3, k, none⟩ a3)).trans a3
          have q20 := (hbq.cell (p := ⟨g2, k * 7, none⟩) (World.block_lt_of_cell? wr ⟨g2, k * 7, none⟩ q20)).trans q20
          have q21 := (hbq.cell (p := ⟨g2, k * 7 + 1, none⟩) (World.block_lt_of_cell? wr ⟨g2, k * 7 + 1, none⟩ q21)).trans q21
          have q22 := (hbq.cell (p := ⟨g2, k * 7 + 2, none⟩) (World.block_lt_of_cell? wr ⟨g2, k * 7 + 2, none⟩ q22)).trans q22
          have q23 := (hbq.cell (p := ⟨g2, k * 7 + 3, none⟩) (World.block_lt_of_cell? wr ⟨g2, k * 7 + 3, none⟩ q23)).trans q23
          have q24 := (hbq.cell (p := ⟨g2, k * 7 + 4, none⟩) (World.block_lt_of_cell? wr ⟨g2, k * 7 + 4, none⟩ q24)).trans q24
          have q25 := (hbq.cell (p := ⟨g2, k * 7 + 5, none⟩) (World.block_lt_of_cell? wr ⟨g2, k * 7 + 5, none⟩ q25)).trans q25
          have q26 := (hbq.cell (p := ⟨g2, k * 7 + 6, none⟩) (World.block_lt_of_cell? wr ⟨g2, k * 7 + 6, none⟩ q26)).trans q26
          have p0 : wc.cell? ⟨q, 0, none⟩ = some (.int .u64 x0) := by rw [(hcell hq).1]; rfl
          have p1 : wc.cell? ⟨q, 1, none⟩ = some (.int .i64 x1) := by rw [(hcell hq).1]; rfl
          have p2 : wc.cell? ⟨q, 2, none⟩ = some (.int .i64 x2) := by rw [(hcell hq).1]; rfl
          have p3 : wc.cell? ⟨q, 3, none⟩ = some (.int .i64 x3) := by rw [(hcell hq).1]; rfl
          have p4 : wc.cell? ⟨q, 4, none⟩ = some (.int .i64 x4) := by rw [(hcell hq).1]; rfl
          have p5 : wc.cell? ⟨q, 5, none⟩ = some (.int .i64 x5) := by rw [(hcell hq).1]; rfl
          have p6 : wc.cell? ⟨q, 6, none⟩ = some (.bool x6) := by rw [(hcell hq).1]; rfl
          clear KE1 RHk hq
          have KE2 := Lib.hid (fun (W : World) (hb : Below wc.heap.size wc W) => (⟨(hb.cell (p := ⟨t, 0, none⟩) (World.block_lt_of_cell? wc ⟨t, 0, none⟩ d0)).trans d0, (hb.cell (p := ⟨t, 1, none⟩) (World.block_lt_of_cell? wc ⟨t, 1, none⟩ d1)).trans d1, (hb.cell (p := ⟨g1, k, none⟩) (World.block_lt_of_cell? wc ⟨g1, k, none⟩ a1)).trans a1, (hb.cell (p := ⟨g3, k, none⟩) (World.block_lt_of_cell? wc ⟨g3, k, none⟩ a3)).trans a3, (hb.cell (p := ⟨g2, k * 7, none⟩) (World.block_lt_of_cell? wc ⟨g2, k * 7, none⟩ q20)).trans q20, (hb.cell (p := ⟨g2, k * 7 + 1, none⟩) (World.block_lt_of_cell? wc ⟨g2, k * 7 + 1, none⟩ q21)).trans q21, (hb.cell (p := ⟨g2, k * 7 + 2, none⟩) (World.block_lt_of_cell? wc ⟨g2, k * 7 + 2, none⟩ q22)).trans q22, (hb.cell (p := ⟨g2, k * 7 + 3, none⟩) (World.block_lt_of_cell? wc ⟨g2, k * 7 + 3, none⟩ q23)).trans q23, (hb.cell (p := ⟨g2, k * 7 + 4, none⟩) (World.block_lt_of_cell? wc ⟨g2, k * 7 + 4, none⟩ q24)).trans q24, (hb.cell (p := ⟨g2, k * 7 + 5, none⟩) (World.block_lt_of_cell? wc ⟨g2, k * 7 + 5, none⟩ q25)).trans q25, (hb.cell (p := ⟨g2, k * 7 + 6, none⟩) (World.block_lt_of_cell? wc ⟨g2, k * 7 + 6, none⟩ q26)).trans q26, (hb.cell (p := ⟨q, 0, none⟩) (World.block_lt_of_cell? wc ⟨q, 0, none⟩ p0)).trans p0, (hb.cell (p := ⟨q, 1, none⟩) (World.block_lt_of_cell? wc ⟨q, 1, none⟩ p1)).trans p1, (hb.cell (p := ⟨q, 2, none⟩) (World.block_lt_of_cell? wc ⟨q, 2, none⟩ p2)).trans p2, (hb.cell (p := ⟨q, 3, none⟩) (World.block_lt_of_cell? wc ⟨q, 3, none⟩ p3)).trans p3, (hb.cell (p := ⟨q, 4, none⟩) (World.block_lt_of_cell? wc ⟨q, 4, none⟩ p4)).trans p4, (hb.cell (p := ⟨q, 5, none⟩) (World.block_lt_of_cell? wc ⟨q, 5, none⟩ p5)).trans p5, (hb.cell (p := ⟨q, 6, none⟩) (World.block_lt_of_cell? wc ⟨q, 6, none⟩ p6)).trans p6, hb⟩ : W.cell? ⟨t, 0, none⟩ = some (.slice (some ⟨g1, 0, none⟩) m n1) ∧ W.cell? ⟨t, 1, none⟩ = some (.slice (some ⟨g2, 0, none⟩) m n2) ∧ W.cell? ⟨g1, k, none⟩ = some (.int .i64 ak) ∧ W.cell? ⟨g3, k, none⟩ = some (.int .i64 ak) ∧ W.cell? ⟨g2, k * 7, none⟩ = some (.int .u64 x0) ∧ W.cell? ⟨g2, k * 7 + 1, none⟩ = some (.int .i64 x1) ∧ W.cell? ⟨g2, k * 7 + 2, none⟩ = some (.int .i64 x2) ∧ W.cell? ⟨g2, k * 7 + 3, none⟩ = some (.int .i64 x3) ∧ W.cell? ⟨g2, k * 7 + 4, none⟩ = some (.int .i64 x4) ∧ W.cell? ⟨g2, k * 7 + 5, none⟩ = some (.int .i64 x5) ∧ W.cell? ⟨g2, k * 7 + 6, none⟩ = some (.bool x6) ∧ W.cell? ⟨q, 0, none⟩ = some (.int .u64 x0) ∧ W.cell? ⟨q, 1, none⟩ = some (.int .i64 x1) ∧ W.cell? ⟨q, 2, none⟩ = some (.int .i64 x2) ∧ W.cell? ⟨q, 3, none⟩ = some (.int .i64 x3) ∧ W.cell? ⟨q, 4, none⟩ = some (.int .i64 x4) ∧ W.cell? ⟨q, 5, none⟩ = some (.int .i64 x5) ∧ W.cell? ⟨q, 6, none⟩ = some (.bool x6) ∧ Below wc.heap.size wc W))
          have SHW := Lib.hid (fun (W : World) (hb : Below wc.heap.size wc W) => (SHE.out ⟨x0, x1, x2, x3, x4, x5, x6⟩ W).mono (R' := fun e w' => e = .returned (.bool true) ∧ Below wc.heap.size wc w') fun e w' ⟨h1, h2⟩ => ⟨h1, hb.trans (h2.mono hb.size)⟩)
          unfold Hd.val at SHW
          simp only at SHW
          clear SHE
          go_upto_region 10 with fail
          go_region_held3 (fun W => W.cell? ⟨t, 0, none⟩ = some (.slice (some ⟨g1, 0, none⟩) m n1) ∧ W.cell? ⟨t, 1, none⟩ = some (.slice (some ⟨g2, 0, none⟩) m n2) ∧ W.cell? ⟨g1, k, none⟩ = some (.int .i64 ak) ∧ W.cell? ⟨g3, k, none⟩ = some (.int .i64 ak) ∧ W.cell? ⟨g2, k * 7, none⟩ = some (.int .u64 x0) ∧ W.cell? ⟨g2, k * 7 + 1, none⟩ = some (.int .i64 x1) ∧ W.cell? ⟨g2, k * 7 + 2, none⟩ = some (.int .i64 x2) ∧ W.cell? ⟨g2, k * 7 + 3, none⟩ = some (.int .i64 x3) ∧ W.cell? ⟨g2, k * 7 + 4, none⟩ = some (.int .i64 x4) ∧ W.cell? ⟨g2, k * 7 + 5, none⟩ = some (.int .i64 x5) ∧ W.cell? ⟨g2, k * 7 + 6, none⟩ = some (.bool x6) ∧ W.cell? ⟨q, 0, none⟩ = some (.int .u64 x0) ∧ W.cell? ⟨q, 1, none⟩ = some (.int .i64 x1) ∧ W.cell? ⟨q, 2, none⟩ = some (.int .i64 x2) ∧ W.cell? ⟨q, 3, none⟩ = some (.int .i64 x3) ∧ W.cell? ⟨q, 4, none⟩ = some (.int .i64 x4) ∧ W.cell? ⟨q, 5, none⟩ = some (.int .i64 x5) ∧ W.cell? ⟨q, 6, none⟩ = some (.bool x6) ∧ Below wc.heap.size wc W) ((refine KE2.out _ ?_; repeat (first | (with_reducible assumption) | (with_reducible exact Below.refl _ _) | (with_reducible refine Below.drew ?_)))) (first | (go_at_call 96; refine (SHW.out _ ?_).mono ?_; (first | assumption | exact (Below.refl _ _).drew | exact (Below.refl _ _)); rintro e w' ⟨rfl, hb9⟩))
          all_goals
            go_wp2_with fail
            exact ⟨⟨k + 1, by omega, by go_num, hbr.trans ((hbq.trans (hb9.mono hbq.size)).mono hbr.size)⟩, by simp [intOf]; omega⟩
      · obtain rfl : k = m := by omega
        go_wp2_with fail
        go_ret
        exact ⟨rfl, b2.trans (hbr.mono b2.size)⟩
end Go.Proofs.YtomgfdfgildkbaaDoor
/- ArenaPlays: the steps Head; those that write; those that do nothing. -/

namespace Go.Proofs.YtomgfdfgildkbaaDoor
open Go.RowKit Go.BigFrame
set_option linter.unusedVariables false

set_option maxRecDepth 100000 in
set_option maxHeartbeats 8000000 in
theorem step14_any (x a wb r : Nat) (c : Int → Nat) (A : Ar) (wv av : Value) (o : St) (w : World) (tb : Tab w) (h : BothAt w x a wb r c A wv av) (hk : o.kind = 14) : Calls Tryd.prog 60 #[.pointer (some ⟨x, 0, none⟩), o.val] w fun e w' => e = .returned (.bool true) ∧ Below w.heap.size w w' := by
  obtain ⟨o0, o1, o2, o3, o4, o5, o6, ⟨x0, x1, x2, x3, x4, x5, x6⟩⟩ := o
  simp only at hk
  subst hk
  have C1' := Lib.hid (fun (W : World) (hb : Below w.heap.size w W) => head_any a wb A o3 W (tb.below hb) (h.hA.below hb) h.ok)
  have C2' := Lib.hid (fun (W : World) (hb : Below w.heap.size w W) => rhead_any r c A o3 W (h.hR.below hb) h.ok)
  have SHE := Lib.hid (fun (h : Hd) (W : World) => (sameHead_any h h W).mono (R' := fun e w' => e = .returned (.bool true) ∧ Below W.heap.size W w') fun e w' ⟨h1, h2⟩ => ⟨by rw [h1, hdEq_iff.2 rfl], h2⟩)
  have HX := Lib.hid (fun (W : World) (hb : Below w.heap.size w W) => (hcell ((hb.block _ (lt_of_heap h.hx)).trans h.hx)).1)
  clear h tb
  generalize A.hd o3 = h9 at *
  generalize A.isObj o3 = io at *
  obtain ⟨y0, y1, y2, y3, y4, y5, y6⟩ := h9
  unfold Hd.val at C1' C2'
  simp only at C1' C2'
  have SH := Lib.hid (fun (W : World) => SHE.out ⟨y0, y1, y2, y3, y4, y5, y6⟩ W)
  unfold Hd.val at SH
  simp only at SH
  clear SHE
  unfold St.val St.cells
  simp only
  have hO := heap_one w (.cells #[.int .i64 14, .int .i64 o1, .int .i64 o2, .int .i64 o3, .int .i64 o4, .int .i64 o5, .int .u64 o6, .int .u64 x0, .int .i64 x1, .int .i64 x2, .int .i64 x3, .int .i64 x4, .int .i64 x5, .bool x6] 81)
  have b0w := (Below.refl w.heap.size w).alloc (Nat.le_refl _) (.cells #[.int .i64 14, .int .i64 o1, .int .i64 o2, .int .i64 o3, .int .i64 o4, .int .i64 o5, .int .u64 o6, .int .u64 x0, .int .i64 x1, .int .i64 x2, .int .i64 x3, .int .i64 x4, .int .i64 x5, .bool x6] 81)
  go_enter Tryd.func60, Tryd.ntmps60
  go_upto_region 1 with fail
  generalize w.alloc (.cells #[.int .i64 14, .int .i64 o1, .int .i64 o2, .int .i64 o3, .int .i64 o4, .int .i64 o5, .int .u64 o6, .int .u64 x0, .int .i64 x1, .int .i64 x2, .int .i64 x3, .int .i64 x4, .int .i64 x5, .bool x6] 81) = w1 at *
  have C1 := Lib.hid (fun (W : World) (hb : Below w1.heap.size w1 W) => C1'.out W (b0w.trans (hb.mono b0w.size)))
  have C2 := Lib.hid (fun (W : World) (hb : Below w1.heap.size w1 W) => C2'.out W (b0w.trans (hb.mono b0w.size)))
  have BF := Lib.hid (fun (W : World) (hb : Below w1.heap.size w1 W) => b0w.trans (hb.mono b0w.size))
  generalize hqe : w.heap.size = q at *
  have HQ := Lib.hid hqe
  clear hqe
  obtain ⟨cO, fO⟩ := hcell hO
  have cX := HX.out _ b0w
  have cx0 : w1.cell? ⟨x, 0, none⟩ = some (.pointer (some ⟨a, 0, none⟩)) := by rw [cX]; rfl
  have cx1 : w1.cell? ⟨x, 1, none⟩ = some (.pointer (some ⟨r, 0, none⟩)) := by rw [cX]; rfl
  have co3 : w1.cell? ⟨q, 3, none⟩ = some (.int .i64 o3) := by rw [cO]; rfl
  clear C1' C2' HX b0w cX
  have KE17 := Lib.hid (fun (W : World) (hb : Below w1.heap.size w1 W) => (⟨(hb.cell (p := ⟨x, 0, none⟩) (World.block_lt_of_cell? w1 ⟨x, 0, none⟩ cx0)).trans cx0, (hb.cell (p := ⟨x, 1, none⟩) (World.block_lt_of_cell? w1 ⟨x, 1, none⟩ cx1)).trans cx1, (hb.cell (p := ⟨q, 3, none⟩) (World.block_lt_of_cell? w1 ⟨q, 3, none⟩ co3)).trans co3, hb⟩ : W.cell? ⟨x, 0, none⟩ = some (.pointer (some ⟨a, 0, none⟩)) ∧ W.cell? ⟨x, 1, none⟩ = some (.pointer (some ⟨r, 0, none⟩)) ∧ W.cell? ⟨q, 3, none⟩ = some (.int .i64 o3) ∧ Below w1.heap.size w1 W))
  go_upto_region 17 with fail
  go_cut [10, 11] from 140 to 149 (fun pq ok wx => ok = .bool io ∧ ∃ p, pq = .pointer (some ⟨p, 0, none⟩) ∧ w1.heap.size ≤ p ∧ wx.heap[p]? = some (Obj.cells #[.int .u64 y0, .int .i64 y1, .int .i64 y2, .int .i64 y3, .int .i64 y4, .int .i64 y5, .bool y6] 24 (0, 0)) ∧ Below w1.heap.size w1 wx)
  case first =>
    have hA0 := ((Below.refl w1.heap.size w1).alloc (Nat.le_refl _) (.cells #[.int .u64 0, .int .i64 0, .int .i64 0, .int .i64 0, .int .i64 0, .int .i64 0, .bool false] 24)).drew
    have hH0 : (w1.alloc (.cells #[.int .u64 0, .int .i64 0, .int .i64 0, .int .i64 0, .int .i64 0, .int .i64 0, .bool false] 24)).drew.heap[w1.heap.size]? = some (Obj.cells #[.int .u64 0, .int .i64 0, .int .i64 0, .int .i64 0, .int .i64 0, .int .i64 0, .bool false] 24 (0, 0)) := heap_one w1 (.cells #[.int .u64 0, .int .i64 0, .int .i64 0, .int .i64 0, .int .i64 0, .int .i64 0, .bool false] 24)
    go_region_held3 (fun W => W.cell? ⟨x, 0, none⟩ = some (.pointer (some ⟨a, 0, none⟩)) ∧ W.cell? ⟨x, 1, none⟩ = some (.pointer (some ⟨r, 0, none⟩)) ∧ W.cell? ⟨q, 3, none⟩ = some (.int .i64 o3) ∧ Below w1.heap.size w1 W) ((refine KE17.out _ ?_; repeat (first | (with_reducible assumption) | (with_reducible exact Below.refl _ _) | (with_reducible refine Below.drew ?_) | (with_reducible refine Below.setCell ?_ ?_ _) | (with_reducible refine Below.alloc ?_ ?_ _) | exact Nat.le_refl _ | exact hb9.size))) ((go_at_call 107; refine (C1.out _ ?_).mono ?_; first | (exact hA0; rintro e w' ⟨rfl, hq9⟩; have hb9 := hA0.trans (hq9.mono hA0.size); have hH9 := (hq9.block _ (lt_of_heap hH0)).trans hH0; obtain ⟨cH9, fH9⟩ := hcell hH9) | (exact (Below.refl _ _).drew; rintro e w' ⟨rfl, hq9⟩; have hb9 : Below w1.heap.size w1 w' := (Below.refl _ _).drew.trans hq9)))
    · have f1 := heap_one w' (.cells #[.int .u64 y0, .int .i64 y1, .int .i64 y2, .int .i64 y3, .int .i64 y4, .int .i64 y5, .bool y6] 24)
      have f2 := hb9.alloc hb9.size (.cells #[.int .u64 y0, .int .i64 y1, .int .i64 y2, .int .i64 y3, .int .i64 y4, .int .i64 y5, .bool y6] 24)
      have f3 := hb9.size
      generalize w'.alloc (.cells #[.int .u64 y0, .int .i64 y1, .int .i64 y2, .int .i64 y3, .int .i64 y4, .int .i64 y5, .bool y6] 24) = WZ at *
      generalize w'.heap.size = nq at *
      go_wp2_with fail
      go_meet
      exact ⟨rfl, _, rfl, f3, f1, f2⟩
    · have f1 := set7 hH9 (.int .u64 y0) (.int .i64 y1) (.int .i64 y2) (.int .i64 y3) (.int .i64 y4) (.int .i64 y5) (.bool y6)
      have f2 := set7_below (.int .u64 y0) (.int .i64 y1) (.int .i64 y2) (.int .i64 y3) (.int .i64 y4) (.int .i64 y5) (.bool y6) hb9 (Nat.le_refl _)
      generalize (((((((w'.setCell ⟨w1.heap.size, 0, none⟩ (.int .u64 y0)).setCell ⟨w1.heap.size, 1, none⟩ (.int .i64 y1)).setCell ⟨w1.heap.size, 2, none⟩ (.int .i64 y2)).setCell ⟨w1.heap.size, 3, none⟩ (.int .i64 y3)).setCell ⟨w1.heap.size, 4, none⟩ (.int .i64 y4)).setCell ⟨w1.heap.size, 5, none⟩ (.int .i64 y5)).setCell ⟨w1.heap.size, 6, none⟩ (.bool y6)) = WZ at *
      go_wp2_with fail
      go_meet
      exact ⟨rfl, _, rfl, Nat.le_refl _, f1, f2⟩
  case rest =>
    obtain ⟨rfl, p1, rfl, hp1, hH1, hb1⟩ := hcut
    have cx1' := (hb1.cell (p := ⟨x, 1, none⟩) (World.block_lt_of_cell? w1 ⟨x, 1, none⟩ cx1)).trans cx1
    have co3' := (hb1.cell (p := ⟨q, 3, none⟩) (World.block_lt_of_cell? w1 ⟨q, 3, none⟩ co3)).trans co3
    have C3 := Lib.hid (fun (W : World) (hb : Below wc.heap.size wc W) => C2.out W (hb1.trans (hb.mono hb1.size)))
    clear C1 C2 KE17 cO fO hO cx0 cx1 co3
    have KE18 := Lib.hid (fun (W : World) (hb : Below wc.heap.size wc W) => (⟨(hb.cell (p := ⟨x, 1, none⟩) (World.block_lt_of_cell? wc ⟨x, 1, none⟩ cx1')).trans cx1', (hb.cell (p := ⟨q, 3, none⟩) (World.block_lt_of_cell? wc ⟨q, 3, none⟩ co3')).trans co3', hb⟩ : W.cell? ⟨x, 1, none⟩ = some (.pointer (some ⟨r, 0, none⟩)) ∧ W.cell? ⟨q, 3, none⟩ = some (.int .i64 o3) ∧ Below wc.heap.size wc W))
    go_upto_region 18 with fail
    go_cut [12, 13] from 150 to 159 (fun pq ok wx => ok = .bool io ∧ ∃ p, pq = .pointer (some ⟨p, 0, none⟩) ∧ wc.heap.size ≤ p ∧ wx.heap[p]? = some (Obj.cells #[.int .u64 y0, .int .i64 y1, .int .i64 y2, .int .i64 y3, .int .i64 y4, .int .i64 y5, .bool y6] 24 (0, 0)) ∧ Below wc.heap.size wc wx)
    case first =>
      have hA0 := ((Below.refl wc.heap.size wc).alloc (Nat.le_refl _) (.cells #[.int .u64 0, .int .i64 0, .int .i64 0, .int .i64 0, .int .i64 0, .int .i64 0, .bool false] 24)).drew
      have hH0 : (wc.alloc (.cells #[.int .u64 0, .int .i64 0, .int .i64 0, .int .i64 0, .int .i64 0, .int .i64 0, .bool false] 24)).drew.heap[wc.heap.size]? = some (Obj.cells #[.int .u64 0, .int .i64 0, .int .i64 0, .int .i64 0, .int .i64 0, .int .i64 0, .bool false] 24 (0, 0)) := heap_one wc (.cells #[.int .u64 0, .int .i64 0, .int .i64 0, .int .i64 0, .int .i64 0, .int .i64 0, .bool false] 24)
      go_region_held3 (fun W => W.cell? ⟨x, 1, none⟩ = some (.pointer (some ⟨r, 0, none⟩)) ∧ W.cell? ⟨q, 3, none⟩ = some (.int .i64 o3) ∧ Below wc.heap.size wc W) ((refine KE18.out _ ?_; repeat (first | (with_reducible assumption) | (with_reducible exact Below.refl _ _) | (with_reducible refine Below.drew ?_) | (with_reducible refine Below.setCell ?_ ?_ _) | (with_reducible refine Below.alloc ?_ ?_ _) | exact Nat.le_refl _ | exact hb9.size))) ((go_at_call 108; refine (C3.out _ ?_).mono ?_; first | (exact hA0; rintro e w' ⟨rfl, hq9⟩; have hb9 := hA0.trans (hq9.mono hA0.size); have hH9 := (hq9.block _ (lt_of_heap hH0)).trans hH0; obtain ⟨cH9, fH9⟩ := hcell hH9) | (exact (Below.refl _ _).drew; rintro e w' ⟨rfl, hq9⟩; have hb9 : Below wc.heap.size wc w' := (Below.refl _ _).drew.trans hq9)))
      · have f1 := heap_one w' (.cells #[.int .u64 y0, .int .i64 y1, .int .i64 y2, .int .i64 y3, .int .i64 y4, .int .i64 y5, .bool y6] 24)
        have f2 := hb9.alloc hb9.size (.cells #[.int .u64 y0, .int .i64 y1, .int .i64 y2, .int .i64 y3, .int .i64 y4, .int .i64 y5, .bool y6] 24)
        have f3 := hb9.size
        generalize w'.alloc (.cells #[.int .u64 y0, .int .i64 y1, .int .i64 y2, .int .i64 y3, .int .i64 y4, .int .i64 y5, .bool y6] 24) = WZ at *
        generalize w'.heap.size = nq at *
        go_wp2_with fail
        go_meet
        exact ⟨rfl, _, rfl, f3, f1, f2⟩
      · have f1 := set7 hH9 (.int .u64 y0) (.int .i64 y1) (.int .i64 y2) (.int .i64 y3) (.int .i64 y4) (.int .i64 y5) (.bool y6)
        have f2 := set7_below (.int .u64 y0) (.int .i64 y1) (.int .i64 y2) (.int .i64 y3) (.int .i64 y4) (.int .i64 y5) (.bool y6) hb9 (Nat.le_refl _)
        generalize (((((((w'.setCell ⟨wc.heap.size, 0, none⟩ (.int .u64 y0)).setCell ⟨wc.heap.size, 1, none⟩ (.int .i64 y1)).setCell ⟨wc.heap.size, 2, none⟩ (.int .i64 y2)).setCell ⟨wc.heap.size, 3, none⟩ (.int .i64 y3)).setCell ⟨wc.heap.size, 4, none⟩ (.int .i64 y4)).setCell ⟨wc.heap.size, 5, none⟩ (.int .i64 y5)).setCell ⟨wc.heap.size, 6, none⟩ (.bool y6)) = WZ at *
        go_wp2_with fail
        go_meet
        exact ⟨rfl, _, rfl, Nat.le_refl _, f1, f2⟩
    case rest =>
      obtain ⟨rfl, p2, rfl, hp2, hH2, hb2⟩ := hcut
      rename_i wd
      have hH1' := (hb2.block _ (lt_of_heap hH1)).trans hH1
      obtain ⟨c1, f1⟩ := hcell hH1'
      obtain ⟨c2, f2⟩ := hcell hH2
      have hb3 := hb1.trans (hb2.mono hb1.size)
      clear hH1 hH1' hH2 hb1 hb2
      go_wp2_with fail
      refine (SH.out _).mono ?_
      rintro e w5 ⟨rfl, hq⟩
      go_wp2_with fail
      go_ret
      exact ⟨rfl, by rw [HQ.out]; exact BF.out _ (hb3.trans (hq.mono hb3.size))⟩

theorem writes_any (x a wb r : Nat) (c : Int → Nat) (A : Ar) (wv av : Value) (o : St) (w : World) (tb : Tab w) (h : BothAt w x a wb r c A wv av) (sp : Sep x a wb r c) (bd : o.Bd) (h1 : 1 ≤ o.kind) (h9 : o.kind ≤ 9) : Calls Tryd.prog 100 #[.pointer (some ⟨x, 0, none⟩), o.val] w fun e w' => e = .returned (.bool true) ∧ BothAt w' x a wb r c (A.step o) wv av ∧ Only (sfp a wb r c) w w' := by
  by_cases k1 : o.kind = 1
  · exact writes1 x a wb r c A wv av o w tb h sp bd k1
  by_cases k2 : o.kind = 2
  · exact writes2 x a wb r c A wv av o w tb h sp bd k2
  by_cases k3 : o.kind = 3
  · exact writes3 x a wb r c A wv av o w tb h sp bd k3
  by_cases k4 : o.kind = 4
  · exact writes4 x a wb r c A wv av o w tb h sp bd k4
  by_cases k5 : o.kind = 5
  · exact writes5 x a wb r c A wv av o w tb h sp bd k5
  by_cases k6 : o.kind = 6
  · exact writes6 x a wb r c A wv av o w tb h sp bd k6
  by_cases k7 : o.kind = 7
  · exact writes7 x a wb r c A wv av o w tb h sp bd k7
  by_cases k8 : o.kind = 8
  · exact writes8 x a wb r c A wv av o w tb h sp bd k8
  exact writes9 x a wb r c A wv av o w tb h sp bd (by simp; omega)
set_option maxRecDepth 100000 in
set_option maxHeartbeats 4000000 in
theorem stepW_any (x a wb r : Nat) (c : Int → Nat) (A : Ar) (wv av : Value) (o : St) (w : World) (tb : Tab w) (h : BothAt w x a wb r c A wv av) (sp : Sep x a wb r c) (bd : o.Bd) (h1 : 1 ≤ o.kind) (h9 : o.kind ≤ 9) : Calls Tryd.prog 60 #[.pointer (some ⟨x, 0, none⟩), o.val] w fun e w' => e = .returned (.bool true) ∧ BothAt w' x a wb r c (A.step o) wv av ∧ Only (sfp a wb r c) w w' := by
  have WR := Lib.hid (fun (W : World) (hb : Below w.heap.size w W) => (writes_any x a wb r c A wv av o W (tb.below hb) (h.below hb) sp bd h1 h9).mono (R' := fun e w' => e = .returned (.bool true) ∧ BothAt w' x a wb r c (A.step o) wv av ∧ Only (sfp a wb r c) w w') fun e w' ⟨e1, e2, e3⟩ => ⟨e1, e2, (Only.of_below hb).trans e3⟩)
  clear h tb bd
  generalize A.step o = A' at *
  obtain ⟨o0, o1, o2, o3, o4, o5, o6, ⟨x0, x1, x2, x3, x4, x5, x6⟩⟩ := o
  unfold St.val St.cells at *
  simp only at *
  have d1 : decide (1 ≤ o0) = true := by simpa using h1
  have d9 : decide (o0 ≤ 9) = true := by simpa using h9
  have hO := heap_one w (.cells #[.int .i64 o0, .int .i64 o1, .int .i64 o2, .int .i64 o3, .int .i64 o4, .int .i64 o5, .int .u64 o6, .int .u64 x0, .int .i64 x1, .int .i64 x2, .int .i64 x3, .int .i64 x4, .int .i64 x5, .bool x6] 81)
  have b0w := (Below.refl w.heap.size w).alloc (Nat.le_refl _) (.cells #[.int .i64 o0, .int .i64 o1, .int .i64 o2, .int .i64 o3, .int .i64 o4, .int .i64 o5, .int .u64 o6, .int .u64 x0, .int .i64 x1, .int .i64 x2, .int .i64 x3, .int .i64 x4, .int .i64 x5, .bool x6] 81)
  go_enter Tryd.func60, Tryd.ntmps60
  go_upto_region 1 with fail
  generalize w.alloc (.cells #[.int .i64 o0, .int .i64 o1, .int .i64 o2, .int .i64 o3, .int .i64 o4, .int .i64 o5, .int .u64 o6, .int .u64 x0, .int .i64 x1, .int .i64 x2, .int .i64 x3, .int .i64 x4, .int .i64 x5, .bool x6] 81) = w1 at *
  obtain ⟨cO, fO⟩ := hcell hO
  go_wp2_with fail
  refine (WR.out _ b0w).mono ?_
  rintro e w2 ⟨rfl, hB, hOn⟩
  go_wp2_with fail
  go_ret
  exact ⟨rfl, hB, hOn⟩

set_option maxRecDepth 100000 in
set_option maxHeartbeats 8000000 in
theorem stepN_any (x a wb r : Nat) (c : Int → Nat) (A : Ar) (p : Option Addr) (nw cap : Nat) (av : Value) (o : St) (w : World) (h : BothAt w x a wb r c A (.slice p nw cap) av) (hk : ∀ k ∈ [10, 11, 12, 13, 14, 15, 16, 17, 18, 19], o.kind ≠ k) (h9 : ¬ (1 ≤ o.kind ∧ o.kind ≤ 9)) (h20 : ¬ (o.kind = 20 ∧ nw < 64)) (h21 : ¬ (o.kind = 21 ∧ 0 < nw)) : Calls Tryd.prog 60 #[.pointer (some ⟨x, 0, none⟩), o.val] w fun e w' => e = .returned (.bool true) ∧ Below w.heap.size w w' := by
  have HX := Lib.hid (fun (W : World) (hb : Below w.heap.size w W) => (hcell ((hb.block _ (lt_of_heap h.hx)).trans h.hx)).1)
  clear h
  obtain ⟨o0, o1, o2, o3, o4, o5, o6, ⟨x0, x1, x2, x3, x4, x5, x6⟩⟩ := o
  unfold St.val St.cells at *
  simp only at *
  have m10 : (o0 == 10) = false := by simpa using hk 10 (by simp)
  have m11 : (o0 == 11) = false := by simpa using hk 11 (by simp)
  have m12 : (o0 == 12) = false := by simpa using hk 12 (by simp)
  have m13 : (o0 == 13) = false := by simpa using hk 13 (by simp)
  have m14 : (o0 == 14) = false := by simpa using hk 14 (by simp)
  have m15 : (o0 == 15) = false := by simpa using hk 15 (by simp)
  have m16 : (o0 == 16) = false := by simpa using hk 16 (by simp)
  have m17 : (o0 == 17) = false := by simpa using hk 17 (by simp)
  have m18 : (o0 == 18) = false := by simpa using hk 18 (by simp)
  have m19 : (o0 == 19) = false := by simpa using hk 19 (by simp)
  have hO := heap_one w (.cells #[.int .i64 o0, .int .i64 o1, .int .i64 o2, .int .i64 o3, .int .i64 o4, .int .i64 o5, .int .u64 o6, .int .u64 x0, .int .i64 x1, .int .i64 x2, .int .i64 x3, .int .i64 x4, .int .i64 x5, .bool x6] 81)
  have b0w := (Below.refl w.heap.size w).alloc (Nat.le_refl _) (.cells #[.int .i64 o0, .int .i64 o1, .int .i64 o2, .int .i64 o3, .int .i64 o4, .int .i64 o5, .int .u64 o6, .int .u64 x0, .int .i64 x1, .int .i64 x2, .int .i64 x3, .int .i64 x4, .int .i64 x5, .bool x6] 81)
  have HK9 := Lib.hid h9
  have HK20 := Lib.hid h20
  have HK21 := Lib.hid h21
  clear hk h9 h20 h21
  go_enter Tryd.func60, Tryd.ntmps60
  go_upto_region 1 with fail
  generalize w.alloc (.cells #[.int .i64 o0, .int .i64 o1, .int .i64 o2, .int .i64 o3, .int .i64 o4, .int .i64 o5, .int .u64 o6, .int .u64 x0, .int .i64 x1, .int .i64 x2, .int .i64 x3, .int .i64 x4, .int .i64 x5, .bool x6] 81) = w1 at *
  obtain ⟨cO, fO⟩ := hcell hO
  have cX := HX.out _ b0w
  go_cut [28] from 29 to 36 (fun s wx => s = .bool false ∧ wx = w1)
  case first =>
    by_cases h1 : 1 ≤ o0
    · have d1 : decide (1 ≤ o0) = true := by simpa using h1
      have d9 : decide (o0 ≤ 9) = false := by have := HK9.out; simp; omega
      go_wp2_with fail
      go_meet
      exact ⟨rfl, rfl⟩
    · have d1 : decide (1 ≤ o0) = false := by simpa using h1
      go_wp2_with fail
      go_meet
      exact ⟨rfl, rfl⟩
  case rest =>
    obtain ⟨rfl, rfl⟩ := hcut
    go_upto_region 37 with fail
    go_cut [296] from 297 to 307 (fun s wx => s = .bool false ∧ wx = wc)
    case first =>
      by_cases e20 : o0 = 20
      · subst e20
        have d1 : decide ((nw : Int) < 64) = false := by have := HK20.out; simp; omega
        go_wp2_with fail
        go_meet
        exact ⟨rfl, rfl⟩
      · have m20 : (o0 == 20) = false := by simpa using e20
        go_wp2_with fail
        go_meet
        exact ⟨rfl, rfl⟩
    case rest =>
      obtain ⟨rfl, rfl⟩ := hcut
      by_cases e21 : o0 = 21
      · subst e21
        obtain rfl : nw = 0 := by have := HK21.out; omega
        go_wp2_with fail
        go_ret
        exact ⟨rfl, b0w⟩
      · have m21 : (o0 == 21) = false := by simpa using e21
        go_wp2_with fail
        go_ret
        exact ⟨rfl, b0w⟩

end Go.Proofs.YtomgfdfgildkbaaDoor
/- ArenaPlays: the step that takes a walk and keeps it; the one that goes through a kept one. -/

namespace Go.Proofs.YtomgfdfgildkbaaDoor
open Go.RowKit Go.BigFrame
set_option linter.unusedVariables false

theorem infoFn : (Tryd.prog.info? 158).map (fun i => (i.zero, i.size, i.bytes)) = some (some .nilFunc, 1, 8) := by kernel_rfl
theorem ty_ne {w : World} {j k : Nat} {c1 c2 : Array Value} {t1 t2 : TypeId} {f1 f2 : Nat × Nat} (h1 : w.heap[j]? = some (.cells c1 t1 f1)) (h2 : w.heap[k]? = some (.cells c2 t2 f2)) (h : t1 ≠ t2) : j ≠ k := by
  rintro rfl
  rw [h1] at h2
  cases h2
  exact h rfl
theorem row_block {w : World} {B : Nat} {e : TypeId} {sz : Nat} {v : Value} {n : Nat} {xs : List Value} (h : w.ownsRow B e sz v n xs) {k : Nat} (hk : v.ownBlock = some k) : ∃ cs, w.heap[k]? = some (.cells cs e (0, 0)) := by
  rcases h.2 with ⟨h1, _⟩ | ⟨g, cap, cur, hv, _, hg, _⟩
  · rw [h1] at hk; cases hk
  · rw [hv] at hk; cases hk; exact ⟨cur, hg⟩
theorem objects_wk (b : Nat) (s : Int) (w : World) : Calls Tryd.prog 115 #[.pointer (some ⟨b, 0, none⟩), .int .i64 s] w fun e w' => ∃ ba bs, e = .returned (Wk.val ⟨s, ba, bs⟩) ∧ w.heap.size ≤ ba ∧ w.heap.size ≤ bs ∧ w'.heap[ba]? = some (.cells #[.pointer (some ⟨b, 0, none⟩)] 47 (0, 0)) ∧ w'.heap[bs]? = some (.cells #[.int .i64 s] 3 (0, 0)) ∧ Below w.heap.size w w' := by
  refine (objects_mk b s w).mono ?_
  rintro e w' ⟨rfl, rfl⟩
  obtain ⟨h1, h2⟩ := heap_two w (.cells #[.pointer (some ⟨b, 0, none⟩)] 47) (.cells #[.int .i64 s] 3)
  exact ⟨_, _, rfl, Nat.le_refl _, Nat.le_succ _, h1, h2, ((Below.refl _ _).alloc (Nat.le_refl _) _).alloc (by simp) _⟩
set_option maxRecDepth 100000 in
set_option maxHeartbeats 8000000 in
theorem step20_on (x a wb r : Nat) (c : Int → Nat) (A : Ar) (wv av : Value) (B : Nat) (Q : List Wk) (o : St) (w : World) (h : BothAt w x a wb r c A wv av) (sp : Sep x a wb r c) (hw : WkAt w a B Q wv av) (nav : ∀ q ∈ Q, av.ownBlock ≠ some q.bs) (hB : B ≤ w.heap.size) (hk : o.kind = 20) (hl : Q.length < 64) :
    Calls Tryd.prog 60 #[.pointer (some ⟨x, 0, none⟩), o.val] w fun e w' => e = .returned (.bool true) ∧ ∃ ba bs wv' av', BothAt w' x a wb r c A wv' av' ∧ WkAt w' a B (Q ++ [⟨o.s, ba, bs⟩]) wv' av' ∧ w.heap.size ≤ ba ∧ w.heap.size ≤ bs ∧ (∀ k, wv'.ownBlock = some k → wv.ownBlock = some k ∨ w.heap.size ≤ k) ∧ (∀ k, av'.ownBlock = some k → av.ownBlock = some k ∨ (w.heap.size ≤ k ∧ k ≠ bs)) ∧ Only (x :: (wv.ownBlock.toList ++ av.ownBlock.toList)) w w' := by
  obtain ⟨o0, o1, o2, o3, o4, o5, o6, ⟨x0, x1, x2, x3, x4, x5, x6⟩⟩ := o
  simp only at hk ⊢
  subst hk
  obtain ⟨i1, hi1, hz1, hs1, hy1⟩ := info_parts infoFn
  obtain ⟨i2, hi2, hz2, hs2, hy2⟩ := info_parts infoInt
  have OM := Lib.hid (fun (W : World) => objects_wk a o2 W)
  have EF := eql_func
  have lx := lt_of_heap h.hx
  have nwx : ∀ k, wv.ownBlock = some k → k ≠ x ∧ k < w.heap.size := fun k hk => by obtain ⟨cs, hc⟩ := row_block hw.r1 hk; exact ⟨ty_ne hc h.hx (by decide), lt_of_heap hc⟩
  have nax : ∀ k, av.ownBlock = some k → k ≠ x ∧ k < w.heap.size := fun k hk => by obtain ⟨cs, hc⟩ := row_block hw.r2 hk; exact ⟨ty_ne hc h.hx (by decide), lt_of_heap hc⟩
  have nwa : ∀ k j, wv.ownBlock = some k → av.ownBlock = some j → k ≠ j := fun k j hk hj => by
    obtain ⟨cs, hc⟩ := row_block hw.r1 hk
    obtain ⟨cs2, hc2⟩ := row_block hw.r2 hj
    exact ty_ne hc hc2 (by decide)
  have rft : ∀ j ∈ rfp r c, ∃ cs t, w.heap[j]? = some (.cells cs t (0, 0)) ∧ (t = 157 ∨ t = 22) := fun j hj => by
    simp only [rfp, List.mem_cons, List.not_mem_nil, or_false] at hj
    rcases hj with rfl | rfl | rfl | rfl | rfl
    · exact ⟨_, _, h.hR.st, .inl rfl⟩
    · exact ⟨_, _, h.hR.ws 1 rfl, .inr rfl⟩
    · exact ⟨_, _, h.hR.ws 2 rfl, .inr rfl⟩
    · exact ⟨_, _, h.hR.ws 3 rfl, .inr rfl⟩
    · exact ⟨_, _, h.hR.ws 4 rfl, .inr rfl⟩
  have FAR : ∀ k ∈ x :: (wv.ownBlock.toList ++ av.ownBlock.toList), k ≠ a ∧ k ≠ wb ∧ k ∉ rfp r c ∧ ∀ q ∈ Q, k ≠ q.ba ∧ k ≠ q.bs := fun k hk => by
    simp only [List.mem_cons, List.mem_append, Option.mem_toList] at hk
    rcases hk with rfl | hk | hk
    · exact ⟨sp.xa, sp.xw, sp.xr, fun q hq => ⟨ty_ne h.hx (hw.b1 q hq) (by decide), ty_ne h.hx (hw.b2 q hq) (by decide)⟩⟩
    · obtain ⟨cs, hc⟩ := row_block hw.r1 hk
      refine ⟨ty_ne hc h.hA.st (by decide), ty_ne hc h.hA.ws (by decide), fun hm => ?_, fun q hq => ⟨ty_ne hc (hw.b1 q hq) (by decide), ty_ne hc (hw.b2 q hq) (by decide)⟩⟩
      obtain ⟨cs2, t2, h2, e2⟩ := rft k hm
      rcases e2 with rfl | rfl
      · exact ty_ne hc h2 (by decide) rfl
      · exact ty_ne hc h2 (by decide) rfl
    · obtain ⟨cs, hc⟩ := row_block hw.r2 hk
      refine ⟨ty_ne hc h.hA.st (by decide), ty_ne hc h.hA.ws (by decide), fun hm => ?_, fun q hq => ⟨ty_ne hc (hw.b1 q hq) (by decide), fun e => nav q hq (by rw [hk, e])⟩⟩
      obtain ⟨cs2, t2, h2, e2⟩ := rft k hm
      rcases e2 with rfl | rfl
      · exact ty_ne hc h2 (by decide) rfl
      · exact ty_ne hc h2 (by decide) rfl
  have FARQ := Lib.hid FAR
  have hx := h.hx
  have HH := Lib.hid h
  have HW := Lib.hid hw
  have hr1 := hw.r1
  have hr2 := hw.r2
  clear h hw FAR rft nav sp
  obtain ⟨S, hS⟩ : ∃ S, S = x :: (wv.ownBlock.toList ++ av.ownBlock.toList) := ⟨_, rfl⟩
  have mx : x ∈ S := by rw [hS]; simp
  have mw : ∀ k, wv.ownBlock = some k → k ∈ S := fun k hk => by rw [hS]; simp [hk]
  have ma : ∀ k, av.ownBlock = some k → k ∈ S := fun k hk => by rw [hS]; simp [hk]
  rw [← hS] at FARQ ⊢
  clear hS
  obtain ⟨pw, cw, rfl⟩ := row_form hr1
  obtain ⟨pa, ca, rfl⟩ := row_form hr2
  have d64 : decide ((Q.length : Int) < 64) = true := by simp; omega
  unfold St.val St.cells
  simp only
  have hO := heap_one w (.cells #[.int .i64 20, .int .i64 o1, .int .i64 o2, .int .i64 o3, .int .i64 o4, .int .i64 o5, .int .u64 o6, .int .u64 x0, .int .i64 x1, .int .i64 x2, .int .i64 x3, .int .i64 x4, .int .i64 x5, .bool x6] 81)
  have b0w := (Below.refl w.heap.size w).alloc (Nat.le_refl _) (.cells #[.int .i64 20, .int .i64 o1, .int .i64 o2, .int .i64 o3, .int .i64 o4, .int .i64 o5, .int .u64 o6, .int .u64 x0, .int .i64 x1, .int .i64 x2, .int .i64 x3, .int .i64 x4, .int .i64 x5, .bool x6] 81)
  have hz1w : (w.alloc (.cells #[.int .i64 20, .int .i64 o1, .int .i64 o2, .int .i64 o3, .int .i64 o4, .int .i64 o5, .int .u64 o6, .int .u64 x0, .int .i64 x1, .int .i64 x2, .int .i64 x3, .int .i64 x4, .int .i64 x5, .bool x6] 81)).heap.size = w.heap.size + 1 := by simp
  go_enter Tryd.func60, Tryd.ntmps60
  go_upto_region 1 with fail
  generalize w.alloc (.cells #[.int .i64 20, .int .i64 o1, .int .i64 o2, .int .i64 o3, .int .i64 o4, .int .i64 o5, .int .u64 o6, .int .u64 x0, .int .i64 x1, .int .i64 x2, .int .i64 x3, .int .i64 x4, .int .i64 x5, .bool x6] 81) = w1 at *
  have hx1 := (b0w.block _ lx).trans hx
  obtain ⟨cO, fO⟩ := hcell hO
  obtain ⟨cX, fX⟩ := hcell hx1
  have cx0 : w1.cell? ⟨x, 0, none⟩ = some (.pointer (some ⟨a, 0, none⟩)) := by rw [cX]; rfl
  have co2 : w1.cell? ⟨w.heap.size, 2, none⟩ = some (.int .i64 o2) := by rw [cO]; rfl
  go_upto_region 38 with fail
  have KE := Lib.hid (fun (W : World) (hb : Below w1.heap.size w1 W) => (⟨(hb.cell (p := ⟨x, 0, none⟩) (World.block_lt_of_cell? w1 ⟨x, 0, none⟩ cx0)).trans cx0, (hb.cell (p := ⟨w.heap.size, 2, none⟩) (World.block_lt_of_cell? w1 ⟨w.heap.size, 2, none⟩ co2)).trans co2, hb⟩ : W.cell? ⟨x, 0, none⟩ = some (.pointer (some ⟨a, 0, none⟩)) ∧ W.cell? ⟨w.heap.size, 2, none⟩ = some (.int .i64 o2) ∧ Below w1.heap.size w1 W))
  go_cut [27] from 308 to 314 (fun sl wx => ∃ ba bs, sl = Wk.val ⟨o2, ba, bs⟩ ∧ w1.heap.size ≤ ba ∧ w1.heap.size ≤ bs ∧ wx.heap[ba]? = some (Obj.cells #[.pointer (some ⟨a, 0, none⟩)] 47 (0, 0)) ∧ wx.heap[bs]? = some (Obj.cells #[.int .i64 o2] 3 (0, 0)) ∧ Below w1.heap.size w1 wx)
  case first =>
    go_region_held3 (fun W => W.cell? ⟨x, 0, none⟩ = some (.pointer (some ⟨a, 0, none⟩)) ∧ W.cell? ⟨w.heap.size, 2, none⟩ = some (.int .i64 o2) ∧ Below w1.heap.size w1 W) ((refine KE.out _ ?_; repeat (first | (with_reducible assumption) | (with_reducible exact Below.refl _ _) | (with_reducible refine Below.drew ?_)))) (first | (go_at_call 115; refine (OM.out _).mono ?_; rintro e w' ⟨ba, bs, rfl, g1, g2, g3, g4, hq9⟩; have hb9 : Below w1.heap.size w1 w' := by (first | exact (Below.refl _ _).drew.trans hq9 | exact hq9)))
    all_goals
      go_wp2_with fail
      go_meet
      exact ⟨_, _, rfl, g1, g2, g3, g4, hb9⟩
  case rest =>
    obtain ⟨ba, bs, rfl, g1, g2, g3, g4, hbc⟩ := hcut
    have bF := b0w.trans (hbc.mono b0w.size)
    have hxc := (hbc.block _ (lt_of_heap hx1)).trans hx1
    have hOc := (hbc.block _ (lt_of_heap hO)).trans hO
    have hwc := HW.out.below bF
    have hc1 := hwc.r1
    have hc2 := hwc.r2
    have lc := bF.size
    have lxc := lt_of_heap hxc
    have lqc := lt_of_heap hOc
    have l3 := lt_of_heap g3
    have l4 := lt_of_heap g4
    clear cO fO cX fX cx0 co2 KE OM hO hx1
    obtain ⟨cO, fO⟩ := hcell hOc
    obtain ⟨cX, fX⟩ := hcell hxc
    unfold Wk.val
    simp only
    go_upto_region 41 with fail
    go_upto_region 42 with (at_builtin; refine wpList_append_lies _ rfl _ _ 83 rfl B 158 i1 .nilFunc 1 8 Tryd.underlying83 hi1 hz1 hs1 hy1 rfl (by decide) (.slice pw Q.length cw) Q.length _ rfl (hc1.alloc _) ⟨wc.heap.size, 0, none⟩ 1 1 [Wk.val ⟨o2, ba, bs⟩] rfl rfl (cell_one_new _ _ _) (fun u hu => by simp at hu; subst hu; rfl) (by decide) (by unfold maxLen; omega) (by omega) (by simp; omega) (wc.heap.size + 1) (by simp) ?_; intro ga ka wd hown hgrow hat hlt; have hxd := (hgrow.block x (by simp; omega) (fun e => (nwx x e.symm).1 rfl)).trans (((Below.refl wc.heap.size wc).alloc (Nat.le_refl _) _).block _ lxc |>.trans hxc); obtain ⟨cX2, fX2⟩ := hcell hxd)
    have hg : ∀ k, k < wc.heap.size → (∀ j, (Value.slice pw Q.length cw).ownBlock = some j → k ≠ j) → wd.heap[k]? = wc.heap[k]? := fun k hk hn => (hgrow.block k (by simp; omega) (fun e => hn k e.symm rfl)).trans (((Below.refl wc.heap.size wc).alloc (Nat.le_refl _) _).block k hk)
    have hOW : Only S w wd := by
      have q1 : Only S w wc := Only.of_below bF
      exact ((q1.alloc _).grown hgrow (fun k hk => mw k hk))
    have lgx : ga ≠ x := by
      rcases hat with q | q
      · exact (nwx ga q).1
      · omega
    have hx2 := block_set hxd 2 (.slice (some ⟨ga, 0, none⟩) (Q.length + 1) ka)
    simp only [List.setIfInBounds_toArray, List.set_cons_zero, List.set_cons_succ] at hx2
    have hO2 : (wd.setCell ⟨x, 2, none⟩ (.slice (some ⟨ga, 0, none⟩) (Q.length + 1) ka)).heap[w.heap.size]? = _ := (block_set_ne (by omega)).trans ((hg _ lqc (fun j hj => by have := (nwx j hj).2; omega)).trans hOc)
    have r12 := ownsRow_heap (w' := wd.setCell ⟨x, 2, none⟩ (.slice (some ⟨ga, 0, none⟩) (Q.length + 1) ka)) hown (fun k hk => block_set_ne (by cases hk; exact lgx))
    have r22 := ownsRow_heap (w' := wd.setCell ⟨x, 2, none⟩ (.slice (some ⟨ga, 0, none⟩) (Q.length + 1) ka)) hc2 (fun k hk => (block_set_ne (nax k hk).1).trans (hg k (by have := (nax k hk).2; omega) (fun j hj e => nwa j k hj hk e.symm)))
    have b12 : (wd.setCell ⟨x, 2, none⟩ (.slice (some ⟨ga, 0, none⟩) (Q.length + 1) ka)).heap[ba]? = _ := (block_set_ne (by omega)).trans ((hg ba l3 (fun j hj => by have := (nwx j hj).2; omega)).trans g3)
    have b22 : (wd.setCell ⟨x, 2, none⟩ (.slice (some ⟨ga, 0, none⟩) (Q.length + 1) ka)).heap[bs]? = _ := (block_set_ne (by omega)).trans ((hg bs l4 (fun j hj => by have := (nwx j hj).2; omega)).trans g4)
    have hO2W := hOW.setCell (p := ⟨x, 2, none⟩) mx (.slice (some ⟨ga, 0, none⟩) (Q.length + 1) ka)
    have hgaO : ∀ k, (Value.slice (some ⟨ga, 0, none⟩) (Q.length + 1) ka).ownBlock = some k → (Value.slice pw Q.length cw).ownBlock = some k ∨ w.heap.size ≤ k := fun k hk => by
      cases hk
      rcases hat with q | q
      · exact .inl q
      · right; show w.heap.size ≤ ga; omega
    have nga : ∀ k, (Value.slice pa Q.length ca).ownBlock = some k → k ≠ ga := fun k hk e => by
      rcases hat with q | q
      · exact nwa ga k q hk e.symm
      · have := (nax k hk).2; omega
    have lbs : ga ≠ bs := by
      rcases hat with q | q
      · have := (nwx ga q).2; omega
      · omega
    have lga2 : ga < (wd.setCell ⟨x, 2, none⟩ (.slice (some ⟨ga, 0, none⟩) (Q.length + 1) ka)).heap.size := by simpa using hlt
    clear cO fO cX fX cX2 fX2 hxd hown hgrow hat hg hOW hc1 hc2 hwc hxc hOc hbc bF lqc lxc g3 g4 hlt
    generalize wd.setCell ⟨x, 2, none⟩ (.slice (some ⟨ga, 0, none⟩) (Q.length + 1) ka) = w2 at *
    obtain ⟨cX, fX⟩ := hcell hx2
    obtain ⟨cO, fO⟩ := hcell hO2
    have lx2 := lt_of_heap hx2
    have lq2 := lt_of_heap hO2
    have lb2 := lt_of_heap b12
    have lb3 := lt_of_heap b22
    have l2 := hO2W.size
    have nax2 : some x ≠ (Value.slice pa Q.length ca).ownBlock := fun e => (nax x e.symm).1 rfl
    have naq2 : some w.heap.size ≠ (Value.slice pa Q.length ca).ownBlock := fun e => by have := (nax _ e.symm).2; omega
    have bB2 : B ≤ w2.heap.size := by omega
    have FIN := Lib.hid (fun (W : World) (S2 : Value) (hx' : W.heap[x]? = some (Obj.cells #[.pointer (some ⟨a, 0, none⟩), .pointer (some ⟨r, 0, none⟩), .slice (some ⟨ga, 0, none⟩) (Q.length + 1) ka, S2] 85 (0, 0))) (r1' : W.ownsRow B 158 1 (.slice (some ⟨ga, 0, none⟩) (Q.length + 1) ka) (Q.length + 1) (Q.map Wk.val ++ [Wk.val ⟨o2, ba, bs⟩])) (r2' : W.ownsRow B 3 1 S2 (Q.length + 1) ((Q.map fun k => Value.int .i64 k.s) ++ [.int .i64 o2])) (b1' : W.heap[ba]? = some (Obj.cells #[.pointer (some ⟨a, 0, none⟩)] 47 (0, 0))) (b2' : W.heap[bs]? = some (Obj.cells #[.int .i64 o2] 3 (0, 0))) (hS2 : ∀ k, S2.ownBlock = some k → (Value.slice pa Q.length ca).ownBlock = some k ∨ (w.heap.size ≤ k ∧ k ≠ bs)) (hO' : Only S w W) =>
      (⟨ba, bs, _, S2, ⟨hx', HH.out.hA.only hO' (fun hm => (FARQ.out a hm).1 rfl) (fun hm => (FARQ.out wb hm).2.1 rfl), HH.out.hR.only hO' (fun k hk hm => (FARQ.out k hm).2.2.1 hk), HH.out.ok⟩,
        ⟨by simpa using r1', by simpa using r2', fun k hk => by
            rcases List.mem_append.1 hk with hk | hk
            · exact (hO'.block _ (lt_of_heap (HW.out.b1 k hk)) (fun hm => ((FARQ.out _ hm).2.2.2 k hk).1 rfl)).trans (HW.out.b1 k hk)
            · rw [List.mem_singleton.1 hk]; exact b1', fun k hk => by
            rcases List.mem_append.1 hk with hk | hk
            · exact (hO'.block _ (lt_of_heap (HW.out.b2 k hk)) (fun hm => ((FARQ.out _ hm).2.2.2 k hk).2 rfl)).trans (HW.out.b2 k hk)
            · rw [List.mem_singleton.1 hk]; exact b2'⟩, by omega, by omega, hgaO, hS2, hO'⟩ :
        ∃ ba bs wv' av', BothAt W x a wb r c A wv' av' ∧ WkAt W a B (Q ++ [⟨o2, ba, bs⟩]) wv' av' ∧ w.heap.size ≤ ba ∧ w.heap.size ≤ bs ∧ (∀ k, wv'.ownBlock = some k → (Value.slice pw Q.length cw).ownBlock = some k ∨ w.heap.size ≤ k) ∧ (∀ k, av'.ownBlock = some k → (Value.slice pa Q.length ca).ownBlock = some k ∨ (w.heap.size ≤ k ∧ k ≠ bs)) ∧ Only S w W))
    go_region_law (refine step_append_lies _ (by rfl) _ _ 59 (by rfl) B 3 i2 _ 1 8 Tryd.underlying59 hi2 hz2 hs2 hy2 rfl (by decide) (.slice pa Q.length ca) Q.length _ (by rfl) ((r22.alloc _).drew) ⟨w2.heap.size, 0, none⟩ 1 1 [.int .i64 o2] (by rfl) (by rfl) (World.news_of_block (cs := #[.int .i64 o2]) (t := 3) (fr := (0, 0)) (heap_alloc_new w2 _)) (by simp [Value.oneCell']) (by omega) (by unfold maxLen; omega) (by omega) (by simp; omega) (w2.heap.size + 1) (by simp) ?_; intro g2' cap2 w3 hown2 hgrow2 hat2 hlt2; have q1 := hgrow2.cell_far ⟨x, 3, none⟩ (by simp; omega) nax2; have q2 := hgrow2.frozen_far ⟨x, 3, none⟩ (by simp; omega) nax2)
    all_goals
      go_wp2_with fail
      go_ret
      have hbX := ((Below.refl w2.heap.size w2).alloc (Nat.le_refl _) (.cells #[.int .i64 o2] 3)).drew
      have keepB : ∀ k, k < w2.heap.size → some k ≠ (Value.slice pa Q.length ca).ownBlock → w3.heap[k]? = w2.heap[k]? := fun k hk hn => (hgrow2.block k (by simp; omega) hn).trans (hbX.block k hk)
      have hx3 := block_set ((keepB x lx2 nax2).trans hx2) 3 (.slice (some ⟨g2', 0, none⟩) (Q.length + 1) cap2)
      simp only [List.setIfInBounds_toArray, List.set_cons_zero, List.set_cons_succ] at hx3
      have lg2 : g2' ≠ x := by
        rcases hat2 with q | q
        · exact (nax g2' q).1
        · omega
      have r13 := ownsRow_heap (w' := w3.setCell ⟨x, 3, none⟩ (.slice (some ⟨g2', 0, none⟩) (Q.length + 1) cap2)) r12 (fun k hk => by cases hk; exact (block_set_ne lgx).trans (keepB ga lga2 (fun e => nga ga e.symm rfl)))
      have r23 := ownsRow_heap (w' := w3.setCell ⟨x, 3, none⟩ (.slice (some ⟨g2', 0, none⟩) (Q.length + 1) cap2)) hown2 (fun k hk => by cases hk; exact block_set_ne lg2)
      have b13 : (w3.setCell ⟨x, 3, none⟩ (.slice (some ⟨g2', 0, none⟩) (Q.length + 1) cap2)).heap[ba]? = _ := (block_set_ne (by omega)).trans ((keepB ba lb2 (fun e => by have := (nax _ e.symm).2; omega)).trans b12)
      have b23 : (w3.setCell ⟨x, 3, none⟩ (.slice (some ⟨g2', 0, none⟩) (Q.length + 1) cap2)).heap[bs]? = _ := (block_set_ne (by omega)).trans ((keepB bs lb3 (fun e => by have := (nax _ e.symm).2; omega)).trans b22)
      have hO3 := ((hO2W.alloc (.cells #[.int .i64 o2] 3)).drew.grown hgrow2 (fun k hk => ma k hk)).setCell (p := ⟨x, 3, none⟩) mx (.slice (some ⟨g2', 0, none⟩) (Q.length + 1) cap2)
      have hS2 : ∀ k, (Value.slice (some ⟨g2', 0, none⟩) (Q.length + 1) cap2).ownBlock = some k → (Value.slice pa Q.length ca).ownBlock = some k ∨ (w.heap.size ≤ k ∧ k ≠ bs) := fun k hk => by
        cases hk
        rcases hat2 with q | q
        · exact .inl q
        · right; show w.heap.size ≤ g2' ∧ g2' ≠ bs; omega
      first
        | exact ⟨rfl, FIN.out _ _ hx3 r13 r23 b13 b23 hS2 hO3⟩
        | exact ⟨rfl, FIN.out _ _ hx3 r13.drew r23.drew b13 b23 hS2 hO3.drew⟩
theorem tmod_in {n : Int} {k : Int} (hk : 0 < k) : -k < n.tmod k ∧ n.tmod k < k := by
  by_cases h : 0 ≤ n
  · rw [Int.tmod_eq_emod_of_nonneg h]
    have := Int.emod_nonneg n (show k ≠ 0 by omega)
    have := Int.emod_lt_of_pos n hk
    omega
  · have e : n.tmod k = -((-n).tmod k) := by rw [Int.neg_tmod]; omega
    rw [e, Int.tmod_eq_emod_of_nonneg (show 0 ≤ -n by omega)]
    have := Int.emod_nonneg (-n) (show k ≠ 0 by omega)
    have := Int.emod_lt_of_pos (-n) hk
    omega
set_option maxHeartbeats 1000000 in
theorem mod_any (n : Int) (k : Nat) (w : World) (k0 : 0 < k) (k1 : k ≤ 1000000) (h0 : -9223372036854775808 ≤ n) (h1 : n < 9223372036854775808) :
    Calls Tryd.prog 47 #[.int .i64 n, .int .i64 k] w fun e w' => (∃ m : Nat, m < k ∧ e = .returned (.int .i64 m)) ∧ w = w' := by
  obtain ⟨t0, t1⟩ := tmod_in (n := n) (k := (k : Int)) (by omega)
  have f2 : IntKind.i64.wrap (n.tmod k) = n.tmod k := by rw [IntKind.wrap_i64]; omega
  have f1 : IntKind.i64.wrap (n.tmod k + k) = n.tmod k + k := by rw [IntKind.wrap_i64]; omega
  have e3 : (n.tmod k + k).tmod k = (n.tmod k + k) % k := Int.tmod_eq_emod_of_nonneg (by omega)
  have p0 := Int.emod_nonneg (n.tmod k + k) (show (k : Int) ≠ 0 by omega)
  have p1 := Int.emod_lt_of_pos (n.tmod k + k) (show 0 < (k : Int) by omega)
  have f3 : IntKind.i64.wrap ((n.tmod k + k).tmod k) = (n.tmod k + k).tmod k := by rw [e3, IntKind.wrap_i64]; omega
  have z0 : ((k : Int) == 0) = false := by simp; omega
  have FI := Lib.hid (⟨((n.tmod k + k) % k).toNat, by omega, by congr 2; omega⟩ : ∃ m : Nat, m < k ∧ Ending.returned (.int .i64 ((n.tmod k + k) % k)) = .returned (.int .i64 m))
  clear e3 p0 p1
  go_enter Tryd.func47, Tryd.ntmps47
  go_wp2
  go_ret
  exact ⟨FI.out, rfl⟩
set_option maxRecDepth 100000 in
set_option maxHeartbeats 8000000 in
theorem step21_on (x a wb r : Nat) (c : Int → Nat) (A : Ar) (wv av : Value) (B : Nat) (Q : List Wk) (o : St) (w : World) (tb : Tab w) (h : BothAt w x a wb r c A wv av) (hw : WkAt w a B Q wv av) (hk : o.kind = 21) (bd : -9223372036854775808 ≤ o.a ∧ o.a < 9223372036854775808) (h0 : 0 < Q.length) (h64 : Q.length ≤ 64) :
    Calls Tryd.prog 60 #[.pointer (some ⟨x, 0, none⟩), o.val] w fun e w' => e = .returned (.bool true) ∧ Below w.heap.size w w' := by
  obtain ⟨o0, o1, o2, o3, o4, o5, o6, ⟨x0, x1, x2, x3, x4, x5, x6⟩⟩ := o
  simp only at hk bd
  subst hk
  have OL' := Lib.hid (fun (w1 : World) (b0w : Below w.heap.size w w1) (i : Nat) (hi : i < Q.length) (W : World) (hb : Below w1.heap.size w1 W) => Bl hb (by have bz := b0w.trans (hb.mono b0w.size); exact old_any x a wb r c A wv av B Q i hi W (tb.below bz) (h.below bz) (hw.below bz)))
  have MO := Lib.hid (fun (W : World) => mod_any o3 Q.length W h0 (by omega) bd.1 bd.2)
  have HX := Lib.hid (fun (W : World) (hb : Below w.heap.size w W) => (hcell ((hb.block _ (lt_of_heap h.hx)).trans h.hx)).1)
  have hr1 := hw.r1
  clear h tb hw
  obtain ⟨pw, cw, rfl⟩ := row_form hr1
  clear hr1
  have d0 : decide (0 < (Q.length : Int)) = true := by simp; omega
  generalize Q.length = nw at *
  unfold St.val St.cells
  simp only
  have hO := heap_one w (.cells #[.int .i64 21, .int .i64 o1, .int .i64 o2, .int .i64 o3, .int .i64 o4, .int .i64 o5, .int .u64 o6, .int .u64 x0, .int .i64 x1, .int .i64 x2, .int .i64 x3, .int .i64 x4, .int .i64 x5, .bool x6] 81)
  have b0w := (Below.refl w.heap.size w).alloc (Nat.le_refl _) (.cells #[.int .i64 21, .int .i64 o1, .int .i64 o2, .int .i64 o3, .int .i64 o4, .int .i64 o5, .int .u64 o6, .int .u64 x0, .int .i64 x1, .int .i64 x2, .int .i64 x3, .int .i64 x4, .int .i64 x5, .bool x6] 81)
  go_enter Tryd.func60, Tryd.ntmps60
  go_upto_region 1 with fail
  generalize w.alloc (.cells #[.int .i64 21, .int .i64 o1, .int .i64 o2, .int .i64 o3, .int .i64 o4, .int .i64 o5, .int .u64 o6, .int .u64 x0, .int .i64 x1, .int .i64 x2, .int .i64 x3, .int .i64 x4, .int .i64 x5, .bool x6] 81) = w1 at *
  have OL := Lib.hid (OL'.out w1 b0w)
  have BF := Lib.hid (fun (W : World) (hb : Below w1.heap.size w1 W) => b0w.trans (hb.mono b0w.size))
  generalize hqe : w.heap.size = q at *
  have HQ := Lib.hid hqe
  clear hqe OL'
  obtain ⟨cO, fO⟩ := hcell hO
  have cX := HX.out _ b0w
  have cx2 : w1.cell? ⟨x, 2, none⟩ = some (.slice pw nw cw) := by rw [cX]; rfl
  have co3 : w1.cell? ⟨q, 3, none⟩ = some (.int .i64 o3) := by rw [cO]; rfl
  have KE := Lib.hid (fun (W : World) (hb : Below w1.heap.size w1 W) => (⟨(hb.cell (p := ⟨x, 2, none⟩) (World.block_lt_of_cell? w1 ⟨x, 2, none⟩ cx2)).trans cx2, (hb.cell (p := ⟨q, 3, none⟩) (World.block_lt_of_cell? w1 ⟨q, 3, none⟩ co3)).trans co3, hb⟩ : W.cell? ⟨x, 2, none⟩ = some (.slice pw nw cw) ∧ W.cell? ⟨q, 3, none⟩ = some (.int .i64 o3) ∧ Below w1.heap.size w1 W))
  go_upto_region 44 with fail
  clear HX b0w cX
  go_region_held3 (fun W => W.cell? ⟨x, 2, none⟩ = some (.slice pw nw cw) ∧ W.cell? ⟨q, 3, none⟩ = some (.int .i64 o3) ∧ Below w1.heap.size w1 W) ((refine KE.out _ ?_; repeat (first | (with_reducible assumption) | (with_reducible exact Below.refl _ _) | (with_reducible refine Below.drew ?_)))) (first | (go_at_call 47; refine (MO.out _).mono ?_; rintro e w' ⟨⟨mi, hmi, rfl⟩, rfl⟩) | (go_at_call 116; refine (OL.out mi hmi _ ?_).mono ?_; (first | assumption | exact (Below.refl _ _).drew | exact (Below.refl _ _)); rintro e w' ⟨rfl, hb9⟩))
  all_goals
    go_wp2_with fail
    go_ret
    exact ⟨rfl, by rw [HQ.out]; exact BF.out _ (by assumption)⟩
end Go.Proofs.YtomgfdfgildkbaaDoor
/- ArenaPlays: any step of any script keeps both arenas alike. -/

namespace Go.Proofs.YtomgfdfgildkbaaDoor
open Go.RowKit Go.BigFrame

structure Kt where
  a : Nat
  wb : Nat
  r : Nat
  c : Int → Nat
  wv : Value
  av : Value
  Q : List Wk
/-- A `both` in memory: the program's arena and the document's are the same plain arena A; all that it is made of lies in the blocks S. -/
structure PlAt (w : World) (x B : Nat) (A : Ar) (K : Kt) (S : List Nat) : Prop where
  both : BothAt w x K.a K.wb K.r K.c A K.wv K.av
  sep : Sep x K.a K.wb K.r K.c
  wk : WkAt w K.a B K.Q K.wv K.av
  nav : ∀ q ∈ K.Q, K.av.ownBlock ≠ some q.bs
  n64 : K.Q.length ≤ 64
  sx : x ∈ S
  sf : ∀ k ∈ sfp K.a K.wb K.r K.c, k ∈ S
  sw : ∀ k, K.wv.ownBlock = some k → k ∈ S
  sa : ∀ k, K.av.ownBlock = some k → k ∈ S
  sb : ∀ q ∈ K.Q, q.ba ∈ S ∧ q.bs ∈ S
  ge : ∀ k ∈ S, B ≤ k ∧ k < w.heap.size
theorem sfp_a {a wb r : Nat} {c : Int → Nat} : a ∈ sfp a wb r c := by simp [sfp]
theorem sfp_w {a wb r : Nat} {c : Int → Nat} : wb ∈ sfp a wb r c := by simp [sfp]
theorem sfp_r {a wb r k : Nat} {c : Int → Nat} (h : k ∈ rfp r c) : k ∈ sfp a wb r c := by simp [sfp, h]
theorem PlAt.keep {w w' : World} {x B : Nat} {A : Ar} {K : Kt} {S : List Nat} (h : PlAt w x B A K S) (hs : w.heap.size ≤ w'.heap.size) (e : ∀ k ∈ S, w'.heap[k]? = w.heap[k]?) : PlAt w' x B A K S := by
  obtain ⟨⟨hx, hA, hR, ok⟩, sep, wk, nav, n64, sx, sf, sw, sa, sb, ge⟩ := h
  exact ⟨⟨(e _ sx).trans hx, ⟨(e _ (sf _ sfp_a)).trans hA.st, (e _ (sf _ sfp_w)).trans hA.ws, hA.ne⟩, ⟨(e _ (sf _ (sfp_r rfp_r))).trans hR.st, fun s hs => (e _ (sf _ (sfp_r (mem_rfp hs)))).trans (hR.ws s hs), hR.nb, hR.nn, hR.z0⟩, ok⟩, sep,
    ⟨ownsRow_heap wk.r1 fun k hk => e k (sw k hk), ownsRow_heap wk.r2 fun k hk => e k (sa k hk), fun q hq => (e _ (sb q hq).1).trans (wk.b1 q hq), fun q hq => (e _ (sb q hq).2).trans (wk.b2 q hq)⟩, nav, n64, sx, sf, sw, sa, sb, fun k hk => ⟨(ge k hk).1, by have := (ge k hk).2; omega⟩⟩
theorem PlAt.below {w w' : World} {x B : Nat} {A : Ar} {K : Kt} {S : List Nat} (h : PlAt w x B A K S) (hb : Below w.heap.size w w') : PlAt w' x B A K S := h.keep hb.size fun k hk => hb.block k (h.ge k hk).2
theorem sfp_types {w : World} {a wb r : Nat} {c : Int → Nat} {A : Ar} (hA : ArAt w a wb A) (hR : RfAt w r c A) : ∀ j ∈ sfp a wb r c, ∃ cs t, w.heap[j]? = some (.cells cs t (0, 0)) ∧ (t = 125 ∨ t = 157 ∨ t = 22) := fun j hj => by
  simp only [sfp, rfp, List.mem_cons, List.not_mem_nil, or_false] at hj
  rcases hj with rfl | rfl | rfl | rfl | rfl | rfl | rfl
  · exact ⟨_, _, hA.st, .inl rfl⟩
  · exact ⟨_, _, hA.ws, .inr (.inr rfl)⟩
  · exact ⟨_, _, hR.st, .inr (.inl rfl)⟩
  · exact ⟨_, _, hR.ws 1 rfl, .inr (.inr rfl)⟩
  · exact ⟨_, _, hR.ws 2 rfl, .inr (.inr rfl)⟩
  · exact ⟨_, _, hR.ws 3 rfl, .inr (.inr rfl)⟩
  · exact ⟨_, _, hR.ws 4 rfl, .inr (.inr rfl)⟩
theorem sfp_far {w : World} {a wb r k : Nat} {c : Int → Nat} {A : Ar} {cs : Array Value} {t : TypeId} (hA : ArAt w a wb A) (hR : RfAt w r c A) (hk : w.heap[k]? = some (.cells cs t (0, 0))) (h1 : t ≠ 125) (h2 : t ≠ 157) (h3 : t ≠ 22) : k ∉ sfp a wb r c := fun hm => by
  obtain ⟨cs2, t2, e1, e2⟩ := sfp_types hA hR k hm
  rcases e2 with rfl | rfl | rfl
  · exact ty_ne hk e1 h1 rfl
  · exact ty_ne hk e1 h2 rfl
  · exact ty_ne hk e1 h3 rfl
theorem mono_below {P : Program} {f : FuncId} {args : Array Value} {w : World} {x B : Nat} {A : Ar} {K : Kt} {S : List Nat} (h : PlAt w x B A K S) (hc : Calls P f args w fun e w' => e = .returned (.bool true) ∧ Below w.heap.size w w') :
    Calls P f args w fun e w' => e = .returned (.bool true) ∧ ∃ A' K' S', PlAt w' x B A' K' S' ∧ Only S w w' ∧ ∀ k ∈ S', k ∈ S ∨ w.heap.size ≤ k :=
  hc.mono fun _ _ ⟨h1, h2⟩ => ⟨h1, A, K, S, h.below h2, .of_below h2, fun _ hk => .inl hk⟩
set_option maxRecDepth 100000 in
theorem step_all (x B : Nat) (A : Ar) (K : Kt) (S : List Nat) (o : St) (bd : o.Bd) (w : World) (tb : Tab w) (h : PlAt w x B A K S) (hB : B ≤ w.heap.size) :
    Calls Tryd.prog 60 #[.pointer (some ⟨x, 0, none⟩), o.val] w fun e w' => e = .returned (.bool true) ∧ ∃ A' K' S', PlAt w' x B A' K' S' ∧ Only S w w' ∧ ∀ k ∈ S', k ∈ S ∨ w.heap.size ≤ k := by
  have hb := h.both
  by_cases k9 : 1 ≤ o.kind ∧ o.kind ≤ 9
  · refine (stepW_any x K.a K.wb K.r K.c A K.wv K.av o w tb hb h.sep bd k9.1 k9.2).mono ?_
    rintro e w' ⟨rfl, hb', hO⟩
    refine ⟨rfl, A.step o, K, S, ⟨hb', h.sep, ⟨?_, ?_, fun q hq => ?_, fun q hq => ?_⟩, h.nav, h.n64, h.sx, h.sf, h.sw, h.sa, h.sb, fun k hk => ⟨(h.ge k hk).1, by have := (h.ge k hk).2; have := hO.size; omega⟩⟩, hO.mono h.sf, fun k hk => .inl hk⟩
    · exact ownsRow_heap h.wk.r1 fun k hk => by
        obtain ⟨cs, hc⟩ := row_block h.wk.r1 hk
        exact hO.block k (lt_of_heap hc) (sfp_far hb.hA hb.hR hc (by decide) (by decide) (by decide))
    · exact ownsRow_heap h.wk.r2 fun k hk => by
        obtain ⟨cs, hc⟩ := row_block h.wk.r2 hk
        exact hO.block k (lt_of_heap hc) (sfp_far hb.hA hb.hR hc (by decide) (by decide) (by decide))
    · have hc := h.wk.b1 q hq
      exact (hO.block _ (lt_of_heap hc) (sfp_far hb.hA hb.hR hc (by decide) (by decide) (by decide))).trans hc
    · have hc := h.wk.b2 q hq
      exact (hO.block _ (lt_of_heap hc) (sfp_far hb.hA hb.hR hc (by decide) (by decide) (by decide))).trans hc
  by_cases k10 : o.kind = 10
  · exact mono_below h (step10_any x K.a K.wb K.r K.c A K.wv K.av o w hb k10)
  by_cases k11 : o.kind = 11
  · exact mono_below h (step11_any x K.a K.wb K.r K.c A K.wv K.av o w hb k11)
  by_cases k12 : o.kind = 12
  · exact mono_below h (step12_any x K.a K.wb K.r K.c A K.wv K.av o w hb k12)
  by_cases k13 : o.kind = 13
  · exact mono_below h (step13_any x K.a K.wb K.r K.c A K.wv K.av o w hb k13)
  by_cases k14 : o.kind = 14
  · exact mono_below h (step14_any x K.a K.wb K.r K.c A K.wv K.av o w tb hb k14)
  by_cases k15 : o.kind = 15
  · exact mono_below h (step15_any x K.a K.wb K.r K.c A K.wv K.av o w tb hb k15)
  by_cases k16 : o.kind = 16
  · exact mono_below h (step16_any x K.a K.wb K.r K.c A K.wv K.av o w tb hb k16)
  by_cases k17 : o.kind = 17
  · exact mono_below h (step17_any x K.a K.wb K.r K.c A K.wv K.av o w tb hb k17 bd.c)
  by_cases k18 : o.kind = 18
  · exact mono_below h (step18_any x K.a K.wb K.r K.c A K.wv K.av o w tb hb k18)
  by_cases k19 : o.kind = 19
  · exact mono_below h (step19_any x K.a K.wb K.r K.c A K.wv K.av o w hb k19)
  by_cases k20 : o.kind = 20 ∧ K.Q.length < 64
  · refine (step20_on x K.a K.wb K.r K.c A K.wv K.av B K.Q o w hb h.sep h.wk h.nav hB k20.1 k20.2).mono ?_
    rintro e w' ⟨rfl, ba, bs, wv', av', hb', hw', g1, g2, e1, e2, hO⟩
    have hsz := hO.size
    have lba := lt_of_heap (hw'.b1 ⟨o.s, ba, bs⟩ (by simp))
    have lbs := lt_of_heap (hw'.b2 ⟨o.s, ba, bs⟩ (by simp))
    simp only at lba lbs
    have ge1 : ∀ k, wv'.ownBlock = some k → B ≤ k ∧ k < w'.heap.size := fun k hk => hw'.r1.lt k hk
    have ge2 : ∀ k, av'.ownBlock = some k → B ≤ k ∧ k < w'.heap.size := fun k hk => hw'.r2.lt k hk
    refine ⟨rfl, A, ⟨K.a, K.wb, K.r, K.c, wv', av', K.Q ++ [⟨o.s, ba, bs⟩]⟩, ba :: bs :: (wv'.ownBlock.toList ++ av'.ownBlock.toList ++ S), ⟨hb', h.sep, hw', fun q hq => ?_, ?_, ?_, fun k hk => ?_, fun k hk => ?_, fun k hk => ?_, fun q hq => ?_, fun k hk => ?_⟩, hO.mono fun k hk => ?_, fun k hk => ?_⟩
    · intro e
      rcases List.mem_append.1 hq with hq | hq
      · rcases e2 _ e with e3 | ⟨e3, _⟩
        · exact h.nav q hq e3
        · have := lt_of_heap (h.wk.b2 q hq); omega
      · rw [List.mem_singleton.1 hq] at e
        simp only at e
        rcases e2 _ e with e3 | ⟨_, e3⟩
        · have := (h.wk.r2.lt _ e3).2; omega
        · exact e3 rfl
    · rw [List.length_append]; simp; omega
    · simp [h.sx]
    · simp [h.sf k hk]
    · simp only at hk; simp [hk]
    · simp only at hk; simp [hk]
    · rcases List.mem_append.1 hq with hq | hq
      · simp [h.sb q hq]
      · rw [List.mem_singleton.1 hq]; simp
    · simp only [List.mem_cons, List.mem_append, Option.mem_toList] at hk
      rcases hk with rfl | rfl | (hk | hk) | hk
      · exact ⟨by omega, lba⟩
      · exact ⟨by omega, lbs⟩
      · exact ge1 k hk
      · exact ge2 k hk
      · have := h.ge k hk; exact ⟨this.1, by omega⟩
    · simp only [List.mem_cons, List.mem_append, Option.mem_toList] at hk
      rcases hk with rfl | hk | hk
      · exact h.sx
      · exact h.sw k hk
      · exact h.sa k hk
    · simp only [List.mem_cons, List.mem_append, Option.mem_toList] at hk
      rcases hk with rfl | rfl | (hk | hk) | hk
      · exact .inr g1
      · exact .inr g2
      · rcases e1 k hk with q | q
        · exact .inl (h.sw k q)
        · exact .inr q
      · rcases e2 k hk with q | q
        · exact .inl (h.sa k q)
        · exact .inr q.1
      · exact .inl hk
  by_cases k21 : o.kind = 21 ∧ 0 < K.Q.length
  · exact mono_below h (step21_on x K.a K.wb K.r K.c A K.wv K.av B K.Q o w tb hb h.wk k21.1 bd.a k21.2 h.n64)
  obtain ⟨p, cap, hp⟩ := row_form h.wk.r1
  rw [hp] at hb
  exact mono_below h (stepN_any x K.a K.wb K.r K.c A p K.Q.length cap K.av o w hb (fun k hk => by simp at hk; omega) k9 k20 k21)
/-- whole() of a `both`. -/
theorem whole_all (x B : Nat) (A : Ar) (K : Kt) (S : List Nat) (w : World) (tb : Tab w) (h : PlAt w x B A K S) : Calls Tryd.prog 61 #[.pointer (some ⟨x, 0, none⟩)] w fun e w' => e = .returned (.bool true) ∧ Below w.heap.size w w' := by
  have hb := h.both
  have hw := h.wk
  obtain ⟨p, cap, hp⟩ := row_form hw.r1
  rw [hp] at hb hw
  exact whole_any x K.a K.wb K.r K.c A p K.Q.length cap K.av w tb hb (fun i hi W hW => old_any x K.a K.wb K.r K.c A _ K.av B K.Q i hi W (tb.below hW) (hb.below hW) (hw.below hW)) h.n64
/-- What begin leaves. -/
def NewAt (w : World) (x B : Nat) (S : List Nat) : Prop := (NoAt w x ∧ x ∈ S ∧ ∀ k ∈ S, B ≤ k ∧ k < w.heap.size) ∨ ∃ A K, PlAt w x B A K S
theorem begin_all (c : Cfg) (w : World) : Calls Tryd.prog 59 #[c.val] w fun e w' => ∃ x S, e = .returned (.tuple #[.pointer (some ⟨x, 0, none⟩), .bool true]) ∧ NewAt w' x w.heap.size S ∧ Below w.heap.size w w' := by
  cases hc : c.valid with
  | true =>
    refine (begin_yes c w hc).mono ?_
    rintro e w' ⟨x, a, wb, r, cs, rfl, hB, sp, ⟨x0, a0, w0, r0⟩, hb⟩
    refine ⟨x, x :: sfp a wb r cs, rfl, .inr ⟨Ar.new c, ⟨a, wb, r, cs, .slice none 0 0, .slice none 0 0, []⟩, hB, sp, ⟨World.ownsRow_nil _ _ _ _, World.ownsRow_nil _ _ _ _, fun _ h => by simp at h, fun _ h => by simp at h⟩, fun _ h => by simp at h, by simp, by simp, fun k hk => by simp [hk], fun _ h => by simp [Value.ownBlock] at h, fun _ h => by simp [Value.ownBlock] at h, fun _ h => by simp at h, fun k hk => ?_⟩, hb⟩
    simp only [sfp, List.mem_cons] at hk
    rcases hk with rfl | rfl | rfl | hk
    · exact ⟨x0, lt_of_heap hB.hx⟩
    · exact ⟨a0, lt_of_heap hB.hA.st⟩
    · exact ⟨w0, lt_of_heap hB.hA.ws⟩
    · exact ⟨r0 k hk, hB.hR.lt k hk⟩
  | false =>
    refine (begin_no c w hc).mono ?_
    rintro e w' ⟨x, rfl, hN, x0, hb⟩
    exact ⟨x, [x], rfl, .inl ⟨hN, by simp, fun k hk => by rw [List.mem_singleton.1 hk]; exact ⟨x0, lt_of_heap hN⟩⟩, hb⟩
theorem NewAt.keep {w w' : World} {x B : Nat} {S : List Nat} (h : NewAt w x B S) (hs : w.heap.size ≤ w'.heap.size) (e : ∀ k ∈ S, w'.heap[k]? = w.heap[k]?) : NewAt w' x B S := by
  rcases h with ⟨hN, hx, hg⟩ | ⟨A, K, h⟩
  · exact .inl ⟨(e x hx).trans hN, hx, fun k hk => ⟨(hg k hk).1, by have := (hg k hk).2; omega⟩⟩
  · exact .inr ⟨A, K, h.keep hs e⟩
theorem NewAt.ge {w : World} {x B : Nat} {S : List Nat} (h : NewAt w x B S) : ∀ k ∈ S, B ≤ k ∧ k < w.heap.size := by
  rcases h with ⟨_, _, hg⟩ | ⟨A, K, h⟩
  · exact hg
  · exact h.ge
theorem NewAt.below {w w' : World} {x B : Nat} {S : List Nat} (h : NewAt w x B S) (hb : Below w.heap.size w w') : NewAt w' x B S := h.keep hb.size fun k hk => hb.block k (h.ge k hk).2
end Go.Proofs.YtomgfdfgildkbaaDoor
/- The walk of ArenaPlays. -/

namespace Go.Proofs.YtomgfdfgildkbaaDoor
open Go.RowKit Go.BigFrame
set_option linter.unusedVariables false

def st0 : St := ⟨0, 0, 0, 0, 0, 0, 0, nohd⟩
/-- A script that came in. -/
def OpsAt (w : World) (v : Value) (l : List St) : Prop :=
  ∃ p cap, v = .slice p l.length cap ∧ ∀ i, i < l.length → ∃ b off, p = some ⟨b, off, none⟩ ∧ ∀ j, j < 14 → w.cell? ⟨b, off + i * 14 + j, none⟩ = (l.getD i st0).cells[j]?
theorem OpsAt.below {w w' : World} {v : Value} {l : List St} (h : OpsAt w v l) (hb : Below w.heap.size w w') : OpsAt w' v l := by
  obtain ⟨p, cap, hv, hc⟩ := h
  refine ⟨p, cap, hv, fun i hi => ?_⟩
  obtain ⟨b, off, hp, hx⟩ := hc i hi
  refine ⟨b, off, hp, fun j hj => ?_⟩
  have h1 := hx j hj
  have h2 : ∃ u, (l.getD i st0).cells[j]? = some u := ⟨_, Array.getElem?_eq_getElem (show j < (l.getD i st0).cells.size by simpa [St.cells] using hj)⟩
  obtain ⟨u, hu⟩ := h2
  rw [hu] at h1 ⊢
  exact (hb.cell (p := ⟨b, off + i * 14 + j, none⟩) (World.block_lt_of_cell? w ⟨b, off + i * 14 + j, none⟩ h1)).trans h1
theorem NewAt.lower {w : World} {x B B' : Nat} {S : List Nat} (h : NewAt w x B S) (hb : B' ≤ B) : NewAt w x B' S := by
  rcases h with ⟨hN, hx, hg⟩ | ⟨A, K, h⟩
  · exact .inl ⟨hN, hx, fun k hk => ⟨Nat.le_trans hb (hg k hk).1, (hg k hk).2⟩⟩
  · exact .inr ⟨A, K, h.both, h.sep, ⟨row_mono h.wk.r1 hb, row_mono h.wk.r2 hb, h.wk.b1, h.wk.b2⟩, h.nav, h.n64, h.sx, h.sf, h.sw, h.sa, h.sb, fun k hk => ⟨Nat.le_trans hb (h.ge k hk).1, (h.ge k hk).2⟩⟩
/-- Both of them, apart. -/
structure TwoAt (w : World) (x y B : Nat) (S T : List Nat) : Prop where
  h1 : NewAt w x B S
  h2 : NewAt w y B T
  ap : ∀ k ∈ S, k ∉ T
theorem TwoAt.below {w w' : World} {x y B : Nat} {S T : List Nat} (h : TwoAt w x y B S T) (hb : Below w.heap.size w w') : TwoAt w' x y B S T := ⟨h.h1.below hb, h.h2.below hb, h.ap⟩
theorem TwoAt.swap {w : World} {x y B : Nat} {S T : List Nat} (h : TwoAt w x y B S T) : TwoAt w y x B T S := ⟨h.h2, h.h1, fun k h1 h2 => h.ap k h2 h1⟩
/-- One of them takes a step. -/
theorem two_step (x y B : Nat) (S T : List Nat) (A : Ar) (K : Kt) (o : St) (bd : o.Bd) (w0 w : World) (hbl : Below w0.heap.size w0 w) (tb : Tab w) (hx : PlAt w x B A K S) (hy : NewAt w y B T) (ap : ∀ k ∈ S, k ∉ T) (hB : B ≤ w.heap.size) (hB0 : w0.heap.size ≤ B) :
    Calls Tryd.prog 60 #[.pointer (some ⟨x, 0, none⟩), o.val] w fun e w' => e = .returned (.bool true) ∧ (∃ S', TwoAt w' x y B S' T) ∧ Below w0.heap.size w0 w' := by
  refine (step_all x B A K S o bd w tb hx hB).mono ?_
  rintro e w' ⟨rfl, A', K', S', h, hO, hS⟩
  refine ⟨rfl, ⟨S', .inr ⟨A', K', h⟩, hy.keep hO.size (fun k hk => hO.block k (hy.ge k hk).2 (fun hm => ap k hm hk)), fun k hk hm => ?_⟩, hbl.trans (hO.below hbl.size fun k hk => Nat.le_trans hB0 (hx.ge k hk).1)⟩
  rcases hS k hk with q | q
  · exact ap k q hm
  · have := (hy.ge k hm).2; omega

set_option maxRecDepth 100000 in
set_option maxHeartbeats 16000000 in
theorem arenaPlays_walk (c d : Cfg) (v : Value) (l : List St) (w : World) (tb0 : Tab w) (hv : OpsAt w v l) (hl : (l.length : Int) ≤ 9223372036854775807) (hbd : ∀ o ∈ l, o.Bd) : Calls Tryd.prog 10 #[c.val, d.val, v] w fun e w' => e = .returned (.bool true) ∧ Below w.heap.size w w' := by
  have tb := Lib.hid tb0
  have BG1 := Lib.hid (fun (W : World) => begin_all c W)
  have BG2 := Lib.hid (fun (W : World) => begin_all d W)
  have KN := Lib.hid (fun (W : World) (hb : Below w.heap.size w W) => known3_any W (tb0.below hb))
  obtain ⟨p, cap, rfl, hcells⟩ := hv
  have HV := Lib.hid (fun (W : World) (hb : Below w.heap.size w W) => OpsAt.below ⟨p, cap, rfl, hcells⟩ hb)
  have HBD := Lib.hid hbd
  clear tb0 hcells hbd
  obtain ⟨q0, q1, q2, q3, q4, q5, q6, q7, q8, q9, q10, q11, q12, q13⟩ := c
  obtain ⟨p0, p1, p2, p3, p4, p5, p6, p7, p8, p9, p10, p11, p12, p13⟩ := d
  unfold Cfg.val Cfg.cells at *
  simp only at *
  have hX := heap_one w (.cells #[.int .i64 q0, .int .i64 q1, .int .i64 q2, .int .i64 q3, .int .i64 q4, .int .i64 q5, .int .i64 q6, .int .i64 q7, .int .i64 q8, .int .i64 q9, .int .i64 q10, .int .i64 q11, .int .i64 q12, .int .i64 q13] 45)
  have hb := (Below.refl w.heap.size w).alloc (Nat.le_refl _) (.cells #[.int .i64 q0, .int .i64 q1, .int .i64 q2, .int .i64 q3, .int .i64 q4, .int .i64 q5, .int .i64 q6, .int .i64 q7, .int .i64 q8, .int .i64 q9, .int .i64 q10, .int .i64 q11, .int .i64 q12, .int .i64 q13] 45)
  go_enter Tryd.func10, Tryd.ntmps10
  have hY := heap_one (w.alloc (.cells #[.int .i64 q0, .int .i64 q1, .int .i64 q2, .int .i64 q3, .int .i64 q4, .int .i64 q5, .int .i64 q6, .int .i64 q7, .int .i64 q8, .int .i64 q9, .int .i64 q10, .int .i64 q11, .int .i64 q12, .int .i64 q13] 45)) (.cells #[.int .i64 p0, .int .i64 p1, .int .i64 p2, .int .i64 p3, .int .i64 p4, .int .i64 p5, .int .i64 p6, .int .i64 p7, .int .i64 p8, .int .i64 p9, .int .i64 p10, .int .i64 p11, .int .i64 p12, .int .i64 p13] 45)
  have hX' := (((Below.refl (w.alloc (.cells #[.int .i64 q0, .int .i64 q1, .int .i64 q2, .int .i64 q3, .int .i64 q4, .int .i64 q5, .int .i64 q6, .int .i64 q7, .int .i64 q8, .int .i64 q9, .int .i64 q10, .int .i64 q11, .int .i64 q12, .int .i64 q13] 45)).heap.size (w.alloc (.cells #[.int .i64 q0, .int .i64 q1, .int .i64 q2, .int .i64 q3, .int .i64 q4, .int .i64 q5, .int .i64 q6, .int .i64 q7, .int .i64 q8, .int .i64 q9, .int .i64 q10, .int .i64 q11, .int .i64 q12, .int .i64 q13] 45))).alloc (Nat.le_refl _) (.cells #[.int .i64 p0, .int .i64 p1, .int .i64 p2, .int .i64 p3, .int .i64 p4, .int .i64 p5, .int .i64 p6, .int .i64 p7, .int .i64 p8, .int .i64 p9, .int .i64 p10, .int .i64 p11, .int .i64 p12, .int .i64 p13] 45)).block _ (lt_of_heap hX)).trans hX
  have hb' := hb.alloc hb.size (.cells #[.int .i64 p0, .int .i64 p1, .int .i64 p2, .int .i64 p3, .int .i64 p4, .int .i64 p5, .int .i64 p6, .int .i64 p7, .int .i64 p8, .int .i64 p9, .int .i64 p10, .int .i64 p11, .int .i64 p12, .int .i64 p13] 45)
  have hz : (w.alloc (.cells #[.int .i64 q0, .int .i64 q1, .int .i64 q2, .int .i64 q3, .int .i64 q4, .int .i64 q5, .int .i64 q6, .int .i64 q7, .int .i64 q8, .int .i64 q9, .int .i64 q10, .int .i64 q11, .int .i64 q12, .int .i64 q13] 45)).heap.size = w.heap.size + 1 := by simp
  rw [hz] at hY
  clear hX hb hz
  go_upto_region 1 with fail
  generalize (w.alloc (.cells #[.int .i64 q0, .int .i64 q1, .int .i64 q2, .int .i64 q3, .int .i64 q4, .int .i64 q5, .int .i64 q6, .int .i64 q7, .int .i64 q8, .int .i64 q9, .int .i64 q10, .int .i64 q11, .int .i64 q12, .int .i64 q13] 45)).alloc (.cells #[.int .i64 p0, .int .i64 p1, .int .i64 p2, .int .i64 p3, .int .i64 p4, .int .i64 p5, .int .i64 p6, .int .i64 p7, .int .i64 p8, .int .i64 p9, .int .i64 p10, .int .i64 p11, .int .i64 p12, .int .i64 p13] 45) = w1 at *
  obtain ⟨cX, fX⟩ := hcell hX'
  go_wp2_with fail
  refine (BG1.out _).mono ?_
  rintro e w2 ⟨x, S, rfl, hS, hq⟩
  have hb2 := hb'.trans (hq.mono hb'.size)
  have hY2 := (hq.block _ (lt_of_heap hY)).trans hY
  have hS' := hS.lower hb'.size
  clear hq cX fX BG1 hX' hY hS hb'
  obtain ⟨cY, fY⟩ := hcell hY2
  go_wp2_with fail
  refine (BG2.out _).mono ?_
  rintro e w3 ⟨y, T, rfl, hT0, hq⟩
  have hb3 := hb2.trans (hq.mono hb2.size)
  have hT : TwoAt w3 x y w.heap.size S T := ⟨hS'.below hq, hT0.lower hb2.size, fun k h1 h2 => by have := (hS'.ge k h1).2; have := (hT0.ge k h2).1; omega⟩
  clear hq cY fY BG2 hS' hT0 hY2 hb2
  go_wp2_with fail
  refine (KN.out _ hb3).mono ?_
  rintro e w4 ⟨rfl, hq⟩
  have hb4 := hb3.trans (hq.mono hb3.size)
  have hT4 := hT.below hq
  clear hq hT hb3 KN
  go_wp2_with fail
  go_loopw [11] (fun iv wx => ∃ k : Nat, k ≤ l.length ∧ iv = .int .i64 k ∧ (∃ S T, TwoAt wx x y w.heap.size S T) ∧ Below w.heap.size w wx) (fun iv _ => l.length - (intOf iv).toNat)
  case atStart => exact ⟨0, Nat.zero_le _, rfl, ⟨S, T, hT4⟩, hb4⟩
  case round =>
    clear hT4 hb4
    obtain ⟨k, hk, rfl, ⟨S, T, hT⟩, hbr⟩ := hrel
    by_cases hlt : k < l.length
    · have dlt : decide ((k : Int) < (l.length : Int)) = true := by simpa using hlt
      obtain ⟨p', cap', he, hce⟩ := HV.out wr hbr
      cases he
      obtain ⟨b, off, rfl, hce⟩ := hce k hlt
      have hbk := HBD.out (l.getD k st0) (by rw [List.getD_eq_getElem?_getD, List.getElem?_eq_getElem hlt]; exact List.getElem_mem hlt)
      generalize l.getD k st0 = o at *
      obtain ⟨o0, o1, o2, o3, o4, o5, o6, ⟨x0, x1, x2, x3, x4, x5, x6⟩⟩ := o
      have k0 : (0 : Int) ≤ (k : Int) := Int.natCast_nonneg _
      have k1 : (k : Int) < (l.length : Int) := by omega
      have z0 : wr.cell? ⟨b, off + k * 14, none⟩ = some (.int .i64 o0) := hce 0 (by decide)
      have z1 : wr.cell? ⟨b, off + k * 14 + 1, none⟩ = some (.int .i64 o1) := hce 1 (by decide)
      have z2 : wr.cell? ⟨b, off + k * 14 + 2, none⟩ = some (.int .i64 o2) := hce 2 (by decide)
      have z3 : wr.cell? ⟨b, off + k * 14 + 3, none⟩ = some (.int .i64 o3) := hce 3 (by decide)
      have z4 : wr.cell? ⟨b, off + k * 14 + 4, none⟩ = some (.int .i64 o4) := hce 4 (by decide)
      have z5 : wr.cell? ⟨b, off + k * 14 + 5, none⟩ = some (.int .i64 o5) := hce 5 (by decide)
      have z6 : wr.cell? ⟨b, off + k * 14 + 6, none⟩ = some (.int .u64 o6) := hce 6 (by decide)
      have z7 : wr.cell? ⟨b, off + k * 14 + 7, none⟩ = some (.int .u64 x0) := hce 7 (by decide)
      have z8 : wr.cell? ⟨b, off + k * 14 + 8, none⟩ = some (.int .i64 x1) := hce 8 (by decide)
      have z9 : wr.cell? ⟨b, off + k * 14 + 9, none⟩ = some (.int .i64 x2) := hce 9 (by decide)
      have z10 : wr.cell? ⟨b, off + k * 14 + 10, none⟩ = some (.int .i64 x3) := hce 10 (by decide)
      have z11 : wr.cell? ⟨b, off + k * 14 + 11, none⟩ = some (.int .i64 x4) := hce 11 (by decide)
      have z12 : wr.cell? ⟨b, off + k * 14 + 12, none⟩ = some (.int .i64 x5) := hce 12 (by decide)
      have z13 : wr.cell? ⟨b, off + k * 14 + 13, none⟩ = some (.bool x6) := hce 13 (by decide)
      clear hce
      by_cases h1 : o1 = 1
      · have d1 : (o1 == 1) = true := by simpa using h1
        clear h1
        rcases hT.swap.h1 with ⟨hN, -, -⟩ | ⟨A, K, hP⟩
        · obtain ⟨cN, fN⟩ := hcell hN
          go_wp2_with fail
          exact ⟨⟨k + 1, by omega, by go_num, ⟨S, T, hT⟩, hbr⟩, by simp [intOf]; omega⟩
        · obtain ⟨cN, fN⟩ := hcell hP.both.hx
          have ST := Lib.hid (two_step y x w.heap.size T S A K ⟨o0, o1, o2, o3, o4, o5, o6, ⟨x0, x1, x2, x3, x4, x5, x6⟩⟩ hbk w wr hbr (tb.out.below hbr) hP hT.swap.h2 hT.swap.ap hbr.size (Nat.le_refl _))
          unfold St.val St.cells at ST
          simp only at ST
          clear hP
          go_wp2_with fail
          refine ST.out.mono ?_
          rintro e w9 ⟨rfl, ⟨S', hT'⟩, hb9⟩
          go_wp2_with fail
          exact ⟨⟨k + 1, by omega, by go_num, ⟨S, S', hT'.swap⟩, hb9⟩, by simp [intOf]; omega⟩
      · have d1 : (o1 == 1) = false := by simpa using h1
        rcases hT.h1 with ⟨hN, -, -⟩ | ⟨A, K, hP⟩
        · obtain ⟨cN, fN⟩ := hcell hN
          go_wp2_with fail
          exact ⟨⟨k + 1, by omega, by go_num, ⟨S, T, hT⟩, hbr⟩, by simp [intOf]; omega⟩
        · obtain ⟨cN, fN⟩ := hcell hP.both.hx
          have ST := Lib.hid (two_step x y w.heap.size S T A K ⟨o0, o1, o2, o3, o4, o5, o6, ⟨x0, x1, x2, x3, x4, x5, x6⟩⟩ hbk w wr hbr (tb.out.below hbr) hP hT.h2 hT.ap hbr.size (Nat.le_refl _))
          unfold St.val St.cells at ST
          simp only at ST
          clear hP
          go_wp2_with fail
          refine ST.out.mono ?_
          rintro e w9 ⟨rfl, ⟨S', hT'⟩, hb9⟩
          go_wp2_with fail
          exact ⟨⟨k + 1, by omega, by go_num, ⟨S', T, hT'⟩, hb9⟩, by simp [intOf]; omega⟩
    · have dlt : decide ((k : Int) < (l.length : Int)) = false := by simpa using hlt
      clear HV HBD
      have WH := Lib.hid (fun (z : Nat) (A : Ar) (K : Kt) (S : List Nat) (W : World) (hb : Below w.heap.size w W) (h : PlAt W z w.heap.size A K S) => Bl hb (whole_all z w.heap.size A K S W (tb.out.below hb) h))
      have hbl : ∀ W, Below w.heap.size w W → w.heap.size ≤ W.heap.size := fun W h => h.size
      rcases hT.h1 with ⟨hN, -, -⟩ | ⟨A, K, hP⟩
      · obtain ⟨cN, fN⟩ := hcell hN
        rcases hT.h2 with ⟨hM, -, -⟩ | ⟨A2, K2, hP2⟩
        · obtain ⟨cM, fM⟩ := hcell hM
          go_wp2_with fail
          go_ret
          exact ⟨rfl, hbr⟩
        · obtain ⟨cM, fM⟩ := hcell hP2.both.hx
          have W2 := Lib.hid (WH.out y A2 K2 T wr hbr hP2)
          clear hP2
          go_wp2_with fail
          refine W2.out.mono ?_
          rintro e w6 ⟨rfl, hb6⟩
          go_wp2_with fail
          go_ret
          exact ⟨rfl, hb6⟩
      · obtain ⟨cN, fN⟩ := hcell hP.both.hx
        have W1 := Lib.hid ((whole_all x w.heap.size A K S wr (tb.out.below hbr) hP))
        rcases hT.h2 with ⟨hM, -, -⟩ | ⟨A2, K2, hP2⟩
        · have HM := Lib.hid hM
          clear hM hP
          go_wp2_with fail
          refine W1.out.mono ?_
          rintro e w6 ⟨rfl, hq⟩
          obtain ⟨cM, fM⟩ := hcell ((hq.block _ (lt_of_heap HM.out)).trans HM.out)
          have hb6 := hbr.trans (hq.mono hbr.size)
          clear cN fN hq
          go_wp2_with fail
          go_ret
          exact ⟨rfl, hb6⟩
        · have HP2 := Lib.hid hP2
          clear hP2 hP
          go_wp2_with fail
          refine W1.out.mono ?_
          rintro e w6 ⟨rfl, hq⟩
          have hb6 := hbr.trans (hq.mono hbr.size)
          have hP6 := HP2.out.below hq
          obtain ⟨cM, fM⟩ := hcell hP6.both.hx
          have W2 := Lib.hid (WH.out y A2 K2 T w6 hb6 hP6)
          clear cN fN hq hP6
          go_wp2_with fail
          refine W2.out.mono ?_
          rintro e w7 ⟨rfl, hb7⟩
          go_wp2_with fail
          go_ret
          exact ⟨rfl, hb7⟩
end Go.Proofs.YtomgfdfgildkbaaDoor
