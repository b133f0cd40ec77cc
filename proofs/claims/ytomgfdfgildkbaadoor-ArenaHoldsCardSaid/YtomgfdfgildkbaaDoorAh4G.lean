/- ArenaHolds: `made`, where an object was put. No condition. -/
import Derived.Test.YtomgfdfgildkbaaDoorAh3G
import Derived.Test.YtomgfdfgildkbaaDoorLaw3a
namespace Go.Proofs.YtomgfdfgildkbaaDoor
open Go.RowKit Go.BigFrame
set_option linter.unusedVariables false
theorem heap_set_one (w : World) (p : Addr) (v : Value) (A : Obj) : ((w.setCell p v).alloc A).heap[w.heap.size]? = some A := by
  have h := heap_one (w.setCell p v) A
  rwa [show (w.setCell p v).heap.size = w.heap.size by simp [World.setCell]] at h
theorem heap_set_alloc {w : World} {b : Nat} {c : Array Value} {t : TypeId} (h : w.heap[b]? = some (.cells c t (0, 0))) (o : Nat) (v : Value) (A : Obj) : ((w.setCell ⟨b, o, none⟩ v).alloc A).heap[b]? = some (.cells (c.setIfInBounds o v) t (0, 0)) :=
  (((Below.refl (w.setCell ⟨b, o, none⟩ v).heap.size (w.setCell ⟨b, o, none⟩ v)).alloc (Nat.le_refl _) A).block b (lt_of_heap (block_set h o v))).trans (block_set h o v)
theorem heap_set_far {w : World} {b k o : Nat} {v : Value} (A : Obj) {B : Obj} (h : w.heap[k]? = some B) (hk : k ≠ b) : ((w.setCell ⟨b, o, none⟩ v).alloc A).heap[k]? = some B :=
  (((Below.refl (w.setCell ⟨b, o, none⟩ v).heap.size (w.setCell ⟨b, o, none⟩ v)).alloc (Nat.le_refl _) A).block k (by have := lt_of_heap h; simpa [World.setCell] using this)).trans ((block_set_ne hk).trans h)
theorem ArAt.keepG {w w' : World} {b wb : Nat} {A : Ar} {u : Option Nat} (h : ArAt w b wb A) (e : ∀ k, k < w.heap.size → u ≠ some k → w'.heap[k]? = w.heap[k]?) (h1 : u ≠ some b) (h2 : u ≠ some wb) : ArAt w' b wb A :=
  ⟨(e _ (lt_of_heap h.st) h1).trans h.st, (e _ (lt_of_heap h.ws) h2).trans h.ws, h.ne⟩
/-- What was appended joins the list. -/
theorem ThsAt.snoc {w w' : World} {B wb g ka : Nat} {v : Value} {Q : List Gt} {q : Gt} (h : ThsAt w B wb v Q) (hr : w'.ownsRow B 143 11 (.slice (some ⟨g, 0, none⟩) (Q.length + 1) ka) (Q.length + 1) (Q.flatMap Gt.cells ++ q.cells)) (hk : ∀ k, k < w.heap.size → v.ownBlock ≠ some k → w'.heap[k]? = w.heap[k]?)
    (hp : w'.heap[q.pb]? = some (.cells (i64s q.ps) 3 (0, 0))) (hr2 : w'.heap[q.rb]? = some (.cells (u64s q.rs) 22 (0, 0))) (l : Nat) (hl : ∀ k ∈ tfp v Q, k < l) (gp : l ≤ q.pb) (gr : l ≤ q.rb) (hB : B ≤ l) (hwb : wb < l) : ThsAt w' B wb (.slice (some ⟨g, 0, none⟩) (Q.length + 1) ka) (Q ++ [q]) := by
  have fp : ∀ k, v.ownBlock = some k → ∀ q ∈ Q, k ≠ q.pb ∧ k ≠ q.rb := fun k hk q hq => by
    obtain ⟨cs, hc⟩ := row_blockA h.row hk
    exact ⟨ty_neA hc (h.bp q hq) (by decide), ty_neA hc (h.br q hq) (by decide)⟩
  refine ⟨by simpa using hr, fun y hy => ?_, fun y hy => ?_, fun y hy => ?_, fun y hy => ?_, ?_, ?_⟩
  · rcases List.mem_append.1 hy with hy | hy
    · exact (hk _ (lt_of_heap (h.bp y hy)) (fun e => (fp _ e y hy).1 rfl)).trans (h.bp y hy)
    · rw [List.mem_singleton.1 hy]; exact hp
  · rcases List.mem_append.1 hy with hy | hy
    · exact (hk _ (lt_of_heap (h.br y hy)) (fun e => (fp _ e y hy).2 rfl)).trans (h.br y hy)
    · rw [List.mem_singleton.1 hy]; exact hr2
  · rcases List.mem_append.1 hy with hy | hy
    · exact h.gp y hy
    · rw [List.mem_singleton.1 hy]; omega
  · rcases List.mem_append.1 hy with hy | hy
    · exact h.gr y hy
    · rw [List.mem_singleton.1 hy]; exact ⟨by omega, by omega⟩
  · rw [List.map_append]
    refine List.nodup_append.2 ⟨h.np, by simp, fun x hx y hy e => ?_⟩
    obtain ⟨z, hz, rfl⟩ := List.mem_map.1 hx
    have := hl z.pb (mem_tfp.2 (.inr (.inl ⟨z, hz, rfl⟩)))
    simp at hy
    omega
  · rw [List.map_append]
    refine List.nodup_append.2 ⟨h.nr, by simp, fun x hx y hy e => ?_⟩
    obtain ⟨z, hz, rfl⟩ := List.mem_map.1 hx
    have := hl z.rb (mem_tfp.2 (.inr (.inr ⟨z, hz, rfl⟩)))
    simp at hy
    omega
theorem Ar.lay_topA {A : Ar} {s : Int} {g : Hd} (hp : A.putOk s g = true) : (A.lay s g).top s = A.top s + (2 + g.ptrs + g.raws) := by
  unfold Ar.putOk at hp
  simp only [Bool.and_eq_true, decide_eq_true_eq] at hp
  have := Ar.take_top A hp.1.2 (2 + g.ptrs + g.raws) s
  rw [if_pos rfl] at this
  exact this
theorem Ar.lay_freeA {A : Ar} {s : Int} {g : Hd} (hp : A.putOk s g = true) : (A.lay s g).free s = A.free s - (2 + g.ptrs + g.raws) := by
  have h1 := Ar.lay_topA hp
  have h2 : (A.lay s g).behind s = A.behind s := by
    unfold Ar.lay Ar.take Ar.setTop Ar.behind
    (repeat' split) <;> rfl
  unfold Ar.free
  rw [h1, h2]; omega
theorem Ar.Ok.layA {A : Ar} (ok : A.Ok) {s : Int} {g : Hd} (hp : A.putOk s g = true) (hs : 0 ≤ g.ser ∧ g.ser < 18446744073709551616) : (A.lay s g).Ok := by
  unfold Ar.putOk at hp
  simp only [Bool.and_eq_true, decide_eq_true_eq] at hp
  exact Ar.Ok.lay ok hp.1.2 ((chk_iff _).1 hp.1.1) hp.2 hs.1 hs.2
set_option maxRecDepth 100000 in
set_option maxHeartbeats 8000000 in
theorem made_yes (a wb B : Nat) (A : Ar) (v : Value) (Q : List Gt) (o : Dt) (w : World) (tb : Tab w) (hA : ArAt w a wb A) (ok : A.Ok) (hT : ThsAt w B wb v Q) (hB : B ≤ w.heap.size) (hn : Q.length ≤ 1000) (hp : A.putOk o.s o.hd = true) (hs : 0 ≤ o.hd.ser ∧ o.hd.ser < 18446744073709551616) :
    Calls Tryd.prog 52 #[.pointer (some ⟨a, 0, none⟩), v, o.val] w fun e w' => ∃ v' pb rb, e = .returned (.tuple #[v', .bool true]) ∧ ArAt w' a wb (A.lay o.s o.hd) ∧ ThsAt w' B wb v' (Q ++ [⟨A.top o.s, o.s, o.hd, List.replicate o.hd.ptrs.toNat 0, List.replicate o.hd.raws.toNat 0, pb, rb⟩]) ∧ Only (a :: wb :: v.ownBlock.toList) w w' := by
  have ok' := ok.layA hp hs
  have lt := Ar.lay_topA hp
  have lf := Ar.lay_freeA hp
  have hp' := hp
  unfold Ar.putOk at hp'
  simp only [Bool.and_eq_true, decide_eq_true_eq] at hp'
  obtain ⟨⟨hc, hsp⟩, hfr⟩ := hp'
  have fi := (chk_iff _).1 hc
  have p0 := fi.p0; have p1 := fi.p1; have r0 := fi.r0; have r1 := fi.r1
  have s1 : 1 ≤ o.s ∧ o.s ≤ 4 := by unfold isSp at hsp; exact of_decide_eq_true hsp
  obtain ⟨s1, s2⟩ := s1
  have hz := ok.sizes o.s
  have t0 : 0 ≤ A.top o.s := by omega
  have t1 : A.top o.s ≤ 262145 := by omega
  have fr1 : A.free o.s ≤ 262145 := by unfold Ar.free; omega
  clear hc hsp fi hz
  obtain ⟨o0, o1, o2, o3, o4, o5, ⟨x0, x1, x2, x3, x4, x5, x6⟩⟩ := o
  simp only at *
  have TT := Lib.hid (fun (W : World) (h : ArAt W a wb A) => top_any a wb A o1 W h)
  have FT := Lib.hid (fun (W : World) (h : ArAt W a wb A) => free_any a wb A o1 W h ok)
  have PT := Lib.hid (fun (W : World) (tb : Tab W) (h : ArAt W a wb A) => put_yes1 a wb A o1 x0 x1 x2 x3 x4 x5 x6 W tb h ok hp)
  have T2 := fun (W : World) (h : ArAt W a wb (A.lay o1 ⟨x0, x1, x2, x3, x4, x5, x6⟩)) => top_any a wb (A.lay o1 ⟨x0, x1, x2, x3, x4, x5, x6⟩) o1 W h
  have F2 := fun (W : World) (h : ArAt W a wb (A.lay o1 ⟨x0, x1, x2, x3, x4, x5, x6⟩)) => free_any a wb (A.lay o1 ⟨x0, x1, x2, x3, x4, x5, x6⟩) o1 W h ok'
  rw [lt] at T2
  rw [lf] at F2
  have TT2 := Lib.hid T2
  have FT2 := Lib.hid F2
  clear T2 F2 hp lt lf ok' hs
  generalize A.lay o1 ⟨x0, x1, x2, x3, x4, x5, x6⟩ = A2 at *
  generalize A.top o1 = t at *
  generalize A.free o1 = fr at *
  have mkI := fun (W : World) => mk_i64 x2 W p0 (by omega)
  have mkU := fun (W : World) => mk_u64 x3 W r0 (by omega)
  unfold Dt.val Dt.cells
  simp only
  have hO := heap_one w (.cells #[.int .i64 o0, .int .i64 o1, .int .i64 o2, .int .i64 o3, .int .i64 o4, .int .u64 o5, .int .u64 x0, .int .i64 x1, .int .i64 x2, .int .i64 x3, .int .i64 x4, .int .i64 x5, .bool x6] 69)
  have b0 := (Below.refl w.heap.size w).alloc (Nat.le_refl _) (.cells #[.int .i64 o0, .int .i64 o1, .int .i64 o2, .int .i64 o3, .int .i64 o4, .int .u64 o5, .int .u64 x0, .int .i64 x1, .int .i64 x2, .int .i64 x3, .int .i64 x4, .int .i64 x5, .bool x6] 69)
  go_enter Tryd.func52, Tryd.ntmps52
  go_upto_region 1 with fail
  generalize w.alloc (.cells #[.int .i64 o0, .int .i64 o1, .int .i64 o2, .int .i64 o3, .int .i64 o4, .int .u64 o5, .int .u64 x0, .int .i64 x1, .int .i64 x2, .int .i64 x3, .int .i64 x4, .int .i64 x5, .bool x6] 69) = w1 at *
  have hA1 := hA.below b0
  have tb1 := tb.below b0
  obtain ⟨cO, fO⟩ := hcell hO
  go_wp2_with fail
  refine (TT.out _ hA1).mono ?_
  rintro e w2 ⟨rfl, hq⟩
  have hA2 := hA1.below hq
  have hO2 := (hq.block _ (lt_of_heap hO)).trans hO
  have tb2 := tb1.below hq
  have b2 := b0.trans (hq.mono b0.size)
  clear cO fO hq hO
  obtain ⟨cO, fO⟩ := hcell hO2
  go_wp2_with fail
  refine (FT.out _ hA2).mono ?_
  rintro e w3 ⟨rfl, hq⟩
  have hA3 := hA2.below hq
  have hO3 := (hq.block _ (lt_of_heap hO2)).trans hO2
  have tb3 := tb2.below hq
  have b3 := b2.trans (hq.mono b2.size)
  clear cO fO hq hO2
  obtain ⟨cO, fO⟩ := hcell hO3
  go_wp2_with fail
  refine (PT.out _ tb3 hA3).mono ?_
  rintro e w4 ⟨rfl, hA4, hO⟩
  have nq : w.heap.size ∉ [a, wb] := by
    have := lt_of_heap hA.st
    have := lt_of_heap hA.ws
    simp; omega
  have hO4 := (hO.block _ (lt_of_heap hO3) nq).trans hO3
  have o4' := (Only.of_below (S := [a, wb]) b3).trans hO
  clear cO fO hO hO3
  obtain ⟨cO, fO⟩ := hcell hO4
  go_wp2_with fail
  refine (TT2.out _ hA4).mono ?_
  rintro e w5 ⟨rfl, hq⟩
  have hA5 := hA4.below hq
  have hO5 := (hq.block _ (lt_of_heap hO4)).trans hO4
  have o5' := o4'.trans (Only.of_below hq)
  clear cO fO hq hO4
  obtain ⟨cO, fO⟩ := hcell hO5
  go_wp2_with fail
  refine (FT2.out _ hA5).mono ?_
  rintro e w6 ⟨rfl, hq⟩
  have hA6 := hA5.below hq
  have hO6 := (hq.block _ (lt_of_heap hO5)).trans hO5
  have o6' := o5'.trans (Only.of_below hq)
  clear cO fO hq hO5
  obtain ⟨cO, fO⟩ := hcell hO6
  go_upto_region 10 with fail
  have hX := heap_one w6 (.cells #[.int .i64 t, .int .i64 o1, .int .u64 x0, .int .i64 x1, .int .i64 x2, .int .i64 x3, .int .i64 x4, .int .i64 x5, .bool x6, .slice none 0 0, .slice none 0 0] 143)
  have q7 := (Below.refl w6.heap.size w6).alloc (Nat.le_refl _) (.cells #[.int .i64 t, .int .i64 o1, .int .u64 x0, .int .i64 x1, .int .i64 x2, .int .i64 x3, .int .i64 x4, .int .i64 x5, .bool x6, .slice none 0 0, .slice none 0 0] 143)
  generalize w6.alloc (.cells #[.int .i64 t, .int .i64 o1, .int .u64 x0, .int .i64 x1, .int .i64 x2, .int .i64 x3, .int .i64 x4, .int .i64 x5, .bool x6, .slice none 0 0, .slice none 0 0] 143) = w7 at *
  have lO := lt_of_heap hO6
  have l6 := o6'.size
  generalize hx : w6.heap.size = x at *
  have lx := lt_of_heap hX
  clear cO fO
  obtain ⟨cO, fO⟩ := hcell ((q7.block _ (by omega)).trans hO6)
  obtain ⟨cX, fX⟩ := hcell hX
  have HX6 := Lib.hid hx
  clear hx
  go_upto_region 11 with fail
  have q8 := (q7.setCell (p := ⟨x, 9, none⟩) (Nat.le_refl _) (.slice (some ⟨w7.heap.size, 0, none⟩) x2.toNat x2.toNat)).alloc (by simp [World.setCell]; omega) (.cells (i64s (List.replicate x2.toNat 0)) 3)
  have hP8 := heap_set_one w7 ⟨x, 9, none⟩ (.slice (some ⟨w7.heap.size, 0, none⟩) x2.toNat x2.toNat) (.cells (i64s (List.replicate x2.toNat 0)) 3)
  have hX8 := heap_set_alloc hX 9 (.slice (some ⟨w7.heap.size, 0, none⟩) x2.toNat x2.toNat) (.cells (i64s (List.replicate x2.toNat 0)) 3)
  simp only [List.setIfInBounds_toArray, List.set_cons_zero, List.set_cons_succ] at hX8
  clear cO fO cX fX
  generalize (w7.setCell ⟨x, 9, none⟩ (.slice (some ⟨w7.heap.size, 0, none⟩) x2.toNat x2.toNat)).alloc (.cells (i64s (List.replicate x2.toNat 0)) 3) = w8 at *
  generalize hp : w7.heap.size = p at *
  have HP := Lib.hid hp
  clear hp
  have lp := lt_of_heap hP8
  have lx8 := lt_of_heap hX8
  obtain ⟨cO, fO⟩ := hcell ((q8.block _ (by omega)).trans hO6)
  obtain ⟨cX, fX⟩ := hcell hX8
  go_upto_region 12 with fail
  have q9 := (q8.setCell (p := ⟨x, 10, none⟩) (Nat.le_refl _) (.slice (some ⟨w8.heap.size, 0, none⟩) x3.toNat x3.toNat)).alloc (by simp [World.setCell]; omega) (.cells (u64s (List.replicate x3.toNat 0)) 22)
  have hR9 := heap_set_one w8 ⟨x, 10, none⟩ (.slice (some ⟨w8.heap.size, 0, none⟩) x3.toNat x3.toNat) (.cells (u64s (List.replicate x3.toNat 0)) 22)
  have hP9 := heap_set_far (o := 10) (v := (.slice (some ⟨w8.heap.size, 0, none⟩) x3.toNat x3.toNat)) (.cells (u64s (List.replicate x3.toNat 0)) 22) hP8 (show p ≠ x by omega)
  have hX9 := heap_set_alloc hX8 10 (.slice (some ⟨w8.heap.size, 0, none⟩) x3.toNat x3.toNat) (.cells (u64s (List.replicate x3.toNat 0)) 22)
  simp only [List.setIfInBounds_toArray, List.set_cons_zero, List.set_cons_succ] at hX9
  clear cO fO cX fX hX8 hP8 hX
  generalize (w8.setCell ⟨x, 10, none⟩ (.slice (some ⟨w8.heap.size, 0, none⟩) x3.toNat x3.toNat)).alloc (.cells (u64s (List.replicate x3.toNat 0)) 22) = w9 at *
  generalize hr : w8.heap.size = r at *
  have HR := Lib.hid hr
  clear hr
  have lr := lt_of_heap hR9
  have lp9 := lt_of_heap hP9
  have lx9 := lt_of_heap hX9
  obtain ⟨cX, fX⟩ := hcell hX9
  have fT := hT.far hA
  have O9 := o6'.trans (Only.of_below (HX6.out.symm ▸ q9))
  have hT9 : ThsAt w9 B wb v Q := hT.keep fun k hk => O9.block k (hT.lt k hk).2 (by have := fT k hk; simp [this])
  have hA9 := hA6.below (HX6.out.symm ▸ q9)
  obtain ⟨i1, hi1, hz1, hs1, hy1⟩ := info_parts infoThing
  have r9 := hT9.row
  have bB9 : B ≤ w9.heap.size := by have := O9.size; omega
  have nvx : ∀ k, v.ownBlock = some k → k < w.heap.size ∧ k ≠ a ∧ k ≠ wb := fun k hk => ⟨(hT.row.lt k hk).2, fT k (mem_tfp.2 (.inl hk))⟩
  have l06 : w.heap.size ≤ x := l6
  have lrx : x < r := by have := q8.size; omega
  have lwb := lt_of_heap hA.ws
  have FIN := Lib.hid (fun (w' : World) (g ka : Nat) (hown : w'.ownsRow B 143 11 (.slice (some ⟨g, 0, none⟩) (Q.length + 1) ka) (Q.length + 1) (Q.flatMap Gt.cells ++ [.int .i64 t, .int .i64 o1, .int .u64 x0, .int .i64 x1, .int .i64 x2, .int .i64 x3, .int .i64 x4, .int .i64 x5, .bool x6, .slice (some ⟨p, 0, none⟩) x2.toNat x2.toNat, .slice (some ⟨r, 0, none⟩) x3.toNat x3.toNat])) (hg : (w9.alloc (.cells #[.int .i64 t, .int .i64 o1, .int .u64 x0, .int .i64 x1, .int .i64 x2, .int .i64 x3, .int .i64 x4, .int .i64 x5, .bool x6, .slice (some ⟨p, 0, none⟩) x2.toNat x2.toNat, .slice (some ⟨r, 0, none⟩) x3.toNat x3.toNat] 143)).grownBy w' v.ownBlock) =>
    (⟨hA9.keepG (fun k hk hn => (hg.block k (by simp; omega) (fun e => hn e.symm)).trans (Below.heap_alloc _ _ _ hk)) (fun e => (nvx _ e).2.1 rfl) (fun e => (nvx _ e).2.2 rfl),
      hT9.snoc (q := ⟨t, o1, ⟨x0, x1, x2, x3, x4, x5, x6⟩, List.replicate x2.toNat 0, List.replicate x3.toNat 0, p, r⟩) (by have hh := hown; simpa [Gt.cells, hdL] using hh) (fun k hk hn => (hg.block k (by simp; omega) (fun e => hn e.symm)).trans (Below.heap_alloc _ _ _ hk))
        ((hg.block p (by simp; omega) (fun e => by have := (nvx p e.symm).1; omega)).trans ((Below.heap_alloc _ _ _ lp9).trans hP9)) ((hg.block r (by simp; omega) (fun e => by have := (nvx r e.symm).1; omega)).trans ((Below.heap_alloc _ _ _ lr).trans hR9)) w.heap.size (fun k hk => (hT.lt k hk).2) (by simp only; omega) (by simp only; omega) hB (by omega),
      (((O9.mono (fun k hk => by simp at hk; rcases hk with rfl | rfl <;> simp)).alloc _).grown hg (fun k hk => by simp [hk]))⟩ :
     ArAt w' a wb A2 ∧ ThsAt w' B wb (.slice (some ⟨g, 0, none⟩) (Q.length + 1) ka) (Q ++ [⟨t, o1, ⟨x0, x1, x2, x3, x4, x5, x6⟩, List.replicate x2.toNat 0, List.replicate x3.toNat 0, p, r⟩]) ∧ Only (a :: wb :: v.ownBlock.toList) w w'))
  clear fT nvx TT PT TT2 FT2 FT mkI mkU hfr fr1 s1 s2 t0 t1 p0 p1 r0 r1
  go_wp2_with (at_builtin; refine wpList_append_lies _ rfl _ _ 67 rfl B 143 i1 _ 11 120 Tryd.underlying67 hi1 hz1 hs1 hy1 rfl (by decide) v Q.length _ rfl (r9.alloc _) ⟨w9.heap.size, 0, none⟩ 1 1 [.int .i64 t, .int .i64 o1, .int .u64 x0, .int .i64 x1, .int .i64 x2, .int .i64 x3, .int .i64 x4, .int .i64 x5, .bool x6, .slice (some ⟨p, 0, none⟩) x2.toNat x2.toNat, .slice (some ⟨r, 0, none⟩) x3.toNat x3.toNat] rfl rfl (World.news_of_block (cs := #[.int .i64 t, .int .i64 o1, .int .u64 x0, .int .i64 x1, .int .i64 x2, .int .i64 x3, .int .i64 x4, .int .i64 x5, .bool x6, .slice (some ⟨p, 0, none⟩) x2.toNat x2.toNat, .slice (some ⟨r, 0, none⟩) x3.toNat x3.toNat]) (t := 143) (fr := (0, 0)) (heap_alloc_new w9 _)) (by simp [Value.oneCell']) (by decide) (by unfold maxLen; omega) (by omega) (by simp; omega) (w9.heap.size + 1) (by simp) ?_; intro ga ka wd hown hgrow hat hlt)
  go_ret2
  obtain ⟨f1, f2, f3⟩ := FIN.out wd ga ka (by simpa using hown) hgrow
  exact ⟨_, p, r, rfl, f1, f2, f3⟩
end Go.Proofs.YtomgfdfgildkbaaDoor
