/- The walk of middenlaw3's taker: it takes an address and a header, up to where it stops. -/
import Derived.Test.YtomgfdfgildkbaaDoorArenaIt4
import Derived.Deep.AppendLies
import Derived.Deep.RegionHeld3
import Derived.StillTailTactics
import Derived.Deep.RegionLaw
import Derived.BigRegion
namespace Go.Proofs.YtomgfdfgildkbaaDoor
open Go.RowKit Go.BigFrame

structure Tk where
  at_ : List Int
  hd : List Hd
  stop : Int
  most : Int
  done : Bool
  deaf : Bool
def hdL (h : Hd) : List Value := [.int .u64 h.ser, .int .i64 h.kind, .int .i64 h.ptrs, .int .i64 h.raws, .int .i64 h.age, .int .i64 h.site, .bool h.held]
def Tk.take (T : Tk) (x : Int) (h : Hd) : Tk :=
  if T.done then { T with deaf := true } else { T with at_ := T.at_ ++ [x], hd := T.hd ++ [h], done := decide ((T.at_.length : Int) + 1 = T.stop) || decide (T.most < (T.at_.length : Int) + 1) }
def fpOf (b : Nat) (v1 v2 : Value) : List Nat := b :: (v1.ownBlock.toList ++ v2.ownBlock.toList)
structure TkAt (w : World) (b o : Nat) (ty : TypeId) (B : Nat) (T : Tk) (v1 v2 : Value) : Prop where
  hb : ∃ cs, w.heap[b]? = some (.cells cs ty (0, 0))
  c0 : w.cell? ⟨b, o, none⟩ = some v1
  c1 : w.cell? ⟨b, o + 1, none⟩ = some v2
  c2 : w.cell? ⟨b, o + 2, none⟩ = some (.int .i64 T.stop)
  c3 : w.cell? ⟨b, o + 3, none⟩ = some (.int .i64 T.most)
  c4 : w.cell? ⟨b, o + 4, none⟩ = some (.bool T.done)
  c5 : w.cell? ⟨b, o + 5, none⟩ = some (.bool T.deaf)
  r1 : w.ownsRow B 3 1 v1 T.at_.length (T.at_.map (Value.int .i64))
  r2 : w.ownsRow B 24 7 v2 T.hd.length (T.hd.flatMap hdL)
  n1 : v1.ownBlock ≠ some b
  n2 : v2.ownBlock ≠ some b
  n12 : ∀ k, v1.ownBlock = some k → v2.ownBlock ≠ some k
  bB : B ≤ b
theorem infoInt : (Tryd.prog.info? 3).map (fun i => (i.zero, i.size, i.bytes)) = some (some (.int .i64 0), 1, 8) := by kernel_rfl
theorem infoHead : (Tryd.prog.info? 24).map (fun i => (i.zero, i.size, i.bytes)) = some (some (.agg #[.int .u64 0, .int .i64 0, .int .i64 0, .int .i64 0, .int .i64 0, .int .i64 0, .bool false]), 7, 56) := by kernel_rfl
theorem cell_ne {w : World} {b k j : Nat} {v : Value} (h : k ≠ j) : (w.setCell ⟨b, k, none⟩ v).cell? ⟨b, j, none⟩ = w.cell? ⟨b, j, none⟩ :=
  World.cell?_setCell_other w _ _ v (by intro e; cases e; exact h rfl)
theorem cell_eq {w : World} {b k : Nat} {v u : Value} (h : w.cell? ⟨b, k, none⟩ = some u) : (w.setCell ⟨b, k, none⟩ v).cell? ⟨b, k, none⟩ = some v := World.cell?_setCell_same w _ v h
theorem ownsRow_heap {w w' : World} {B : Nat} {e : TypeId} {sz : Nat} {v : Value} {n : Nat} {xs : List Value} (h : w.ownsRow B e sz v n xs) (he : ∀ k, v.ownBlock = some k → w'.heap[k]? = w.heap[k]?) : w'.ownsRow B e sz v n xs := by
  refine ⟨h.1, ?_⟩
  rcases h.2 with hn | ⟨g, cap, cur, hv, hb, hg, rest⟩
  · exact .inl hn
  · exact .inr ⟨g, cap, cur, hv, hb, (he g (by rw [hv]; rfl)).trans hg, rest⟩
theorem mem_fp {b : Nat} {v1 v2 : Value} {k : Nat} : k ∈ fpOf b v1 v2 ↔ k = b ∨ v1.ownBlock = some k ∨ v2.ownBlock = some k := by
  simp [fpOf, Option.mem_toList]
theorem TkAt.same {w w' : World} {b o : Nat} {ty : TypeId} {B : Nat} {T : Tk} {v1 v2 : Value} (h : TkAt w b o ty B T v1 v2) (e : ∀ k ∈ fpOf b v1 v2, w'.heap[k]? = w.heap[k]?) : TkAt w' b o ty B T v1 v2 := by
  have eb : w'.heap[b]? = w.heap[b]? := e b (mem_fp.2 (.inl rfl))
  have c : ∀ j, w'.cell? ⟨b, j, none⟩ = w.cell? ⟨b, j, none⟩ := fun j => World.cell?_of_block (a := ⟨b, j, none⟩) eb
  obtain ⟨cs, hb⟩ := h.hb
  exact ⟨⟨cs, eb.trans hb⟩, (c _).trans h.c0, (c _).trans h.c1, (c _).trans h.c2, (c _).trans h.c3, (c _).trans h.c4, (c _).trans h.c5, ownsRow_heap h.r1 fun k hk => e k (mem_fp.2 (.inr (.inl hk))), ownsRow_heap h.r2 fun k hk => e k (mem_fp.2 (.inr (.inr hk))), h.n1, h.n2, h.n12, h.bB⟩
theorem TkAt.lt {w : World} {b o : Nat} {ty : TypeId} {B : Nat} {T : Tk} {v1 v2 : Value} (h : TkAt w b o ty B T v1 v2) : ∀ k ∈ fpOf b v1 v2, k < w.heap.size ∧ B ≤ k := fun k hk => by
  rcases mem_fp.1 hk with rfl | hk | hk
  · exact ⟨World.block_lt_of_cell? w ⟨k, o, none⟩ h.c0, h.bB⟩
  · exact ⟨(h.r1.lt k hk).2, (h.r1.lt k hk).1⟩
  · exact ⟨(h.r2.lt k hk).2, (h.r2.lt k hk).1⟩
theorem TkAt.below {w w' : World} {b o : Nat} {ty : TypeId} {B : Nat} {T : Tk} {v1 v2 : Value} (h : TkAt w b o ty B T v1 v2) (hb : Below w.heap.size w w') : TkAt w' b o ty B T v1 v2 := h.same fun k hk => hb.block k (h.lt k hk).1
theorem TkAt.setDeaf {w : World} {b o : Nat} {ty : TypeId} {B : Nat} {T : Tk} {v1 v2 : Value} (h : TkAt w b o ty B T v1 v2) : TkAt (w.setCell ⟨b, o + 5, none⟩ (.bool true)) b o ty B { T with deaf := true } v1 v2 := by
  obtain ⟨cs, hb⟩ := h.hb
  refine ⟨⟨_, block_set hb _ _⟩, (cell_ne (by omega)).trans h.c0, (cell_ne (by omega)).trans h.c1, (cell_ne (by omega)).trans h.c2, (cell_ne (by omega)).trans h.c3, (cell_ne (by omega)).trans h.c4, cell_eq h.c5, ownsRow_heap h.r1 fun k hk => block_set_ne (fun e => h.n1 (by rw [hk, e])), ownsRow_heap h.r2 fun k hk => block_set_ne (fun e => h.n2 (by rw [hk, e])), h.n1, h.n2, h.n12, h.bB⟩
theorem TkAt.app1 {wB w1 : World} {b o : Nat} {ty : TypeId} {B : Nat} {T : Tk} {v1 v2 : Value} (h : TkAt wB b o ty B T v1 v2) (hg : wB.grownBy w1 v1.ownBlock) {s1 : Value} {g1 : Nat} {l : List Int} (hs : s1.ownBlock = some g1) (hat : v1.ownBlock = some g1 ∨ g1 = wB.heap.size)
    (hown : w1.ownsRow B 3 1 s1 (T.at_ ++ l).length ((T.at_ ++ l).map (Value.int .i64))) : TkAt (w1.setCell ⟨b, o, none⟩ s1) b o ty B { T with at_ := T.at_ ++ l } s1 v2 := by
  obtain ⟨cs, hb⟩ := h.hb
  have lb := lt_of_heap hb
  have e1 : ∀ j, w1.cell? ⟨b, j, none⟩ = wB.cell? ⟨b, j, none⟩ := fun j => hg.cell_far ⟨b, j, none⟩ lb (fun e => h.n1 e.symm)
  have hb1 := (hg.block b lb (fun e => h.n1 e.symm)).trans hb
  have nb : g1 ≠ b := by
    rcases hat with e | e
    · intro q; exact h.n1 (by rw [e, q])
    · omega
  have n2' : ∀ k, v2.ownBlock = some k → k ≠ g1 := fun k hk e => by
    rcases hat with q | q
    · exact h.n12 g1 q (by rw [hk, e])
    · have := (h.r2.lt k hk).2; omega
  refine ⟨⟨_, block_set hb1 _ _⟩, cell_eq ((e1 _).trans h.c0), (cell_ne (by omega)).trans ((e1 _).trans h.c1), (cell_ne (by omega)).trans ((e1 _).trans h.c2), (cell_ne (by omega)).trans ((e1 _).trans h.c3), (cell_ne (by omega)).trans ((e1 _).trans h.c4), (cell_ne (by omega)).trans ((e1 _).trans h.c5),
    ownsRow_heap hown fun k hk => block_set_ne (by rw [hs] at hk; cases hk; exact nb), ownsRow_heap h.r2 fun k hk => (block_set_ne (fun e => h.n2 (by rw [hk, e]))).trans (hg.block k (h.r2.lt k hk).2 (fun e => h.n12 k e.symm hk)), by rw [hs]; intro e; cases e; exact nb rfl, h.n2, fun k hk e => by rw [hs] at hk; cases hk; exact n2' _ e rfl, h.bB⟩
theorem TkAt.app2 {wB w1 : World} {b o : Nat} {ty : TypeId} {B : Nat} {T : Tk} {v1 v2 : Value} (h : TkAt wB b o ty B T v1 v2) (hg : wB.grownBy w1 v2.ownBlock) {s1 : Value} {g1 : Nat} {l : List Hd} (hs : s1.ownBlock = some g1) (hat : v2.ownBlock = some g1 ∨ g1 = wB.heap.size)
    (hown : w1.ownsRow B 24 7 s1 (T.hd ++ l).length ((T.hd ++ l).flatMap hdL)) : TkAt (w1.setCell ⟨b, o + 1, none⟩ s1) b o ty B { T with hd := T.hd ++ l } v1 s1 := by
  obtain ⟨cs, hb⟩ := h.hb
  have lb := lt_of_heap hb
  have e1 : ∀ j, w1.cell? ⟨b, j, none⟩ = wB.cell? ⟨b, j, none⟩ := fun j => hg.cell_far ⟨b, j, none⟩ lb (fun e => h.n2 e.symm)
  have hb1 := (hg.block b lb (fun e => h.n2 e.symm)).trans hb
  have nb : g1 ≠ b := by
    rcases hat with e | e
    · intro q; exact h.n2 (by rw [e, q])
    · omega
  have n1' : ∀ k, v1.ownBlock = some k → k ≠ g1 := fun k hk e => by
    rcases hat with q | q
    · exact h.n12 k hk (by rw [q, e])
    · have := (h.r1.lt k hk).2; omega
  refine ⟨⟨_, block_set hb1 _ _⟩, (cell_ne (by omega)).trans ((e1 _).trans h.c0), cell_eq ((e1 _).trans h.c1), (cell_ne (by omega)).trans ((e1 _).trans h.c2), (cell_ne (by omega)).trans ((e1 _).trans h.c3), (cell_ne (by omega)).trans ((e1 _).trans h.c4), (cell_ne (by omega)).trans ((e1 _).trans h.c5),
    ownsRow_heap h.r1 fun k hk => (block_set_ne (fun e => h.n1 (by rw [hk, e]))).trans (hg.block k (h.r1.lt k hk).2 (fun e => h.n12 k hk e.symm)), ownsRow_heap hown fun k hk => block_set_ne (by rw [hs] at hk; cases hk; exact nb), h.n1, by rw [hs]; intro e; cases e; exact nb rfl, fun k hk e => by rw [hs] at e; cases e; exact n1' _ hk rfl, h.bB⟩
theorem TkAt.setDone {w : World} {b o : Nat} {ty : TypeId} {B : Nat} {T : Tk} {v1 v2 : Value} (h : TkAt w b o ty B T v1 v2) (d : Bool) : TkAt (w.setCell ⟨b, o + 4, none⟩ (.bool d)) b o ty B { T with done := d } v1 v2 := by
  obtain ⟨cs, hb⟩ := h.hb
  refine ⟨⟨_, block_set hb _ _⟩, (cell_ne (by omega)).trans h.c0, (cell_ne (by omega)).trans h.c1, (cell_ne (by omega)).trans h.c2, (cell_ne (by omega)).trans h.c3, cell_eq h.c4, (cell_ne (by omega)).trans h.c5, ownsRow_heap h.r1 fun k hk => block_set_ne (fun e => h.n1 (by rw [hk, e])), ownsRow_heap h.r2 fun k hk => block_set_ne (fun e => h.n2 (by rw [hk, e])), h.n1, h.n2, h.n12, h.bB⟩
theorem Only.grown {S : List Nat} {a w w' : World} {row : Option Nat} (h : Only S a w) (hg : w.grownBy w' row) (hr : ∀ k, row = some k → k ∈ S) : Only S a w' :=
  ⟨hg.os.trans h.os, hg.tape.trans h.tape, hg.output.trans h.output, Nat.le_trans h.size hg.size, fun k hk hn => (hg.block k (Nat.lt_of_lt_of_le hk h.size) (fun e => hn (hr k e.symm))).trans (h.block k hk hn)⟩
set_option maxRecDepth 100000 in
set_option maxHeartbeats 4000000 in
theorem take_done (b o : Nat) (ty : TypeId) (B : Nat) (T : Tk) (v1 v2 : Value) (x : Int) (h : Hd) (w : World) (hT : TkAt w b o ty B T v1 v2) (hd : T.done = true) :
    Calls Tryd.prog 136 #[.pointer (some ⟨b, o, none⟩), .int .i64 x, h.val] w fun e w' => e = .returned (.bool false) ∧ TkAt w' b o ty B { T with deaf := true } v1 v2 ∧ (∀ j, j < o ∨ o + 6 ≤ j → w'.cell? ⟨b, j, none⟩ = w.cell? ⟨b, j, none⟩) ∧ Only [b] w w' := by
  obtain ⟨x0, x1, x2, x3, x4, x5, x6⟩ := h
  unfold Hd.val
  simp only
  have lb : b < w.heap.size := World.block_lt_of_cell? w ⟨b, o, none⟩ hT.c0
  have c4 := hT.c4
  have c5 := hT.c5
  rw [hd] at c4
  have f5 : w.frozen? ⟨b, o + 5, none⟩ = false := by obtain ⟨cs, hb⟩ := hT.hb; exact (hcell hb).2 _
  go_enter Tryd.func136, Tryd.ntmps136
  go_wp2
  go_ret
  have hO : Only [b] w (w.setCell ⟨b, o + 5, none⟩ (.bool true)) := (Only.refl [b] w).setCell (by simp) _
  refine ⟨rfl, hT.setDeaf.below ((Below.refl _ _).alloc (Nat.le_refl _) _), fun j hj => ?_, hO.alloc _⟩
  have hbA := (Below.refl (w.setCell ⟨b, o + 5, none⟩ (.bool true)).heap.size (w.setCell ⟨b, o + 5, none⟩ (.bool true))).alloc (Nat.le_refl _) (.cells #[.int .u64 x0, .int .i64 x1, .int .i64 x2, .int .i64 x3, .int .i64 x4, .int .i64 x5, .bool x6] 24)
  exact (hbA.cell (p := ⟨b, j, none⟩) (by simpa using lb)).trans (cell_ne (by omega))
set_option maxRecDepth 100000 in
set_option maxHeartbeats 8000000 in
theorem take_on (b o : Nat) (ty : TypeId) (B : Nat) (T : Tk) (v1 v2 : Value) (x : Int) (h : Hd) (w : World) (hT : TkAt w b o ty B T v1 v2) (hB : B ≤ w.heap.size) (hd : T.done = false) (hn : T.at_.length ≤ 1000000) (hn2 : T.hd.length ≤ 1000000) :
    Calls Tryd.prog 136 #[.pointer (some ⟨b, o, none⟩), .int .i64 x, h.val] w fun e w' => e = .returned (.bool (!(T.take x h).done)) ∧ ∃ v1' v2', TkAt w' b o ty B (T.take x h) v1' v2' ∧ (∀ k ∈ fpOf b v1' v2', k ∈ fpOf b v1 v2 ∨ w.heap.size ≤ k) ∧ (∀ j, j < o ∨ o + 6 ≤ j → w'.cell? ⟨b, j, none⟩ = w.cell? ⟨b, j, none⟩) ∧ Only (fpOf b v1 v2) w w' := by
  obtain ⟨x0, x1, x2, x3, x4, x5, x6⟩ := h
  unfold Hd.val
  simp only
  obtain ⟨i1, hi1, hz1, hs1, hy1⟩ := info_parts infoInt
  obtain ⟨i2, hi2, hz2, hs2, hy2⟩ := info_parts infoHead
  have lb : b < w.heap.size := World.block_lt_of_cell? w ⟨b, o, none⟩ hT.c0
  have c4 := hT.c4
  have c0 := hT.c0
  rw [hd] at c4
  obtain ⟨cs, hb⟩ := hT.hb
  have ff := (hcell hb).2
  go_enter Tryd.func136, Tryd.ntmps136
  go_upto_region 4 with fail
  have hbA := (Below.refl w.heap.size w).alloc (Nat.le_refl _) (.cells #[.int .u64 x0, .int .i64 x1, .int .i64 x2, .int .i64 x3, .int .i64 x4, .int .i64 x5, .bool x6] 24)
  have hH := heap_one w (.cells #[.int .u64 x0, .int .i64 x1, .int .i64 x2, .int .i64 x3, .int .i64 x4, .int .i64 x5, .bool x6] 24)
  have hTA := hT.below hbA
  generalize w.alloc (.cells #[.int .u64 x0, .int .i64 x1, .int .i64 x2, .int .i64 x3, .int .i64 x4, .int .i64 x5, .bool x6] 24) = wA at *
  clear c0 c4 ff hb
  have c0 := hTA.c0
  obtain ⟨cs, hb⟩ := hTA.hb
  have ff := (hcell hb).2
  have lA := lt_of_heap hb
  have lH := lt_of_heap hH
  have bA : B ≤ wA.heap.size := by omega
  have hTB := hTA.below ((Below.refl wA.heap.size wA).alloc (Nat.le_refl _) (.cells #[.int .i64 x] 3))
  have hHB := ((Below.refl wA.heap.size wA).alloc (Nat.le_refl _) (.cells #[.int .i64 x] 3)).block _ lH
  go_upto_region 5 with (at_builtin; refine wpList_append_lies _ rfl _ _ 59 rfl B 3 i1 (.int .i64 0) 1 8 Tryd.underlying59 hi1 hz1 hs1 hy1 rfl (by decide) v1 T.at_.length _ rfl (hTA.r1.alloc _) ⟨wA.heap.size, 0, none⟩ 1 1 [.int .i64 x] rfl rfl (cell_one_new _ _ _) (fun u hu => by simp at hu; subst hu; rfl) (by decide) (by unfold maxLen; omega) (by omega) (by simp; omega) (wA.heap.size + 1) (by simp) ?_; intro g1 cap1 w1 hown1 hgrow1 hat1 hlt1; obtain ⟨cs1, hb1⟩ := hTB.hb; replace hb1 := (hgrow1.block b (by simp; omega) (fun e => hT.n1 e.symm)).trans hb1; have f1 := (hcell hb1).2; have cc := (hgrow1.cell_far ⟨b, o, none⟩ (by simp; omega) (fun e => hT.n1 e.symm)).trans hTB.c0)
  have hT2 := hTB.app1 (l := [x]) hgrow1 rfl (by simpa using hat1) (by simpa using hown1)
  have hH2 := (block_set_ne (o := o) (v := .slice (some ⟨g1, 0, none⟩) (T.at_.length + 1) cap1) (show w.heap.size ≠ b by omega)).trans ((hgrow1.block w.heap.size (by simp; omega) (fun e => by have := (hT.r1.lt _ e.symm).2; omega)).trans (hHB.trans hH))
  have hO2 : Only (fpOf b v1 v2) w (w1.setCell ⟨b, o, none⟩ (.slice (some ⟨g1, 0, none⟩) (T.at_.length + 1) cap1)) :=
    Only.setCell (p := ⟨b, o, none⟩) (((Only.of_below hbA).alloc _).grown hgrow1 (fun k hk => mem_fp.2 (.inr (.inl hk)))) (mem_fp.2 (.inl rfl)) _
  have hg1 : v1.ownBlock = some g1 ∨ w.heap.size ≤ g1 := by
    rcases hat1 with q | q
    · exact .inl q
    · right; omega
  have hC2 : ∀ j, j < o ∨ o + 6 ≤ j → (w1.setCell ⟨b, o, none⟩ (.slice (some ⟨g1, 0, none⟩) (T.at_.length + 1) cap1)).cell? ⟨b, j, none⟩ = w.cell? ⟨b, j, none⟩ := fun j hj => by
    rw [cell_ne (by omega)]
    exact (hgrow1.cell_far ⟨b, j, none⟩ (by simp; omega) (fun e => hT.n1 e.symm)).trans ((((Below.refl wA.heap.size wA).alloc (Nat.le_refl _) (.cells #[.int .i64 x] 3)).cell (p := ⟨b, j, none⟩) lA).trans (hbA.cell (p := ⟨b, j, none⟩) lb))
  have hv2 := fun k hk => (hT.r2.lt k hk).2
  have lsz := hO2.size
  clear hT hTA hTB hHB hbA hH hb hown1 hgrow1 hat1 hlt1 hb1 f1 cc c0 ff lA lH bA cs1 cs
  generalize w1.setCell ⟨b, o, none⟩ (.slice (some ⟨g1, 0, none⟩) (T.at_.length + 1) cap1) = w2 at *
  have c1 := hT2.c1
  have ch := (hcell hH2).1
  have lq := lt_of_heap hH2
  obtain ⟨cs2, hb2⟩ := hT2.hb
  have lb2 := lt_of_heap hb2
  have f2 := (hcell hb2).2
  have bB2 : B ≤ w2.heap.size := by have := hT2.bB; omega
  have r2 := hT2.r2
  simp only at r2 c1
  have nq2 : some w.heap.size ≠ v2.ownBlock := fun e => by have := hv2 _ e.symm; omega
  have nb2 : some b ≠ v2.ownBlock := fun e => hT2.n2 e.symm
  have fo2 := f2 (o + 1)
  go_cut [] from 24 (fun wx => ∃ u1 u2, TkAt wx b o ty B { T with at_ := T.at_ ++ [x], hd := T.hd ++ [⟨x0, x1, x2, x3, x4, x5, x6⟩] } u1 u2 ∧ (∀ k ∈ fpOf b u1 u2, k ∈ fpOf b v1 v2 ∨ w.heap.size ≤ k) ∧ (∀ j, j < o ∨ o + 6 ≤ j → wx.cell? ⟨b, j, none⟩ = w.cell? ⟨b, j, none⟩) ∧ Only (fpOf b v1 v2) w wx)
  case first =>
    go_region_law (refine step_append_lies _ (by rfl) _ _ 138 (by rfl) B 24 i2 _ 7 56 Tryd.underlying138 hi2 hz2 hs2 hy2 rfl (by decide) v2 T.hd.length _ (by rfl) ((r2.alloc _).drew) ⟨w2.heap.size, 0, none⟩ 1 1 (hdL ⟨x0, x1, x2, x3, x4, x5, x6⟩) (by rfl) (by rfl) (World.news_of_block (cs := #[.int .u64 x0, .int .i64 x1, .int .i64 x2, .int .i64 x3, .int .i64 x4, .int .i64 x5, .bool x6]) (t := 24) (fr := (0, 0)) (heap_alloc_new w2 _)) (by simp [hdL, Value.oneCell']) (by omega) (by unfold maxLen; omega) (by omega) (by simp; omega) (w2.heap.size + 1) (by simp) ?_; intro g2 cap2 w3 hown2 hgrow2 hat2 hlt2; have q1 := hgrow2.cell_far ⟨b, o + 1, none⟩ (by simp; omega) nb2; have q2 := hgrow2.frozen_far ⟨b, o + 1, none⟩ (by simp; omega) nb2)
    all_goals
      go_wp2_with fail
      go_meet
      have hbX := ((Below.refl w2.heap.size w2).alloc (Nat.le_refl _) (.cells #[.int .u64 x0, .int .i64 x1, .int .i64 x2, .int .i64 x3, .int .i64 x4, .int .i64 x5, .bool x6] 24)).drew
      refine ⟨_, _, (hT2.below hbX).app2 (l := [⟨x0, x1, x2, x3, x4, x5, x6⟩]) hgrow2 rfl (by simpa using hat2) (by simpa [List.flatMap_append] using hown2), fun k hk => ?_, fun j hj => ?_, ?_⟩
      · rcases mem_fp.1 hk with rfl | hk | hk
        · exact .inl (mem_fp.2 (.inl rfl))
        · cases hk
          rcases hg1 with q | q
          · exact .inl (mem_fp.2 (.inr (.inl q)))
          · exact .inr q
        · cases hk
          rcases hat2 with q | q
          · exact .inl (mem_fp.2 (.inr (.inr q)))
          · right; show w.heap.size ≤ g2; omega
      · rw [cell_ne (by omega)]
        exact (hgrow2.cell_far ⟨b, j, none⟩ (by simp; omega) nb2).trans ((hbX.cell (p := ⟨b, j, none⟩) lb2).trans (hC2 j hj))
      · exact Only.setCell (p := ⟨b, o + 1, none⟩) (((hO2.alloc _).drew).grown hgrow2 (fun k hk => mem_fp.2 (.inr (.inr hk)))) (mem_fp.2 (.inl rfl)) _
  case rest =>
    obtain ⟨u1, u2, hT3, hfp, hC3, hO3⟩ := hcut
    clear hT2 hO2 hC2 hH2 hv2 c1 ch lq hb2 lb2 f2 bB2 r2 nb2 fo2 nq2
    obtain ⟨g3, cap3, rfl, -, -⟩ := hT3.r1.form (by simp)
    have lb3 := (hT3.lt b (mem_fp.2 (.inl rfl))).1
    obtain ⟨cs3, hb3⟩ := hT3.hb
    have f3 := (hcell hb3).2
    have k0 := hT3.c0
    have k2 := hT3.c2
    have k3 := hT3.c3
    have k4 := hT3.c4
    have ht : T.take x ⟨x0, x1, x2, x3, x4, x5, x6⟩ = { T with at_ := T.at_ ++ [x], hd := T.hd ++ [⟨x0, x1, x2, x3, x4, x5, x6⟩], done := decide ((T.at_.length : Int) + 1 = T.stop) || decide (T.most < (T.at_.length : Int) + 1) } := by unfold Tk.take; rw [hd]; rfl
    simp only [List.length_append, List.length_cons, List.length_nil] at k0 k2 k3 k4
    have FIN := Lib.hid (fun (d : Bool) (hq : (decide ((T.at_.length : Int) + 1 = T.stop) || decide (T.most < (T.at_.length : Int) + 1)) = d) =>
      (⟨_, u2, by
          have hz := (hT3.setDone d).below ((Below.refl (wc.setCell ⟨b, o + 4, none⟩ (.bool d)).heap.size (wc.setCell ⟨b, o + 4, none⟩ (.bool d))).drew)
          rw [ht, hq]; exact hz, hfp, fun j hj => (cell_ne (by omega)).trans (hC3 j hj), (Only.setCell (p := ⟨b, o + 4, none⟩) hO3 (mem_fp.2 (.inl rfl)) _).drew⟩ :
        ∃ v1' v2', TkAt (wc.setCell ⟨b, o + 4, none⟩ (.bool d)).drew b o ty B (T.take x ⟨x0, x1, x2, x3, x4, x5, x6⟩) v1' v2' ∧ (∀ k ∈ fpOf b v1' v2', k ∈ fpOf b v1 v2 ∨ w.heap.size ≤ k) ∧ (∀ j, j < o ∨ o + 6 ≤ j → (wc.setCell ⟨b, o + 4, none⟩ (.bool d)).drew.cell? ⟨b, j, none⟩ = w.cell? ⟨b, j, none⟩) ∧ Only (fpOf b v1 v2) w (wc.setCell ⟨b, o + 4, none⟩ (.bool d)).drew))
    have hdn : (T.take x ⟨x0, x1, x2, x3, x4, x5, x6⟩).done = (decide ((T.at_.length : Int) + 1 = T.stop) || decide (T.most < (T.at_.length : Int) + 1)) := by rw [ht]
    have HDN := Lib.hid hdn
    clear hdn ht hC3 hO3 hfp hT3
    by_cases q1 : (T.at_.length : Int) + 1 = T.stop
    · have e1 : ((T.at_.length : Int) + 1 == T.stop) = true := by simpa using q1
      have hq : (decide ((T.at_.length : Int) + 1 = T.stop) || decide (T.most < (T.at_.length : Int) + 1)) = true := by simp [q1]
      have F := Lib.hid (FIN.out true hq)
      have HD := Lib.hid (HDN.out.trans hq)
      clear FIN HDN hq q1
      go_upto_region 6 with fail
      go_big_region
      go_wp2_with fail
      go_ret
      exact ⟨by rw [HD.out]; rfl, F.out⟩
    · have e1 : ((T.at_.length : Int) + 1 == T.stop) = false := by simpa using q1
      by_cases q2 : T.most < (T.at_.length : Int) + 1
      · have e2 : decide (T.most < (T.at_.length : Int) + 1) = true := by simpa using q2
        have hq : (decide ((T.at_.length : Int) + 1 = T.stop) || decide (T.most < (T.at_.length : Int) + 1)) = true := by simp [q2]
        have F := Lib.hid (FIN.out true hq)
        have HD := Lib.hid (HDN.out.trans hq)
        clear FIN HDN hq q1 q2
        go_upto_region 6 with fail
        go_big_region
        go_wp2_with fail
        go_ret
        exact ⟨by rw [HD.out]; rfl, F.out⟩
      · have e2 : decide (T.most < (T.at_.length : Int) + 1) = false := by simpa using q2
        have hq : (decide ((T.at_.length : Int) + 1 = T.stop) || decide (T.most < (T.at_.length : Int) + 1)) = false := by simp [q1, q2]
        have F := Lib.hid (FIN.out false hq)
        have HD := Lib.hid (HDN.out.trans hq)
        clear FIN HDN hq q1 q2
        go_upto_region 6 with fail
        go_big_region
        go_wp2_with fail
        go_ret
        exact ⟨by rw [HD.out]; rfl, F.out⟩
theorem Tk.take_len {T : Tk} (hl : T.at_.length = T.hd.length) (x : Int) (h : Hd) : (T.take x h).at_.length = (T.take x h).hd.length := by
  unfold Tk.take; split <;> simp [hl]
theorem take_any (b o : Nat) (ty : TypeId) (B : Nat) (T : Tk) (v1 v2 : Value) (x : Int) (h : Hd) (w : World) (hT : TkAt w b o ty B T v1 v2) (hB : B ≤ w.heap.size) (hn : T.at_.length ≤ 1000000) (hl : T.at_.length = T.hd.length) :
    Calls Tryd.prog 136 #[.pointer (some ⟨b, o, none⟩), .int .i64 x, h.val] w fun e w' => e = .returned (.bool (!(T.take x h).done)) ∧ ∃ v1' v2', TkAt w' b o ty B (T.take x h) v1' v2' ∧ (∀ k ∈ fpOf b v1' v2', k ∈ fpOf b v1 v2 ∨ w.heap.size ≤ k) ∧ (∀ j, j < o ∨ o + 6 ≤ j → w'.cell? ⟨b, j, none⟩ = w.cell? ⟨b, j, none⟩) ∧ Only (fpOf b v1 v2) w w' := by
  by_cases hd : T.done = true
  · refine (take_done b o ty B T v1 v2 x h w hT hd).mono fun e w' ⟨h1, h2, h3, h4⟩ => ?_
    have ht : T.take x h = { T with deaf := true } := by unfold Tk.take; rw [if_pos hd]
    rw [ht]
    exact ⟨by rw [h1]; simp [hd], v1, v2, h2, fun k hk => .inl hk, h3, h4.mono (fun k hk => by simp at hk; rw [hk]; exact mem_fp.2 (.inl rfl))⟩
  · exact take_on b o ty B T v1 v2 x h w hT hB (by simpa using hd) hn (by omega)
end Go.Proofs.YtomgfdfgildkbaaDoor
