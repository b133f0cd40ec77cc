/- Merged texts: Og1, Og2, Og3, Lrk, Leaving. No condition of its own: each text says what it holds. -/
import Derived.Test.YtogpgkoelplknaaDoorGRt6
import Derived.Test.YtogpgkoelplknaaDoorRows
import Derived.ChangeArms
import Derived.DataReads
import Derived.Lib.SmallJoins
import Derived.LaidMore
import Derived.OpenShut
import Derived.Carry
import Derived.Leaving
import Derived.Conc.Holds
import Derived.Lib.LaidTab
import Derived.Deep.DeepHandedRow
import Derived.SevenTiedAt
import Derived.JoinedCond
import Derived.Conc.LeavingOf
section
namespace Go.Proofs.YtogpgkoelplknaaDoor
open Go.RowKit Go.BigFrame PLensPaths Go.Proofs.YtogpgkoelplknaaDoorW.PrintWords Go.Proofs.YtogpgkoelplknaaDoorW.PrintMore
set_option linter.unusedVariables false
section
theorem bulk_one {H : Type} (d : DataW H) : 1 <= Rows.uptoBulk d := by
 cases d with
 | lit l => cases l <;> simp [Rows.uptoBulk]
 | nil => simp [Rows.uptoBulk]
 | ptr d => simp [Rows.uptoBulk]
 | slice elems spare => simp [Rows.uptoBulk]
 | agg parts => simp [Rows.uptoBulk]
 | iface t d => simp [Rows.uptoBulk]
 | map entries => simp [Rows.uptoBulk]
 | held h => simp [Rows.uptoBulk]
def Opens {α : Type} (d : Kd α) (t : TypeId) (ν : α -> Nat) : Prop := ∀ (H : Type) (enc : TypeId × Value -> H) (w : World) (base : Nat) (spare : Nat -> Bool) (held : Bool) (fuel : Nat) (cs : List Value) (x : DataW H × List MemPlace), DataW.trod enc Tryd.prog w base spare held fuel t cs = some x -> ∃ a, d.K w a cs /\ ν a <= Rows.uptoBulk x.1
theorem opens_int {k : IntKind} {t : TypeId} (ht : Tryd.prog.underlying t = some (.int k)) : Opens (Kd.int k) t (fun _ => 1) := by
 intro H enc w base spare held fuel cs x h
 cases fuel with
 | zero => simp [DataW.trod] at h
 | succ n =>
  unfold DataW.trod at h
  rw [ht] at h
  split at h <;> simp_all
  exact ⟨⟨_, rfl⟩, bulk_one _⟩
theorem opens_slice {α : Type} {d : Kd α} {t e : TypeId} {ν : α -> Nat} (ht : Tryd.prog.underlying t = some (.slice e)) (hs : Tryd.prog.cellsOf e = d.sz) (ho : Opens d e ν) : Opens (Kd.slice e d) t (fun xs => 1 + (xs.map ν).sum) := by
 intro H enc w base spare held fuel cs x h
 rcases DataW.trod_slice ht h with ⟨rfl, rfl⟩ | ⟨a, len, cap, elems, rest, n, _, rfl, rfl, hb, hl, hm, hlen, hel, _, _⟩
 ·exact ⟨[], ⟨none, 0, rfl, Nat.le_refl _, rfl, by simp, fun h => by simp at h⟩, by simpa using bulk_one _⟩
 ·have one : ∀ i : Fin len, ∃ p, ν p <= Rows.uptoBulk (elems[i.1]'(by omega)).1 /\ ∃ c, c.length = d.sz /\ d.K w p c /\ ∀ j u, c[j]? = some u -> w.cell? (a.add (i.1 * d.sz + j)) = some u := by
   intro i
   have h1 := hel i.1 i.2
   rw [List.getElem?_eq_getElem (show i.1 < elems.length by omega)] at h1
   obtain ⟨c, hc, hy⟩ := Option.bind_eq_some_iff.1 h1
   obtain ⟨p, k1, k2⟩ := ho H enc w base spare held n c _ hy
   obtain ⟨_, g1, g2⟩ := World.cells?_some hc
   rw [hs] at g1 g2
   refine ⟨p, k2, c, g1, k1, fun j u hu => ?_⟩
   have hj := (List.getElem?_eq_some_iff.1 hu).1
   rw [<- Addr.add_add, g2 j (by omega)]
   exact hu
  have hml : maxLen <= 9223372036854775807 := by decide
  refine ⟨List.ofFn fun i => Classical.choose (one i), ⟨some a, cap, ?_, ?_, by simp, by simp; omega, fun _ => ⟨a, rfl, fun j p hj => ?_⟩⟩, ?_⟩
  ·simp
  ·simpa using hl
  ·obtain ⟨hi, rfl⟩ := List.getElem?_eq_some_iff.1 hj
   have hi' : j < len := by simpa using hi
   obtain ⟨c, q1, q2, q3⟩ := (Classical.choose_spec (one ⟨j, hi'⟩)).2
   exact ⟨c, q1, by simpa using q2, q3⟩
  ·have e : (List.ofFn fun i => Classical.choose (one i)).map ν = List.ofFn fun i => ν (Classical.choose (one i)) := by simp [List.map_ofFn]; rfl
   have key : ∀ (l : List (DataW H × List MemPlace)) (f : Fin l.length -> Nat), (∀ i, f i <= Rows.uptoBulk (l[i.1]).1) -> (List.ofFn f).sum <= Rows.uptoBulkAll (l.map (·.1)) := by
    intro l
    induction l with
    | nil => intro f _; simp
    | cons y l ih =>
     intro f hf
     have h0 := hf ⟨0, by simp⟩
     have h1 := ih (fun i => f i.succ) (fun i => by simpa using hf i.succ)
     simp only [List.ofFn_succ, List.sum_cons, List.map_cons, Rows.uptoBulkAll]
     have h0' : f 0 <= Rows.uptoBulk y.1 := h0
     omega
   subst hlen
   have := key elems (fun i => ν (Classical.choose (one i))) (fun i => (Classical.choose_spec (one i)).1)
   simp only [Rows.uptoBulk]
   rw [e]
   omega
theorem opens_ints : Opens kInts 24 (fun xs => 1 + (xs.map fun _ => 1).sum) := opens_slice Tryd.underlying24 (by kernel_rfl) (opens_int Tryd.underlying3)
theorem opens_words : Opens kWords 57 (fun xs => 1 + (xs.map fun _ => 1).sum) := opens_slice Tryd.underlying57 (by kernel_rfl) (opens_int Tryd.underlying25)
theorem cells_ob : Tryd.prog.cellsOf 59 = 5 := by kernel_rfl
theorem cells_one : Tryd.prog.cellsOf 3 = 1 /\ Tryd.prog.cellsOf 25 = 1 /\ Tryd.prog.cellsOf 24 = 1 /\ Tryd.prog.cellsOf 57 = 1 := ⟨by kernel_rfl, by kernel_rfl, by kernel_rfl, by kernel_rfl⟩
def obBulk (o : Ob) : Nat := o.f3.length + o.f4.length + 3
theorem sum_ones (l : List Int) : (l.map fun _ => 1).sum = l.length := by
 induction l with
 | nil => rfl
 | cons x l ih => simp [ih]; omega
set_option maxRecDepth 100000 in
theorem opens_ob : Opens kOb 59 obBulk := by
 intro H enc w base spare held fuel cs x h
 obtain ⟨xs, n, _, hx, hcs, hlen, hg⟩ := DataW.trod_struct Tryd.underlying59 h
 rw [cells_ob] at hcs
 obtain ⟨o1, o2, o3, o4⟩ := cells_one
 match cs, hcs, xs, hlen with
 | [c0, c1, c2, c3, c4], _, [y0, y1, y2, y3, y4], _ =>
  have g0 := hg 0 _ rfl
  have g1 := hg 1 _ rfl
  have g2 := hg 2 _ rfl
  have g3 := hg 3 _ rfl
  have g4 := hg 4 _ rfl
  simp [o1, o2, o3, o4] at g0 g1 g2 g3 g4
  obtain ⟨f0, k0, _⟩ := opens_int (k := .u64) Tryd.underlying25 H enc w base spare held n _ _ g0
  obtain ⟨f1, k1, _⟩ := opens_int (k := .i64) Tryd.underlying3 H enc w base spare held n _ _ g1
  obtain ⟨f2, k2, _⟩ := opens_int (k := .i64) Tryd.underlying3 H enc w base spare held n _ _ g2
  obtain ⟨f3, k3, b3⟩ := opens_ints H enc w base spare held n _ _ g3
  obtain ⟨f4, k4, b4⟩ := opens_words H enc w base spare held n _ _ g4
  have k0' : [c0] = [.int .u64 f0] := k0
  have k1' : [c1] = [.int .i64 f1] := k1
  have k2' : [c2] = [.int .i64 f2] := k2
  obtain ⟨A3, d3, k3', l3, q3⟩ := k3
  obtain ⟨A4, d4, k4', l4, q4⟩ := k4
  cases k0'
  cases k1'
  cases k2'
  cases k3'
  cases k4'
  refine ⟨⟨f0, f1, f2, f3, f4⟩, k59_mk w ⟨f0, f1, f2, f3, f4⟩ l3 q3 l4 q4, ?_⟩
  subst hx
  have b3 : 1 + (f3.map fun _ => 1).sum <= Rows.uptoBulk y3.1 := b3
  have b4 : 1 + (f4.map fun _ => 1).sum <= Rows.uptoBulk y4.1 := b4
  rw [sum_ones] at b3 b4
  have e0 := bulk_one y0.1
  have e1 := bulk_one y1.1
  have e2 := bulk_one y2.1
  simp only [obBulk, List.map_cons, List.map_nil, Rows.uptoBulk, Rows.uptoBulkAll]
  omega
end
section
theorem opens_obs : Opens (Kd.slice 59 kOb) 22 (fun xs => 1 + (xs.map obBulk).sum) := opens_slice Tryd.underlying22 (by kernel_rfl) opens_ob
theorem opens_rows : Opens kFrames 30 (fun xs => 1 + (xs.map fun l => 1 + (l.map fun _ => 1).sum).sum) := opens_slice Tryd.underlying30 (by kernel_rfl) opens_ints
theorem opens_slots : Opens (Kd.slice 30 kFrames) 23 (fun ys => 1 + (ys.map fun xs => 1 + (xs.map fun l => 1 + (l.map fun _ => 1).sum).sum).sum) := opens_slice Tryd.underlying23 (by kernel_rfl) opens_rows
theorem cells_gr : Tryd.prog.cellsOf 27 = 6 := by kernel_rfl
theorem cells_two : Tryd.prog.cellsOf 22 = 1 /\ Tryd.prog.cellsOf 23 = 1 := ⟨by kernel_rfl, by kernel_rfl⟩
def rowsBulk (G : Gr) : Nat := (G.slots.map fun xs => 1 + (xs.map fun l => 1 + (l.map fun _ => 1).sum).sum).sum
def bulkG (G : Gr) : Nat := (G.obs.map obBulk).sum + rowsBulk G + G.hands.length + G.reg.length + G.queue.length
set_option maxRecDepth 100000 in
theorem open_graph {H : Type} {enc : TypeId × Value -> H} {w : World} {base : Nat} {spare : Nat -> Bool} {held : Bool} {fuel : Nat} {cs : List Value} {x : DataW H × List MemPlace} (h : DataW.trod enc Tryd.prog w base spare held fuel 27 cs = some x) :
  ∃ g G, cs = (gcells g G).toList /\ GAt w g G /\ bulkG G <= Rows.uptoBulk x.1 := by
 obtain ⟨xs, n, _, hx, hcs, hlen, hg⟩ := DataW.trod_struct Tryd.underlying27 h
 rw [cells_gr] at hcs
 obtain ⟨o1, o2, o3, o4⟩ := cells_one
 obtain ⟨o5, o6⟩ := cells_two
 match cs, hcs, xs, hlen with
 | [c0, c1, c2, c3, c4, c5], _, [y0, y1, y2, y3, y4, y5], _ =>
  have g0 := hg 0 _ rfl
  have g1 := hg 1 _ rfl
  have g2 := hg 2 _ rfl
  have g3 := hg 3 _ rfl
  have g4 := hg 4 _ rfl
  have g5 := hg 5 _ rfl
  simp [o2, o3, o5, o6] at g0 g1 g2 g3 g4 g5
  obtain ⟨f0, ⟨A0, d0, k0, l0, r0⟩, b0⟩ := opens_obs H enc w base spare held n _ _ g0
  obtain ⟨f1, ⟨A1, d1, k1, l1, r1⟩, b1⟩ := opens_slots H enc w base spare held n _ _ g1
  obtain ⟨f2, ⟨A2, d2, k2, l2, r2⟩, b2⟩ := opens_ints H enc w base spare held n _ _ g2
  obtain ⟨f3, ⟨A3, d3, k3, l3, r3⟩, b3⟩ := opens_ints H enc w base spare held n _ _ g3
  obtain ⟨f4, ⟨A4, d4, k4, l4, r4⟩, b4⟩ := opens_ints H enc w base spare held n _ _ g4
  obtain ⟨f5, k5, _⟩ := opens_int (k := .u64) Tryd.underlying25 H enc w base spare held n _ _ g5
  have k5' : [c5] = [.int .u64 f5] := k5
  cases k0
  cases k1
  cases k2
  cases k3
  cases k4
  cases k5'
  refine ⟨⟨A0, A1, A2, A3, A4, d0, d1, d2, d3, d4⟩, ⟨f0, f1, f2, f3, f4, f5⟩, rfl, ⟨r0, l0, r1, l1, r2, l2, r3, l3, r4, l4⟩, ?_⟩
  subst hx
  have b0 : 1 + (f0.map obBulk).sum <= Rows.uptoBulk y0.1 := b0
  have b1 : 1 + (f1.map fun xs => 1 + (xs.map fun l => 1 + (l.map fun _ => 1).sum).sum).sum <= Rows.uptoBulk y1.1 := b1
  have b2 : 1 + (f2.map fun _ => 1).sum <= Rows.uptoBulk y2.1 := b2
  have b3 : 1 + (f3.map fun _ => 1).sum <= Rows.uptoBulk y3.1 := b3
  have b4 : 1 + (f4.map fun _ => 1).sum <= Rows.uptoBulk y4.1 := b4
  rw [sum_ones] at b2 b3 b4
  simp only [bulkG, rowsBulk, List.map_cons, List.map_nil, Rows.uptoBulk, Rows.uptoBulkAll]
  omega
end
section
theorem sum_mem {α : Type} (f : α -> Nat) {l : List α} {x : α} (h : x ∈ l) : f x <= (l.map f).sum := by
 induction l with
 | nil => cases h
 | cons y l ih =>
  simp only [List.map_cons, List.sum_cons]
  cases List.mem_cons.1 h with
  | inl e => subst e; omega
  | inr e => have := ih e; omega
theorem sum_ge {α : Type} (f g : α -> Nat) {l : List α} (h : ∀ x ∈ l, f x <= g x) : (l.map f).sum <= (l.map g).sum := by
 induction l with
 | nil => simp
 | cons y l ih =>
  simp only [List.map_cons, List.sum_cons]
  have h1 := h y List.mem_cons_self
  have h2 := ih (fun x hx => h x (List.mem_cons_of_mem _ hx))
  omega
theorem sum_len {α : Type} (f : α -> Nat) {l : List α} (h : ∀ x ∈ l, 1 <= f x) : l.length <= (l.map f).sum := by
 have := sum_ge (fun _ => 1) f h
 have e : (l.map fun _ => 1).sum = l.length := by
  clear this h
  induction l with
  | nil => rfl
  | cons y l ih => simp [ih]; omega
 omega
def rowB (xs : List (List Int)) : Nat := 1 + (xs.map fun l => 1 + (l.map fun _ => 1).sum).sum
theorem rowB_len (xs : List (List Int)) : xs.length + sumLen xs + 1 <= rowB xs := by
 unfold rowB
 induction xs with
 | nil => simp [sumLen]
 | cons l xs ih =>
  simp only [List.map_cons, List.sum_cons, List.length_cons, sumLen, sum_ones] at ih ⊢
  omega
theorem sumTo_obs (l : List Ob) : ∀ n, n <= l.length -> sumTo (fun x => (l.getD (x - 1).toNat default).f3.length) n <= ((l.take n).map obBulk).sum := by
 intro n
 induction n with
 | zero => intro _; simp [sumTo]
 | succ n ih =>
  intro hn
  have h1 := ih (by omega)
  rw [take_snocZ l n default (by omega)]
  simp only [sumTo, List.map_append, List.sum_append, List.map_cons, List.map_nil, List.sum_cons, List.sum_nil]
  have e : ((n : Int) + 1 - 1).toNat = n := by omega
  rw [e]
  unfold obBulk at h1 ⊢
  omega
theorem sumLen_mem {l : List (List Int)} {f : List Int} (h : f ∈ l) : f.length <= sumLen l := by
 rw [sumLen_eq]
 exact sum_mem List.length h
theorem slotsP_le (l : List (List (List Int))) : (slotsP l).length <= (l.map rowB).sum := by
 rw [slotsP_len, List.map_map]
 refine sum_ge _ _ (fun fr _ => ?_)
 have := rowB_len fr
 have e : (List.sum ∘ fun fr : List (List Int) => fr.map List.length) fr = sumLen fr := by simp [sumLen_eq]
 rw [e]
 omega
theorem cost3_le (l : List (List (List Int))) : cost3 l <= (l.map rowB).sum + 1 := by
 unfold cost3
 have := sum_ge cost2 rowB (l := l) (fun fr _ => by have := rowB_len fr; unfold cost2; omega)
 omega
theorem small_of {G : Gr} (h : bulkG G <= 1048576) : Small G /\ costG G <= 8388608 := by
 have hr : rowsBulk G = (G.slots.map rowB).sum := rfl
 unfold bulkG at h
 rw [hr] at h
 have ho : G.obs.length <= (G.obs.map obBulk).sum := sum_len obBulk (fun o _ => by unfold obBulk; omega)
 have hs : G.slots.length <= (G.slots.map rowB).sum := sum_len rowB (fun x _ => by have := rowB_len x; omega)
 have hsp := slotsP_le G.slots
 have hc := cost3_le G.slots
 have ha : allPs G <= (G.obs.map obBulk).sum := by
  have := sumTo_obs G.obs G.obs.length (Nat.le_refl _)
  rw [List.take_length] at this
  exact this
 refine ⟨⟨⟨by omega, by omega, by omega, by omega, by omega, fun o hm => ?_⟩, fun fr hm => ?_, ?_, ?_⟩, ?_⟩
 ·have := sum_mem obBulk hm
  have e : obBulk o = o.f3.length + o.f4.length + 3 := rfl
  omega
 ·have h1 := sum_mem rowB hm
  have h2 := rowB_len fr
  refine ⟨by omega, by omega, fun f hf => ?_⟩
  have := sumLen_mem hf
  omega
 ·unfold initP
  simp only [List.length_append]
  omega
 ·unfold holdP
  simp only [List.length_append]
  omega
 ·unfold costG
  omega
end
end Go.Proofs.YtogpgkoelplknaaDoor
end
section
namespace Go.Proofs.YtogpgkoelplknaaDoor
open Go.Joins Go.ChangeShapes Go.WideShapes Go.RowKit Go.Deep Go.ChangeAt
section
theorem own : ownKnob Tryd.prog.godebug = none := by kernel_rfl
theorem laidOut : laidOutB Tryd.prog = true := by kernel_rfl
def laids : List (String × DataW Unit) := [("midden/cell.widths", Rows.laid_midden_cell_widths), ("midden/cell.needs", Rows.laid_midden_cell_needs)]
theorem gWidths : Tryd.prog.globalNamed "midden/cell.widths" = some 0 := by kernel_rfl
theorem gNeeds : Tryd.prog.globalNamed "midden/cell.needs" = some 1 := by kernel_rfl
theorem tWidths : (Tryd.prog.globals[0]?).map (·.type) = some 169 := by kernel_rfl
theorem tNeeds : (Tryd.prog.globals[1]?).map (·.type) = some 174 := by kernel_rfl
theorem door_met (os : Os) (args : Array Value) : laidMetH Tryd.prog laids ((World.doorLaid Tryd.prog 400 os).forCall (fun _ _ => 0) ⟨#[], args, []⟩).memory :=
 laidMetH_of_parts3 (fuel := 8) (laidMet_of_run' 8 (by kernel_rfl) (by kernel_rfl)) (by kernel_rfl) (by kernel_rfl)
theorem tab_of_laid {W : World} (h : laidMetH Tryd.prog laids W) : Tab W := by
 rw [MakeChecks.laidMetH_plain _ _ _ (by kernel_rfl)] at h
 obtain ⟨ps, ⟨g0, t0, cs0, f0, p0, q0, hg0, ht0, hv0, hd0, ⟨g1, t1, cs1, f1, p1, q1, hg1, ht1, hv1, hd1, _, _⟩, _⟩, _, _⟩ := h
 obtain rfl := Option.some.inj (gWidths.symm.trans hg0)
 obtain rfl := Option.some.inj (gNeeds.symm.trans hg1)
 obtain rfl := Option.some.inj (tWidths.symm.trans ht0)
 obtain rfl := Option.some.inj (tNeeds.symm.trans ht1)
 have c0 := Lib.cells_of_tab (zs := [3, 1, 4, 8, 12, 16]) Tryd.underlying169 Tryd.underlying3 (by kernel_rfl) (by kernel_rfl) hd0
 have c1 := Lib.cells_of_tab (zs := [-1, 0, 1, 2, 0]) Tryd.underlying174 Tryd.underlying3 (by kernel_rfl) (by kernel_rfl) hd1
 have w0 := fun j => World.var?_cell hg0 hv0 j
 have w1 := fun j => World.var?_cell hg1 hv1 j
 obtain ⟨l0⟩ := cs0
 obtain ⟨l1⟩ := cs1
 simp only at c0 c1
 subst c0 c1
 have s0 : ∀ g (v : Value), W.cell? ⟨g, 0, none⟩ = some v -> g < W.heap.size := by
  intro g v hv
  rcases Nat.lt_or_ge g W.heap.size with h | h
  ·exact h
  ·simp [World.cell?, Array.getElem?_eq_none h] at hv
 refine ⟨by simpa using w1 0, by simpa using w1 1, by simpa using w1 2, by simpa using w1 3, by simpa using w1 4, by simpa using w0 0, by simpa using w0 1, by simpa using w0 2, by simpa using w0 3, by simpa using w0 4, by simpa using w0 5, s0 _ _ (by simpa using w1 0), s0 _ _ (by simpa using w0 0)⟩
theorem holds_tied_goes (Lk : Looks) {p : Pinned} {s : OpenSpec} {c : OpenClaim} (kinds : List LaidKind) (tests : Bool) (har : Bool × String) (lk : Bool)
  (hc : c.holds p s) (hw : c.wfByText s = true) (htie : c.laidByTextAt Lk p kinds tests)
  (hst : c.start = .entering) (hnb : c.noBlocks = false /\ c.again = false) (hm : p.checked.prog.mainIs = some (har.1, har.2.toList)) (hn : (!har.1 && har.2.isEmpty && !lk) = false)
  (hl : ∀ f fn, p.checked.prog.funcNamed c.func = some f -> p.checked.prog.funcs[f]? = some fn -> lk = p.checked.prog.looks [] /\ ∀ (j : Nat) t, fn.params[j]? = some t -> p.checked.prog.wantsStandIn t = false)
  (hg : true = c.goesBy p.checked.prog) :
  Claim7.holds p (.plain s) { stood := { row := c, standIns := [], harness := har, looks := lk }, kinds := [], alts := [], goes := true, laidByText := true, laidKinds := kinds, laidTests := tests, laidLooks := Lk } := by
 have h6 : ∀ r : OpenClaim, Claim7.isSixth { stood := { row := r, standIns := [], harness := har, looks := lk }, kinds := [] } = false := fun r => by simpa [Claim7.isSixth] using hn
 exact ⟨Claim7.tied_new_at Lk kinds tests (Claim7.new_of_sixth hc har lk hst hnb hm (h6 c) hl) hw, fun D hD => (by cases hD), htie, (fun h => by cases h), hg⟩
theorem leaving_of_handed {a : Assume} {C : Checked} {os : Os} {f : FuncId} {r : Reach} {Pre : World -> Array Value -> Prop} {Post : World -> Array Value -> Value -> World -> Prop} (h : ReturnsInHanded a C os f r Pre Post) : ReturnsInLeavingWide a C os f r Pre Post :=
 fun enter => ReturnsInOpen.mono (fun m w t q => ⟨q.2.1, onlyLeaving_of_quiet q.1, q.2.2⟩) (fun _ q => q) (h enter)
end
end Go.Proofs.YtogpgkoelplknaaDoor
end
section
namespace Go.Proofs.YtogpgkoelplknaaDoor.leaving
open Go Go.Conc Go.ChangeShapes
section
section
variable {H : Type} {enc : TypeId × Value -> H}
end
theorem holds_of_cond_leaving {p : Pinned} {s : OpenSpec} {c : OpenClaim} (f : FuncId) (fn : Func)
  (hn : c.program = p.name) (hs : c.sum = p.sum) (hsp : c.spec = s.name)
  (hstart : c.start = .entering) (hout : c.outside = []) (hin : c.inits = []) (hun : c.under = none) (hi4 : c.initsInPlace = [] /\ c.initsUnfollowed = false /\ c.initsRecurse = false /\ c.initsNamed = [] /\ c.initsPassed = []) (hnb : c.noBlocks = false) (hlv : c.leaving = true) (hfo : c.followed = none) (hnar : c.narrowed = s.cond.isSome) (hstill : c.still = false)
  (hfn : p.checked.prog.funcNamed c.func = some f) (hf : p.checked.prog.funcs[f]? = some fn)
  (closed : joinedFacts p.checked.prog f fn s.bare c = true)
  (hinst : fn.isInstance p.checked.prog c.origin c.targs) (hwrap : fn.isWrapper p.checked.prog c.wrapper c.mainSum)
  (h : ∀ os : Os, os.Started -> ∀ (H : Type) (enc : TypeId × Value -> H), (∀ a b, enc a = enc b -> a = b) -> ∀ F : Stop.Interp,
   ReturnsInLeavingWide c.assume p.checked os f .any (c.pre enc p.checked.prog fn s) ((s.at F).post enc p.checked.prog fn c.apart c.fresh c.handsOn c.again)) : c.holds p s := by
 simp only [joinedFacts, Bool.and_eq_true, beq_iff_eq, Array.all_eq_true_iff_forall_mem, List.all_eq_true, decide_eq_true_eq] at closed
 obtain ⟨⟨⟨⟨⟨⟨⟨⟨⟨⟨⟨⟨⟨⟨⟨⟨⟨⟨⟨⟨⟨⟨⟨⟨⟨⟨⟨⟨⟨⟨⟨k1, k2⟩, k3⟩, k4⟩, k5⟩, k6⟩, k7⟩, k8⟩, k9⟩, k10⟩, k11⟩, k12⟩, k13⟩, k14⟩, k15⟩, k16⟩, k17⟩, k17b⟩, k18⟩, k19⟩, k20⟩, k21⟩, k22⟩, k23⟩, k23b⟩, k24⟩, k24b⟩, k24c⟩, k25⟩, k26⟩, k27⟩, k28⟩ := closed
 have hq : ∀ os : Os, Stop.quiet p.checked.prog os := fun os k hk => by rw [k9] at hk; cases hk
 refine ⟨k1, hn, hs, hsp, k2, k3, by unfold OpenClaim.startFits; rw [hstart]; exact k24, by unfold OpenClaim.startTold; rw [hstart]; exact ⟨hin, hun, hi4⟩, f, fn, hfn, hf, ⟨k4, k19⟩, (fun hb => by rw [hnb] at hb; cases hb), by unfold OpenClaim.namedList; rw [hfo]; exact k5, hinst, hwrap,
  k6.trans k7.symm, ⟨k8.trans k9.symm, by unfold Program.envWorded; rw [k9]; rfl, k23b⟩, k10, k11, k12, k13, k14, ⟨k15, k27, k28⟩, ⟨k16, k20⟩, ⟨k17, k21, k25, k26⟩, ⟨k22, k24b, k24c, k17b⟩, (by rw [hout, hnar]; cases hsh : c.shortTexts with | none => simp | some _ => rw [hsh] at k23; cases k23), fun n hn' => varReadable_some (k18 n hn'),
  ⟨_, by unfold OpenClaim.world; rw [hout, hstart]; exact WideRow.started_initial, hq _⟩, [], by unfold OpenClaim.lists; rw [hfo], fun os st _ H enc inj => ?_⟩
 have st' : os.Started := by unfold OpenClaim.world at st; rw [hout, hstart] at st; exact st
 rw [OpenClaim.post_not_still hstill]
 unfold OpenClaim.form
 rw [hstart, k6]
 intro F
 have e1 : c.okInput = Input.okWide := by unfold OpenClaim.okInput; rw [hnb]
 have e2 : c.atReturn p.checked.prog = leavingAtReturn p.checked.prog := by unfold OpenClaim.atReturn; rw [hlv]
 have e3 : c.always p.checked.prog [] = nothingAlways := by unfold OpenClaim.always; rw [hfo]
 have e4 : s.post enc p.checked.prog fn F c.outside c.apart c.fresh c.handsOn c.again = (s.at F).post enc p.checked.prog fn c.apart c.fresh c.handsOn c.again := by rw [hout]; rfl
 rw [e1, e2, e3]
 show ReturnsInOpen _ _ _ _ _ _ _ _ (s.post enc p.checked.prog fn F c.outside c.apart c.fresh c.handsOn c.again) _ _
 rw [e4]
 exact h os st' H enc inj F k24
end
end Go.Proofs.YtogpgkoelplknaaDoor.leaving
end
