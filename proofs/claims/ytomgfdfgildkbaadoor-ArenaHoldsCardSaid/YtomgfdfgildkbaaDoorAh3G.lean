/- ArenaHolds: `made`: one more object is put and told in the list. No condition. -/
import Derived.Test.YtomgfdfgildkbaaDoorAh2G
import Derived.Deep.AppendLies
namespace Go.Proofs.YtomgfdfgildkbaaDoor
open Go.RowKit Go.BigFrame
set_option linter.unusedVariables false
/-- One thing to do. -/
structure Dt where
  kind : Int
  s : Int
  n : Int
  b : Int
  c : Int
  w : Int
  hd : Hd
def Dt.cells (o : Dt) : Array Value := #[.int .i64 o.kind, .int .i64 o.s, .int .i64 o.n, .int .i64 o.b, .int .i64 o.c, .int .u64 o.w, .int .u64 o.hd.ser, .int .i64 o.hd.kind, .int .i64 o.hd.ptrs, .int .i64 o.hd.raws, .int .i64 o.hd.age, .int .i64 o.hd.site, .bool o.hd.held]
def Dt.val (o : Dt) : Value := .agg o.cells
theorem mk_i64 (n : Int) (w : World) (h0 : 0 ≤ n) (h1 : n ≤ 1000000) : (Instr.makeSlice 59 (.int .i64 n) (.int .i64 n)).run Tryd.prog w = .ok (.slice (some ⟨w.heap.size, 0, none⟩) n.toNat n.toNat) (w.alloc (.cells (i64s (List.replicate n.toNat 0)) 3)) := by
  obtain ⟨i, hi, hz, hs, hb⟩ := info_parts infoInt
  have hr := run_make (P := Tryd.prog) w 59 3 i (.int .i64 0) Tryd.underlying59 hi hz .i64 .i64 n n h0 (Int.le_refl _) (by rw [hb]; omega) (by omega)
  have e : madeCells (Value.int IntKind.i64 0).cells (n.toNat * 1) = i64s (List.replicate n.toNat 0) := by
    apply Array.ext'
    rw [Nat.mul_one, show (Value.int IntKind.i64 0).cells = #[.int .i64 0] from rfl, toList_madeCells_one]
    simp [i64s]
  rw [hr, hs, e]
theorem infoThing : (Tryd.prog.info? 143).map (fun i => (i.zero, i.size, i.bytes)) = some (some (.agg #[.int .i64 0, .int .i64 0, .int .u64 0, .int .i64 0, .int .i64 0, .int .i64 0, .int .i64 0, .int .i64 0, .bool false, .slice none 0 0, .slice none 0 0]), 11, 120) := by kernel_rfl
theorem put_no1 (b wb : Nat) (A : Ar) (s x0 x1 x2 x3 x4 x5 : Int) (x6 : Bool) (w : World) (tb : Tab w) (h : ArAt w b wb A) (ok : A.Ok) (hp : A.putOk s ⟨x0, x1, x2, x3, x4, x5, x6⟩ = false) :
    Calls Tryd.prog 85 #[.pointer (some ⟨b, 0, none⟩), .int .i64 s, .agg #[.int .u64 x0, .int .i64 x1, .int .i64 x2, .int .i64 x3, .int .i64 x4, .int .i64 x5, .bool x6]] w fun e w' => e = .returned (.tuple #[.int .i64 0, .bool false]) ∧ ArAt w' b wb A ∧ Only [b, wb] w w' := by
  have := put_any b wb A s ⟨x0, x1, x2, x3, x4, x5, x6⟩ w tb h ok
  rw [hp] at this
  exact this
theorem put_yes1 (b wb : Nat) (A : Ar) (s x0 x1 x2 x3 x4 x5 : Int) (x6 : Bool) (w : World) (tb : Tab w) (h : ArAt w b wb A) (ok : A.Ok) (hp : A.putOk s ⟨x0, x1, x2, x3, x4, x5, x6⟩ = true) :
    Calls Tryd.prog 85 #[.pointer (some ⟨b, 0, none⟩), .int .i64 s, .agg #[.int .u64 x0, .int .i64 x1, .int .i64 x2, .int .i64 x3, .int .i64 x4, .int .i64 x5, .bool x6]] w fun e w' => e = .returned (.tuple #[.int .i64 (A.top s), .bool true]) ∧ ArAt w' b wb (A.lay s ⟨x0, x1, x2, x3, x4, x5, x6⟩) ∧ Only [b, wb] w w' := by
  have := put_any b wb A s ⟨x0, x1, x2, x3, x4, x5, x6⟩ w tb h ok
  rw [hp] at this
  exact this
set_option maxRecDepth 100000 in
set_option maxHeartbeats 4000000 in
theorem made_no (a wb : Nat) (A : Ar) (v : Value) (o : Dt) (w : World) (tb : Tab w) (hA : ArAt w a wb A) (ok : A.Ok) (hp : A.putOk o.s o.hd = false) :
    Calls Tryd.prog 52 #[.pointer (some ⟨a, 0, none⟩), v, o.val] w fun e w' => e = .returned (.tuple #[v, .bool true]) ∧ ArAt w' a wb A ∧ Only [a, wb] w w' := by
  obtain ⟨o0, o1, o2, o3, o4, o5, ⟨x0, x1, x2, x3, x4, x5, x6⟩⟩ := o
  simp only at hp
  have PT := Lib.hid (fun (W : World) (tb : Tab W) (h : ArAt W a wb A) => put_no1 a wb A o1 x0 x1 x2 x3 x4 x5 x6 W tb h ok hp)
  have TT := Lib.hid (fun (W : World) (h : ArAt W a wb A) => top_any a wb A o1 W h)
  have FT := Lib.hid (fun (W : World) (h : ArAt W a wb A) => free_any a wb A o1 W h ok)
  clear hp
  generalize A.top o1 = t at *
  generalize A.free o1 = fr at *
  unfold Dt.val Dt.cells
  simp only
  have hO := heap_one w (.cells #[.int .i64 o0, .int .i64 o1, .int .i64 o2, .int .i64 o3, .int .i64 o4, .int .u64 o5, .int .u64 x0, .int .i64 x1, .int .i64 x2, .int .i64 x3, .int .i64 x4, .int .i64 x5, .bool x6] 69)
  have b0 := (Below.refl w.heap.size w).alloc (Nat.le_refl _) (.cells #[.int .i64 o0, .int .i64 o1, .int .i64 o2, .int .i64 o3, .int .i64 o4, .int .u64 o5, .int .u64 x0, .int .i64 x1, .int .i64 x2, .int .i64 x3, .int .i64 x4, .int .i64 x5, .bool x6] 69)
  go_enter Tryd.func52, Tryd.ntmps52
  go_upto_region 1 with fail
  generalize w.alloc (.cells #[.int .i64 o0, .int .i64 o1, .int .i64 o2, .int .i64 o3, .int .i64 o4, .int .u64 o5, .int .u64 x0, .int .i64 x1, .int .i64 x2, .int .i64 x3, .int .i64 x4, .int .i64 x5, .bool x6] 69) = w1 at *
  have hA1 := hA.below b0
  have tb1 := tb.below b0
  obtain ⟨cO, fO⟩ := hcell hO
  go_wp2_with fail
  refine (TT.out _ hA1).mono ?_
  rintro e w2 ⟨rfl, hq⟩
  have hA2 := hA1.below hq
  have hO2 := (hq.block _ (lt_of_heap hO)).trans hO
  have tb2 := tb1.below hq
  have b2 := b0.trans (hq.mono b0.size)
  clear cO fO hq hO
  obtain ⟨cO, fO⟩ := hcell hO2
  go_wp2_with fail
  refine (FT.out _ hA2).mono ?_
  rintro e w3 ⟨rfl, hq⟩
  have hA3 := hA2.below hq
  have hO3 := (hq.block _ (lt_of_heap hO2)).trans hO2
  have tb3 := tb2.below hq
  have b3 := b2.trans (hq.mono b2.size)
  clear cO fO hq hO2
  obtain ⟨cO, fO⟩ := hcell hO3
  go_wp2_with fail
  refine (PT.out _ tb3 hA3).mono ?_
  rintro e w4 ⟨rfl, hA4, hO⟩
  have nq : w.heap.size ∉ [a, wb] := by
    have := lt_of_heap hA.st
    have := lt_of_heap hA.ws
    simp; omega
  have hO4 := (hO.block _ (lt_of_heap hO3) nq).trans hO3
  have o4' := (Only.of_below (S := [a, wb]) b3).trans hO
  clear cO fO hO hO3
  obtain ⟨cO, fO⟩ := hcell hO4
  go_wp2_with fail
  refine (TT.out _ hA4).mono ?_
  rintro e w5 ⟨rfl, hq⟩
  have hA5 := hA4.below hq
  have hO5 := (hq.block _ (lt_of_heap hO4)).trans hO4
  have o5' := o4'.trans (Only.of_below hq)
  clear cO fO hq hO4
  obtain ⟨cO, fO⟩ := hcell hO5
  go_wp2_with fail
  refine (FT.out _ hA5).mono ?_
  rintro e w6 ⟨rfl, hq⟩
  go_wp2_with fail
  go_ret2
  exact ⟨rfl, hA5.below hq, o5'.trans (Only.of_below hq)⟩
end Go.Proofs.YtomgfdfgildkbaaDoor
