import Derived.Test.YtogpgkoelplknaaDoorProg
import Derived.Below
import Derived.Deep.Draws
import Derived.Deep.AppendLies
import Derived.Maps.AppendAt
import Derived.OwnWalk
import Derived.Laws.BytesArg
import Derived.Laws.MakeOwn
import Derived.Laws.OwnMore
import Derived.Deep.OwnRows
import Derived.Tactics
import Derived.Lib.ConvBytes
import Derived.Laws.Slices
import Derived.WalkKit
import Derived.KernelRfl
import Derived.RowKit3
import Derived.Deep.LoopGhost
import Derived.Deep.QuietTactic
import Derived.BigQuiet
import Derived.WideLaws
import Derived.Deep.DeepCutAuto
import Derived.Deep.CutBlock
import Derived.Deep.RegionHeld3
import Derived.Laws.Rows
import Derived.Lib.AppendStr
import Derived.ArgAppend
import Derived.Laws.IdiomCopy
import Derived.OrdersHeld
import Derived.Laws.BitsLemmas
import Derived.RowKit
import Derived.Test.YtogpgkoelplknaaDoorWWords
import Derived.Test.YtogpgkoelplknaaDoorWLast
import Derived.Test.YtogpgkoelplknaaDoorWTab
import Derived.Test.YtogpgkoelplknaaDoorWFour
import Derived.Test.YtogpgkoelplknaaDoorWQPut
import Derived.Test.YtogpgkoelplknaaDoorWApart
import Derived.Test.YtogpgkoelplknaaDoorWArr
import Derived.Test.YtogpgkoelplknaaDoorWZeros
import Derived.Test.YtogpgkoelplknaaDoorWFoot
import Derived.Test.YtogpgkoelplknaaDoorWKept
import Derived.Test.YtogpgkoelplknaaDoorWShare
import Derived.Test.YtogpgkoelplknaaDoorWN
import Derived.Test.YtogpgkoelplknaaDoorWFootNe
import Derived.Test.YtogpgkoelplknaaDoorWAt
import Derived.Test.YtogpgkoelplknaaDoorWEqStruct
import Derived.Test.YtogpgkoelplknaaDoorWRepsOne
import Derived.Test.YtogpgkoelplknaaDoorWInv
import Derived.Test.YtogpgkoelplknaaDoorWInvWords
import Derived.Test.YtogpgkoelplknaaDoorWGuard
import Derived.Test.YtogpgkoelplknaaDoorWNEv
import Derived.Test.YtogpgkoelplknaaDoorWMore
namespace Go.Proofs.YtogpgkoelplknaaDoor.PLensPaths
open Go.RowKit Go.Proofs.YtogpgkoelplknaaDoorW.PrintWords Go.Proofs.YtogpgkoelplknaaDoorW.PrintLast Go.Proofs.YtogpgkoelplknaaDoorW.PrintMore
attribute [local go_sem] max2_int min2_int max_two min_two max_three min_three max_four min_four
set_option linter.unusedVariables false
set_option linter.unusedSimpArgs false
def errW : Option Int -> Value
 | none => .nilIface
 | some c => .iface 0 (.int .i64 c)
theorem errW_none : errW none = .nilIface := rfl
theorem errW_some (c : Int) : errW (some c) = .iface 0 (.int .i64 c) := rfl
theorem info3 : (Tryd.prog.info? 3).map (fun i => (i.zero, i.size, i.bytes)) = some (some (.int .i64 0), 1, 8) := by kernel_rfl
theorem info4 : (Tryd.prog.info? 4).map (fun i => (i.zero, i.size, i.bytes)) = some (some (.bool false), 1, 1) := by kernel_rfl
def rd_L2 (xs : List (List Int)) (i : Int) : (List Int) := xs.getD i.toNat ([] : List Int)
theorem at_L2 {w : World} {A : Option Addr} {n : Nat} {xs : List (List Int)} (h : Kd.C (Kd.slice 3 (Kd.int .i64)) w A n xs) (i : Int) (h0 : 0 <= i) (h1 : i < n) : ∃ ad A0 c0, A = some ad /\ w.cell? (ad.add i.toNat) = some (.slice A0 (rd_L2 xs i).length c0) /\ (rd_L2 xs i).length <= c0 /\ (Kd.int .i64).C w A0 (rd_L2 xs i).length (rd_L2 xs i) := by
 obtain ⟨ad, c, e, _, hK, hc0⟩ := Kd.C_get h ([] : List Int) i h0 h1
 have hc : ∀ j u, c[j]? = some u -> w.cell? (ad.add (i.toNat * 1 + j)) = some u := hc0
 obtain ⟨A0, c0, rfl, l0, g0⟩ := hK
 exact ⟨ad, A0, c0, e, by have hq := hc 0 _ rfl; rwa [Nat.mul_one, Nat.add_zero] at hq, l0, g0⟩
structure S59 where
 f0 : Int
 f1 : Int
 f2 : Int
 f3 : (List Int)
 f4 : (List Int)
def z59 : S59 := ⟨(0 : Int), (0 : Int), (0 : Int), ([] : List Int), ([] : List Int)⟩
def k59 : Kd S59 := Kd.iso (Kd.pair (Kd.int .u64) (Kd.pair (Kd.int .i64) (Kd.pair (Kd.int .i64) (Kd.pair (Kd.slice 3 (Kd.int .i64)) (Kd.slice 25 (Kd.int .u64)))))) (fun x : S59 => (x.f0, x.f1, x.f2, x.f3, x.f4))
theorem k59_open {w : World} {x : S59} {cs : List Value} (h : k59.K w x cs) : ∃ A3 c3 A4 c4, cs = [.int .u64 x.f0, .int .i64 x.f1, .int .i64 x.f2, .slice A3 x.f3.length c3, .slice A4 x.f4.length c4] /\ x.f3.length <= c3 /\ (Kd.int .i64).C w A3 x.f3.length x.f3 /\ x.f4.length <= c4 /\ (Kd.int .u64).C w A4 x.f4.length x.f4 := by
 obtain ⟨_, _, rfl, rfl, ⟨_, _, rfl, rfl, ⟨_, _, rfl, rfl, ⟨_, _, rfl, ⟨A3, c3, rfl, l3, g3⟩, ⟨A4, c4, rfl, l4, g4⟩⟩⟩⟩⟩ := h
 exact ⟨A3, c3, A4, c4, rfl, l3, g3, l4, g4⟩
theorem k59_mk (w : World) (x : S59) {A3 : Option Addr} {c3 : Nat} (l3 : x.f3.length <= c3) (g3 : (Kd.int .i64).C w A3 x.f3.length x.f3) {A4 : Option Addr} {c4 : Nat} (l4 : x.f4.length <= c4) (g4 : (Kd.int .u64).C w A4 x.f4.length x.f4) : k59.K w x [.int .u64 x.f0, .int .i64 x.f1, .int .i64 x.f2, .slice A3 x.f3.length c3, .slice A4 x.f4.length c4] := ⟨[.int .u64 x.f0], [.int .i64 x.f1, .int .i64 x.f2, .slice A3 x.f3.length c3, .slice A4 x.f4.length c4], rfl, rfl, ⟨[.int .i64 x.f1], [.int .i64 x.f2, .slice A3 x.f3.length c3, .slice A4 x.f4.length c4], rfl, rfl, ⟨[.int .i64 x.f2], [.slice A3 x.f3.length c3, .slice A4 x.f4.length c4], rfl, rfl, ⟨[.slice A3 x.f3.length c3], [.slice A4 x.f4.length c4], rfl, ⟨A3, c3, rfl, l3, g3⟩, ⟨A4, c4, rfl, l4, g4⟩⟩⟩⟩⟩
def rd_T59 (xs : List S59) (i : Int) : S59 := xs.getD i.toNat z59
theorem at_T59 {w : World} {A : Option Addr} {n : Nat} {xs : List S59} (h : Kd.C k59 w A n xs) (i : Int) (h0 : 0 <= i) (h1 : i < n) : ∃ ad A3 c3 A4 c4, A = some ad /\ w.cell? (ad.add (i.toNat * 5)) = some (.int .u64 (rd_T59 xs i).f0) /\ w.cell? ⟨(ad.add (i.toNat * 5)).block, (ad.add (i.toNat * 5)).off + 1, none⟩ = some (.int .i64 (rd_T59 xs i).f1) /\ w.cell? ⟨(ad.add (i.toNat * 5)).block, (ad.add (i.toNat * 5)).off + 2, none⟩ = some (.int .i64 (rd_T59 xs i).f2) /\ w.cell? ⟨(ad.add (i.toNat * 5)).block, (ad.add (i.toNat * 5)).off + 3, none⟩ = some (.slice A3 (rd_T59 xs i).f3.length c3) /\ w.cell? ⟨(ad.add (i.toNat * 5)).block, (ad.add (i.toNat * 5)).off + 4, none⟩ = some (.slice A4 (rd_T59 xs i).f4.length c4) /\ (rd_T59 xs i).f3.length <= c3 /\ (Kd.int .i64).C w A3 (rd_T59 xs i).f3.length (rd_T59 xs i).f3 /\ (rd_T59 xs i).f4.length <= c4 /\ (Kd.int .u64).C w A4 (rd_T59 xs i).f4.length (rd_T59 xs i).f4 := by
 obtain ⟨ad, c, e, _, hK, hc0⟩ := Kd.C_get h z59 i h0 h1
 have hc : ∀ j u, c[j]? = some u -> w.cell? (ad.add (i.toNat * 5 + j)) = some u := hc0
 obtain ⟨A3, c3, A4, c4, rfl, l3, g3, l4, g4⟩ := k59_open hK
 exact ⟨ad, A3, c3, A4, c4, e, hc 0 _ rfl, by rw [<- add_field _ _ 1 (by omega)]; exact hc 1 _ rfl, by rw [<- add_field _ _ 2 (by omega)]; exact hc 2 _ rfl, by rw [<- add_field _ _ 3 (by omega)]; exact hc 3 _ rfl, by rw [<- add_field _ _ 4 (by omega)]; exact hc 4 _ rfl, l3, g3, l4, g4⟩
def rd_L5 (xs : List (List (List Int))) (i : Int) : (List (List Int)) := xs.getD i.toNat ([] : List (List Int))
theorem at_L5 {w : World} {A : Option Addr} {n : Nat} {xs : List (List (List Int))} (h : Kd.C (Kd.slice 24 (Kd.slice 3 (Kd.int .i64))) w A n xs) (i : Int) (h0 : 0 <= i) (h1 : i < n) : ∃ ad A0 c0, A = some ad /\ w.cell? (ad.add i.toNat) = some (.slice A0 (rd_L5 xs i).length c0) /\ (rd_L5 xs i).length <= c0 /\ (Kd.slice 3 (Kd.int .i64)).C w A0 (rd_L5 xs i).length (rd_L5 xs i) := by
 obtain ⟨ad, c, e, _, hK, hc0⟩ := Kd.C_get h ([] : List (List Int)) i h0 h1
 have hc : ∀ j u, c[j]? = some u -> w.cell? (ad.add (i.toNat * 1 + j)) = some u := hc0
 obtain ⟨A0, c0, rfl, l0, g0⟩ := hK
 exact ⟨ad, A0, c0, e, by have hq := hc 0 _ rfl; rwa [Nat.mul_one, Nat.add_zero] at hq, l0, g0⟩
structure S121 where
 f0 : Int
 f1 : Int
 f2 : Int
 f3 : Int
 f4 : Int
 f5 : Int
 f6 : Int
 f7 : Int
end Go.Proofs.YtogpgkoelplknaaDoor.PLensPaths
