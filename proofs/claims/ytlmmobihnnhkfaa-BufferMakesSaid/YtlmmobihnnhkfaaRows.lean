/-
  No cell of these rows narrows 'for every input' (looked for: loops, veiled, ifaces, maps, wideKeys, modest, calm, conditions, laid).
  DERIVED. THE GIVEN ROWS OF THIS SEAT. 11 by the template 'for every input the law returns true; each argument reads behind the call as it read before'; 0 by the template 'total and deterministic' (their statements: YtlmmobihnnhkfaaTotals.lean).
  GIVEN WITH THE SEED: the statements are not yours to turn. If you find one false, say at which input.
  Laid BY PROGRAM, IN A SANDBOX (cutbox-rows.mjs): the forced cells as the released guide's own fill.sh prints them over the translation c2fca20876c40f7c… (all of the seat's roots in one cut). By AI agents, Wed Nov 11 2026. No macro, syntax, notation, axiom, sorry.
-/
import Derived.Test.YtlmmobihnnhkfaaChecked
import GoSem.Claim
import GoSem.ClaimJoined
import GoSem.ClaimMapViews
import Derived.JoinedTies
import Derived.KernelRfl
namespace Go.Proofs.Ytlmmobihnnhkfaa
/- THE CELL 'sum', in the pinned program and in every row, IS THE sha256 OF THE DUMP (.gsa) THAT YtlmmobihnnhkfaaProg.lean LOADS. Nothing in Lean hashes anything: it is a label: what it is worth is what the hold of that sum in a sandbox is worth. -/
noncomputable def Try.pinned : Pinned := { name := "ytlmmobihnnhkfaa", sum := "c2fca20876c40f7ce4b9c6bec8c3b9847cbd2383c2a668398a835d85b2a5e0b1", checked := Try.checked }
namespace Rows
def none {H : Type} : Left H := { results := [], args := [] }

/-- 'middenlaw2.CellNames': WHATEVER THE INPUT: true; the input reads as it did. -/
def cellNamesSpec : ChangeSpec := { name := "cellNames", fn := fun _ => fun
  | [] => { results := [.lit (.bool true)], args := [] }
  | _ => none }
def cellNamesRow : OpenClaim := { program := "ytlmmobihnnhkfaa", sum := "c2fca20876c40f7ce4b9c6bec8c3b9847cbd2383c2a668398a835d85b2a5e0b1", func := "midden/middenlaw2.CellNames", spec := "cellNames", apart := false }
def CellNamesSaid : Prop := cellNamesRow.holds Try.pinned (OpenSpec.ofChange cellNamesSpec)

/-- ITS FALSE NEIGHBOUR: 'it returns false'. Refute it at one input. -/
def cellNamesWrong : ChangeSpec := { name := "cellNames", fn := fun _ => fun
  | [] => { results := [.lit (.bool false)], args := [] }
  | _ => none }
def CellNamesWrongFalsely : Prop := cellNamesRow.holds Try.pinned (OpenSpec.ofChange cellNamesWrong)

/-- 'middenlaw3.ArenaNames': WHATEVER THE INPUT: true; the input reads as it did. -/
def arenaNamesSpec : ChangeSpec := { name := "arenaNames", fn := fun _ => fun
  | [] => { results := [.lit (.bool true)], args := [] }
  | _ => none }
def arenaNamesRow : OpenClaim := { program := "ytlmmobihnnhkfaa", sum := "c2fca20876c40f7ce4b9c6bec8c3b9847cbd2383c2a668398a835d85b2a5e0b1", func := "midden/middenlaw3.ArenaNames", spec := "arenaNames", apart := false }
def ArenaNamesSaid : Prop := arenaNamesRow.holds Try.pinned (OpenSpec.ofChange arenaNamesSpec)

/-- ITS FALSE NEIGHBOUR: 'it returns false'. Refute it at one input. -/
def arenaNamesWrong : ChangeSpec := { name := "arenaNames", fn := fun _ => fun
  | [] => { results := [.lit (.bool false)], args := [] }
  | _ => none }
def ArenaNamesWrongFalsely : Prop := arenaNamesRow.holds Try.pinned (OpenSpec.ofChange arenaNamesWrong)

/-- 'middenlaw13.BufferNames': WHATEVER THE INPUT: true; the input reads as it did. -/
def bufferNamesSpec : ChangeSpec := { name := "bufferNames", fn := fun _ => fun
  | [] => { results := [.lit (.bool true)], args := [] }
  | _ => none }
def bufferNamesRow : OpenClaim := { program := "ytlmmobihnnhkfaa", sum := "c2fca20876c40f7ce4b9c6bec8c3b9847cbd2383c2a668398a835d85b2a5e0b1", func := "midden/middenlaw13.BufferNames", spec := "bufferNames", apart := false }
def BufferNamesSaid : Prop := bufferNamesRow.holds Try.pinned (OpenSpec.ofChange bufferNamesSpec)

/-- ITS FALSE NEIGHBOUR: 'it returns false'. Refute it at one input. -/
def bufferNamesWrong : ChangeSpec := { name := "bufferNames", fn := fun _ => fun
  | [] => { results := [.lit (.bool false)], args := [] }
  | _ => none }
def BufferNamesWrongFalsely : Prop := bufferNamesRow.holds Try.pinned (OpenSpec.ofChange bufferNamesWrong)

/-- 'middenlaw6.RemsetNames': WHATEVER THE INPUT: true; the input reads as it did. -/
def remsetNamesSpec : ChangeSpec := { name := "remsetNames", fn := fun _ => fun
  | [] => { results := [.lit (.bool true)], args := [] }
  | _ => none }
def remsetNamesRow : OpenClaim := { program := "ytlmmobihnnhkfaa", sum := "c2fca20876c40f7ce4b9c6bec8c3b9847cbd2383c2a668398a835d85b2a5e0b1", func := "midden/middenlaw6.RemsetNames", spec := "remsetNames", apart := false }
def RemsetNamesSaid : Prop := remsetNamesRow.holds Try.pinned (OpenSpec.ofChange remsetNamesSpec)

/-- ITS FALSE NEIGHBOUR: 'it returns false'. Refute it at one input. -/
def remsetNamesWrong : ChangeSpec := { name := "remsetNames", fn := fun _ => fun
  | [] => { results := [.lit (.bool false)], args := [] }
  | _ => none }
def RemsetNamesWrongFalsely : Prop := remsetNamesRow.holds Try.pinned (OpenSpec.ofChange remsetNamesWrong)

/-- 'middenlaw9.ScavengeNames': WHATEVER THE INPUT: true; the input reads as it did. -/
def scavengeNamesSpec : ChangeSpec := { name := "scavengeNames", fn := fun _ => fun
  | [] => { results := [.lit (.bool true)], args := [] }
  | _ => none }
def scavengeNamesRow : OpenClaim := { program := "ytlmmobihnnhkfaa", sum := "c2fca20876c40f7ce4b9c6bec8c3b9847cbd2383c2a668398a835d85b2a5e0b1", func := "midden/middenlaw9.ScavengeNames", spec := "scavengeNames", apart := false }
def ScavengeNamesSaid : Prop := scavengeNamesRow.holds Try.pinned (OpenSpec.ofChange scavengeNamesSpec)

/-- ITS FALSE NEIGHBOUR: 'it returns false'. Refute it at one input. -/
def scavengeNamesWrong : ChangeSpec := { name := "scavengeNames", fn := fun _ => fun
  | [] => { results := [.lit (.bool false)], args := [] }
  | _ => none }
def ScavengeNamesWrongFalsely : Prop := scavengeNamesRow.holds Try.pinned (OpenSpec.ofChange scavengeNamesWrong)

/-- 'middenlaw11.CompactNames': WHATEVER THE INPUT: true; the input reads as it did. -/
def compactNamesSpec : ChangeSpec := { name := "compactNames", fn := fun _ => fun
  | [] => { results := [.lit (.bool true)], args := [] }
  | _ => none }
def compactNamesRow : OpenClaim := { program := "ytlmmobihnnhkfaa", sum := "c2fca20876c40f7ce4b9c6bec8c3b9847cbd2383c2a668398a835d85b2a5e0b1", func := "midden/middenlaw11.CompactNames", spec := "compactNames", apart := false }
def CompactNamesSaid : Prop := compactNamesRow.holds Try.pinned (OpenSpec.ofChange compactNamesSpec)

/-- ITS FALSE NEIGHBOUR: 'it returns false'. Refute it at one input. -/
def compactNamesWrong : ChangeSpec := { name := "compactNames", fn := fun _ => fun
  | [] => { results := [.lit (.bool false)], args := [] }
  | _ => none }
def CompactNamesWrongFalsely : Prop := compactNamesRow.holds Try.pinned (OpenSpec.ofChange compactNamesWrong)

/-- 'middenlaw8.TraceNames': WHATEVER THE INPUT: true; the input reads as it did. -/
def traceNamesSpec : ChangeSpec := { name := "traceNames", fn := fun _ => fun
  | [] => { results := [.lit (.bool true)], args := [] }
  | _ => none }
def traceNamesRow : OpenClaim := { program := "ytlmmobihnnhkfaa", sum := "c2fca20876c40f7ce4b9c6bec8c3b9847cbd2383c2a668398a835d85b2a5e0b1", func := "midden/middenlaw8.TraceNames", spec := "traceNames", apart := false }
def TraceNamesSaid : Prop := traceNamesRow.holds Try.pinned (OpenSpec.ofChange traceNamesSpec)

/-- ITS FALSE NEIGHBOUR: 'it returns false'. Refute it at one input. -/
def traceNamesWrong : ChangeSpec := { name := "traceNames", fn := fun _ => fun
  | [] => { results := [.lit (.bool false)], args := [] }
  | _ => none }
def TraceNamesWrongFalsely : Prop := traceNamesRow.holds Try.pinned (OpenSpec.ofChange traceNamesWrong)

/-- 'middenlaw10.WeakNames': WHATEVER THE INPUT: true; the input reads as it did. -/
def weakNamesSpec : ChangeSpec := { name := "weakNames", fn := fun _ => fun
  | [] => { results := [.lit (.bool true)], args := [] }
  | _ => none }
def weakNamesRow : OpenClaim := { program := "ytlmmobihnnhkfaa", sum := "c2fca20876c40f7ce4b9c6bec8c3b9847cbd2383c2a668398a835d85b2a5e0b1", func := "midden/middenlaw10.WeakNames", spec := "weakNames", apart := false }
def WeakNamesSaid : Prop := weakNamesRow.holds Try.pinned (OpenSpec.ofChange weakNamesSpec)

/-- ITS FALSE NEIGHBOUR: 'it returns false'. Refute it at one input. -/
def weakNamesWrong : ChangeSpec := { name := "weakNames", fn := fun _ => fun
  | [] => { results := [.lit (.bool false)], args := [] }
  | _ => none }
def WeakNamesWrongFalsely : Prop := weakNamesRow.holds Try.pinned (OpenSpec.ofChange weakNamesWrong)

/-- 'middenlaw17.LensNames': WHATEVER THE INPUT: true; the input reads as it did. -/
def lensNamesSpec : ChangeSpec := { name := "lensNames", fn := fun _ => fun
  | [] => { results := [.lit (.bool true)], args := [] }
  | _ => none }
def lensNamesRow : OpenClaim := { program := "ytlmmobihnnhkfaa", sum := "c2fca20876c40f7ce4b9c6bec8c3b9847cbd2383c2a668398a835d85b2a5e0b1", func := "midden/middenlaw17.LensNames", spec := "lensNames", apart := false }
def LensNamesSaid : Prop := lensNamesRow.holds Try.pinned (OpenSpec.ofChange lensNamesSpec)

/-- ITS FALSE NEIGHBOUR: 'it returns false'. Refute it at one input. -/
def lensNamesWrong : ChangeSpec := { name := "lensNames", fn := fun _ => fun
  | [] => { results := [.lit (.bool false)], args := [] }
  | _ => none }
def LensNamesWrongFalsely : Prop := lensNamesRow.holds Try.pinned (OpenSpec.ofChange lensNamesWrong)

/-- 'middenlaw2.CellCounts': WHATEVER THE INPUT: true; the input reads as it did. -/
def cellCountsSpec : ChangeSpec := { name := "cellCounts", fn := fun _ => fun
  | [d1, d2] => { results := [.lit (.bool true)], args := [d1, d2] }
  | _ => none }
def cellCountsRow : OpenClaim := { program := "ytlmmobihnnhkfaa", sum := "c2fca20876c40f7ce4b9c6bec8c3b9847cbd2383c2a668398a835d85b2a5e0b1", func := "midden/middenlaw2.CellCounts", spec := "cellCounts", apart := false }
def CellCountsSaid : Prop := cellCountsRow.holds Try.pinned (OpenSpec.ofChange cellCountsSpec)

/-- ITS FALSE NEIGHBOUR: 'it returns false'. Refute it at one input. -/
def cellCountsWrong : ChangeSpec := { name := "cellCounts", fn := fun _ => fun
  | [d1, d2] => { results := [.lit (.bool false)], args := [d1, d2] }
  | _ => none }
def CellCountsWrongFalsely : Prop := cellCountsRow.holds Try.pinned (OpenSpec.ofChange cellCountsWrong)

/-- 'middenlaw13.BufferMakes': WHATEVER THE INPUT: true; the input reads as it did. -/
def bufferMakesSpec : ChangeSpec := { name := "bufferMakes", fn := fun _ => fun
  | [d1, d2, d3] => { results := [.lit (.bool true)], args := [d1, d2, d3] }
  | _ => none }
def bufferMakesRow : OpenClaim := { program := "ytlmmobihnnhkfaa", sum := "c2fca20876c40f7ce4b9c6bec8c3b9847cbd2383c2a668398a835d85b2a5e0b1", func := "midden/middenlaw13.BufferMakes", spec := "bufferMakes", apart := false }
def BufferMakesSaid : Prop := bufferMakesRow.holds Try.pinned (OpenSpec.ofChange bufferMakesSpec)

/-- ITS FALSE NEIGHBOUR: 'it returns false'. Refute it at one input. -/
def bufferMakesWrong : ChangeSpec := { name := "bufferMakes", fn := fun _ => fun
  | [d1, d2, d3] => { results := [.lit (.bool false)], args := [d1, d2, d3] }
  | _ => none }
def BufferMakesWrongFalsely : Prop := bufferMakesRow.holds Try.pinned (OpenSpec.ofChange bufferMakesWrong)

/- THE SECOND FORM. 'bulk': how many values and letters a reading holds, each counted each time it is reached (what is shared counts as often as it is met; a slice's spare places count too). A statement '..UptoSaid' is the law's where the arguments, and the package variables that the reading takes, are together of bulk at most 1048576: NARROWER than '..Said'. Prove '..Said' where nothing that the law and all that it calls make is longer than what came in: it says more and counts as full. Else prove '..UptoSaid'. A law counts once. -/
mutual
def uptoBulk {H : Type} : DataW H → Nat
  | .lit (.string bytes) => bytes.length + 1
  | .lit _ => 1
  | .nil => 1
  | .ptr d => uptoBulk d + 1
  | .slice elems spare => uptoBulkAll elems + uptoBulkAll spare + 1
  | .agg parts => uptoBulkAll parts + 1
  | .iface _ d => uptoBulk d + 1
  | .map entries => uptoBulkEntries entries + 1
  | .held _ => 1
def uptoBulkAll {H : Type} : List (DataW H) → Nat
  | [] => 0
  | d :: r => uptoBulk d + uptoBulkAll r
def uptoBulkEntries {H : Type} : List (Lit × DataW H) → Nat
  | [] => 0
  | x :: r => uptoBulkEntry x + uptoBulkEntries r
def uptoBulkEntry {H : Type} : Lit × DataW H → Nat
  | (.string bytes, d) => bytes.length + uptoBulk d + 1
  | (_, d) => uptoBulk d + 1
 end
def uptoSmall : (H : Type) → List (DataW H) → Bool := fun _ ds => decide (uptoBulkAll ds ≤ 1048576)
def OpenSpec.upto (s : _root_.Go.ChangeSpec) : _root_.Go.OpenSpec := { _root_.Go.OpenSpec.ofChange s with cond := some uptoSmall }

/-- 'middenlaw2.CellNames', WHERE WHAT IT READS IS OF BULK AT MOST 1048576: true; the input reads as it did. -/
def cellNamesUptoRow : OpenClaim := { program := "ytlmmobihnnhkfaa", sum := "c2fca20876c40f7ce4b9c6bec8c3b9847cbd2383c2a668398a835d85b2a5e0b1", func := "midden/middenlaw2.CellNames", spec := "cellNames", apart := false, narrowed := true }
def CellNamesUptoSaid : Prop := cellNamesUptoRow.holds Try.pinned (OpenSpec.upto cellNamesSpec)

/-- 'middenlaw3.ArenaNames', WHERE WHAT IT READS IS OF BULK AT MOST 1048576: true; the input reads as it did. -/
def arenaNamesUptoRow : OpenClaim := { program := "ytlmmobihnnhkfaa", sum := "c2fca20876c40f7ce4b9c6bec8c3b9847cbd2383c2a668398a835d85b2a5e0b1", func := "midden/middenlaw3.ArenaNames", spec := "arenaNames", apart := false, narrowed := true }
def ArenaNamesUptoSaid : Prop := arenaNamesUptoRow.holds Try.pinned (OpenSpec.upto arenaNamesSpec)

/-- 'middenlaw13.BufferNames', WHERE WHAT IT READS IS OF BULK AT MOST 1048576: true; the input reads as it did. -/
def bufferNamesUptoRow : OpenClaim := { program := "ytlmmobihnnhkfaa", sum := "c2fca20876c40f7ce4b9c6bec8c3b9847cbd2383c2a668398a835d85b2a5e0b1", func := "midden/middenlaw13.BufferNames", spec := "bufferNames", apart := false, narrowed := true }
def BufferNamesUptoSaid : Prop := bufferNamesUptoRow.holds Try.pinned (OpenSpec.upto bufferNamesSpec)

/-- 'middenlaw6.RemsetNames', WHERE WHAT IT READS IS OF BULK AT MOST 1048576: true; the input reads as it did. -/
def remsetNamesUptoRow : OpenClaim := { program := "ytlmmobihnnhkfaa", sum := "c2fca20876c40f7ce4b9c6bec8c3b9847cbd2383c2a668398a835d85b2a5e0b1", func := "midden/middenlaw6.RemsetNames", spec := "remsetNames", apart := false, narrowed := true }
def RemsetNamesUptoSaid : Prop := remsetNamesUptoRow.holds Try.pinned (OpenSpec.upto remsetNamesSpec)

/-- 'middenlaw9.ScavengeNames', WHERE WHAT IT READS IS OF BULK AT MOST 1048576: true; the input reads as it did. -/
def scavengeNamesUptoRow : OpenClaim := { program := "ytlmmobihnnhkfaa", sum := "c2fca20876c40f7ce4b9c6bec8c3b9847cbd2383c2a668398a835d85b2a5e0b1", func := "midden/middenlaw9.ScavengeNames", spec := "scavengeNames", apart := false, narrowed := true }
def ScavengeNamesUptoSaid : Prop := scavengeNamesUptoRow.holds Try.pinned (OpenSpec.upto scavengeNamesSpec)

/-- 'middenlaw11.CompactNames', WHERE WHAT IT READS IS OF BULK AT MOST 1048576: true; the input reads as it did. -/
def compactNamesUptoRow : OpenClaim := { program := "ytlmmobihnnhkfaa", sum := "c2fca20876c40f7ce4b9c6bec8c3b9847cbd2383c2a668398a835d85b2a5e0b1", func := "midden/middenlaw11.CompactNames", spec := "compactNames", apart := false, narrowed := true }
def CompactNamesUptoSaid : Prop := compactNamesUptoRow.holds Try.pinned (OpenSpec.upto compactNamesSpec)

/-- 'middenlaw8.TraceNames', WHERE WHAT IT READS IS OF BULK AT MOST 1048576: true; the input reads as it did. -/
def traceNamesUptoRow : OpenClaim := { program := "ytlmmobihnnhkfaa", sum := "c2fca20876c40f7ce4b9c6bec8c3b9847cbd2383c2a668398a835d85b2a5e0b1", func := "midden/middenlaw8.TraceNames", spec := "traceNames", apart := false, narrowed := true }
def TraceNamesUptoSaid : Prop := traceNamesUptoRow.holds Try.pinned (OpenSpec.upto traceNamesSpec)

/-- 'middenlaw10.WeakNames', WHERE WHAT IT READS IS OF BULK AT MOST 1048576: true; the input reads as it did. -/
def weakNamesUptoRow : OpenClaim := { program := "ytlmmobihnnhkfaa", sum := "c2fca20876c40f7ce4b9c6bec8c3b9847cbd2383c2a668398a835d85b2a5e0b1", func := "midden/middenlaw10.WeakNames", spec := "weakNames", apart := false, narrowed := true }
def WeakNamesUptoSaid : Prop := weakNamesUptoRow.holds Try.pinned (OpenSpec.upto weakNamesSpec)

/-- 'middenlaw17.LensNames', WHERE WHAT IT READS IS OF BULK AT MOST 1048576: true; the input reads as it did. -/
def lensNamesUptoRow : OpenClaim := { program := "ytlmmobihnnhkfaa", sum := "c2fca20876c40f7ce4b9c6bec8c3b9847cbd2383c2a668398a835d85b2a5e0b1", func := "midden/middenlaw17.LensNames", spec := "lensNames", apart := false, narrowed := true }
def LensNamesUptoSaid : Prop := lensNamesUptoRow.holds Try.pinned (OpenSpec.upto lensNamesSpec)

/-- 'middenlaw2.CellCounts', WHERE WHAT IT READS IS OF BULK AT MOST 1048576: true; the input reads as it did. -/
def cellCountsUptoRow : OpenClaim := { program := "ytlmmobihnnhkfaa", sum := "c2fca20876c40f7ce4b9c6bec8c3b9847cbd2383c2a668398a835d85b2a5e0b1", func := "midden/middenlaw2.CellCounts", spec := "cellCounts", apart := false, narrowed := true }
def CellCountsUptoSaid : Prop := cellCountsUptoRow.holds Try.pinned (OpenSpec.upto cellCountsSpec)

/-- 'middenlaw13.BufferMakes', WHERE WHAT IT READS IS OF BULK AT MOST 1048576: true; the input reads as it did. -/
def bufferMakesUptoRow : OpenClaim := { program := "ytlmmobihnnhkfaa", sum := "c2fca20876c40f7ce4b9c6bec8c3b9847cbd2383c2a668398a835d85b2a5e0b1", func := "midden/middenlaw13.BufferMakes", spec := "bufferMakes", apart := false, narrowed := true }
def BufferMakesUptoSaid : Prop := bufferMakesUptoRow.holds Try.pinned (OpenSpec.upto bufferMakesSpec)

end Rows
end Go.Proofs.Ytlmmobihnnhkfaa
