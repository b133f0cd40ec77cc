/-
  NARROWER THAN 'FOR EVERY INPUT', by the rows' own cells (each row's printed sentence says how): CellHeads: laid · CellTurns: laid · CellForms: laid · CellBack: laid · BufferCount: laid · ArenaSpaces: laid · ArenaHolds: laid · ArenaPlays: laid · ArenaConfigs: laid · BufferWalk: laid · BufferAll: laid.
  DERIVED. THE GIVEN ROWS OF THIS SEAT. 11 by the template 'for every input the law returns true; each argument reads behind the call as it read before'; 0 by the template 'total and deterministic' (their statements: YtomgfdfgildkbaaDoorTotals.lean).
  GIVEN WITH THE SEED: the statements are not yours to turn. If you find one false, say at which input.
  Laid BY PROGRAM, IN A SANDBOX (cutbox-rows.mjs): the forced cells as the released guide's own fill.sh prints them over the translation 5f2684efb57468b7… (all of the seat's roots in one cut). By AI agents, Wed Nov 11 2026. No macro, syntax, notation, axiom, sorry.
-/
import Derived.Test.YtomgfdfgildkbaaDoorChecked
import GoSem.Claim
import GoSem.ClaimJoined
import GoSem.ClaimMapViews
import Derived.JoinedTies
import Derived.KernelRfl
namespace Go.Proofs.YtomgfdfgildkbaaDoor
/- THE CELL 'sum', in the pinned program and in every row, IS THE sha256 OF THE DUMP (.gsa) THAT YtomgfdfgildkbaaDoorProg.lean LOADS. Nothing in Lean hashes anything: it is a label: what it is worth is what the hold of that sum in a sandbox is worth. -/
noncomputable def Tryd.pinned : Pinned := { name := "ytomgfdfgildkbaadoor", sum := "5f2684efb57468b744c857f716698622d61594235e8544fb8bfb3d6eeb8a8eda", checked := Tryd.checked }
namespace Rows
def none {H : Type} : Left H := { results := [], args := [] }

/- WHAT THE LISTED PACKAGE-LEVEL VARIABLES READ AS WHEN THE CALL BEGINS. Each datum BY PROGRAM (the guide's laid-datum.mjs) off the statement by which the dump's own 'gosem.cut.vars' lays the variable. In a bare row this is a premise. The card (YtomgfdfgildkbaaDoorCards.lean) ties it to the program's text. -/
def laid_midden_cell_widths {H : Type} : DataW H := .agg [.lit (.int .i64 3), .lit (.int .i64 1), .lit (.int .i64 4), .lit (.int .i64 8), .lit (.int .i64 12), .lit (.int .i64 16)]
def laid_midden_cell_needs {H : Type} : DataW H := .agg [.lit (.int .i64 (-1)), .lit (.int .i64 0), .lit (.int .i64 1), .lit (.int .i64 2), .lit (.int .i64 0)]

/-- 'middenlaw2.CellHeads': WHATEVER THE INPUT: true; the input reads as it did. -/
def cellHeadsSpec : ChangeSpec := { name := "cellHeads", fn := fun _ => fun
  | [d1, d2] => { results := [.lit (.bool true)], args := [d1, d2] }
  | _ => none }
def cellHeadsRow : OpenClaim := { program := "ytomgfdfgildkbaadoor", sum := "5f2684efb57468b744c857f716698622d61594235e8544fb8bfb3d6eeb8a8eda", func := "midden/middenlaw2.CellHeads", spec := "cellHeads", named := ["midden/cell.widths", "midden/cell.needs"], apart := false, laid := [("midden/cell.widths", laid_midden_cell_widths), ("midden/cell.needs", laid_midden_cell_needs)] }
def CellHeadsSaid : Prop := cellHeadsRow.holds Tryd.pinned (OpenSpec.ofChange cellHeadsSpec)

/-- ITS FALSE NEIGHBOUR: 'it returns false'. Refute it at one input. -/
def cellHeadsWrong : ChangeSpec := { name := "cellHeads", fn := fun _ => fun
  | [d1, d2] => { results := [.lit (.bool false)], args := [d1, d2] }
  | _ => none }
def CellHeadsWrongFalsely : Prop := cellHeadsRow.holds Tryd.pinned (OpenSpec.ofChange cellHeadsWrong)

/-- 'middenlaw2.CellTurns': WHATEVER THE INPUT: true; the input reads as it did. -/
def cellTurnsSpec : ChangeSpec := { name := "cellTurns", fn := fun _ => fun
  | [d1, d2, d3] => { results := [.lit (.bool true)], args := [d1, d2, d3] }
  | _ => none }
def cellTurnsRow : OpenClaim := { program := "ytomgfdfgildkbaadoor", sum := "5f2684efb57468b744c857f716698622d61594235e8544fb8bfb3d6eeb8a8eda", func := "midden/middenlaw2.CellTurns", spec := "cellTurns", unfollowed := true, recurses := true, named := ["midden/cell.widths", "midden/cell.needs"], apart := false, laid := [("midden/cell.widths", laid_midden_cell_widths), ("midden/cell.needs", laid_midden_cell_needs)] }
def CellTurnsSaid : Prop := cellTurnsRow.holds Tryd.pinned (OpenSpec.ofChange cellTurnsSpec)

/-- ITS FALSE NEIGHBOUR: 'it returns false'. Refute it at one input. -/
def cellTurnsWrong : ChangeSpec := { name := "cellTurns", fn := fun _ => fun
  | [d1, d2, d3] => { results := [.lit (.bool false)], args := [d1, d2, d3] }
  | _ => none }
def CellTurnsWrongFalsely : Prop := cellTurnsRow.holds Tryd.pinned (OpenSpec.ofChange cellTurnsWrong)

/-- 'middenlaw2.CellForms': WHATEVER THE INPUT: true; the input reads as it did. -/
def cellFormsSpec : ChangeSpec := { name := "cellForms", fn := fun _ => fun
  | [d] => { results := [.lit (.bool true)], args := [d] }
  | _ => none }
def cellFormsRow : OpenClaim := { program := "ytomgfdfgildkbaadoor", sum := "5f2684efb57468b744c857f716698622d61594235e8544fb8bfb3d6eeb8a8eda", func := "midden/middenlaw2.CellForms", spec := "cellForms", named := ["midden/cell.widths", "midden/cell.needs"], apart := false, laid := [("midden/cell.widths", laid_midden_cell_widths), ("midden/cell.needs", laid_midden_cell_needs)] }
def CellFormsSaid : Prop := cellFormsRow.holds Tryd.pinned (OpenSpec.ofChange cellFormsSpec)

/-- ITS FALSE NEIGHBOUR: 'it returns false'. Refute it at one input. -/
def cellFormsWrong : ChangeSpec := { name := "cellForms", fn := fun _ => fun
  | [d] => { results := [.lit (.bool false)], args := [d] }
  | _ => none }
def CellFormsWrongFalsely : Prop := cellFormsRow.holds Tryd.pinned (OpenSpec.ofChange cellFormsWrong)

/-- 'middenlaw2.CellBack': WHATEVER THE INPUT: true; the input reads as it did. -/
def cellBackSpec : ChangeSpec := { name := "cellBack", fn := fun _ => fun
  | [d1, d2, d3, d4, d5, d6, d7, d8] => { results := [.lit (.bool true)], args := [d1, d2, d3, d4, d5, d6, d7, d8] }
  | _ => none }
def cellBackRow : OpenClaim := { program := "ytomgfdfgildkbaadoor", sum := "5f2684efb57468b744c857f716698622d61594235e8544fb8bfb3d6eeb8a8eda", func := "midden/middenlaw2.CellBack", spec := "cellBack", unfollowed := true, recurses := true, named := ["midden/cell.widths", "midden/cell.needs"], apart := false, laid := [("midden/cell.widths", laid_midden_cell_widths), ("midden/cell.needs", laid_midden_cell_needs)] }
def CellBackSaid : Prop := cellBackRow.holds Tryd.pinned (OpenSpec.ofChange cellBackSpec)

/-- ITS FALSE NEIGHBOUR: 'it returns false'. Refute it at one input. -/
def cellBackWrong : ChangeSpec := { name := "cellBack", fn := fun _ => fun
  | [d1, d2, d3, d4, d5, d6, d7, d8] => { results := [.lit (.bool false)], args := [d1, d2, d3, d4, d5, d6, d7, d8] }
  | _ => none }
def CellBackWrongFalsely : Prop := cellBackRow.holds Tryd.pinned (OpenSpec.ofChange cellBackWrong)

/-- 'middenlaw13.BufferCount': WHATEVER THE INPUT: true; the input reads as it did. -/
def bufferCountSpec : ChangeSpec := { name := "bufferCount", fn := fun _ => fun
  | [d1, d2, d3] => { results := [.lit (.bool true)], args := [d1, d2, d3] }
  | _ => none }
def bufferCountRow : OpenClaim := { program := "ytomgfdfgildkbaadoor", sum := "5f2684efb57468b744c857f716698622d61594235e8544fb8bfb3d6eeb8a8eda", func := "midden/middenlaw13.BufferCount", spec := "bufferCount", unfollowed := true, recurses := true, named := ["midden/cell.widths", "midden/cell.needs"], apart := false, laid := [("midden/cell.widths", laid_midden_cell_widths), ("midden/cell.needs", laid_midden_cell_needs)] }
def BufferCountSaid : Prop := bufferCountRow.holds Tryd.pinned (OpenSpec.ofChange bufferCountSpec)

/-- ITS FALSE NEIGHBOUR: 'it returns false'. Refute it at one input. -/
def bufferCountWrong : ChangeSpec := { name := "bufferCount", fn := fun _ => fun
  | [d1, d2, d3] => { results := [.lit (.bool false)], args := [d1, d2, d3] }
  | _ => none }
def BufferCountWrongFalsely : Prop := bufferCountRow.holds Tryd.pinned (OpenSpec.ofChange bufferCountWrong)

/-- 'middenlaw3.ArenaSpaces': WHATEVER THE INPUT: true; the input reads as it did. -/
def arenaSpacesSpec : ChangeSpec := { name := "arenaSpaces", fn := fun _ => fun
  | [d1, d2, d3, d4] => { results := [.lit (.bool true)], args := [d1, d2, d3, d4] }
  | _ => none }
def arenaSpacesRow : OpenClaim := { program := "ytomgfdfgildkbaadoor", sum := "5f2684efb57468b744c857f716698622d61594235e8544fb8bfb3d6eeb8a8eda", func := "midden/middenlaw3.ArenaSpaces", spec := "arenaSpaces", unfollowed := true, recurses := true, named := ["midden/cell.widths", "midden/cell.needs"], apart := false, laid := [("midden/cell.widths", laid_midden_cell_widths), ("midden/cell.needs", laid_midden_cell_needs)] }
def ArenaSpacesSaid : Prop := arenaSpacesRow.holds Tryd.pinned (OpenSpec.ofChange arenaSpacesSpec)

/-- ITS FALSE NEIGHBOUR: 'it returns false'. Refute it at one input. -/
def arenaSpacesWrong : ChangeSpec := { name := "arenaSpaces", fn := fun _ => fun
  | [d1, d2, d3, d4] => { results := [.lit (.bool false)], args := [d1, d2, d3, d4] }
  | _ => none }
def ArenaSpacesWrongFalsely : Prop := arenaSpacesRow.holds Tryd.pinned (OpenSpec.ofChange arenaSpacesWrong)

/-- 'middenlaw3.ArenaHolds': WHATEVER THE INPUT: true; the input reads as it did. -/
def arenaHoldsSpec : ChangeSpec := { name := "arenaHolds", fn := fun _ => fun
  | [d1, d2] => { results := [.lit (.bool true)], args := [d1, d2] }
  | _ => none }
def arenaHoldsRow : OpenClaim := { program := "ytomgfdfgildkbaadoor", sum := "5f2684efb57468b744c857f716698622d61594235e8544fb8bfb3d6eeb8a8eda", func := "midden/middenlaw3.ArenaHolds", spec := "arenaHolds", unfollowed := true, recurses := true, named := ["midden/cell.widths", "midden/cell.needs"], apart := false, laid := [("midden/cell.widths", laid_midden_cell_widths), ("midden/cell.needs", laid_midden_cell_needs)] }
def ArenaHoldsSaid : Prop := arenaHoldsRow.holds Tryd.pinned (OpenSpec.ofChange arenaHoldsSpec)

/-- ITS FALSE NEIGHBOUR: 'it returns false'. Refute it at one input. -/
def arenaHoldsWrong : ChangeSpec := { name := "arenaHolds", fn := fun _ => fun
  | [d1, d2] => { results := [.lit (.bool false)], args := [d1, d2] }
  | _ => none }
def ArenaHoldsWrongFalsely : Prop := arenaHoldsRow.holds Tryd.pinned (OpenSpec.ofChange arenaHoldsWrong)

/-- 'middenlaw3.ArenaPlays': WHATEVER THE INPUT: true; the input reads as it did. -/
def arenaPlaysSpec : ChangeSpec := { name := "arenaPlays", fn := fun _ => fun
  | [d1, d2, d3] => { results := [.lit (.bool true)], args := [d1, d2, d3] }
  | _ => none }
def arenaPlaysRow : OpenClaim := { program := "ytomgfdfgildkbaadoor", sum := "5f2684efb57468b744c857f716698622d61594235e8544fb8bfb3d6eeb8a8eda", func := "midden/middenlaw3.ArenaPlays", spec := "arenaPlays", unfollowed := true, recurses := true, named := ["midden/cell.widths", "midden/cell.needs"], apart := false, laid := [("midden/cell.widths", laid_midden_cell_widths), ("midden/cell.needs", laid_midden_cell_needs)] }
def ArenaPlaysSaid : Prop := arenaPlaysRow.holds Tryd.pinned (OpenSpec.ofChange arenaPlaysSpec)

/-- ITS FALSE NEIGHBOUR: 'it returns false'. Refute it at one input. -/
def arenaPlaysWrong : ChangeSpec := { name := "arenaPlays", fn := fun _ => fun
  | [d1, d2, d3] => { results := [.lit (.bool false)], args := [d1, d2, d3] }
  | _ => none }
def ArenaPlaysWrongFalsely : Prop := arenaPlaysRow.holds Tryd.pinned (OpenSpec.ofChange arenaPlaysWrong)

/-- 'middenlaw3.ArenaConfigs': WHATEVER THE INPUT: true; the input reads as it did. -/
def arenaConfigsSpec : ChangeSpec := { name := "arenaConfigs", fn := fun _ => fun
  | [d] => { results := [.lit (.bool true)], args := [d] }
  | _ => none }
def arenaConfigsRow : OpenClaim := { program := "ytomgfdfgildkbaadoor", sum := "5f2684efb57468b744c857f716698622d61594235e8544fb8bfb3d6eeb8a8eda", func := "midden/middenlaw3.ArenaConfigs", spec := "arenaConfigs", unfollowed := true, recurses := true, named := ["midden/cell.widths", "midden/cell.needs"], apart := false, laid := [("midden/cell.widths", laid_midden_cell_widths), ("midden/cell.needs", laid_midden_cell_needs)] }
def ArenaConfigsSaid : Prop := arenaConfigsRow.holds Tryd.pinned (OpenSpec.ofChange arenaConfigsSpec)

/-- ITS FALSE NEIGHBOUR: 'it returns false'. Refute it at one input. -/
def arenaConfigsWrong : ChangeSpec := { name := "arenaConfigs", fn := fun _ => fun
  | [d] => { results := [.lit (.bool false)], args := [d] }
  | _ => none }
def ArenaConfigsWrongFalsely : Prop := arenaConfigsRow.holds Tryd.pinned (OpenSpec.ofChange arenaConfigsWrong)

/-- 'middenlaw13.BufferWalk': WHATEVER THE INPUT: true; the input reads as it did. -/
def bufferWalkSpec : ChangeSpec := { name := "bufferWalk", fn := fun _ => fun
  | [d1, d2, d3, d4] => { results := [.lit (.bool true)], args := [d1, d2, d3, d4] }
  | _ => none }
def bufferWalkRow : OpenClaim := { program := "ytomgfdfgildkbaadoor", sum := "5f2684efb57468b744c857f716698622d61594235e8544fb8bfb3d6eeb8a8eda", func := "midden/middenlaw13.BufferWalk", spec := "bufferWalk", unfollowed := true, recurses := true, named := ["midden/cell.widths", "midden/cell.needs"], apart := false, laid := [("midden/cell.widths", laid_midden_cell_widths), ("midden/cell.needs", laid_midden_cell_needs)] }
def BufferWalkSaid : Prop := bufferWalkRow.holds Tryd.pinned (OpenSpec.ofChange bufferWalkSpec)

/-- ITS FALSE NEIGHBOUR: 'it returns false'. Refute it at one input. -/
def bufferWalkWrong : ChangeSpec := { name := "bufferWalk", fn := fun _ => fun
  | [d1, d2, d3, d4] => { results := [.lit (.bool false)], args := [d1, d2, d3, d4] }
  | _ => none }
def BufferWalkWrongFalsely : Prop := bufferWalkRow.holds Tryd.pinned (OpenSpec.ofChange bufferWalkWrong)

/-- 'middenlaw13.BufferAll': WHATEVER THE INPUT: true; the input reads as it did. -/
def bufferAllSpec : ChangeSpec := { name := "bufferAll", fn := fun _ => fun
  | [d1, d2, d3, d4] => { results := [.lit (.bool true)], args := [d1, d2, d3, d4] }
  | _ => none }
def bufferAllRow : OpenClaim := { program := "ytomgfdfgildkbaadoor", sum := "5f2684efb57468b744c857f716698622d61594235e8544fb8bfb3d6eeb8a8eda", func := "midden/middenlaw13.BufferAll", spec := "bufferAll", unfollowed := true, recurses := true, named := ["midden/cell.widths", "midden/cell.needs"], apart := false, laid := [("midden/cell.widths", laid_midden_cell_widths), ("midden/cell.needs", laid_midden_cell_needs)] }
def BufferAllSaid : Prop := bufferAllRow.holds Tryd.pinned (OpenSpec.ofChange bufferAllSpec)

/-- ITS FALSE NEIGHBOUR: 'it returns false'. Refute it at one input. -/
def bufferAllWrong : ChangeSpec := { name := "bufferAll", fn := fun _ => fun
  | [d1, d2, d3, d4] => { results := [.lit (.bool false)], args := [d1, d2, d3, d4] }
  | _ => none }
def BufferAllWrongFalsely : Prop := bufferAllRow.holds Tryd.pinned (OpenSpec.ofChange bufferAllWrong)

/- THE SECOND FORM. 'bulk': how many values and letters a reading holds, each counted each time it is reached (what is shared counts as often as it is met; a slice's spare places count too). A statement '..UptoSaid' is the law's where the arguments, and the package variables that the reading takes, are together of bulk at most 1048576: NARROWER than '..Said'. Prove '..Said' where nothing that the law and all that it calls make is longer than what came in: it says more and counts as full. Else prove '..UptoSaid'. A law counts once. -/
mutual
def uptoBulk {H : Type} : DataW H → Nat
  | .lit (.string bytes) => bytes.length + 1
  | .lit _ => 1
  | .nil => 1
  | .ptr d => uptoBulk d + 1
  | .slice elems spare => uptoBulkAll elems + uptoBulkAll spare + 1
  | .agg parts => uptoBulkAll parts + 1
  | .iface _ d => uptoBulk d + 1
  | .map entries => uptoBulkEntries entries + 1
  | .held _ => 1
def uptoBulkAll {H : Type} : List (DataW H) → Nat
  | [] => 0
  | d :: r => uptoBulk d + uptoBulkAll r
def uptoBulkEntries {H : Type} : List (Lit × DataW H) → Nat
  | [] => 0
  | x :: r => uptoBulkEntry x + uptoBulkEntries r
def uptoBulkEntry {H : Type} : Lit × DataW H → Nat
  | (.string bytes, d) => bytes.length + uptoBulk d + 1
  | (_, d) => uptoBulk d + 1
 end
def uptoSmall : (H : Type) → List (DataW H) → Bool := fun _ ds => decide (uptoBulkAll ds ≤ 1048576)
def OpenSpec.upto (s : _root_.Go.ChangeSpec) : _root_.Go.OpenSpec := { _root_.Go.OpenSpec.ofChange s with cond := some uptoSmall }

/-- 'middenlaw2.CellHeads', WHERE WHAT IT READS IS OF BULK AT MOST 1048576: true; the input reads as it did. -/
def cellHeadsUptoRow : OpenClaim := { program := "ytomgfdfgildkbaadoor", sum := "5f2684efb57468b744c857f716698622d61594235e8544fb8bfb3d6eeb8a8eda", func := "midden/middenlaw2.CellHeads", spec := "cellHeads", named := ["midden/cell.widths", "midden/cell.needs"], apart := false, laid := [("midden/cell.widths", laid_midden_cell_widths), ("midden/cell.needs", laid_midden_cell_needs)], narrowed := true }
def CellHeadsUptoSaid : Prop := cellHeadsUptoRow.holds Tryd.pinned (OpenSpec.upto cellHeadsSpec)

/-- 'middenlaw2.CellTurns', WHERE WHAT IT READS IS OF BULK AT MOST 1048576: true; the input reads as it did. -/
def cellTurnsUptoRow : OpenClaim := { program := "ytomgfdfgildkbaadoor", sum := "5f2684efb57468b744c857f716698622d61594235e8544fb8bfb3d6eeb8a8eda", func := "midden/middenlaw2.CellTurns", spec := "cellTurns", unfollowed := true, recurses := true, named := ["midden/cell.widths", "midden/cell.needs"], apart := false, laid := [("midden/cell.widths", laid_midden_cell_widths), ("midden/cell.needs", laid_midden_cell_needs)], narrowed := true }
def CellTurnsUptoSaid : Prop := cellTurnsUptoRow.holds Tryd.pinned (OpenSpec.upto cellTurnsSpec)

/-- 'middenlaw2.CellForms', WHERE WHAT IT READS IS OF BULK AT MOST 1048576: true; the input reads as it did. -/
def cellFormsUptoRow : OpenClaim := { program := "ytomgfdfgildkbaadoor", sum := "5f2684efb57468b744c857f716698622d61594235e8544fb8bfb3d6eeb8a8eda", func := "midden/middenlaw2.CellForms", spec := "cellForms", named := ["midden/cell.widths", "midden/cell.needs"], apart := false, laid := [("midden/cell.widths", laid_midden_cell_widths), ("midden/cell.needs", laid_midden_cell_needs)], narrowed := true }
def CellFormsUptoSaid : Prop := cellFormsUptoRow.holds Tryd.pinned (OpenSpec.upto cellFormsSpec)

/-- 'middenlaw2.CellBack', WHERE WHAT IT READS IS OF BULK AT MOST 1048576: true; the input reads as it did. -/
def cellBackUptoRow : OpenClaim := { program := "ytomgfdfgildkbaadoor", sum := "5f2684efb57468b744c857f716698622d61594235e8544fb8bfb3d6eeb8a8eda", func := "midden/middenlaw2.CellBack", spec := "cellBack", unfollowed := true, recurses := true, named := ["midden/cell.widths", "midden/cell.needs"], apart := false, laid := [("midden/cell.widths", laid_midden_cell_widths), ("midden/cell.needs", laid_midden_cell_needs)], narrowed := true }
def CellBackUptoSaid : Prop := cellBackUptoRow.holds Tryd.pinned (OpenSpec.upto cellBackSpec)

/-- 'middenlaw13.BufferCount', WHERE WHAT IT READS IS OF BULK AT MOST 1048576: true; the input reads as it did. -/
def bufferCountUptoRow : OpenClaim := { program := "ytomgfdfgildkbaadoor", sum := "5f2684efb57468b744c857f716698622d61594235e8544fb8bfb3d6eeb8a8eda", func := "midden/middenlaw13.BufferCount", spec := "bufferCount", unfollowed := true, recurses := true, named := ["midden/cell.widths", "midden/cell.needs"], apart := false, laid := [("midden/cell.widths", laid_midden_cell_widths), ("midden/cell.needs", laid_midden_cell_needs)], narrowed := true }
def BufferCountUptoSaid : Prop := bufferCountUptoRow.holds Tryd.pinned (OpenSpec.upto bufferCountSpec)

/-- 'middenlaw3.ArenaSpaces', WHERE WHAT IT READS IS OF BULK AT MOST 1048576: true; the input reads as it did. -/
def arenaSpacesUptoRow : OpenClaim := { program := "ytomgfdfgildkbaadoor", sum := "5f2684efb57468b744c857f716698622d61594235e8544fb8bfb3d6eeb8a8eda", func := "midden/middenlaw3.ArenaSpaces", spec := "arenaSpaces", unfollowed := true, recurses := true, named := ["midden/cell.widths", "midden/cell.needs"], apart := false, laid := [("midden/cell.widths", laid_midden_cell_widths), ("midden/cell.needs", laid_midden_cell_needs)], narrowed := true }
def ArenaSpacesUptoSaid : Prop := arenaSpacesUptoRow.holds Tryd.pinned (OpenSpec.upto arenaSpacesSpec)

/-- 'middenlaw3.ArenaHolds', WHERE WHAT IT READS IS OF BULK AT MOST 1048576: true; the input reads as it did. -/
def arenaHoldsUptoRow : OpenClaim := { program := "ytomgfdfgildkbaadoor", sum := "5f2684efb57468b744c857f716698622d61594235e8544fb8bfb3d6eeb8a8eda", func := "midden/middenlaw3.ArenaHolds", spec := "arenaHolds", unfollowed := true, recurses := true, named := ["midden/cell.widths", "midden/cell.needs"], apart := false, laid := [("midden/cell.widths", laid_midden_cell_widths), ("midden/cell.needs", laid_midden_cell_needs)], narrowed := true }
def ArenaHoldsUptoSaid : Prop := arenaHoldsUptoRow.holds Tryd.pinned (OpenSpec.upto arenaHoldsSpec)

/-- 'middenlaw3.ArenaPlays', WHERE WHAT IT READS IS OF BULK AT MOST 1048576: true; the input reads as it did. -/
def arenaPlaysUptoRow : OpenClaim := { program := "ytomgfdfgildkbaadoor", sum := "5f2684efb57468b744c857f716698622d61594235e8544fb8bfb3d6eeb8a8eda", func := "midden/middenlaw3.ArenaPlays", spec := "arenaPlays", unfollowed := true, recurses := true, named := ["midden/cell.widths", "midden/cell.needs"], apart := false, laid := [("midden/cell.widths", laid_midden_cell_widths), ("midden/cell.needs", laid_midden_cell_needs)], narrowed := true }
def ArenaPlaysUptoSaid : Prop := arenaPlaysUptoRow.holds Tryd.pinned (OpenSpec.upto arenaPlaysSpec)

/-- 'middenlaw3.ArenaConfigs', WHERE WHAT IT READS IS OF BULK AT MOST 1048576: true; the input reads as it did. -/
def arenaConfigsUptoRow : OpenClaim := { program := "ytomgfdfgildkbaadoor", sum := "5f2684efb57468b744c857f716698622d61594235e8544fb8bfb3d6eeb8a8eda", func := "midden/middenlaw3.ArenaConfigs", spec := "arenaConfigs", unfollowed := true, recurses := true, named := ["midden/cell.widths", "midden/cell.needs"], apart := false, laid := [("midden/cell.widths", laid_midden_cell_widths), ("midden/cell.needs", laid_midden_cell_needs)], narrowed := true }
def ArenaConfigsUptoSaid : Prop := arenaConfigsUptoRow.holds Tryd.pinned (OpenSpec.upto arenaConfigsSpec)

/-- 'middenlaw13.BufferWalk', WHERE WHAT IT READS IS OF BULK AT MOST 1048576: true; the input reads as it did. -/
def bufferWalkUptoRow : OpenClaim := { program := "ytomgfdfgildkbaadoor", sum := "5f2684efb57468b744c857f716698622d61594235e8544fb8bfb3d6eeb8a8eda", func := "midden/middenlaw13.BufferWalk", spec := "bufferWalk", unfollowed := true, recurses := true, named := ["midden/cell.widths", "midden/cell.needs"], apart := false, laid := [("midden/cell.widths", laid_midden_cell_widths), ("midden/cell.needs", laid_midden_cell_needs)], narrowed := true }
def BufferWalkUptoSaid : Prop := bufferWalkUptoRow.holds Tryd.pinned (OpenSpec.upto bufferWalkSpec)

/-- 'middenlaw13.BufferAll', WHERE WHAT IT READS IS OF BULK AT MOST 1048576: true; the input reads as it did. -/
def bufferAllUptoRow : OpenClaim := { program := "ytomgfdfgildkbaadoor", sum := "5f2684efb57468b744c857f716698622d61594235e8544fb8bfb3d6eeb8a8eda", func := "midden/middenlaw13.BufferAll", spec := "bufferAll", unfollowed := true, recurses := true, named := ["midden/cell.widths", "midden/cell.needs"], apart := false, laid := [("midden/cell.widths", laid_midden_cell_widths), ("midden/cell.needs", laid_midden_cell_needs)], narrowed := true }
def BufferAllUptoSaid : Prop := bufferAllUptoRow.holds Tryd.pinned (OpenSpec.upto bufferAllSpec)

end Rows
end Go.Proofs.YtomgfdfgildkbaaDoor
