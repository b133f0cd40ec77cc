/-
  NARROWER THAN 'FOR EVERY INPUT', by the rows' own cells (each row's printed sentence says how): LensPaths: laid · LensDominators: laid · LensRetained: laid · LensCut: laid · LensTree: laid · LensWay: laid · LensWorkers: calm, laid.
  DERIVED. THE GIVEN ROWS OF THIS SEAT. 7 by the template 'for every input the law returns true; each argument reads behind the call as it read before'; 0 by the template 'total and deterministic' (their statements: YtogpgkoelplknaaDoorTotals.lean).
  GIVEN WITH THE SEED: the statements are not yours to turn. If you find one false, say at which input.
  Laid BY PROGRAM, IN A SANDBOX (cutbox-rows.mjs): the forced cells as the released guide's own fill.sh prints them over the translation 9c99d816bdb5dc19… (all of the seat's roots in one cut). By AI agents, Wed Nov 11 2026. No macro, syntax, notation, axiom, sorry.
-/
import Derived.Test.YtogpgkoelplknaaDoorChecked
import GoSem.Claim
import GoSem.ClaimJoined
import GoSem.ClaimMapViews
import Derived.JoinedTies
import Derived.KernelRfl
namespace Go.Proofs.YtogpgkoelplknaaDoor
/- THE CELL 'sum', in the pinned program and in every row, IS THE sha256 OF THE DUMP (.gsa) THAT YtogpgkoelplknaaDoorProg.lean LOADS. Nothing in Lean hashes anything: it is a label: what it is worth is what the hold of that sum in a sandbox is worth. -/
noncomputable def Tryd.pinned : Pinned := { name := "ytogpgkoelplknaadoor", sum := "9c99d816bdb5dc19b8b48c8337329bc5c82956a151c2f843ba831fd182aa4b92", checked := Tryd.checked }
namespace Rows
def none {H : Type} : Left H := { results := [], args := [] }

/- WHAT THE LISTED PACKAGE-LEVEL VARIABLES READ AS WHEN THE CALL BEGINS. Each datum BY PROGRAM (the guide's laid-datum.mjs) off the statement by which the dump's own 'gosem.cut.vars' lays the variable. In a bare row this is a premise. The card (YtogpgkoelplknaaDoorCards.lean) ties it to the program's text. -/
def laid_midden_cell_widths {H : Type} : DataW H := .agg [.lit (.int .i64 3), .lit (.int .i64 1), .lit (.int .i64 4), .lit (.int .i64 8), .lit (.int .i64 12), .lit (.int .i64 16)]
def laid_midden_cell_needs {H : Type} : DataW H := .agg [.lit (.int .i64 (-1)), .lit (.int .i64 0), .lit (.int .i64 1), .lit (.int .i64 2), .lit (.int .i64 0)]

/-- 'middenlaw17.LensPaths': WHATEVER THE INPUT: true; the input reads as it did. -/
def lensPathsSpec : ChangeSpec := { name := "lensPaths", fn := fun _ => fun
  | [d1, d2] => { results := [.lit (.bool true)], args := [d1, d2] }
  | _ => none }
def lensPathsRow : OpenClaim := { program := "ytogpgkoelplknaadoor", sum := "9c99d816bdb5dc19b8b48c8337329bc5c82956a151c2f843ba831fd182aa4b92", func := "midden/middenlaw17.LensPaths", spec := "lensPaths", unfollowed := true, recurses := true, named := ["midden/cell.widths", "midden/cell.needs"], leaving := true, apart := false, laid := [("midden/cell.widths", laid_midden_cell_widths), ("midden/cell.needs", laid_midden_cell_needs)] }
def LensPathsSaid : Prop := lensPathsRow.holds Tryd.pinned (OpenSpec.ofChange lensPathsSpec)

/-- ITS FALSE NEIGHBOUR: 'it returns false'. Refute it at one input. -/
def lensPathsWrong : ChangeSpec := { name := "lensPaths", fn := fun _ => fun
  | [d1, d2] => { results := [.lit (.bool false)], args := [d1, d2] }
  | _ => none }
def LensPathsWrongFalsely : Prop := lensPathsRow.holds Tryd.pinned (OpenSpec.ofChange lensPathsWrong)

/-- 'middenlaw17.LensDominators': WHATEVER THE INPUT: true; the input reads as it did. -/
def lensDominatorsSpec : ChangeSpec := { name := "lensDominators", fn := fun _ => fun
  | [d] => { results := [.lit (.bool true)], args := [d] }
  | _ => none }
def lensDominatorsRow : OpenClaim := { program := "ytogpgkoelplknaadoor", sum := "9c99d816bdb5dc19b8b48c8337329bc5c82956a151c2f843ba831fd182aa4b92", func := "midden/middenlaw17.LensDominators", spec := "lensDominators", unfollowed := true, recurses := true, named := ["midden/cell.widths", "midden/cell.needs"], leaving := true, apart := false, laid := [("midden/cell.widths", laid_midden_cell_widths), ("midden/cell.needs", laid_midden_cell_needs)] }
def LensDominatorsSaid : Prop := lensDominatorsRow.holds Tryd.pinned (OpenSpec.ofChange lensDominatorsSpec)

/-- ITS FALSE NEIGHBOUR: 'it returns false'. Refute it at one input. -/
def lensDominatorsWrong : ChangeSpec := { name := "lensDominators", fn := fun _ => fun
  | [d] => { results := [.lit (.bool false)], args := [d] }
  | _ => none }
def LensDominatorsWrongFalsely : Prop := lensDominatorsRow.holds Tryd.pinned (OpenSpec.ofChange lensDominatorsWrong)

/-- 'middenlaw17.LensRetained': WHATEVER THE INPUT: true; the input reads as it did. -/
def lensRetainedSpec : ChangeSpec := { name := "lensRetained", fn := fun _ => fun
  | [d] => { results := [.lit (.bool true)], args := [d] }
  | _ => none }
def lensRetainedRow : OpenClaim := { program := "ytogpgkoelplknaadoor", sum := "9c99d816bdb5dc19b8b48c8337329bc5c82956a151c2f843ba831fd182aa4b92", func := "midden/middenlaw17.LensRetained", spec := "lensRetained", unfollowed := true, recurses := true, named := ["midden/cell.widths", "midden/cell.needs"], leaving := true, apart := false, laid := [("midden/cell.widths", laid_midden_cell_widths), ("midden/cell.needs", laid_midden_cell_needs)] }
def LensRetainedSaid : Prop := lensRetainedRow.holds Tryd.pinned (OpenSpec.ofChange lensRetainedSpec)

/-- ITS FALSE NEIGHBOUR: 'it returns false'. Refute it at one input. -/
def lensRetainedWrong : ChangeSpec := { name := "lensRetained", fn := fun _ => fun
  | [d] => { results := [.lit (.bool false)], args := [d] }
  | _ => none }
def LensRetainedWrongFalsely : Prop := lensRetainedRow.holds Tryd.pinned (OpenSpec.ofChange lensRetainedWrong)

/-- 'middenlaw17.LensCut': WHATEVER THE INPUT: true; the input reads as it did. -/
def lensCutSpec : ChangeSpec := { name := "lensCut", fn := fun _ => fun
  | [d1, d2] => { results := [.lit (.bool true)], args := [d1, d2] }
  | _ => none }
def lensCutRow : OpenClaim := { program := "ytogpgkoelplknaadoor", sum := "9c99d816bdb5dc19b8b48c8337329bc5c82956a151c2f843ba831fd182aa4b92", func := "midden/middenlaw17.LensCut", spec := "lensCut", unfollowed := true, recurses := true, named := ["midden/cell.widths", "midden/cell.needs"], leaving := true, apart := false, laid := [("midden/cell.widths", laid_midden_cell_widths), ("midden/cell.needs", laid_midden_cell_needs)] }
def LensCutSaid : Prop := lensCutRow.holds Tryd.pinned (OpenSpec.ofChange lensCutSpec)

/-- ITS FALSE NEIGHBOUR: 'it returns false'. Refute it at one input. -/
def lensCutWrong : ChangeSpec := { name := "lensCut", fn := fun _ => fun
  | [d1, d2] => { results := [.lit (.bool false)], args := [d1, d2] }
  | _ => none }
def LensCutWrongFalsely : Prop := lensCutRow.holds Tryd.pinned (OpenSpec.ofChange lensCutWrong)

/-- 'middenlaw17.LensTree': WHATEVER THE INPUT: true; the input reads as it did. -/
def lensTreeSpec : ChangeSpec := { name := "lensTree", fn := fun _ => fun
  | [d] => { results := [.lit (.bool true)], args := [d] }
  | _ => none }
def lensTreeRow : OpenClaim := { program := "ytogpgkoelplknaadoor", sum := "9c99d816bdb5dc19b8b48c8337329bc5c82956a151c2f843ba831fd182aa4b92", func := "midden/middenlaw17.LensTree", spec := "lensTree", unfollowed := true, recurses := true, named := ["midden/cell.widths", "midden/cell.needs"], leaving := true, apart := false, laid := [("midden/cell.widths", laid_midden_cell_widths), ("midden/cell.needs", laid_midden_cell_needs)] }
def LensTreeSaid : Prop := lensTreeRow.holds Tryd.pinned (OpenSpec.ofChange lensTreeSpec)

/-- ITS FALSE NEIGHBOUR: 'it returns false'. Refute it at one input. -/
def lensTreeWrong : ChangeSpec := { name := "lensTree", fn := fun _ => fun
  | [d] => { results := [.lit (.bool false)], args := [d] }
  | _ => none }
def LensTreeWrongFalsely : Prop := lensTreeRow.holds Tryd.pinned (OpenSpec.ofChange lensTreeWrong)

/-- 'middenlaw17.LensWay': WHATEVER THE INPUT: true; the input reads as it did. -/
def lensWaySpec : ChangeSpec := { name := "lensWay", fn := fun _ => fun
  | [d1, d2] => { results := [.lit (.bool true)], args := [d1, d2] }
  | _ => none }
def lensWayRow : OpenClaim := { program := "ytogpgkoelplknaadoor", sum := "9c99d816bdb5dc19b8b48c8337329bc5c82956a151c2f843ba831fd182aa4b92", func := "midden/middenlaw17.LensWay", spec := "lensWay", unfollowed := true, recurses := true, named := ["midden/cell.widths", "midden/cell.needs"], leaving := true, apart := false, laid := [("midden/cell.widths", laid_midden_cell_widths), ("midden/cell.needs", laid_midden_cell_needs)] }
def LensWaySaid : Prop := lensWayRow.holds Tryd.pinned (OpenSpec.ofChange lensWaySpec)

/-- ITS FALSE NEIGHBOUR: 'it returns false'. Refute it at one input. -/
def lensWayWrong : ChangeSpec := { name := "lensWay", fn := fun _ => fun
  | [d1, d2] => { results := [.lit (.bool false)], args := [d1, d2] }
  | _ => none }
def LensWayWrongFalsely : Prop := lensWayRow.holds Tryd.pinned (OpenSpec.ofChange lensWayWrong)

/-- 'middenlaw17.LensWorkers': WHATEVER THE INPUT: true; the input reads as it did. -/
def lensWorkersSpec : ChangeSpec := { name := "lensWorkers", fn := fun _ => fun
  | [d1, d2, d3, d4] => { results := [.lit (.bool true)], args := [d1, d2, d3, d4] }
  | _ => none }
def lensWorkersRow : OpenClaim := { program := "ytogpgkoelplknaadoor", sum := "9c99d816bdb5dc19b8b48c8337329bc5c82956a151c2f843ba831fd182aa4b92", func := "midden/middenlaw17.LensWorkers", spec := "lensWorkers", inPlace := ["(*sync.WaitGroup).Add", "internal/race.ReleaseMerge", "internal/race.Disable", "internal/race.Enable", "internal/synctest.IsInBubble", "internal/synctest.Associate[sync.WaitGroup]", "sync.fatal", "sync/atomic.OrUint64", "sync/atomic.AddUint64", "internal/race.Read", "sync/atomic.LoadUint64", "sync/atomic.StoreUint64", "internal/synctest.Disassociate[sync.WaitGroup]", "sync.runtime_Semrelease", "(*sync.WaitGroup).Done", "sync/atomic.LoadUint32", "(*internal/sync.Mutex).Lock", "sync/atomic.CompareAndSwapInt32", "internal/race.Acquire", "(*internal/sync.Mutex).lockSlow", "internal/sync.runtime_canSpin", "internal/sync.runtime_doSpin", "internal/sync.throw", "internal/sync.runtime_nanotime", "internal/sync.runtime_SemacquireMutex", "sync/atomic.AddInt32", "(*internal/sync.Mutex).Unlock", "(*internal/sync.Mutex).unlockSlow", "internal/sync.fatal", "internal/sync.runtime_Semrelease", "sync/atomic.StoreUint32", "(*sync.WaitGroup).Wait", "internal/synctest.IsAssociated[sync.WaitGroup]", "sync/atomic.CompareAndSwapUint64", "internal/race.Write", "sync.runtime_SemacquireWaitGroup"], unfollowed := true, recurses := true, named := ["midden/cell.widths", "midden/cell.needs"], leaving := true, apart := false, calm := true, outside := [.timePasses], laid := [("midden/cell.widths", laid_midden_cell_widths), ("midden/cell.needs", laid_midden_cell_needs)] }
def LensWorkersSaid : Prop := lensWorkersRow.holds Tryd.pinned (OpenSpec.ofChange lensWorkersSpec)

/-- ITS FALSE NEIGHBOUR: 'it returns false'. Refute it at one input. -/
def lensWorkersWrong : ChangeSpec := { name := "lensWorkers", fn := fun _ => fun
  | [d1, d2, d3, d4] => { results := [.lit (.bool false)], args := [d1, d2, d3, d4] }
  | _ => none }
def LensWorkersWrongFalsely : Prop := lensWorkersRow.holds Tryd.pinned (OpenSpec.ofChange lensWorkersWrong)

/- THE SECOND FORM. 'bulk': how many values and letters a reading holds, each counted each time it is reached (what is shared counts as often as it is met; a slice's spare places count too). A statement '..UptoSaid' is the law's where the arguments, and the package variables that the reading takes, are together of bulk at most 1048576: NARROWER than '..Said'. Prove '..Said' where nothing that the law and all that it calls make is longer than what came in: it says more and counts as full. Else prove '..UptoSaid'. A law counts once. -/
mutual
def uptoBulk {H : Type} : DataW H → Nat
  | .lit (.string bytes) => bytes.length + 1
  | .lit _ => 1
  | .nil => 1
  | .ptr d => uptoBulk d + 1
  | .slice elems spare => uptoBulkAll elems + uptoBulkAll spare + 1
  | .agg parts => uptoBulkAll parts + 1
  | .iface _ d => uptoBulk d + 1
  | .map entries => uptoBulkEntries entries + 1
  | .held _ => 1
def uptoBulkAll {H : Type} : List (DataW H) → Nat
  | [] => 0
  | d :: r => uptoBulk d + uptoBulkAll r
def uptoBulkEntries {H : Type} : List (Lit × DataW H) → Nat
  | [] => 0
  | x :: r => uptoBulkEntry x + uptoBulkEntries r
def uptoBulkEntry {H : Type} : Lit × DataW H → Nat
  | (.string bytes, d) => bytes.length + uptoBulk d + 1
  | (_, d) => uptoBulk d + 1
 end
def uptoSmall : (H : Type) → List (DataW H) → Bool := fun _ ds => decide (uptoBulkAll ds ≤ 1048576)
def OpenSpec.upto (s : _root_.Go.ChangeSpec) : _root_.Go.OpenSpec := { _root_.Go.OpenSpec.ofChange s with cond := some uptoSmall }

/-- 'middenlaw17.LensPaths', WHERE WHAT IT READS IS OF BULK AT MOST 1048576: true; the input reads as it did. -/
def lensPathsUptoRow : OpenClaim := { program := "ytogpgkoelplknaadoor", sum := "9c99d816bdb5dc19b8b48c8337329bc5c82956a151c2f843ba831fd182aa4b92", func := "midden/middenlaw17.LensPaths", spec := "lensPaths", unfollowed := true, recurses := true, named := ["midden/cell.widths", "midden/cell.needs"], leaving := true, apart := false, laid := [("midden/cell.widths", laid_midden_cell_widths), ("midden/cell.needs", laid_midden_cell_needs)], narrowed := true }
def LensPathsUptoSaid : Prop := lensPathsUptoRow.holds Tryd.pinned (OpenSpec.upto lensPathsSpec)

/-- 'middenlaw17.LensDominators', WHERE WHAT IT READS IS OF BULK AT MOST 1048576: true; the input reads as it did. -/
def lensDominatorsUptoRow : OpenClaim := { program := "ytogpgkoelplknaadoor", sum := "9c99d816bdb5dc19b8b48c8337329bc5c82956a151c2f843ba831fd182aa4b92", func := "midden/middenlaw17.LensDominators", spec := "lensDominators", unfollowed := true, recurses := true, named := ["midden/cell.widths", "midden/cell.needs"], leaving := true, apart := false, laid := [("midden/cell.widths", laid_midden_cell_widths), ("midden/cell.needs", laid_midden_cell_needs)], narrowed := true }
def LensDominatorsUptoSaid : Prop := lensDominatorsUptoRow.holds Tryd.pinned (OpenSpec.upto lensDominatorsSpec)

/-- 'middenlaw17.LensRetained', WHERE WHAT IT READS IS OF BULK AT MOST 1048576: true; the input reads as it did. -/
def lensRetainedUptoRow : OpenClaim := { program := "ytogpgkoelplknaadoor", sum := "9c99d816bdb5dc19b8b48c8337329bc5c82956a151c2f843ba831fd182aa4b92", func := "midden/middenlaw17.LensRetained", spec := "lensRetained", unfollowed := true, recurses := true, named := ["midden/cell.widths", "midden/cell.needs"], leaving := true, apart := false, laid := [("midden/cell.widths", laid_midden_cell_widths), ("midden/cell.needs", laid_midden_cell_needs)], narrowed := true }
def LensRetainedUptoSaid : Prop := lensRetainedUptoRow.holds Tryd.pinned (OpenSpec.upto lensRetainedSpec)

/-- 'middenlaw17.LensCut', WHERE WHAT IT READS IS OF BULK AT MOST 1048576: true; the input reads as it did. -/
def lensCutUptoRow : OpenClaim := { program := "ytogpgkoelplknaadoor", sum := "9c99d816bdb5dc19b8b48c8337329bc5c82956a151c2f843ba831fd182aa4b92", func := "midden/middenlaw17.LensCut", spec := "lensCut", unfollowed := true, recurses := true, named := ["midden/cell.widths", "midden/cell.needs"], leaving := true, apart := false, laid := [("midden/cell.widths", laid_midden_cell_widths), ("midden/cell.needs", laid_midden_cell_needs)], narrowed := true }
def LensCutUptoSaid : Prop := lensCutUptoRow.holds Tryd.pinned (OpenSpec.upto lensCutSpec)

/-- 'middenlaw17.LensTree', WHERE WHAT IT READS IS OF BULK AT MOST 1048576: true; the input reads as it did. -/
def lensTreeUptoRow : OpenClaim := { program := "ytogpgkoelplknaadoor", sum := "9c99d816bdb5dc19b8b48c8337329bc5c82956a151c2f843ba831fd182aa4b92", func := "midden/middenlaw17.LensTree", spec := "lensTree", unfollowed := true, recurses := true, named := ["midden/cell.widths", "midden/cell.needs"], leaving := true, apart := false, laid := [("midden/cell.widths", laid_midden_cell_widths), ("midden/cell.needs", laid_midden_cell_needs)], narrowed := true }
def LensTreeUptoSaid : Prop := lensTreeUptoRow.holds Tryd.pinned (OpenSpec.upto lensTreeSpec)

/-- 'middenlaw17.LensWay', WHERE WHAT IT READS IS OF BULK AT MOST 1048576: true; the input reads as it did. -/
def lensWayUptoRow : OpenClaim := { program := "ytogpgkoelplknaadoor", sum := "9c99d816bdb5dc19b8b48c8337329bc5c82956a151c2f843ba831fd182aa4b92", func := "midden/middenlaw17.LensWay", spec := "lensWay", unfollowed := true, recurses := true, named := ["midden/cell.widths", "midden/cell.needs"], leaving := true, apart := false, laid := [("midden/cell.widths", laid_midden_cell_widths), ("midden/cell.needs", laid_midden_cell_needs)], narrowed := true }
def LensWayUptoSaid : Prop := lensWayUptoRow.holds Tryd.pinned (OpenSpec.upto lensWaySpec)

end Rows
end Go.Proofs.YtogpgkoelplknaaDoor
