/-
  DERIVED. GIVEN WITH THE SEED: THE CARDS: each row of YtogpgkoelplknaaDoorRows.lean that lists a variable, with what it lists TIED to the program's text (the seventh form; the later family's looks); each row that meets fmt, with fmt's text TOLD by the authors' own Lean function (tested against real Go, not proved from fmt's source: count such statements apart). THE CARD IS WHAT COUNTS. Prove the row's statement (the work); the ties are given (YtogpgkoelplknaaDoorTie.lean); close each card by the builder's one call (the guide's Derived/Test/ToyasCard.lean, 'card_holds'). Laid BY PROGRAM, IN A SANDBOX (cutbox-door.mjs). By AI agents, Wed Nov 11 2026. No macro, syntax, notation, axiom, sorry.
-/
import Derived.Test.YtogpgkoelplknaaDoorRows
import GoSem.ClaimSeven
namespace Go.Proofs.YtogpgkoelplknaaDoor
namespace Rows

/-- THE TIED CARD OF 'middenlaw17.LensPaths'. -/
def lensPathsCard : Claim7 := { stood := { row := lensPathsRow, standIns := [], harness := (true, "ad1feece0319ee25716be72f6c3f172322b3e657bae7bd079dc72078729f5c2e"), looks := false }, kinds := [], alts := [], goes := true, laidByText := true, laidKinds := [.data, .data], laidTests := true, laidLooks := .later }
def LensPathsCardSaid : Prop := Claim7.holds Tryd.pinned (.plain (OpenSpec.ofChange lensPathsSpec)) lensPathsCard

/-- THE TIED CARD OF 'middenlaw17.LensDominators'. -/
def lensDominatorsCard : Claim7 := { stood := { row := lensDominatorsRow, standIns := [], harness := (true, "ad1feece0319ee25716be72f6c3f172322b3e657bae7bd079dc72078729f5c2e"), looks := false }, kinds := [], alts := [], goes := true, laidByText := true, laidKinds := [.data, .data], laidTests := true, laidLooks := .later }
def LensDominatorsCardSaid : Prop := Claim7.holds Tryd.pinned (.plain (OpenSpec.ofChange lensDominatorsSpec)) lensDominatorsCard

/-- THE TIED CARD OF 'middenlaw17.LensRetained'. -/
def lensRetainedCard : Claim7 := { stood := { row := lensRetainedRow, standIns := [], harness := (true, "ad1feece0319ee25716be72f6c3f172322b3e657bae7bd079dc72078729f5c2e"), looks := false }, kinds := [], alts := [], goes := true, laidByText := true, laidKinds := [.data, .data], laidTests := true, laidLooks := .later }
def LensRetainedCardSaid : Prop := Claim7.holds Tryd.pinned (.plain (OpenSpec.ofChange lensRetainedSpec)) lensRetainedCard

/-- THE TIED CARD OF 'middenlaw17.LensCut'. -/
def lensCutCard : Claim7 := { stood := { row := lensCutRow, standIns := [], harness := (true, "ad1feece0319ee25716be72f6c3f172322b3e657bae7bd079dc72078729f5c2e"), looks := false }, kinds := [], alts := [], goes := true, laidByText := true, laidKinds := [.data, .data], laidTests := true, laidLooks := .later }
def LensCutCardSaid : Prop := Claim7.holds Tryd.pinned (.plain (OpenSpec.ofChange lensCutSpec)) lensCutCard

/-- THE TIED CARD OF 'middenlaw17.LensTree'. -/
def lensTreeCard : Claim7 := { stood := { row := lensTreeRow, standIns := [], harness := (true, "ad1feece0319ee25716be72f6c3f172322b3e657bae7bd079dc72078729f5c2e"), looks := false }, kinds := [], alts := [], goes := true, laidByText := true, laidKinds := [.data, .data], laidTests := true, laidLooks := .later }
def LensTreeCardSaid : Prop := Claim7.holds Tryd.pinned (.plain (OpenSpec.ofChange lensTreeSpec)) lensTreeCard

/-- THE TIED CARD OF 'middenlaw17.LensWay'. -/
def lensWayCard : Claim7 := { stood := { row := lensWayRow, standIns := [], harness := (true, "ad1feece0319ee25716be72f6c3f172322b3e657bae7bd079dc72078729f5c2e"), looks := false }, kinds := [], alts := [], goes := true, laidByText := true, laidKinds := [.data, .data], laidTests := true, laidLooks := .later }
def LensWayCardSaid : Prop := Claim7.holds Tryd.pinned (.plain (OpenSpec.ofChange lensWaySpec)) lensWayCard

/-- THE TIED CARD OF 'middenlaw17.LensWorkers'. -/
def lensWorkersCard : Claim7 := { stood := { row := lensWorkersRow, standIns := [], harness := (true, "ad1feece0319ee25716be72f6c3f172322b3e657bae7bd079dc72078729f5c2e"), looks := false }, kinds := [], alts := [], goes := true, laidByText := true, laidKinds := [.data, .data], laidTests := true, laidLooks := .later }
def LensWorkersCardSaid : Prop := Claim7.holds Tryd.pinned (.plain (OpenSpec.ofChange lensWorkersSpec)) lensWorkersCard

/-- THE SECOND FORM's CARD OF 'middenlaw17.LensPaths'. -/
def lensPathsUptoCard : Claim7 := { stood := { row := lensPathsUptoRow, standIns := [], harness := (true, "ad1feece0319ee25716be72f6c3f172322b3e657bae7bd079dc72078729f5c2e"), looks := false }, kinds := [], alts := [], goes := true, laidByText := true, laidKinds := [.data, .data], laidTests := true, laidLooks := .later }
def LensPathsUptoCardSaid : Prop := Claim7.holds Tryd.pinned (.plain (OpenSpec.upto lensPathsSpec)) lensPathsUptoCard

/-- THE SECOND FORM's CARD OF 'middenlaw17.LensDominators'. -/
def lensDominatorsUptoCard : Claim7 := { stood := { row := lensDominatorsUptoRow, standIns := [], harness := (true, "ad1feece0319ee25716be72f6c3f172322b3e657bae7bd079dc72078729f5c2e"), looks := false }, kinds := [], alts := [], goes := true, laidByText := true, laidKinds := [.data, .data], laidTests := true, laidLooks := .later }
def LensDominatorsUptoCardSaid : Prop := Claim7.holds Tryd.pinned (.plain (OpenSpec.upto lensDominatorsSpec)) lensDominatorsUptoCard

/-- THE SECOND FORM's CARD OF 'middenlaw17.LensRetained'. -/
def lensRetainedUptoCard : Claim7 := { stood := { row := lensRetainedUptoRow, standIns := [], harness := (true, "ad1feece0319ee25716be72f6c3f172322b3e657bae7bd079dc72078729f5c2e"), looks := false }, kinds := [], alts := [], goes := true, laidByText := true, laidKinds := [.data, .data], laidTests := true, laidLooks := .later }
def LensRetainedUptoCardSaid : Prop := Claim7.holds Tryd.pinned (.plain (OpenSpec.upto lensRetainedSpec)) lensRetainedUptoCard

/-- THE SECOND FORM's CARD OF 'middenlaw17.LensCut'. -/
def lensCutUptoCard : Claim7 := { stood := { row := lensCutUptoRow, standIns := [], harness := (true, "ad1feece0319ee25716be72f6c3f172322b3e657bae7bd079dc72078729f5c2e"), looks := false }, kinds := [], alts := [], goes := true, laidByText := true, laidKinds := [.data, .data], laidTests := true, laidLooks := .later }
def LensCutUptoCardSaid : Prop := Claim7.holds Tryd.pinned (.plain (OpenSpec.upto lensCutSpec)) lensCutUptoCard

/-- THE SECOND FORM's CARD OF 'middenlaw17.LensTree'. -/
def lensTreeUptoCard : Claim7 := { stood := { row := lensTreeUptoRow, standIns := [], harness := (true, "ad1feece0319ee25716be72f6c3f172322b3e657bae7bd079dc72078729f5c2e"), looks := false }, kinds := [], alts := [], goes := true, laidByText := true, laidKinds := [.data, .data], laidTests := true, laidLooks := .later }
def LensTreeUptoCardSaid : Prop := Claim7.holds Tryd.pinned (.plain (OpenSpec.upto lensTreeSpec)) lensTreeUptoCard

/-- THE SECOND FORM's CARD OF 'middenlaw17.LensWay'. -/
def lensWayUptoCard : Claim7 := { stood := { row := lensWayUptoRow, standIns := [], harness := (true, "ad1feece0319ee25716be72f6c3f172322b3e657bae7bd079dc72078729f5c2e"), looks := false }, kinds := [], alts := [], goes := true, laidByText := true, laidKinds := [.data, .data], laidTests := true, laidLooks := .later }
def LensWayUptoCardSaid : Prop := Claim7.holds Tryd.pinned (.plain (OpenSpec.upto lensWaySpec)) lensWayUptoCard
end Rows
end Go.Proofs.YtogpgkoelplknaaDoor
