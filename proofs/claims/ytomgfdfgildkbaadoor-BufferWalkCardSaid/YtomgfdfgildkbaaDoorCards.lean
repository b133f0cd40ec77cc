/-
  DERIVED. GIVEN WITH THE SEED: THE CARDS: each row of YtomgfdfgildkbaaDoorRows.lean that lists a variable, with what it lists TIED to the program's text (the seventh form; the later family's looks); each row that meets fmt, with fmt's text TOLD by the authors' own Lean function (tested against real Go, not proved from fmt's source: count such statements apart). THE CARD IS WHAT COUNTS. Prove the row's statement (the work); the ties are given (YtomgfdfgildkbaaDoorTie.lean); close each card by the builder's one call (the guide's Derived/Test/ToyasCard.lean, 'card_holds'). Laid BY PROGRAM, IN A SANDBOX (cutbox-door.mjs). By AI agents, Wed Nov 11 2026. No macro, syntax, notation, axiom, sorry.
-/
import Derived.Test.YtomgfdfgildkbaaDoorRows
import GoSem.ClaimSeven
namespace Go.Proofs.YtomgfdfgildkbaaDoor
namespace Rows

/-- THE TIED CARD OF 'middenlaw2.CellHeads'. -/
def cellHeadsCard : Claim7 := { stood := { row := cellHeadsRow, standIns := [], harness := (true, "82bac78edfef1c3035e80d5f520ea9dab8d6518ce8df630b27ac258c72569eb6"), looks := false }, kinds := [], alts := [], laidByText := true, laidKinds := [.data, .data], laidTests := true, laidLooks := .later }
def CellHeadsCardSaid : Prop := Claim7.holds Tryd.pinned (.plain (OpenSpec.ofChange cellHeadsSpec)) cellHeadsCard

/-- THE TIED CARD OF 'middenlaw2.CellTurns'. -/
def cellTurnsCard : Claim7 := { stood := { row := cellTurnsRow, standIns := [], harness := (true, "82bac78edfef1c3035e80d5f520ea9dab8d6518ce8df630b27ac258c72569eb6"), looks := false }, kinds := [], alts := [], laidByText := true, laidKinds := [.data, .data], laidTests := true, laidLooks := .later }
def CellTurnsCardSaid : Prop := Claim7.holds Tryd.pinned (.plain (OpenSpec.ofChange cellTurnsSpec)) cellTurnsCard

/-- THE TIED CARD OF 'middenlaw2.CellForms'. -/
def cellFormsCard : Claim7 := { stood := { row := cellFormsRow, standIns := [], harness := (true, "82bac78edfef1c3035e80d5f520ea9dab8d6518ce8df630b27ac258c72569eb6"), looks := false }, kinds := [], alts := [], laidByText := true, laidKinds := [.data, .data], laidTests := true, laidLooks := .later }
def CellFormsCardSaid : Prop := Claim7.holds Tryd.pinned (.plain (OpenSpec.ofChange cellFormsSpec)) cellFormsCard

/-- THE TIED CARD OF 'middenlaw2.CellBack'. -/
def cellBackCard : Claim7 := { stood := { row := cellBackRow, standIns := [], harness := (true, "82bac78edfef1c3035e80d5f520ea9dab8d6518ce8df630b27ac258c72569eb6"), looks := false }, kinds := [], alts := [], laidByText := true, laidKinds := [.data, .data], laidTests := true, laidLooks := .later }
def CellBackCardSaid : Prop := Claim7.holds Tryd.pinned (.plain (OpenSpec.ofChange cellBackSpec)) cellBackCard

/-- THE TIED CARD OF 'middenlaw13.BufferCount'. -/
def bufferCountCard : Claim7 := { stood := { row := bufferCountRow, standIns := [], harness := (true, "82bac78edfef1c3035e80d5f520ea9dab8d6518ce8df630b27ac258c72569eb6"), looks := false }, kinds := [], alts := [], laidByText := true, laidKinds := [.data, .data], laidTests := true, laidLooks := .later }
def BufferCountCardSaid : Prop := Claim7.holds Tryd.pinned (.plain (OpenSpec.ofChange bufferCountSpec)) bufferCountCard

/-- THE TIED CARD OF 'middenlaw3.ArenaSpaces'. -/
def arenaSpacesCard : Claim7 := { stood := { row := arenaSpacesRow, standIns := [], harness := (true, "82bac78edfef1c3035e80d5f520ea9dab8d6518ce8df630b27ac258c72569eb6"), looks := false }, kinds := [], alts := [], laidByText := true, laidKinds := [.data, .data], laidTests := true, laidLooks := .later }
def ArenaSpacesCardSaid : Prop := Claim7.holds Tryd.pinned (.plain (OpenSpec.ofChange arenaSpacesSpec)) arenaSpacesCard

/-- THE TIED CARD OF 'middenlaw3.ArenaHolds'. -/
def arenaHoldsCard : Claim7 := { stood := { row := arenaHoldsRow, standIns := [], harness := (true, "82bac78edfef1c3035e80d5f520ea9dab8d6518ce8df630b27ac258c72569eb6"), looks := false }, kinds := [], alts := [], laidByText := true, laidKinds := [.data, .data], laidTests := true, laidLooks := .later }
def ArenaHoldsCardSaid : Prop := Claim7.holds Tryd.pinned (.plain (OpenSpec.ofChange arenaHoldsSpec)) arenaHoldsCard

/-- THE TIED CARD OF 'middenlaw3.ArenaPlays'. -/
def arenaPlaysCard : Claim7 := { stood := { row := arenaPlaysRow, standIns := [], harness := (true, "82bac78edfef1c3035e80d5f520ea9dab8d6518ce8df630b27ac258c72569eb6"), looks := false }, kinds := [], alts := [], laidByText := true, laidKinds := [.data, .data], laidTests := true, laidLooks := .later }
def ArenaPlaysCardSaid : Prop := Claim7.holds Tryd.pinned (.plain (OpenSpec.ofChange arenaPlaysSpec)) arenaPlaysCard

/-- THE TIED CARD OF 'middenlaw3.ArenaConfigs'. -/
def arenaConfigsCard : Claim7 := { stood := { row := arenaConfigsRow, standIns := [], harness := (true, "82bac78edfef1c3035e80d5f520ea9dab8d6518ce8df630b27ac258c72569eb6"), looks := false }, kinds := [], alts := [], laidByText := true, laidKinds := [.data, .data], laidTests := true, laidLooks := .later }
def ArenaConfigsCardSaid : Prop := Claim7.holds Tryd.pinned (.plain (OpenSpec.ofChange arenaConfigsSpec)) arenaConfigsCard

/-- THE TIED CARD OF 'middenlaw13.BufferWalk'. -/
def bufferWalkCard : Claim7 := { stood := { row := bufferWalkRow, standIns := [], harness := (true, "82bac78edfef1c3035e80d5f520ea9dab8d6518ce8df630b27ac258c72569eb6"), looks := false }, kinds := [], alts := [], laidByText := true, laidKinds := [.data, .data], laidTests := true, laidLooks := .later }
def BufferWalkCardSaid : Prop := Claim7.holds Tryd.pinned (.plain (OpenSpec.ofChange bufferWalkSpec)) bufferWalkCard

/-- THE TIED CARD OF 'middenlaw13.BufferAll'. -/
def bufferAllCard : Claim7 := { stood := { row := bufferAllRow, standIns := [], harness := (true, "82bac78edfef1c3035e80d5f520ea9dab8d6518ce8df630b27ac258c72569eb6"), looks := false }, kinds := [], alts := [], laidByText := true, laidKinds := [.data, .data], laidTests := true, laidLooks := .later }
def BufferAllCardSaid : Prop := Claim7.holds Tryd.pinned (.plain (OpenSpec.ofChange bufferAllSpec)) bufferAllCard

/-- THE SECOND FORM's CARD OF 'middenlaw2.CellHeads'. -/
def cellHeadsUptoCard : Claim7 := { stood := { row := cellHeadsUptoRow, standIns := [], harness := (true, "82bac78edfef1c3035e80d5f520ea9dab8d6518ce8df630b27ac258c72569eb6"), looks := false }, kinds := [], alts := [], laidByText := true, laidKinds := [.data, .data], laidTests := true, laidLooks := .later }
def CellHeadsUptoCardSaid : Prop := Claim7.holds Tryd.pinned (.plain (OpenSpec.upto cellHeadsSpec)) cellHeadsUptoCard

/-- THE SECOND FORM's CARD OF 'middenlaw2.CellTurns'. -/
def cellTurnsUptoCard : Claim7 := { stood := { row := cellTurnsUptoRow, standIns := [], harness := (true, "82bac78edfef1c3035e80d5f520ea9dab8d6518ce8df630b27ac258c72569eb6"), looks := false }, kinds := [], alts := [], laidByText := true, laidKinds := [.data, .data], laidTests := true, laidLooks := .later }
def CellTurnsUptoCardSaid : Prop := Claim7.holds Tryd.pinned (.plain (OpenSpec.upto cellTurnsSpec)) cellTurnsUptoCard

/-- THE SECOND FORM's CARD OF 'middenlaw2.CellForms'. -/
def cellFormsUptoCard : Claim7 := { stood := { row := cellFormsUptoRow, standIns := [], harness := (true, "82bac78edfef1c3035e80d5f520ea9dab8d6518ce8df630b27ac258c72569eb6"), looks := false }, kinds := [], alts := [], laidByText := true, laidKinds := [.data, .data], laidTests := true, laidLooks := .later }
def CellFormsUptoCardSaid : Prop := Claim7.holds Tryd.pinned (.plain (OpenSpec.upto cellFormsSpec)) cellFormsUptoCard

/-- THE SECOND FORM's CARD OF 'middenlaw2.CellBack'. -/
def cellBackUptoCard : Claim7 := { stood := { row := cellBackUptoRow, standIns := [], harness := (true, "82bac78edfef1c3035e80d5f520ea9dab8d6518ce8df630b27ac258c72569eb6"), looks := false }, kinds := [], alts := [], laidByText := true, laidKinds := [.data, .data], laidTests := true, laidLooks := .later }
def CellBackUptoCardSaid : Prop := Claim7.holds Tryd.pinned (.plain (OpenSpec.upto cellBackSpec)) cellBackUptoCard

/-- THE SECOND FORM's CARD OF 'middenlaw13.BufferCount'. -/
def bufferCountUptoCard : Claim7 := { stood := { row := bufferCountUptoRow, standIns := [], harness := (true, "82bac78edfef1c3035e80d5f520ea9dab8d6518ce8df630b27ac258c72569eb6"), looks := false }, kinds := [], alts := [], laidByText := true, laidKinds := [.data, .data], laidTests := true, laidLooks := .later }
def BufferCountUptoCardSaid : Prop := Claim7.holds Tryd.pinned (.plain (OpenSpec.upto bufferCountSpec)) bufferCountUptoCard

/-- THE SECOND FORM's CARD OF 'middenlaw3.ArenaSpaces'. -/
def arenaSpacesUptoCard : Claim7 := { stood := { row := arenaSpacesUptoRow, standIns := [], harness := (true, "82bac78edfef1c3035e80d5f520ea9dab8d6518ce8df630b27ac258c72569eb6"), looks := false }, kinds := [], alts := [], laidByText := true, laidKinds := [.data, .data], laidTests := true, laidLooks := .later }
def ArenaSpacesUptoCardSaid : Prop := Claim7.holds Tryd.pinned (.plain (OpenSpec.upto arenaSpacesSpec)) arenaSpacesUptoCard

/-- THE SECOND FORM's CARD OF 'middenlaw3.ArenaHolds'. -/
def arenaHoldsUptoCard : Claim7 := { stood := { row := arenaHoldsUptoRow, standIns := [], harness := (true, "82bac78edfef1c3035e80d5f520ea9dab8d6518ce8df630b27ac258c72569eb6"), looks := false }, kinds := [], alts := [], laidByText := true, laidKinds := [.data, .data], laidTests := true, laidLooks := .later }
def ArenaHoldsUptoCardSaid : Prop := Claim7.holds Tryd.pinned (.plain (OpenSpec.upto arenaHoldsSpec)) arenaHoldsUptoCard

/-- THE SECOND FORM's CARD OF 'middenlaw3.ArenaPlays'. -/
def arenaPlaysUptoCard : Claim7 := { stood := { row := arenaPlaysUptoRow, standIns := [], harness := (true, "82bac78edfef1c3035e80d5f520ea9dab8d6518ce8df630b27ac258c72569eb6"), looks := false }, kinds := [], alts := [], laidByText := true, laidKinds := [.data, .data], laidTests := true, laidLooks := .later }
def ArenaPlaysUptoCardSaid : Prop := Claim7.holds Tryd.pinned (.plain (OpenSpec.upto arenaPlaysSpec)) arenaPlaysUptoCard

/-- THE SECOND FORM's CARD OF 'middenlaw3.ArenaConfigs'. -/
def arenaConfigsUptoCard : Claim7 := { stood := { row := arenaConfigsUptoRow, standIns := [], harness := (true, "82bac78edfef1c3035e80d5f520ea9dab8d6518ce8df630b27ac258c72569eb6"), looks := false }, kinds := [], alts := [], laidByText := true, laidKinds := [.data, .data], laidTests := true, laidLooks := .later }
def ArenaConfigsUptoCardSaid : Prop := Claim7.holds Tryd.pinned (.plain (OpenSpec.upto arenaConfigsSpec)) arenaConfigsUptoCard

/-- THE SECOND FORM's CARD OF 'middenlaw13.BufferWalk'. -/
def bufferWalkUptoCard : Claim7 := { stood := { row := bufferWalkUptoRow, standIns := [], harness := (true, "82bac78edfef1c3035e80d5f520ea9dab8d6518ce8df630b27ac258c72569eb6"), looks := false }, kinds := [], alts := [], laidByText := true, laidKinds := [.data, .data], laidTests := true, laidLooks := .later }
def BufferWalkUptoCardSaid : Prop := Claim7.holds Tryd.pinned (.plain (OpenSpec.upto bufferWalkSpec)) bufferWalkUptoCard

/-- THE SECOND FORM's CARD OF 'middenlaw13.BufferAll'. -/
def bufferAllUptoCard : Claim7 := { stood := { row := bufferAllUptoRow, standIns := [], harness := (true, "82bac78edfef1c3035e80d5f520ea9dab8d6518ce8df630b27ac258c72569eb6"), looks := false }, kinds := [], alts := [], laidByText := true, laidKinds := [.data, .data], laidTests := true, laidLooks := .later }
def BufferAllUptoCardSaid : Prop := Claim7.holds Tryd.pinned (.plain (OpenSpec.upto bufferAllSpec)) bufferAllUptoCard
end Rows
end Go.Proofs.YtomgfdfgildkbaaDoor
