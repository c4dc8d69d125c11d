/-
  DERIVED. GIVEN WITH THE SEED: THE CARDS: each row of YthneomomhoilkaaDoorRows.lean that lists a variable, with what it lists TIED to the program's text (the seventh form; the later family's looks); each row that meets fmt, with fmt's text TOLD by the authors' own Lean function (tested against real Go, not proved from fmt's source: count such statements apart). THE CARD IS WHAT COUNTS. Prove the row's statement (the work); the ties are given (YthneomomhoilkaaDoorTie.lean); close each card by the builder's one call (the guide's Derived/Test/ToyasCard.lean, 'card_holds'). Laid BY PROGRAM, IN A SANDBOX (cutbox-door.mjs). By AI agents, Wed Nov 11 2026. No macro, syntax, notation, axiom, sorry.
-/
import Derived.Test.YthneomomhoilkaaDoorRows
import GoSem.ClaimSeven
namespace Go.Proofs.YthneomomhoilkaaDoor
namespace Rows

/-- THE TIED CARD OF 'levylaw19.DrawerCut'. -/
def drawerCutCard : Claim7 := { stood := { row := drawerCutRow, standIns := [], harness := (true, "595c6837ed357a4d5f52e0011d311080caa2fb3ff0312fb5ada9e082bf444cef"), looks := true }, kinds := [], alts := [], laidByText := true, laidKinds := [.data, .data, .data, .sentinel, .sentinel], laidTests := true, laidLooks := .later }
def DrawerCutCardSaid : Prop := Claim7.holds Tryd.pinned (.plain (OpenSpec.ofChange drawerCutSpec)) drawerCutCard

/-- THE TIED CARD OF 'levylaw19.DrawerKept'. -/
def drawerKeptCard : Claim7 := { stood := { row := drawerKeptRow, standIns := [], harness := (true, "595c6837ed357a4d5f52e0011d311080caa2fb3ff0312fb5ada9e082bf444cef"), looks := true }, kinds := [], alts := [], laidByText := true, laidKinds := [.data, .data, .data, .sentinel, .sentinel], laidTests := true, laidLooks := .later }
def DrawerKeptCardSaid : Prop := Claim7.holds Tryd.pinned (.plain (OpenSpec.ofChange drawerKeptSpec)) drawerKeptCard

/-- THE SECOND FORM's CARD OF 'levylaw19.DrawerCut'. -/
def drawerCutUptoCard : Claim7 := { stood := { row := drawerCutUptoRow, standIns := [], harness := (true, "595c6837ed357a4d5f52e0011d311080caa2fb3ff0312fb5ada9e082bf444cef"), looks := true }, kinds := [], alts := [], laidByText := true, laidKinds := [.data, .data, .data, .sentinel, .sentinel], laidTests := true, laidLooks := .later }
def DrawerCutUptoCardSaid : Prop := Claim7.holds Tryd.pinned (.plain (OpenSpec.upto drawerCutSpec)) drawerCutUptoCard

/-- THE SECOND FORM's CARD OF 'levylaw19.DrawerKept'. -/
def drawerKeptUptoCard : Claim7 := { stood := { row := drawerKeptUptoRow, standIns := [], harness := (true, "595c6837ed357a4d5f52e0011d311080caa2fb3ff0312fb5ada9e082bf444cef"), looks := true }, kinds := [], alts := [], laidByText := true, laidKinds := [.data, .data, .data, .sentinel, .sentinel], laidTests := true, laidLooks := .later }
def DrawerKeptUptoCardSaid : Prop := Claim7.holds Tryd.pinned (.plain (OpenSpec.upto drawerKeptSpec)) drawerKeptUptoCard
end Rows
end Go.Proofs.YthneomomhoilkaaDoor
