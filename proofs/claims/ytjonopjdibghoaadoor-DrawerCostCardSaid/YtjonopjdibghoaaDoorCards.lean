/-
  DERIVED. GIVEN WITH THE SEED: THE CARDS: each row of YtjonopjdibghoaaDoorRows.lean that lists a variable, with what it lists TIED to the program's text (the seventh form; the later family's looks); each row that meets fmt, with fmt's text TOLD by the authors' own Lean function (tested against real Go, not proved from fmt's source: count such statements apart). THE CARD IS WHAT COUNTS. Prove the row's statement (the work); the ties are given (YtjonopjdibghoaaDoorTie.lean); close each card by the builder's one call (the guide's Derived/Test/ToyasCard.lean, 'card_holds'). Laid BY PROGRAM, IN A SANDBOX (cutbox-door.mjs). By AI agents, Wed Nov 11 2026. No macro, syntax, notation, axiom, sorry.
-/
import Derived.Test.YtjonopjdibghoaaDoorRows
import GoSem.ClaimSeven
namespace Go.Proofs.YtjonopjdibghoaaDoor
namespace Rows

/-- THE TIED CARD OF 'levylaw19.DrawerCost'. -/
def drawerCostCard : Claim7 := { stood := { row := drawerCostRow, standIns := [], harness := (true, "542583d0deaef0e6f938f56b0b54ebbba70983e3867325c9ae1f385e7b5e4aec"), looks := true }, kinds := [], alts := [], laidByText := true, laidKinds := [.data, .data, .data, .sentinel, .sentinel], laidTests := true, laidLooks := .later }
def DrawerCostCardSaid : Prop := Claim7.holds Tryd.pinned (.plain (OpenSpec.ofChange drawerCostSpec)) drawerCostCard

/-- THE SECOND FORM's CARD OF 'levylaw19.DrawerCost'. -/
def drawerCostUptoCard : Claim7 := { stood := { row := drawerCostUptoRow, standIns := [], harness := (true, "542583d0deaef0e6f938f56b0b54ebbba70983e3867325c9ae1f385e7b5e4aec"), looks := true }, kinds := [], alts := [], laidByText := true, laidKinds := [.data, .data, .data, .sentinel, .sentinel], laidTests := true, laidLooks := .later }
def DrawerCostUptoCardSaid : Prop := Claim7.holds Tryd.pinned (.plain (OpenSpec.upto drawerCostSpec)) drawerCostUptoCard
end Rows
end Go.Proofs.YtjonopjdibghoaaDoor
