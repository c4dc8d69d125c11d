/-
  DERIVED. GIVEN WITH THE SEED: THE CARDS: each row of YtplmledhcffedaaDoorRows.lean that lists a variable, with what it lists TIED to the program's text (the seventh form; the later family's looks); each row that meets fmt, with fmt's text TOLD by the authors' own Lean function (tested against real Go, not proved from fmt's source: count such statements apart). THE CARD IS WHAT COUNTS. Prove the row's statement (the work); the ties are given (YtplmledhcffedaaDoorTie.lean); close each card by the builder's one call (the guide's Derived/Test/ToyasCard.lean, 'card_holds'). Laid BY PROGRAM, IN A SANDBOX (cutbox-door.mjs). By AI agents, Wed Nov 11 2026. No macro, syntax, notation, axiom, sorry.
-/
import Derived.Test.YtplmledhcffedaaDoorRows
import GoSem.ClaimSeven
namespace Go.Proofs.YtplmledhcffedaaDoor
namespace Rows

/-- THE TIED CARD OF 'levylaw4.WordsTexts'. -/
def wordsTextsCard : Claim7 := { stood := { row := wordsTextsRow, standIns := [], harness := (true, "9d3c2542ab0876d4a4d30902157d30b8c41b1ac1ffbc703eca1ecc54eb6a4a98"), looks := false }, kinds := [], alts := [], laidByText := true, laidKinds := [.data, .data, .data, .data, .pinned], laidTests := true, laidLooks := .later }
def WordsTextsCardSaid : Prop := Claim7.holds Tryd.pinned (.plain (OpenSpec.ofChange wordsTextsSpec)) wordsTextsCard

/-- THE SECOND FORM's CARD OF 'levylaw4.WordsTexts'. -/
def wordsTextsUptoCard : Claim7 := { stood := { row := wordsTextsUptoRow, standIns := [], harness := (true, "9d3c2542ab0876d4a4d30902157d30b8c41b1ac1ffbc703eca1ecc54eb6a4a98"), looks := false }, kinds := [], alts := [], laidByText := true, laidKinds := [.data, .data, .data, .data, .pinned], laidTests := true, laidLooks := .later }
def WordsTextsUptoCardSaid : Prop := Claim7.holds Tryd.pinned (.plain (OpenSpec.upto wordsTextsSpec)) wordsTextsUptoCard
end Rows
end Go.Proofs.YtplmledhcffedaaDoor
