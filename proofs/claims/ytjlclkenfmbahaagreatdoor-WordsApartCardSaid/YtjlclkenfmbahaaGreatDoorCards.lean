/-
  DERIVED. GIVEN WITH THE SEED: THE CARDS: each row of YtjlclkenfmbahaaGreatDoorRows.lean that lists a variable, with what it lists TIED to the program's text (the seventh form; the later family's looks); each row that meets fmt, with fmt's text TOLD by the authors' own Lean function (tested against real Go, not proved from fmt's source: count such statements apart). THE CARD IS WHAT COUNTS. Prove the row's statement (the work); the ties are given (YtjlclkenfmbahaaGreatDoorTie.lean); close each card by the builder's one call (the guide's Derived/Test/ToyasCard.lean, 'card_holds'). Laid BY PROGRAM, IN A SANDBOX (cutbox-door.mjs). By AI agents, Wed Nov 11 2026. No macro, syntax, notation, axiom, sorry.
-/
import Derived.Test.YtjlclkenfmbahaaGreatDoorRows
import GoSem.ClaimSeven
namespace Go.Proofs.YtjlclkenfmbahaaGreatDoor
namespace Rows

/-- THE TIED CARD OF 'levylaw4.WordsPrints'. -/
def wordsPrintsCard : Claim7 := { stood := { row := wordsPrintsRow, standIns := [], harness := (true, "4671d2cfc8e0a0081730fc9ae553b0c3cb254d0ce961901745dd788aece1541b"), looks := false }, kinds := [], alts := [], laidByText := true, laidKinds := [.data, .data, .data, .data, .data, .data, .data, .pinned], laidTests := true, laidLooks := .later }
def WordsPrintsCardSaid : Prop := Claim7.holds Tryz.pinned (.plain (OpenSpec.ofChange wordsPrintsSpec)) wordsPrintsCard

/-- THE TIED CARD OF 'levylaw4.WordsApart'. -/
def wordsApartCard : Claim7 := { stood := { row := wordsApartRow, standIns := [], harness := (true, "4671d2cfc8e0a0081730fc9ae553b0c3cb254d0ce961901745dd788aece1541b"), looks := false }, kinds := [], alts := [], laidByText := true, laidKinds := [.data, .data, .data, .data, .data, .data, .data, .pinned], laidTests := true, laidLooks := .later }
def WordsApartCardSaid : Prop := Claim7.holds Tryz.pinned (.plain (OpenSpec.ofChange wordsApartSpec)) wordsApartCard

/-- THE SECOND FORM's CARD OF 'levylaw4.WordsPrints'. -/
def wordsPrintsUptoCard : Claim7 := { stood := { row := wordsPrintsUptoRow, standIns := [], harness := (true, "4671d2cfc8e0a0081730fc9ae553b0c3cb254d0ce961901745dd788aece1541b"), looks := false }, kinds := [], alts := [], laidByText := true, laidKinds := [.data, .data, .data, .data, .data, .data, .data, .pinned], laidTests := true, laidLooks := .later }
def WordsPrintsUptoCardSaid : Prop := Claim7.holds Tryz.pinned (.plain (OpenSpec.upto wordsPrintsSpec)) wordsPrintsUptoCard

/-- THE SECOND FORM's CARD OF 'levylaw4.WordsApart'. -/
def wordsApartUptoCard : Claim7 := { stood := { row := wordsApartUptoRow, standIns := [], harness := (true, "4671d2cfc8e0a0081730fc9ae553b0c3cb254d0ce961901745dd788aece1541b"), looks := false }, kinds := [], alts := [], laidByText := true, laidKinds := [.data, .data, .data, .data, .data, .data, .data, .pinned], laidTests := true, laidLooks := .later }
def WordsApartUptoCardSaid : Prop := Claim7.holds Tryz.pinned (.plain (OpenSpec.upto wordsApartSpec)) wordsApartUptoCard
end Rows
end Go.Proofs.YtjlclkenfmbahaaGreatDoor
