/-
  DERIVED. GIVEN WITH THE SEED: THE CARDS: each row of YtgcgpeeokdnplaaDoorRows.lean that lists a variable, with what it lists TIED to the program's text (the seventh form; the later family's looks); each row that meets fmt, with fmt's text TOLD by the authors' own Lean function (tested against real Go, not proved from fmt's source: count such statements apart). THE CARD IS WHAT COUNTS. Prove the row's statement (the work); the ties are given (YtgcgpeeokdnplaaDoorTie.lean); close each card by the builder's one call (the guide's Derived/Test/ToyasCard.lean, 'card_holds'). Laid BY PROGRAM, IN A SANDBOX (cutbox-door.mjs). By AI agents, Wed Nov 11 2026. No macro, syntax, notation, axiom, sorry.
-/
import Derived.Test.YtgcgpeeokdnplaaDoorRows
import GoSem.ClaimSeven
namespace Go.Proofs.YtgcgpeeokdnplaaDoor
namespace Rows

/-- THE TIED CARD OF 'levylaw4.WordsNumbers'. -/
def wordsNumbersCard : Claim7 := { stood := { row := wordsNumbersRow, standIns := [], harness := (true, "5a736f5478587cab8f1fecbbe728b24a3cbfeba66a4254aea546f7ae327800a0"), looks := false }, kinds := [], alts := [], laidByText := true, laidKinds := [.data, .data, .data, .data, .data, .data, .pinned], laidTests := true, laidLooks := .later }
def WordsNumbersCardSaid : Prop := Claim7.holds Tryd.pinned (.plain (OpenSpec.ofChange wordsNumbersSpec)) wordsNumbersCard

/-- THE TIED CARD OF 'levylaw4.WordsRound'. -/
def wordsRoundCard : Claim7 := { stood := { row := wordsRoundRow, standIns := [], harness := (true, "5a736f5478587cab8f1fecbbe728b24a3cbfeba66a4254aea546f7ae327800a0"), looks := false }, kinds := [], alts := [], laidByText := true, laidKinds := [.data, .data, .data, .data, .data, .data, .pinned], laidTests := true, laidLooks := .later }
def WordsRoundCardSaid : Prop := Claim7.holds Tryd.pinned (.plain (OpenSpec.ofChange wordsRoundSpec)) wordsRoundCard

/-- THE TIED CARD OF 'levylaw4.WordsBack'. -/
def wordsBackCard : Claim7 := { stood := { row := wordsBackRow, standIns := [], harness := (true, "5a736f5478587cab8f1fecbbe728b24a3cbfeba66a4254aea546f7ae327800a0"), looks := false }, kinds := [], alts := [], laidByText := true, laidKinds := [.data, .data, .data, .data, .data, .data, .pinned], laidTests := true, laidLooks := .later }
def WordsBackCardSaid : Prop := Claim7.holds Tryd.pinned (.plain (OpenSpec.ofChange wordsBackSpec)) wordsBackCard

/-- THE SECOND FORM's CARD OF 'levylaw4.WordsNumbers'. -/
def wordsNumbersUptoCard : Claim7 := { stood := { row := wordsNumbersUptoRow, standIns := [], harness := (true, "5a736f5478587cab8f1fecbbe728b24a3cbfeba66a4254aea546f7ae327800a0"), looks := false }, kinds := [], alts := [], laidByText := true, laidKinds := [.data, .data, .data, .data, .data, .data, .pinned], laidTests := true, laidLooks := .later }
def WordsNumbersUptoCardSaid : Prop := Claim7.holds Tryd.pinned (.plain (OpenSpec.upto wordsNumbersSpec)) wordsNumbersUptoCard

/-- THE SECOND FORM's CARD OF 'levylaw4.WordsRound'. -/
def wordsRoundUptoCard : Claim7 := { stood := { row := wordsRoundUptoRow, standIns := [], harness := (true, "5a736f5478587cab8f1fecbbe728b24a3cbfeba66a4254aea546f7ae327800a0"), looks := false }, kinds := [], alts := [], laidByText := true, laidKinds := [.data, .data, .data, .data, .data, .data, .pinned], laidTests := true, laidLooks := .later }
def WordsRoundUptoCardSaid : Prop := Claim7.holds Tryd.pinned (.plain (OpenSpec.upto wordsRoundSpec)) wordsRoundUptoCard

/-- THE SECOND FORM's CARD OF 'levylaw4.WordsBack'. -/
def wordsBackUptoCard : Claim7 := { stood := { row := wordsBackUptoRow, standIns := [], harness := (true, "5a736f5478587cab8f1fecbbe728b24a3cbfeba66a4254aea546f7ae327800a0"), looks := false }, kinds := [], alts := [], laidByText := true, laidKinds := [.data, .data, .data, .data, .data, .data, .pinned], laidTests := true, laidLooks := .later }
def WordsBackUptoCardSaid : Prop := Claim7.holds Tryd.pinned (.plain (OpenSpec.upto wordsBackSpec)) wordsBackUptoCard
end Rows
end Go.Proofs.YtgcgpeeokdnplaaDoor
