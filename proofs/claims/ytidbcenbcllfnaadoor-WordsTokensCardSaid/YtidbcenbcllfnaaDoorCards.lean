/-
  DERIVED. GIVEN WITH THE SEED: THE CARDS: each row of YtidbcenbcllfnaaDoorRows.lean that lists a variable, with what it lists TIED to the program's text (the seventh form; the later family's looks); each row that meets fmt, with fmt's text TOLD by the authors' own Lean function (tested against real Go, not proved from fmt's source: count such statements apart). THE CARD IS WHAT COUNTS. Prove the row's statement (the work); the ties are given (YtidbcenbcllfnaaDoorTie.lean); close each card by the builder's one call (the guide's Derived/Test/ToyasCard.lean, 'card_holds'). Laid BY PROGRAM, IN A SANDBOX (cutbox-door.mjs). By AI agents, Wed Nov 11 2026. No macro, syntax, notation, axiom, sorry.
-/
import Derived.Test.YtidbcenbcllfnaaDoorRows
import GoSem.ClaimSeven
namespace Go.Proofs.YtidbcenbcllfnaaDoor
namespace Rows

/-- THE TIED CARD OF 'levylaw4.WordsScans'. -/
def wordsScansCard : Claim7 := { stood := { row := wordsScansRow, standIns := [], harness := (true, "08ee63e5d81152e5640ccc4ae7cc885f5254b1795f32130fe6b8543d91442981"), looks := false }, kinds := [], alts := [], laidByText := true, laidKinds := [.data, .data, .data, .data, .pinned], laidTests := true, laidLooks := .later }
def WordsScansCardSaid : Prop := Claim7.holds Tryd.pinned (.plain (OpenSpec.ofChange wordsScansSpec)) wordsScansCard

/-- THE TIED CARD OF 'levylaw4.WordsPlaces'. -/
def wordsPlacesCard : Claim7 := { stood := { row := wordsPlacesRow, standIns := [], harness := (true, "08ee63e5d81152e5640ccc4ae7cc885f5254b1795f32130fe6b8543d91442981"), looks := false }, kinds := [], alts := [], laidByText := true, laidKinds := [.data, .data, .data, .pinned], laidTests := true, laidLooks := .later }
def WordsPlacesCardSaid : Prop := Claim7.holds Tryd.pinned (.plain (OpenSpec.ofChange wordsPlacesSpec)) wordsPlacesCard

/-- THE TIED CARD OF 'levylaw4.WordsJoins'. -/
def wordsJoinsCard : Claim7 := { stood := { row := wordsJoinsRow, standIns := [], harness := (true, "08ee63e5d81152e5640ccc4ae7cc885f5254b1795f32130fe6b8543d91442981"), looks := false }, kinds := [], alts := [], laidByText := true, laidKinds := [.data, .data, .data, .pinned], laidTests := true, laidLooks := .later }
def WordsJoinsCardSaid : Prop := Claim7.holds Tryd.pinned (.plain (OpenSpec.ofChange wordsJoinsSpec)) wordsJoinsCard

/-- THE TIED CARD OF 'levylaw4.WordsTokens'. -/
def wordsTokensCard : Claim7 := { stood := { row := wordsTokensRow, standIns := [], harness := (true, "08ee63e5d81152e5640ccc4ae7cc885f5254b1795f32130fe6b8543d91442981"), looks := false }, kinds := [], alts := [], laidByText := true, laidKinds := [.data, .data, .data, .data, .pinned], laidTests := true, laidLooks := .later }
def WordsTokensCardSaid : Prop := Claim7.holds Tryd.pinned (.plain (OpenSpec.ofChange wordsTokensSpec)) wordsTokensCard

/-- THE TIED CARD OF 'levylaw4.WordsTexts'. -/
def wordsTextsCard : Claim7 := { stood := { row := wordsTextsRow, standIns := [], harness := (true, "08ee63e5d81152e5640ccc4ae7cc885f5254b1795f32130fe6b8543d91442981"), looks := false }, kinds := [], alts := [], laidByText := true, laidKinds := [.data, .data, .data, .data, .pinned], laidTests := true, laidLooks := .later }
def WordsTextsCardSaid : Prop := Claim7.holds Tryd.pinned (.plain (OpenSpec.ofChange wordsTextsSpec)) wordsTextsCard

/-- THE TIED CARD OF 'levylaw4.WordsNumbers'. -/
def wordsNumbersCard : Claim7 := { stood := { row := wordsNumbersRow, standIns := [], harness := (true, "08ee63e5d81152e5640ccc4ae7cc885f5254b1795f32130fe6b8543d91442981"), looks := false }, kinds := [], alts := [], laidByText := true, laidKinds := [.data, .data, .data, .data, .data, .data, .pinned], laidTests := true, laidLooks := .later }
def WordsNumbersCardSaid : Prop := Claim7.holds Tryd.pinned (.plain (OpenSpec.ofChange wordsNumbersSpec)) wordsNumbersCard

/-- THE TIED CARD OF 'levylaw4.WordsRound'. -/
def wordsRoundCard : Claim7 := { stood := { row := wordsRoundRow, standIns := [], harness := (true, "08ee63e5d81152e5640ccc4ae7cc885f5254b1795f32130fe6b8543d91442981"), looks := false }, kinds := [], alts := [], laidByText := true, laidKinds := [.data, .data, .data, .data, .data, .data, .pinned], laidTests := true, laidLooks := .later }
def WordsRoundCardSaid : Prop := Claim7.holds Tryd.pinned (.plain (OpenSpec.ofChange wordsRoundSpec)) wordsRoundCard

/-- THE TIED CARD OF 'levylaw4.WordsBack'. -/
def wordsBackCard : Claim7 := { stood := { row := wordsBackRow, standIns := [], harness := (true, "08ee63e5d81152e5640ccc4ae7cc885f5254b1795f32130fe6b8543d91442981"), looks := false }, kinds := [], alts := [], laidByText := true, laidKinds := [.data, .data, .data, .data, .data, .data, .pinned], laidTests := true, laidLooks := .later }
def WordsBackCardSaid : Prop := Claim7.holds Tryd.pinned (.plain (OpenSpec.ofChange wordsBackSpec)) wordsBackCard

/-- THE SECOND FORM's CARD OF 'levylaw4.WordsScans'. -/
def wordsScansUptoCard : Claim7 := { stood := { row := wordsScansUptoRow, standIns := [], harness := (true, "08ee63e5d81152e5640ccc4ae7cc885f5254b1795f32130fe6b8543d91442981"), looks := false }, kinds := [], alts := [], laidByText := true, laidKinds := [.data, .data, .data, .data, .pinned], laidTests := true, laidLooks := .later }
def WordsScansUptoCardSaid : Prop := Claim7.holds Tryd.pinned (.plain (OpenSpec.upto wordsScansSpec)) wordsScansUptoCard

/-- THE SECOND FORM's CARD OF 'levylaw4.WordsPlaces'. -/
def wordsPlacesUptoCard : Claim7 := { stood := { row := wordsPlacesUptoRow, standIns := [], harness := (true, "08ee63e5d81152e5640ccc4ae7cc885f5254b1795f32130fe6b8543d91442981"), looks := false }, kinds := [], alts := [], laidByText := true, laidKinds := [.data, .data, .data, .pinned], laidTests := true, laidLooks := .later }
def WordsPlacesUptoCardSaid : Prop := Claim7.holds Tryd.pinned (.plain (OpenSpec.upto wordsPlacesSpec)) wordsPlacesUptoCard

/-- THE SECOND FORM's CARD OF 'levylaw4.WordsJoins'. -/
def wordsJoinsUptoCard : Claim7 := { stood := { row := wordsJoinsUptoRow, standIns := [], harness := (true, "08ee63e5d81152e5640ccc4ae7cc885f5254b1795f32130fe6b8543d91442981"), looks := false }, kinds := [], alts := [], laidByText := true, laidKinds := [.data, .data, .data, .pinned], laidTests := true, laidLooks := .later }
def WordsJoinsUptoCardSaid : Prop := Claim7.holds Tryd.pinned (.plain (OpenSpec.upto wordsJoinsSpec)) wordsJoinsUptoCard

/-- THE SECOND FORM's CARD OF 'levylaw4.WordsTokens'. -/
def wordsTokensUptoCard : Claim7 := { stood := { row := wordsTokensUptoRow, standIns := [], harness := (true, "08ee63e5d81152e5640ccc4ae7cc885f5254b1795f32130fe6b8543d91442981"), looks := false }, kinds := [], alts := [], laidByText := true, laidKinds := [.data, .data, .data, .data, .pinned], laidTests := true, laidLooks := .later }
def WordsTokensUptoCardSaid : Prop := Claim7.holds Tryd.pinned (.plain (OpenSpec.upto wordsTokensSpec)) wordsTokensUptoCard

/-- THE SECOND FORM's CARD OF 'levylaw4.WordsTexts'. -/
def wordsTextsUptoCard : Claim7 := { stood := { row := wordsTextsUptoRow, standIns := [], harness := (true, "08ee63e5d81152e5640ccc4ae7cc885f5254b1795f32130fe6b8543d91442981"), looks := false }, kinds := [], alts := [], laidByText := true, laidKinds := [.data, .data, .data, .data, .pinned], laidTests := true, laidLooks := .later }
def WordsTextsUptoCardSaid : Prop := Claim7.holds Tryd.pinned (.plain (OpenSpec.upto wordsTextsSpec)) wordsTextsUptoCard

/-- THE SECOND FORM's CARD OF 'levylaw4.WordsNumbers'. -/
def wordsNumbersUptoCard : Claim7 := { stood := { row := wordsNumbersUptoRow, standIns := [], harness := (true, "08ee63e5d81152e5640ccc4ae7cc885f5254b1795f32130fe6b8543d91442981"), looks := false }, kinds := [], alts := [], laidByText := true, laidKinds := [.data, .data, .data, .data, .data, .data, .pinned], laidTests := true, laidLooks := .later }
def WordsNumbersUptoCardSaid : Prop := Claim7.holds Tryd.pinned (.plain (OpenSpec.upto wordsNumbersSpec)) wordsNumbersUptoCard

/-- THE SECOND FORM's CARD OF 'levylaw4.WordsRound'. -/
def wordsRoundUptoCard : Claim7 := { stood := { row := wordsRoundUptoRow, standIns := [], harness := (true, "08ee63e5d81152e5640ccc4ae7cc885f5254b1795f32130fe6b8543d91442981"), looks := false }, kinds := [], alts := [], laidByText := true, laidKinds := [.data, .data, .data, .data, .data, .data, .pinned], laidTests := true, laidLooks := .later }
def WordsRoundUptoCardSaid : Prop := Claim7.holds Tryd.pinned (.plain (OpenSpec.upto wordsRoundSpec)) wordsRoundUptoCard

/-- THE SECOND FORM's CARD OF 'levylaw4.WordsBack'. -/
def wordsBackUptoCard : Claim7 := { stood := { row := wordsBackUptoRow, standIns := [], harness := (true, "08ee63e5d81152e5640ccc4ae7cc885f5254b1795f32130fe6b8543d91442981"), looks := false }, kinds := [], alts := [], laidByText := true, laidKinds := [.data, .data, .data, .data, .data, .data, .pinned], laidTests := true, laidLooks := .later }
def WordsBackUptoCardSaid : Prop := Claim7.holds Tryd.pinned (.plain (OpenSpec.upto wordsBackSpec)) wordsBackUptoCard
end Rows
end Go.Proofs.YtidbcenbcllfnaaDoor
