/-
  DERIVED. GIVEN WITH THE SEED: THE CARDS: each row of YtlipkhhpjelicaaDoorRows.lean that lists a variable, with what it lists TIED to the program's text (the seventh form; the later family's looks); each row that meets fmt, with fmt's text TOLD by the authors' own Lean function (tested against real Go, not proved from fmt's source: count such statements apart). THE CARD IS WHAT COUNTS. Prove the row's statement (the work); the ties are given (YtlipkhhpjelicaaDoorTie.lean); close each card by the builder's one call (the guide's Derived/Test/ToyasCard.lean, 'card_holds'). Laid BY PROGRAM, IN A SANDBOX (cutbox-door.mjs). By AI agents, Wed Nov 11 2026. No macro, syntax, notation, axiom, sorry.
-/
import Derived.Test.YtlipkhhpjelicaaDoorRows
import GoSem.ClaimSeven
namespace Go.Proofs.YtlipkhhpjelicaaDoor
namespace Rows

/-- THE TIED CARD OF 'levylaw2.DaysMonths'. -/
def daysMonthsCard : Claim7 := { stood := { row := daysMonthsRow, standIns := [], harness := (true, "61dbacef66b084bce1ee2288940bfcb26f34f55692c7c2c7a4061f1c579a5a91"), looks := false }, kinds := [], alts := [], laidByText := true, laidKinds := [.data], laidTests := true, laidLooks := .later }
def DaysMonthsCardSaid : Prop := Claim7.holds Tryd.pinned (.plain (OpenSpec.ofChange daysMonthsSpec)) daysMonthsCard

/-- THE TIED CARD OF 'levylaw2.DaysDates'. -/
def daysDatesCard : Claim7 := { stood := { row := daysDatesRow, standIns := [], harness := (true, "61dbacef66b084bce1ee2288940bfcb26f34f55692c7c2c7a4061f1c579a5a91"), looks := false }, kinds := [], alts := [], laidByText := true, laidKinds := [.data], laidTests := true, laidLooks := .later }
def DaysDatesCardSaid : Prop := Claim7.holds Tryd.pinned (.plain (OpenSpec.ofChange daysDatesSpec)) daysDatesCard

/-- THE TIED CARD OF 'levylaw2.DaysTexts'. -/
def daysTextsCard : Claim7 := { stood := { row := daysTextsRow, standIns := [], harness := (true, "61dbacef66b084bce1ee2288940bfcb26f34f55692c7c2c7a4061f1c579a5a91"), looks := false }, kinds := [], alts := [], laidByText := true, laidKinds := [.data], laidTests := true, laidLooks := .later }
def DaysTextsCardSaid : Prop := Claim7.holds Tryd.pinned (.plain (OpenSpec.ofChange daysTextsSpec)) daysTextsCard

/-- THE TIED CARD OF 'levylaw2.DaysAdd'. -/
def daysAddCard : Claim7 := { stood := { row := daysAddRow, standIns := [], harness := (true, "61dbacef66b084bce1ee2288940bfcb26f34f55692c7c2c7a4061f1c579a5a91"), looks := false }, kinds := [], alts := [], laidByText := true, laidKinds := [.data], laidTests := true, laidLooks := .later }
def DaysAddCardSaid : Prop := Claim7.holds Tryd.pinned (.plain (OpenSpec.ofChange daysAddSpec)) daysAddCard

/-- THE TIED CARD OF 'levylaw2.DaysShares'. -/
def daysSharesCard : Claim7 := { stood := { row := daysSharesRow, standIns := [], harness := (true, "61dbacef66b084bce1ee2288940bfcb26f34f55692c7c2c7a4061f1c579a5a91"), looks := false }, kinds := [], alts := [], laidByText := true, laidKinds := [.data], laidTests := true, laidLooks := .later }
def DaysSharesCardSaid : Prop := Claim7.holds Tryd.pinned (.plain (OpenSpec.ofChange daysSharesSpec)) daysSharesCard

/-- THE TIED CARD OF 'levylaw2.DaysWalk'. -/
def daysWalkCard : Claim7 := { stood := { row := daysWalkRow, standIns := [], harness := (true, "61dbacef66b084bce1ee2288940bfcb26f34f55692c7c2c7a4061f1c579a5a91"), looks := false }, kinds := [], alts := [], laidByText := true, laidKinds := [.data], laidTests := true, laidLooks := .later }
def DaysWalkCardSaid : Prop := Claim7.holds Tryd.pinned (.plain (OpenSpec.ofChange daysWalkSpec)) daysWalkCard

/-- THE TIED CARD OF 'levylaw2.DaysWork'. -/
def daysWorkCard : Claim7 := { stood := { row := daysWorkRow, standIns := [], harness := (true, "61dbacef66b084bce1ee2288940bfcb26f34f55692c7c2c7a4061f1c579a5a91"), looks := false }, kinds := [], alts := [], laidByText := true, laidKinds := [.data], laidTests := true, laidLooks := .later }
def DaysWorkCardSaid : Prop := Claim7.holds Tryd.pinned (.plain (OpenSpec.ofChange daysWorkSpec)) daysWorkCard

/-- THE TIED CARD OF 'levylaw2.DaysBetween'. -/
def daysBetweenCard : Claim7 := { stood := { row := daysBetweenRow, standIns := [], harness := (true, "61dbacef66b084bce1ee2288940bfcb26f34f55692c7c2c7a4061f1c579a5a91"), looks := false }, kinds := [], alts := [], laidByText := true, laidKinds := [.data], laidTests := true, laidLooks := .later }
def DaysBetweenCardSaid : Prop := Claim7.holds Tryd.pinned (.plain (OpenSpec.ofChange daysBetweenSpec)) daysBetweenCard

/-- THE TIED CARD OF 'levylaw2.DaysSpans'. -/
def daysSpansCard : Claim7 := { stood := { row := daysSpansRow, standIns := [], harness := (true, "61dbacef66b084bce1ee2288940bfcb26f34f55692c7c2c7a4061f1c579a5a91"), looks := false }, kinds := [], alts := [], laidByText := true, laidKinds := [.data], laidTests := true, laidLooks := .later }
def DaysSpansCardSaid : Prop := Claim7.holds Tryd.pinned (.plain (OpenSpec.ofChange daysSpansSpec)) daysSpansCard

/-- THE SECOND FORM's CARD OF 'levylaw2.DaysMonths'. -/
def daysMonthsUptoCard : Claim7 := { stood := { row := daysMonthsUptoRow, standIns := [], harness := (true, "61dbacef66b084bce1ee2288940bfcb26f34f55692c7c2c7a4061f1c579a5a91"), looks := false }, kinds := [], alts := [], laidByText := true, laidKinds := [.data], laidTests := true, laidLooks := .later }
def DaysMonthsUptoCardSaid : Prop := Claim7.holds Tryd.pinned (.plain (OpenSpec.upto daysMonthsSpec)) daysMonthsUptoCard

/-- THE SECOND FORM's CARD OF 'levylaw2.DaysDates'. -/
def daysDatesUptoCard : Claim7 := { stood := { row := daysDatesUptoRow, standIns := [], harness := (true, "61dbacef66b084bce1ee2288940bfcb26f34f55692c7c2c7a4061f1c579a5a91"), looks := false }, kinds := [], alts := [], laidByText := true, laidKinds := [.data], laidTests := true, laidLooks := .later }
def DaysDatesUptoCardSaid : Prop := Claim7.holds Tryd.pinned (.plain (OpenSpec.upto daysDatesSpec)) daysDatesUptoCard

/-- THE SECOND FORM's CARD OF 'levylaw2.DaysTexts'. -/
def daysTextsUptoCard : Claim7 := { stood := { row := daysTextsUptoRow, standIns := [], harness := (true, "61dbacef66b084bce1ee2288940bfcb26f34f55692c7c2c7a4061f1c579a5a91"), looks := false }, kinds := [], alts := [], laidByText := true, laidKinds := [.data], laidTests := true, laidLooks := .later }
def DaysTextsUptoCardSaid : Prop := Claim7.holds Tryd.pinned (.plain (OpenSpec.upto daysTextsSpec)) daysTextsUptoCard

/-- THE SECOND FORM's CARD OF 'levylaw2.DaysAdd'. -/
def daysAddUptoCard : Claim7 := { stood := { row := daysAddUptoRow, standIns := [], harness := (true, "61dbacef66b084bce1ee2288940bfcb26f34f55692c7c2c7a4061f1c579a5a91"), looks := false }, kinds := [], alts := [], laidByText := true, laidKinds := [.data], laidTests := true, laidLooks := .later }
def DaysAddUptoCardSaid : Prop := Claim7.holds Tryd.pinned (.plain (OpenSpec.upto daysAddSpec)) daysAddUptoCard

/-- THE SECOND FORM's CARD OF 'levylaw2.DaysShares'. -/
def daysSharesUptoCard : Claim7 := { stood := { row := daysSharesUptoRow, standIns := [], harness := (true, "61dbacef66b084bce1ee2288940bfcb26f34f55692c7c2c7a4061f1c579a5a91"), looks := false }, kinds := [], alts := [], laidByText := true, laidKinds := [.data], laidTests := true, laidLooks := .later }
def DaysSharesUptoCardSaid : Prop := Claim7.holds Tryd.pinned (.plain (OpenSpec.upto daysSharesSpec)) daysSharesUptoCard

/-- THE SECOND FORM's CARD OF 'levylaw2.DaysWalk'. -/
def daysWalkUptoCard : Claim7 := { stood := { row := daysWalkUptoRow, standIns := [], harness := (true, "61dbacef66b084bce1ee2288940bfcb26f34f55692c7c2c7a4061f1c579a5a91"), looks := false }, kinds := [], alts := [], laidByText := true, laidKinds := [.data], laidTests := true, laidLooks := .later }
def DaysWalkUptoCardSaid : Prop := Claim7.holds Tryd.pinned (.plain (OpenSpec.upto daysWalkSpec)) daysWalkUptoCard

/-- THE SECOND FORM's CARD OF 'levylaw2.DaysWork'. -/
def daysWorkUptoCard : Claim7 := { stood := { row := daysWorkUptoRow, standIns := [], harness := (true, "61dbacef66b084bce1ee2288940bfcb26f34f55692c7c2c7a4061f1c579a5a91"), looks := false }, kinds := [], alts := [], laidByText := true, laidKinds := [.data], laidTests := true, laidLooks := .later }
def DaysWorkUptoCardSaid : Prop := Claim7.holds Tryd.pinned (.plain (OpenSpec.upto daysWorkSpec)) daysWorkUptoCard

/-- THE SECOND FORM's CARD OF 'levylaw2.DaysBetween'. -/
def daysBetweenUptoCard : Claim7 := { stood := { row := daysBetweenUptoRow, standIns := [], harness := (true, "61dbacef66b084bce1ee2288940bfcb26f34f55692c7c2c7a4061f1c579a5a91"), looks := false }, kinds := [], alts := [], laidByText := true, laidKinds := [.data], laidTests := true, laidLooks := .later }
def DaysBetweenUptoCardSaid : Prop := Claim7.holds Tryd.pinned (.plain (OpenSpec.upto daysBetweenSpec)) daysBetweenUptoCard

/-- THE SECOND FORM's CARD OF 'levylaw2.DaysSpans'. -/
def daysSpansUptoCard : Claim7 := { stood := { row := daysSpansUptoRow, standIns := [], harness := (true, "61dbacef66b084bce1ee2288940bfcb26f34f55692c7c2c7a4061f1c579a5a91"), looks := false }, kinds := [], alts := [], laidByText := true, laidKinds := [.data], laidTests := true, laidLooks := .later }
def DaysSpansUptoCardSaid : Prop := Claim7.holds Tryd.pinned (.plain (OpenSpec.upto daysSpansSpec)) daysSpansUptoCard
end Rows
end Go.Proofs.YtlipkhhpjelicaaDoor
