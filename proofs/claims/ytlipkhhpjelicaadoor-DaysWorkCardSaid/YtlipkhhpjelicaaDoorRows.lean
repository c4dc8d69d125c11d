/-
  NARROWER THAN 'FOR EVERY INPUT', by the rows' own cells (each row's printed sentence says how): DaysMonths: laid · DaysDates: laid · DaysTexts: laid · DaysAdd: laid · DaysShares: laid · DaysWalk: laid · DaysWork: laid · DaysBetween: laid · DaysSpans: laid.
  DERIVED. THE GIVEN ROWS OF THIS SEAT. 9 by the template 'for every input the law returns true; each argument reads behind the call as it read before'; 0 by the template 'total and deterministic' (their statements: YtlipkhhpjelicaaDoorTotals.lean).
  GIVEN WITH THE SEED: the statements are not yours to turn. If you find one false, say at which input.
  Laid BY PROGRAM, IN A SANDBOX (cutbox-rows.mjs): the forced cells as the released guide's own fill.sh prints them over the translation 2b3cd509fdf02838… (all of the seat's roots in one cut). By AI agents, Wed Nov 11 2026. No macro, syntax, notation, axiom, sorry.
-/
import Derived.Test.YtlipkhhpjelicaaDoorChecked
import GoSem.Claim
import GoSem.ClaimJoined
import GoSem.ClaimMapViews
import Derived.JoinedTies
import Derived.KernelRfl
namespace Go.Proofs.YtlipkhhpjelicaaDoor
/- THE CELL 'sum', in the pinned program and in every row, IS THE sha256 OF THE DUMP (.gsa) THAT YtlipkhhpjelicaaDoorProg.lean LOADS. Nothing in Lean hashes anything: it is a label: what it is worth is what the hold of that sum in a sandbox is worth. -/
noncomputable def Tryd.pinned : Pinned := { name := "ytlipkhhpjelicaadoor", sum := "2b3cd509fdf028387364799aca82df7796fe67c7caf9b03449d1807ff239c53a", checked := Tryd.checked }
namespace Rows
def none {H : Type} : Left H := { results := [], args := [] }

/- WHAT THE LISTED PACKAGE-LEVEL VARIABLES READ AS WHEN THE CALL BEGINS. Each datum BY PROGRAM (the guide's laid-datum.mjs) off the statement by which the dump's own 'gosem.cut.vars' lays the variable. In a bare row this is a premise. The card (YtlipkhhpjelicaaDoorCards.lean) ties it to the program's text. -/
def laid_levy_days_lengths {H : Type} : DataW H := .agg [.lit (.int .i64 31), .lit (.int .i64 28), .lit (.int .i64 31), .lit (.int .i64 30), .lit (.int .i64 31), .lit (.int .i64 30), .lit (.int .i64 31), .lit (.int .i64 31), .lit (.int .i64 30), .lit (.int .i64 31), .lit (.int .i64 30), .lit (.int .i64 31)]

/-- 'levylaw2.DaysMonths': WHATEVER THE INPUT: true; the input reads as it did. -/
def daysMonthsSpec : ChangeSpec := { name := "daysMonths", fn := fun _ => fun
  | [d1, d2, d3] => { results := [.lit (.bool true)], args := [d1, d2, d3] }
  | _ => none }
def daysMonthsRow : OpenClaim := { program := "ytlipkhhpjelicaadoor", sum := "2b3cd509fdf028387364799aca82df7796fe67c7caf9b03449d1807ff239c53a", func := "levy/levylaw2.DaysMonths", spec := "daysMonths", unfollowed := true, recurses := true, named := ["levy/days.lengths"], apart := false, laid := [("levy/days.lengths", laid_levy_days_lengths)] }
def DaysMonthsSaid : Prop := daysMonthsRow.holds Tryd.pinned (OpenSpec.ofChange daysMonthsSpec)

/-- ITS FALSE NEIGHBOUR: 'it returns false'. Refute it at one input. -/
def daysMonthsWrong : ChangeSpec := { name := "daysMonths", fn := fun _ => fun
  | [d1, d2, d3] => { results := [.lit (.bool false)], args := [d1, d2, d3] }
  | _ => none }
def DaysMonthsWrongFalsely : Prop := daysMonthsRow.holds Tryd.pinned (OpenSpec.ofChange daysMonthsWrong)

/-- 'levylaw2.DaysDates': WHATEVER THE INPUT: true; the input reads as it did. -/
def daysDatesSpec : ChangeSpec := { name := "daysDates", fn := fun _ => fun
  | [d1, d2, d3, d4] => { results := [.lit (.bool true)], args := [d1, d2, d3, d4] }
  | _ => none }
def daysDatesRow : OpenClaim := { program := "ytlipkhhpjelicaadoor", sum := "2b3cd509fdf028387364799aca82df7796fe67c7caf9b03449d1807ff239c53a", func := "levy/levylaw2.DaysDates", spec := "daysDates", named := ["levy/days.lengths"], apart := false, laid := [("levy/days.lengths", laid_levy_days_lengths)] }
def DaysDatesSaid : Prop := daysDatesRow.holds Tryd.pinned (OpenSpec.ofChange daysDatesSpec)

/-- ITS FALSE NEIGHBOUR: 'it returns false'. Refute it at one input. -/
def daysDatesWrong : ChangeSpec := { name := "daysDates", fn := fun _ => fun
  | [d1, d2, d3, d4] => { results := [.lit (.bool false)], args := [d1, d2, d3, d4] }
  | _ => none }
def DaysDatesWrongFalsely : Prop := daysDatesRow.holds Tryd.pinned (OpenSpec.ofChange daysDatesWrong)

/-- 'levylaw2.DaysTexts': WHATEVER THE INPUT: true; the input reads as it did. -/
def daysTextsSpec : ChangeSpec := { name := "daysTexts", fn := fun _ => fun
  | [d1, d2] => { results := [.lit (.bool true)], args := [d1, d2] }
  | _ => none }
def daysTextsRow : OpenClaim := { program := "ytlipkhhpjelicaadoor", sum := "2b3cd509fdf028387364799aca82df7796fe67c7caf9b03449d1807ff239c53a", func := "levy/levylaw2.DaysTexts", spec := "daysTexts", named := ["levy/days.lengths"], apart := false, laid := [("levy/days.lengths", laid_levy_days_lengths)] }
def DaysTextsSaid : Prop := daysTextsRow.holds Tryd.pinned (OpenSpec.ofChange daysTextsSpec)

/-- ITS FALSE NEIGHBOUR: 'it returns false'. Refute it at one input. -/
def daysTextsWrong : ChangeSpec := { name := "daysTexts", fn := fun _ => fun
  | [d1, d2] => { results := [.lit (.bool false)], args := [d1, d2] }
  | _ => none }
def DaysTextsWrongFalsely : Prop := daysTextsRow.holds Tryd.pinned (OpenSpec.ofChange daysTextsWrong)

/-- 'levylaw2.DaysAdd': WHATEVER THE INPUT: true; the input reads as it did. -/
def daysAddSpec : ChangeSpec := { name := "daysAdd", fn := fun _ => fun
  | [d1, d2, d3] => { results := [.lit (.bool true)], args := [d1, d2, d3] }
  | _ => none }
def daysAddRow : OpenClaim := { program := "ytlipkhhpjelicaadoor", sum := "2b3cd509fdf028387364799aca82df7796fe67c7caf9b03449d1807ff239c53a", func := "levy/levylaw2.DaysAdd", spec := "daysAdd", recurses := true, named := ["levy/days.lengths"], apart := false, laid := [("levy/days.lengths", laid_levy_days_lengths)] }
def DaysAddSaid : Prop := daysAddRow.holds Tryd.pinned (OpenSpec.ofChange daysAddSpec)

/-- ITS FALSE NEIGHBOUR: 'it returns false'. Refute it at one input. -/
def daysAddWrong : ChangeSpec := { name := "daysAdd", fn := fun _ => fun
  | [d1, d2, d3] => { results := [.lit (.bool false)], args := [d1, d2, d3] }
  | _ => none }
def DaysAddWrongFalsely : Prop := daysAddRow.holds Tryd.pinned (OpenSpec.ofChange daysAddWrong)

/-- 'levylaw2.DaysShares': WHATEVER THE INPUT: true; the input reads as it did. -/
def daysSharesSpec : ChangeSpec := { name := "daysShares", fn := fun _ => fun
  | [d1, d2] => { results := [.lit (.bool true)], args := [d1, d2] }
  | _ => none }
def daysSharesRow : OpenClaim := { program := "ytlipkhhpjelicaadoor", sum := "2b3cd509fdf028387364799aca82df7796fe67c7caf9b03449d1807ff239c53a", func := "levy/levylaw2.DaysShares", spec := "daysShares", unfollowed := true, recurses := true, named := ["levy/days.lengths"], apart := false, laid := [("levy/days.lengths", laid_levy_days_lengths)] }
def DaysSharesSaid : Prop := daysSharesRow.holds Tryd.pinned (OpenSpec.ofChange daysSharesSpec)

/-- ITS FALSE NEIGHBOUR: 'it returns false'. Refute it at one input. -/
def daysSharesWrong : ChangeSpec := { name := "daysShares", fn := fun _ => fun
  | [d1, d2] => { results := [.lit (.bool false)], args := [d1, d2] }
  | _ => none }
def DaysSharesWrongFalsely : Prop := daysSharesRow.holds Tryd.pinned (OpenSpec.ofChange daysSharesWrong)

/-- 'levylaw2.DaysWalk': WHATEVER THE INPUT: true; the input reads as it did. -/
def daysWalkSpec : ChangeSpec := { name := "daysWalk", fn := fun _ => fun
  | [d] => { results := [.lit (.bool true)], args := [d] }
  | _ => none }
def daysWalkRow : OpenClaim := { program := "ytlipkhhpjelicaadoor", sum := "2b3cd509fdf028387364799aca82df7796fe67c7caf9b03449d1807ff239c53a", func := "levy/levylaw2.DaysWalk", spec := "daysWalk", named := ["levy/days.lengths"], apart := false, laid := [("levy/days.lengths", laid_levy_days_lengths)] }
def DaysWalkSaid : Prop := daysWalkRow.holds Tryd.pinned (OpenSpec.ofChange daysWalkSpec)

/-- ITS FALSE NEIGHBOUR: 'it returns false'. Refute it at one input. -/
def daysWalkWrong : ChangeSpec := { name := "daysWalk", fn := fun _ => fun
  | [d] => { results := [.lit (.bool false)], args := [d] }
  | _ => none }
def DaysWalkWrongFalsely : Prop := daysWalkRow.holds Tryd.pinned (OpenSpec.ofChange daysWalkWrong)

/-- 'levylaw2.DaysWork': WHATEVER THE INPUT: true; the input reads as it did. -/
def daysWorkSpec : ChangeSpec := { name := "daysWork", fn := fun _ => fun
  | [d1, d2] => { results := [.lit (.bool true)], args := [d1, d2] }
  | _ => none }
def daysWorkRow : OpenClaim := { program := "ytlipkhhpjelicaadoor", sum := "2b3cd509fdf028387364799aca82df7796fe67c7caf9b03449d1807ff239c53a", func := "levy/levylaw2.DaysWork", spec := "daysWork", named := ["levy/days.lengths"], apart := false, laid := [("levy/days.lengths", laid_levy_days_lengths)] }
def DaysWorkSaid : Prop := daysWorkRow.holds Tryd.pinned (OpenSpec.ofChange daysWorkSpec)

/-- ITS FALSE NEIGHBOUR: 'it returns false'. Refute it at one input. -/
def daysWorkWrong : ChangeSpec := { name := "daysWork", fn := fun _ => fun
  | [d1, d2] => { results := [.lit (.bool false)], args := [d1, d2] }
  | _ => none }
def DaysWorkWrongFalsely : Prop := daysWorkRow.holds Tryd.pinned (OpenSpec.ofChange daysWorkWrong)

/-- 'levylaw2.DaysBetween': WHATEVER THE INPUT: true; the input reads as it did. -/
def daysBetweenSpec : ChangeSpec := { name := "daysBetween", fn := fun _ => fun
  | [d1, d2] => { results := [.lit (.bool true)], args := [d1, d2] }
  | _ => none }
def daysBetweenRow : OpenClaim := { program := "ytlipkhhpjelicaadoor", sum := "2b3cd509fdf028387364799aca82df7796fe67c7caf9b03449d1807ff239c53a", func := "levy/levylaw2.DaysBetween", spec := "daysBetween", recurses := true, named := ["levy/days.lengths"], apart := false, laid := [("levy/days.lengths", laid_levy_days_lengths)] }
def DaysBetweenSaid : Prop := daysBetweenRow.holds Tryd.pinned (OpenSpec.ofChange daysBetweenSpec)

/-- ITS FALSE NEIGHBOUR: 'it returns false'. Refute it at one input. -/
def daysBetweenWrong : ChangeSpec := { name := "daysBetween", fn := fun _ => fun
  | [d1, d2] => { results := [.lit (.bool false)], args := [d1, d2] }
  | _ => none }
def DaysBetweenWrongFalsely : Prop := daysBetweenRow.holds Tryd.pinned (OpenSpec.ofChange daysBetweenWrong)

/-- 'levylaw2.DaysSpans': WHATEVER THE INPUT: true; the input reads as it did. -/
def daysSpansSpec : ChangeSpec := { name := "daysSpans", fn := fun _ => fun
  | [d1, d2, d3] => { results := [.lit (.bool true)], args := [d1, d2, d3] }
  | _ => none }
def daysSpansRow : OpenClaim := { program := "ytlipkhhpjelicaadoor", sum := "2b3cd509fdf028387364799aca82df7796fe67c7caf9b03449d1807ff239c53a", func := "levy/levylaw2.DaysSpans", spec := "daysSpans", unfollowed := true, recurses := true, named := ["levy/days.lengths"], apart := false, laid := [("levy/days.lengths", laid_levy_days_lengths)] }
def DaysSpansSaid : Prop := daysSpansRow.holds Tryd.pinned (OpenSpec.ofChange daysSpansSpec)

/-- ITS FALSE NEIGHBOUR: 'it returns false'. Refute it at one input. -/
def daysSpansWrong : ChangeSpec := { name := "daysSpans", fn := fun _ => fun
  | [d1, d2, d3] => { results := [.lit (.bool false)], args := [d1, d2, d3] }
  | _ => none }
def DaysSpansWrongFalsely : Prop := daysSpansRow.holds Tryd.pinned (OpenSpec.ofChange daysSpansWrong)

/- THE SECOND FORM. 'bulk': how many values and letters a reading holds, each counted each time it is reached (what is shared counts as often as it is met; a slice's spare places count too). A statement '..UptoSaid' is the law's where the arguments, and the package variables that the reading takes, are together of bulk at most 1048576: NARROWER than '..Said'. Prove '..Said' where nothing that the law and all that it calls make is longer than what came in: it says more and counts as full. Else prove '..UptoSaid'. A law counts once. -/
mutual
def uptoBulk {H : Type} : DataW H → Nat
  | .lit (.string bytes) => bytes.length + 1
  | .lit _ => 1
  | .nil => 1
  | .ptr d => uptoBulk d + 1
  | .slice elems spare => uptoBulkAll elems + uptoBulkAll spare + 1
  | .agg parts => uptoBulkAll parts + 1
  | .iface _ d => uptoBulk d + 1
  | .map entries => uptoBulkEntries entries + 1
  | .held _ => 1
def uptoBulkAll {H : Type} : List (DataW H) → Nat
  | [] => 0
  | d :: r => uptoBulk d + uptoBulkAll r
def uptoBulkEntries {H : Type} : List (Lit × DataW H) → Nat
  | [] => 0
  | x :: r => uptoBulkEntry x + uptoBulkEntries r
def uptoBulkEntry {H : Type} : Lit × DataW H → Nat
  | (.string bytes, d) => bytes.length + uptoBulk d + 1
  | (_, d) => uptoBulk d + 1
 end
def uptoSmall : (H : Type) → List (DataW H) → Bool := fun _ ds => decide (uptoBulkAll ds ≤ 1048576)
def OpenSpec.upto (s : _root_.Go.ChangeSpec) : _root_.Go.OpenSpec := { _root_.Go.OpenSpec.ofChange s with cond := some uptoSmall }

/-- 'levylaw2.DaysMonths', WHERE WHAT IT READS IS OF BULK AT MOST 1048576: true; the input reads as it did. -/
def daysMonthsUptoRow : OpenClaim := { program := "ytlipkhhpjelicaadoor", sum := "2b3cd509fdf028387364799aca82df7796fe67c7caf9b03449d1807ff239c53a", func := "levy/levylaw2.DaysMonths", spec := "daysMonths", unfollowed := true, recurses := true, named := ["levy/days.lengths"], apart := false, laid := [("levy/days.lengths", laid_levy_days_lengths)], narrowed := true }
def DaysMonthsUptoSaid : Prop := daysMonthsUptoRow.holds Tryd.pinned (OpenSpec.upto daysMonthsSpec)

/-- 'levylaw2.DaysDates', WHERE WHAT IT READS IS OF BULK AT MOST 1048576: true; the input reads as it did. -/
def daysDatesUptoRow : OpenClaim := { program := "ytlipkhhpjelicaadoor", sum := "2b3cd509fdf028387364799aca82df7796fe67c7caf9b03449d1807ff239c53a", func := "levy/levylaw2.DaysDates", spec := "daysDates", named := ["levy/days.lengths"], apart := false, laid := [("levy/days.lengths", laid_levy_days_lengths)], narrowed := true }
def DaysDatesUptoSaid : Prop := daysDatesUptoRow.holds Tryd.pinned (OpenSpec.upto daysDatesSpec)

/-- 'levylaw2.DaysTexts', WHERE WHAT IT READS IS OF BULK AT MOST 1048576: true; the input reads as it did. -/
def daysTextsUptoRow : OpenClaim := { program := "ytlipkhhpjelicaadoor", sum := "2b3cd509fdf028387364799aca82df7796fe67c7caf9b03449d1807ff239c53a", func := "levy/levylaw2.DaysTexts", spec := "daysTexts", named := ["levy/days.lengths"], apart := false, laid := [("levy/days.lengths", laid_levy_days_lengths)], narrowed := true }
def DaysTextsUptoSaid : Prop := daysTextsUptoRow.holds Tryd.pinned (OpenSpec.upto daysTextsSpec)

/-- 'levylaw2.DaysAdd', WHERE WHAT IT READS IS OF BULK AT MOST 1048576: true; the input reads as it did. -/
def daysAddUptoRow : OpenClaim := { program := "ytlipkhhpjelicaadoor", sum := "2b3cd509fdf028387364799aca82df7796fe67c7caf9b03449d1807ff239c53a", func := "levy/levylaw2.DaysAdd", spec := "daysAdd", recurses := true, named := ["levy/days.lengths"], apart := false, laid := [("levy/days.lengths", laid_levy_days_lengths)], narrowed := true }
def DaysAddUptoSaid : Prop := daysAddUptoRow.holds Tryd.pinned (OpenSpec.upto daysAddSpec)

/-- 'levylaw2.DaysShares', WHERE WHAT IT READS IS OF BULK AT MOST 1048576: true; the input reads as it did. -/
def daysSharesUptoRow : OpenClaim := { program := "ytlipkhhpjelicaadoor", sum := "2b3cd509fdf028387364799aca82df7796fe67c7caf9b03449d1807ff239c53a", func := "levy/levylaw2.DaysShares", spec := "daysShares", unfollowed := true, recurses := true, named := ["levy/days.lengths"], apart := false, laid := [("levy/days.lengths", laid_levy_days_lengths)], narrowed := true }
def DaysSharesUptoSaid : Prop := daysSharesUptoRow.holds Tryd.pinned (OpenSpec.upto daysSharesSpec)

/-- 'levylaw2.DaysWalk', WHERE WHAT IT READS IS OF BULK AT MOST 1048576: true; the input reads as it did. -/
def daysWalkUptoRow : OpenClaim := { program := "ytlipkhhpjelicaadoor", sum := "2b3cd509fdf028387364799aca82df7796fe67c7caf9b03449d1807ff239c53a", func := "levy/levylaw2.DaysWalk", spec := "daysWalk", named := ["levy/days.lengths"], apart := false, laid := [("levy/days.lengths", laid_levy_days_lengths)], narrowed := true }
def DaysWalkUptoSaid : Prop := daysWalkUptoRow.holds Tryd.pinned (OpenSpec.upto daysWalkSpec)

/-- 'levylaw2.DaysWork', WHERE WHAT IT READS IS OF BULK AT MOST 1048576: true; the input reads as it did. -/
def daysWorkUptoRow : OpenClaim := { program := "ytlipkhhpjelicaadoor", sum := "2b3cd509fdf028387364799aca82df7796fe67c7caf9b03449d1807ff239c53a", func := "levy/levylaw2.DaysWork", spec := "daysWork", named := ["levy/days.lengths"], apart := false, laid := [("levy/days.lengths", laid_levy_days_lengths)], narrowed := true }
def DaysWorkUptoSaid : Prop := daysWorkUptoRow.holds Tryd.pinned (OpenSpec.upto daysWorkSpec)

/-- 'levylaw2.DaysBetween', WHERE WHAT IT READS IS OF BULK AT MOST 1048576: true; the input reads as it did. -/
def daysBetweenUptoRow : OpenClaim := { program := "ytlipkhhpjelicaadoor", sum := "2b3cd509fdf028387364799aca82df7796fe67c7caf9b03449d1807ff239c53a", func := "levy/levylaw2.DaysBetween", spec := "daysBetween", recurses := true, named := ["levy/days.lengths"], apart := false, laid := [("levy/days.lengths", laid_levy_days_lengths)], narrowed := true }
def DaysBetweenUptoSaid : Prop := daysBetweenUptoRow.holds Tryd.pinned (OpenSpec.upto daysBetweenSpec)

/-- 'levylaw2.DaysSpans', WHERE WHAT IT READS IS OF BULK AT MOST 1048576: true; the input reads as it did. -/
def daysSpansUptoRow : OpenClaim := { program := "ytlipkhhpjelicaadoor", sum := "2b3cd509fdf028387364799aca82df7796fe67c7caf9b03449d1807ff239c53a", func := "levy/levylaw2.DaysSpans", spec := "daysSpans", unfollowed := true, recurses := true, named := ["levy/days.lengths"], apart := false, laid := [("levy/days.lengths", laid_levy_days_lengths)], narrowed := true }
def DaysSpansUptoSaid : Prop := daysSpansUptoRow.holds Tryd.pinned (OpenSpec.upto daysSpansSpec)

end Rows
end Go.Proofs.YtlipkhhpjelicaaDoor
