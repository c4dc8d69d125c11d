/-
  NARROWER THAN 'FOR EVERY INPUT', by the rows' own cells (each row's printed sentence says how): WordsScans: laid · WordsPlaces: laid · WordsJoins: laid · WordsTokens: laid · WordsTexts: laid · WordsNumbers: laid · WordsRound: laid · WordsBack: laid.
  DERIVED. THE GIVEN ROWS OF THIS SEAT. 8 by the template 'for every input the law returns true; each argument reads behind the call as it read before'; 0 by the template 'total and deterministic' (their statements: YtidbcenbcllfnaaDoorTotals.lean).
  GIVEN WITH THE SEED: the statements are not yours to turn. If you find one false, say at which input.
  Laid BY PROGRAM, IN A SANDBOX (cutbox-rows.mjs): the forced cells as the released guide's own fill.sh prints them over the translation 0b3ff59bcfa17d37… (all of the seat's roots in one cut). By AI agents, Wed Nov 11 2026. No macro, syntax, notation, axiom, sorry.
-/
import Derived.Test.YtidbcenbcllfnaaDoorChecked
import GoSem.PinnedTables
import GoSem.Claim
import GoSem.ClaimJoined
import GoSem.ClaimMapViews
import Derived.JoinedTies
import Derived.KernelRfl
namespace Go.Proofs.YtidbcenbcllfnaaDoor
/- THE CELL 'sum', in the pinned program and in every row, IS THE sha256 OF THE DUMP (.gsa) THAT YtidbcenbcllfnaaDoorProg.lean LOADS. Nothing in Lean hashes anything: it is a label: what it is worth is what the hold of that sum in a sandbox is worth. -/
noncomputable def Tryd.pinned : Pinned := { name := "ytidbcenbcllfnaadoor", sum := "0b3ff59bcfa17d37baef70499e911b3fc9a6fa8fc9e0a20463bcfff4b17022ee", checked := Tryd.checked }
namespace Rows
def none {H : Type} : Left H := { results := [], args := [] }

/- WHAT THE LISTED PACKAGE-LEVEL VARIABLES READ AS WHEN THE CALL BEGINS. Each datum BY PROGRAM (the guide's laid-datum.mjs) off the statement by which the dump's own 'gosem.cut.vars' lays the variable. In a bare row this is a premise. The card (YtidbcenbcllfnaaDoorCards.lean) ties it to the program's text. -/
def laid_unicode_utf8_acceptRanges {H : Type} : DataW H := .agg [.agg [.lit (.int .u8 128), .lit (.int .u8 191)], .agg [.lit (.int .u8 160), .lit (.int .u8 191)], .agg [.lit (.int .u8 128), .lit (.int .u8 159)], .agg [.lit (.int .u8 144), .lit (.int .u8 191)], .agg [.lit (.int .u8 128), .lit (.int .u8 143)], .agg [.lit (.int .u8 0), .lit (.int .u8 0)], .agg [.lit (.int .u8 0), .lit (.int .u8 0)], .agg [.lit (.int .u8 0), .lit (.int .u8 0)], .agg [.lit (.int .u8 0), .lit (.int .u8 0)], .agg [.lit (.int .u8 0), .lit (.int .u8 0)], .agg [.lit (.int .u8 0), .lit (.int .u8 0)], .agg [.lit (.int .u8 0), .lit (.int .u8 0)], .agg [.lit (.int .u8 0), .lit (.int .u8 0)], .agg [.lit (.int .u8 0), .lit (.int .u8 0)], .agg [.lit (.int .u8 0), .lit (.int .u8 0)], .agg [.lit (.int .u8 0), .lit (.int .u8 0)]]
def laid_levy_days_lengths {H : Type} : DataW H := .agg [.lit (.int .i64 31), .lit (.int .i64 28), .lit (.int .i64 31), .lit (.int .i64 30), .lit (.int .i64 31), .lit (.int .i64 30), .lit (.int .i64 31), .lit (.int .i64 31), .lit (.int .i64 30), .lit (.int .i64 31), .lit (.int .i64 30), .lit (.int .i64 31)]
def laid_levy_levyref4_signs {H : Type} : DataW H := .agg [.lit (.string [33, 61]), .lit (.string [60, 61]), .lit (.string [62, 61]), .lit (.string [40]), .lit (.string [41]), .lit (.string [44]), .lit (.string [58]), .lit (.string [46]), .lit (.string [61]), .lit (.string [60]), .lit (.string [62]), .lit (.string [43]), .lit (.string [45]), .lit (.string [42]), .lit (.string [47])]
def laid_levy_words_classes {H : Type} : DataW H := .agg [.lit (.int .u8 0), .lit (.int .u8 0), .lit (.int .u8 0), .lit (.int .u8 0), .lit (.int .u8 0), .lit (.int .u8 0), .lit (.int .u8 0), .lit (.int .u8 0), .lit (.int .u8 0), .lit (.int .u8 0), .lit (.int .u8 0), .lit (.int .u8 0), .lit (.int .u8 0), .lit (.int .u8 0), .lit (.int .u8 0), .lit (.int .u8 0), .lit (.int .u8 0), .lit (.int .u8 0), .lit (.int .u8 0), .lit (.int .u8 0), .lit (.int .u8 0), .lit (.int .u8 0), .lit (.int .u8 0), .lit (.int .u8 0), .lit (.int .u8 0), .lit (.int .u8 0), .lit (.int .u8 0), .lit (.int .u8 0), .lit (.int .u8 0), .lit (.int .u8 0), .lit (.int .u8 0), .lit (.int .u8 0), .lit (.int .u8 0), .lit (.int .u8 8), .lit (.int .u8 0), .lit (.int .u8 0), .lit (.int .u8 0), .lit (.int .u8 0), .lit (.int .u8 0), .lit (.int .u8 0), .lit (.int .u8 8), .lit (.int .u8 8), .lit (.int .u8 8), .lit (.int .u8 8), .lit (.int .u8 8), .lit (.int .u8 8), .lit (.int .u8 8), .lit (.int .u8 8), .lit (.int .u8 2), .lit (.int .u8 2), .lit (.int .u8 2), .lit (.int .u8 2), .lit (.int .u8 2), .lit (.int .u8 2), .lit (.int .u8 2), .lit (.int .u8 2), .lit (.int .u8 2), .lit (.int .u8 2), .lit (.int .u8 8), .lit (.int .u8 0), .lit (.int .u8 8), .lit (.int .u8 8), .lit (.int .u8 8), .lit (.int .u8 0), .lit (.int .u8 0), .lit (.int .u8 0), .lit (.int .u8 0), .lit (.int .u8 0), .lit (.int .u8 0), .lit (.int .u8 0), .lit (.int .u8 0), .lit (.int .u8 0), .lit (.int .u8 0), .lit (.int .u8 0), .lit (.int .u8 0), .lit (.int .u8 0), .lit (.int .u8 0), .lit (.int .u8 0), .lit (.int .u8 0), .lit (.int .u8 0), .lit (.int .u8 0), .lit (.int .u8 0), .lit (.int .u8 0), .lit (.int .u8 0), .lit (.int .u8 0), .lit (.int .u8 0), .lit (.int .u8 0), .lit (.int .u8 0), .lit (.int .u8 0), .lit (.int .u8 0), .lit (.int .u8 0), .lit (.int .u8 0), .lit (.int .u8 0), .lit (.int .u8 0), .lit (.int .u8 0), .lit (.int .u8 4), .lit (.int .u8 0), .lit (.int .u8 1), .lit (.int .u8 1), .lit (.int .u8 1), .lit (.int .u8 1), .lit (.int .u8 1), .lit (.int .u8 1), .lit (.int .u8 1), .lit (.int .u8 1), .lit (.int .u8 1), .lit (.int .u8 1), .lit (.int .u8 1), .lit (.int .u8 1), .lit (.int .u8 1), .lit (.int .u8 1), .lit (.int .u8 1), .lit (.int .u8 1), .lit (.int .u8 1), .lit (.int .u8 1), .lit (.int .u8 1), .lit (.int .u8 1), .lit (.int .u8 1), .lit (.int .u8 1), .lit (.int .u8 1), .lit (.int .u8 1), .lit (.int .u8 1), .lit (.int .u8 1), .lit (.int .u8 0), .lit (.int .u8 0), .lit (.int .u8 0), .lit (.int .u8 0), .lit (.int .u8 0)]
/-- One of Go's own tables, pinned by name: the form's constant. -/
def laid_unicode_utf8_first : DataW Unit := Go.Pinned.utf8First
def laid_math_bits_deBruijn32tab {H : Type} : DataW H := .agg [.lit (.int .u8 0), .lit (.int .u8 1), .lit (.int .u8 28), .lit (.int .u8 2), .lit (.int .u8 29), .lit (.int .u8 14), .lit (.int .u8 24), .lit (.int .u8 3), .lit (.int .u8 30), .lit (.int .u8 22), .lit (.int .u8 20), .lit (.int .u8 15), .lit (.int .u8 25), .lit (.int .u8 17), .lit (.int .u8 4), .lit (.int .u8 8), .lit (.int .u8 31), .lit (.int .u8 27), .lit (.int .u8 13), .lit (.int .u8 23), .lit (.int .u8 21), .lit (.int .u8 19), .lit (.int .u8 16), .lit (.int .u8 7), .lit (.int .u8 26), .lit (.int .u8 12), .lit (.int .u8 18), .lit (.int .u8 6), .lit (.int .u8 11), .lit (.int .u8 5), .lit (.int .u8 10), .lit (.int .u8 9)]
def laid_math_bits_deBruijn64tab {H : Type} : DataW H := .agg [.lit (.int .u8 0), .lit (.int .u8 1), .lit (.int .u8 56), .lit (.int .u8 2), .lit (.int .u8 57), .lit (.int .u8 49), .lit (.int .u8 28), .lit (.int .u8 3), .lit (.int .u8 61), .lit (.int .u8 58), .lit (.int .u8 42), .lit (.int .u8 50), .lit (.int .u8 38), .lit (.int .u8 29), .lit (.int .u8 17), .lit (.int .u8 4), .lit (.int .u8 62), .lit (.int .u8 47), .lit (.int .u8 59), .lit (.int .u8 36), .lit (.int .u8 45), .lit (.int .u8 43), .lit (.int .u8 51), .lit (.int .u8 22), .lit (.int .u8 53), .lit (.int .u8 39), .lit (.int .u8 33), .lit (.int .u8 30), .lit (.int .u8 24), .lit (.int .u8 18), .lit (.int .u8 12), .lit (.int .u8 5), .lit (.int .u8 63), .lit (.int .u8 55), .lit (.int .u8 48), .lit (.int .u8 27), .lit (.int .u8 60), .lit (.int .u8 41), .lit (.int .u8 37), .lit (.int .u8 16), .lit (.int .u8 46), .lit (.int .u8 35), .lit (.int .u8 44), .lit (.int .u8 21), .lit (.int .u8 52), .lit (.int .u8 32), .lit (.int .u8 23), .lit (.int .u8 11), .lit (.int .u8 54), .lit (.int .u8 26), .lit (.int .u8 40), .lit (.int .u8 15), .lit (.int .u8 34), .lit (.int .u8 20), .lit (.int .u8 31), .lit (.int .u8 10), .lit (.int .u8 25), .lit (.int .u8 14), .lit (.int .u8 19), .lit (.int .u8 9), .lit (.int .u8 13), .lit (.int .u8 8), .lit (.int .u8 7), .lit (.int .u8 6)]
def laid_internal_strconv_uint64pow10 {H : Type} : DataW H := .agg [.lit (.int .u64 1), .lit (.int .u64 10), .lit (.int .u64 100), .lit (.int .u64 1000), .lit (.int .u64 10000), .lit (.int .u64 100000), .lit (.int .u64 1000000), .lit (.int .u64 10000000), .lit (.int .u64 100000000), .lit (.int .u64 1000000000), .lit (.int .u64 10000000000), .lit (.int .u64 100000000000), .lit (.int .u64 1000000000000), .lit (.int .u64 10000000000000), .lit (.int .u64 100000000000000), .lit (.int .u64 1000000000000000), .lit (.int .u64 10000000000000000), .lit (.int .u64 100000000000000000), .lit (.int .u64 1000000000000000000), .lit (.int .u64 10000000000000000000)]

/-- 'levylaw4.WordsScans': WHATEVER THE INPUT: true; the input reads as it did. -/
def wordsScansSpec : ChangeSpec := { name := "wordsScans", fn := fun _ => fun
  | [d] => { results := [.lit (.bool true)], args := [d] }
  | _ => none }
def wordsScansRow : OpenClaim := { program := "ytidbcenbcllfnaadoor", sum := "0b3ff59bcfa17d37baef70499e911b3fc9a6fa8fc9e0a20463bcfff4b17022ee", func := "levy/levylaw4.WordsScans", spec := "wordsScans", inPlace := ["internal/bytealg.IndexByteString", "internal/bytealg.IndexString"], unfollowed := true, recurses := true, named := ["levy/words.classes", "levy/days.lengths", "unicode/utf8.first", "unicode/utf8.acceptRanges", "levy/levyref4.signs", "internal/bytealg.MaxLen"], apart := false, laid := [("unicode/utf8.acceptRanges", laid_unicode_utf8_acceptRanges), ("levy/days.lengths", laid_levy_days_lengths), ("levy/levyref4.signs", laid_levy_levyref4_signs), ("levy/words.classes", laid_levy_words_classes), ("unicode/utf8.first", laid_unicode_utf8_first)] }
def WordsScansSaid : Prop := wordsScansRow.holds Tryd.pinned (OpenSpec.ofChange wordsScansSpec)

/-- ITS FALSE NEIGHBOUR: 'it returns false'. Refute it at one input. -/
def wordsScansWrong : ChangeSpec := { name := "wordsScans", fn := fun _ => fun
  | [d] => { results := [.lit (.bool false)], args := [d] }
  | _ => none }
def WordsScansWrongFalsely : Prop := wordsScansRow.holds Tryd.pinned (OpenSpec.ofChange wordsScansWrong)

/-- 'levylaw4.WordsPlaces': WHATEVER THE INPUT: true; the input reads as it did. -/
def wordsPlacesSpec : ChangeSpec := { name := "wordsPlaces", fn := fun _ => fun
  | [d] => { results := [.lit (.bool true)], args := [d] }
  | _ => none }
def wordsPlacesRow : OpenClaim := { program := "ytidbcenbcllfnaadoor", sum := "0b3ff59bcfa17d37baef70499e911b3fc9a6fa8fc9e0a20463bcfff4b17022ee", func := "levy/levylaw4.WordsPlaces", spec := "wordsPlaces", inPlace := ["internal/bytealg.IndexByteString", "internal/bytealg.IndexString"], unfollowed := true, recurses := true, named := ["levy/words.classes", "levy/days.lengths", "unicode/utf8.first", "unicode/utf8.acceptRanges", "internal/bytealg.MaxLen"], apart := false, laid := [("unicode/utf8.acceptRanges", laid_unicode_utf8_acceptRanges), ("levy/days.lengths", laid_levy_days_lengths), ("levy/words.classes", laid_levy_words_classes), ("unicode/utf8.first", laid_unicode_utf8_first)] }
def WordsPlacesSaid : Prop := wordsPlacesRow.holds Tryd.pinned (OpenSpec.ofChange wordsPlacesSpec)

/-- ITS FALSE NEIGHBOUR: 'it returns false'. Refute it at one input. -/
def wordsPlacesWrong : ChangeSpec := { name := "wordsPlaces", fn := fun _ => fun
  | [d] => { results := [.lit (.bool false)], args := [d] }
  | _ => none }
def WordsPlacesWrongFalsely : Prop := wordsPlacesRow.holds Tryd.pinned (OpenSpec.ofChange wordsPlacesWrong)

/-- 'levylaw4.WordsJoins': WHATEVER THE INPUT: true; the input reads as it did. -/
def wordsJoinsSpec : ChangeSpec := { name := "wordsJoins", fn := fun _ => fun
  | [d1, d2] => { results := [.lit (.bool true)], args := [d1, d2] }
  | _ => none }
def wordsJoinsRow : OpenClaim := { program := "ytidbcenbcllfnaadoor", sum := "0b3ff59bcfa17d37baef70499e911b3fc9a6fa8fc9e0a20463bcfff4b17022ee", func := "levy/levylaw4.WordsJoins", spec := "wordsJoins", inPlace := ["internal/bytealg.IndexByteString", "internal/bytealg.IndexString"], unfollowed := true, recurses := true, named := ["levy/words.classes", "levy/days.lengths", "unicode/utf8.first", "unicode/utf8.acceptRanges", "internal/bytealg.MaxLen"], apart := false, laid := [("unicode/utf8.acceptRanges", laid_unicode_utf8_acceptRanges), ("levy/days.lengths", laid_levy_days_lengths), ("levy/words.classes", laid_levy_words_classes), ("unicode/utf8.first", laid_unicode_utf8_first)] }
def WordsJoinsSaid : Prop := wordsJoinsRow.holds Tryd.pinned (OpenSpec.ofChange wordsJoinsSpec)

/-- ITS FALSE NEIGHBOUR: 'it returns false'. Refute it at one input. -/
def wordsJoinsWrong : ChangeSpec := { name := "wordsJoins", fn := fun _ => fun
  | [d1, d2] => { results := [.lit (.bool false)], args := [d1, d2] }
  | _ => none }
def WordsJoinsWrongFalsely : Prop := wordsJoinsRow.holds Tryd.pinned (OpenSpec.ofChange wordsJoinsWrong)

/-- 'levylaw4.WordsTokens': WHATEVER THE INPUT: true; the input reads as it did. -/
def wordsTokensSpec : ChangeSpec := { name := "wordsTokens", fn := fun _ => fun
  | [d1, d2] => { results := [.lit (.bool true)], args := [d1, d2] }
  | _ => none }
def wordsTokensRow : OpenClaim := { program := "ytidbcenbcllfnaadoor", sum := "0b3ff59bcfa17d37baef70499e911b3fc9a6fa8fc9e0a20463bcfff4b17022ee", func := "levy/levylaw4.WordsTokens", spec := "wordsTokens", inPlace := ["internal/bytealg.IndexByteString", "internal/bytealg.IndexString"], unfollowed := true, recurses := true, named := ["levy/levyref4.signs", "levy/words.classes", "levy/days.lengths", "unicode/utf8.first", "unicode/utf8.acceptRanges", "internal/bytealg.MaxLen"], apart := false, laid := [("unicode/utf8.acceptRanges", laid_unicode_utf8_acceptRanges), ("levy/days.lengths", laid_levy_days_lengths), ("levy/levyref4.signs", laid_levy_levyref4_signs), ("levy/words.classes", laid_levy_words_classes), ("unicode/utf8.first", laid_unicode_utf8_first)] }
def WordsTokensSaid : Prop := wordsTokensRow.holds Tryd.pinned (OpenSpec.ofChange wordsTokensSpec)

/-- ITS FALSE NEIGHBOUR: 'it returns false'. Refute it at one input. -/
def wordsTokensWrong : ChangeSpec := { name := "wordsTokens", fn := fun _ => fun
  | [d1, d2] => { results := [.lit (.bool false)], args := [d1, d2] }
  | _ => none }
def WordsTokensWrongFalsely : Prop := wordsTokensRow.holds Tryd.pinned (OpenSpec.ofChange wordsTokensWrong)

/-- 'levylaw4.WordsTexts': WHATEVER THE INPUT: true; the input reads as it did. -/
def wordsTextsSpec : ChangeSpec := { name := "wordsTexts", fn := fun _ => fun
  | [d1, d2, d3, d4] => { results := [.lit (.bool true)], args := [d1, d2, d3, d4] }
  | _ => none }
def wordsTextsRow : OpenClaim := { program := "ytidbcenbcllfnaadoor", sum := "0b3ff59bcfa17d37baef70499e911b3fc9a6fa8fc9e0a20463bcfff4b17022ee", func := "levy/levylaw4.WordsTexts", spec := "wordsTexts", inPlace := ["internal/bytealg.IndexByteString", "internal/bytealg.IndexString"], named := ["internal/strconv.uint64pow10", "math/bits.deBruijn32tab", "math/bits.deBruijn64tab", "unicode/utf8.first", "unicode/utf8.acceptRanges", "internal/bytealg.MaxLen"], apart := false, laid := [("math/bits.deBruijn32tab", laid_math_bits_deBruijn32tab), ("math/bits.deBruijn64tab", laid_math_bits_deBruijn64tab), ("internal/strconv.uint64pow10", laid_internal_strconv_uint64pow10), ("unicode/utf8.acceptRanges", laid_unicode_utf8_acceptRanges), ("unicode/utf8.first", laid_unicode_utf8_first)] }
def WordsTextsSaid : Prop := wordsTextsRow.holds Tryd.pinned (OpenSpec.ofChange wordsTextsSpec)

/-- ITS FALSE NEIGHBOUR: 'it returns false'. Refute it at one input. -/
def wordsTextsWrong : ChangeSpec := { name := "wordsTexts", fn := fun _ => fun
  | [d1, d2, d3, d4] => { results := [.lit (.bool false)], args := [d1, d2, d3, d4] }
  | _ => none }
def WordsTextsWrongFalsely : Prop := wordsTextsRow.holds Tryd.pinned (OpenSpec.ofChange wordsTextsWrong)

/-- 'levylaw4.WordsNumbers': WHATEVER THE INPUT: true; the input reads as it did. -/
def wordsNumbersSpec : ChangeSpec := { name := "wordsNumbers", fn := fun _ => fun
  | [d1, d2, d3] => { results := [.lit (.bool true)], args := [d1, d2, d3] }
  | _ => none }
def wordsNumbersRow : OpenClaim := { program := "ytidbcenbcllfnaadoor", sum := "0b3ff59bcfa17d37baef70499e911b3fc9a6fa8fc9e0a20463bcfff4b17022ee", func := "levy/levylaw4.WordsNumbers", spec := "wordsNumbers", inPlace := ["internal/bytealg.IndexByteString", "internal/bytealg.IndexString"], unfollowed := true, recurses := true, named := ["levy/words.classes", "levy/days.lengths", "unicode/utf8.first", "unicode/utf8.acceptRanges", "internal/strconv.uint64pow10", "math/bits.deBruijn32tab", "math/bits.deBruijn64tab", "internal/bytealg.MaxLen"], apart := false, laid := [("math/bits.deBruijn32tab", laid_math_bits_deBruijn32tab), ("math/bits.deBruijn64tab", laid_math_bits_deBruijn64tab), ("internal/strconv.uint64pow10", laid_internal_strconv_uint64pow10), ("unicode/utf8.acceptRanges", laid_unicode_utf8_acceptRanges), ("levy/days.lengths", laid_levy_days_lengths), ("levy/words.classes", laid_levy_words_classes), ("unicode/utf8.first", laid_unicode_utf8_first)] }
def WordsNumbersSaid : Prop := wordsNumbersRow.holds Tryd.pinned (OpenSpec.ofChange wordsNumbersSpec)

/-- ITS FALSE NEIGHBOUR: 'it returns false'. Refute it at one input. -/
def wordsNumbersWrong : ChangeSpec := { name := "wordsNumbers", fn := fun _ => fun
  | [d1, d2, d3] => { results := [.lit (.bool false)], args := [d1, d2, d3] }
  | _ => none }
def WordsNumbersWrongFalsely : Prop := wordsNumbersRow.holds Tryd.pinned (OpenSpec.ofChange wordsNumbersWrong)

/-- 'levylaw4.WordsRound': WHATEVER THE INPUT: true; the input reads as it did. -/
def wordsRoundSpec : ChangeSpec := { name := "wordsRound", fn := fun _ => fun
  | [d] => { results := [.lit (.bool true)], args := [d] }
  | _ => none }
def wordsRoundRow : OpenClaim := { program := "ytidbcenbcllfnaadoor", sum := "0b3ff59bcfa17d37baef70499e911b3fc9a6fa8fc9e0a20463bcfff4b17022ee", func := "levy/levylaw4.WordsRound", spec := "wordsRound", inPlace := ["internal/bytealg.IndexByteString", "internal/bytealg.IndexString", "internal/abi.NoEscape"], unfollowed := true, recurses := true, named := ["levy/words.classes", "levy/days.lengths", "unicode/utf8.first", "unicode/utf8.acceptRanges", "internal/strconv.uint64pow10", "math/bits.deBruijn32tab", "math/bits.deBruijn64tab", "internal/bytealg.MaxLen"], apart := false, laid := [("math/bits.deBruijn32tab", laid_math_bits_deBruijn32tab), ("math/bits.deBruijn64tab", laid_math_bits_deBruijn64tab), ("internal/strconv.uint64pow10", laid_internal_strconv_uint64pow10), ("unicode/utf8.acceptRanges", laid_unicode_utf8_acceptRanges), ("levy/days.lengths", laid_levy_days_lengths), ("levy/words.classes", laid_levy_words_classes), ("unicode/utf8.first", laid_unicode_utf8_first)] }
def WordsRoundSaid : Prop := wordsRoundRow.holds Tryd.pinned (OpenSpec.ofChange wordsRoundSpec)

/-- ITS FALSE NEIGHBOUR: 'it returns false'. Refute it at one input. -/
def wordsRoundWrong : ChangeSpec := { name := "wordsRound", fn := fun _ => fun
  | [d] => { results := [.lit (.bool false)], args := [d] }
  | _ => none }
def WordsRoundWrongFalsely : Prop := wordsRoundRow.holds Tryd.pinned (OpenSpec.ofChange wordsRoundWrong)

/-- 'levylaw4.WordsBack': WHATEVER THE INPUT: true; the input reads as it did. -/
def wordsBackSpec : ChangeSpec := { name := "wordsBack", fn := fun _ => fun
  | [d] => { results := [.lit (.bool true)], args := [d] }
  | _ => none }
def wordsBackRow : OpenClaim := { program := "ytidbcenbcllfnaadoor", sum := "0b3ff59bcfa17d37baef70499e911b3fc9a6fa8fc9e0a20463bcfff4b17022ee", func := "levy/levylaw4.WordsBack", spec := "wordsBack", inPlace := ["internal/bytealg.IndexByteString", "internal/bytealg.IndexString", "internal/abi.NoEscape"], unfollowed := true, recurses := true, named := ["levy/words.classes", "levy/days.lengths", "unicode/utf8.first", "unicode/utf8.acceptRanges", "internal/strconv.uint64pow10", "math/bits.deBruijn32tab", "math/bits.deBruijn64tab", "internal/bytealg.MaxLen"], apart := false, laid := [("math/bits.deBruijn32tab", laid_math_bits_deBruijn32tab), ("math/bits.deBruijn64tab", laid_math_bits_deBruijn64tab), ("internal/strconv.uint64pow10", laid_internal_strconv_uint64pow10), ("unicode/utf8.acceptRanges", laid_unicode_utf8_acceptRanges), ("levy/days.lengths", laid_levy_days_lengths), ("levy/words.classes", laid_levy_words_classes), ("unicode/utf8.first", laid_unicode_utf8_first)] }
def WordsBackSaid : Prop := wordsBackRow.holds Tryd.pinned (OpenSpec.ofChange wordsBackSpec)

/-- ITS FALSE NEIGHBOUR: 'it returns false'. Refute it at one input. -/
def wordsBackWrong : ChangeSpec := { name := "wordsBack", fn := fun _ => fun
  | [d] => { results := [.lit (.bool false)], args := [d] }
  | _ => none }
def WordsBackWrongFalsely : Prop := wordsBackRow.holds Tryd.pinned (OpenSpec.ofChange wordsBackWrong)

/- THE SECOND FORM. 'bulk': how many values and letters a reading holds, each counted each time it is reached (what is shared counts as often as it is met; a slice's spare places count too). A statement '..UptoSaid' is the law's where the arguments, and the package variables that the reading takes, are together of bulk at most 1048576: NARROWER than '..Said'. Prove '..Said' where nothing that the law and all that it calls make is longer than what came in: it says more and counts as full. Else prove '..UptoSaid'. A law counts once. -/
mutual
def uptoBulk {H : Type} : DataW H → Nat
  | .lit (.string bytes) => bytes.length + 1
  | .lit _ => 1
  | .nil => 1
  | .ptr d => uptoBulk d + 1
  | .slice elems spare => uptoBulkAll elems + uptoBulkAll spare + 1
  | .agg parts => uptoBulkAll parts + 1
  | .iface _ d => uptoBulk d + 1
  | .map entries => uptoBulkEntries entries + 1
  | .held _ => 1
def uptoBulkAll {H : Type} : List (DataW H) → Nat
  | [] => 0
  | d :: r => uptoBulk d + uptoBulkAll r
def uptoBulkEntries {H : Type} : List (Lit × DataW H) → Nat
  | [] => 0
  | x :: r => uptoBulkEntry x + uptoBulkEntries r
def uptoBulkEntry {H : Type} : Lit × DataW H → Nat
  | (.string bytes, d) => bytes.length + uptoBulk d + 1
  | (_, d) => uptoBulk d + 1
 end
def uptoSmall : (H : Type) → List (DataW H) → Bool := fun _ ds => decide (uptoBulkAll ds ≤ 1048576)
def OpenSpec.upto (s : _root_.Go.ChangeSpec) : _root_.Go.OpenSpec := { _root_.Go.OpenSpec.ofChange s with cond := some uptoSmall }

/-- 'levylaw4.WordsScans', WHERE WHAT IT READS IS OF BULK AT MOST 1048576: true; the input reads as it did. -/
def wordsScansUptoRow : OpenClaim := { program := "ytidbcenbcllfnaadoor", sum := "0b3ff59bcfa17d37baef70499e911b3fc9a6fa8fc9e0a20463bcfff4b17022ee", func := "levy/levylaw4.WordsScans", spec := "wordsScans", inPlace := ["internal/bytealg.IndexByteString", "internal/bytealg.IndexString"], unfollowed := true, recurses := true, named := ["levy/words.classes", "levy/days.lengths", "unicode/utf8.first", "unicode/utf8.acceptRanges", "levy/levyref4.signs", "internal/bytealg.MaxLen"], apart := false, laid := [("unicode/utf8.acceptRanges", laid_unicode_utf8_acceptRanges), ("levy/days.lengths", laid_levy_days_lengths), ("levy/levyref4.signs", laid_levy_levyref4_signs), ("levy/words.classes", laid_levy_words_classes), ("unicode/utf8.first", laid_unicode_utf8_first)], narrowed := true }
def WordsScansUptoSaid : Prop := wordsScansUptoRow.holds Tryd.pinned (OpenSpec.upto wordsScansSpec)

/-- 'levylaw4.WordsPlaces', WHERE WHAT IT READS IS OF BULK AT MOST 1048576: true; the input reads as it did. -/
def wordsPlacesUptoRow : OpenClaim := { program := "ytidbcenbcllfnaadoor", sum := "0b3ff59bcfa17d37baef70499e911b3fc9a6fa8fc9e0a20463bcfff4b17022ee", func := "levy/levylaw4.WordsPlaces", spec := "wordsPlaces", inPlace := ["internal/bytealg.IndexByteString", "internal/bytealg.IndexString"], unfollowed := true, recurses := true, named := ["levy/words.classes", "levy/days.lengths", "unicode/utf8.first", "unicode/utf8.acceptRanges", "internal/bytealg.MaxLen"], apart := false, laid := [("unicode/utf8.acceptRanges", laid_unicode_utf8_acceptRanges), ("levy/days.lengths", laid_levy_days_lengths), ("levy/words.classes", laid_levy_words_classes), ("unicode/utf8.first", laid_unicode_utf8_first)], narrowed := true }
def WordsPlacesUptoSaid : Prop := wordsPlacesUptoRow.holds Tryd.pinned (OpenSpec.upto wordsPlacesSpec)

/-- 'levylaw4.WordsJoins', WHERE WHAT IT READS IS OF BULK AT MOST 1048576: true; the input reads as it did. -/
def wordsJoinsUptoRow : OpenClaim := { program := "ytidbcenbcllfnaadoor", sum := "0b3ff59bcfa17d37baef70499e911b3fc9a6fa8fc9e0a20463bcfff4b17022ee", func := "levy/levylaw4.WordsJoins", spec := "wordsJoins", inPlace := ["internal/bytealg.IndexByteString", "internal/bytealg.IndexString"], unfollowed := true, recurses := true, named := ["levy/words.classes", "levy/days.lengths", "unicode/utf8.first", "unicode/utf8.acceptRanges", "internal/bytealg.MaxLen"], apart := false, laid := [("unicode/utf8.acceptRanges", laid_unicode_utf8_acceptRanges), ("levy/days.lengths", laid_levy_days_lengths), ("levy/words.classes", laid_levy_words_classes), ("unicode/utf8.first", laid_unicode_utf8_first)], narrowed := true }
def WordsJoinsUptoSaid : Prop := wordsJoinsUptoRow.holds Tryd.pinned (OpenSpec.upto wordsJoinsSpec)

/-- 'levylaw4.WordsTokens', WHERE WHAT IT READS IS OF BULK AT MOST 1048576: true; the input reads as it did. -/
def wordsTokensUptoRow : OpenClaim := { program := "ytidbcenbcllfnaadoor", sum := "0b3ff59bcfa17d37baef70499e911b3fc9a6fa8fc9e0a20463bcfff4b17022ee", func := "levy/levylaw4.WordsTokens", spec := "wordsTokens", inPlace := ["internal/bytealg.IndexByteString", "internal/bytealg.IndexString"], unfollowed := true, recurses := true, named := ["levy/levyref4.signs", "levy/words.classes", "levy/days.lengths", "unicode/utf8.first", "unicode/utf8.acceptRanges", "internal/bytealg.MaxLen"], apart := false, laid := [("unicode/utf8.acceptRanges", laid_unicode_utf8_acceptRanges), ("levy/days.lengths", laid_levy_days_lengths), ("levy/levyref4.signs", laid_levy_levyref4_signs), ("levy/words.classes", laid_levy_words_classes), ("unicode/utf8.first", laid_unicode_utf8_first)], narrowed := true }
def WordsTokensUptoSaid : Prop := wordsTokensUptoRow.holds Tryd.pinned (OpenSpec.upto wordsTokensSpec)

/-- 'levylaw4.WordsTexts', WHERE WHAT IT READS IS OF BULK AT MOST 1048576: true; the input reads as it did. -/
def wordsTextsUptoRow : OpenClaim := { program := "ytidbcenbcllfnaadoor", sum := "0b3ff59bcfa17d37baef70499e911b3fc9a6fa8fc9e0a20463bcfff4b17022ee", func := "levy/levylaw4.WordsTexts", spec := "wordsTexts", inPlace := ["internal/bytealg.IndexByteString", "internal/bytealg.IndexString"], named := ["internal/strconv.uint64pow10", "math/bits.deBruijn32tab", "math/bits.deBruijn64tab", "unicode/utf8.first", "unicode/utf8.acceptRanges", "internal/bytealg.MaxLen"], apart := false, laid := [("math/bits.deBruijn32tab", laid_math_bits_deBruijn32tab), ("math/bits.deBruijn64tab", laid_math_bits_deBruijn64tab), ("internal/strconv.uint64pow10", laid_internal_strconv_uint64pow10), ("unicode/utf8.acceptRanges", laid_unicode_utf8_acceptRanges), ("unicode/utf8.first", laid_unicode_utf8_first)], narrowed := true }
def WordsTextsUptoSaid : Prop := wordsTextsUptoRow.holds Tryd.pinned (OpenSpec.upto wordsTextsSpec)

/-- 'levylaw4.WordsNumbers', WHERE WHAT IT READS IS OF BULK AT MOST 1048576: true; the input reads as it did. -/
def wordsNumbersUptoRow : OpenClaim := { program := "ytidbcenbcllfnaadoor", sum := "0b3ff59bcfa17d37baef70499e911b3fc9a6fa8fc9e0a20463bcfff4b17022ee", func := "levy/levylaw4.WordsNumbers", spec := "wordsNumbers", inPlace := ["internal/bytealg.IndexByteString", "internal/bytealg.IndexString"], unfollowed := true, recurses := true, named := ["levy/words.classes", "levy/days.lengths", "unicode/utf8.first", "unicode/utf8.acceptRanges", "internal/strconv.uint64pow10", "math/bits.deBruijn32tab", "math/bits.deBruijn64tab", "internal/bytealg.MaxLen"], apart := false, laid := [("math/bits.deBruijn32tab", laid_math_bits_deBruijn32tab), ("math/bits.deBruijn64tab", laid_math_bits_deBruijn64tab), ("internal/strconv.uint64pow10", laid_internal_strconv_uint64pow10), ("unicode/utf8.acceptRanges", laid_unicode_utf8_acceptRanges), ("levy/days.lengths", laid_levy_days_lengths), ("levy/words.classes", laid_levy_words_classes), ("unicode/utf8.first", laid_unicode_utf8_first)], narrowed := true }
def WordsNumbersUptoSaid : Prop := wordsNumbersUptoRow.holds Tryd.pinned (OpenSpec.upto wordsNumbersSpec)

/-- 'levylaw4.WordsRound', WHERE WHAT IT READS IS OF BULK AT MOST 1048576: true; the input reads as it did. -/
def wordsRoundUptoRow : OpenClaim := { program := "ytidbcenbcllfnaadoor", sum := "0b3ff59bcfa17d37baef70499e911b3fc9a6fa8fc9e0a20463bcfff4b17022ee", func := "levy/levylaw4.WordsRound", spec := "wordsRound", inPlace := ["internal/bytealg.IndexByteString", "internal/bytealg.IndexString", "internal/abi.NoEscape"], unfollowed := true, recurses := true, named := ["levy/words.classes", "levy/days.lengths", "unicode/utf8.first", "unicode/utf8.acceptRanges", "internal/strconv.uint64pow10", "math/bits.deBruijn32tab", "math/bits.deBruijn64tab", "internal/bytealg.MaxLen"], apart := false, laid := [("math/bits.deBruijn32tab", laid_math_bits_deBruijn32tab), ("math/bits.deBruijn64tab", laid_math_bits_deBruijn64tab), ("internal/strconv.uint64pow10", laid_internal_strconv_uint64pow10), ("unicode/utf8.acceptRanges", laid_unicode_utf8_acceptRanges), ("levy/days.lengths", laid_levy_days_lengths), ("levy/words.classes", laid_levy_words_classes), ("unicode/utf8.first", laid_unicode_utf8_first)], narrowed := true }
def WordsRoundUptoSaid : Prop := wordsRoundUptoRow.holds Tryd.pinned (OpenSpec.upto wordsRoundSpec)

/-- 'levylaw4.WordsBack', WHERE WHAT IT READS IS OF BULK AT MOST 1048576: true; the input reads as it did. -/
def wordsBackUptoRow : OpenClaim := { program := "ytidbcenbcllfnaadoor", sum := "0b3ff59bcfa17d37baef70499e911b3fc9a6fa8fc9e0a20463bcfff4b17022ee", func := "levy/levylaw4.WordsBack", spec := "wordsBack", inPlace := ["internal/bytealg.IndexByteString", "internal/bytealg.IndexString", "internal/abi.NoEscape"], unfollowed := true, recurses := true, named := ["levy/words.classes", "levy/days.lengths", "unicode/utf8.first", "unicode/utf8.acceptRanges", "internal/strconv.uint64pow10", "math/bits.deBruijn32tab", "math/bits.deBruijn64tab", "internal/bytealg.MaxLen"], apart := false, laid := [("math/bits.deBruijn32tab", laid_math_bits_deBruijn32tab), ("math/bits.deBruijn64tab", laid_math_bits_deBruijn64tab), ("internal/strconv.uint64pow10", laid_internal_strconv_uint64pow10), ("unicode/utf8.acceptRanges", laid_unicode_utf8_acceptRanges), ("levy/days.lengths", laid_levy_days_lengths), ("levy/words.classes", laid_levy_words_classes), ("unicode/utf8.first", laid_unicode_utf8_first)], narrowed := true }
def WordsBackUptoSaid : Prop := wordsBackUptoRow.holds Tryd.pinned (OpenSpec.upto wordsBackSpec)

end Rows
end Go.Proofs.YtidbcenbcllfnaaDoor
