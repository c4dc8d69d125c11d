/- What the document's digits come to: turned, digitsOf, Amount. Conditions: each law's own. -/
import Derived.Test.YtgcgpeeokdnplaaDoorBWDig
import Derived.Test.YtgcgpeeokdnplaaDoorBPAx0
namespace Go.Proofs.YtgcgpeeokdnplaaDoor.Pure
open Go.RowKit Go.Lib Go.Proofs.YtgcgpeeokdnplaaDoorW.PrintWords Go.Proofs.YtgcgpeeokdnplaaDoorW.PrintLast Go.Proofs.YtgcgpeeokdnplaaDoor.PA Go.Proofs.YtgcgpeeokdnplaaDoor.Dig
set_option linter.unusedVariables false

theorem wr {x : Int} (h1 : -9223372036854775808 ≤ x) (h2 : x ≤ 9223372036854775807) : wrap64 x = x := by unfold wrap64; omega
/-- Bytes as numbers. -/
def numsB (l : List UInt8) : List Int := l.map fun b => (b.toNat : Int)
theorem strOf_numsB (l : List UInt8) : strOfNums (numsB l) = B l := by
  unfold numsB strOfNums B
  rw [List.map_map]
  congr 2
  rw [List.map_congr_left (g := id) (fun b _ => by simp), List.map_id]
theorem dec_len (u : Nat) (h : u < 18446744073709551616) : (decDigits u).length ≤ 20 := by
  rw [decDigits_length]
  by_cases h1 : 1 ≤ u
  · have := numDigits_eq u h1 h
    split at this <;> omega
  · rw [nDigits_small (by omega)]; omega

end Go.Proofs.YtgcgpeeokdnplaaDoor.Pure
