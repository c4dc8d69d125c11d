/- Amount: the program's and the document's texts of cents are the same. Conditions: each law's own. -/
import Derived.Test.YtgcgpeeokdnplaaDoorBWEvalP
import Derived.Test.YtgcgpeeokdnplaaDoorBPAx0
import Derived.Test.YtgcgpeeokdnplaaDoorBPAx9
namespace Go.Proofs.YtgcgpeeokdnplaaDoor.Pure
open Go.RowKit Go.Lib Go.Proofs.YtgcgpeeokdnplaaDoorW.PrintWords Go.Proofs.YtgcgpeeokdnplaaDoorW.PrintLast Go.Proofs.YtgcgpeeokdnplaaDoor.PA Go.Proofs.YtgcgpeeokdnplaaDoor.Dig
set_option linter.unusedVariables false

/-- The text of an amount. -/
def amountL (neg : Bool) (u : Nat) : List UInt8 := (if neg then [45] else []) ++ decDigits (u / 100) ++ [46, dig (u / 10 % 10), dig (u % 10)]

theorem fmtU (u : Nat) (h : u < 18446744073709551616) : strconv_FormatUint_15.f (u : Int) 10 = some (B (decDigits u)) := by
  unfold strconv_FormatUint_15.f
  rw [if_pos ⟨rfl, by omega, by omega⟩, Int.toNat_natCast]
  rfl

theorem two_digits (u : Nat) : (if u % 100 < 10 then [48] ++ decDigits (u % 100) else decDigits (u % 100)) = [dig (u / 10 % 10), dig (u % 10)] := by
  have e1 : u / 10 % 10 = u % 100 / 10 := by omega
  have e2 : u % 10 = u % 100 % 10 := by omega
  by_cases h : u % 100 < 10
  · rw [if_pos h, dec_small h, e1, e2, Nat.div_eq_of_lt h, Nat.mod_eq_of_lt h]; rfl
  · rw [if_neg h, dec_big h, dec_small (by omega), e1, e2]; rfl

theorem wamount_j (pre : List UInt8) (hp : pre.length ≤ 1) (u : Nat) (hb : u < 9223372036854775809) : Ev (fun k => words_Amount.j0 k (B pre) (u : Int)) (B (pre ++ decDigits (u / 100) ++ [46, dig (u / 10 % 10), dig (u % 10)])) := by
  refine ⟨1, fun k hk => ?_⟩
  obtain ⟨q, rfl⟩ : ∃ q, k = q + 1 := ⟨k - 1, by omega⟩
  have e1 : Int.tmod (u : Int) 100 = ((u % 100 : Nat) : Int) := by rw [Int.tmod_eq_emod_of_nonneg (by omega)]; omega
  have e2 : IntKind.u64.wrap (Int.tdiv (u : Int) 100) = ((u / 100 : Nat) : Int) := by rw [Int.tdiv_eq_ediv_of_nonneg (by omega), IntKind.wrap_u64]; omega
  have l1 := dec_len (u % 100) (by omega)
  have l2 := dec_len (u / 100) (by omega)
  have e46 : (⟨#[46]⟩ : ByteArray) = B [46] := rfl
  have e48 : (⟨#[48]⟩ : ByteArray) = B [48] := rfl
  show words_Amount.j0 (q + 1) (B pre) (u : Int) = _
  simp only [words_Amount.j0]
  rw [e1, e2, fmtU _ (by omega), fmtU _ (by omega)]
  simp only [Option.bind_some]
  rw [e46, e48, ← two_digits u]
  simp only [B_append, B_size, List.length_append, List.length_cons, List.length_nil]
  by_cases h : u % 100 < 10
  · rw [if_pos (by omega), if_pos (by omega), if_pos (by omega), if_pos (by omega), if_pos (by omega), if_pos h]
    simp
  · rw [if_neg (by omega), if_pos (by omega), if_pos (by omega), if_pos (by omega), if_neg h]
    simp

theorem wamount_p (c : Int) (h1 : -9223372036854775808 ≤ c) (h2 : c ≤ 9223372036854775807) : Ev (fun k => words_Amount.f k c) (B (amountL (decide (c < 0)) c.natAbs)) := by
  obtain ⟨u, hu⟩ : ∃ u, u = c.natAbs := ⟨_, rfl⟩
  rw [← hu]
  unfold amountL
  by_cases hc : c < 0
  · have e : IntKind.u64.wrap (-(IntKind.u64.wrap c)) = (u : Int) := by rw [IntKind.wrap_u64, IntKind.wrap_u64]; omega
    refine Ev.congr (f := fun k => words_Amount.j0 k (B [45]) (u : Int)) (fun k => by show words_Amount.f k c = _; unfold words_Amount.f; rw [if_pos hc, e]; rfl) ?_
    rw [decide_eq_true hc, if_pos rfl]
    exact wamount_j [45] (by decide) u (by omega)
  · have e : IntKind.u64.wrap c = (u : Int) := by rw [IntKind.wrap_u64]; omega
    refine Ev.congr (f := fun k => words_Amount.j0 k (B []) (u : Int)) (fun k => by show words_Amount.f k c = _; unfold words_Amount.f; rw [if_neg hc, e]; rfl) ?_
    rw [decide_eq_false hc, if_neg (by decide)]
    exact wamount_j [] (by decide) u (by omega)
end Go.Proofs.YtgcgpeeokdnplaaDoor.Pure
