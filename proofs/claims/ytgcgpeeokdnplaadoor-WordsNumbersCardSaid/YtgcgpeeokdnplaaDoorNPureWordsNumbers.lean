/- WordsNumbers, the pure law: the texts of amounts and ratios are scanned as these numbers. No condition beyond the given ones (the numbers are 64-bit numbers). -/
import Derived.Test.YtgcgpeeokdnplaaDoorNG
import Derived.Test.YtgcgpeeokdnplaaDoorNPAx0
import Derived.Test.YtgcgpeeokdnplaaDoorNPAx2
import Derived.Test.YtgcgpeeokdnplaaDoorNPAx18
namespace Go.Proofs.YtgcgpeeokdnplaaDoor.Gr
open Go.RowKit Go.Proofs.YtgcgpeeokdnplaaDoorW.PrintWords Go.Proofs.YtgcgpeeokdnplaaDoorW.PrintLast Go.Proofs.YtgcgpeeokdnplaaDoor.PA Go.Proofs.YtgcgpeeokdnplaaDoor.Dig Go.Lib
open Go.Proofs.YtgcgpeeokdnplaaDoor.Pure (amountL perS wamount_p wper_p)
set_option linter.unusedVariables false
set_option linter.unusedSectionVars false
theorem bd64 {x : Int} (h : (Lit.int .i64 x).wf = true) : -9223372036854775808 ≤ x ∧ x ≤ 9223372036854775807 := by
  simpa [Lit.wf, IntKind.min, IntKind.max, IntKind.signed, IntKind.bits] using h
theorem wordsNumbers : levylaw4_WordsNumbers.Pure := by
  have hk := known_ev
  have hper := percent_p
  intro c a b hc ha hb
  have hc := bd64 hc
  have ha := bd64 ha
  have hb := bd64 hb
  obtain ⟨K0, hK0⟩ := hk
  have hnum : ∀ x, levylaw4_num.f x = some x := fun x => rfl
  -- the ratio
  have h1 : Ev (fun k => levylaw4_WordsNumbers.j1 k a b) true := by
    obtain ⟨K, hK⟩ := hper a b
    refine ⟨K + 1, fun k hk => ?_⟩
    obtain ⟨m, rfl⟩ : ∃ m, k = m + 1 := ⟨k - 1, by omega⟩
    have h := hK m (by omega)
    dsimp only at h
    show levylaw4_WordsNumbers.j1 (m + 1) a b = _
    simp only [levylaw4_WordsNumbers.j1]
    rw [h, Option.bind_some]
    cases hp : (perT a b).2 with
    | false =>
      rw [if_neg (by decide), perT_no hp, nil_toList]
      rfl
    | true =>
      obtain ⟨n, d, rfl, rfl, hn, hd, hd9, hw, ht⟩ := perT_yes hp
      obtain ⟨n', d', hok, he, hx⟩ := per_low hn hd hd9 hw
      have hsc := scan_word (per_mk hok) (by have := per_len hok; omega)
      have w1 : wrap64 ((n : Int) * (d' : Int)) = wrap64 ((n' : Int) * (d : Int)) := by
        rw [← Int.natCast_mul, ← Int.natCast_mul, hx]
      rw [if_pos rfl, ht, he, hsc, Option.bind_some, hnum, Option.bind_some, if_pos rfl]
      dsimp only
      have e0 : rd_T30 [(⟨4, 0, ⟨#[]⟩, n', d'⟩ : S30), endT (perA n' d').length] 0 = ⟨4, 0, ⟨#[]⟩, n', d'⟩ := rfl
      have hd1 := hok.d1
      rw [e0, if_pos (by simp), if_pos (by simp), if_pos rfl, if_neg (by dsimp only; omega), if_pos (by omega), if_pos (by omega), if_pos (by omega), if_pos (by omega)]
      dsimp only
      rw [w1, beq_self_eq_true]
  obtain ⟨K1, hK1⟩ := h1
  -- the amount
  have h0 : ∀ g : Bool, (g = true → 0 ≤ c ∧ c ≤ 9999999999999) → Ev (fun k => levylaw4_WordsNumbers.j0 k c a b g) true := by
    intro g hg
    cases g with
    | false =>
      refine ⟨K1 + 1, fun k hk => ?_⟩
      obtain ⟨m, rfl⟩ : ∃ m, k = m + 1 := ⟨k - 1, by omega⟩
      have h := hK1 m (by omega)
      dsimp only at h
      show levylaw4_WordsNumbers.j0 (m + 1) c a b false = _
      simp only [levylaw4_WordsNumbers.j0, Bool.false_eq_true, if_false]
      exact h
    | true =>
      obtain ⟨g1, g2⟩ := hg rfl
      obtain ⟨n, rfl⟩ : ∃ n : Nat, c = n := ⟨c.toNat, by omega⟩
      obtain ⟨K, hK⟩ := wamount_p (n : Int) (by omega) (by omega)
      have ht : B (amountL (decide ((n : Int) < 0)) (n : Int).natAbs) = bA (amountA n) := by
        rw [decide_eq_false (by omega)]
        rfl
      rw [ht] at hK
      have hl : (amountA n).length ≤ 8000 := by
        have := dec_len20 (u := n / 100) (by omega)
        unfold amountA
        rw [List.length_append]
        simp
        omega
      have hsc := scan_word (amount_mk (n := n) (by omega)) hl
      refine ⟨K + K1 + 1, fun k hk => ?_⟩
      obtain ⟨m, rfl⟩ : ∃ m, k = m + 1 := ⟨k - 1, by omega⟩
      have h := hK1 m (by omega)
      have h2 := hK m (by omega)
      dsimp only at h h2
      show levylaw4_WordsNumbers.j0 (m + 1) n a b true = _
      simp only [levylaw4_WordsNumbers.j0]
      have e0 : rd_T30 [(⟨2, 0, ⟨#[]⟩, n, 0⟩ : S30), endT (amountA n).length] 0 = ⟨2, 0, ⟨#[]⟩, n, 0⟩ := rfl
      have et := nil_toList
      rw [if_pos trivial, h2, Option.bind_some, hsc, Option.bind_some, hnum, Option.bind_some, if_pos rfl, e0, h]
      dsimp only
      rw [if_pos (by simp), if_pos (by simp), et, if_neg (by simp)]
  unfold levylaw4_WordsNumbers.f
  by_cases g : c ≥ 0
  · obtain ⟨K, hK⟩ := h0 (decide (c ≤ 9999999999999)) (fun h => ⟨g, of_decide_eq_true h⟩)
    refine ⟨K0 + K, ?_⟩
    have h := hK (K0 + K) (by omega)
    dsimp only at h
    rw [hK0 _ (by omega), Option.bind_some, if_pos rfl, if_pos g, h]
  · obtain ⟨K, hK⟩ := h0 false (fun h => by cases h)
    refine ⟨K0 + K, ?_⟩
    have h := hK (K0 + K) (by omega)
    dsimp only at h
    rw [hK0 _ (by omega), Option.bind_some, if_pos rfl, if_neg g, h]
end Go.Proofs.YtgcgpeeokdnplaaDoor.Gr
namespace Go.Proofs.YtgcgpeeokdnplaaDoor.Pure
open Go.Proofs.YtgcgpeeokdnplaaDoor.PA
theorem WordsNumbers : levylaw4_WordsNumbers.Pure := Gr.wordsNumbers
end Go.Proofs.YtgcgpeeokdnplaaDoor.Pure
namespace Go.Proofs.YtgcgpeeokdnplaaDoor.Gr
end Go.Proofs.YtgcgpeeokdnplaaDoor.Gr
