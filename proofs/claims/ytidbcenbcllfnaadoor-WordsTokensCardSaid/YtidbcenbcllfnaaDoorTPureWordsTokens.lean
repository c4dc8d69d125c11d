/- WordsTokens, the pure law: what Tokens gives is what the document says, for every text and every stop. No condition beyond the given ones. -/
import Derived.Test.YtidbcenbcllfnaaDoorTPureScanF
import Derived.Test.YtidbcenbcllfnaaDoorTPAx20
namespace Go.Proofs.YtidbcenbcllfnaaDoor.Pure
set_option linter.unusedVariables false
open Go.RowKit Go.Proofs.YtidbcenbcllfnaaDoorW.PrintWords Go.Proofs.YtidbcenbcllfnaaDoorW.PrintLast Go.Proofs.YtidbcenbcllfnaaDoor.PA
/-- The words that the program gives, and the document. -/
theorem tokens_both (s : ByteArray) : ∃ (xs : List S33) (b c : Int), (∀ stop : Int, levylaw4_gone.f s stop 2 = some (PA.takeT xs stop, true)) ∧ xs.length < 1000000 ∧ Ev (fun k => levyref4_Upto.f k s) (xs, b, c) := by
  by_cases h : 8000 < s.size
  · refine ⟨[], 0, 40, fun stop => ?_, by show 0 < _; omega, ⟨0, fun k _ => ?_⟩⟩
    · have e : PA.takeT ([] : List S33) stop = [] := by unfold PA.takeT; split <;> simp
      unfold levylaw4_gone.f
      rw [if_pos rfl, if_pos h, e]
    · show levyref4_Upto.f k s = _
      unfold levyref4_Upto.f
      rw [if_pos (by omega)]
  · obtain ⟨q, h1, K, hK⟩ := upto_go (s := s) (by omega) (2 * s.size + 2) 0 false [] (by rw [if_neg (by decide)]; omega) (by omega) (by simp; omega)
    have hl := (runG_gives _ _ _ _ h1).2
    refine ⟨q.1, if q.2.2.2.1 = 0 then 0 else q.2.2.2.2, q.2.2.2.1, fun stop => ?_, by omega, ⟨K, fun k hk => ?_⟩⟩
    · unfold levylaw4_gone.f
      rw [if_pos rfl, if_neg h, h1, Option.bind_some]
    · have h2 := hK k hk
      dsimp only at h2
      show levyref4_Upto.f k s = _
      unfold levyref4_Upto.f
      have h2 : levyref4_Upto.l0 k s [] false 0 = _ := h2
      rw [if_neg (by omega), h2]
      unfold endR
      rw [List.nil_append]
theorem WordsTokens : levylaw4_WordsTokens.Pure := by
  intro s stop _ _
  obtain ⟨xs, b, c, hg, hl, K1, hK1⟩ := tokens_both s
  obtain ⟨K2, hK2⟩ := same_list xs hl
  obtain ⟨K3, hK3⟩ := same_list (xs.take stop.toNat) (by rw [List.length_take]; omega)
  refine ⟨K1 + K2 + K3 + 2, ?_⟩
  have h1 := hK1 (K1 + K2 + K3 + 2) (by omega)
  have h2 := hK2 (K1 + K2 + K3 + 2) (by omega)
  have h3 := hK3 (K1 + K2 + K3) (by omega)
  dsimp only at h1 h2 h3
  generalize K1 + K2 + K3 = k at *
  unfold levylaw4_WordsTokens.f
  by_cases h : (s.size : Int) > 65536
  · rw [if_pos h]
  · have e0 : PA.takeT xs 0 = xs := by unfold PA.takeT; rw [if_neg (by decide)]
    rw [if_neg h, h1, Option.bind_some, hg 0, Option.bind_some, if_pos rfl, e0, h2, Option.bind_some]
    show levylaw4_WordsTokens.j0 (k + 2) s stop xs (!true) = some true
    simp only [levylaw4_WordsTokens.j0]
    rw [if_neg (by decide)]
    by_cases hs : stop < 1
    · rw [if_pos hs]
      show levylaw4_WordsTokens.j1 (k + 1) s stop xs true = some true
      simp only [levylaw4_WordsTokens.j1]
      exact if_pos trivial
    · rw [if_neg hs]
      simp only [levylaw4_WordsTokens.j1]
      by_cases hgt : stop > (xs.length : Int)
      · rw [if_pos (decide_eq_true hgt)]
      · have e1 : PA.takeT xs stop = xs.take stop.toNat := by unfold PA.takeT; rw [if_pos (by omega)]
        rw [if_neg (by rw [decide_eq_false hgt]; decide), hg stop, Option.bind_some, if_pos rfl, if_pos (by omega), if_pos (by omega), e1, h3]
        rfl
end Go.Proofs.YtidbcenbcllfnaaDoor.Pure
