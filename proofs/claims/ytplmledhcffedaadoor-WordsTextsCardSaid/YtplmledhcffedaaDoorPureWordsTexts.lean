/- WordsTexts, the pure law: every Amount, Percent and Quote is the document's. No condition beyond the given ones (the numbers are 64-bit numbers). -/
import Derived.Test.YtplmledhcffedaaDoorWPercent
import Derived.Test.YtplmledhcffedaaDoorWQuote
import Derived.Test.YtplmledhcffedaaDoorPAx0
import Derived.Test.YtplmledhcffedaaDoorPAx3
import Derived.Test.YtplmledhcffedaaDoorPAx5
import Derived.Test.YtplmledhcffedaaDoorPAx11
namespace Go.Proofs.YtplmledhcffedaaDoor.Pure
open Go.RowKit Go.Lib Go.Proofs.YtplmledhcffedaaDoorW.PrintWords Go.Proofs.YtplmledhcffedaaDoorW.PrintLast Go.Proofs.YtplmledhcffedaaDoor.PA Go.Proofs.YtplmledhcffedaaDoor.Dig
set_option linter.unusedVariables false

theorem bd64 {x : Int} (h : (Lit.int .i64 x).wf = true) : -9223372036854775808 ≤ x ∧ x ≤ 9223372036854775807 := by
  simpa [Lit.wf, IntKind.min, IntKind.max, IntKind.signed, IntKind.bits] using h

theorem wno (a b : Int) : Ev (fun k => words_Percent.j0 k a b true) ((⟨#[]⟩ : ByteArray), false) := ⟨1, fun k hk => by
  obtain ⟨q, rfl⟩ : ∃ q, k = q + 1 := ⟨k - 1, by omega⟩
  show words_Percent.j0 (q + 1) a b true = _
  simp only [words_Percent.j0, if_true]⟩
theorem rno (a b : Int) : Ev (fun k => levyref4_Percent.j0 k a b true) ((⟨#[]⟩ : ByteArray), false) := ⟨1, fun k hk => by
  obtain ⟨q, rfl⟩ : ∃ q, k = q + 1 := ⟨k - 1, by omega⟩
  show levyref4_Percent.j0 (q + 1) a b true = _
  simp only [levyref4_Percent.j0, if_true]⟩

theorem rper_p {n d : Nat} (hn : n ≤ 1000000000) (hd : 0 < d) (hd9 : d ≤ 1000000000) :
    Ev (fun k => levyref4_Percent.j0 k (n : Int) (d : Int) false) (perS (decDigits (n * 100 / d)) (longdiv d 6 (n * 100 % d))) := by
  have w1 : Aside0 (wrap64 (100 * (n : Int)) = ((n * 100 : Nat) : Int)) := ⟨by rw [wr (by omega) (by omega)]; omega⟩
  have n1 := natdiv (n * 100) d
  have n2 := natmod (n * 100) d
  have hW : n * 100 / d ≤ 100000000000 := Nat.le_trans (Nat.div_le_self _ _) (by omega)
  have hr : n * 100 % d < d := Nat.mod_lt _ hd
  have N1 := Aside0.mk n1
  have N2 := Aside0.mk n2
  clear n1 n2
  generalize n * 100 / d = W at *
  generalize n * 100 % d = R at *
  have l1 := dec_len W (by omega)
  obtain ⟨K1, h1⟩ := digitsOf_p W (by omega)
  obtain ⟨K2, h2⟩ := rper_start hd hd9 R hr (decDigits W) l1
  dsimp only at h1 h2
  have w2 : Aside0 (wrap64 (W : Int) = (W : Int)) := ⟨wr (by omega) (by omega)⟩
  refine ⟨K1 + K2 + 1, fun k hk => ?_⟩
  obtain ⟨q, rfl⟩ : ∃ q, k = q + 1 := ⟨k - 1, by omega⟩
  have hx := h1 q (by omega)
  have hy := h2 q (by omega)
  have hd0 : ¬ (d : Int) = 0 := by omega
  show levyref4_Percent.j0 (q + 1) (n : Int) (d : Int) false = _
  simp only [levyref4_Percent.j0, Bool.false_eq_true, if_false]
  rw [if_neg hd0, w1.out, N1.out, N2.out, w2.out, hx, Option.bind_some]
  exact hy

theorem percent_both (a b : Int) : ∃ r : ByteArray × Bool, Ev (fun k => words_Percent.f k a b) r ∧ Ev (fun k => levyref4_Percent.f k a b) r := by
  by_cases h1 : a < 0
  · exact ⟨_, Ev.congr (fun k => by show words_Percent.f k a b = _; unfold words_Percent.f; rw [if_pos h1]) (wno a b), Ev.congr (fun k => by show levyref4_Percent.f k a b = _; unfold levyref4_Percent.f; rw [if_pos h1]) (rno a b)⟩
  by_cases h2 : a > 1000000000
  · exact ⟨_, Ev.congr (fun k => by show words_Percent.f k a b = _; unfold words_Percent.f; rw [if_neg h1, if_pos h2]) (wno a b), Ev.congr (fun k => by show levyref4_Percent.f k a b = _; unfold levyref4_Percent.f; rw [if_neg h1, if_pos h2]) (rno a b)⟩
  by_cases h3 : b < 1
  · exact ⟨_, Ev.congr (fun k => by show words_Percent.f k a b = _; unfold words_Percent.f; rw [if_neg h1, if_neg h2, if_pos h3]) (wno a b), Ev.congr (fun k => by show levyref4_Percent.f k a b = _; unfold levyref4_Percent.f; rw [if_neg h1, if_neg h2, if_pos h3]) (rno a b)⟩
  by_cases h4 : b > 1000000000
  · exact ⟨_, Ev.congr (fun k => by show words_Percent.f k a b = _; unfold words_Percent.f; rw [if_neg h1, if_neg h2, if_neg h3, if_pos h4]) (wno a b), Ev.congr (fun k => by show levyref4_Percent.f k a b = _; unfold levyref4_Percent.f; rw [if_neg h1, if_neg h2, if_neg h3, decide_eq_true h4]) (rno a b)⟩
  obtain ⟨n, rfl⟩ : ∃ n : Nat, a = n := ⟨a.toNat, by omega⟩
  obtain ⟨d, rfl⟩ : ∃ d : Nat, b = d := ⟨b.toNat, by omega⟩
  have h5 : ¬ (d : Int) = 0 := by omega
  exact ⟨_, Ev.congr (fun k => by show words_Percent.f k n d = _; unfold words_Percent.f; rw [if_neg h1, if_neg h2, if_neg h3, if_neg h4, if_neg h5]) (wper_p (by omega) (by omega) (by omega)), Ev.congr (fun k => by show levyref4_Percent.f k n d = _; unfold levyref4_Percent.f; rw [if_neg h1, if_neg h2, if_neg h3, decide_eq_false h4]) (rper_p (by omega) (by omega) (by omega))⟩

theorem WordsTexts : levylaw4_WordsTexts.Pure := by
  intro c a b s w0 w1 w2 w3
  obtain ⟨c1, c2⟩ := bd64 w0
  obtain ⟨r1, ⟨K1, h1⟩, K2, h2⟩ := percent_both a b
  obtain ⟨r2, ⟨K3, h3⟩, K4, h4⟩ := quote_both s
  obtain ⟨K5, h5⟩ := wamount_p c c1 c2
  obtain ⟨K6, h6⟩ := ramount_p c c1 c2
  dsimp only at h1 h2 h3 h4 h5 h6
  refine ⟨K1 + K2 + K3 + K4 + K5 + K6, ?_⟩
  unfold levylaw4_WordsTexts.f
  by_cases hs : (s.size : Int) > 65536
  · rw [if_pos hs]
  · rw [if_neg hs, h1 _ (by omega), Option.bind_some, h2 _ (by omega), Option.bind_some, h3 _ (by omega), Option.bind_some, h4 _ (by omega), Option.bind_some, h5 _ (by omega), Option.bind_some, h6 _ (by omega), Option.bind_some, if_pos rfl, if_pos rfl, if_pos (by simp), if_pos rfl]
    simp
end Go.Proofs.YtplmledhcffedaaDoor.Pure
