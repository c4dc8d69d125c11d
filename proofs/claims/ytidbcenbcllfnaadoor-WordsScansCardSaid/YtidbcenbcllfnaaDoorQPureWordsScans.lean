/- WordsScans, the pure law: what Scan answers is what the document's answer, for every text. No condition beyond the given ones. -/
import Derived.Test.YtidbcenbcllfnaaDoorQPureScanF
import Derived.Test.YtidbcenbcllfnaaDoorQPAx13
namespace Go.Proofs.YtidbcenbcllfnaaDoor.Pure
set_option linter.unusedVariables false
open Go.RowKit Go.Proofs.YtidbcenbcllfnaaDoorW.PrintWords Go.Proofs.YtidbcenbcllfnaaDoorW.PrintLast Go.Proofs.YtidbcenbcllfnaaDoor.PA
theorem runG_len {NX : Nat → Bool → Nx} (n : Nat) {p : Nat} {l : Bool} {q : List S33 × (Nat × Bool × Int × Int)} (h : runG NX n p l = some q) : q.1.length < n := (runG_gives n p l q h).2
theorem scan_len {s : ByteArray} {r : List S33 × Int × Int} (h : words_Scan.f s = some r) : r.1.length < 1000000 := by
  unfold words_Scan.f at h
  split at h
  · cases h
    show 0 < _
    omega
  · obtain ⟨q, hq, h2⟩ := Option.bind_eq_some_iff.1 h
    have := runG_len _ hq
    cases h2
    show (if q.2.2.2.1 = 0 then q.1 else []).length < _
    split
    · omega
    · show 0 < _
      omega
theorem WordsScans : levylaw4_WordsScans.Pure := by
  intro s _
  obtain ⟨r, h1, K, hK⟩ := scan_both s
  obtain ⟨K2, hK2⟩ := same_list r.1 (scan_len h1)
  refine ⟨K + K2, ?_⟩
  have h2 := hK (K + K2) (by omega)
  have h3 := hK2 (K + K2) (by omega)
  dsimp only at h2 h3
  unfold levylaw4_WordsScans.f
  by_cases h : (s.size : Int) > 65536
  · rw [if_pos h]
  · rw [if_neg h, h1, Option.bind_some, h2, Option.bind_some]
    unfold levylaw4_num.f
    rw [Option.bind_some, if_pos rfl, if_pos rfl, h3, Option.bind_some]
end Go.Proofs.YtidbcenbcllfnaaDoor.Pure
