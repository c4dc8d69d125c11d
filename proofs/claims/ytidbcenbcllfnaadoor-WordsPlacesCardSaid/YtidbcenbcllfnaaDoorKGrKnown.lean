/- The chapter's example is scanned as the chapter says. No condition. -/
import Derived.Test.YtidbcenbcllfnaaDoorKGrSame
import Derived.KernelRfl
import Derived.Test.YtidbcenbcllfnaaDoorKPAx0
import Derived.Test.YtidbcenbcllfnaaDoorKPAx2
namespace Go.Proofs.YtidbcenbcllfnaaDoor.Gr
open Go.RowKit Go.Proofs.YtidbcenbcllfnaaDoorW.PrintWords Go.Proofs.YtidbcenbcllfnaaDoorW.PrintLast Go.Proofs.YtidbcenbcllfnaaDoor.PA
set_option linter.unusedVariables false
/-- The example's text. -/
abbrev exT : ByteArray := ⟨#[116, 97, 120, 32, 61, 32, 55, 46, 50, 53, 37, 32, 42, 32, 112, 97, 121, 32, 45, 32, 49, 50, 46, 48, 48, 32, 35, 32, 110, 101, 116]⟩
/-- Its words. -/
abbrev exW : List S33 := [⟨1, 0, ⟨#[116, 97, 120]⟩, 0, 0⟩, ⟨7, 4, ⟨#[61]⟩, 0, 0⟩, ⟨4, 6, ⟨#[]⟩, 29, 400⟩, ⟨7, 12, ⟨#[42]⟩, 0, 0⟩, ⟨1, 14, ⟨#[112, 97, 121]⟩, 0, 0⟩, ⟨7, 18, ⟨#[45]⟩, 0, 0⟩, ⟨2, 20, ⟨#[]⟩, 1200, 0⟩, ⟨8, 31, ⟨#[]⟩, 0, 0⟩]
theorem ex_scan : words_Scan.f exT = some (exW, 0, 0) := by kernel_rfl
theorem ex_bad : words_Scan.f ⟨#[97, 32, 33]⟩ = some ([], 2, 41) := by kernel_rfl
theorem known_ev : ∃ K, ∀ k, K ≤ k → levylaw4_known.f k = some true := by
  obtain ⟨K, hK⟩ := same_refl exW (by show 8 < 1000000; omega)
  refine ⟨K, fun k hk => ?_⟩
  have h := hK k hk
  dsimp only at h
  unfold levylaw4_known.f levylaw4_num.f
  have e1 := ex_scan
  have e2 := ex_bad
  unfold exT at e1
  rw [e1, Option.bind_some, e2, Option.bind_some, Option.bind_some, if_pos rfl, if_pos rfl]
  show (levylaw4_same.f k exW exW).bind _ = _
  rw [h]
  rfl
end Go.Proofs.YtidbcenbcllfnaaDoor.Gr
