/- Texts joined by a line feed; the places of the words; a word alone. No condition. -/
import Derived.Test.YtidbcenbcllfnaaDoorJGrGram
import Derived.Test.YtidbcenbcllfnaaDoorJPAx0
namespace Go.Proofs.YtidbcenbcllfnaaDoor.Gr
open Go.RowKit Go.Proofs.YtidbcenbcllfnaaDoorW.PrintWords Go.Proofs.YtidbcenbcllfnaaDoorW.PrintLast Go.Proofs.YtidbcenbcllfnaaDoor.PA
set_option linter.unusedVariables false
set_option linter.unusedSectionVars false
set_option linter.unusedSimpArgs false
/-- Two texts that are taken, a line feed between them. -/
theorem G_join {l : Bool} {D : List UInt8} {o : Nat} {ts : List S33} (h : ScanG l D o ts) {D2 : List UInt8} {ts2 : List S33} : ScanG false D2 (o + D.length + 1) ts2 → ScanG l (D ++ 10 :: D2) o (ts ++ ts2) := by
  induction h with
  | endF o => intro h2; exact .lineF (by decide) h2
  | endL o => intro h2; exact .lineL (by decide) h2
  | @blank l c D o ts hc h ih =>
    intro h2
    refine .blank hc (ih ?_)
    rw [List.length_cons] at h2
    rw [show o + 1 + D.length + 1 = o + (D.length + 1) + 1 by omega]
    exact h2
  | @note l c C D o ts hc hC hD h ih =>
    intro h2
    rw [List.cons_append, List.append_assoc]
    refine .note hc hC ?_ (ih ?_)
    · intro x hx
      cases D with
      | nil => cases hx; rfl
      | cons d D => exact hD x hx
    · rw [List.length_cons, List.length_append] at h2
      rw [show o + 1 + C.length + D.length + 1 = o + (C.length + D.length + 1) + 1 by omega]
      exact h2
  | @lineL c D o ts hc h ih =>
    intro h2
    refine .lineL hc (ih ?_)
    rw [List.length_cons] at h2
    rw [show o + 1 + D.length + 1 = o + (D.length + 1) + 1 by omega]
    exact h2
  | @lineF c D o ts hc h ih =>
    intro h2
    refine .lineF hc (ih ?_)
    rw [List.length_cons] at h2
    rw [show o + 1 + D.length + 1 = o + (D.length + 1) + 1 by omega]
    exact h2
  | @word l A R t o ts hw h ih =>
    intro h2
    rw [List.append_assoc]
    have e := hw.atQ0
    have hw2 := hw.calm (Calm.join R D2)
    rw [e] at hw2
    refine .word hw2 (ih ?_)
    rw [List.length_append] at h2
    rw [show o + A.length + R.length + 1 = o + (A.length + R.length) + 1 by omega]
    exact h2
/-- A token, k places on. -/
def sh (k : Nat) (t : S33) : S33 := ⟨t.f0, t.f1 + k, t.f2, t.f3, t.f4⟩
theorem G_shift {l : Bool} {D : List UInt8} {o : Nat} {ts : List S33} (k : Nat) (h : ScanG l D o ts) : ScanG l D (o + k) (ts.map (sh k)) := by
  induction h with
  | endF o => exact .endF _
  | endL o => exact .endL _
  | @blank l c D o ts hc h ih => exact .blank hc (by rw [show o + k + 1 = o + 1 + k by omega]; exact ih)
  | @note l c C D o ts hc hC hD h ih => exact .note hc hC hD (by rw [show o + k + 1 + C.length = o + 1 + C.length + k by omega]; exact ih)
  | @lineL c D o ts hc h ih => exact .lineL hc (by rw [show o + k + 1 = o + 1 + k by omega]; exact ih)
  | @lineF c D o ts hc h ih => exact .lineF hc (by rw [show o + k + 1 = o + 1 + k by omega]; exact ih)
  | @word l A R t o ts hw h ih => 
    have e : sh k (atQ t o) = atQ t (o + k) := by simp [sh, atQ]
    rw [List.map_cons, e]
    exact .word hw (by rw [show o + k + A.length = o + A.length + k by omega]; exact ih)
/-- How many tokens there are. -/
theorem G_len {l : Bool} {D : List UInt8} {o : Nat} {ts : List S33} (h : ScanG l D o ts) : ts.length ≤ 2 * D.length + (if l = true then 1 else 0) := by
  induction h with
  | endF o => simp
  | endL o => simp
  | blank hc h ih => rw [List.length_cons]; omega
  | note hc hC hD h ih => rw [List.length_cons, List.length_append]; omega
  | lineL hc h ih => rw [if_neg (by decide)] at ih; rw [List.length_cons, List.length_cons]; omega
  | lineF hc h ih => rw [List.length_cons]; omega
  | word hw h ih => have := hw.pos; rw [if_pos rfl] at ih; rw [List.length_cons, List.length_append]; omega

/-! ### places -/
end Go.Proofs.YtidbcenbcllfnaaDoor.Gr
