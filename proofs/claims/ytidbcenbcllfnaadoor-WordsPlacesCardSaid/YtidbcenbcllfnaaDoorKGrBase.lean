/- A word's facts; where blanks end. No condition. -/
import Derived.Test.YtidbcenbcllfnaaDoorKScScan
namespace Go.Proofs.YtidbcenbcllfnaaDoor.Gr
open Go.RowKit Go.Proofs.YtidbcenbcllfnaaDoorW.PrintWords Go.Proofs.YtidbcenbcllfnaaDoorW.PrintLast Go.Proofs.YtidbcenbcllfnaaDoor.PA
set_option linter.unusedVariables false
structure Fine (q : Nat) (r : S33 × Bool × Nat × Int × Int) : Prop where
  ok : r.2.1 = true → r.1.f1 = (q : Int) ∧ q < r.2.2.1 ∧ r.2.2.2.1 = 0 ∧ r.2.2.2.2 = 0
  no : r.2.1 = false → r.2.2.2.1 ≠ 0
theorem Fine.yes {q : Nat} {t : S33} {p : Nat} (h1 : t.f1 = (q : Int)) (h2 : q < p) : Fine q (t, true, p, 0, 0) := ⟨fun _ => ⟨h1, h2, rfl, rfl⟩, fun h => by cases h⟩
theorem Fine.bad {q : Nat} {t : S33} {p : Nat} {e a : Int} (h : e ≠ 0) : Fine q (t, false, p, e, a) := ⟨fun h => (by cases h), fun _ => h⟩
theorem txt_fine (s : ByteArray) (p : Nat) (d : Nat) : ∀ (i : Nat) (acc : List UInt8), p ≤ i → Fine p (txtR s p 0 0 d i acc) := by
  induction d with
  | zero => intro i acc h; exact Fine.bad (by decide)
  | succ d ih =>
    intro i acc h
    unfold txtR
    split
    · exact Fine.bad (by decide)
    · split
      · exact Fine.bad (by decide)
      · split
        · split
          · exact Fine.yes rfl (by omega)
          · exact Fine.bad (by decide)
        · split
          · split
            · exact Fine.bad (by decide)
            · split
              · exact ih _ _ (by omega)
              · exact Fine.bad (by decide)
          · split
            · exact Fine.bad (by decide)
            · exact ih _ _ (by omega)
theorem le_mB (s : ByteArray) (q : Nat) : q ≤ mB s q := by
  unfold mB
  split <;> omega
theorem le_m2B (s : ByteArray) (q : Nat) : q ≤ m2B s q := by
  unfold m2B
  split <;> omega
theorem word_fine {s : ByteArray} {q : Nat} {c : UInt8} (hc : (Ls s)[q]? = some c) : Fine q (wordR s q c 0 0) := by
  unfold wordR
  split
  · next hL =>
    have : runP isWd s q = runP isWd s (q + 1) + 1 := (runP_yes (by unfold atP; rw [hc]; show (isLt c || isDg c || c.toNat == 95) = true; rw [hL]; rfl)).1
    unfold nameR
    split
    · exact Fine.yes rfl (by omega)
    · exact Fine.bad (by decide)
  · split
    · next hD =>
      have : runP isDg s q = runP isDg s (q + 1) + 1 := (runP_yes (by unfold atP; rw [hc]; exact hD)).1
      unfold numberR
      split
      · unfold dateR
        split
        · exact Fine.bad (by decide)
        · exact Fine.yes rfl (by omega)
      · have h1 := le_mB s (q + runP isDg s q)
        have h2 := le_m2B s (mB s (q + runP isDg s q))
        unfold numR
        split
        · exact Fine.yes rfl (by omega)
        · exact Fine.bad (by decide)
    · split
      · exact txt_fine s q _ _ _ (by omega)
      · split
        · unfold signR
          split
          · exact Fine.yes rfl (by omega)
          · split
            · exact Fine.bad (by decide)
            · exact Fine.yes rfl (by omega)
        · exact Fine.bad (by decide)
theorem skip_at {s : ByteArray} (l : Bool) (n : Nat) : ∀ p, s.size < p + n → p ≤ s.size → p ≤ skipB s l n p ∧ ∀ c, (Ls s)[skipB s l n p]? = some c → ¬ ((c.toNat : Int) = 32 ∨ (c.toNat : Int) = 9) ∧ ¬ (c.toNat : Int) = 35 ∧ ((c.toNat : Int) = 10 → l = true) := by
  induction n with
  | zero => intro p h1 h2; omega
  | succ n ih =>
    intro p h1 h2
    unfold skipB
    split
    · next hb =>
      refine ⟨Nat.le_refl _, fun c hc => ?_⟩
      rw [hb] at hc
      cases hc
    · next c hc =>
      have hlt := (bt_of s hc).2
      split
      · have := ih (p + 1) (by omega) (by omega)
        exact ⟨by omega, this.2⟩
      · next a1 =>
        split
        · next a2 =>
          have hr := (runP_yes (p := fun b => b.toNat != 10) (s := s) (i := p) (by unfold atP; rw [hc]; exact bne_iff_ne.mpr (by omega))).1
          have hle := runP_le (fun b => b.toNat != 10) s p (by omega)
          have := ih (p + runP (fun b => b.toNat != 10) s p) (by omega) hle
          exact ⟨by omega, this.2⟩
        · next a2 =>
          split
          · next a3 =>
            cases l with
            | true =>
              refine ⟨Nat.le_refl _, fun c2 hc2 => ?_⟩
              rw [if_pos rfl, hc] at hc2
              cases hc2
              exact ⟨a1, a2, fun _ => rfl⟩
            | false =>
              rw [if_neg (by decide)]
              have := ih (p + 1) (by omega) (by omega)
              exact ⟨by omega, this.2⟩
          · next a3 =>
            refine ⟨Nat.le_refl _, fun c2 hc2 => ?_⟩
            rw [hc] at hc2
            cases hc2
            exact ⟨a1, a2, fun h => absurd h a3⟩
end Go.Proofs.YtidbcenbcllfnaaDoor.Gr
