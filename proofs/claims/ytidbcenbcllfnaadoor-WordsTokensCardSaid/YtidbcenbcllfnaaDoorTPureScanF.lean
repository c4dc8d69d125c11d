/- The document's list of words is what the scanner gives, one after another. Conditions: the text is of at most 8000 bytes. -/
import Derived.Test.YtidbcenbcllfnaaDoorTPureScanE
import Derived.Test.YtidbcenbcllfnaaDoorTPAx0
import Derived.Test.YtidbcenbcllfnaaDoorTL
import Derived.Test.YtidbcenbcllfnaaDoorTM
import Derived.Test.YtidbcenbcllfnaaDoorTK
namespace Go.Proofs.YtidbcenbcllfnaaDoor.Pure
open Go.RowKit Go.Proofs.YtidbcenbcllfnaaDoorW.PrintWords Go.Proofs.YtidbcenbcllfnaaDoorW.PrintLast Go.Proofs.YtidbcenbcllfnaaDoor.PA Go.Proofs.YtidbcenbcllfnaaDoor.Days
set_option linter.unusedVariables false
set_option linter.unusedSectionVars false

/-! ### a word's facts -/
/-- A word's token begins at its place and ends behind it; a fault has an error. -/
structure Fine (q : Nat) (r : S33 × Bool × Nat × Int × Int) : Prop where
  ok : r.2.1 = true → r.1.f1 = (q : Int) ∧ q < r.2.2.1 ∧ r.2.2.2.1 = 0 ∧ r.2.2.2.2 = 0
  no : r.2.1 = false → r.2.2.2.1 ≠ 0
theorem Fine.yes {q : Nat} {t : S33} {p : Nat} (h1 : t.f1 = (q : Int)) (h2 : q < p) : Fine q (t, true, p, 0, 0) := ⟨fun _ => ⟨h1, h2, rfl, rfl⟩, fun h => by cases h⟩
theorem Fine.bad {q : Nat} {t : S33} {p : Nat} {e a : Int} (h : e ≠ 0) : Fine q (t, false, p, e, a) := ⟨fun h => (by cases h), fun _ => h⟩
theorem Fine.mono {q i : Nat} {r : S33 × Bool × Nat × Int × Int} (h : r.2.1 = true → r.1.f1 = (q : Int) ∧ i < r.2.2.1 ∧ r.2.2.2.1 = 0 ∧ r.2.2.2.2 = 0) (hn : r.2.1 = false → r.2.2.2.1 ≠ 0) (hi : q ≤ i) : Fine q r :=
  ⟨fun ht => ⟨(h ht).1, by have := (h ht).2.1; omega, (h ht).2.2⟩, hn⟩
theorem txt_fine (s : ByteArray) (p : Nat) (d : Nat) : ∀ (i : Nat) (acc : List UInt8), p ≤ i → Fine p (txtR s p 0 0 d i acc) := by
  induction d with
  | zero => intro i acc h; exact Fine.bad (by decide)
  | succ d ih =>
    intro i acc h
    unfold txtR
    split
    · exact Fine.bad (by decide)
    · split
      · exact Fine.bad (by decide)
      · split
        · split
          · exact Fine.yes rfl (by omega)
          · exact Fine.bad (by decide)
        · split
          · split
            · exact Fine.bad (by decide)
            · split
              · exact ih _ _ (by omega)
              · exact Fine.bad (by decide)
          · split
            · exact Fine.bad (by decide)
            · exact ih _ _ (by omega)
theorem le_mB (s : ByteArray) (q : Nat) : q ≤ mB s q := by
  unfold mB
  split <;> omega
theorem le_m2B (s : ByteArray) (q : Nat) : q ≤ m2B s q := by
  unfold m2B
  split <;> omega
theorem word_fine {s : ByteArray} {q : Nat} {c : UInt8} (hc : (Ls s)[q]? = some c) : Fine q (wordR s q c 0 0) := by
  unfold wordR
  split
  · next hL =>
    have : runP isWd s q = runP isWd s (q + 1) + 1 := (runP_yes (by unfold atP; rw [hc]; show (isLt c || isDg c || c.toNat == 95) = true; rw [hL]; rfl)).1
    unfold nameR
    split
    · exact Fine.yes rfl (by omega)
    · exact Fine.bad (by decide)
  · split
    · next hD =>
      have : runP isDg s q = runP isDg s (q + 1) + 1 := (runP_yes (by unfold atP; rw [hc]; exact hD)).1
      unfold numberR
      split
      · unfold dateR
        split
        · exact Fine.bad (by decide)
        · exact Fine.yes rfl (by omega)
      · have h1 := le_mB s (q + runP isDg s q)
        have h2 := le_m2B s (mB s (q + runP isDg s q))
        unfold numR
        split
        · exact Fine.yes rfl (by omega)
        · exact Fine.bad (by decide)
    · split
      · exact txt_fine s q _ _ _ (by omega)
      · split
        · unfold signR
          split
          · exact Fine.yes rfl (by omega)
          · split
            · exact Fine.bad (by decide)
            · exact Fine.yes rfl (by omega)
        · exact Fine.bad (by decide)

/-! ### blanks -/
section
variable {s : ByteArray} (hs : s.size ≤ 8000)
include hs
theorem upto_j1 {p : Nat} {c : UInt8} (hc : (Ls s)[p]? = some c) (k : Nat) (xs : List S33) (l : Bool) : levyref4_Upto.l0 (k + 1) s xs l (p : Int) = levyref4_Upto.j1 k s xs l (p : Int) (decide ((c.toNat : Int) = 32 ∨ (c.toNat : Int) = 9)) := by
  obtain ⟨hbt, hp⟩ := bt_of s hc
  simp only [levyref4_Upto.l0]
  rw [if_pos (by omega), if_pos (by omega), hbt]
  by_cases h : (c.toNat : Int) = 32
  · rw [if_pos h, decide_eq_true (Or.inl h)]
  · rw [if_neg h]
    by_cases h9 : (c.toNat : Int) = 9
    · rw [decide_eq_true (Or.inr h9), beq_iff_eq.mpr h9]
    · rw [decide_eq_false (by rintro (h1 | h1); exact h h1; exact h9 h1), beq_eq_false_iff_ne.mpr h9]
theorem upto_other {p : Nat} {c : UInt8} (hc : (Ls s)[p]? = some c) (h : ¬ ((c.toNat : Int) = 32 ∨ (c.toNat : Int) = 9)) (k : Nat) (xs : List S33) (l : Bool) :
    levyref4_Upto.l0 (k + 2) s xs l (p : Int) = (if (c.toNat : Int) = 35 then (levyref4_Upto.l1 k s xs l (p : Int)) else (if (c.toNat : Int) = 10 then (if l = true then (if xs.length < 2932031007402 then (levyref4_Upto.l0 k s (xs ++ [(⟨8, (p : Int), (⟨#[]⟩ : ByteArray), 0, 0⟩ : S33)]) false ((p + 1 : Nat) : Int)) else (none)) else (levyref4_Upto.l0 k s xs false ((p + 1 : Nat) : Int))) else ((levyref4_word.f k s (p : Int)).bind fun bt179 => (if bt179.2.2.2.2.2.2 = 0 then (if xs.length < 2932031007402 then (levyref4_Upto.l0 k s (xs ++ [(⟨bt179.1, (p : Int), bt179.2.2.1, bt179.2.2.2.1, bt179.2.2.2.2.1⟩ : S33)]) true bt179.2.2.2.2.2.1) else (none)) else (some (xs, bt179.2.2.2.2.2.1, bt179.2.2.2.2.2.2)))))) := by
  obtain ⟨hbt, hp⟩ := bt_of s hc
  have e1 : wrap64 ((p : Int) + 1) = ((p + 1 : Nat) : Int) := by rw [wrI (by omega) (by omega)]; omega
  rw [upto_j1 hs hc, decide_eq_false h]
  simp only [levyref4_Upto.j1]
  rw [if_neg (by decide), hbt, e1]
  clear e1
  rw [if_pos (by omega), if_pos (by omega)]
theorem upto_blank {p : Nat} {c : UInt8} (hc : (Ls s)[p]? = some c) (h : (c.toNat : Int) = 32 ∨ (c.toNat : Int) = 9) (k : Nat) (xs : List S33) (l : Bool) : levyref4_Upto.l0 (k + 2) s xs l (p : Int) = levyref4_Upto.l0 k s xs l ((p + 1 : Nat) : Int) := by
  obtain ⟨hbt, hp⟩ := bt_of s hc
  have e1 : wrap64 ((p : Int) + 1) = ((p + 1 : Nat) : Int) := by rw [wrI (by omega) (by omega)]; omega
  rw [upto_j1 hs hc, decide_eq_true h]
  simp only [levyref4_Upto.j1]
  rw [if_pos trivial, e1]
theorem comment (xs : List S33) (l : Bool) {r : List S33 × Int × Int} (d : Nat) : ∀ p, runP (fun b => b.toNat != 10) s p = d → p ≤ s.size → Ev (fun k => levyref4_Upto.l0 k s xs l ((p + d : Nat) : Int)) r → Ev (fun k => levyref4_Upto.l1 k s xs l (p : Int)) r := by
  induction d with
  | zero =>
    intro p hd hp hr
    obtain ⟨K, hK⟩ := hr
    refine ⟨K + 1, fun k hk => ?_⟩
    obtain ⟨q, rfl⟩ : ∃ q, k = q + 1 := ⟨k - 1, by omega⟩
    have hq := hK q (by omega)
    dsimp only at hq
    rw [Nat.add_zero] at hq
    show levyref4_Upto.l1 (q + 1) s xs l (p : Int) = _
    simp only [levyref4_Upto.l1]
    rw [hq]
    by_cases hlt : p < s.size
    · obtain ⟨c, hc⟩ := byte_some s hlt
      have h10 : c.toNat = 10 := by
        rcases Nat.decEq c.toNat 10 with h | h
        · have := (runP_yes (p := fun b => b.toNat != 10) (s := s) (i := p) (by unfold atP; rw [hc]; exact bne_iff_ne.mpr h)).1
          omega
        · exact h
      rw [if_pos (by omega), if_pos (by omega), (bt_of s hc).1, if_pos (by omega)]
    · rw [if_neg (by omega)]
  | succ d ih =>
    intro p hd hp hr
    have ha : atP (fun b => b.toNat != 10) s p = true := by
      cases h : atP (fun b => b.toNat != 10) s p with
      | true => rfl
      | false => rw [runP_no h] at hd; omega
    obtain ⟨h1, hlt⟩ := runP_yes ha
    obtain ⟨c, hc⟩ := byte_some s hlt
    have h10 : c.toNat ≠ 10 := by unfold atP at ha; rw [hc] at ha; exact bne_iff_ne.mp ha
    obtain ⟨K, hK⟩ := ih (p + 1) (by omega) (by omega) (by rw [show p + 1 + d = p + (d + 1) by omega]; exact hr)
    refine ⟨K + 1, fun k hk => ?_⟩
    obtain ⟨q, rfl⟩ : ∃ q, k = q + 1 := ⟨k - 1, by omega⟩
    have hq := hK q (by omega)
    dsimp only at hq
    show levyref4_Upto.l1 (q + 1) s xs l (p : Int) = _
    simp only [levyref4_Upto.l1]
    have e1 : wrap64 ((p : Int) + 1) = ((p + 1 : Nat) : Int) := by rw [wrI (by omega) (by omega)]; omega
    rw [e1, hq]
    clear e1 hq
    rw [if_pos (by omega), if_pos (by omega), (bt_of s hc).1, if_neg (by omega)]
theorem ev_two {g h : Nat → Option (List S33 × Int × Int)} {r : List S33 × Int × Int} (e : ∀ k, g (k + 2) = h k) (hr : Ev h r) : Ev g r := by
  obtain ⟨K, hK⟩ := hr
  refine ⟨K + 2, fun k hk => ?_⟩
  obtain ⟨q, rfl⟩ : ∃ q, k = q + 2 := ⟨k - 2, by omega⟩
  rw [e q]
  exact hK q (by omega)
theorem skip_go (xs : List S33) (l : Bool) {r : List S33 × Int × Int} (n : Nat) : ∀ p, p ≤ s.size → Ev (fun k => levyref4_Upto.l0 k s xs l ((skipB s l n p : Nat) : Int)) r → Ev (fun k => levyref4_Upto.l0 k s xs l (p : Int)) r := by
  induction n with
  | zero => intro p hp h; exact h
  | succ n ih =>
    intro p hp h
    unfold skipB at h
    split at h
    · exact h
    · next c hc =>
      have hlt := (bt_of s hc).2
      split at h
      · next h1 => exact ev_two hs (fun k => upto_blank hs hc h1 k xs l) (ih (p + 1) (by omega) h)
      · next h1 =>
        split at h
        · next h2 =>
          refine ev_two hs (h := fun k => levyref4_Upto.l1 k s xs l (p : Int)) (fun k => by rw [upto_other hs hc h1, if_pos h2]) ?_
          have hle := runP_le (fun b => b.toNat != 10) s p (by omega)
          exact comment hs xs l _ p rfl hp (ih _ hle h)
        · next h2 =>
          split at h
          · next h3 =>
            cases l with
            | true => exact h
            | false => exact ev_two hs (h := fun k => levyref4_Upto.l0 k s xs false ((p + 1 : Nat) : Int)) (fun k => by rw [upto_other hs hc h1, if_neg h2, if_pos h3, if_neg (by decide)]) (ih (p + 1) (by omega) h)
          · exact h
omit hs in
/-- Where the blanks end stands no blank. -/
theorem skip_at (l : Bool) (n : Nat) : ∀ p, s.size < p + n → p ≤ s.size → p ≤ skipB s l n p ∧ ∀ c, (Ls s)[skipB s l n p]? = some c → ¬ ((c.toNat : Int) = 32 ∨ (c.toNat : Int) = 9) ∧ ¬ (c.toNat : Int) = 35 ∧ ((c.toNat : Int) = 10 → l = true) := by
  induction n with
  | zero => intro p h1 h2; omega
  | succ n ih =>
    intro p h1 h2
    unfold skipB
    split
    · next hb =>
      refine ⟨Nat.le_refl _, fun c hc => ?_⟩
      rw [hb] at hc
      cases hc
    · next c hc =>
      have hlt := (bt_of s hc).2
      split
      · have := ih (p + 1) (by omega) (by omega)
        exact ⟨by omega, this.2⟩
      · next a1 =>
        split
        · next a2 =>
          have hr := (runP_yes (p := fun b => b.toNat != 10) (s := s) (i := p) (by unfold atP; rw [hc]; exact bne_iff_ne.mpr (by omega))).1
          have hle := runP_le (fun b => b.toNat != 10) s p (by omega)
          have := ih (p + runP (fun b => b.toNat != 10) s p) (by omega) hle
          exact ⟨by omega, this.2⟩
        · next a2 =>
          split
          · next a3 =>
            cases l with
            | true =>
              refine ⟨Nat.le_refl _, fun c2 hc2 => ?_⟩
              rw [if_pos rfl, hc] at hc2
              cases hc2
              exact ⟨a1, a2, fun _ => rfl⟩
            | false =>
              rw [if_neg (by decide)]
              have := ih (p + 1) (by omega) (by omega)
              exact ⟨by omega, this.2⟩
          · next a3 =>
            refine ⟨Nat.le_refl _, fun c2 hc2 => ?_⟩
            rw [hc] at hc2
            cases hc2
            exact ⟨a1, a2, fun h => absurd h a3⟩

/-! ### the words one after another -/
/-- How the document says the end. -/
def endR (xs : List S33) (q : List S33 × (Nat × Bool × Int × Int)) : List S33 × Int × Int := (xs ++ q.1, if q.2.2.2.1 = 0 then 0 else q.2.2.2.2, q.2.2.2.1)
theorem upto_go (m : Nat) : ∀ (p : Nat) (l : Bool) (xs : List S33), 2 * (s.size - p) + (if l = true then 1 else 0) < m → p ≤ s.size → xs.length + m ≤ 100000 →
    ∃ q, runG (NXs s) m p l = some q ∧ Ev (fun k => levyref4_Upto.l0 k s xs l (p : Int)) (endR xs q) := by
  induction m with
  | zero => intro p l xs h; omega
  | succ m ih =>
    intro p l xs hm hp hx
    obtain ⟨hge, hat⟩ := skip_at (s := s) l (s.size + 1) p (by omega) hp
    have hle := skip_le (s := s) l (s.size + 1) p hp
    have hN : NXs s p l = nextAt s (skipB s l (s.size + 1) p) l 0 0 := rfl
    have hskip := fun r => skip_go hs xs l (r := r) (s.size + 1) p hp
    generalize skipB s l (s.size + 1) p = q at *
    unfold nextAt at hN
    cases hb : (Ls s)[q]? with
    | none =>
      rw [hb] at hN
      dsimp only at hN
      have hq : ¬ q < s.size := fun h => by obtain ⟨b, h2⟩ := byte_some s h; rw [h2] at hb; cases hb
      have h0 : ∀ k, levyref4_Upto.l0 (k + 1) s xs l (q : Int) = (if l = true then (if xs.length < 2932031007402 then (some ((xs ++ [(⟨8, (q : Int), (⟨#[]⟩ : ByteArray), 0, 0⟩ : S33)]), 0, 0)) else (none)) else (some (xs, 0, 0))) := fun k => by
        simp only [levyref4_Upto.l0]
        rw [if_neg (by omega)]
      cases l with
      | false =>
        have hN : NXs s p false = (⟨0, 0, ⟨#[]⟩, 0, 0⟩, false, q, false, 0, 0) := hN
        refine ⟨([], (q, false, 0, 0)), ?_, hskip _ ?_⟩
        · unfold runG
          rw [hN]
          rfl
        · refine ⟨1, fun k hk => ?_⟩
          obtain ⟨n, rfl⟩ : ∃ n, k = n + 1 := ⟨k - 1, by omega⟩
          show levyref4_Upto.l0 (n + 1) s xs false (q : Int) = _
          rw [h0, if_neg (by decide)]
          unfold endR
          rw [List.append_nil]
          rfl
      | true =>
        have hN : NXs s p true = (⟨8, q, ⟨#[]⟩, 0, 0⟩, true, q, false, 0, 0) := hN
        obtain ⟨m', rfl⟩ : ∃ m', m = m' + 1 := ⟨m - 1, by rw [if_pos rfl] at hm; omega⟩
        have hN2 : NXs s q false = (⟨0, 0, ⟨#[]⟩, 0, 0⟩, false, q, false, 0, 0) := by
          have e : skipB s false (s.size + 1) q = q := by unfold skipB; rw [hb]
          unfold NXs nextR nextAt
          rw [e, hb]
          rfl
        refine ⟨([⟨8, q, ⟨#[]⟩, 0, 0⟩], (q, false, 0, 0)), ?_, hskip _ ?_⟩
        · unfold runG
          rw [hN]
          dsimp only
          rw [if_pos rfl, if_pos ⟨rfl, rfl⟩]
          unfold runG
          rw [hN2]
          rfl
        · refine ⟨1, fun k hk => ?_⟩
          obtain ⟨n, rfl⟩ : ∃ n, k = n + 1 := ⟨k - 1, by omega⟩
          show levyref4_Upto.l0 (n + 1) s xs true (q : Int) = _
          rw [h0, if_pos rfl, if_pos (by omega)]
          rfl
    | some c =>
      rw [hb] at hN
      dsimp only at hN
      obtain ⟨a1, a2, a3⟩ := hat c hb
      have hlt := (bt_of s hb).2
      by_cases h10 : (c.toNat : Int) = 10
      · obtain rfl := a3 h10
        rw [if_pos h10] at hN
        have hN : NXs s p true = (⟨8, q, ⟨#[]⟩, 0, 0⟩, true, q, false, 0, 0) := hN
        obtain ⟨r, hr, hev⟩ := ih q false (xs ++ [⟨8, q, ⟨#[]⟩, 0, 0⟩]) (by rw [if_pos rfl] at hm; rw [if_neg (by decide)]; omega) (by omega) (by rw [List.length_append]; simp; omega)
        refine ⟨(⟨8, q, ⟨#[]⟩, 0, 0⟩ :: r.1, r.2), ?_, hskip _ ?_⟩
        · unfold runG
          rw [hN]
          dsimp only
          rw [if_pos rfl, if_pos ⟨rfl, rfl⟩, hr]
          rfl
        · have e : endR xs (⟨8, q, ⟨#[]⟩, 0, 0⟩ :: r.1, r.2) = endR (xs ++ [⟨8, q, ⟨#[]⟩, 0, 0⟩]) r := by unfold endR; simp
          rw [e]
          -- behind the newline, the document goes on where the scanner skips the newline
          have hsk : ∀ r', Ev (fun k => levyref4_Upto.l0 k s (xs ++ [⟨8, q, ⟨#[]⟩, 0, 0⟩]) false (q : Int)) r' → Ev (fun k => levyref4_Upto.l0 k s (xs ++ [⟨8, q, ⟨#[]⟩, 0, 0⟩]) false ((q + 1 : Nat) : Int)) r' := fun r' h => by
            obtain ⟨K, hK⟩ := h
            refine ⟨K, fun k hk => ?_⟩
            have := hK (k + 2) (by omega)
            dsimp only at this
            rw [upto_other hs hb a1, if_neg a2, if_pos h10, if_neg (by decide)] at this
            exact this
          exact ev_two hs (h := fun k => levyref4_Upto.l0 k s (xs ++ [⟨8, q, ⟨#[]⟩, 0, 0⟩]) false ((q + 1 : Nat) : Int)) (fun k => by rw [upto_other hs hb a1, if_neg a2, if_pos h10, if_pos rfl, if_pos (by omega)]) (hsk _ hev)
      · rw [if_neg h10] at hN
        have hF := word_fine hb
        have hW := word_p hs hb
        have hwl := word_le (s := s) (p := q) c 0 0 hlt
        generalize wordR s q c 0 0 = w at *
        obtain ⟨t, ok, p', e3, e4⟩ := w
        obtain ⟨K, hK⟩ := hW
        cases ok with
        | true =>
          obtain ⟨f1, f2, f3, f4⟩ := hF.ok rfl
          have f1 : t.f1 = (q : Int) := f1
          have f2 : q < p' := f2
          obtain rfl : e3 = 0 := f3
          obtain rfl : e4 = 0 := f4
          have hwl : p' ≤ s.size := hwl
          have hN : NXs s p l = (t, true, p', true, 0, 0) := hN
          obtain ⟨r, hr, K2, hK2⟩ := ih p' true (xs ++ [t]) (by rw [if_pos rfl]; omega) hwl (by rw [List.length_append]; simp; omega)
          refine ⟨(t :: r.1, r.2), ?_, hskip _ ?_⟩
          · unfold runG
            rw [hN]
            dsimp only
            rw [if_pos rfl, if_pos ⟨rfl, rfl⟩, hr]
            rfl
          · have e : endR xs (t :: r.1, r.2) = endR (xs ++ [t]) r := by unfold endR; simp
            rw [e]
            refine ⟨K + K2 + 2, fun k hk => ?_⟩
            obtain ⟨n, rfl⟩ : ∃ n, k = n + 2 := ⟨k - 2, by omega⟩
            have h1 := hK n (by omega)
            have h2 := hK2 n (by omega)
            dsimp only at h1 h2
            show levyref4_Upto.l0 (n + 2) s xs l (q : Int) = _
            rw [upto_other hs hb a1, if_neg a2, if_neg h10, h1, Option.bind_some]
            show (if (0 : Int) = 0 then (if xs.length < 2932031007402 then (levyref4_Upto.l0 n s (xs ++ [(⟨t.f0, (q : Int), t.f2, t.f3, t.f4⟩ : S33)]) true (p' : Int)) else (none)) else _) = _
            rw [if_pos rfl, if_pos (by omega), ← f1]
            exact h2
        | false =>
          have f3 : e3 ≠ 0 := hF.no rfl
          have hN : NXs s p l = (t, false, p', true, e3, e4) := hN
          refine ⟨([], (p', true, e3, e4)), ?_, hskip _ ?_⟩
          · unfold runG
            rw [hN]
            rfl
          · refine ⟨K + 2, fun k hk => ?_⟩
            obtain ⟨n, rfl⟩ : ∃ n, k = n + 2 := ⟨k - 2, by omega⟩
            have h1 := hK n (by omega)
            dsimp only at h1
            show levyref4_Upto.l0 (n + 2) s xs l (q : Int) = _
            rw [upto_other hs hb a1, if_neg a2, if_neg h10, h1, Option.bind_some]
            show (if e3 = 0 then _ else (some (xs, e4, e3))) = _
            rw [if_neg f3]
            unfold endR
            rw [List.append_nil]
            show _ = some (xs, (if e3 = 0 then 0 else e4), e3)
            rw [if_neg f3]
end
theorem same_list (l : List S33) (hl : l.length < 1000000) : Ev (fun k => levylaw4_same.f k l l) true := by
  suffices h : ∀ (d i : Nat), l.length = i + d → Ev (fun k => levylaw4_same.l0 k l l (i : Int)) true by
    refine Ev.congr (fun k => ?_) (h l.length 0 (by omega))
    unfold levylaw4_same.f
    rw [if_pos rfl]
    rfl
  intro d
  induction d with
  | zero =>
    intro i hi
    refine ⟨1, fun k hk => ?_⟩
    obtain ⟨n, rfl⟩ : ∃ n, k = n + 1 := ⟨k - 1, by omega⟩
    show levylaw4_same.l0 (n + 1) l l (i : Int) = _
    unfold levylaw4_same.l0
    rw [if_neg (by omega)]
  | succ d ih =>
    intro i hi
    obtain ⟨K, hK⟩ := ih (i + 1) (by omega)
    refine ⟨K + 1, fun k hk => ?_⟩
    obtain ⟨n, rfl⟩ : ∃ n, k = n + 1 := ⟨k - 1, by omega⟩
    have h := hK n (by omega)
    dsimp only at h
    show levylaw4_same.l0 (n + 1) l l (i : Int) = _
    unfold levylaw4_same.l0
    have e1 : wrap64 ((i : Int) + 1) = ((i + 1 : Nat) : Int) := by rw [wrI (by omega) (by omega)]; omega
    rw [e1, h, if_pos (by omega), if_pos (by omega), if_pos (by omega), if_neg (by simp)]
end Go.Proofs.YtidbcenbcllfnaaDoor.Pure
