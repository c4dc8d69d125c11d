/- Texts joined by a line feed; the places of the words; a word alone. No condition. -/
import Derived.Test.YtidbcenbcllfnaaDoorKGrGram
import Derived.Test.YtidbcenbcllfnaaDoorKPAx0
namespace Go.Proofs.YtidbcenbcllfnaaDoor.Gr
open Go.RowKit Go.Proofs.YtidbcenbcllfnaaDoorW.PrintWords Go.Proofs.YtidbcenbcllfnaaDoorW.PrintLast Go.Proofs.YtidbcenbcllfnaaDoor.PA
set_option linter.unusedVariables false
set_option linter.unusedSectionVars false
set_option linter.unusedSimpArgs false
/-- A token, k places on. -/
def sh (k : Nat) (t : S33) : S33 := ⟨t.f0, t.f1 + k, t.f2, t.f3, t.f4⟩
/-- How many tokens there are. -/
theorem G_len {l : Bool} {D : List UInt8} {o : Nat} {ts : List S33} (h : ScanG l D o ts) : ts.length ≤ 2 * D.length + (if l = true then 1 else 0) := by
  induction h with
  | endF o => simp
  | endL o => simp
  | blank hc h ih => rw [List.length_cons]; omega
  | note hc hC hD h ih => rw [List.length_cons, List.length_append]; omega
  | lineL hc h ih => rw [if_neg (by decide)] at ih; rw [List.length_cons, List.length_cons]; omega
  | lineF hc h ih => rw [List.length_cons]; omega
  | word hw h ih => have := hw.pos; rw [if_pos rfl] at ih; rw [List.length_cons, List.length_append]; omega

/-! ### places -/
theorem word_kind {s : ByteArray} {q : Nat} {c : UInt8} {r : Nat × Int × Int} {t : S33} (h : wordR s q c 0 0 = (t, true, r)) : t.f0 ≠ 8 ∧ 1 ≤ t.f0 := by
  have key : ∀ n : Int, t.f0 = n → (n = 1 ∨ n = 2 ∨ n = 3 ∨ n = 4 ∨ n = 5 ∨ n = 6 ∨ n = 7) → t.f0 ≠ 8 ∧ 1 ≤ t.f0 := fun n h1 h2 => by omega
  unfold wordR at h
  split at h
  · unfold nameR at h
    split at h
    · exact key 1 (by cases h; rfl) (by decide)
    · cases h
  · split at h
    · unfold numberR at h
      split at h
      · unfold dateR at h
        split at h
        · cases h
        · exact key 5 (by cases h; rfl) (by decide)
      · unfold numR at h
        split at h
        · next h1 =>
          have e : t.f0 = (resR s q).1.f0 := by cases h; rfl
          rw [e]
          unfold resR at h1 ⊢
          dsimp only at h1 ⊢
          split
          · next h2 => rw [if_pos h2] at h1; cases h1
          · next h2 =>
            rw [if_neg h2] at h1
            split
            · next h3 => rw [if_pos h3] at h1; cases h1
            · next h3 =>
              rw [if_neg h3] at h1
              split
              · next h4 =>
                rw [if_pos h4] at h1
                unfold ratioR at h1 ⊢
                split
                · next h5 => rw [if_pos h5] at h1; cases h1
                · next h5 =>
                  rw [if_neg h5] at h1
                  split
                  · next h6 => rw [if_pos h6] at h1; cases h1
                  · exact ⟨show (4 : Int) ≠ 8 by decide, show (1 : Int) ≤ 4 by decide⟩
              · split
                · exact ⟨show (2 : Int) ≠ 8 by decide, show (1 : Int) ≤ 2 by decide⟩
                · exact ⟨show (3 : Int) ≠ 8 by decide, show (1 : Int) ≤ 3 by decide⟩
        · cases h
    · split at h
      · unfold quotedR at h
        have : ∀ (d i : Nat) (acc : List UInt8), txtR s q 0 0 d i acc = (t, true, r) → t.f0 = 6 := by
          intro d
          induction d with
          | zero => intro i acc h; unfold txtR at h; cases h
          | succ d ih =>
            intro i acc h
            unfold txtR at h
            split at h
            · cases h
            · split at h
              · cases h
              · split at h
                · split at h
                  · cases h; rfl
                  · cases h
                · split at h
                  · split at h
                    · cases h
                    · split at h
                      · exact ih _ _ h
                      · cases h
                  · split at h
                    · cases h
                    · exact ih _ _ h
        exact key 6 (this _ _ _ h) (by decide)
      · split at h
        · unfold signR at h
          split at h
          · exact key 7 (by cases h; rfl) (by decide)
          · split at h
            · cases h
            · exact key 7 (by cases h; rfl) (by decide)
        · cases h
theorem IsWord.kind {A R : List UInt8} {t : S33} (h : IsWord A R t) : t.f0 ≠ 8 ∧ 1 ≤ t.f0 := by
  obtain ⟨c, h1, h2⟩ := h.w
  exact word_kind h2
/-- What stands between a word and the next token. -/
theorem G_first {l : Bool} {R : List UInt8} {o : Nat} {ts : List S33} (h : ScanG l R o ts) : l = true → ∃ B R' u us, R = B ++ R' ∧ ts = u :: us ∧ u.f1 = ((o + B.length : Nat) : Int) ∧ (B = [] ∨ ∃ c T, B = c :: T ∧ plain c = false) ∧ ∀ o', ScanG true B o' [endT (o' + B.length)] := by
  induction h with
  | endF o => intro hl; cases hl
  | endL o => intro hl; exact ⟨[], [], _, _, rfl, rfl, rfl, .inl rfl, fun o' => .endL o'⟩
  | @blank l c D o ts hc h ih =>
    intro hl
    obtain ⟨B, R', u, us, rfl, rfl, h1, h2, h3⟩ := ih hl
    refine ⟨c :: B, R', u, us, rfl, rfl, ?_, .inr ⟨c, B, rfl, ?_⟩, fun o' => ?_⟩
    · rw [h1, List.length_cons, show o + 1 + B.length = o + (B.length + 1) by omega]
    · unfold plain
      rcases hc with hc | hc <;> rw [hc] <;> rfl
    · have := h3 (o' + 1)
      rw [List.length_cons, show o' + (B.length + 1) = o' + 1 + B.length by omega]
      exact .blank hc this
  | @note l c C D o ts hc hC hD h ih =>
    intro hl
    obtain ⟨B, R', u, us, rfl, rfl, h1, h2, h3⟩ := ih hl
    refine ⟨c :: (C ++ B), R', u, us, by simp, rfl, ?_, .inr ⟨c, C ++ B, rfl, ?_⟩, fun o' => ?_⟩
    · rw [h1, List.length_cons, List.length_append, show o + 1 + C.length + B.length = o + (C.length + B.length + 1) by omega]
    · unfold plain
      rw [hc]
      rfl
    · have := h3 (o' + 1 + C.length)
      rw [List.length_cons, List.length_append, show o' + (C.length + B.length + 1) = o' + 1 + C.length + B.length by omega]
      refine .note hc hC (fun x hx => ?_) this
      cases B with
      | nil => cases hx
      | cons b B => exact hD x hx
  | @lineL c D o ts hc h ih => intro hl; exact ⟨[], c :: D, _, _, rfl, rfl, rfl, .inl rfl, fun o' => .endL o'⟩
  | lineF hc h ih => intro hl; cases hl
  | @word l A R t o ts hw h ih => intro hl; exact ⟨[], A ++ R, _, _, rfl, rfl, rfl, .inl rfl, fun o' => .endL o'⟩
/-- The tokens from one on: p stands ahead of them (if anything does). -/
def Pl (s : ByteArray) : Option S33 → List S33 → Prop
  | _, [] => True
  | pr, t :: ts => 0 ≤ t.f1 ∧ t.f1 ≤ s.size ∧ (∀ p, pr = some p → p.f1 < t.f1) ∧ (t.f0 = 8 → ∃ p, pr = some p ∧ p.f0 ≠ 8) ∧
    (t.f0 ≠ 8 → ∃ u us, ts = u :: us ∧ t.f1 < u.f1 ∧ u.f1 ≤ s.size ∧ ∃ e : Nat, ScanG false (Ls (s.extract t.f1.toNat u.f1.toNat)) 0 [atQ t 0, endT e]) ∧ Pl s (some t) ts
theorem G_places {s : ByteArray} {l : Bool} {D : List UInt8} {o : Nat} {ts : List S33} (h : ScanG l D o ts) : (Ls s).drop o = D → o ≤ s.size → ∀ pr : Option S33, (l = true → ∃ p, pr = some p ∧ p.f0 ≠ 8) → (∀ p, pr = some p → p.f1 < o) → Pl s pr ts := by
  induction h with
  | endF o => intro _ _ pr _ _; trivial
  | endL o =>
    intro hD ho pr hl hp
    refine ⟨by simp, by simpa using ho, hp, fun _ => hl rfl, fun h => absurd rfl h, trivial⟩
  | blank hc h ih =>
    intro hD ho pr hl hp
    obtain ⟨h1, h2, h3⟩ := drop_cons hD
    exact ih h2 (by omega) pr hl fun p hpr => by have := hp p hpr; omega
  | note hc hC hN h ih =>
    intro hD ho pr hl hp
    obtain ⟨h1, h2, h3⟩ := nx_note (s := s) (l := true) hD hc hC hN
    exact ih h3 h2 pr hl fun p hpr => by have := hp p hpr; omega
  | @lineL c D o ts hc h ih =>
    intro hD ho pr hl hp
    obtain ⟨h1, h2, h3⟩ := drop_cons hD
    refine ⟨by simp, by simpa using ho, hp, fun _ => hl rfl, fun h => absurd rfl h, ?_⟩
    refine ih h2 (by omega) _ (fun h => by cases h) fun p hpr => ?_
    cases hpr
    simp only [endT]
    omega
  | lineF hc h ih =>
    intro hD ho pr hl hp
    obtain ⟨h1, h2, h3⟩ := drop_cons hD
    exact ih h2 (by omega) pr (fun h => by cases h) fun p hpr => by have := hp p hpr; omega
  | @word l A R t o ts hw h ih =>
    intro hD ho pr hl hp
    have hpos := hw.pos
    have hk := hw.kind.1
    have hlen := congrArg List.length hD
    rw [List.length_drop, Ls_len, List.length_append] at hlen
    obtain ⟨B, R', u, us, rfl, rfl, h1, h2, h3⟩ := G_first h rfl
    rw [List.length_append] at hlen
    refine ⟨by simp [atQ], by simp only [atQ]; omega, hp, fun h => absurd h hk, fun _ => ?_, ?_⟩
    · refine ⟨u, us, rfl, by simp only [atQ]; omega, by omega, A.length + B.length, ?_⟩
      have hpiece : Ls (s.extract (atQ t o).f1.toNat u.f1.toNat) = A ++ B := by
        show (s.extract (o : Int).toNat u.f1.toNat).data.toList = _
        rw [h1, Int.toNat_natCast, Int.toNat_natCast, ByteArray.data_extract, Array.toList_extract, List.extract_eq_take_drop]
        show ((Ls s).drop o).take _ = _
        rw [hD, show o + A.length + B.length - o = A.length + B.length by omega, ← List.append_assoc, ← List.length_append, List.take_left]
      rw [hpiece]
      have hcalm : Calm B (B ++ R') := by
        rcases h2 with rfl | ⟨c, T, rfl, hc⟩
        · exact Calm.nil _
        · exact Calm.blank _ _ hc
      have hw2 := hw.calm hcalm
      rw [atQ_atQ]
      have h4 := h3 (0 + A.length)
      rw [Nat.zero_add] at h4
      have := ScanG.word (l := false) (o := 0) hw2 (by rw [Nat.zero_add]; exact h4)
      rw [atQ_atQ] at this
      exact this
    · refine ih (by rw [← List.drop_drop, hD, List.drop_left]) (by omega) _ (fun _ => ⟨_, rfl, hk⟩) fun p hpr => ?_
      cases hpr
      simp only [atQ]
      omega
end Go.Proofs.YtidbcenbcllfnaaDoor.Gr
