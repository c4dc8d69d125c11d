/- Scan comes to an end; what it takes. No condition. -/
import Derived.Test.YtidbcenbcllfnaaDoorKGrJoin
import Derived.Test.YtidbcenbcllfnaaDoorKPAx0
namespace Go.Proofs.YtidbcenbcllfnaaDoor.Gr
open Go.RowKit Go.Proofs.YtidbcenbcllfnaaDoorW.PrintWords Go.Proofs.YtidbcenbcllfnaaDoorW.PrintLast Go.Proofs.YtidbcenbcllfnaaDoor.PA
set_option linter.unusedVariables false
set_option linter.unusedSectionVars false
set_option linter.unusedSimpArgs false
/-- The scanner comes to an end. -/
theorem runG_total {s : ByteArray} (m : Nat) : ∀ (p : Nat) (l : Bool), 2 * (s.size - p) + (if l = true then 1 else 0) < m → p ≤ s.size → ∃ q, runG (NXs s) m p l = some q := by
  induction m with
  | zero => intro p l h; omega
  | succ m ih =>
    intro p l hm hp
    obtain ⟨hge, hat⟩ := skip_at (s := s) l (s.size + 1) p (by omega) hp
    have hle := skip_le (s := s) l (s.size + 1) p hp
    have hN : NXs s p l = nextAt s (skipB s l (s.size + 1) p) l 0 0 := rfl
    generalize skipB s l (s.size + 1) p = q at *
    unfold nextAt at hN
    have hline : ∀ (hl : NXs s p l = lineR l q 0 0), ∃ r, runG (NXs s) (m + 1) p l = some r := fun hl => by
      cases l with
      | false =>
        refine ⟨([], (q, false, 0, 0)), ?_⟩
        unfold runG
        rw [hl]
        rfl
      | true =>
        rw [if_pos rfl] at hm
        obtain ⟨r, hr⟩ := ih q false (by rw [if_neg (by decide)]; omega) hle
        exact ⟨_, runG_more (t := endT q) (ts := r.1) (r := r.2) hl hr⟩
    cases hb : (Ls s)[q]? with
    | none =>
      rw [hb] at hN
      exact hline hN
    | some c =>
      have hlt := byte_lt hb
      rw [hb] at hN
      dsimp only at hN
      by_cases h10 : (c.toNat : Int) = 10
      · rw [if_pos h10] at hN
        exact hline hN
      · rw [if_neg h10] at hN
        have hF := word_fine hb
        have hwl := word_le (s := s) (p := q) c 0 0 hlt
        generalize wordR s q c 0 0 = w at *
        obtain ⟨t, ok, p', e3, e4⟩ := w
        cases ok with
        | false =>
          have hN : NXs s p l = (t, false, p', true, e3, e4) := hN
          refine ⟨([], (p', true, e3, e4)), ?_⟩
          unfold runG
          rw [hN]
          rfl
        | true =>
          obtain ⟨f1, f2, f3, f4⟩ := hF.ok rfl
          have f2 : q < p' := f2
          obtain rfl : e3 = 0 := f3
          obtain rfl : e4 = 0 := f4
          have hwl : p' ≤ s.size := hwl
          have hN : NXs s p l = (t, true, p', true, 0, 0) := hN
          obtain ⟨r, hr⟩ := ih p' true (by rw [if_pos rfl]; omega) hwl
          exact ⟨_, runG_more (ts := r.1) (r := r.2) hN hr⟩
theorem scan_total (s : ByteArray) : ∃ r, words_Scan.f s = some r := by
  unfold words_Scan.f
  split
  · exact ⟨_, rfl⟩
  · obtain ⟨q, hq⟩ := runG_total (s := s) (2 * s.size + 2) 0 false (by rw [if_neg (by decide)]; omega) (by omega)
    rw [hq]
    exact ⟨_, rfl⟩
/-- What Scan takes, and what it does not. -/
theorem scan_ok {s : ByteArray} {ts : List S33} {x : Int} (h : words_Scan.f s = some (ts, x, 0)) : s.size ≤ 8000 ∧ x = 0 ∧ ScanG false (Ls s) 0 ts := (scan_iff s ts x (scan_total s)).1 h
theorem scan_mk {s : ByteArray} {ts : List S33} (hs : s.size ≤ 8000) (h : ScanG false (Ls s) 0 ts) : words_Scan.f s = some (ts, 0, 0) := (scan_iff s ts 0 (scan_total s)).2 ⟨hs, rfl, h⟩
theorem rd_of {xs : List S33} {i : Nat} {t : S33} (h : xs[i]? = some t) : rd_T33 xs (i : Int) = t := by
  unfold rd_T33
  rw [Int.toNat_natCast, List.getD_eq_getElem?_getD, h]
  rfl
end Go.Proofs.YtidbcenbcllfnaaDoor.Gr
