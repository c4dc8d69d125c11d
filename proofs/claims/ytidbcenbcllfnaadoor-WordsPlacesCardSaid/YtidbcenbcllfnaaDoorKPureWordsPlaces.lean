/- WordsPlaces, the pure law: places rise, each word alone is that word. No condition beyond the given ones. -/
import Derived.Test.YtidbcenbcllfnaaDoorKGrKnown
import Derived.Test.YtidbcenbcllfnaaDoorKPAx0
import Derived.Test.YtidbcenbcllfnaaDoorKPAx2
import Derived.Test.YtidbcenbcllfnaaDoorKPAx3
namespace Go.Proofs.YtidbcenbcllfnaaDoor.Gr
open Go.RowKit Go.Proofs.YtidbcenbcllfnaaDoorW.PrintWords Go.Proofs.YtidbcenbcllfnaaDoorW.PrintLast Go.Proofs.YtidbcenbcllfnaaDoor.PA
set_option linter.unusedVariables false
set_option linter.unusedSectionVars false
set_option linter.unusedSimpArgs false
theorem places_loop (s : ByteArray) (hs : s.size ≤ 4000) (xs : List S33) (hx : xs.length ≤ 100000) (d : Nat) : ∀ (i : Nat) (pr : Option S33), xs.length = i + d → (i = 0 → pr = none) → (∀ j, i = j + 1 → ∃ p, pr = some p ∧ xs[j]? = some p) → Pl s pr (xs.drop i) →
    Ev (fun k => levylaw4_WordsPlaces.l0 k s xs (i : Int)) true := by
  induction d with
  | zero =>
    intro i pr hi _ _ _
    refine ⟨1, fun k hk => ?_⟩
    obtain ⟨n, rfl⟩ : ∃ n, k = n + 1 := ⟨k - 1, by omega⟩
    show levylaw4_WordsPlaces.l0 (n + 1) s xs (i : Int) = _
    simp only [levylaw4_WordsPlaces.l0]
    rw [if_neg (by omega)]
  | succ d ih =>
    intro i pr hi h0 hS hP
    have hlt : i < xs.length := by omega
    obtain ⟨t, ht⟩ : ∃ t, xs[i]? = some t := ⟨_, List.getElem?_eq_getElem hlt⟩
    have hdrop : xs.drop i = t :: xs.drop (i + 1) := by
      obtain ⟨hl, e⟩ := List.getElem?_eq_some_iff.1 ht
      rw [List.drop_eq_getElem_cons hl, e]
    rw [hdrop] at hP
    obtain ⟨p1, p2, p3, p4, p5, p6⟩ := hP
    obtain ⟨K, hK⟩ := ih (i + 1) (some t) (by omega) (by omega) (fun j hj => ⟨t, rfl, by rw [show j = i by omega]; exact ht⟩) p6
    have w1 : wrap64 ((i : Int) + 1) = ((i + 1 : Nat) : Int) := by rw [wrI (by omega) (by omega)]; omega
    refine ⟨K + 3, fun k hk => ?_⟩
    obtain ⟨n, rfl⟩ : ∃ n, k = n + 3 := ⟨k - 3, by omega⟩
    have hKn := hK n (by omega)
    have hKn1 := hK (n + 1) (by omega)
    dsimp only at hKn hKn1
    show levylaw4_WordsPlaces.l0 (n + 3) s xs (i : Int) = _
    have hj : levylaw4_WordsPlaces.l0 (n + 3) s xs (i : Int) = levylaw4_WordsPlaces.j1 (n + 2) s xs (i : Int) false t.f0 t.f1 t.f2 t.f3 t.f4 := by
      simp only [levylaw4_WordsPlaces.l0]
      rw [rd_of ht, if_pos (by omega), if_pos (by omega), if_neg (by omega), if_neg (by omega)]
      cases i with
      | zero => rw [if_neg (by decide)]
      | succ j =>
        obtain ⟨p, hp, hpj⟩ := hS j rfl
        have hlt2 := p3 p hp
        have w2 : wrap64 (((j + 1 : Nat) : Int) - 1) = (j : Int) := by rw [wrI (by omega) (by omega)]; omega
        rw [w2, rd_of hpj]
        clear w2 w1
        rw [if_pos (by omega), if_pos (by omega), if_pos (by omega), if_neg (by omega), decide_eq_false (by omega)]
    rw [hj]
    simp only [levylaw4_WordsPlaces.j1]
    rw [if_neg (by decide), w1]
    by_cases h8 : t.f0 = 8
    · rw [if_pos h8]
      obtain ⟨p, hp, hp8⟩ := p4 h8
      cases i with
      | zero => rw [h0 rfl] at hp; cases hp
      | succ j =>
        obtain ⟨p', hp', hpj⟩ := hS j rfl
        rw [hp] at hp'
        cases hp'
        have w2 : wrap64 (((j + 1 : Nat) : Int) - 1) = (j : Int) := by rw [wrI (by omega) (by omega)]; omega
        rw [w2, rd_of hpj, hKn1]
        clear w2 w1
        rw [if_neg (by omega), if_pos (by omega), if_pos (by omega), if_neg hp8]
    · rw [if_neg h8]
      obtain ⟨u, us, hu, hlt2, hle, e, hG⟩ := p5 h8
      have hu2 : xs[i + 1]? = some u := by
        rw [← Nat.add_zero (i + 1), ← List.getElem?_drop, hu]
        rfl
      have hlt3 : i + 1 < xs.length := (List.getElem?_eq_some_iff.1 hu2).1
      have hsize : (s.extract t.f1.toNat u.f1.toNat).size ≤ 8000 := by rw [ByteArray.size_extract]; omega
      have hsc := scan_mk hsize hG
      clear w1
      rw [rd_of hu2, if_neg (by omega), if_pos (by omega), if_pos (by omega), decide_eq_false (by omega)]
      simp only [levylaw4_WordsPlaces.j2]
      have w1 : wrap64 ((i : Int) + 1) = ((i + 1 : Nat) : Int) := by rw [wrI (by omega) (by omega)]; omega
      rw [if_neg (by decide), w1, rd_of hu2, hsc, hKn]
      clear w1
      rw [if_pos (by omega), if_pos (by omega), if_pos (by omega), if_pos (by omega), if_pos (by omega)]
      have e0 : rd_T33 [atQ t 0, endT e] 0 = atQ t 0 := rfl
      have e1 : rd_T33 [atQ t 0, endT e] 1 = endT e := rfl
      unfold levylaw4_num.f
      rw [Option.bind_some, Option.bind_some, if_pos rfl]
      dsimp only
      rw [e0, e1]
      simp [atQ]
theorem wordsPlaces : levylaw4_WordsPlaces.Pure := by
  have hk := known_ev
  intro s _
  obtain ⟨K0, hK0⟩ := hk
  obtain ⟨⟨ts, x, e⟩, hr⟩ := scan_total s
  unfold levylaw4_WordsPlaces.f
  by_cases hs : (s.size : Int) > 4000
  · exact ⟨K0, by rw [hK0 K0 (Nat.le_refl _), Option.bind_some, if_pos rfl, if_pos hs]⟩
  · by_cases he : e = 0
    · subst he
      obtain ⟨h1, h2, h3⟩ := scan_ok hr
      have hlen := G_len h3
      rw [if_neg (by decide), Ls_len] at hlen
      obtain ⟨K, hK⟩ := places_loop s (by omega) ts (by omega) ts.length 0 none (by omega) (fun _ => rfl) (fun j hj => by omega) (by
        rw [List.drop_zero]
        exact G_places h3 rfl (by omega) none (fun h => by cases h) (fun p hp => by cases hp))
      refine ⟨K0 + K, ?_⟩
      have hKn := hK (K0 + K) (by omega)
      dsimp only at hKn
      rw [hK0 _ (by omega), Option.bind_some, if_pos rfl, if_neg hs, hr, Option.bind_some]
      unfold levylaw4_num.f
      rw [Option.bind_some, if_pos rfl]
      exact hKn
    · refine ⟨K0, ?_⟩
      rw [hK0 _ (by omega), Option.bind_some, if_pos rfl, if_neg hs, hr, Option.bind_some]
      unfold levylaw4_num.f
      rw [Option.bind_some, if_neg he]
end Go.Proofs.YtidbcenbcllfnaaDoor.Gr
namespace Go.Proofs.YtidbcenbcllfnaaDoor.Pure
open Go.Proofs.YtidbcenbcllfnaaDoor.PA
theorem WordsPlaces : levylaw4_WordsPlaces.Pure := Gr.wordsPlaces
end Go.Proofs.YtidbcenbcllfnaaDoor.Pure
namespace Go.Proofs.YtidbcenbcllfnaaDoor.Gr
end Go.Proofs.YtidbcenbcllfnaaDoor.Gr
