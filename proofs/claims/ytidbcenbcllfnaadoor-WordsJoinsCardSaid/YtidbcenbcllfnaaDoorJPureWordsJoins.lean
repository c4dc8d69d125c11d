/- WordsJoins, the pure law: two texts joined by a line feed have the words of the one and then of the other. No condition beyond the given ones. -/
import Derived.Test.YtidbcenbcllfnaaDoorJGrKnown
import Derived.Test.YtidbcenbcllfnaaDoorJPAx0
import Derived.Test.YtidbcenbcllfnaaDoorJPAx2
import Derived.Test.YtidbcenbcllfnaaDoorJPAx4
namespace Go.Proofs.YtidbcenbcllfnaaDoor.Gr
open Go.RowKit Go.Proofs.YtidbcenbcllfnaaDoorW.PrintWords Go.Proofs.YtidbcenbcllfnaaDoorW.PrintLast Go.Proofs.YtidbcenbcllfnaaDoor.PA
set_option linter.unusedVariables false
set_option linter.unusedSectionVars false
set_option linter.unusedSimpArgs false
/-! ### joins -/
theorem joins_loop (a b : ByteArray) (hs : a.size + b.size ≤ 7999) (l : List S33) (hl : l.length ≤ 100000) (ts : List S33) (hts : ts.length ≤ 100000) (hpl : ∀ t ∈ ts, 0 ≤ t.f1 ∧ t.f1 ≤ 8000) (hj : words_Scan.f ((a ++ (⟨#[10]⟩ : ByteArray)) ++ b) = some (l ++ ts.map (sh (a.size + 1)), 0, 0)) (d : Nat) : ∀ i, ts.length = i + d →
    Ev (fun k => levylaw4_WordsJoins.l0 k a b l ((ts.take i).map (sh (a.size + 1)) ++ ts.drop i) (i : Int)) true := by
  induction d with
  | zero =>
    intro i hi
    obtain ⟨K, hK⟩ := same_refl (l ++ ts.map (sh (a.size + 1))) (by rw [List.length_append, List.length_map]; omega)
    refine ⟨K + 1, fun k hk => ?_⟩
    obtain ⟨n, rfl⟩ : ∃ n, k = n + 1 := ⟨k - 1, by omega⟩
    have h := hK n (by omega)
    dsimp only at h
    show levylaw4_WordsJoins.l0 (n + 1) a b l _ (i : Int) = _
    rw [List.take_of_length_le (by omega), List.drop_of_length_le (by omega), List.append_nil]
    simp only [levylaw4_WordsJoins.l0]
    have hsz : (a ++ (⟨#[10]⟩ : ByteArray)).size = a.size + 1 := by rw [ByteArray.size_append]; rfl
    rw [if_neg (by rw [List.length_map]; omega), if_pos (by omega), if_pos (by omega), hj, Option.bind_some]
    unfold levylaw4_num.f
    rw [Option.bind_some, if_pos rfl, if_pos (by rw [List.length_map]; omega), h, Option.bind_some]
  | succ d ih =>
    intro i hi
    obtain ⟨K, hK⟩ := ih (i + 1) (by omega)
    refine ⟨K + 1, fun k hk => ?_⟩
    obtain ⟨n, rfl⟩ : ∃ n, k = n + 1 := ⟨k - 1, by omega⟩
    have h := hK n (by omega)
    dsimp only at h
    show levylaw4_WordsJoins.l0 (n + 1) a b l _ (i : Int) = _
    have hlt : i < ts.length := by omega
    obtain ⟨t, ht⟩ : ∃ t, ts[i]? = some t := ⟨_, List.getElem?_eq_getElem hlt⟩
    have hdrop : ts.drop i = t :: ts.drop (i + 1) := by
      obtain ⟨hl, e⟩ := List.getElem?_eq_some_iff.1 ht
      rw [List.drop_eq_getElem_cons hl, e]
    have htk : ts.take (i + 1) = ts.take i ++ [t] := by rw [List.take_add_one, ht]; rfl
    obtain ⟨b1, b2⟩ := hpl t (List.mem_of_getElem? ht)
    have hlen : ((ts.take i).map (sh (a.size + 1))).length = i := by rw [List.length_map, List.length_take]; omega
    have hrd : rd_T33 ((ts.take i).map (sh (a.size + 1)) ++ ts.drop i) (i : Int) = t := by
      apply rd_of
      rw [List.getElem?_append_right (by omega), hlen, Nat.sub_self, hdrop]
      rfl
    have hset : ((ts.take i).map (sh (a.size + 1)) ++ ts.drop i).set i (sh (a.size + 1) t) = (ts.take (i + 1)).map (sh (a.size + 1)) ++ ts.drop (i + 1) := by
      rw [List.set_append_right _ _ (by omega), hlen, Nat.sub_self, hdrop, htk, List.map_append, List.append_assoc]
      rfl
    have e1 : wrap64 ((i : Int) + 1) = ((i + 1 : Nat) : Int) := by rw [wrI (by omega) (by omega)]; omega
    have e2 : wrap64 ((wrap64 (t.f1 + (a.size : Int))) + 1) = t.f1 + ((a.size + 1 : Nat) : Int) := by rw [wrI (x := t.f1 + (a.size : Int)) (by omega) (by omega), wrI (by omega) (by omega)]; omega
    simp only [levylaw4_WordsJoins.l0]
    rw [hrd, e1, e2, Int.toNat_natCast]
    have e3 : (⟨t.f0, t.f1 + ((a.size + 1 : Nat) : Int), t.f2, t.f3, t.f4⟩ : S33) = sh (a.size + 1) t := rfl
    rw [e3, hset, h]
    clear e1 e2
    rw [if_pos (by rw [List.length_append, hlen, List.length_drop]; omega), if_pos (by omega)]
theorem G_range {l : Bool} {D : List UInt8} {o : Nat} {ts : List S33} (h : ScanG l D o ts) : ∀ t ∈ ts, 0 ≤ t.f1 ∧ t.f1 ≤ ((o + D.length : Nat) : Int) := by
  induction h with
  | endF o => intro t ht; cases ht
  | endL o => intro t ht; rw [List.mem_singleton] at ht; subst ht; simp only [endT]; simp
  | blank hc h ih => intro t ht; have := ih t ht; rw [List.length_cons]; omega
  | note hc hC hD h ih => intro t ht; have := ih t ht; rw [List.length_cons, List.length_append]; omega
  | lineL hc h ih =>
    intro t ht
    rcases List.mem_cons.1 ht with rfl | ht
    · simp only [endT]; omega
    · have := ih t ht; rw [List.length_cons]; omega
  | lineF hc h ih => intro t ht; have := ih t ht; rw [List.length_cons]; omega
  | word hw h ih =>
    intro t ht
    rcases List.mem_cons.1 ht with rfl | ht
    · simp only [atQ]; omega
    · have := ih t ht; rw [List.length_append]; omega
theorem wordsJoins : levylaw4_WordsJoins.Pure := by
  have hk := known_ev
  intro a b ha hb
  obtain ⟨K0, hK0⟩ := hk
  obtain ⟨⟨l, x, e⟩, hl⟩ := scan_total a
  obtain ⟨⟨m, y, f⟩, hm⟩ := scan_total b
  have w0 : wrap64 ((a.size : Int) + (b.size : Int)) = ((a.size + b.size : Nat) : Int) := by rw [wrI (by omega) (by omega)]; omega
  have hj0 : ∀ l m, Ev (fun k => levylaw4_WordsJoins.j0 k a b l m true) true := fun l m => ⟨1, fun k hk => by
    obtain ⟨n, rfl⟩ : ∃ n, k = n + 1 := ⟨k - 1, by omega⟩
    show levylaw4_WordsJoins.j0 (n + 1) a b l m true = _
    simp only [levylaw4_WordsJoins.j0, if_true]⟩
  unfold levylaw4_WordsJoins.f levylaw4_num.f
  rw [w0]
  clear w0
  by_cases hs : ((a.size + b.size : Nat) : Int) > 7999
  · exact ⟨K0, by rw [hK0 K0 (Nat.le_refl _), Option.bind_some, if_pos rfl, if_pos hs]⟩
  · by_cases he : e = 0
    · subst he
      by_cases hf : f = 0
      · subst hf
        obtain ⟨a1, a2, a3⟩ := scan_ok hl
        obtain ⟨b1, b2, b3⟩ := scan_ok hm
        have la := G_len a3
        have lb := G_len b3
        rw [if_neg (by decide), Ls_len] at la lb
        have hbytes : Ls ((a ++ (⟨#[10]⟩ : ByteArray)) ++ b) = Ls a ++ 10 :: Ls b := by
          show ((a ++ (⟨#[10]⟩ : ByteArray)) ++ b).data.toList = _
          rw [ByteArray.data_append, ByteArray.data_append, Array.toList_append, Array.toList_append, List.append_assoc]
          rfl
        have hj : words_Scan.f ((a ++ (⟨#[10]⟩ : ByteArray)) ++ b) = some (l ++ m.map (sh (a.size + 1)), 0, 0) := by
          refine scan_mk ?_ ?_
          · rw [ByteArray.size_append, ByteArray.size_append]
            show a.size + 1 + b.size ≤ 8000
            omega
          · rw [hbytes]
            have h2 := G_shift (a.size + 1) b3
            refine G_join a3 ?_
            rw [Ls_len, Nat.zero_add]
            rw [Nat.zero_add] at h2
            exact h2
        obtain ⟨K, hK⟩ := joins_loop a b (by omega) l (by omega) m (by omega) (fun t ht => by have := G_range b3 t ht; rw [Ls_len] at this; omega) hj m.length 0 (by omega)
        refine ⟨K0 + K + 1, ?_⟩
        have hKn := hK (K0 + K) (by omega)
        dsimp only at hKn
        rw [hK0 _ (by omega), Option.bind_some, if_pos rfl, if_neg hs, hl, Option.bind_some, hm, Option.bind_some, Option.bind_some, if_pos rfl, Option.bind_some]
        show levylaw4_WordsJoins.j0 (K0 + K + 1) a b l m false = _
        simp only [levylaw4_WordsJoins.j0, Bool.false_eq_true, if_false]
        simpa using hKn
      · obtain ⟨K, hK⟩ := hj0 l m
        refine ⟨K0 + K, ?_⟩
        have hKn := hK (K0 + K) (by omega)
        dsimp only at hKn
        rw [hK0 _ (by omega), Option.bind_some, if_pos rfl, if_neg hs, hl, Option.bind_some, hm, Option.bind_some, Option.bind_some, if_pos rfl, Option.bind_some]
        have : (f != 0) = true := by simpa using hf
        show levylaw4_WordsJoins.j0 (K0 + K) a b l m (f != 0) = _
        rw [this]
        exact hKn
    · obtain ⟨K, hK⟩ := hj0 l m
      refine ⟨K0 + K, ?_⟩
      have hKn := hK (K0 + K) (by omega)
      dsimp only at hKn
      rw [hK0 _ (by omega), Option.bind_some, if_pos rfl, if_neg hs, hl, Option.bind_some, hm, Option.bind_some, Option.bind_some, if_neg he]
      exact hKn
end Go.Proofs.YtidbcenbcllfnaaDoor.Gr
namespace Go.Proofs.YtidbcenbcllfnaaDoor.Pure
open Go.Proofs.YtidbcenbcllfnaaDoor.PA
theorem WordsJoins : levylaw4_WordsJoins.Pure := Gr.wordsJoins
end Go.Proofs.YtidbcenbcllfnaaDoor.Pure
namespace Go.Proofs.YtidbcenbcllfnaaDoor.Gr
end Go.Proofs.YtidbcenbcllfnaaDoor.Gr
