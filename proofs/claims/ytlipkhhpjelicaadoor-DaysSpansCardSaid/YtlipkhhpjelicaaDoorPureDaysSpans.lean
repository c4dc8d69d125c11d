/- DaysSpans, the pure law: every Add, Between, Age, Held and Share answers as the document's. No condition beyond the given ones (that the arguments are 64-bit numbers). -/
import Derived.Test.YtlipkhhpjelicaaDoorDaysSpan
import Derived.Test.YtlipkhhpjelicaaDoorDaysKnown
import Derived.Test.YtlipkhhpjelicaaDoorMonths
import Derived.Test.YtlipkhhpjelicaaDoorPAx0
import Derived.Test.YtlipkhhpjelicaaDoorPAx5
import Derived.Test.YtlipkhhpjelicaaDoorPAx10
import Derived.Test.YtlipkhhpjelicaaDoorPAx11
import Derived.Test.YtlipkhhpjelicaaDoorPAx13
import Derived.Test.YtlipkhhpjelicaaDoorPAx23
import Derived.Test.YtlipkhhpjelicaaDoorPAx24
import Derived.Test.YtlipkhhpjelicaaDoorPAx25
import Derived.Test.YtlipkhhpjelicaaDoorPAx26
import Derived.Test.YtlipkhhpjelicaaDoorPAx27
import Derived.Test.YtlipkhhpjelicaaDoorPAx28
import Derived.Test.YtlipkhhpjelicaaDoorPAx29
namespace Go.Proofs.YtlipkhhpjelicaaDoor.Pure
set_option linter.unusedVariables false
open Go.RowKit Go.Proofs.YtlipkhhpjelicaaDoorW.PrintWords Go.Proofs.YtlipkhhpjelicaaDoorW.PrintLast Go.Proofs.YtlipkhhpjelicaaDoor.PA Go.Proofs.YtlipkhhpjelicaaDoor.Cal Go.Proofs.YtlipkhhpjelicaaDoor.Days

theorem share_j1 {k : Nat} {lo hi a b x : Int} (h0 : 0 ≤ lo) (h1 : lo < hi) (h2 : hi ≤ 109573) (ha : 0 ≤ a ∧ a ≤ 109572) (hb : 0 ≤ b ∧ b ≤ 109572) (hab : ¬ b < a) (hx : x = max a lo) :
    levyref2_Share.j1 (k + 1) lo hi x (b + 1) = some (max 0 (min hi (b + 1) - max a lo), hi - lo, 0) := by
  rw [← hx]
  have hx0 : 0 ≤ x := by omega
  have hx1 : x ≤ 109573 := by omega
  clear hx
  simp only [levyref2_Share.j1]
  rw [wr (x := hi - lo) (by omega) (by omega)]
  by_cases c1 : hi < b + 1
  · rw [if_pos c1]
    by_cases c2 : hi < x
    · rw [if_pos c2, show max 0 (min hi (b + 1) - x) = 0 by omega]
    · rw [if_neg c2, wr (x := hi - x) (by omega) (by omega), show max 0 (min hi (b + 1) - x) = hi - x by omega]
  · rw [if_neg c1]
    by_cases c2 : b + 1 < x
    · rw [if_pos c2, show max 0 (min hi (b + 1) - x) = 0 by omega]
    · rw [if_neg c2, wr (x := b + 1 - x) (by omega) (by omega), show max 0 (min hi (b + 1) - x) = b + 1 - x by omega]

theorem share_w0 {j : Nat} (hj : j < 300) : wrap64 (1900 + (j : Int) - 1900) = (j : Int) := by
  have e : 1900 + (j : Int) - 1900 = (j : Int) := by omega
  rw [e]
  exact wr (by omega) (by omega)
theorem share_w1 {j : Nat} (hj : j < 300) : wrap64 (12 * wrap64 (1900 + (j : Int) - 1900)) = ((12 * j : Nat) : Int) := by
  rw [share_w0 hj]
  have e : 12 * (j : Int) = ((12 * j : Nat) : Int) := by omega
  rw [e]
  exact wr (by omega) (by omega)
theorem share_w2 {j : Nat} (hj : j < 300) : wrap64 (12 * wrap64 (wrap64 (1900 + (j : Int) - 1900) + 1)) = ((12 * j + 12 : Nat) : Int) := by
  rw [share_w0 hj]
  have e1 : wrap64 ((j : Int) + 1) = (j : Int) + 1 := wr (by omega) (by omega)
  have e : 12 * ((j : Int) + 1) = ((12 * j + 12 : Nat) : Int) := by omega
  rw [e1, e]
  exact wr (by omega) (by omega)

theorem share_j0 {k j : Nat} {lo hi a b : Int} (h0 : 0 ≤ lo) (h1 : lo < hi) (h2 : hi ≤ 109573) (ha : 0 ≤ a ∧ a ≤ 109572) (hb : 0 ≤ b ∧ b ≤ 109572) (hj : j < 300) (hab : ¬ b < a)
    (e1 : levyref2_begins.f (k + 1) ((12 * j : Nat) : Int) = some lo) (e2 : levyref2_begins.f (k + 1) ((12 * j + 12 : Nat) : Int) = some hi) :
    levyref2_Share.j0 (k + 1 + 1) a b (1900 + (j : Int)) false = some (max 0 (min hi (b + 1) - max a lo), hi - lo, 0) := by
  have w1 := share_w1 hj
  have w2 := share_w2 hj
  generalize 1900 + (j : Int) = y at *
  simp only [levyref2_Share.j0]
  rw [if_neg (by simp), if_neg hab, w1, w2, e1, Option.bind_some, e2, Option.bind_some, wr (x := b + 1) (by omega) (by omega)]
  by_cases c : lo > a
  · rw [if_pos c]; exact share_j1 h0 h1 h2 ha hb hab (by omega)
  · rw [if_neg c]; exact share_j1 h0 h1 h2 ha hb hab (by omega)

theorem rshare_p (a b y : Int) : Ev (fun k => levyref2_Share.f k a b y) (shareS a b y) := by
  unfold shareS
  by_cases ha : 0 ≤ a ∧ a ≤ 109572
  · by_cases hb : 0 ≤ b ∧ b ≤ 109572
    · by_cases hy1 : y < 1900
      · rw [if_pos (.inr (.inr (.inl hy1)))]
        refine ev_const fun k => ?_
        unfold levyref2_Share.f
        rw [is_r, is_r, decide_eq_true ha, decide_eq_true hb]
        simp only [Option.bind_some, if_true]
        rw [if_pos hy1]
        simp only [levyref2_Share.j0, if_true]
      · by_cases hy2 : 2199 < y
        · rw [if_pos (.inr (.inr (.inr hy2)))]
          refine ev_const fun k => ?_
          unfold levyref2_Share.f
          rw [is_r, is_r, decide_eq_true ha, decide_eq_true hb]
          simp only [Option.bind_some, if_true]
          rw [if_neg hy1, decide_eq_true (show y > 2199 from hy2)]
          simp only [levyref2_Share.j0, if_true]
        · rw [if_neg (by omega)]
          obtain ⟨j, hj, rfl⟩ : ∃ j : Nat, j < 300 ∧ y = 1900 + (j : Int) := ⟨(y - 1900).toNat, by omega, by omega⟩
          rw [share_year]
          refine Ev.congr (f := fun k => levyref2_Share.j0 k a b (1900 + (j : Int)) false) (fun k => by
            unfold levyref2_Share.f
            rw [is_r, is_r, decide_eq_true ha, decide_eq_true hb]
            simp only [Option.bind_some, if_true]
            rw [if_neg hy1, decide_eq_false (show ¬ 1900 + (j : Int) > 2199 from hy2)]) ?_
          by_cases hab : b < a
          · rw [if_pos hab]
            refine ev_const fun k => ?_
            simp only [levyref2_Share.j0]
            rw [if_neg (by simp), if_pos hab]
          · rw [if_neg hab]
            obtain ⟨K1, h1⟩ := begins_r (n := 12 * j) (by omega)
            obtain ⟨K2, h2⟩ := begins_r (n := 12 * j + 12) (by omega)
            dsimp only at h1 h2
            have hB0 := B_nonneg (12 * j)
            have hT := B_top (k := 12 * j + 12) (by omega)
            have hlt := B_lt (show 12 * j < 12 * j + 12 by omega)
            generalize B (12 * j) = lo at *
            generalize B (12 * j + 12) = hi at *
            refine ⟨K1 + K2 + 3, fun k hk => ?_⟩
            obtain ⟨k, rfl⟩ : ∃ m, k = m + 1 + 1 := ⟨k - 2, by omega⟩
            exact share_j0 (by omega) (by omega) (by omega) ha hb hj hab (h1 _ (by omega)) (h2 _ (by omega))
    · rw [if_pos (.inr (.inl hb))]
      refine ev_const fun k => ?_
      unfold levyref2_Share.f
      rw [is_r, is_r, decide_eq_true ha, decide_eq_false hb]
      simp only [Option.bind_some, if_true]
      rw [if_neg (by simp)]
      simp only [levyref2_Share.j0, if_true]
  · rw [if_pos (.inl ha)]
    refine ev_const fun k => ?_
    unfold levyref2_Share.f
    rw [is_r, is_r, decide_eq_false ha]
    simp only [Option.bind_some]
    rw [if_neg (by simp)]
    simp only [levyref2_Share.j0, if_true]

theorem add_both (a n : Int) : ∃ r, Ev (fun k => days_Add.f k a n) r ∧ Ev (fun k => levyref2_Add.f k a n) r := by
  by_cases ha : 0 ≤ a ∧ a ≤ 109572
  · obtain ⟨p, hp⟩ := mon_exists ha.1 ha.2
    exact ⟨_, add_p hp n, radd_p hp n⟩
  · exact ⟨(0, 21), add_no ha n, radd_no ha n⟩

theorem between_both (a b : Int) : ∃ r, Ev (fun k => days_Between.f k a b) r ∧ Ev (fun k => levyref2_Between.f k a b) r := by
  by_cases h : (0 ≤ a ∧ a ≤ 109572) ∧ (0 ≤ b ∧ b ≤ 109572)
  · obtain ⟨p, hp⟩ := mon_exists h.1.1 h.1.2
    obtain ⟨q, hq⟩ := mon_exists h.2.1 h.2.2
    exact ⟨_, between_p hp hq, rbetween_p hp hq⟩
  · exact ⟨_, between_no h, rbetween_no h⟩

theorem held_both (a b : Int) : ∃ r, Ev (fun k => days_Held.f k a b) r ∧ Ev (fun k => levyref2_Held.f k a b) r := by
  by_cases h : (0 ≤ a ∧ a ≤ 109572) ∧ (0 ≤ b ∧ b ≤ 109572)
  · obtain ⟨p, hp⟩ := mon_exists h.1.1 h.1.2
    exact ⟨_, held_p hp h.2, rheld_p hp h.2⟩
  · exact ⟨_, held_no h, rheld_no h⟩

theorem age_both (a b : Int) : ∃ r, Ev (fun k => days_Age.f k a b) r ∧ Ev (fun k => levyref2_Age.f k a b) r := by
  by_cases h : (0 ≤ a ∧ a ≤ 109572) ∧ (0 ≤ b ∧ b ≤ 109572)
  · by_cases c : b < a
    · exact ⟨_, age_ord h.1 h.2 c, rage_ord h.1 h.2 c⟩
    · obtain ⟨p, hp⟩ := mon_exists h.1.1 h.1.2
      obtain ⟨q, hq⟩ := mon_exists h.2.1 h.2.2
      exact ⟨_, age_p hp hq (by omega), rage_p hp hq (by omega)⟩
  · exact ⟨_, age_no h, rage_no h⟩

theorem DaysSpans : levylaw2_DaysSpans.Pure := by
  intro a b n _ _ _
  obtain ⟨r1, ⟨K1, h1⟩, ⟨L1, g1⟩⟩ := add_both a n
  obtain ⟨r2, ⟨K2, h2⟩, ⟨L2, g2⟩⟩ := between_both a b
  obtain ⟨r3, ⟨K3, h3⟩, ⟨L3, g3⟩⟩ := age_both a b
  obtain ⟨r4, ⟨K4, h4⟩, ⟨L4, g4⟩⟩ := held_both a b
  obtain ⟨K5, h5⟩ := rshare_p a b n
  dsimp only at h1 h2 h3 h4 h5 g1 g2 g3 g4
  obtain ⟨k, hk⟩ : ∃ k, k = K1 + K2 + K3 + K4 + K5 + L1 + L2 + L3 + L4 := ⟨_, rfl⟩
  have e3 : levylaw2_DaysSpans.j3 (k + 1) a b n false = some true := by
    simp only [levylaw2_DaysSpans.j3]
    rw [if_neg (by simp), h5 _ (by omega), show days_Share.f a b n = some (shareS a b n) from rfl]
    simp only [Option.bind_some, if_true, beq_self_eq_true]
  have e2 : levylaw2_DaysSpans.j2 (k + 1 + 1) a b n false = some true := by
    simp only [levylaw2_DaysSpans.j2]
    rw [if_neg (by simp), h4 _ (by omega)]
    simp only [Option.bind_some]
    rw [g4 _ (by omega)]
    simp only [Option.bind_some, bne_self_eq_false]
    rw [if_neg (by simp)]
    exact e3
  have e1 : levylaw2_DaysSpans.j1 (k + 1 + 1 + 1) a b n false = some true := by
    simp only [levylaw2_DaysSpans.j1]
    rw [if_neg (by simp), h3 _ (by omega)]
    simp only [Option.bind_some]
    rw [g3 _ (by omega)]
    simp only [Option.bind_some, bne_self_eq_false, if_true]
    exact e2
  have e0 : levylaw2_DaysSpans.j0 (k + 1 + 1 + 1 + 1) a b n false = some true := by
    simp only [levylaw2_DaysSpans.j0]
    rw [if_neg (by simp), h2 _ (by omega)]
    simp only [Option.bind_some]
    rw [g2 _ (by omega)]
    simp only [Option.bind_some, bne_self_eq_false, if_true]
    exact e1
  refine ⟨k + 1 + 1 + 1 + 1, ?_⟩
  unfold levylaw2_DaysSpans.f
  rw [h1 _ (by omega)]
  simp only [Option.bind_some]
  rw [g1 _ (by omega)]
  simp only [Option.bind_some, bne_self_eq_false, if_true]
  exact e0

end Go.Proofs.YtlipkhhpjelicaaDoor.Pure
