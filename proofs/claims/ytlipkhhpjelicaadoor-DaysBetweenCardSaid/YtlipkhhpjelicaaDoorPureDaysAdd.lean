/- DaysAdd, the pure law: the month that is added to is the one that is meant, the day of the month the same or the month's last; more months or a later day never lead to an earlier one; Between finds the months again. No condition beyond the given ones (that the arguments are 64-bit numbers). -/
import Derived.Test.YtlipkhhpjelicaaDoorDaysSpan
import Derived.Test.YtlipkhhpjelicaaDoorPAx0
import Derived.Test.YtlipkhhpjelicaaDoorPAx9
import Derived.Test.YtlipkhhpjelicaaDoorPAx12
namespace Go.Proofs.YtlipkhhpjelicaaDoor.Pure
set_option linter.unusedVariables false
open Go.RowKit Go.Proofs.YtlipkhhpjelicaaDoorW.PrintWords Go.Proofs.YtlipkhhpjelicaaDoorW.PrintLast Go.Proofs.YtlipkhhpjelicaaDoor.PA Go.Proofs.YtlipkhhpjelicaaDoor.Cal Go.Proofs.YtlipkhhpjelicaaDoor.Days

theorem bd64 {x : Int} (h : (Lit.int .i64 x).wf = true) : -9223372036854775808 ≤ x ∧ x ≤ 9223372036854775807 := by
  simpa [Lit.wf, IntKind.min, IntKind.max, IntKind.signed, IntKind.bits] using h

theorem day_some {n : Int} (h : (Lit.int .i64 n).wf = true) : ∃ v, levylaw2_day.f n = some v ∧ 0 ≤ v ∧ v ≤ 109572 := by
  have hb := bd64 h
  unfold levylaw2_day.f
  by_cases hn : n < 0
  · rw [if_pos hn, wr (x := n + 1) (by omega) (by omega), wr (by omega) (by omega), Int.tmod_eq_emod_of_nonneg (by omega)]
    exact ⟨_, rfl, by omega, by omega⟩
  · rw [if_neg hn, Int.tmod_eq_emod_of_nonneg (by omega)]
    exact ⟨_, rfl, by omega, by omega⟩

theorem B1201 : B 1201 = 36555 := by
  have h := B12 100
  have h2 : B 1201 = B 1200 + Cal.len 1200 := rfl
  have h3 : Cal.len 1200 = 31 := by decide
  have h4 : D (1900 + ((100 : Nat) : Int)) = 36524 := by decide
  rw [show 12 * 100 = 1200 from rfl, h4] at h
  omega
theorem mon_known : Mon 36583 1201 := by
  have h := B1201
  have h2 : B (1201 + 1) = B 1201 + Cal.len 1201 := rfl
  have h3 : Cal.len 1201 = 29 := by decide
  exact ⟨by decide, by omega, by omega⟩

theorem known_ev : Ev (fun k => levylaw2_known.f k) true := by
  obtain ⟨K1, h1⟩ := number_p 2000 2 29
  obtain ⟨K2, h2⟩ := date_yes mon_known
  have e1 : numS 2000 2 29 = (36583, 0) := by
    unfold numS
    have : lastD 2000 2 = 29 := by decide
    rw [this, if_neg (by decide), if_neg (by decide), show 12 * ((2000 : Int) - 1900).toNat + ((2 : Int) - 1).toNat = 1201 from rfl, B1201]
    rfl
  have e2 : dateS 36583 1201 = (2000, 2, 29) := by unfold dateS; rw [B1201]; rfl
  dsimp only at h1 h2
  rw [e1] at h1
  rw [e2] at h2
  dsimp only at h2
  refine ⟨K1 + K2 + 3, fun k hk => ?_⟩
  obtain ⟨k, rfl⟩ : ∃ m, k = m + 1 + 1 := ⟨k - 2, by omega⟩
  show levylaw2_known.f (k + 1 + 1) = some true
  unfold levylaw2_known.f
  rw [last_p, last_p, last_p, show lastD 2000 2 = 29 by decide, show lastD 2001 2 = 28 by decide, show lastD 2001 1 = 31 by decide]
  simp only [Option.bind_some, if_true, levylaw2_known.j0]
  rw [h1 _ (by omega), h2 _ (by omega), weekday_p (by omega)]
  rfl

/-- What Add answers where it answers a day. -/
theorem addS_zero {n : Int} {p : Nat} {t : Int} (h : (addS n p t).2 = 0) : -3600 < t ∧ t < 3600 ∧ 0 ≤ p + t ∧ p + t < 3600 := by
  unfold addS at h
  split at h
  · simp at h
  · split at h
    · simp at h
    · omega

/-- A later day leads to no earlier one. -/
theorem add_le {n m : Int} {p r : Nat} {t : Int} (hn : Mon n p) (hm : Mon m r) (h : n ≤ m) (h1 : 0 ≤ p + t) (h2 : r + t < 3600) :
    B (p + t).toNat + min (n - B p) (Cal.len (p + t).toNat - 1) ≤ B (r + t).toNat + min (m - B r) (Cal.len (r + t).toNat - 1) := by
  have hle := mon_le hn hm h
  by_cases e : p = r
  · subst e
    omega
  · have := B_mono (show (p + t).toNat + 1 ≤ (r + t).toNat by omega)
    have hs : B ((p + t).toNat + 1) = B (p + t).toNat + Cal.len (p + t).toNat := rfl
    have := hm.2.1
    have := len_bd (r + t).toNat
    omega

theorem month_w {n : Int} {p : Nat} (hp : p < 3600) {t : Int} (h1 : -7200 ≤ t) (h2 : t ≤ 7200) : wrap64 (wrap64 (wrap64 (wrap64 (12 * wrap64 ((dateS n p).1 - 1900)) + (dateS n p).2.1) - 1) + t) = p + t := by
  unfold dateS
  simp only
  rw [wr (x := 1900 + ((p / 12 : Nat) : Int) - 1900) (by omega) (by omega), wr (x := 12 * (1900 + ((p / 12 : Nat) : Int) - 1900)) (by omega) (by omega), wr (x := 12 * (1900 + ((p / 12 : Nat) : Int) - 1900) + (((p % 12 : Nat) : Int) + 1)) (by omega) (by omega), wr (x := 12 * (1900 + ((p / 12 : Nat) : Int) - 1900) + (((p % 12 : Nat) : Int) + 1) - 1) (by omega) (by omega), wr (by omega) (by omega)]
  omega

theorem DaysAdd : levylaw2_DaysAdd.Pure := by
  intro a0 a1 a2 w0 w1 w2
  obtain ⟨n, en, n0, n1⟩ := day_some w0
  obtain ⟨m, em, m0, m1⟩ := day_some w1
  have hb2 := bd64 w2
  obtain ⟨t, et, t0, t1⟩ : ∃ t, Int.tmod a2 7200 = t ∧ -7200 ≤ t ∧ t ≤ 7200 := by
    refine ⟨_, rfl, ?_⟩
    have h1 := Int.tmod_lt_of_pos a2 (show (0 : Int) < 7200 by decide)
    have h2 : -7200 < Int.tmod a2 7200 := by
      by_cases h : 0 ≤ a2
      · have := Int.tmod_nonneg (b := 7200) h; omega
      · have h3 := Int.tmod_lt_of_pos (-a2) (show (0 : Int) < 7200 by decide)
        rw [Int.neg_tmod] at h3
        omega
    omega
  obtain ⟨p, hp⟩ := mon_exists n0 n1
  obtain ⟨r, hr⟩ := mon_exists m0 m1
  obtain ⟨K0, h0⟩ := known_ev
  obtain ⟨K1, h1⟩ := add_p hp t
  obtain ⟨K2, h2⟩ := date_yes hp
  have hpb := hp.1
  have hrb := hr.1
  by_cases hout : (p : Int) + t < 0 ∨ 3600 ≤ (p : Int) + t
  · have e1 : addS n p t = (0, 21) := by
      unfold addS
      split
      · rfl
      · rfl
    dsimp only at h0 h1 h2
    rw [e1] at h1
    refine ⟨K0 + K1 + K2 + 5, ?_⟩
    unfold levylaw2_DaysAdd.f
    rw [h0 _ (by omega)]
    simp only [Option.bind_some, if_true]
    rw [en, em, et]
    simp only [Option.bind_some]
    rw [h1 _ (by omega), h2 _ (by omega)]
    simp only [Option.bind_some]
    rw [month_w hpb t0 t1]
    by_cases c : (p : Int) + t < 0
    · rw [if_pos c]
      simp only [levylaw2_DaysAdd.j0, if_true]
      rfl
    · rw [if_neg c, decide_eq_true (show (p : Int) + t ≥ 3600 by omega)]
      simp only [levylaw2_DaysAdd.j0, if_true]
      rfl
  · have hc1 : ¬ (p : Int) + t < 0 := by omega
    have hc2 : ¬ (p : Int) + t ≥ 3600 := by omega
    have e1 := addS_ok (n := n) (m := p) (t := t) (by omega) (by omega) (by omega) (by omega)
    rw [e1] at h1
    have ha := add_mon hp (t := t) (by omega) (by omega)
    obtain ⟨q, hq⟩ : ∃ q : Nat, q = ((p : Int) + t).toNat := ⟨_, rfl⟩
    rw [← hq] at h1 ha
    obtain ⟨a, hea⟩ : ∃ a, a = B q + min (n - B p) (Cal.len q - 1) := ⟨_, rfl⟩
    rw [← hea] at h1 ha
    have hqi : (q : Int) = p + t := by omega
    obtain ⟨K3, h3⟩ := date_yes ha
    obtain ⟨K4, h4⟩ := add_p hr t
    obtain ⟨K5, h5⟩ := add_p hp (t + 1)
    obtain ⟨K6, h6⟩ := between_p hp ha
    obtain ⟨K7, h7⟩ := between_p ha hp
    have had := ha.day
    have hql := len_bd q
    have hqs : B (q + 1) = B q + Cal.len q := rfl
    have hplow := hp.2.1
    have hplen := hp.len
    dsimp only at h0 h1 h2 h3 h4 h5 h6 h7
    refine ⟨K0 + K1 + K2 + K3 + K4 + K5 + K6 + K7 + 9, ?_⟩
    unfold levylaw2_DaysAdd.f
    rw [h0 _ (by omega)]
    simp only [Option.bind_some, if_true]
    rw [en, em, et]
    simp only [Option.bind_some]
    rw [h1 _ (by omega), h2 _ (by omega)]
    simp only [Option.bind_some]
    rw [month_w hpb t0 t1, if_neg hc1, decide_eq_false hc2]
    simp only [levylaw2_DaysAdd.j0]
    rw [if_neg (by simp), h3 _ (by omega)]
    simp only [Option.bind_some, if_true]
    rw [Int.tdiv_eq_ediv_of_nonneg (by omega), Int.tmod_eq_emod_of_nonneg (by omega), ← hqi, wr (x := (q : Int) / 12) (by omega) (by omega), wr (x := 1900 + (q : Int) / 12) (by omega) (by omega), wr (x := (q : Int) % 12 + 1) (by omega) (by omega)]
    rw [if_pos (show (dateS a q).1 = 1900 + (q : Int) / 12 from rfl), if_pos (show (dateS a q).2.1 = (q : Int) % 12 + 1 from rfl), last_p]
    simp only [Option.bind_some]
    rw [show lastD (dateS a q).1 (dateS a q).2.1 = Cal.len q from rfl, mn_eq]
    have e2 : (dateS a q).2.2 = min (dateS n p).2.2 (Cal.len q) := by unfold dateS; simp only; omega
    rw [← e2, bne_self_eq_false]
    simp only [levylaw2_DaysAdd.j1]
    rw [if_neg (by simp), h4 _ (by omega)]
    simp only [Option.bind_some]
    -- a later day, more months
    have step2 : levylaw2_DaysAdd.j2 (K0 + K1 + K2 + K3 + K4 + K5 + K6 + K7 + 7) n t a false = some true := by
      simp only [levylaw2_DaysAdd.j2]
      rw [if_neg (by simp), wr (x := t + 1) (by omega) (by omega), h5 _ (by omega)]
      simp only [Option.bind_some]
      have step3 : levylaw2_DaysAdd.j3 (K0 + K1 + K2 + K3 + K4 + K5 + K6 + K7 + 6) n t a false = some true := by
        simp only [levylaw2_DaysAdd.j3]
        rw [if_neg (by simp), h6 _ (by omega)]
        simp only [Option.bind_some]
        by_cases ht : t ≥ 0
        · rw [if_pos ht]
          simp only [if_true]
          have e3 : betS n p a q = t := by
            unfold betS
            have hna : ¬ a < n := by
              by_cases e : p = q
              · subst e; omega
              · have := B_mono (show p + 1 ≤ q by omega)
                have := hp.2.2
                omega
            rw [if_neg hna]
            unfold bet0
            rw [if_neg (by omega)]
            omega
          rw [e3, beq_self_eq_true]
        · rw [if_neg ht, h7 _ (by omega)]
          simp only [Option.bind_some, if_true]
          have hna : a < n := by
            have := B_mono (show q + 1 ≤ p by omega)
            have := ha.2.2
            omega
          have hbd := bet0_bd ha hp (by omega)
          have e3 : betS n p a q = -(bet0 a q n p) := by unfold betS; rw [if_pos hna]
          have e4 : betS a q n p = bet0 a q n p := by unfold betS; rw [if_neg (by omega)]
          rw [e3, e4, wr (by omega) (by omega), beq_self_eq_true]
      by_cases hz : (addS n p (t + 1)).2 = 0
      · obtain ⟨z1, z2, z3, z4⟩ := addS_zero hz
        rw [if_pos hz, addS_ok z1 z2 z3 z4]
        have e5 : ((p : Int) + (t + 1)).toNat = q + 1 := by omega
        rw [e5]
        have := len_bd (q + 1)
        have := ha.2.2
        rw [decide_eq_false (show ¬ B (q + 1) + min (n - B p) (Cal.len (q + 1) - 1) ≤ a by omega)]
        exact step3
      · rw [if_neg hz]
        exact step3
    by_cases hz : (addS m r t).2 = 0
    · obtain ⟨z1, z2, z3, z4⟩ := addS_zero hz
      rw [if_pos hz, addS_ok z1 z2 z3 z4]
      by_cases c1 : n ≤ m
      · have hle := add_le hp hr c1 (t := t) (by omega) (by omega)
        rw [← hq, ← hea] at hle
        rw [if_pos c1, if_neg (by omega)]
        by_cases c2 : n ≥ m
        · have hge := add_le hr hp c2 (t := t) (by omega) (by omega)
          rw [← hq, ← hea] at hge
          rw [if_pos c2, decide_eq_false (by omega)]
          exact step2
        · rw [if_neg c2]
          exact step2
      · rw [if_neg c1, if_pos (show n ≥ m by omega)]
        have hge := add_le hr hp (show m ≤ n by omega) (t := t) (by omega) (by omega)
        rw [← hq, ← hea] at hge
        rw [decide_eq_false (by omega)]
        exact step2
    · rw [if_neg hz]
      exact step2

end Go.Proofs.YtlipkhhpjelicaaDoor.Pure
