/- DaysWork, the pure law: the due day is a working day, and no day from n up to it is; held for more than a year: not on the day that is a year later, but on the next. No condition beyond the given ones (the arguments are 64-bit numbers, the list fits into memory). -/
import Derived.Test.YtlipkhhpjelicaaDoorDaysSpan
import Derived.Test.YtlipkhhpjelicaaDoorDaysKnown
import Derived.Test.YtlipkhhpjelicaaDoorHDue
import Derived.Test.YtlipkhhpjelicaaDoorPAx0
import Derived.Test.YtlipkhhpjelicaaDoorPAx10
import Derived.Test.YtlipkhhpjelicaaDoorPAx31
namespace Go.Proofs.YtlipkhhpjelicaaDoor.Pure
set_option linter.unusedVariables false
open Go.RowKit Go.Proofs.YtlipkhhpjelicaaDoorW.PrintWords Go.Proofs.YtlipkhhpjelicaaDoorW.PrintLast Go.Proofs.YtlipkhhpjelicaaDoor.PA Go.Proofs.YtlipkhhpjelicaaDoor.Cal Go.Proofs.YtlipkhhpjelicaaDoor.Days

/-- What the search comes to. -/
theorem nextF_spec (off : List Int) : ∀ (d : Nat) (n : Int), ((nextF off d n).2 = 0 ∧ n ≤ (nextF off d n).1 ∧ (nextF off d n).1 < n + d ∧ (nextF off d n).1 % 7 < 5 ∧ (nextF off d n).1 ∉ off ∧ ∀ m, n ≤ m → m < (nextF off d n).1 → ¬ (m % 7 < 5 ∧ m ∉ off)) ∨
    ((nextF off d n).2 = 21 ∧ ∀ m, n ≤ m → m < n + d → ¬ (m % 7 < 5 ∧ m ∉ off))
  | 0, n => .inr ⟨rfl, fun m h1 h2 => absurd h2 (by omega)⟩
  | d + 1, n => by
    unfold nextF
    by_cases h : n % 7 < 5 ∧ n ∉ off
    · rw [if_pos h]
      exact .inl ⟨rfl, Int.le_refl _, by show n < _; omega, h.1, h.2, fun m h1 h2 => absurd (show m < n from h2) (by omega)⟩
    · rw [if_neg h]
      rcases nextF_spec off d (n + 1) with ⟨h0, h1, h2, h3, h4, h5⟩ | ⟨h0, h1⟩
      · refine .inl ⟨h0, by omega, by omega, h3, h4, fun m hm1 hm2 => ?_⟩
        by_cases e : m = n
        · subst e; exact h
        · exact h5 m (by omega) hm2
      · refine .inr ⟨h0, fun m hm1 hm2 => ?_⟩
        by_cases e : m = n
        · subst e; exact h
        · exact h1 m (by omega) (by omega)

theorem held_day {n : Int} {p : Nat} (hn : Mon n p) {y : Int} (h : addS n p 12 = (y, 0)) : n ≤ y ∧ 0 ≤ y ∧ y ≤ 109572 := by
  unfold addS at h
  split at h
  · cases h
  · split at h
    · cases h
    · rename_i h1 h2
      have hm := add_mon hn (t := 12) (by omega) (by omega)
      injection h with h3 _
      rw [h3] at hm
      have hd := hm.day
      refine ⟨?_, hd.1, hd.2⟩
      have h4 := hm.2.1
      have h5 := hn.2.2
      have h6 := B_mono (show p + 1 ≤ ((p : Int) + 12).toNat by omega)
      omega

theorem addS_e (n : Int) (p : Nat) : (addS n p 12).2 = 0 ∨ (addS n p 12).2 = 21 := by
  unfold addS
  split
  · exact .inr rfl
  · split
    · exact .inr rfl
    · exact .inl rfl

theorem work_end {n : Int} {p : Nat} (hn : Mon n p) (l : List Int) {e : Int} (he : e = 0 ∨ e = 21) (stop x : Int) : Ev (fun k => levylaw2_DaysWork.j2 k n l e stop x false) true := by
  have hfin : ∀ (a : Int), Ev (fun k => levylaw2_DaysWork.j4 k n e a true) true := fun a => ⟨1, fun k hk => by
    obtain ⟨m, rfl⟩ : ∃ m, k = m + 1 := ⟨k - 1, by omega⟩
    show levylaw2_DaysWork.j4 (m + 1) n e a true = _
    simp only [levylaw2_DaysWork.j4, if_true]
    rcases he with rfl | rfl
    · rw [if_pos rfl]
    · rw [if_neg (by decide)]; rfl⟩
  refine Ev.step (f := fun k => (days_Add.f k n 12).bind fun bt149 => (if bt149.2 = 0 then (levylaw2_DaysWork.j4 k n e bt149.1 (bt149.1 == 109572)) else (levylaw2_DaysWork.j4 k n e bt149.1 true))) (fun k => by show levylaw2_DaysWork.j2 (k + 1) n l e stop x false = _; unfold levylaw2_DaysWork.j2; rw [if_neg (by decide)]) ?_
  refine Ev.bind (f := fun k (bt149 : Int × Int) => (if bt149.2 = 0 then (levylaw2_DaysWork.j4 k n e bt149.1 (bt149.1 == 109572)) else (levylaw2_DaysWork.j4 k n e bt149.1 true))) (add_p hn 12) ?_
  obtain ⟨y, f, hy⟩ : ∃ y f, addS n p 12 = (y, f) := ⟨_, _, rfl⟩
  have hf := addS_e n p
  rw [hy] at hf ⊢
  dsimp only at hf ⊢
  rcases hf with rfl | rfl
  · simp only [if_true]
    obtain ⟨h1, h2, h3⟩ := held_day hn hy
    by_cases hm : y = 109572
    · subst hm
      exact hfin _
    · have hm2 : (y == 109572) = false := by simpa using hm
      rw [hm2]
      have hw : wrap64 (y + 1) = y + 1 := wr (by omega) (by omega)
      have e1 : heldS n p y = (false, 0) := by
        unfold heldS
        rw [hy, if_neg (by omega), if_pos rfl]
        simp
      have e2 : heldS n p (y + 1) = (true, 0) := by
        unfold heldS
        rw [hy, if_neg (by omega), if_pos rfl]
        simp only [Prod.mk.injEq, and_true, decide_eq_true_eq]
        omega
      obtain ⟨K1, h1'⟩ := held_p hn (b := y) ⟨h2, h3⟩
      obtain ⟨K2, h2'⟩ := held_p hn (b := y + 1) ⟨by omega, by omega⟩
      dsimp only at h1' h2'
      rw [e1] at h1'
      rw [e2] at h2'
      refine ⟨K1 + K2 + 1, fun k hk => ?_⟩
      obtain ⟨m, rfl⟩ : ∃ m, k = m + 1 := ⟨k - 1, by omega⟩
      show levylaw2_DaysWork.j4 (m + 1) n e y false = _
      simp only [levylaw2_DaysWork.j4, if_false, Bool.false_eq_true]
      rw [hw, h1' _ (by omega), Option.bind_some, h2' _ (by omega), Option.bind_some]
      rcases he with rfl | rfl
      · rfl
      · rfl
  · simp only [show ¬ ((21 : Int) = 0) by decide, if_false]
    exact hfin _

theorem rd_at {l : List Int} {i : Nat} (h : i < l.length) : rd l (i : Int) = l[i] := by
  unfold rd
  rw [Int.toNat_natCast, List.getD_eq_getElem?_getD, List.getElem?_eq_getElem h]; rfl

theorem work_in {l : List Int} (hl : l.length < 17592186044416) {n e stop x : Int} (hnext : Ev (fun k => levylaw2_DaysWork.l0 k n l e stop (wrap64 (x + 1))) true) (d : Nat) :
    ∀ (i : Nat) (b : Bool), l.length = i + d → ((b || decide (x ∈ l.drop i)) == (x == stop)) = false → Ev (fun k => levylaw2_DaysWork.l1 k n l e stop x b (i : Int)) true := by
  induction d with
  | zero =>
    intro i b hi hb
    have hb2 : (b == (x == stop)) = false := by
      rw [List.drop_of_length_le (by omega)] at hb
      simpa using hb
    refine Ev.step (f := fun k => levylaw2_DaysWork.l0 k n l e stop (wrap64 (x + 1))) (fun k => ?_) hnext
    show levylaw2_DaysWork.l1 (k + 1) n l e stop x b (i : Int) = _
    unfold levylaw2_DaysWork.l1
    rw [if_neg (by omega), hb2, if_neg (by decide)]
  | succ d ih =>
    intro i b hi hb
    have hlt : i < l.length := by omega
    have hw : wrap64 ((i : Int) + 1) = ((i + 1 : Nat) : Int) := by
      rw [show (i : Int) + 1 = ((i + 1 : Nat) : Int) by omega]
      exact wr (by omega) (by omega)
    have hdrop : l.drop i = l[i] :: l.drop (i + 1) := List.drop_eq_getElem_cons hlt
    cases b with
    | true =>
      refine Ev.step (f := fun k => levylaw2_DaysWork.l1 k n l e stop x true ((i + 1 : Nat) : Int)) (fun k => ?_) (ih (i + 1) true (by omega) (by simpa using hb))
      show levylaw2_DaysWork.l1 (k + 1) n l e stop x true (i : Int) = _
      conv => lhs; unfold levylaw2_DaysWork.l1
      rw [if_pos (by omega), if_pos rfl, hw]
    | false =>
      refine Ev.step (f := fun k => levylaw2_DaysWork.l1 k n l e stop x (l[i] == x) ((i + 1 : Nat) : Int)) (fun k => ?_) (ih (i + 1) (l[i] == x) (by omega) ?_)
      · show levylaw2_DaysWork.l1 (k + 1) n l e stop x false (i : Int) = _
        conv => lhs; unfold levylaw2_DaysWork.l1
        rw [if_pos (by omega), if_neg (by decide), if_pos (by omega), hw, rd_at hlt]
      · rw [hdrop] at hb
        rw [← hb]
        congr 1
        generalize l.drop (i + 1) = r
        by_cases hx : x = l[i]
        · simp [← hx]
        · have hx2 : (l[i] == x) = false := by simpa using fun h => hx h.symm
          simp [hx, hx2]

theorem work_out {l : List Int} (hl : l.length < 17592186044416) {n : Int} {p : Nat} (hn : Mon n p) {e stop : Int} (he : e = 0 ∨ e = 21) (hs : stop ≤ 109573)
    (hfree : ∀ m, n ≤ m → m ≤ stop → m ≤ 109572 → ((decide (m % 7 ≥ 5) || decide (m ∈ l)) == (m == stop)) = false) (d : Nat) :
    ∀ x : Int, n ≤ x → stop + 1 - x ≤ d → Ev (fun k => levylaw2_DaysWork.l0 k n l e stop x) true := by
  have h0 := hn.day
  induction d with
  | zero =>
    intro x hx hd
    refine Ev.step (f := fun k => levylaw2_DaysWork.j2 k n l e stop x false) (fun k => ?_) (work_end hn l he stop x)
    show levylaw2_DaysWork.l0 (k + 1) n l e stop x = _
    conv => lhs; unfold levylaw2_DaysWork.l0
    rw [if_neg (by omega)]
  | succ d ih =>
    intro x hx hd
    by_cases h1 : x ≤ stop
    · by_cases h2 : x ≤ 109572
      · have hw : wrap64 (x + 1) = x + 1 := wr (by omega) (by omega)
        refine Ev.step (f := fun k => levylaw2_DaysWork.j2 k n l e stop x true) (fun k => ?_) ?_
        · show levylaw2_DaysWork.l0 (k + 1) n l e stop x = _
          conv => lhs; unfold levylaw2_DaysWork.l0
          rw [if_pos h1, decide_eq_true h2]
        · refine Ev.step (f := fun k => levylaw2_DaysWork.l1 k n l e stop x (decide (x % 7 + 1 ≥ 6)) ((0 : Nat) : Int)) (fun k => ?_) (work_in hl (by rw [hw]; exact ih (x + 1) (by omega) (by omega)) l.length 0 _ (by omega) ?_)
          · show levylaw2_DaysWork.j2 (k + 1) n l e stop x true = _
            conv => lhs; unfold levylaw2_DaysWork.j2
            rw [if_pos rfl, weekday_p ⟨by omega, h2⟩, Option.bind_some]
            rfl
          · rw [← hfree x hx h1 h2, List.drop_zero]
            congr 2
            exact decide_eq_decide.2 (by omega)
      · refine Ev.step (f := fun k => levylaw2_DaysWork.j2 k n l e stop x false) (fun k => ?_) (work_end hn l he stop x)
        show levylaw2_DaysWork.l0 (k + 1) n l e stop x = _
        conv => lhs; unfold levylaw2_DaysWork.l0
        rw [if_pos h1, decide_eq_false h2]
    · refine Ev.step (f := fun k => levylaw2_DaysWork.j2 k n l e stop x false) (fun k => ?_) (work_end hn l he stop x)
      show levylaw2_DaysWork.l0 (k + 1) n l e stop x = _
      conv => lhs; unfold levylaw2_DaysWork.l0
      rw [if_neg h1]

theorem DaysWork : levylaw2_DaysWork.Pure := by
  intro a0 l hw0 hmax hbytes hwf
  have hl : l.length < 17592186044416 := by omega
  obtain ⟨n, hn, h0, h1⟩ := day_some hw0
  obtain ⟨p, hp⟩ := mon_exists h0 h1
  have hdue : days_Due.f n ([] ++ l) = some (dueS n l) := by
    unfold days_Due.f
    rw [List.nil_append, if_pos ⟨hwf, hl⟩]
  have hS : dueS n l = nextF l (109573 - n).toNat n := by unfold dueS; rw [if_pos ⟨h0, h1⟩]
  have hsp := nextF_spec l (109573 - n).toNat n
  rw [← hS] at hsp
  obtain ⟨r, e, hre⟩ : ∃ r e, dueS n l = (r, e) := ⟨_, _, rfl⟩
  rw [hre] at hsp
  dsimp only at hsp
  have hloop : ∃ stop, (if e = 0 then r else 109573) = stop ∧ n ≤ stop ∧ Ev (fun k => levylaw2_DaysWork.l0 k n l e stop n) true := by
    rcases hsp with ⟨rfl, g1, g2, g3, g4, g5⟩ | ⟨rfl, g5⟩
    · refine ⟨r, rfl, g1, work_out hl hp (.inl rfl) (by omega) ?_ (r + 1 - n).toNat n (Int.le_refl _) (by omega)⟩
      intro m hm1 hm2 hm3
      by_cases hmr : m = r
      · subst hmr
        have e1 : decide (m % 7 ≥ 5) = false := decide_eq_false (by omega)
        have e2 : decide (m ∈ l) = false := decide_eq_false g4
        rw [e1, e2]
        simp
      · have hb := g5 m hm1 (by omega)
        have e3 : (m == r) = false := by simpa using hmr
        rw [e3]
        by_cases h7 : m % 7 < 5
        · have hin : m ∈ l := Classical.byContradiction fun hc => hb ⟨h7, hc⟩
          rw [decide_eq_true hin]
          simp
        · rw [decide_eq_true (show m % 7 ≥ 5 by omega)]
          simp
    · refine ⟨109573, rfl, by omega, work_out hl hp (.inr rfl) (by omega) ?_ (109573 + 1 - n).toNat n (Int.le_refl _) (by omega)⟩
      intro m hm1 hm2 hm3
      have hb := g5 m hm1 (by omega)
      have e3 : (m == 109573) = false := by simpa using (show ¬ m = 109573 by omega)
      rw [e3]
      by_cases h7 : m % 7 < 5
      · have hin : m ∈ l := Classical.byContradiction fun hc => hb ⟨h7, hc⟩
        rw [decide_eq_true hin]
        simp
      · rw [decide_eq_true (show m % 7 ≥ 5 by omega)]
        simp
  obtain ⟨stop, hst, hns, K, hK⟩ := hloop
  obtain ⟨K2, hK2⟩ := known_ev
  dsimp only at hK2
  refine ⟨K + K2 + 1, ?_⟩
  unfold levylaw2_DaysWork.f
  rw [hK2 _ (by omega), Option.bind_some, if_pos rfl, hn, Option.bind_some, if_pos (by simpa using hl), hdue, Option.bind_some, hre]
  have hj : levylaw2_DaysWork.j0 (K + K2 + 1) n l e stop = some true := by
    show levylaw2_DaysWork.j0 (K + K2 + 1) n l e stop = _
    simp only [levylaw2_DaysWork.j0]
    rw [if_neg (by omega)]
    exact hK _ (by omega)
  by_cases he : e = 0
  · rw [if_pos he] at hst
    rw [if_pos he, hst]
    exact hj
  · rw [if_neg he] at hst
    rw [if_neg he, hst]
    exact hj

end Go.Proofs.YtlipkhhpjelicaaDoor.Pure
