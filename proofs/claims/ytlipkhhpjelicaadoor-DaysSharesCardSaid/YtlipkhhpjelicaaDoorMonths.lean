/- Plain law of the months of a span: what the months of a span are ('MF'), that they exist, are one list, and what those of one year come to. Conditions: each law's own. -/
import Derived.Test.YtlipkhhpjelicaaDoorDaysEval
namespace Go.Proofs.YtlipkhhpjelicaaDoor.Days
open Go.RowKit Go.Proofs.YtlipkhhpjelicaaDoorW.PrintWords Go.Proofs.YtlipkhhpjelicaaDoorW.PrintLast Go.Proofs.YtlipkhhpjelicaaDoor.PA Go.Proofs.YtlipkhhpjelicaaDoor.Cal
set_option linter.unusedVariables false

/-- A piece: its first day's date, and how many days. -/
abbrev Pc := (Int × Int × Int) × Int

/-- The months of the span from n to last. -/
inductive MF (last : Int) : Int → List Pc → Prop
  | nil {n : Int} : last < n → MF last n []
  | cons {n : Int} {k : Nat} {rest : List Pc} : Mon n k → n ≤ last → MF last (min (B (k + 1)) (last + 1)) rest → MF last n ((dateS n k, min (B (k + 1)) (last + 1) - n) :: rest)

theorem mf_exists {last : Int} (hl : last ≤ 109572) (d : Nat) : ∀ n : Int, 0 ≤ n → last + 1 - n ≤ d → ∃ xs, MF last n xs := by
  induction d with
  | zero => intro n _ h; exact ⟨[], .nil (by omega)⟩
  | succ d ih =>
    intro n h0 h
    by_cases hn : n ≤ last
    · obtain ⟨k, hk⟩ := mon_exists h0 (by omega)
      have hu := hk.2.2
      have hB := B_nonneg (k + 1)
      obtain ⟨xs, hx⟩ := ih (min (B (k + 1)) (last + 1)) (by omega) (by omega)
      exact ⟨_, .cons hk hn hx⟩
    · exact ⟨[], .nil (by omega)⟩

theorem mf_span {last : Int} (hl : last ≤ 109572) {n : Int} (h0 : 0 ≤ n) : ∃ xs, MF last n xs := mf_exists hl (last + 1 - n).toNat n h0 (by omega)

theorem mf_unique {last n : Int} {xs : List Pc} (h : MF last n xs) : ∀ {ys : List Pc}, MF last n ys → xs = ys := by
  induction h with
  | nil hn => intro ys h'; cases h' with
    | nil => rfl
    | cons _ h2 _ => exact absurd h2 (by omega)
  | cons hk hn hr ih => intro ys h'; cases h' with
    | nil h2 => exact absurd h2 (by omega)
    | cons hk' hn' hr' =>
      obtain rfl := mon_unique hk hk'
      rw [ih hr']

/-- Every piece's year is no earlier than that of a month that begins no later. -/
theorem mf_ge {last n : Int} {xs : List Pc} (h : MF last n xs) : ∀ {k : Nat}, B k ≤ n → ∀ z ∈ xs, 1900 + ((k / 12 : Nat) : Int) ≤ z.1.1 := by
  induction h with
  | nil => intro k _ z hz; cases hz
  | @cons n k' rest hk hn hr ih =>
    intro k hB z hz
    have hle : k ≤ k' := by
      refine Classical.byContradiction fun hc => ?_
      have := B_mono (show k' + 1 ≤ k by omega)
      have := hk.2.2
      omega
    rcases List.mem_cons.1 hz with rfl | hz
    · show 1900 + ((k / 12 : Nat) : Int) ≤ 1900 + ((k' / 12 : Nat) : Int)
      omega
    · refine ih ?_ z hz
      have := hk.2.2
      omega

/-- The years rise. -/
theorem mf_years {last n : Int} {xs : List Pc} (h : MF last n xs) : ∀ {pre : List Pc} {x : Pc} {post : List Pc}, xs = pre ++ x :: post → ∀ z ∈ post, x.1.1 ≤ z.1.1 := by
  induction h with
  | nil => intro pre x post e; cases pre <;> cases e
  | @cons n k rest hk hn hr ih =>
    intro pre x post e z hz
    cases pre with
    | nil =>
      cases e
      refine mf_ge hr ?_ z hz
      have := hk.2.1
      have := hk.2.2
      omega
    | cons p pre =>
      simp only [List.cons_append, List.cons.injEq] at e
      exact ih e.2 z hz

theorem mf_len {last n : Int} {xs : List Pc} (h : MF last n xs) : ∀ {k : Nat}, B k ≤ n → k ≤ 3600 → xs.length + k ≤ 3600 := by
  induction h with
  | nil => intro k _ hk; simpa using hk
  | @cons n k' rest hk hn hr ih =>
    intro k hB _
    have hle : k ≤ k' := by
      refine Classical.byContradiction fun hc => ?_
      have := B_mono (show k' + 1 ≤ k by omega)
      have := hk.2.2
      omega
    have h36 := hk.1
    by_cases hc : B (k' + 1) ≤ last
    · have := ih (k := k' + 1) (by omega) (by omega)
      simp only [List.length_cons]
      omega
    · have hr' : rest = [] := by
        cases hr with
        | nil => rfl
        | cons _ h2 _ => exact absurd h2 (by omega)
      rw [hr']
      simp
      omega

/-- One round of Share's sum. -/
def partF (y : Int) (s : Int) (x : Pc) : Int := if x.1.1 = y then wrap64 (s + x.2) else s

theorem part_none {y : Int} : ∀ {l : List Pc} (s : Int), (∀ z ∈ l, y < z.1.1) → l.foldl (partF y) s = s
  | [], _, _ => rfl
  | z :: l, s, h => by
    have h1 : partF y s z = s := by unfold partF; rw [if_neg (by have := h z (by simp); omega)]
    show l.foldl (partF y) (partF y s z) = s
    rw [h1]
    exact part_none s fun z' hz' => h z' (by simp [hz'])

theorem part_sum {last : Int} (hl : last ≤ 109572) {j : Nat} (hj : j < 300) {n : Int} {xs : List Pc} (h : MF last n xs) : ∀ {s : Int}, 0 ≤ n → 0 ≤ s → s + max 0 (last + 1 - n) ≤ 1000000 →
    xs.foldl (partF (1900 + (j : Int))) s = s + max 0 (min (B (12 * j + 12)) (last + 1) - max n (B (12 * j))) := by
  induction h with
  | nil hn =>
    intro s _ _ _
    show s = _
    omega
  | @cons n k rest hk hn hr ih =>
    intro s h0 hs hb
    have hkl := hk.2.1
    have hku := hk.2.2
    have hB := B_nonneg k
    show rest.foldl _ (partF (1900 + (j : Int)) s (dateS n k, min (B (k + 1)) (last + 1) - n)) = _
    by_cases c : k / 12 = j
    · have e : partF (1900 + (j : Int)) s (dateS n k, min (B (k + 1)) (last + 1) - n) = s + (min (B (k + 1)) (last + 1) - n) := by
        unfold partF
        rw [if_pos (by show 1900 + ((k / 12 : Nat) : Int) = _; omega)]
        exact wr (by show _ ≤ s + (min (B (k + 1)) (last + 1) - n); omega) (by show s + (min (B (k + 1)) (last + 1) - n) ≤ _; omega)
      rw [e, ih (by omega) (by omega) (by omega)]
      have m1 := B_mono (show 12 * j ≤ k by omega)
      have m2 := B_mono (show k + 1 ≤ 12 * j + 12 by omega)
      omega
    · have e : partF (1900 + (j : Int)) s (dateS n k, min (B (k + 1)) (last + 1) - n) = s := by
        unfold partF
        rw [if_neg (by show ¬ 1900 + ((k / 12 : Nat) : Int) = _; omega)]
      rw [e, ih (by omega) (by omega) (by omega)]
      by_cases c2 : k / 12 < j
      · have m1 := B_mono (show k + 1 ≤ 12 * j by omega)
        omega
      · have m1 := B_mono (show 12 * j + 12 ≤ k by omega)
        omega

/-- What Share answers. -/
def shareS (a b y : Int) : Int × Int × Int :=
  if ¬ (0 ≤ a ∧ a ≤ 109572) ∨ ¬ (0 ≤ b ∧ b ≤ 109572) ∨ y < 1900 ∨ 2199 < y then (0, 0, 21) else if b < a then (0, 0, 23) else
    (max 0 (min (B (12 * (y - 1900).toNat + 12)) (b + 1) - max a (B (12 * (y - 1900).toNat))), B (12 * (y - 1900).toNat + 12) - B (12 * (y - 1900).toNat), 0)

theorem share_year {j : Nat} : (1900 + (j : Int) - 1900).toNat = j := by omega
end Go.Proofs.YtlipkhhpjelicaaDoor.Days
