/- days.Due walked by hand: the call comes to the first working day ('dueS'). Condition: the list's elements are 64-bit numbers (part of 'days_Due.f'). -/
import Derived.Test.YtlipkhhpjelicaaPAx0
import Derived.Test.YtlipkhhpjelicaaPAx1
import Derived.WalkKit
import Derived.Maps.OwnOps
import Derived.Maps.Views
namespace Go.Proofs.Ytlipkhhpjelicaa.Days
open Go.Maps Go.RowKit Go.Proofs.Ytlipkhhpjelicaa.PA Go.Proofs.YtlipkhhpjelicaaW.PrintWords

theorem wr {x : Int} (h1 : -9223372036854775808 ≤ x) (h2 : x ≤ 9223372036854775807) : wrap64 x = x := by unfold wrap64; omega
theorem isDay_p (n : Int) : days_isDay.f n = some (decide (0 ≤ n ∧ n ≤ 109572)) := by
  unfold days_isDay.f
  by_cases h0 : n ≥ 0
  · rw [if_pos h0]
    exact congrArg some (decide_eq_decide.2 (by omega))
  · rw [if_neg h0]
    exact congrArg some (decide_eq_false (by omega)).symm
theorem is_r (n : Int) : levyref2_is.f n = some (decide (0 ≤ n ∧ n ≤ 109572)) := isDay_p n

/-- The first working day from n on, looked for d days long. -/
def nextF (off : List Int) : Nat → Int → Int × Int
  | 0, _ => (0, 21)
  | d + 1, n => if n % 7 < 5 ∧ n ∉ off then (n, 0) else nextF off d (n + 1)
/-- What Due answers. -/
def dueS (n : Int) (off : List Int) : Int × Int := if 0 ≤ n ∧ n ≤ 109572 then nextF off (109573 - n).toNat n else (0, 21)

/-- The map that Due fills. -/
def setD (l : List Int) : DataW Unit := l.foldl (fun m d => m.put (.int .i64 d) (.lit (.int .i64 1))) (.map [])

theorem setD_fold (n : Int) : ∀ (l : List Int) (m : DataW Unit), IsMap m → (l.foldl (fun m d => m.put (.int .i64 d) (.lit (.int .i64 1))) m).atKey (.int .i64 n) (.lit (.int .i64 0)) = if n ∈ l then .lit (.int .i64 1) else m.atKey (.int .i64 n) (.lit (.int .i64 0))
  | [], m, _ => by simp
  | d :: l, m, hm => by
    rw [List.foldl_cons, setD_fold n l _ (hm.put _ _)]
    by_cases h1 : n ∈ l
    · rw [if_pos h1, if_pos (List.mem_cons_of_mem _ h1)]
    · rw [if_neg h1]
      by_cases h2 : n = d
      · subst h2
        rw [if_pos (List.mem_cons_self), atKey_put_same hm (show WideAt.IsKeyLit (.int .i64 n) from trivial)]
      · rw [if_neg (by simp [h1, h2]), atKey_put_other (by intro e; injection e with _ e; exact h2 e)]
theorem setD_at (l : List Int) (n : Int) : (setD l).atKey (.int .i64 n) (.lit (.int .i64 0)) = if n ∈ l then .lit (.int .i64 1) else .lit (.int .i64 0) := by
  unfold setD
  rw [setD_fold n l _ isMap_empty]
  split
  · rfl
  · exact atKey_of_not_has (by rfl) _
theorem setD_snoc (l : List Int) (d : Int) : (setD l).put (.int .i64 d) (.lit (.int .i64 1)) = setD (l ++ [d]) := by
  unfold setD
  rw [List.foldl_append]
  rfl
end Go.Proofs.Ytlipkhhpjelicaa.Days
namespace Go.Proofs.Ytlipkhhpjelicaa.PA
open Go.RowKit Go.Maps Go.Proofs.YtlipkhhpjelicaaW.PrintWords Go.Proofs.YtlipkhhpjelicaaW.PrintLast Go.Proofs.YtlipkhhpjelicaaW.PrintMore Go.Proofs.Ytlipkhhpjelicaa.Days
set_option linter.unusedVariables false
set_option linter.unusedSimpArgs false

def days_Due.f (n : Int) (xs : List Int) : Option (Int × Int) := if (∀ x ∈ xs, (Lit.int .i64 x).wf = true) ∧ xs.length < 17592186044416 then some (dueS n xs) else none

theorem lawInt : Keyed Try.prog 3 := int_keyed Try.underlying3
theorem zeroInt (w : World) : (zeroValue 3).run Try.prog w = .ok (.int .i64 0) w := by kernel_rfl

set_option maxRecDepth 100000 in
set_option maxHeartbeats 2000000 in
theorem days_Due.calls (n : Int) (A : Option Addr) (c : Nat) (xs : List Int) (r1 r2 : Int) (w : World) (hC : Kd.C (Kd.int .i64) w A xs.length xs) (hlen : xs.length ≤ c) (h : days_Due.f n xs = some (r1, r2)) :
    Calls Try.prog 11 #[.int .i64 n, .slice A xs.length c] w fun e w' => e = .returned (.tuple #[.int .i64 r1, .int .i64 r2]) ∧ Below w.heap.size w w' := by
  unfold days_Due.f at h
  split at h
  case isFalse => cases h
  case isTrue hwf =>
  obtain ⟨hwf, hl44⟩ := hwf
  have hr := Option.some.inj h
  clear h
  have hmm := @run_makeMap Try.prog
  by_cases hd : 0 ≤ n ∧ n ≤ 109572
  · have hrd : ReadsInt w .i64 A xs.length xs := Kd.reads_of_C (d := (0 : Int)) hC
    have HR := Aside0.mk hr
    have HRD := Aside0.mk hrd
    have HL := Aside0.mk hlen
    have HWF := Aside0.mk hwf
    have HD := Aside0.mk hd
    have hid : days_isDay.f n = some true := by rw [isDay_p, decide_eq_true hd]
    have HID := Aside0.mk hid
    clear hr hC hrd hlen hwf hd hid
    go_enter Try.func11, Try.ntmps11
    go_wp2_with (go_at_call 14; (with_reducible refine (days_isDay.calls n true _ HID.out).mono ?_); rintro e w2 ⟨rfl, ⟨nd, rfl⟩⟩)
    have hm0 : ((w.drewN nd).alloc (.map #[] 0)).ownsMap Try.prog 3 (plainElem (H := Unit) Try.prog 3) w.heap.size 0 (setD []) := World.ownsMap_made _ _ _ _
    have hb0 : Below w.heap.size w ((w.drewN nd).alloc (.map #[] 0)) := below_alloc (pw_below_drewN (Below.refl _ _) nd) _
    obtain ⟨B, hB⟩ : ∃ B, B = w.heap.size := ⟨_, rfl⟩
    obtain ⟨W0, hW0⟩ : ∃ W0, ((w.drewN nd).alloc (.map #[] 0)) = W0 := ⟨_, rfl⟩
    rw [hW0, ← hB] at hm0
    rw [hW0] at hb0
    rw [hW0, ← hB]
    have HB := Aside0.mk hB
    clear hB hW0 hmm
    go_loopw [15] (fun v15 wr => ∃ i : Nat, i ≤ xs.length ∧ v15 = .int .i64 i ∧ Hid (wr.ownsMap Try.prog 3 (plainElem (H := Unit) Try.prog 3) B i (setD (xs.take i))) ∧ Hid (Below w.heap.size w wr)) (fun v15 _ => xs.length - (intOf v15).toNat)
    case atStart => exact ⟨0, by omega, rfl, hm0, hb0⟩
    case round =>
      clear hm0 hb0
      obtain ⟨i, hi, rfl, hm, hb⟩ := hrel
      by_cases hin : i < xs.length
      · have cin : (i : Int) < (xs.length : Int) := by omega
        obtain ⟨x, hx⟩ : ∃ x, xs[i]? = some x := ⟨_, List.getElem?_eq_getElem hin⟩
        obtain ⟨ad, hA, hc⟩ := (HRD.out.below hb.out).at_ (i : Int) (by omega) (by omega)
        have hrdx : rd xs (i : Int) = x := by
          unfold rd
          rw [Int.toNat_natCast, List.getD_eq_getElem?_getD, hx]; rfl
        rw [hrdx, Int.toNat_natCast] at hc
        subst hA
        have hkey : keyOf Try.prog 3 (.int .i64 x) = some (.int .i64 x) := keyOf_int_mk Try.underlying3 (HWF.out x (List.mem_of_getElem? hx))
        have hi1 : wrap64 ((i : Int) + 1) = (i : Int) + 1 := Go.Proofs.Ytlipkhhpjelicaa.Days.wr (by omega) (by omega)
        have hsn : Aside0 (setD (xs.take (i + 1)) = (setD (xs.take i)).put (.int .i64 x) (.lit (.int .i64 1))) := ⟨by rw [setD_snoc, List.take_add_one, hx]; rfl⟩
        clear hrdx hx
        go_wp2_with (at_mapUpdate; refine wpList_mapUpdate_own _ rfl _ _ _ 56 rfl 3 3 lawInt Try.underlying56 _ B i _ rfl hm.out (by unfold maxLen; omega) _ _ _ rfl rfl hkey _ [] (plainElem_int Try.underlying3 (by decide)) ?_; intro w1 hown1 hgrow1)
        exact ⟨⟨i + 1, by omega, congrArg (Value.int .i64) (by omega), by rw [hsn.out]; exact hown1, hb.out.grown hgrow1 hb.out.size (fun j hj => by cases hj; exact Nat.le_of_eq HB.out.symm)⟩, by simp [intOf]; omega⟩
      · obtain rfl : i = xs.length := by omega
        rw [List.take_length] at hm
        have HM := Aside0.mk hm.out
        have HB2 := Aside0.mk hb.out
        have HR2 : Aside0 (nextF xs (109573 - n).toNat n = (r1, r2)) := ⟨by have h := HR.out; unfold dueS at h; rw [if_pos HD.out] at h; exact h⟩
        clear hm hb
        go_wp2
        obtain ⟨W1, hW1⟩ : ∃ W1, W1 = wr := ⟨_, rfl⟩
        have HW1 := Aside0.mk hW1
        rw [← hW1] at HM HB2 ⊢
        clear hW1 HW1
        go_loopw [0] (fun v0 wr2 => ∃ m : Int, v0 = .int .i64 m ∧ 0 ≤ m ∧ m ≤ 109573 ∧ Hid (nextF xs (109573 - m).toNat m = (r1, r2)) ∧ wr2 = W1) (fun v0 _ => 109573 - (intOf v0).toNat)
        case atStart => exact ⟨n, rfl, HD.out.1, by have := HD.out.2; omega, HR2.out, rfl⟩
        case round =>
          obtain ⟨m, rfl, h0, h1, hnx, rfl⟩ := hrel
          by_cases hlt : m ≤ 109572
          · have hst : nextF xs ((109572 - m).toNat + 1) m = (r1, r2) := by rw [← show (109573 - m).toNat = (109572 - m).toNat + 1 by omega]; exact hnx.out
            unfold nextF at hst
            have hmod : Int.tmod m 7 = m % 7 := Int.tmod_eq_emod_of_nonneg h0
            have hm1 : wrap64 (m + 1) = m + 1 := Go.Proofs.Ytlipkhhpjelicaa.Days.wr (by omega) (by omega)
            have hkey : keyOf Try.prog 3 (.int .i64 m) = some (.int .i64 m) := keyOf_int_mk Try.underlying3 (by simp [Lit.wf, IntKind.min, IntKind.max, IntKind.signed, IntKind.bits]; omega)
            have HST := Aside0.mk hst
            clear hst hnx
            by_cases h7 : m % 7 < 5
            · have h7b : Int.tmod m 7 < 5 := by rw [hmod]; exact h7
              obtain ⟨c, hrun, hat, hwc⟩ := HM.out.lookup_int lawInt Try.underlying56 Try.underlying3 (zeroInt _) hkey
              rw [setD_at] at hat
              by_cases hin2 : m ∈ xs
              · rw [if_pos hin2] at hat
                obtain rfl : 1 = c := by injection hat with hat; injection hat
                have HS2 : Aside0 (nextF xs (109572 - m).toNat (m + 1) = (r1, r2)) := ⟨by have h := HST.out; rw [if_neg (fun hc => hc.2 hin2)] at h; exact h⟩
                go_wp2
                exact ⟨⟨m + 1, rfl, by omega, by omega, by rw [show (109573 - (m + 1)).toNat = (109572 - m).toNat by omega]; exact HS2.out, trivial⟩, by simp [intOf]; omega⟩
              · rw [if_neg hin2] at hat
                obtain rfl : 0 = c := by injection hat with hat; injection hat
                have HS2 : Aside0 ((m, (0 : Int)) = (r1, r2)) := ⟨by have h := HST.out; rw [if_pos ⟨h7, hin2⟩] at h; exact h⟩
                go_wp2
                refine bodyPost_ret (results_tmp2 rfl _ _ _) rfl ⟨?_, HB2.out⟩
                have h := HS2.out
                injection h with h1 h2
                rw [h1, h2]; rfl
            · have h7b : ¬ Int.tmod m 7 < 5 := by rw [hmod]; exact h7
              have HS2 : Aside0 (nextF xs (109572 - m).toNat (m + 1) = (r1, r2)) := ⟨by have h := HST.out; rw [if_neg (fun hc => h7 hc.1)] at h; exact h⟩
              go_wp2
              exact ⟨⟨m + 1, rfl, by omega, by omega, by rw [show (109573 - (m + 1)).toNat = (109572 - m).toNat by omega]; exact HS2.out, trivial⟩, by simp [intOf]; omega⟩
          · obtain rfl : m = 109573 := by omega
            have HS2 : Aside0 (((0 : Int), (21 : Int)) = (r1, r2)) := ⟨hnx.out⟩
            go_wp2
            refine bodyPost_ret (results_tmp2 rfl _ _ _) rfl ⟨?_, HB2.out⟩
            have h := HS2.out
            injection h with h1 h2
            rw [h1, h2]; rfl
  · have hid : days_isDay.f n = some false := by rw [isDay_p, decide_eq_false hd]
    have HID := Aside0.mk hid
    have HS2 : Aside0 (((0 : Int), (21 : Int)) = (r1, r2)) := ⟨by unfold dueS at hr; rw [if_neg hd] at hr; exact hr⟩
    clear hr hC hlen hwf hid hd hmm
    go_enter Try.func11, Try.ntmps11
    go_wp2_with (go_at_call 14; (with_reducible refine (days_isDay.calls n false _ HID.out).mono ?_); rintro e w2 ⟨rfl, ⟨nd, rfl⟩⟩)
    refine bodyPost_ret (results_tmp2 rfl _ _ _) rfl ⟨?_, pw_below_drewN (Below.refl _ _) nd⟩
    have h := HS2.out
    injection h with h1 h2
    rw [h1, h2]; rfl

/-- The document's Due answers the same. -/
theorem in_r (l : List Int) (hl : l.length < 17592186044416) (x : Int) (d : Nat) : ∀ i : Nat, l.length = i + d → Ev (fun k => levyref2_in.l0 k l x (i : Int)) (decide (x ∈ l.drop i)) := by
  induction d with
  | zero =>
    intro i hi
    refine ⟨1, fun k hk => ?_⟩
    obtain ⟨m, rfl⟩ : ∃ m, k = m + 1 := ⟨k - 1, by omega⟩
    show levyref2_in.l0 (m + 1) l x (i : Int) = _
    unfold levyref2_in.l0
    rw [if_neg (by omega), List.drop_of_length_le (by omega)]
    rfl
  | succ d ih =>
    intro i hi
    have hlt : i < l.length := by omega
    have hw : wrap64 ((i : Int) + 1) = ((i + 1 : Nat) : Int) := by
      rw [show (i : Int) + 1 = ((i + 1 : Nat) : Int) by omega]
      exact Go.Proofs.Ytlipkhhpjelicaa.Days.wr (by omega) (by omega)
    have hrd : rd l (i : Int) = l[i] := by
      unfold rd
      rw [Int.toNat_natCast, List.getD_eq_getElem?_getD, List.getElem?_eq_getElem hlt]; rfl
    have hdrop : l.drop i = l[i] :: l.drop (i + 1) := List.drop_eq_getElem_cons hlt
    obtain ⟨K, hK⟩ := ih (i + 1) (by omega)
    dsimp only at hK
    refine ⟨K + 1, fun k hk => ?_⟩
    obtain ⟨m, rfl⟩ : ∃ m, k = m + 1 := ⟨k - 1, by omega⟩
    show levyref2_in.l0 (m + 1) l x (i : Int) = _
    conv => lhs; unfold levyref2_in.l0
    rw [if_pos (by omega), if_pos (by omega), hrd, hw, hdrop]
    generalize l.drop (i + 1) = r at *
    by_cases hx : l[i] = x
    · rw [if_pos hx]
      exact congrArg some (decide_eq_true (by rw [hx]; exact List.mem_cons_self)).symm
    · rw [if_neg hx, hK _ (by omega)]
      exact congrArg some (decide_eq_decide.2 ⟨fun h => List.mem_cons_of_mem _ h, fun h => by rcases List.mem_cons.1 h with h | h; exact absurd h.symm hx; exact h⟩)

theorem due_loop (l : List Int) (hl : l.length < 17592186044416) (d : Nat) : ∀ n : Int, 0 ≤ n → 109573 - n = d → Ev (fun k => levyref2_Due.l0 k l n) (nextF l d n) := by
  induction d with
  | zero =>
    intro n h0 hd
    refine ⟨1, fun k hk => ?_⟩
    obtain ⟨m, rfl⟩ : ∃ m, k = m + 1 := ⟨k - 1, by omega⟩
    show levyref2_Due.l0 (m + 1) l n = _
    unfold levyref2_Due.l0
    rw [if_neg (by omega)]
    rfl
  | succ d ih =>
    intro n h0 hd
    obtain ⟨K1, h1⟩ := in_r l hl n l.length 0 (by omega)
    obtain ⟨K2, h2⟩ := ih (n + 1) (by omega) (by omega)
    dsimp only at h1 h2
    refine ⟨K1 + K2 + 1, fun k hk => ?_⟩
    obtain ⟨m, rfl⟩ : ∃ m, k = m + 1 := ⟨k - 1, by omega⟩
    show levyref2_Due.l0 (m + 1) l n = _
    conv => lhs; unfold levyref2_Due.l0
    have hin : levyref2_in.f m l n = some (decide (n ∈ l)) := by
      have h := h1 m (by omega)
      rw [List.drop_zero] at h
      exact h
    rw [if_pos (by omega), hin, Option.bind_some, Int.tmod_eq_emod_of_nonneg h0, Go.Proofs.Ytlipkhhpjelicaa.Days.wr (x := n + 1) (by omega) (by omega), h2 m (by omega)]
    have hns : nextF l (d + 1) n = if n % 7 < 5 ∧ n ∉ l then (n, 0) else nextF l d (n + 1) := rfl
    rw [hns]
    clear hns
    by_cases h7 : n % 7 < 5
    · by_cases hm : n ∈ l
      · rw [if_pos h7, if_pos (decide_eq_true hm), if_neg (fun c => c.2 hm)]
      · rw [if_pos h7, if_neg (by simpa using hm), if_pos ⟨h7, hm⟩]
    · rw [if_neg h7, if_neg (fun c => h7 c.1)]

theorem due_r (n : Int) (l : List Int) (hl : l.length < 17592186044416) : Ev (fun k => levyref2_Due.f k n l) (dueS n l) := by
  unfold dueS
  by_cases h : 0 ≤ n ∧ n ≤ 109572
  · rw [if_pos h]
    obtain ⟨K, hK⟩ := due_loop l hl (109573 - n).toNat n h.1 (by omega)
    refine ⟨K, fun k hk => ?_⟩
    show levyref2_Due.f k n l = _
    unfold levyref2_Due.f
    rw [is_r, decide_eq_true h, Option.bind_some, if_pos rfl]
    exact hK k hk
  · rw [if_neg h]
    refine ⟨0, fun k hk => ?_⟩
    show levyref2_Due.f k n l = _
    unfold levyref2_Due.f
    rw [is_r, decide_eq_false h, Option.bind_some, if_neg (by decide)]
end Go.Proofs.Ytlipkhhpjelicaa.PA
