/- The document's Print and the program's say the same of every list. Condition: the tokens' fields are such as Go's are, the list is no longer than 65536. -/
import Derived.Test.YtjlclkenfmbahaaGreatDoorMPurePrA
import Derived.Test.YtjlclkenfmbahaaGreatDoorMPAx0
import Derived.Test.YtjlclkenfmbahaaGreatDoorMPAx32
namespace Go.Proofs.YtjlclkenfmbahaaGreatDoor.Gr
open Go.RowKit Go.Proofs.YtjlclkenfmbahaaGreatDoorW.PrintWords Go.Proofs.YtjlclkenfmbahaaGreatDoorW.PrintLast Go.Proofs.YtjlclkenfmbahaaGreatDoor.PA Go.Proofs.YtjlclkenfmbahaaGreatDoor.Dig Go.Lib
set_option linter.unusedVariables false
set_option linter.unusedSectionVars false
set_option linter.unusedSimpArgs false
theorem prGo_len (ts : List S57) : ∀ (g : Bool) (acc acc' : List UInt8) (g' : Bool), prGo g acc ts = some (some (acc', g')) → acc.length ≤ acc'.length := by
 induction ts with
 | nil =>
  intro g acc acc' g' h
  cases h
  exact Nat.le_refl _
 | cons t ts ih =>
  intro g acc acc' g' h
  obtain ⟨_, ⟨_, h2⟩ | ⟨_, _, _, _, h5⟩⟩ := prGo_cons h
  ·cases h2
  ·have := ih _ _ _ _ h5
   rw [List.length_append] at this
   omega
def outP (R : Option (List UInt8 × Bool)) : ByteArray × Int := match R with
 | none => ((⟨#[]⟩ : ByteArray), 45)
 | some (acc, g) => if g = true ∨ 8000 < acc.length then ((⟨#[]⟩ : ByteArray), 45) else (bA acc, 0)
theorem outP_long {g : Bool} {acc : List UInt8} {ts : List S57} {R : Option (List UInt8 × Bool)} (h : prGo g acc ts = some R) (hl : 8000 < acc.length) : outP R = ((⟨#[]⟩ : ByteArray), 45) := by
 match R, h with
 | none, h => rfl
 | some (acc', g'), h =>
  have := prGo_len ts g acc acc' g' h
  show (if g' = true ∨ 8000 < acc'.length then _ else _) = _
  rw [if_pos (.inr (by omega))]
theorem bA_add (acc : List UInt8) (s : ByteArray) : bA acc ++ s = bA (acc ++ Ls s) := by
 have := B_append acc (Ls s)
 exact this
theorem line_ok {t : S57} (h8 : t.f0 = 8) : (wrR t).2 = true ↔ (t.f2.toList = [] ∧ t.f3 = 0 ∧ t.f4 = 0) := by
 obtain ⟨f0, f1, f2, f3, f4⟩ := t
 dsimp only at h8
 subst h8
 unfold wrR
 dsimp only
 rw [if_neg (by decide), if_neg (by decide), if_neg (by decide), if_neg (by decide), if_neg (by decide), if_neg (by decide), if_neg (by decide), if_pos rfl]
 simp only [Bool.and_eq_true, beq_iff_eq, List.isEmpty_iff]
theorem refPrint_go (l : List S57) (hl : l.length ≤ 1000000) (hin : ∀ t ∈ l, tokIn t = true) (ts : List S57) : ∀ (i : Nat) (g : Bool) (acc : List UInt8) (R : Option (List UInt8 × Bool)), l.drop i = ts → i ≤ l.length → prGo g acc ts = some R → acc.length ≤ 8000 + (if g = true then 0 else 1) →
  Ev (fun k => levyref4_Print.l0 k l (bA acc) (!g) (i : Int)) (outP R) := by
 induction ts with
 | nil =>
  intro i g acc R hd hi h ha
  have hi2 : l.length ≤ i := by
   have := congrArg List.length hd
   rw [List.length_drop, List.length_nil] at this
   omega
  cases h
  refine ⟨1, fun k hk => ?_⟩
  obtain ⟨q, rfl⟩ : ∃ q, k = q + 1 := ⟨k - 1, by omega⟩
  show levyref4_Print.l0 (q + 1) l (bA acc) (!g) (i : Int) = _
  conv => lhs; unfold levyref4_Print.l0
  rw [if_neg (by omega)]
  have hs : ((bA acc).size : Int) = (acc.length : Int) := by rw [bA_size]
  unfold outP
  dsimp only
  cases g with
  | true => rw [if_neg (by decide), if_pos (.inl rfl)]
  | false =>
   rw [if_pos (by rfl), hs]
   by_cases h8 : 8000 < acc.length
   ·rw [if_pos (by omega), if_pos (.inr h8)]
   ·rw [if_neg (by omega), if_neg (not_or.mpr ⟨by decide, h8⟩)]
 | cons t ts ih =>
  intro i g acc R hd hi h ha
  have hlt : i < l.length := by
   have := congrArg List.length hd
   rw [List.length_drop, List.length_cons] at this
   omega
  have ht : l[i]? = some t := by
   have := congrArg (·[0]?) hd
   simpa using this
  have hd2 : l.drop (i + 1) = ts := by
   have := congrArg (List.drop 1) hd
   rw [List.drop_drop] at this
   simpa [Nat.add_comm] using this
  have hrd := rd_of ht
  have htin := hin t (List.mem_of_getElem? ht)
  have hw : wrap64 ((i : Int) + 1) = ((i + 1 : Nat) : Int) := by rw [Go.Proofs.YtjlclkenfmbahaaGreatDoor.Days.wr (by omega) (by omega)]; omega
  have ha1 : acc.length ≤ 8001 := by split at ha <;> omega
  have hsz : (bA acc).size = acc.length := bA_size acc
  obtain ⟨-, hc⟩ := prGo_cons h
  by_cases h8 : t.f0 = 8
  ·have hline := line_ok h8
   have n8 : (t.f0 != 8) = false := bne_eq_false_iff_eq.mpr h8
   cases g with
   | false =>
    have hR : R = none := by
     rcases hc with ⟨_, h⟩ | ⟨_, h, _⟩
     ·exact h
     ·cases h h8
    subst hR
    refine ⟨1, fun k hk => ?_⟩
    obtain ⟨q, rfl⟩ : ∃ q, k = q + 1 := ⟨k - 1, by omega⟩
    show levyref4_Print.l0 (q + 1) l (bA acc) (!false) (i : Int) = _
    conv => lhs; unfold levyref4_Print.l0
    rw [if_pos (by omega), if_pos (by omega), hrd, if_pos h8, if_pos (by rfl)]
    rfl
   | true =>
    by_cases hk : t.f2.toList = [] ∧ t.f3 = 0 ∧ t.f4 = 0
    ·have hN : prGo false (acc ++ [10]) ts = some R := by
      rcases hc with ⟨h, _⟩ | ⟨_, _, h3, h4, h5⟩
      ·rcases h with h | ⟨_, h⟩
       ·rw [hline.2 hk] at h; cases h
       ·cases h
      ·rw [n8, if_neg (fun h => h.2 h8), List.nil_append, (wr_line h8).1] at h5
       exact h5
     obtain ⟨K, hK⟩ := ih (i + 1) false (acc ++ [10]) R hd2 (by omega) hN (by rw [List.length_append, if_neg (by decide)]; rw [if_pos rfl] at ha; simp; omega)
     refine ⟨K + 1, fun k hk2 => ?_⟩
     obtain ⟨q, rfl⟩ : ∃ q, k = q + 1 := ⟨k - 1, by omega⟩
     show levyref4_Print.l0 (q + 1) l (bA acc) (!true) (i : Int) = _
     conv => lhs; unfold levyref4_Print.l0
     have e : levyref4_Print.l0 q l (bA (acc ++ [10])) (!false) ((i + 1 : Nat) : Int) = _ := hK q (by omega)
     rw [if_pos (by omega), if_pos (by omega), hrd, if_pos h8, if_neg (by decide), if_pos hk.1, if_pos hk.2.1, if_pos hk.2.2, hsz, if_pos (by omega), hw, bA_add]
     exact e
    ·have hR : R = none := by
      rcases hc with ⟨_, h⟩ | ⟨h, _⟩
      ·exact h
      ·exact absurd (hline.1 h) hk
     subst hR
     refine ⟨1, fun k hk2 => ?_⟩
     obtain ⟨q, rfl⟩ : ∃ q, k = q + 1 := ⟨k - 1, by omega⟩
     show levyref4_Print.l0 (q + 1) l (bA acc) (!true) (i : Int) = _
     conv => lhs; unfold levyref4_Print.l0
     rw [if_pos (by omega), if_pos (by omega), hrd, if_pos h8, if_neg (by decide)]
     by_cases h2 : t.f2.toList = []
     ·by_cases h3 : t.f3 = 0
      ·by_cases h4 : t.f4 = 0
       ·exact absurd ⟨h2, h3, h4⟩ hk
       ·rw [if_pos h2, if_pos h3, if_neg h4]; rfl
      ·rw [if_pos h2, if_neg h3]; rfl
     ·rw [if_neg h2]; rfl
  ·have n8 : (t.f0 != 8) = true := bne_iff_ne.mpr h8
   obtain ⟨r, ⟨K1, hr⟩, hr2, hr1⟩ := ref_wr t htin h8
   cases hok : r.2 with
   | false =>
    have hR : R = none := by
     rcases hc with ⟨_, h⟩ | ⟨h, _⟩
     ·exact h
     ·rw [← hr2, hok] at h; cases h
    subst hR
    refine ⟨K1 + 1, fun k hk2 => ?_⟩
    obtain ⟨q, rfl⟩ : ∃ q, k = q + 1 := ⟨k - 1, by omega⟩
    show levyref4_Print.l0 (q + 1) l (bA acc) (!g) (i : Int) = _
    have e : levyref4_written.f q t.f0 t.f1 t.f2 t.f3 t.f4 = some r := hr q (by omega)
    conv => lhs; unfold levyref4_Print.l0
    rw [if_pos (by omega), if_pos (by omega), hrd, if_neg h8, e, Option.bind_some, hok, if_neg (by decide)]
    rfl
   | true =>
    have hwr : (wrR t).2 = true := by rw [← hr2, hok]
    have hr1 := hr1 hok
    have hlen := word_len (wr_word h8 hwr)
    rw [← hr1] at hlen
    have hrs : r.1.size = (Ls r.1).length := (Ls_len r.1).symm
    have hN : prGo true (acc ++ ((if g = true then [32] else []) ++ Ls r.1)) ts = some R := by
     rcases hc with ⟨h, _⟩ | ⟨_, _, h3, h4, h5⟩
     ·rcases h with h | ⟨h, _⟩
      ·rw [hwr] at h; cases h
      ·exact absurd h h8
     ·rw [n8, ← hr1] at h5
      cases g with
      | true => rw [if_pos ⟨rfl, h8⟩] at h5; rw [if_pos rfl]; exact h5
      | false => rw [if_neg (fun h => by cases h.1)] at h5; rw [if_neg (by decide)]; exact h5
    generalize hD : acc ++ ((if g = true then [32] else []) ++ Ls r.1) = D at hN
    have hDl : D.length = acc.length + ((if g = true then 1 else 0) + (Ls r.1).length) := by
     rw [← hD, List.length_append, List.length_append]
     cases g <;> rfl
    have step : ∃ K, ∀ q, K ≤ q → (if (D.length : Int) > 8000 then some ((⟨#[]⟩ : ByteArray), (45 : Int)) else levyref4_Print.l0 q l (bA D) false ((i + 1 : Nat) : Int)) = some (outP R) := by
     by_cases h80 : 8000 < D.length
     ·exact ⟨0, fun q _ => by rw [if_pos (by omega), outP_long hN h80]⟩
     ·obtain ⟨K, hK⟩ := ih (i + 1) true D R hd2 (by omega) hN (by rw [if_pos rfl]; omega)
      exact ⟨K, fun q hq => by rw [if_neg (by omega)]; exact hK q hq⟩
    obtain ⟨K2, step⟩ := step
    refine ⟨K1 + K2 + 1, fun k hk2 => ?_⟩
    obtain ⟨q, rfl⟩ : ∃ q, k = q + 1 := ⟨k - 1, by omega⟩
    show levyref4_Print.l0 (q + 1) l (bA acc) (!g) (i : Int) = _
    have e : levyref4_written.f q t.f0 t.f1 t.f2 t.f3 t.f4 = some r := hr q (by omega)
    have hst := step q (by omega)
    conv => lhs; unfold levyref4_Print.l0
    rw [if_pos (by omega), if_pos (by omega), hrd, if_neg h8, e, Option.bind_some, hok, if_pos rfl, hw]
    cases g with
    | false =>
     rw [if_neg (by decide), List.nil_append] at hD
     rw [if_pos (by rfl), hsz, hrs, if_pos (by omega), bA_add, hD, bA_size]
     exact hst
    | true =>
     rw [if_pos rfl] at hD hDl
     have e1 : bA acc ++ (⟨#[32]⟩ : ByteArray) = bA (acc ++ [32]) := bA_add acc ⟨#[32]⟩
     have e2 : bA (acc ++ [32]) ++ r.1 = bA D := by rw [bA_add, List.append_assoc, hD]
     rw [if_neg (by decide), hsz, if_pos (by omega), e1, bA_size, hrs, if_pos (by rw [List.length_append, List.length_singleton]; omega), e2, bA_size]
     exact hst
theorem print_both (l : List S57) (hl : l.length ≤ 65536) (hin : ∀ t ∈ l, tokIn t = true) : ∃ K s e, levyref4_Print.f K l = some (s, e) ∧ words_Print.f l = some (s, e) := by
 obtain ⟨R, hR⟩ := prGo_total l false [] hin (by simp; omega)
 have hw : words_Print.f l = some (outP R) := by
  unfold words_Print.f
  rw [if_pos (by omega), hR]
  rfl
 by_cases h16 : 16000 < l.length
 ·refine ⟨0, (outP R).1, (outP R).2, ?_, hw⟩
  have ho : outP R = ((⟨#[]⟩ : ByteArray), 45) := by
   match R, hR with
   | none, _ => rfl
   | some (acc, g), hR =>
    show (if g = true ∨ 8000 < acc.length then _ else _) = _
    cases g with
    | true => rw [if_pos (.inl rfl)]
    | false =>
     obtain ⟨D, hD, hP⟩ := of_prGo l false [] acc hR
     have := pr_len hP
     rw [List.nil_append] at hD
     rw [hD, if_pos (.inr (by omega))]
  rw [ho]
  unfold levyref4_Print.f
  rw [if_pos (by omega)]
 ·obtain ⟨K, hK⟩ := refPrint_go l (by omega) hin l 0 false [] R rfl (by omega) hR (by simp)
  refine ⟨K, (outP R).1, (outP R).2, ?_, hw⟩
  unfold levyref4_Print.f
  rw [if_neg (by omega)]
  exact hK K (Nat.le_refl _)
end Go.Proofs.YtjlclkenfmbahaaGreatDoor.Gr
