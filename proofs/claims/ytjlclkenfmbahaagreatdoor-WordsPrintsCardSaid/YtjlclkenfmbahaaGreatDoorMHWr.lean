/- words.written: what it says of every token, in plain words. Conditions: the token's fields are what Go's fields can be, the tables ('Tabs'). -/
import Derived.Test.YtjlclkenfmbahaaGreatDoorMHWritten
import Derived.Test.YtjlclkenfmbahaaGreatDoorMG
import Derived.Test.YtjlclkenfmbahaaGreatDoorMQ
import Derived.Test.YtjlclkenfmbahaaGreatDoorMC
import Derived.Test.YtjlclkenfmbahaaGreatDoorMPAx0
import Derived.Test.YtjlclkenfmbahaaGreatDoorML
namespace Go.Proofs.YtjlclkenfmbahaaGreatDoor.PA
open Go.RowKit Go.Proofs.YtjlclkenfmbahaaGreatDoorW.PrintWords Go.Proofs.YtjlclkenfmbahaaGreatDoorW.PrintLast Go.Proofs.YtjlclkenfmbahaaGreatDoorW.PrintMore
open Go.Proofs.YtjlclkenfmbahaaGreatDoor.Pure (amountL wamount_p)
set_option linter.unusedVariables false
set_option linter.unusedSimpArgs false
def monOf (n : Int) : Nat := ((List.range 3600).find? (fun q => decide (Cal.B q ≤ n) && decide (n < Cal.B (q + 1)))).getD 0
theorem monOf_eq {n : Int} {q : Nat} (h : Cal.Mon n q) : monOf n = q := by
 unfold monOf
 cases hf : (List.range 3600).find? (fun q => decide (Cal.B q ≤ n) && decide (n < Cal.B (q + 1))) with
 | none =>
  have := List.find?_eq_none.1 hf q (List.mem_range.2 h.1)
  simp [h.2.1, h.2.2] at this
 | some p =>
  have h1 := List.find?_some hf
  have h2 := List.mem_of_find?_eq_some hf
  simp only [Bool.and_eq_true, decide_eq_true_eq] at h1
  show p = q
  exact Cal.mon_unique (n := n) ⟨List.mem_range.1 h2, h1.1, h1.2⟩ h
def dayT (n : Int) : ByteArray := strOfNums (Days.textL (Days.dateS n (monOf n)).1 (Days.dateS n (monOf n)).2.1 (Days.dateS n (monOf n)).2.2)
theorem day_p {n : Int} (h : 0 ≤ n ∧ n ≤ 109572) : Ev (fun k => days_Print.f k n) (dayT n, 0) := by
 obtain ⟨q, hq⟩ := Cal.mon_exists h.1 h.2
 have := Days.print_p hq
 unfold dayT
 rw [monOf_eq hq]
 exact this
def tokIn (t : S57) : Bool := decide (t.f2.size ≤ 9223372036854775807) && (decide (-9223372036854775808 ≤ t.f3) && (decide (t.f3 ≤ 9223372036854775807) && (decide (-9223372036854775808 ≤ t.f4) && decide (t.f4 ≤ 9223372036854775807))))
def wrR (t : S57) : ByteArray × Bool :=
 if t.f0 = 1 then (t.f2, namedB t.f2 && (t.f3 == 0 && t.f4 == 0))
 else if t.f0 = 2 then (Dig.B (amountL (decide (t.f3 < 0)) t.f3.natAbs), (decide (0 ≤ t.f3) && decide (t.f3 ≤ 9999999999999)) && (t.f2.toList.isEmpty && t.f4 == 0))
 else if t.f0 = 3 then (⟨(Lib.itoa t.f3).toArray⟩, (decide (0 ≤ t.f3) && decide (t.f3 ≤ 1000000000)) && (t.f2.toList.isEmpty && t.f4 == 0))
 else if t.f0 = 4 then ((Gr.perT t.f3 t.f4).1, ((Gr.perT t.f3 t.f4).2 && (((max (Nat.gcd t.f3.toNat t.f4.toNat) 1 : Nat) : Int) == 1)) && t.f2.toList.isEmpty)
 else if t.f0 = 5 then ((if t.f3 < 0 ∨ 109572 < t.f3 then ⟨#[]⟩ else dayT t.f3), (if t.f3 < 0 ∨ 109572 < t.f3 then false else (t.f2.toList.isEmpty && t.f4 == 0)))
 else if t.f0 = 6 then ((quoteT t.f2).1, (quoteT t.f2).2 && (t.f3 == 0 && t.f4 == 0))
 else if t.f0 = 7 then (t.f2, signedB t.f2 && (t.f3 == 0 && t.f4 == 0))
 else if t.f0 = 8 then (⟨#[10]⟩, t.f2.toList.isEmpty && (t.f3 == 0 && t.f4 == 0))
 else (⟨#[]⟩, false)
theorem written_calls (t : S57) (ht : tokIn t = true) (w : World) (hT : Tabs w) :
  Calls Tryz.prog 16 #[.agg #[.int .i64 t.f0, .int .i64 t.f1, .string t.f2, .int .i64 t.f3, .int .i64 t.f4]] w fun e w' => e = .returned (.tuple #[.string (wrR t).1, .bool (wrR t).2]) ∧ Below w.heap.size w w' := by
 obtain ⟨f0, f1, f2, f3, f4⟩ := t
 unfold tokIn at ht
 simp only [Bool.and_eq_true, decide_eq_true_eq] at ht
 obtain ⟨t1, t2, t3, t4, t5⟩ := ht
 unfold wrR
 dsimp only
 by_cases e1 : f0 = 1
 ·subst e1
  rw [if_pos rfl]
  obtain ⟨K, hK⟩ := named_p f2 t1
  exact written_1 f1 f3 f4 f2 w hT K _ (hK K (Nat.le_refl _))
 rw [if_neg e1]
 by_cases e2 : f0 = 2
 ·subst e2
  rw [if_pos rfl]
  obtain ⟨K, hK⟩ := wamount_p f3 t2 t3
  exact written_2 f1 f3 f4 f2 w hT K _ (hK K (Nat.le_refl _))
 rw [if_neg e2]
 by_cases e3 : f0 = 3
 ·subst e3
  rw [if_pos rfl]
  exact written_3 f1 f3 f4 f2 w hT _ (by unfold strconv_FormatInt_77.f; rw [if_pos ⟨rfl, t2, t3⟩])
 rw [if_neg e3]
 by_cases e4 : f0 = 4
 ·subst e4
  rw [if_pos rfl]
  obtain ⟨K1, hK1⟩ := Gr.percent_p f3 f4
  obtain ⟨K2, hK2⟩ := common_eval f3.toNat f4.toNat
  have h1 := hK1 (K1 + K2) (by omega)
  have h2 := hK2 (K1 + K2) (by omega)
  dsimp only at h1 h2
  refine written_4 f1 f3 f4 f2 w hT (K1 + K2) _ _ _ (by rw [h1]) fun hp => ?_
  obtain ⟨n, d, rfl, rfl, _⟩ := Gr.perT_yes hp
  exact h2
 rw [if_neg e4]
 by_cases e5 : f0 = 5
 ·subst e5
  rw [if_pos rfl]
  by_cases hd : 0 ≤ f3 ∧ f3 ≤ 109572
  ·obtain ⟨K, hK⟩ := day_p hd
   exact written_5 f1 f3 f4 f2 w hT K _ 0 fun _ => hK K (Nat.le_refl _)
  ·exact written_5 f1 f3 f4 f2 w hT 0 _ 0 fun h => absurd h hd
 rw [if_neg e5]
 by_cases e6 : f0 = 6
 ·subst e6
  rw [if_pos rfl]
  obtain ⟨K, hK⟩ := quote_p f2
  exact written_6 f1 f3 f4 f2 w hT K _ _ (hK K (Nat.le_refl _))
 rw [if_neg e6]
 by_cases e7 : f0 = 7
 ·subst e7
  rw [if_pos rfl]
  exact written_7 f1 f3 f4 f2 w hT _ (signed_p f2)
 rw [if_neg e7]
 by_cases e8 : f0 = 8
 ·subst e8
  rw [if_pos rfl]
  exact written_8 f1 f3 f4 f2 w hT
 rw [if_neg e8]
 exact written_x f0 (beq_eq_false_iff_ne.mpr e1) (beq_eq_false_iff_ne.mpr e2) (beq_eq_false_iff_ne.mpr e3) (beq_eq_false_iff_ne.mpr e4) (beq_eq_false_iff_ne.mpr e5) (beq_eq_false_iff_ne.mpr e6) (beq_eq_false_iff_ne.mpr e7) (beq_eq_false_iff_ne.mpr e8) f1 f3 f4 f2 w hT
def prGo : Bool → List UInt8 → List S57 → Option (Option (List UInt8 × Bool))
 | g, acc, [] => some (some (acc, g))
 | g, acc, t :: ts => if tokIn t = true then (if (wrR t).2 = false ∨ (t.f0 = 8 ∧ g = false) then some none
   else if (Ls (wrR t).1).length ≤ 1000 ∧ acc.length ≤ 1000000000 then prGo (t.f0 != 8) (acc ++ ((if g = true ∧ t.f0 ≠ 8 then [32] else []) ++ Ls (wrR t).1)) ts else none) else none
theorem prGo_cons {g : Bool} {acc : List UInt8} {t : S57} {ts : List S57} {R : Option (List UInt8 × Bool)} (h : prGo g acc (t :: ts) = some R) : tokIn t = true ∧
  (((wrR t).2 = false ∨ (t.f0 = 8 ∧ g = false)) ∧ R = none ∨ ((wrR t).2 = true ∧ (t.f0 = 8 → g = true) ∧ (Ls (wrR t).1).length ≤ 1000 ∧ acc.length ≤ 1000000000 ∧ prGo (t.f0 != 8) (acc ++ ((if g = true ∧ t.f0 ≠ 8 then [32] else []) ++ Ls (wrR t).1)) ts = some R)) := by
 unfold prGo at h
 split at h
 ·next h1 =>
  refine ⟨h1, ?_⟩
  split at h
  ·next h2 => exact .inl ⟨h2, (Option.some.inj h).symm⟩
  ·next h2 =>
   split at h
   ·next h3 =>
    obtain ⟨h4, h5⟩ := not_or.mp h2
    refine .inr ⟨by simpa using h4, fun h8 => ?_, h3.1, h3.2, h⟩
    cases g with
    | true => rfl
    | false => exact absurd ⟨h8, rfl⟩ h5
   ·cases h
 ·cases h
def words_Print.f (l : List S57) : Option (ByteArray × Int) := (if l.length ≤ 1000000 then prGo false [] l else none).map fun r => match r with
 | none => ((⟨#[]⟩ : ByteArray), 45)
 | some (acc, g) => if g = true ∨ 8000 < acc.length then ((⟨#[]⟩ : ByteArray), 45) else (bA acc, 0)
end Go.Proofs.YtjlclkenfmbahaaGreatDoor.PA
