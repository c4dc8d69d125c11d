/- What the scanner's number needs: 'is' as a quiet call, the form of a date, amounts and counts. Conditions: each law's own. -/
import Derived.Test.YtjlclkenfmbahaaGreatDoorVScRatio
import Derived.Test.YtjlclkenfmbahaaGreatDoorVHParse
import Derived.Test.YtjlclkenfmbahaaGreatDoorVPAx0
import Derived.Test.YtjlclkenfmbahaaGreatDoorVL
import Derived.Test.YtjlclkenfmbahaaGreatDoorVPAx69
import Derived.Test.YtjlclkenfmbahaaGreatDoorVPAx70
import Derived.Test.YtjlclkenfmbahaaGreatDoorVPAx71
namespace Go.Proofs.YtjlclkenfmbahaaGreatDoor.PA
open Go.RowKit Go.Proofs.YtjlclkenfmbahaaGreatDoorW.PrintWords Go.Proofs.YtjlclkenfmbahaaGreatDoorW.PrintLast Go.Proofs.YtjlclkenfmbahaaGreatDoorW.PrintMore
set_option linter.unusedVariables false
set_option linter.unusedSimpArgs false
set_option maxRecDepth 100000 in
set_option maxHeartbeats 4000000 in
theorem is_quiet (g : Nat) (s : ByteArray) (i : Nat) (m : Int) (W : World) (hT : Tabs W) (hc : W.cell? ⟨g, 0, none⟩ = some (.string s)) :
  Calls Tryz.prog 201 #[.pointer (some ⟨g, 0, none⟩), .int .i64 (i : Int), .int .u8 m] W fun e w' => e = .returned (.bool (isC m s i)) ∧ ∃ n, w' = W.drewN n := by
 have HT := Aside0.mk hT
 clear hT
 by_cases h : i < s.size
 ·obtain ⟨x, hx⟩ := byte_some s h
  have hb := (bt_of s hx).1
  have hR : isC m s i = clsN m x.toNat := by unfold isC atP; rw [hx]
  have HR := Aside0.mk hR
  have hi : ∀ h : i < s.size, ((s[i]'h).toNat : Int) = (x.toNat : Int) := fun h => (bt_at s (i : Int) h).trans hb
  have HO := Aside0.mk (of_eval x.toNat_lt)
  have p6 : ((0 : Int) ≤ (i : Int)) = True := eq_true (by omega)
  have q6 : ((i : Int) < (s.size : Int)) = True := eq_true (by omega)
  have q7 : (i < s.size) = True := eq_true h
  generalize hn : x.toNat = n at hi HO HR
  clear hb hR hx h
  go_enter Tryz.func201, Tryz.ntmps201
  go_wp2_with (first | (go_at_call 115; (with_reducible refine (words_of.calls (n : Int) (ofN n) _ ?side1 HO.out).mono ?_); (case side1 => exact HT.out); rintro e w' ⟨rfl, ⟨nd, rfl⟩⟩))
  go_ret
  exact ⟨by rw [HR.out]; rfl, nd, rfl⟩
 ·have hR : isC m s i = false := by unfold isC atP; rw [byte_none s h]
  have q6 : ((i : Int) < (s.size : Int)) = False := eq_false (by omega)
  have q7 : (i < s.size) = False := eq_false h
  have HR := Aside0.mk hR
  clear hR h
  go_enter Tryz.func201, Tryz.ntmps201
  go_wp2
  go_ret
  exact ⟨by rw [HR.out]; rfl, 0, by simp [World.drewN_zero]⟩
def datedT (s : ByteArray) (p i : Nat) : Bool := if i = 4 ∨ i = 7 then atP (fun b => b.toNat == 45) s (p + i) else atP isDg s (p + i)
def datedGo (s : ByteArray) (p : Nat) : Nat → Nat → Bool
 | 0, _ => true
 | d + 1, i => if datedT s p i then datedGo s p d (i + 1) else false
def datedB (s : ByteArray) (p : Nat) : Bool := datedGo s p 10 0
theorem form_bt {i : Nat} (h : i < 10) : bt (⟨#[48, 48, 48, 48, 45, 48, 48, 45, 48, 48]⟩ : ByteArray) (i : Int) = if i = 4 ∨ i = 7 then 45 else 48 := by
 obtain rfl | rfl | rfl | rfl | rfl | rfl | rfl | rfl | rfl | rfl : i = 0 ∨ i = 1 ∨ i = 2 ∨ i = 3 ∨ i = 4 ∨ i = 5 ∨ i = 6 ∨ i = 7 ∨ i = 8 ∨ i = 9 := by omega
 all_goals rfl
theorem dated_loop (s : ByteArray) (p : Nat) (hs : s.size ≤ 8000) (hp : p ≤ s.size) (x : Int) (l : Bool) (e3 e4 : Int) (d : Nat) : ∀ i, i + d = 10 →
  Ev (fun k => words_scanner_dated.l0 k (p : Int) (i : Int) s x l e3 e4) (datedGo s p d i, s, x, l, e3, e4) := by
 induction d with
 | zero =>
  intro i hi
  refine ⟨1, fun k hk => ?_⟩
  obtain ⟨q, rfl⟩ : ∃ q, k = q + 1 := ⟨k - 1, by omega⟩
  show words_scanner_dated.l0 (q + 1) (p : Int) (i : Int) s x l e3 e4 = _
  unfold words_scanner_dated.l0
  rw [if_neg (by omega)]
  rfl
 | succ d ih =>
  intro i hi
  obtain ⟨K, hK⟩ := ih (i + 1) (by omega)
  refine ⟨K + 1, fun k hk => ?_⟩
  obtain ⟨q, rfl⟩ : ∃ q, k = q + 1 := ⟨k - 1, by omega⟩
  have hq := hK q (by omega)
  dsimp only at hq
  show words_scanner_dated.l0 (q + 1) (p : Int) (i : Int) s x l e3 e4 = _
  unfold words_scanner_dated.l0
  rw [if_pos (by omega), if_pos (by omega), form_bt (by omega)]
  have e1 : wrap64 ((p : Int) + (i : Int)) = ((p + i : Nat) : Int) := by rw [wrI (by omega) (by omega)]; omega
  have e2 : wrap64 ((i : Int) + 1) = ((i + 1 : Nat) : Int) := by rw [wrI (by omega) (by omega)]; omega
  rw [e1, e2]
  unfold datedGo datedT
  by_cases h47 : i = 4 ∨ i = 7
  ·rw [if_pos h47, if_neg (by decide), if_pos rfl, if_pos h47]
   clear e1 e2
   by_cases hlt : p + i < s.size
   ·obtain ⟨b, hb⟩ := byte_some s hlt
    rw [if_neg (by omega), if_pos (by omega), if_pos (by omega), (bt_of s hb).1]
    unfold atP
    rw [hb]
    by_cases h45 : b.toNat = 45
    ·rw [if_pos (by omega), hq, if_pos (by simp [h45])]
    ·rw [if_neg (by omega), if_neg (by simp [h45])]
   ·rw [if_pos (by omega)]
    unfold atP
    rw [byte_none s hlt]
    rfl
  ·rw [if_neg h47, if_pos rfl, is_eval, Option.bind_some, isC_2, if_neg h47]
   cases hd : atP isDg s (p + i) with
   | true => rw [if_pos rfl, if_neg (by decide), if_pos rfl]; exact hq
   | false => rw [if_neg (by simp), if_neg (by simp)]
theorem dated_eval (s : ByteArray) (p : Nat) (hs : s.size ≤ 8000) (hp : p ≤ s.size) (x : Int) (l : Bool) (e3 e4 : Int) : Ev (fun k => words_scanner_dated.f k s x l e3 e4 (p : Int)) (datedB s p, s, x, l, e3, e4) := dated_loop s p hs hp x l e3 e4 10 0 rfl
theorem dated_st {w0 w W : World} {g : Nat} {s : ByteArray} {x : Int} {l : Bool} {e3 e4 : Int} (h : St w0 w W g s x l e3 e4) (hT : Tabs w0) (p : Nat) (hs : s.size ≤ 8000) (hp : p ≤ s.size) :
  Calls Tryz.prog 202 #[.pointer (some ⟨g, 0, none⟩), .int .i64 (p : Int)] W fun e w' => e = .returned (.bool (datedB s p)) ∧ St w0 w w' g s x l e3 e4 := by
 obtain ⟨K, hK⟩ := dated_eval s p hs hp x l e3 e4
 refine (words_scanner_dated.calls K g s x l e3 e4 (p : Int) _ _ _ _ _ _ w0 W hT h.i h.b (hK K (Nat.le_refl _))).mono ?_
 rintro e w2 ⟨rfl, hI2, hB2, hK2⟩
 exact ⟨rfl, h.call hI2 hB2 hK2⟩
def amountR (a b : List UInt8) : S57 × Bool := (⟨2, 0, ⟨#[]⟩, (digitsR (a ++ b)).1, 0⟩, (digitsR (a ++ b)).2 && decide (b.length = 2) && decide ((digitsR (a ++ b)).1 ≤ 9999999999999))
def countR (a : List UInt8) : S57 × Bool := (⟨3, 0, ⟨#[]⟩, (digitsR a).1, 0⟩, (digitsR a).2 && decide ((digitsR a).1 ≤ 1000000000))
theorem amount_calls (a b : ByteArray) (w : World) (hs : a.size + b.size ≤ 8000) (hda : ∀ x ∈ Ls a, isDg x = true) (hdb : ∀ x ∈ Ls b, isDg x = true) :
  Calls Tryz.prog 205 #[.string a, .string b] w (Gave w (amountR (Ls a) (Ls b))) := by
 obtain ⟨K, hK⟩ := digits_eval (Ls a ++ Ls b) (fun y hy => by rcases List.mem_append.1 hy with h | h; exact hda y h; exact hdb y h)
 have hd := hK K (Nat.le_refl _)
 dsimp only at hd
 rw [← bA_append] at hd
 have hd : words_digits.f K (a ++ b) = some (digitsR (Ls a ++ Ls b)) := hd
 have hf : words_amount.f K a b = some (2, 0, (⟨#[]⟩ : ByteArray), (amountR (Ls a) (Ls b)).1.f3, 0, (amountR (Ls a) (Ls b)).2) := by
  unfold words_amount.f
  rw [if_pos (by omega), hd, Option.bind_some]
  unfold amountR
  cases h2 : (digitsR (Ls a ++ Ls b)).2 with
  | true =>
   rw [if_pos rfl, Ls_len]
   by_cases h3 : b.size = 2
   ·rw [if_pos (by omega), h3]; simp
   ·rw [if_neg (by omega)]; simp [h3]
  | false => rw [if_neg (by simp)]; simp
 exact words_amount.calls K a b _ _ _ _ _ _ w hf
theorem count_calls (a : ByteArray) (w : World) (hda : ∀ x ∈ Ls a, isDg x = true) :
  Calls Tryz.prog 206 #[.string a] w (Gave w (countR (Ls a))) := by
 obtain ⟨K, hK⟩ := digits_eval (Ls a) hda
 have hd : words_digits.f K a = some (digitsR (Ls a)) := hK K (Nat.le_refl _)
 have hf : words_count.f K a = some (3, 0, (⟨#[]⟩ : ByteArray), (countR (Ls a)).1.f3, 0, (countR (Ls a)).2) := by
  unfold words_count.f
  rw [hd, Option.bind_some]
  unfold countR
  cases h2 : (digitsR (Ls a)).2 with
  | true => rw [if_pos rfl]; simp
  | false => rw [if_neg (by simp)]; simp
 exact words_count.calls K a _ _ _ _ _ _ w hf
end Go.Proofs.YtjlclkenfmbahaaGreatDoor.PA
