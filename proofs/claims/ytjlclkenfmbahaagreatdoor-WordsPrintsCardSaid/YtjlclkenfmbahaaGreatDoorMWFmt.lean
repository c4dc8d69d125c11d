/- strconv.FormatUint at base 10 (after the shelf's FormatInt): every uint64's numeral. Condition: the world holds the library's table of powers of ten. -/
import Derived.Test.YtjlclkenfmbahaaGreatDoorMC
import Derived.Test.YtjlclkenfmbahaaGreatDoorMPAx0
import Derived.Lib.AppendIntMem
import Derived.BigCall
import Derived.BigGuard
namespace Go.Proofs.YtjlclkenfmbahaaGreatDoor.PA
open Go.Shelf Go.RowKit Go.Sort Go.Lib
set_option linter.unusedVariables false
set_option linter.unusedSimpArgs false
set_option maxHeartbeats 6400000 in
set_option maxRecDepth 100000 in
theorem innerFormatUint (u : Nat) (hu64 : u < 18446744073709551616) (w : World) (htab : Lib.TabIs Tryz.prog w "internal/strconv.uint64pow10" .u64 Lib.pow10Tab) :
  Calls Tryz.prog 187 #[.int .u64 u, .int .i64 10] w fun e w' => e = .returned (.string ⟨(Lib.decDigits u).toArray⟩) ∧ ∃ k os, w' = grow (w.drewN k) os := by
 by_cases hi : u < 100
 ·have c1 : (u : Int) < 100 := by omega
  have cv : IntKind.i64.wrap (u : Int) = (u : Int) := by rw [IntKind.wrap_i64]; omega
  go_enter Tryz.func187, Tryz.ntmps187
  go_wp2_with (go_at_call 188; refine (Any.internal_strconv_small Tryz.lays283 u hi _).mono ?_; rintro e w' ⟨rfl, rfl⟩)
  go_ret
  refine ⟨?_, 0, #[], by simp [World.drewN_zero]⟩
  rfl
 ·have c1 : ¬ (u : Int) < 100 := by omega
  have hu1 : 1 ≤ u := by omega
  have hnd20 : Lib.nDigits u ≤ 20 := by have := Lib.numDigits_eq u hu1 hu64; split at this <;> omega
  have hal : Tryz.prog.arrayLen 213 = 24 := by simp [Program.arrayLen, Tryz.underlying213]
  have hsl1 : ∀ W, (Instr.sliceAt 213 (.pointer (some ⟨w.heap.size, 0, none⟩)) none (some (.int .i64 (Lib.nDigits u : Int))) none).run Tryz.prog W = .ok (.slice (some ⟨w.heap.size, 0, none⟩) (Lib.nDigits u) 24) W := fun W => by
   rw [run_sliceAt_array_h W 213 ⟨w.heap.size, 0, none⟩ (by simp [Program.arrayLen, Program.elem, Tryz.underlying213]) .i64 (Lib.nDigits u : Int) (by omega) (by rw [hal]; omega)]
   go_simp
  have hH0 := Lib.holds_zero0 w 213 (Lib.nDigits u) (by omega)
  have hfmt := Any.internal_strconv_formatBase10 Tryz.lays285 w.heap.size 0 24 u (Array.replicate (Lib.nDigits u) 0) (w.alloc (.cells Lib.zeros24 213)) hH0 (by rw [Array.size_replicate]; exact Lib.lt_pow_nDigits u) hu64 (by rw [Array.size_replicate]; omega)
  rw [Array.size_replicate] at hfmt
  have HH0 := Lib.hid hH0
  clear hH0 hal
  go_enter Tryz.func187, Tryz.ntmps187
  go_wp2_with (first
   | (go_at_call 189; refine (Any.internal_strconv_numDigits Tryz.lays284 u hu1 hu64 _ (Lib.tabIs_alloc htab _)).mono ?_; rintro e w' ⟨rfl, rfl⟩))
  go_at_call 190
  refine hfmt.mono ?_
  rintro e w' ⟨rfl, k, v', dk, rfl, hF⟩
  have hcv : (convert 76 9 (.slice (some ⟨w.heap.size, 0, none⟩) (Lib.nDigits u) 24)).run Tryz.prog ((putRow (fun (b : UInt8) => Value.int .u8 (b.toNat : Int)) (w.alloc (.cells Lib.zeros24 213)) w.heap.size 0 dk).drewN k) = .ok (.string ⟨(Lib.decDigits u).toArray⟩) ((putRow (fun (b : UInt8) => Value.int .u8 (b.toNat : Int)) (w.alloc (.cells Lib.zeros24 213)) w.heap.size 0 dk).drewN k) := by
   have h := run_convert_bytes_back (P := Tryz.prog) ((putRow (fun (b : UInt8) => Value.int .u8 (b.toNat : Int)) (w.alloc (.cells Lib.zeros24 213)) w.heap.size 0 dk).drewN k) 76 9 5 ⟨w.heap.size, 0, none⟩ 24 (Lib.decDigits u) Tryz.underlying76 Tryz.underlying5 Tryz.underlying9 (fun j hj => by
    rw [Lib.row_is_numeral hF j hj, Lib.add_plain, World.cell?_drewN]
    exact cell?_putRow (fun (b : UInt8) => Value.int .u8 (b.toNat : Int)) _ w.heap.size 0 _ dk HH0.out (by rw [hF.size, Array.size_replicate]) j (by rw [hF.size]; rw [Lib.decDigits_length] at hj; exact hj))
   rw [Lib.decDigits_length] at h
   exact h
  go_wp2
  go_ret
  obtain ⟨os, eo⟩ := Lib.fin_at w (.cells Lib.zeros24 213) dk k 0
  refine ⟨?_, k, os, eo⟩
  rfl
theorem formatUint (u : Nat) (hu64 : u < 18446744073709551616) (w : World) (htab : Lib.TabIs Tryz.prog w "internal/strconv.uint64pow10" .u64 Lib.pow10Tab) :
  Calls Tryz.prog 116 #[.int .u64 u, .int .i64 10] w fun e w' => e = .returned (.string ⟨(Lib.decDigits u).toArray⟩) ∧ ∃ k os, w' = grow (w.drewN k) os := by
 go_enter Tryz.func116, Tryz.ntmps116
 go_wp2_with (go_at_call 187; refine (innerFormatUint u hu64 _ htab).mono ?_; rintro e w' ⟨rfl, h⟩)
 go_ret
 exact ⟨rfl, h⟩
theorem formatInt (n : Int) (h0 : -9223372036854775808 ≤ n) (h1 : n ≤ 9223372036854775807) (w : World) (htab : Lib.TabIs Tryz.prog w "internal/strconv.uint64pow10" .u64 Lib.pow10Tab) :
  Calls Tryz.prog 77 #[.int .i64 n, .int .i64 10] w fun e w' => e = .returned (.string ⟨(Lib.itoa n).toArray⟩) ∧ ∃ k os, w' = grow (w.drewN k) os :=
 Any.strconv_FormatInt_10 Tryz.lays173 n h0 h1 w htab
theorem trimRight (s : ByteArray) (c : UInt8) (hc : c.toNat < 128) (w : World) (hs : s.size ≤ 9223372036854775807) :
  Calls Tryz.prog 118 #[.string s, .string ⟨#[c]⟩] w fun e w' => e = .returned (.string ⟨(Lib.trimRightB s.data.toList c).toArray⟩) ∧ w' = w :=
 Any.strings_TrimRight_one Tryz.lays162 s c hc w hs
def strconv_FormatInt_77.f (n b : Int) : Option ByteArray := if b = 10 ∧ -9223372036854775808 ≤ n ∧ n ≤ 9223372036854775807 then some ⟨(Lib.itoa n).toArray⟩ else none
theorem strconv_FormatInt_77.calls (a0 a1 : Int) (r : ByteArray) (w : World) (hT : Tabs w) (h : strconv_FormatInt_77.f a0 a1 = some r) :
  Calls Tryz.prog 77 #[.int .i64 a0, .int .i64 a1] w fun e w' => e = .returned (.string r) ∧ Below w.heap.size w w' := by
 unfold strconv_FormatInt_77.f at h
 split at h
 case isFalse => cases h
 case isTrue hc =>
 obtain ⟨rfl, h0, h1⟩ := hc
 obtain rfl := Option.some.inj h
 refine (formatInt a0 h0 h1 w hT.pow).mono ?_
 rintro e w' ⟨rfl, k, os, rfl⟩
 exact ⟨rfl, Lib.below_grow _ w (Nat.le_refl _) k os⟩
def strconv_FormatUint_116.f (n b : Int) : Option ByteArray := if b = 10 ∧ 0 ≤ n ∧ n < 18446744073709551616 then some ⟨(Lib.decDigits n.toNat).toArray⟩ else none
theorem strconv_FormatUint_116.calls (a0 a1 : Int) (r : ByteArray) (w : World) (hT : Tabs w) (h : strconv_FormatUint_116.f a0 a1 = some r) :
  Calls Tryz.prog 116 #[.int .u64 a0, .int .i64 a1] w fun e w' => e = .returned (.string r) ∧ Below w.heap.size w w' := by
 unfold strconv_FormatUint_116.f at h
 split at h
 case isFalse => cases h
 case isTrue hc =>
 obtain ⟨rfl, h0, h1⟩ := hc
 obtain rfl := Option.some.inj h
 obtain ⟨u, rfl⟩ : ∃ u : Nat, a0 = u := ⟨a0.toNat, by omega⟩
 rw [Int.toNat_natCast]
 refine (formatUint u (by omega) w hT.pow).mono ?_
 rintro e w' ⟨rfl, k, os, rfl⟩
 exact ⟨rfl, Lib.below_grow _ w (Nat.le_refl _) k os⟩
def strings_TrimRight.f (s c : ByteArray) : Option ByteArray := if c = ⟨#[48]⟩ ∧ s.size ≤ 9223372036854775807 then some ⟨(Lib.trimRightB s.data.toList 48).toArray⟩ else none
theorem strings_TrimRight.calls (s c r : ByteArray) (w : World) (h : strings_TrimRight.f s c = some r) :
  Calls Tryz.prog 118 #[.string s, .string c] w fun e w' => e = .returned (.string r) ∧ Below w.heap.size w w' := by
 unfold strings_TrimRight.f at h
 split at h
 case isFalse => cases h
 case isTrue hc =>
 obtain ⟨rfl, h0⟩ := hc
 obtain rfl := Option.some.inj h
 refine (trimRight s 48 (by decide) w h0).mono ?_
 rintro e w' ⟨rfl, rfl⟩
 exact ⟨rfl, Below.refl _ _⟩
end Go.Proofs.YtjlclkenfmbahaaGreatDoor.PA
