/- A list of texts that came in, the two Scans of every text, and WordsApart at every list. No condition. -/
import Derived.Test.YtjlclkenfmbahaaGreatDoorVHApart
import Derived.Test.YtjlclkenfmbahaaGreatDoorVS
import Derived.Test.YtjlclkenfmbahaaGreatDoorVG
import Derived.Deep.Slices
import Derived.ChangeArms
import Derived.Carry
import Derived.Test.YtjlclkenfmbahaaGreatDoorVPAx0
namespace Go.Proofs.YtjlclkenfmbahaaGreatDoor.Gr
open Go.RowKit Go.ChangeShapes Go.WideShapes Go.Proofs.YtjlclkenfmbahaaGreatDoorW.PrintWords Go.Proofs.YtjlclkenfmbahaaGreatDoorW.PrintLast Go.Proofs.YtjlclkenfmbahaaGreatDoor.PA
set_option linter.unusedVariables false
set_option linter.unusedSimpArgs false
theorem open_texts {H : Type} {enc : TypeId × Value → H} {W : World} {base : Nat} {spare : Nat → Bool} {held : Bool} {a : Option Addr} {len cap : Nat} {d : DataW H} {ps : List MemPlace} (h : DataW.Trod enc Tryz.prog W base spare held 59 (.slice a len cap) d ps) :
  ∃ zs : List ByteArray, zs.length = len ∧ Kd.C Kd.string W a len zs ∧ (∀ t ∈ zs, True) ∧ len ≤ cap := by
 obtain ⟨fuel, hf⟩ := h
 have hc1 : Tryz.prog.cellsOf 9 = 1 := by kernel_rfl
 rcases Go.Deep.open_slice1 Tryz.underlying59 hc1 hf with ⟨hcs, _⟩ | ⟨x, l, c, m, n, V, D, Pl, hcs, _, hl, hm, hmm, _, hx⟩
 ·simp [Value.cells] at hcs
  obtain ⟨rfl, rfl, rfl⟩ := hcs
  exact ⟨[], rfl, Kd.C_nil _ _, fun _ _ => trivial, Nat.le_refl _⟩
 ·simp [Value.cells] at hcs
  obtain ⟨rfl, rfl, rfl⟩ := hcs
  have hlm : len ≤ m := by rw [hmm]; split <;> omega
  have each : ∀ i, i < len → ∃ s : ByteArray, W.cell? (x.add i) = some (.string s) := fun i hi => by
   obtain ⟨h1, h2⟩ := hx i (by omega)
   obtain ⟨s, e, _, _⟩ := DataW.trod_string Tryz.underlying9 h2
   simp at e
   exact ⟨s, by rw [h1, e]⟩
  obtain ⟨q, hq⟩ := Go.Deep.choose_lt each
  have hmx : len ≤ 9223372036854775807 := by
   have e : maxLen = 9223372036854775807 := by unfold maxLen; rfl
   omega
  refine ⟨(List.range len).map q, by simp, Kd.C_of_reads (enc := Value.string) (d := ByteArray.empty) (h1 := fun _ => rfl) ⟨by simp, hmx, fun _ => ⟨x, rfl, fun j hj => ?_⟩⟩, fun _ _ => trivial, hl⟩
  rw [hq j hj, List.getD_eq_getElem?_getD]
  simp [hj]
theorem scan_short {s : ByteArray} {r : List S57 × Int × Int} (h : words_Scan.f s = some r) : r.1.length ≤ 90000 := by
 unfold words_Scan.f at h
 split at h
 ·cases h
  exact Nat.zero_le _
 ·obtain ⟨q, hq, h2⟩ := Option.bind_eq_some_iff.1 h
  have := Pure.runG_len _ hq
  cases h2
  show (if q.2.2.2.1 = 0 then q.1 else []).length ≤ _
  split
  ·omega
  ·exact Nat.zero_le _
theorem scan_every (s : ByteArray) : ∃ r1 r2 r3, PA.ScanBoth s r1 r2 r3 := by
 obtain ⟨⟨r1, r2, r3⟩, h1, K, hK⟩ := Pure.scan_both s
 have hl := scan_short h1
 obtain ⟨K2, hK2⟩ := same_refl r1 (by have : r1.length ≤ 90000 := hl; omega)
 exact ⟨r1, r2, r3, h1, ⟨K, hK K (Nat.le_refl _)⟩, hl, K2, hK2 K2 (Nat.le_refl _)⟩
theorem apart_walk (zs : List ByteArray) (a : Option Addr) (cap : Nat) (W : World) (hT : Tabs W) (hC : Kd.C Kd.string W a zs.length zs) (hin : ∀ t ∈ zs, True) (hcap : zs.length ≤ cap) :
  Calls Tryz.prog 4 #[.slice a zs.length cap] W fun e w' => e = .returned (.bool true) ∧ Below W.heap.size W w' :=
 apart_calls a cap zs W hT hC scan_every
end Go.Proofs.YtjlclkenfmbahaaGreatDoor.Gr
