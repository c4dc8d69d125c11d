/- strings.TrimLeft at the cutset "0", in the print's words. Condition: none beyond that cutset. -/
import Derived.Test.YtjlclkenfmbahaaGreatDoorVScShelf
import Derived.Test.YtjlclkenfmbahaaGreatDoorVPAx0
namespace Go.Proofs.YtjlclkenfmbahaaGreatDoor.PA
open Go.Shelf Go.RowKit
set_option linter.unusedVariables false
def strings_TrimLeft.f (s c : ByteArray) : Option ByteArray := if c = ⟨#[48]⟩ then some ⟨(Lib.trimLeftB s.data.toList 48).toArray⟩ else none
theorem strings_TrimLeft.calls (s c r : ByteArray) (w : World) (h : strings_TrimLeft.f s c = some r) :
  Calls Tryz.prog 231 #[.string s, .string c] w fun e w' => e = .returned (.string r) ∧ Below w.heap.size w w' := by
 unfold strings_TrimLeft.f at h
 split at h
 case isFalse => cases h
 case isTrue hc =>
 obtain rfl := hc
 obtain rfl := Option.some.inj h
 refine (Any.strings_TrimLeft_one Tryz.lays161 s 48 (by decide) w).mono ?_
 rintro e w' ⟨rfl, rfl⟩
 exact ⟨rfl, Below.refl _ _⟩
end Go.Proofs.YtjlclkenfmbahaaGreatDoor.PA
