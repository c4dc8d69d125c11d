/- The library's sort of strings at this seat; of none, walked. No condition. -/
import Derived.Test.YthneomomhoilkaaDoorMDkShelf
import Derived.Test.YthneomomhoilkaaDoorMDkNames
import Derived.Test.YthneomomhoilkaaDoorML
namespace Go.Proofs.YthneomomhoilkaaDoor.PA
open Go.RowKit Go.Maps Go.Sort Go.Proofs.YthneomomhoilkaaDoorW.PrintWords Go.Proofs.YthneomomhoilkaaDoorW.PrintLast Go.Proofs.YthneomomhoilkaaDoorW.PrintMore
set_option linter.unusedVariables false
set_option linter.unusedSimpArgs false
theorem sortC : SortC := fun blk cap ss w hH hb hs => Any.slices_Sort_string Tryd.lays190 blk 0 cap ss w hH hb hs
set_option maxRecDepth 100000 in
set_option maxHeartbeats 2000000 in
theorem ins_nil (w : World) : Calls Tryd.prog 59 #[.slice none 0 0, .int .i64 0, .int .i64 0] w fun e w' => e = .returned (.tuple #[]) ∧ w' = w := by
  go_enter Tryd.func59, Tryd.ntmps59
  go_wp2
  refine wp_loop_rounds 1 ?_
  rw [rounds_succ]
  go_wp2
  go_end0
  exact ⟨rfl, rfl⟩
set_option maxRecDepth 100000 in
set_option maxHeartbeats 2000000 in
theorem pdq_nil (k : Int) (w : World) : Calls Tryd.prog 51 #[.slice none 0 0, .int .i64 0, .int .i64 0, .int .i64 k] w fun e w' => e = .returned (.tuple #[]) ∧ w' = w := by
  go_enter Tryd.func51, Tryd.ntmps51
  go_wp2
  refine wp_loop_rounds 1 ?_
  rw [rounds_succ]
  go_wp2_with (go_at_call 59; refine (ins_nil _).mono ?_; rintro e w' ⟨rfl, rfl⟩)
  refine bodyPost_ret (results_none rfl _ _ _) rfl ?_
  exact ⟨rfl, rfl⟩
theorem sortNil : SortNil := by
  intro w
  have hLen : ∀ w, Calls Tryd.prog 52 #[.int .u64 0] w fun e w' => e = .returned (.int .i64 0) ∧ w' = w := fun w => by
    have h := calls_of_every_depth fun D => AnyS.bits_LenInS (Ly := { Tryd.lays190 with }) D 0 w (by omega) (by omega)
    exact h.mono fun e w' hh => ⟨hh.1, hh.2⟩
  go_enter Tryd.func40, Tryd.ntmps40
  go_wp2_with (first
    | (go_at_call 52; refine (hLen _).mono ?_; rintro e w' ⟨rfl, rfl⟩)
    | (go_at_call 51; refine (pdq_nil _ _).mono ?_; rintro e w' ⟨rfl, rfl⟩))
  go_end0
  exact ⟨rfl, rfl⟩
theorem pnames (b g m : Nat) (d : Dk) (gb : ByteArray → Nat) (ar : Bool) (u : Int) (col : RCol) (w : World) (hP : PDm b w col g d m gb ar u) (hd : d.Ok) :
    Calls Tryd.prog 26 #[.pointer (some ⟨g, 0, none⟩)] w fun e w' => NmPost w w' e d.fs := names_calls sortC sortNil b g m d gb ar u col w hP hd
end Go.Proofs.YthneomomhoilkaaDoor.PA
