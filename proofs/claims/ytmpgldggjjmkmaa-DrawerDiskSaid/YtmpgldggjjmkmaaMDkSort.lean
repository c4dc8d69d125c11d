/- The library's sort of strings at this seat; of none, walked. No condition. -/
import Derived.Test.YtmpgldggjjmkmaaMDkShelf
import Derived.Test.YtmpgldggjjmkmaaMDkNames
import Derived.Test.YtmpgldggjjmkmaaML
namespace Go.Proofs.Ytmpgldggjjmkmaa.PA
open Go.RowKit Go.Maps Go.Sort Go.Proofs.YtmpgldggjjmkmaaW.PrintWords Go.Proofs.YtmpgldggjjmkmaaW.PrintLast Go.Proofs.YtmpgldggjjmkmaaW.PrintMore
set_option linter.unusedVariables false
set_option linter.unusedSimpArgs false
theorem sortC : SortC := fun blk cap ss w hH hb hs => Any.slices_Sort_string Try.lays190 blk 0 cap ss w hH hb hs
set_option maxRecDepth 100000 in
set_option maxHeartbeats 2000000 in
theorem ins_nil (w : World) : Calls Try.prog 77 #[.slice none 0 0, .int .i64 0, .int .i64 0] w fun e w' => e = .returned (.tuple #[]) ∧ w' = w := by
  go_enter Try.func77, Try.ntmps77
  go_wp2
  refine wp_loop_rounds 1 ?_
  rw [rounds_succ]
  go_wp2
  go_end0
  exact ⟨rfl, rfl⟩
set_option maxRecDepth 100000 in
set_option maxHeartbeats 2000000 in
theorem pdq_nil (k : Int) (w : World) : Calls Try.prog 75 #[.slice none 0 0, .int .i64 0, .int .i64 0, .int .i64 k] w fun e w' => e = .returned (.tuple #[]) ∧ w' = w := by
  go_enter Try.func75, Try.ntmps75
  go_wp2
  refine wp_loop_rounds 1 ?_
  rw [rounds_succ]
  go_wp2_with (go_at_call 77; refine (ins_nil _).mono ?_; rintro e w' ⟨rfl, rfl⟩)
  refine bodyPost_ret (results_none rfl _ _ _) rfl ?_
  exact ⟨rfl, rfl⟩
theorem sortNil : SortNil := by
  intro w
  have hLen : ∀ w, Calls Try.prog 76 #[.int .u64 0] w fun e w' => e = .returned (.int .i64 0) ∧ w' = w := fun w => by
    have h := calls_of_every_depth fun D => AnyS.bits_LenInS (Ly := { Try.lays190 with }) D 0 w (by omega) (by omega)
    exact h.mono fun e w' hh => ⟨hh.1, hh.2⟩
  go_enter Try.func73, Try.ntmps73
  go_wp2_with (first
    | (go_at_call 76; refine (hLen _).mono ?_; rintro e w' ⟨rfl, rfl⟩)
    | (go_at_call 75; refine (pdq_nil _ _).mono ?_; rintro e w' ⟨rfl, rfl⟩))
  go_end0
  exact ⟨rfl, rfl⟩
theorem pnames (b g m : Nat) (d : Dk) (gb : ByteArray → Nat) (ar : Bool) (u : Int) (col : RCol) (w : World) (hP : PDm b w col g d m gb ar u) (hd : d.Ok) :
    Calls Try.prog 34 #[.pointer (some ⟨g, 0, none⟩)] w fun e w' => NmPost w w' e d.fs := names_calls sortC sortNil b g m d gb ar u col w hP hd
end Go.Proofs.Ytmpgldggjjmkmaa.PA
