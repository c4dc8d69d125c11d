/- The book's marks, grows and done: what is due is written over and laid on, kind by kind. Condition: the book is as KpSt has it, only lists of tokens have come. -/
import Derived.Test.YtjlclkenfmbahaaGreatDoorVKpMark
import Derived.Test.YtjlclkenfmbahaaGreatDoorVKpGrow
namespace Go.Proofs.YtjlclkenfmbahaaGreatDoor.PA
open Go.RowKit Go.Maps Go.Proofs.YtjlclkenfmbahaaGreatDoorW.PrintWords Go.Proofs.YtjlclkenfmbahaaGreatDoorW.PrintLast Go.Proofs.YtjlclkenfmbahaaGreatDoorW.PrintMore
set_option linter.unusedVariables false
set_option linter.unusedSimpArgs false
set_option maxRecDepth 100000
set_option maxHeartbeats 4000000
variable {PS : List (Value × List S57)}
theorem MkPost.go {b : Nat} {W w1 w2 : World} {G : Nat} {deep turn seen : Int} {os : List Ot} {ws : List Wt} (h : MkPost PS b W G deep turn seen os ws w1) (hB : Below w1.heap.size w1 w2) : MkPost PS b W G deep turn seen os ws w2 := by
 obtain ⟨os', ws', fs', col', cg', h1, h2, h3, h4, h5⟩ := h
 exact ⟨os', ws', fs', col', cg', h1, h2, h3.go h3.le hB, h4.ms (Ms.of_below hB h3.le), h5.trans (hB.mono h3.le)⟩
theorem MkPost.nil {b : Nat} {W w1 : World} {G : Nat} {deep turn seen : Int} {os : List Ot} {ws : List Wt} (h : MkPost PS b W G deep turn seen os ws w1) : ∃ cg, w1.heap[G]? = some (.cells cg 66 (0, 0)) ∧ Nils cg := by
 obtain ⟨os', ws', fs', col', cg', h1, h2, h3, h4, h5⟩ := h
 exact ⟨cg', h3.bo.blk, h3.nils⟩
theorem MkPost.base {b : Nat} {W W1 w1 : World} {G : Nat} {deep turn seen : Int} {os : List Ot} {ws : List Wt} (h : MkPost PS b W1 G deep turn seen os ws w1) (hB : Below b W W1) : MkPost PS b W G deep turn seen os ws w1 := by
 obtain ⟨os', ws', fs', col', cg', h1, h2, h3, h4, h5⟩ := h
 exact ⟨os', ws', fs', col', cg', h1, h2, h3, h4, hB.trans h5⟩
def BkOk (PS : List (Value × List S57)) (b : Nat) (W : World) (G : Nat) (deep turn seen : Int) (n : Nat) (w' : World) : Prop :=
 ∃ os ws col cg, os.length + 2 * ws.length ≤ n ∧ RB b w' col G cg deep turn seen (stdR os ws []) ∧ Ct PS b w' col os ws [] ∧ Below b W w'
theorem BkOk.go {b : Nat} {W w1 w2 : World} {G : Nat} {deep turn seen : Int} {n : Nat} (h : BkOk PS b W G deep turn seen n w1) (hB : Below w1.heap.size w1 w2) : BkOk PS b W G deep turn seen n w2 := by
 obtain ⟨os', ws', col', cg', h1, h3, h4, h5⟩ := h
 exact ⟨os', ws', col', cg', h1, h3.go h3.le hB, h4.ms (Ms.of_below hB h3.le), h5.trans (hB.mono h3.le)⟩
theorem BkOk.nil {b : Nat} {W w1 : World} {G : Nat} {deep turn seen : Int} {n : Nat} (h : BkOk PS b W G deep turn seen n w1) : ∃ cg, w1.heap[G]? = some (.cells cg 66 (0, 0)) ∧ Nils cg := by
 obtain ⟨os', ws', col', cg', h1, h3, h4, h5⟩ := h
 exact ⟨cg', h3.bo.blk, h3.nils⟩
theorem BkOk.base {b : Nat} {W W1 w1 : World} {G : Nat} {deep turn seen : Int} {n : Nat} (h : BkOk PS b W1 G deep turn seen n w1) (hB : Below b W W1) : BkOk PS b W G deep turn seen n w1 := by
 obtain ⟨os', ws', col', cg', h1, h3, h4, h5⟩ := h
 exact ⟨os', ws', col', cg', h1, h3, h4, hB.trans h5⟩
theorem marks_calls {b : Nat} {W : World} {col : Col} {G : Nat} {cg : Array Value} {deep turn seen : Int} {os : List Ot} {ws : List Wt} (h : RB b W col G cg deep turn seen (stdR os ws [])) (hc : Ct PS b W col os ws []) (hlo : os.length + ws.length ≤ 1000) :
  Calls Tryz.prog 86 #[.pointer (some ⟨G, 0, none⟩)] W fun e w' => e = .returned (.tuple #[]) ∧ MkPost PS b W G deep turn seen os ws w' := by
 have HR := Aside0.mk h
 have HC := Aside0.mk hc
 have HB := Aside0.mk (Below.refl W.heap.size W)
 clear h hc
 go_enter Tryz.func86, Tryz.ntmps86
 go_wp2_with (first
  | (go_at_call 136; (with_reducible refine (markBytes_calls G cg _ (HR.out.go HR.out.le HB.out).bo.blk HR.out.nils).mono ?_); rintro e w2 ⟨rfl, hb⟩; have n0_ := Aside0.mk (HB.out.trans (hb.mono HB.out.size)); clear HB hb; have HB := n0_; clear n0_)
  | (go_at_call 137; (with_reducible refine (markInts_calls G cg _ (HR.out.go HR.out.le HB.out).bo.blk HR.out.nils).mono ?_); rintro e w2 ⟨rfl, hb⟩; have n0_ := Aside0.mk (HB.out.trans (hb.mono HB.out.size)); clear HB hb; have HB := n0_; clear n0_)
  | (go_at_call 138; (with_reducible refine (markCells_calls G cg _ (HR.out.go HR.out.le HB.out).bo.blk HR.out.nils).mono ?_); rintro e w2 ⟨rfl, hb⟩; have n0_ := Aside0.mk (HB.out.trans (hb.mono HB.out.size)); clear HB hb; have HB := n0_; clear n0_)
  | (go_at_call 139; (with_reducible refine (markBools_calls G cg _ (HR.out.go HR.out.le HB.out).bo.blk HR.out.nils).mono ?_); rintro e w2 ⟨rfl, hb⟩; have n0_ := Aside0.mk (HB.out.trans (hb.mono HB.out.size)); clear HB hb; have HB := n0_; clear n0_)
  | (go_at_call 140; (with_reducible refine (markTexts_calls G cg _ (HR.out.go HR.out.le HB.out).bo.blk HR.out.nils).mono ?_); rintro e w2 ⟨rfl, hb⟩; have n0_ := Aside0.mk (HB.out.trans (hb.mono HB.out.size)); clear HB hb; have HB := n0_; clear n0_)
  | (go_at_call 141; (with_reducible refine (markValues_calls G cg _ (HR.out.go HR.out.le HB.out).bo.blk HR.out.nils).mono ?_); rintro e w2 ⟨rfl, hb⟩; have n0_ := Aside0.mk (HB.out.trans (hb.mono HB.out.size)); clear HB hb; have HB := n0_; clear n0_)
  | (go_at_call 142; (with_reducible refine (markBands_calls G cg _ (HR.out.go HR.out.le HB.out).bo.blk HR.out.nils).mono ?_); rintro e w2 ⟨rfl, hb⟩; have n0_ := Aside0.mk (HB.out.trans (hb.mono HB.out.size)); clear HB hb; have HB := n0_; clear n0_)
  | (go_at_call 143; (with_reducible refine (markT_calls (HR.out.go HR.out.le HB.out) (HC.out.ms (Ms.of_below HB.out HR.out.le)) hlo).mono ?_); rintro e w2 ⟨rfl, hp⟩; have HP := Aside0.mk (hp.base (HB.out.mono HR.out.le)); clear hp HB)
  | (go_at_call 144; (with_reducible refine (markEntries_calls G _ _ HP.out.nil.choose_spec.1 HP.out.nil.choose_spec.2).mono ?_); rintro e w2 ⟨rfl, hb⟩; have n0_ := Aside0.mk (HP.out.go hb); clear HP hb; have HP := n0_; clear n0_)
  | (go_at_call 145; (with_reducible refine (markChanges_calls G _ _ HP.out.nil.choose_spec.1 HP.out.nil.choose_spec.2).mono ?_); rintro e w2 ⟨rfl, hb⟩; have n0_ := Aside0.mk (HP.out.go hb); clear HP hb; have HP := n0_; clear n0_)
  | (go_at_call 146; (with_reducible refine (markReads_calls G _ _ HP.out.nil.choose_spec.1 HP.out.nil.choose_spec.2).mono ?_); rintro e w2 ⟨rfl, hb⟩; have n0_ := Aside0.mk (HP.out.go hb); clear HP hb; have HP := n0_; clear n0_)
  | (go_at_call 147; (with_reducible refine (markFindings_calls G _ _ HP.out.nil.choose_spec.1 HP.out.nil.choose_spec.2).mono ?_); rintro e w2 ⟨rfl, hb⟩; have n0_ := Aside0.mk (HP.out.go hb); clear HP hb; have HP := n0_; clear n0_)
  | (go_at_call 148; (with_reducible refine (markConflicts_calls G _ _ HP.out.nil.choose_spec.1 HP.out.nil.choose_spec.2).mono ?_); rintro e w2 ⟨rfl, hb⟩; have n0_ := Aside0.mk (HP.out.go hb); clear HP hb; have HP := n0_; clear n0_)
  | (go_at_call 149; (with_reducible refine (markPoints_calls G _ _ HP.out.nil.choose_spec.1 HP.out.nil.choose_spec.2).mono ?_); rintro e w2 ⟨rfl, hb⟩; have n0_ := Aside0.mk (HP.out.go hb); clear HP hb; have HP := n0_; clear n0_)
  | (go_at_call 150; (with_reducible refine (markNodes_calls G _ _ HP.out.nil.choose_spec.1 HP.out.nil.choose_spec.2).mono ?_); rintro e w2 ⟨rfl, hb⟩; have n0_ := Aside0.mk (HP.out.go hb); clear HP hb; have HP := n0_; clear n0_)
  | (go_at_call 151; (with_reducible refine (markRecords_calls G _ _ HP.out.nil.choose_spec.1 HP.out.nil.choose_spec.2).mono ?_); rintro e w2 ⟨rfl, hb⟩; have n0_ := Aside0.mk (HP.out.go hb); clear HP hb; have HP := n0_; clear n0_)
  | (go_at_call 152; (with_reducible refine (markFiles_calls G _ _ HP.out.nil.choose_spec.1 HP.out.nil.choose_spec.2).mono ?_); rintro e w2 ⟨rfl, hb⟩; have n0_ := Aside0.mk (HP.out.go hb); clear HP hb; have HP := n0_; clear n0_)
  | (go_at_call 153; (with_reducible refine (markExprs_calls G _ _ HP.out.nil.choose_spec.1 HP.out.nil.choose_spec.2).mono ?_); rintro e w2 ⟨rfl, hb⟩; have n0_ := Aside0.mk (HP.out.go hb); clear HP hb; have HP := n0_; clear n0_)
  | (go_at_call 154; (with_reducible refine (markClauses_calls G _ _ HP.out.nil.choose_spec.1 HP.out.nil.choose_spec.2).mono ?_); rintro e w2 ⟨rfl, hb⟩; have n0_ := Aside0.mk (HP.out.go hb); clear HP hb; have HP := n0_; clear n0_)
  | (go_at_call 155; (with_reducible refine (markLines_calls G _ _ HP.out.nil.choose_spec.1 HP.out.nil.choose_spec.2).mono ?_); rintro e w2 ⟨rfl, hb⟩; have n0_ := Aside0.mk (HP.out.go hb); clear HP hb; have HP := n0_; clear n0_)
  | (go_at_call 156; (with_reducible refine (markChecks_calls G _ _ HP.out.nil.choose_spec.1 HP.out.nil.choose_spec.2).mono ?_); rintro e w2 ⟨rfl, hb⟩; have n0_ := Aside0.mk (HP.out.go hb); clear HP hb; have HP := n0_; clear n0_)
  | (go_at_call 157; (with_reducible refine (markOptions_calls G _ _ HP.out.nil.choose_spec.1 HP.out.nil.choose_spec.2).mono ?_); rintro e w2 ⟨rfl, hb⟩; have n0_ := Aside0.mk (HP.out.go hb); clear HP hb; have HP := n0_; clear n0_)
  | (go_at_call 158; (with_reducible refine (markTables_calls G _ _ HP.out.nil.choose_spec.1 HP.out.nil.choose_spec.2).mono ?_); rintro e w2 ⟨rfl, hb⟩; have n0_ := Aside0.mk (HP.out.go hb); clear HP hb; have HP := n0_; clear n0_)
  | (go_at_call 159; (with_reducible refine (markGroups_calls G _ _ HP.out.nil.choose_spec.1 HP.out.nil.choose_spec.2).mono ?_); rintro e w2 ⟨rfl, hb⟩; have n0_ := Aside0.mk (HP.out.go hb); clear HP hb; have HP := n0_; clear n0_))
 first | exact bodyPost_end rfl rfl ⟨rfl, HP.out⟩ | refine bodyPost_ret (results_nil rfl _ _) rfl ⟨rfl, HP.out⟩
theorem grows_calls {b : Nat} {W : World} {col : Col} {G : Nat} {cg : Array Value} {deep turn seen : Int} {os : List Ot} {ws fs : List Wt} {n : Nat} (h : RB b W col G cg deep turn seen (stdR os ws fs)) (hc : Ct PS b W col os ws fs) (hlo : os.length + fs.length ≤ 1000) (hn : os.length + fs.length + 2 * ws.length ≤ n) :
  Calls Tryz.prog 87 #[.pointer (some ⟨G, 0, none⟩)] W fun e w' => e = .returned (.tuple #[]) ∧ BkOk PS b W G deep turn seen n w' := by
 have HR := Aside0.mk h
 have HC := Aside0.mk hc
 have HB := Aside0.mk (Below.refl W.heap.size W)
 have HN := Aside0.mk hn
 clear h hc hn
 go_enter Tryz.func87, Tryz.ntmps87
 go_wp2_with (first
  | (go_at_call 160; (with_reducible refine (growBytes_calls G cg _ (HR.out.go HR.out.le HB.out).bo.blk HR.out.nils).mono ?_); rintro e w2 ⟨rfl, hb⟩; have n0_ := Aside0.mk (HB.out.trans (hb.mono HB.out.size)); clear HB hb; have HB := n0_; clear n0_)
  | (go_at_call 161; (with_reducible refine (growInts_calls G cg _ (HR.out.go HR.out.le HB.out).bo.blk HR.out.nils).mono ?_); rintro e w2 ⟨rfl, hb⟩; have n0_ := Aside0.mk (HB.out.trans (hb.mono HB.out.size)); clear HB hb; have HB := n0_; clear n0_)
  | (go_at_call 162; (with_reducible refine (growCells_calls G cg _ (HR.out.go HR.out.le HB.out).bo.blk HR.out.nils).mono ?_); rintro e w2 ⟨rfl, hb⟩; have n0_ := Aside0.mk (HB.out.trans (hb.mono HB.out.size)); clear HB hb; have HB := n0_; clear n0_)
  | (go_at_call 163; (with_reducible refine (growBools_calls G cg _ (HR.out.go HR.out.le HB.out).bo.blk HR.out.nils).mono ?_); rintro e w2 ⟨rfl, hb⟩; have n0_ := Aside0.mk (HB.out.trans (hb.mono HB.out.size)); clear HB hb; have HB := n0_; clear n0_)
  | (go_at_call 164; (with_reducible refine (growTexts_calls G cg _ (HR.out.go HR.out.le HB.out).bo.blk HR.out.nils).mono ?_); rintro e w2 ⟨rfl, hb⟩; have n0_ := Aside0.mk (HB.out.trans (hb.mono HB.out.size)); clear HB hb; have HB := n0_; clear n0_)
  | (go_at_call 165; (with_reducible refine (growValues_calls G cg _ (HR.out.go HR.out.le HB.out).bo.blk HR.out.nils).mono ?_); rintro e w2 ⟨rfl, hb⟩; have n0_ := Aside0.mk (HB.out.trans (hb.mono HB.out.size)); clear HB hb; have HB := n0_; clear n0_)
  | (go_at_call 166; (with_reducible refine (growBands_calls G cg _ (HR.out.go HR.out.le HB.out).bo.blk HR.out.nils).mono ?_); rintro e w2 ⟨rfl, hb⟩; have n0_ := Aside0.mk (HB.out.trans (hb.mono HB.out.size)); clear HB hb; have HB := n0_; clear n0_)
  | (go_at_call 167; (with_reducible refine (growT_calls (HR.out.go HR.out.le HB.out) (HC.out.ms (Ms.of_below HB.out HR.out.le)) hlo).mono ?_); rintro e w2 ⟨rfl, os2, col2, cg2, h1, h2, h3, h4⟩; have HP : Aside0 (BkOk PS b W G deep turn seen n w2) := ⟨⟨os2, ws, col2, cg2, by have := HN.out; omega, h2, h3, (HB.out.mono HR.out.le).trans h4⟩⟩; clear h1 h2 h3 h4 HB)
  | (go_at_call 168; (with_reducible refine (growEntries_calls G _ _ HP.out.nil.choose_spec.1 HP.out.nil.choose_spec.2).mono ?_); rintro e w2 ⟨rfl, hb⟩; have n0_ := Aside0.mk (HP.out.go hb); clear HP hb; have HP := n0_; clear n0_)
  | (go_at_call 169; (with_reducible refine (growChanges_calls G _ _ HP.out.nil.choose_spec.1 HP.out.nil.choose_spec.2).mono ?_); rintro e w2 ⟨rfl, hb⟩; have n0_ := Aside0.mk (HP.out.go hb); clear HP hb; have HP := n0_; clear n0_)
  | (go_at_call 170; (with_reducible refine (growReads_calls G _ _ HP.out.nil.choose_spec.1 HP.out.nil.choose_spec.2).mono ?_); rintro e w2 ⟨rfl, hb⟩; have n0_ := Aside0.mk (HP.out.go hb); clear HP hb; have HP := n0_; clear n0_)
  | (go_at_call 171; (with_reducible refine (growFindings_calls G _ _ HP.out.nil.choose_spec.1 HP.out.nil.choose_spec.2).mono ?_); rintro e w2 ⟨rfl, hb⟩; have n0_ := Aside0.mk (HP.out.go hb); clear HP hb; have HP := n0_; clear n0_)
  | (go_at_call 172; (with_reducible refine (growConflicts_calls G _ _ HP.out.nil.choose_spec.1 HP.out.nil.choose_spec.2).mono ?_); rintro e w2 ⟨rfl, hb⟩; have n0_ := Aside0.mk (HP.out.go hb); clear HP hb; have HP := n0_; clear n0_)
  | (go_at_call 173; (with_reducible refine (growPoints_calls G _ _ HP.out.nil.choose_spec.1 HP.out.nil.choose_spec.2).mono ?_); rintro e w2 ⟨rfl, hb⟩; have n0_ := Aside0.mk (HP.out.go hb); clear HP hb; have HP := n0_; clear n0_)
  | (go_at_call 174; (with_reducible refine (growNodes_calls G _ _ HP.out.nil.choose_spec.1 HP.out.nil.choose_spec.2).mono ?_); rintro e w2 ⟨rfl, hb⟩; have n0_ := Aside0.mk (HP.out.go hb); clear HP hb; have HP := n0_; clear n0_)
  | (go_at_call 175; (with_reducible refine (growRecords_calls G _ _ HP.out.nil.choose_spec.1 HP.out.nil.choose_spec.2).mono ?_); rintro e w2 ⟨rfl, hb⟩; have n0_ := Aside0.mk (HP.out.go hb); clear HP hb; have HP := n0_; clear n0_)
  | (go_at_call 176; (with_reducible refine (growFiles_calls G _ _ HP.out.nil.choose_spec.1 HP.out.nil.choose_spec.2).mono ?_); rintro e w2 ⟨rfl, hb⟩; have n0_ := Aside0.mk (HP.out.go hb); clear HP hb; have HP := n0_; clear n0_)
  | (go_at_call 177; (with_reducible refine (growExprs_calls G _ _ HP.out.nil.choose_spec.1 HP.out.nil.choose_spec.2).mono ?_); rintro e w2 ⟨rfl, hb⟩; have n0_ := Aside0.mk (HP.out.go hb); clear HP hb; have HP := n0_; clear n0_)
  | (go_at_call 178; (with_reducible refine (growClauses_calls G _ _ HP.out.nil.choose_spec.1 HP.out.nil.choose_spec.2).mono ?_); rintro e w2 ⟨rfl, hb⟩; have n0_ := Aside0.mk (HP.out.go hb); clear HP hb; have HP := n0_; clear n0_)
  | (go_at_call 179; (with_reducible refine (growLines_calls G _ _ HP.out.nil.choose_spec.1 HP.out.nil.choose_spec.2).mono ?_); rintro e w2 ⟨rfl, hb⟩; have n0_ := Aside0.mk (HP.out.go hb); clear HP hb; have HP := n0_; clear n0_)
  | (go_at_call 180; (with_reducible refine (growChecks_calls G _ _ HP.out.nil.choose_spec.1 HP.out.nil.choose_spec.2).mono ?_); rintro e w2 ⟨rfl, hb⟩; have n0_ := Aside0.mk (HP.out.go hb); clear HP hb; have HP := n0_; clear n0_)
  | (go_at_call 181; (with_reducible refine (growOptions_calls G _ _ HP.out.nil.choose_spec.1 HP.out.nil.choose_spec.2).mono ?_); rintro e w2 ⟨rfl, hb⟩; have n0_ := Aside0.mk (HP.out.go hb); clear HP hb; have HP := n0_; clear n0_)
  | (go_at_call 182; (with_reducible refine (growTables_calls G _ _ HP.out.nil.choose_spec.1 HP.out.nil.choose_spec.2).mono ?_); rintro e w2 ⟨rfl, hb⟩; have n0_ := Aside0.mk (HP.out.go hb); clear HP hb; have HP := n0_; clear n0_)
  | (go_at_call 183; (with_reducible refine (growGroups_calls G _ _ HP.out.nil.choose_spec.1 HP.out.nil.choose_spec.2).mono ?_); rintro e w2 ⟨rfl, hb⟩; have n0_ := Aside0.mk (HP.out.go hb); clear HP hb; have HP := n0_; clear n0_))
 first | exact bodyPost_end rfl rfl ⟨rfl, HP.out⟩ | refine bodyPost_ret (results_nil rfl _ _) rfl ⟨rfl, HP.out⟩
theorem BkOk.turn {b : Nat} {W w1 : World} {G : Nat} {deep turn seen : Int} {n : Nat} (h : BkOk PS b W G deep turn seen n w1) (d : Int) : BkOk PS b W G deep d seen n (w1.setCell ⟨G, 2, none⟩ (.int .i64 d)) := by
 obtain ⟨os', ws', col', cg', h1, h3, h4, h5⟩ := h
 obtain ⟨p1, p2⟩ := h3.setTurn h3.le d
 exact ⟨os', ws', col', _, h1, p1, h4.mv p2 (by omega) (by omega), h5.trans p2.below⟩
theorem done_calls {b : Nat} {W : World} {col : Col} {G : Nat} {cg : Array Value} {turn seen : Int} {os : List Ot} {ws : List Wt} {n : Nat} (h : RB b W col G cg 1 turn seen (stdR os ws [])) (hc : Ct PS b W col os ws []) (hlo : os.length + 2 * ws.length ≤ n) (hn : n ≤ 900) :
  Calls Tryz.prog 45 #[.pointer (some ⟨G, 0, none⟩)] W fun e w' => e = .returned (.tuple #[]) ∧ ∃ t, BkOk PS b W G 0 t seen n w' := by
 have x3 := h.bo.cell h.c3
 have f3 := blk_frozen h.bo.blk 3
 obtain ⟨hR, hM⟩ := h.setDeep h.le 0
 have z3 : (W.setCell ⟨G, 3, none⟩ (.int .i64 0)).cell? ⟨G, 3, none⟩ = some (.int .i64 0) := hR.bo.cell hR.c3
 have hC := hc.mv hM (by omega) (by omega)
 have HR := Aside0.mk hR
 have HC := Aside0.mk hC
 have HB := Aside0.mk hM.below
 clear h hc hR hM hC
 go_enter Tryz.func45, Tryz.ntmps45
 go_upto_region 4 with (first
  | (go_at_call 86; (with_reducible refine (marks_calls HR.out HC.out (by omega)).mono ?_); rintro e w2 ⟨rfl, os2, ws2, fs2, col2, cg2, l1, l2, h1, h2, h3⟩; have HR2 := Aside0.mk h1; have HC2 := Aside0.mk h2; have HB2 := Aside0.mk (HB.out.trans h3); clear h1 h2 h3 HR HC HB)
  | (go_at_call 87; (with_reducible refine (grows_calls (n := n) HR2.out HC2.out (by omega) (by omega)).mono ?_); rintro e w3 ⟨rfl, hp⟩; have HP := Aside0.mk (hp.base HB2.out); clear hp HB2 HR2 HC2))
 obtain ⟨os3, ws3, col3, cg3, l3, h3, h4, h5⟩ := HP.out
 have y2 := h3.bo.cell h3.c2
 have fy := blk_frozen h3.bo.blk 2
 clear h3 h4 h5 l3
 go_wp2_with fail
 exact bodyPost_end rfl rfl ⟨rfl, _, HP.out.turn _⟩
end Go.Proofs.YtjlclkenfmbahaaGreatDoor.PA
