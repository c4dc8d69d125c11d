/- The closures of levylaw4.gone, walked by hand: each appends the token that comes and says whether it is to go on. -/
import Derived.Test.YtidbcenbcllfnaaDoorTScScanW
import Derived.Test.YtidbcenbcllfnaaDoorTPAx0
namespace Go.Proofs.YtidbcenbcllfnaaDoor.PA
open Go.RowKit Go.Shelf Go.Proofs.YtidbcenbcllfnaaDoorW.PrintWords Go.Proofs.YtidbcenbcllfnaaDoorW.PrintLast Go.Proofs.YtidbcenbcllfnaaDoorW.PrintMore
attribute [local go_sem] Oper.semAt_some
set_option linter.unusedVariables false
set_option linter.unusedSimpArgs false

theorem box_ne {W : World} {B B' : Nat} {t t' : TypeId} {v v' : Value} (h : Boxed W B t v) (h' : Boxed W B' t' v') (hn : t ≠ t') : B ≠ B' := by
  rintro rfl
  have h := h.symm.trans h'
  injection h with h
  injection h with _ h
  exact hn h

/-- What a closure keeps: whatever is no box of a bool, no box of a list of tokens, no row of tokens. -/
def KeepT (W W' : World) : Prop := ∀ (k : Nat) (o : Obj), W.heap[k]? = some o → (∀ cs t fr, o = .cells cs t fr → t ≠ 4 ∧ t ≠ 22 ∧ t ≠ 33) → W'.heap[k]? = some o
theorem KeepT.refl (W : World) : KeepT W W := fun _ _ h _ => h
theorem KeepT.trans {X Y Z : World} (h : KeepT X Y) (k : KeepT Y Z) : KeepT X Z := fun i o hi ho => k i o (h i o hi ho) ho
theorem KeepT.alloc (W : World) (o : Obj) : KeepT W (W.alloc o) := fun k _ h _ => (Below.heap_alloc W o k (Array.getElem?_eq_some_iff.1 h).1).trans h
theorem KeepT.set {X : World} {B : Nat} {t : TypeId} {v : Value} (h : Boxed X B t v) (ht : t = 4 ∨ t = 22) (u : Value) : KeepT X (X.setCell ⟨B, 0, none⟩ u) := fun k o hk ho => by
  refine (Below.heap_setCell X ⟨B, 0, none⟩ u k ?_).trans hk
  rintro rfl
  have hb : X.heap[k]? = some (.cells #[v] t (0, 0)) := h
  have e := hk.symm.trans hb
  injection e with e
  have := ho _ _ _ e
  rcases ht with rfl | rfl
  · exact this.1 rfl
  · exact this.2.1 rfl
theorem KeepT.grown {X Y : World} {b : Nat} {v : Value} {xs : List S33} (h : TRow b X v xs) (hg : X.grownBy Y v.ownBlock) : KeepT X Y := fun k o hk ho => by
  refine (hg.block k (Array.getElem?_eq_some_iff.1 hk).1 ?_).trans hk
  intro e
  obtain ⟨cells, hcl⟩ := Kd.R_typed h k e.symm
  have e2 := hk.symm.trans hcl
  injection e2 with e2
  exact (ho _ _ _ e2).2.2 rfl
theorem KeepT.boxed {X Y : World} {B : Nat} {t : TypeId} {v : Value} (hk : KeepT X Y) (h : Boxed X B t v) (ht : t ≠ 4 ∧ t ≠ 22 ∧ t ≠ 33) : Boxed Y B t v :=
  hk B _ h (fun cs t' fr e => by injection e with _ e; rw [← e]; exact ht)
theorem row_ne {b B : Nat} {X : World} {t : TypeId} {u v : Value} {xs : List S33} (h : TRow b X v xs) (hb : Boxed X B t u) (ht : t ≠ 33) : some B ≠ v.ownBlock := fun e => by
  obtain ⟨cells, hcl⟩ := Kd.R_typed h B e.symm
  have e2 := (show X.heap[B]? = _ from hb).symm.trans hcl
  injection e2 with e2
  injection e2 with _ e2
  exact ht e2

/-- Is the closure to say 'no more', when n tokens have come before this one? -/
def overT (n : Nat) (stop : Int) : Bool := (n : Int) + 1 == stop

set_option maxRecDepth 100000 in
set_option maxHeartbeats 4000000 in
theorem gone1_calls (Be Bl Bk Bs : Nat) (x : S33) (pre : List S33) (stop : Int) (v : Value) (base n0 : Nat) (W : World) (hb : base ≤ W.heap.size) (hn0 : n0 ≤ base)
    (be : Boxed W Be 4 (.bool false)) (bl : Boxed W Bl 22 v) (bk : Boxed W Bk 4 (.bool true)) (bs : Boxed W Bs 3 (.int .i64 stop))
    (HO : TRow base W v pre) (hl : pre.length < 30000) (hne : Bk ≠ Be) (hbe : n0 ≤ Be) (hbl : n0 ≤ Bl) (hbe2 : Be < base) (hbl2 : Bl < base) :
    Calls Tryd.prog 29 #[.int .i64 (pre.length : Int), tokV x, .pointer (some ⟨Be, 0, none⟩), .pointer (some ⟨Bl, 0, none⟩), .pointer (some ⟨Bk, 0, none⟩), .pointer (some ⟨Bs, 0, none⟩)] W fun e W' =>
      e = .returned (.bool (!(overT pre.length stop))) ∧ (∃ v', Boxed W' Be 4 (.bool (overT pre.length stop)) ∧ Boxed W' Bl 22 v' ∧ Boxed W' Bk 4 (.bool true) ∧ Boxed W' Bs 3 (.int .i64 stop) ∧ TRow base W' v' (pre ++ [x])) ∧ Below n0 W W' ∧ KeepT W W' := by
  have ne1 : Be ≠ Bl := box_ne be bl (by decide)
  have ne2 : Bk ≠ Bl := box_ne bk bl (by decide)
  have ne3 : Bs ≠ Bl := box_ne bs bl (by decide)
  have ne4 : Bs ≠ Be := box_ne bs be (by decide)
  have ne5 : Bl ≠ Be := fun e => ne1 e.symm
  have bx := World.alloc_heap_new W (.cells (cT x) 33)
  obtain ⟨W1, hW1⟩ : ∃ W1, W.alloc (.cells (cT x) 33) = W1 := ⟨_, rfl⟩
  have hB1 : Below n0 W W1 := by rw [← hW1]; exact (Below.refl _ _).alloc (Nat.le_trans hn0 hb) _
  have hK1 : KeepT W W1 := by rw [← hW1]; exact KeepT.alloc W _
  have HO1 : TRow base W1 v pre := by rw [← hW1]; exact Kd.R_alloc HO _
  have bo1 : Boxed W1 Be 4 (.bool false) := by rw [← hW1]; exact be.alloc _
  have bk1 : Boxed W1 Bk 4 (.bool true) := by rw [← hW1]; exact bk.alloc _
  have bl1 : Boxed W1 Bl 22 v := by rw [← hW1]; exact bl.alloc _
  have bs1 : Boxed W1 Bs 3 (.int .i64 stop) := by rw [← hW1]; exact bs.alloc _
  rw [hW1] at bx
  have cbe := bo1.cell
  have fbe := bo1.frozen
  have cbl := bl1.cell
  have fbl := bl1.frozen
  have cbs := bs1.cell
  have x0 := (blk_cell bx 0).trans (show _ = some (Value.int .i64 x.f0) from rfl)
  have x1 := (blk_cell bx 1).trans (show _ = some (Value.int .i64 x.f1) from rfl)
  have x2 := (blk_cell bx 2).trans (show _ = some (Value.string x.f2) from rfl)
  have x3 := (blk_cell bx 3).trans (show _ = some (Value.int .i64 x.f3) from rfl)
  have x4 := (blk_cell bx 4).trans (show _ = some (Value.int .i64 x.f4) from rfl)
  have hvl : ∃ a c, v = .slice a pre.length c := by
    obtain ⟨a, c, e⟩ := Kd.R_slice HO1
    exact ⟨a, c, e⟩
  obtain ⟨A0, c0, rfl⟩ := hvl
  refine (callsIn_wide (n := 6)).1 ?_
  refine callsIn_of_wp Tryd.func29 rfl trivial ?_ rfl
  simp only [Tryd.ntmps29, List.size_toArray, List.length_cons, List.length_nil, Nat.reduceAdd, Nat.reduceSub, Array.replicate_succ, Array.replicate_zero, List.push_toArray, List.append_toArray, List.nil_append, List.cons_append]
  have HW1 := Aside0.mk hW1
  clear hW1
  have HO2 := Aside0.mk HO1
  have HB2 := Aside0.mk hB1
  have HK2 := Aside0.mk hK1
  have HL := Aside0.mk hl
  have BE := Aside0.mk bo1
  have BK := Aside0.mk bk1
  have BL := Aside0.mk bl1
  have BS := Aside0.mk bs1
  have HBB := Aside0.mk hb
  have kov : ((65536 : Int) < (pre.length : Int) + 1) = False := eq_false (by have := HL.out; omega)
  clear HO1 hB1 hK1 hl bo1 bk1 bl1 bs1 HO be bl bk bs hb
  dsimp only [tokV]
  gi_wp2_with (first
    | (rw [HW1.out])
    | (gi_at_builtin; refine append_tok (W := W1) (b := base) (x := x) rfl (.tmp 16) (.tmp 18) 22 rfl Tryd.underlying22 info33 (.slice A0 pre.length c0) pre rfl rfl HO2.out (Nat.le_trans HBB.out HB2.out.size) (by have := HL.out; omega) ?_; intro v1 w1 ho1 hg1; obtain ⟨A1, c1, rfl⟩ := Kd.R_slice ho1; have be2 := BE.out.kept hg1 (row_ne HO2.out BE.out (by decide)); have bl2 := BL.out.kept hg1 (row_ne HO2.out BL.out (by decide)); have bs2 := BS.out.kept hg1 (row_ne HO2.out BS.out (by decide)); have bk2 := BK.out.kept hg1 (row_ne HO2.out BK.out (by decide)); have ce2 := be2.cell; have fe2 := be2.frozen; have cl2 := bl2.cell; have fl2 := bl2.frozen; have cs2 := bs2.cell; have HO3 := Aside0.mk ho1; have HG3 := Aside0.mk hg1; have BE2 := Aside0.mk be2; have BL2 := Aside0.mk bl2; have BS2 := Aside0.mk bs2; have BK2 := Aside0.mk bk2; have hlen : (pre ++ [x]).length = pre.length + 1 := (by simp); clear ho1 hg1 be2 bl2 bs2 bk2))
  · rename_i hov
    have e : overT pre.length stop = true := by unfold overT; rw [hov]; simp
    rw [e]
    have h3 := HO3.out
    rw [hlen] at h3
    exact bodyPost_ret (results_tmp rfl _ _ _) rfl ⟨rfl, ⟨.slice A1 (pre.length + 1) c1, (BE2.out.other ne1 _).set _, (BL2.out.set _).other ne5 _, (BK2.out.other ne2 _).other hne _, (BS2.out.other ne3 _).other ne4 _, (h3.set hbl2 _).set hbe2 _⟩,
      ((HB2.out.grown HG3.out (by have := HB2.out.size; have := HBB.out; omega) (fun k e => Nat.le_trans hn0 (Kd.R_base HO2.out k e))).setCell (p := ⟨Bl, 0, none⟩) hbl _).setCell (p := ⟨Be, 0, none⟩) hbe _,
      ((HK2.out.trans (KeepT.grown HO2.out HG3.out)).trans (KeepT.set BL2.out (.inr rfl) _)).trans (KeepT.set (BE2.out.other ne1 _) (.inl rfl) _)⟩
  · rename_i hov
    have e : overT pre.length stop = ((pre.length : Int) + 1 == stop) := rfl
    have e2 : ((pre.length : Int) + 1 == stop) = false := by simpa using hov
    rw [e, e2]
    have h3 := HO3.out
    rw [hlen] at h3
    exact bodyPost_ret (results_tmp rfl _ _ _) rfl ⟨rfl, ⟨.slice A1 (pre.length + 1) c1, (BE2.out.other ne1 _).set _, (BL2.out.set _).other ne5 _, (BK2.out.other ne2 _).other hne _, (BS2.out.other ne3 _).other ne4 _, (h3.set hbl2 _).set hbe2 _⟩,
      ((HB2.out.grown HG3.out (by have := HB2.out.size; have := HBB.out; omega) (fun k e => Nat.le_trans hn0 (Kd.R_base HO2.out k e))).setCell (p := ⟨Bl, 0, none⟩) hbl _).setCell (p := ⟨Be, 0, none⟩) hbe _,
      ((HK2.out.trans (KeepT.grown HO2.out HG3.out)).trans (KeepT.set BL2.out (.inr rfl) _)).trans (KeepT.set (BE2.out.other ne1 _) (.inl rfl) _)⟩

set_option maxRecDepth 100000 in
set_option maxHeartbeats 4000000 in
theorem gone2_calls (Bl : Nat) (i : Int) (x : S33) (pre : List S33) (v : Value) (base n0 : Nat) (W : World) (hb : base ≤ W.heap.size) (hn0 : n0 ≤ base)
    (bl : Boxed W Bl 22 v) (HO : TRow base W v pre) (hl : pre.length < 30000) (hbl : n0 ≤ Bl) (hbl2 : Bl < base) :
    Calls Tryd.prog 30 #[.int .i64 i, tokV x, .pointer (some ⟨Bl, 0, none⟩)] W fun e W' =>
      e = .returned (.bool (decide ((pre.length : Int) + 1 < 4))) ∧ (∃ v', Boxed W' Bl 22 v' ∧ TRow base W' v' (pre ++ [x])) ∧ Below n0 W W' ∧ KeepT W W' ∧ KeepBut W W' Bl v.ownBlock := by
  have bx := World.alloc_heap_new W (.cells (cT x) 33)
  obtain ⟨W1, hW1⟩ : ∃ W1, W.alloc (.cells (cT x) 33) = W1 := ⟨_, rfl⟩
  have hB1 : Below n0 W W1 := by rw [← hW1]; exact (Below.refl _ _).alloc (Nat.le_trans hn0 hb) _
  have hK1 : KeepT W W1 := by rw [← hW1]; exact KeepT.alloc W _
  have hU1 : KeepBut W W1 Bl v.ownBlock := by rw [← hW1]; exact ⟨by simp, fun k hk _ _ => Below.heap_alloc W _ k hk⟩
  have HO1 : TRow base W1 v pre := by rw [← hW1]; exact Kd.R_alloc HO _
  have bl1 : Boxed W1 Bl 22 v := by rw [← hW1]; exact bl.alloc _
  rw [hW1] at bx
  have cbl := bl1.cell
  have fbl := bl1.frozen
  have x0 := (blk_cell bx 0).trans (show _ = some (Value.int .i64 x.f0) from rfl)
  have x1 := (blk_cell bx 1).trans (show _ = some (Value.int .i64 x.f1) from rfl)
  have x2 := (blk_cell bx 2).trans (show _ = some (Value.string x.f2) from rfl)
  have x3 := (blk_cell bx 3).trans (show _ = some (Value.int .i64 x.f3) from rfl)
  have x4 := (blk_cell bx 4).trans (show _ = some (Value.int .i64 x.f4) from rfl)
  have hvl : ∃ a c, v = .slice a pre.length c := by
    obtain ⟨a, c, e⟩ := Kd.R_slice HO1
    exact ⟨a, c, e⟩
  obtain ⟨A0, c0, rfl⟩ := hvl
  refine (callsIn_wide (n := 6)).1 ?_
  refine callsIn_of_wp Tryd.func30 rfl trivial ?_ rfl
  simp only [Tryd.ntmps30, List.size_toArray, List.length_cons, List.length_nil, Nat.reduceAdd, Nat.reduceSub, Array.replicate_succ, Array.replicate_zero, List.push_toArray, List.append_toArray, List.nil_append, List.cons_append]
  have HW1 := Aside0.mk hW1
  clear hW1
  have HO2 := Aside0.mk HO1
  have HB2 := Aside0.mk hB1
  have HK2 := Aside0.mk hK1
  have HU2 := Aside0.mk hU1
  have HL := Aside0.mk hl
  have BL := Aside0.mk bl1
  have HBB := Aside0.mk hb
  clear HO1 hB1 hK1 hU1 hl bl1 HO bl hb
  dsimp only [tokV]
  gi_wp2_with (first
    | (rw [HW1.out])
    | (gi_at_builtin; refine append_tok (W := W1) (b := base) (x := x) rfl (.tmp 6) (.tmp 8) 22 rfl Tryd.underlying22 info33 (.slice A0 pre.length c0) pre rfl rfl HO2.out (Nat.le_trans HBB.out HB2.out.size) (by have := HL.out; omega) ?_; intro v1 w1 ho1 hg1; obtain ⟨A1, c1, rfl⟩ := Kd.R_slice ho1; have bl2 := BL.out.kept hg1 (row_ne HO2.out BL.out (by decide)); have cl2 := bl2.cell; have fl2 := bl2.frozen; have HO3 := Aside0.mk ho1; have HG3 := Aside0.mk hg1; have BL2 := Aside0.mk bl2; have hlen : (pre ++ [x]).length = pre.length + 1 := (by simp); clear ho1 hg1 bl2))
  have h3 := HO3.out
  rw [hlen] at h3
  have ub := HU2.out
  exact bodyPost_ret (results_tmp rfl _ _ _) rfl ⟨by simp, ⟨.slice A1 (pre.length + 1) c1, BL2.out.set _, h3.set hbl2 _⟩,
    (HB2.out.grown HG3.out (by have := HB2.out.size; have := HBB.out; omega) (fun k e => Nat.le_trans hn0 (Kd.R_base HO2.out k e))).setCell (p := ⟨Bl, 0, none⟩) hbl _,
    (HK2.out.trans (KeepT.grown HO2.out HG3.out)).trans (KeepT.set BL2.out (.inr rfl) _),
    ⟨Nat.le_trans ub.1 (Nat.le_trans HG3.out.size (by simp [World.setCell])), fun k hk hne hrow => ((Below.heap_setCell w1 ⟨Bl, 0, none⟩ _ k hne).trans (HG3.out.block k (Nat.lt_of_lt_of_le hk ub.1) hrow)).trans (ub.2 k hk hne hrow)⟩⟩
end Go.Proofs.YtidbcenbcllfnaaDoor.PA
