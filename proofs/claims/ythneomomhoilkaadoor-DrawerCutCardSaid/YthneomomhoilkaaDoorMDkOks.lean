/- A disk stays one that can be, behind each call; the small calls of both disks. Condition: none. -/
import Derived.Test.YthneomomhoilkaaDoorMDkPair
import Derived.Test.YthneomomhoilkaaDoorML
namespace Go.Proofs.YthneomomhoilkaaDoor.PA
open Go.RowKit Go.Maps Go.Proofs.YthneomomhoilkaaDoorW.PrintWords Go.Proofs.YthneomomhoilkaaDoorW.PrintLast Go.Proofs.YthneomomhoilkaaDoorW.PrintMore
set_option linter.unusedVariables false
set_option linter.unusedSimpArgs false
def goodL (f : Fl) : Prop := f.f1.length ≤ 2097152 ∧ 0 ≤ f.f2 ∧ f.f2 ≤ f.f1.length
theorem Dk.Ok.put {d : Dk} (h : d.Ok) {l : List Fl} (h1 : Rises l) (h2 : ∀ f ∈ l, Nm f.f0 = true) (h3 : ∀ f ∈ l, goodL f) (h4 : l.length ≤ 40) : ({ d with fs := l } : Dk).Ok := ⟨h1, h2, h3, h4, h.u0, h.u1, h.a0, h.a1, h.c0, h.c1⟩
theorem set_all {fs : List Fl} (hr : Rises fs) {nm : ByteArray} (ht : there fs nm = true) {f : Fl} (hf : f.f0 = nm) (hn : ∀ x ∈ fs, Nm x.f0 = true) (hg : ∀ x ∈ fs, goodL x ∨ x.f0 = nm) (hgf : goodL f) :
    Rises (setF fs nm f) ∧ (∀ x ∈ setF fs nm f, Nm x.f0 = true) ∧ (∀ x ∈ setF fs nm f, goodL x) ∧ (setF fs nm f).length = fs.length := by
  have hnm : Nm nm = true := by have := hn _ (there_mem ht); rwa [(there_get ht).2.2] at this
  refine ⟨rises_names hr (names_set ht hf), fun x hx => ?_, fun x hx => ?_, setF_len _ _ _⟩
  · rcases set_other hr ht hx with rfl | ⟨h, _⟩
    · rw [hf]; exact hnm
    · exact hn x h
  · rcases set_other hr ht hx with rfl | ⟨h, h2⟩
    · exact hgf
    · exact (hg x h).resolve_right h2
theorem Dk.Ok.doF {d : Dk} (h : d.Ok) (nm : ByteArray) {k : Fl → Fl} (hk0 : ∀ f, (k f).f0 = f.f0) (hk : ∀ f, goodL f → goodL (k f)) : (d.doF nm k).Ok := by
  unfold Dk.doF
  split
  · rename_i h0
    have ht := chg_there h0
    have hm := there_mem ht
    obtain ⟨q1, q2, q3, q4⟩ := set_all h.rises ht (f := k (getF d.fs nm)) (by rw [hk0]; exact (there_get ht).2.2) h.names (fun x hx => .inl (h.size x hx)) (hk _ (h.size _ hm))
    exact (h.chg nm).put q1 q2 q3 (by rw [q4]; exact h.few)
  · exact h.chg nm
theorem good_sync (f : Fl) (h : goodL f) : goodL (syncF f) := ⟨h.1, by show (0 : Int) ≤ (f.f1.length : Int); omega, Int.le_refl _⟩
theorem good_trim (z : Int) (f : Fl) (h : goodL f) : goodL (trimF z f) := by
  obtain ⟨h1, h2, h3⟩ := h
  refine ⟨?_, ?_, ?_⟩
  · show (f.f1.take (max z 0).toNat).length ≤ _
    rw [List.length_take]; omega
  · show (0 : Int) ≤ min f.f2 ((f.f1.take (max z 0).toNat).length : Int)
    omega
  · show min f.f2 ((f.f1.take (max z 0).toNat).length : Int) ≤ ((f.f1.take (max z 0).toNat).length : Int)
    omega
theorem Dk.Ok.rem {d : Dk} (h : d.Ok) (nm : ByteArray) : (d.rem nm).Ok := by
  unfold Dk.rem
  split
  · have hm : ∀ f ∈ remF d.fs nm, f ∈ d.fs := fun f hf => by
      unfold remF at hf
      rcases List.mem_append.1 hf with hf | hf
      · exact List.mem_of_mem_take hf
      · exact List.mem_of_mem_drop hf
    refine (h.chg nm).put (rises_rem h.rises nm) (fun f hf => h.names f (hm f hf)) (fun f hf => h.size f (hm f hf)) ?_
    have := h.few
    unfold remF
    rw [List.length_append, List.length_take, List.length_drop]
    omega
  · exact h.chg nm
theorem first_name {d : Dk} {nm : ByteArray} (h : (firstS (Nm nm) d.down d.after d.calls).1 = 0) : Nm nm = true := by
  unfold firstS at h
  split at h
  · cases h
  · simp_all
theorem Dk.Ok.lay {d : Dk} (h : d.Ok) {nm : ByteArray} (h1 : (firstS (Nm nm) d.down d.after d.calls).1 = 0) {n : Nat} (h2 : ¬ d.full nm n) {ys : List Int} (hy : ys.length ≤ n) {d0 : Dk} (h0 : d0.Ok) : ({ d0 with fs := setF (d.have nm) nm (layF ys (getF (d.have nm) nm)) } : Dk).Ok := by
  have hnm := first_name h1
  have hth := have_there d nm
  have hH : Rises (d.have nm) ∧ (∀ x ∈ d.have nm, Nm x.f0 = true) ∧ (∀ x ∈ d.have nm, goodL x) ∧ (d.have nm).length ≤ 40 := by
    unfold Dk.have
    split
    · exact ⟨h.rises, h.names, h.size, h.few⟩
    · rename_i ht
      have ht' : there d.fs nm = false := by simpa using ht
      refine ⟨rises_add h.rises (f := { f0 := nm, f1 := [], f2 := 0 }) ht', fun x hx => ?_, fun x hx => ?_, ?_⟩
      · rcases addF_mem.1 hx with rfl | hx
        · exact hnm
        · exact h.names x hx
      · rcases addF_mem.1 hx with rfl | hx
        · exact ⟨by simp, by simp, by simp⟩
        · exact h.size x hx
      · rw [addF_len]
        unfold Dk.full at h2
        have := h.few
        have h3 : ¬ 40 ≤ d.fs.length := fun h4 => h2 (.inr ⟨ht', h4⟩)
        omega
  obtain ⟨r1, r2, r3, r4⟩ := hH
  have hg := r3 _ (there_mem hth)
  have hln := have_len d nm
  obtain ⟨q1, q2, q3, q4⟩ := set_all r1 hth (f := layF ys (getF (d.have nm) nm)) (by show (getF (d.have nm) nm).f0 = nm; exact (there_get hth).2.2) r2 (fun x hx => .inl (r3 x hx)) (by
    refine ⟨?_, hg.2.1, ?_⟩
    · show ((getF (d.have nm) nm).f1 ++ ys).length ≤ _
      rw [List.length_append, hln]
      have h3 : ¬ 2097152 < d.sz nm + n := fun h4 => h2 (.inl h4)
      omega
    · show (getF (d.have nm) nm).f2 ≤ (((getF (d.have nm) nm).f1 ++ ys).length : Int)
      rw [List.length_append]
      have := hg.2.2
      omega)
  exact h0.put q1 q2 q3 (by rw [q4]; exact r4)
theorem Dk.Ok.app {d : Dk} (h : d.Ok) (nm : ByteArray) (xs : List Int) : (d.app nm xs).2.Ok := by
  by_cases h1 : (firstS (Nm nm) d.down d.after d.calls).1 = 0
  · by_cases h2 : d.full nm xs.length
    · rw [app_full h1 h2]; exact h.fst nm
    · rcases h3 : ((d.fst nm).2.pay (xs.length + 1)).1 with _ | _
      · rw [app_fell h1 h2 h3]
        exact h.lay h1 h2 (by rw [List.length_take]; omega) ((h.fst nm).pay (by omega))
      · rw [app_done h1 h2 h3]
        exact h.lay h1 h2 (Nat.le_refl _) ((h.fst nm).pay (by omega))
  · rw [app_err rfl h1]; exact h.fst nm
def Dk.arm (d : Dk) (x : Int) : Dk := if d.down = true then d else { d with units := max x (-1) }
def Dk.fail (d : Dk) (x y : Int) : Dk := if d.down = true then d else if x < 0 ∨ y ≤ 0 then { d with after := 0, calls := 0 } else { d with after := x, calls := y }
theorem Dk.Ok.arm {d : Dk} (h : d.Ok) {x : Int} (hx : x ≤ 9223372036854775807) : (d.arm x).Ok := by
  unfold Dk.arm
  split
  · exact h
  · exact h.rig rfl (by show -1 ≤ max x (-1); omega) (by show max x (-1) ≤ _; omega) h.a0 h.a1 h.c0 h.c1
theorem Dk.Ok.fail {d : Dk} (h : d.Ok) {x y : Int} (hx : x ≤ 9223372036854775807) (hy : y ≤ 9223372036854775807) : (d.fail x y).Ok := by
  unfold Dk.fail
  split
  · exact h
  · split
    · exact h.rig rfl h.u0 h.u1 (by simp) (by simp) (by simp) (by simp)
    · rename_i h2
      exact h.rig rfl h.u0 h.u1 (by show 0 ≤ x; omega) hx (by show 0 ≤ y; omega) hy
section
variable {b g : Nat} {w : World} {col : RCol} {d : Dk}
theorem parm_d (x : Int) (h : PD b w col g d) : Calls Tryd.prog 16 #[.pointer (some ⟨g, 0, none⟩), .int .i64 x] w fun e w' => e = .returned (.tuple #[]) ∧ PPost b w col g (d.arm x) w' := by
  obtain ⟨m, gb, ar, u, h⟩ := h
  unfold Dk.arm
  split
  · rename_i hd
    exact (parm_down g _ d.down ar u d.after d.calls x hd w h.blk).mono fun e w' ⟨h1, h2, h3⟩ => ⟨h1, h.post h2 ⟨ar, u, h3, h.arm, h.unit⟩ rfl⟩
  · rename_i hd
    refine (parm_up g _ d.down ar u d.after d.calls x (by simpa using hd) w h.blk).mono fun e w' ⟨h1, h2, h3⟩ => ⟨h1, h.post h2 ⟨decide (0 ≤ x), x, h3, ?_, ?_⟩ rfl⟩
    · by_cases hx : 0 ≤ x
      · rw [decide_eq_true hx, decide_eq_true (show 0 ≤ max x (-1) by omega)]
      · rw [decide_eq_false hx, decide_eq_false (show ¬ 0 ≤ max x (-1) by omega)]
    · intro (h0 : 0 ≤ max x (-1))
      show x = max x (-1)
      omega
theorem prestart_d (KA : Option Addr) (kc : Nat) (ks : List Int) (hd : d.Ok) (hX : XInts w col isP KA ks) (hkl : ks.length ≤ 140737488355328) (h : PD b w col g d) : Calls Tryd.prog 15 #[.pointer (some ⟨g, 0, none⟩), .slice KA ks.length kc] w fun e w' => e = .returned (.tuple #[]) ∧ PPost b w col g (d.rest ks) w' := by
  obtain ⟨m, gb, ar, u, h⟩ := h
  exact prestart b g m d gb ar u col KA kc ks w h hd hX hkl fun W ar' u' hP => pnames b g m d.fell gb ar' u' col W hP hd.fell
theorem pfiles_d (hd : d.Ok) (h : PD b w col g d) : Calls Tryd.prog 10 #[.pointer (some ⟨g, 0, none⟩)] w fun e w' => FlPost w w' e d.fs := by
  obtain ⟨m, gb, ar, u, h⟩ := h; exact pfiles b g m d gb ar u col w h hd (pnames b g m d gb ar u col w h hd)
end
end Go.Proofs.YthneomomhoilkaaDoor.PA
