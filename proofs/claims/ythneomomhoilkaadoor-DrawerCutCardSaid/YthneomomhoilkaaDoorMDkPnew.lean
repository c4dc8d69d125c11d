/- The program's NewDisk, walked. Condition: the list of files is one that is read. (Printed by gen_pnew.py.) -/
import Derived.Test.YthneomomhoilkaaDoorMDkSort
import Derived.BigQuiet
import Derived.Deep.RegionHeld3
import Derived.Test.YthneomomhoilkaaDoorML
namespace Go.Proofs.YthneomomhoilkaaDoor.PA
open Go.RowKit Go.Maps Go.Proofs.YthneomomhoilkaaDoorW.PrintWords Go.Proofs.YthneomomhoilkaaDoorW.PrintLast Go.Proofs.YthneomomhoilkaaDoorW.PrintMore
set_option linter.unusedVariables false
set_option linter.unusedSimpArgs false
theorem pbox_read {wr W1 : World} {x y z : Value} (h : W1 = wr.alloc (.cells #[x, y, z] 42)) :
    W1.cell? ⟨wr.heap.size, 0, none⟩ = some x ∧ W1.cell? ⟨wr.heap.size, 1, none⟩ = some y ∧ W1.cell? ⟨wr.heap.size, 2, none⟩ = some z ∧ Below wr.heap.size wr W1 ∧ W1.heap.size = wr.heap.size + 1 := by
  subst h
  have hx := heap_alloc_new wr (.cells #[x, y, z] 42)
  exact ⟨(blk_cell hx 0).trans rfl, (blk_cell hx 1).trans rfl, (blk_cell hx 2).trans rfl, below_alloc (Below.refl _ _) _, by simp⟩
def PNewPost (w w' : World) (e : Ending) : Option (List Fl) → Prop
  | none => e = .returned (.tuple #[.pointer none, .int .i64 195]) ∧ Below w.heap.size w w'
  | some l => ∃ g col, e = .returned (.tuple #[.pointer (some ⟨g, 0, none⟩), .int .i64 0]) ∧ Below w.heap.size w w' ∧ PD w.heap.size w' col g (Dk.start l)
theorem padd_block {b g m : Nat} {W2 w3 W4 : World} {col : RCol} {d : Dk} {gb : ByteArray → Nat} {ar : Bool} {u : Int} {f : Fl} {v : Value} (h : PDm b W2 col g d m gb ar u) (hb : Below W2.heap.size W2 w3) (ho : w3.ownsRow W2.heap.size 5 1 v f.f1.length (nums .u8 f.f1))
    (hW4 : W4 = w3.alloc (.cells #[v, .int .i64 f.f2] 76)) :
    ∃ col4, PDm b W4 col4 g d m gb ar u ∧ W4.heap[w3.heap.size]? = some (.cells #[v, .int .i64 f.f2] 76 (0, 0)) ∧ BRow b W4 col4 (.pb f.f0) v f.f1 ∧ col4 w3.heap.size = .pf f.f0 ∧ b ≤ w3.heap.size ∧ Below W2.heap.size W2 W4 ∧ Ch b W2 col W4 col4 isP := by
  subst hW4
  have hb4 : Below W2.heap.size W2 (w3.alloc (.cells #[v, .int .i64 f.f2] 76)) := hb.trans ((below_alloc (Below.refl _ _) _).mono hb.size)
  have hc : Ch b W2 col (w3.alloc (.cells #[v, .int .i64 f.f2] 76)) (colN col W2.heap.size fun k => if k = w3.heap.size then .pf f.f0 else .pb f.f0) (fun _ => False) := Ch.of_new hb4 h.base _
  refine ⟨_, h.ch hc (fun _ _ h => h), heap_alloc_new w3 _, ⟨own_lower (ho.alloc _) h.base, fun k hk => ?_⟩, by rw [colN_ge hb.size]; exact if_pos rfl, Nat.le_trans h.base hb.size, hb4, hc.mono fun _ h => h.elim⟩
  rw [colN_ge (own_base ho k hk)]
  exact if_neg (by have := own_lt ho k hk; omega)
theorem pnew_keep {W4 w5 : World} {g m gx : Nat} {v0 v1 v2 v3 : Value} (h : W4.cell? ⟨g, 0, none⟩ = some v0 ∧ W4.cell? ⟨gx, 0, none⟩ = some v1 ∧ W4.cell? ⟨gx, 1, none⟩ = some v2 ∧ W4.cell? ⟨gx, 2, none⟩ = some v3) (hg : W4.grownBy w5 (some m)) (hne : gx ≠ m) (hgm : g ≠ m := by omega) :
    w5.cell? ⟨g, 0, none⟩ = some v0 ∧ w5.cell? ⟨gx, 0, none⟩ = some v1 ∧ w5.cell? ⟨gx, 1, none⟩ = some v2 ∧ w5.cell? ⟨gx, 2, none⟩ = some v3 := by
  have hk : ∀ k i v, k ≠ m → W4.cell? ⟨k, i, none⟩ = some v → w5.cell? ⟨k, i, none⟩ = some v := fun k i v hk hv => by
    have hlt := World.block_lt_of_cell? _ _ hv
    rw [← hv]
    unfold World.cell?
    rw [hg.block k hlt (fun e => hk (by injection e))]
  exact ⟨hk _ _ _ hgm h.1, hk _ _ _ hne h.2.1, hk _ _ _ hne h.2.2.1, hk _ _ _ hne h.2.2.2⟩
set_option maxRecDepth 100000 in
set_option maxHeartbeats 8000000 in
theorem pnew (A : Option Addr) (c : Nat) (fs : List Fl) (w : World) (hK : Kd.C k42 w A fs.length fs) (hc : fs.length ≤ c) (hnm : ∀ f ∈ fs, f.f0.size ≤ 140737488355328) (hln : ∀ f ∈ fs, f.f1.length ≤ 140737488355328) (hfl : fs.length ≤ 140737488355328) :
    Calls Tryd.prog 19 #[.slice A fs.length c] w fun e w' => PNewPost w w' e (newS fs) := by
  have HIn := Aside0.mk (fun i f hf W hB => in_reads hK (i := i) (f := f) hf W hB)
  have HNm := Aside0.mk hnm
  by_cases h40 : 40 < fs.length
  · have hs : newS fs = none := if_pos h40
    rw [hs]
    have b1 : (40 : Int) < (fs.length : Int) := by omega
    clear hK hc hnm hln hfl
    go_enter Tryd.func19, Tryd.ntmps19
    go_wp2
    go_ret2
    exact ⟨rfl, Below.refl _ _⟩
  have hs : newS fs = newL [] fs := if_neg h40
  rw [hs]
  have b1 : decide ((40 : Int) < (fs.length : Int)) = false := decide_eq_false (by omega)
  have b2 : decide (40 < fs.length) = false := decide_eq_false h40
  have h41 : fs.length ≤ 40 := Nat.le_of_not_lt h40
  have H40 := Aside0.mk h41
  have hmk : ∀ W, (Instr.makeMap 71 none).run Tryd.prog W = .ok (.map (some W.heap.size)) (W.alloc (.map #[] 0)) := fun W => by rfl
  clear hK hc hnm hln hfl hs h40
  go_enter Tryd.func19, Tryd.ntmps19
  go_wp2
  go_loopw [15] (fun v15 wq => ∃ (i : Nat) (acc : List Fl) (col : RCol) (gb : ByteArray → Nat), i ≤ fs.length ∧ v15 = .int .i64 i ∧ newL [] fs = newL acc (fs.drop i) ∧ acc.length = i ∧ Rises acc ∧ PDm w.heap.size wq col (w.heap.size + 1) (Dk.start acc) w.heap.size gb false 0 ∧ Below w.heap.size w wq) (fun v15 _ => fs.length - (intOf v15).toNat)
  case atStart =>
    have hm0 := World.ownsMap_made (H := Unit) w Tryd.prog 9 ptrE
    have hx := heap_alloc_new (w.alloc (.map #[] 0)) (.cells #[.map (some w.heap.size), .bool false, .bool false, .int .i64 0, .int .i64 0, .int .i64 0] 73)
    rw [World.size_alloc] at hx
    exact ⟨0, [], fun k => if k = w.heap.size then .pm else .pd, fun _ => 0, by omega, rfl, rfl, rfl, List.Pairwise.nil, ⟨hx, if_neg (by omega), by omega, rfl, fun h => by simp [Dk.start] at h, hm0.alloc _, if_pos rfl, Nat.le_refl _, fun f hf => by cases hf⟩, below_alloc (below_alloc (Below.refl _ _) _) _⟩
  case round =>
    obtain ⟨i, acc, col, gb, hi, rfl, hnew, hacc, hri, hR, hB⟩ := hrel
    by_cases h1 : i < fs.length
    · obtain ⟨f, hf⟩ : ∃ f, fs[i]? = some f := ⟨_, List.getElem?_eq_getElem h1⟩
      have hstep : newL [] fs = if goodF acc f then newL (addF acc f) (fs.drop (i + 1)) else none := by
        rw [hnew, List.drop_eq_getElem_cons h1]
        rw [List.getElem?_eq_getElem h1] at hf
        injection hf with hf
        rw [hf]
        rfl
      obtain ⟨ad, Ab, cb, rfl, x0, x1, x2, hcb, hrd⟩ := HIn.out i f hf _ hB
      have k2 : (i : Int) < (fs.length : Int) := by omega
      have k0 : (0 : Int) ≤ (i : Int) := by omega
      have HK3 : Aside0 (wrap64 ((i : Int) + 1) = ((i : Int) + 1)) := ⟨PA.wr (by omega) (by omega)⟩
      have H1 := Aside0.mk (Nat.succ_le_of_lt h1)
      have HEQ := Aside0.mk (congrArg (Value.int .i64) (show wrap64 ((i : Int) + 1) = ((i + 1 : Nat) : Int) from HK3.out))
      have HMS := Aside0.mk (meas_lt h1 HK3.out)
      have HEQ2 := Aside0.mk (show Value.int .i64 ((i : Int) + 1) = Value.int .i64 ((i + 1 : Nat) : Int) from rfl)
      have HMS2 := Aside0.mk (meas_lt2 h1)
      have HAl : Aside0 (acc.length < maxLen) := ⟨by have := H40.out; unfold maxLen; omega⟩
      have HAcc := Aside0.mk hacc
      have HRi := Aside0.mk hri
      have HRg : Aside0 (∀ W, Below wr.heap.size wr W → PDm w.heap.size W col (w.heap.size + 1) (Dk.start acc) w.heap.size gb false 0) := ⟨fun W h => hR.below h⟩
      have HB := Aside0.mk hB
      have HFi := Aside0.mk hf
      have HRd := Aside0.mk hrd
      have HCb := Aside0.mk hcb
      have HBad : Aside0 (¬ goodF acc f → ∀ W, Below w.heap.size w W → PNewPost w W (.returned (.tuple #[.pointer none, .int .i64 195])) (newL [] fs)) := ⟨fun h W hW => by rw [hstep, if_neg h]; exact ⟨rfl, hW⟩⟩
      have HGo : Aside0 (goodF acc f → newL [] fs = newL (addF acc f) (fs.drop (i + 1))) := ⟨fun h => by rw [hstep, if_pos h]⟩
      clear hf h1 hi hnew hacc hR hB hrd hstep hcb hri
      cases hth : there acc f.f0
      · cases hnm : Nm f.f0
        · have HBad := Aside0.mk (HBad.out (fun h => by rw [goodF, hnm] at h; cases h.1))
          have HNV := Aside0.mk hnm
          go_upto_region 7 with fail
          obtain ⟨W1, hW1⟩ : ∃ W1, W1 = wr.alloc (.cells #[.string f.f0, .slice Ab f.f1.length cb, .int .i64 f.f2] 42) := ⟨_, rfl⟩
          rw [← hW1]
          obtain ⟨z0, z1, z2, hbw, z3⟩ := pbox_read hW1
          have hP1 := HRg.out W1 hbw
          have c0 : W1.cell? ⟨w.heap.size + 1, 0, none⟩ = some (.map (some w.heap.size)) := (blk_cell hP1.blk 0).trans rfl
          have hlk : ∀ n, (Instr.lookup 71 (.map (some w.heap.size)) (.string f.f0) false).run Tryd.prog (W1.drewN n) = .ok (.pointer none) (W1.drewN n) := fun n => by have := (hP1.below ((Drawn0.refl W1).step n).below).look HRi.out f.f0 (HNm.out f (List.mem_of_getElem? HFi.out)); rwa [show (Dk.start acc).fs = acc from rfl, if_neg (by rw [hth]; simp)] at this
          have hlk0 : (Instr.lookup 71 (.map (some w.heap.size)) (.string f.f0) false).run Tryd.prog W1 = .ok (.pointer none) W1 := hlk 0
          have HNa : Aside0 (∀ a, Calls Tryd.prog 34 #[.string f.f0] (W1.drewN a) fun e w'' => e = .returned (.bool false) ∧ ∃ n, w'' = W1.drewN n) := ⟨fun a => (show Calls Tryd.prog 34 #[.string f.f0] (W1.drewN a) fun e w' => e = .returned (.bool false) ∧ Drawn0 (W1.drewN a) w' by have := pnamed_calls f.f0 (HNm.out f (List.mem_of_getElem? HFi.out)) (W1.drewN a); rwa [HNV.out] at this).mono fun e w'' h => ⟨h.1, by obtain ⟨n, hn⟩ := h.2.out; subst hn; exact (((Drawn0.refl W1).step a).step n).out⟩⟩
          have HBW := Aside0.mk hbw
          have HP1 := Aside0.mk hP1
          have HW1 := Aside0.mk hW1
          clear hW1 hbw hP1 x0 x1 x2 z3
          go_quiet (exact HNa.out _)
          go_wp2
          go_ret2
          exact HBad.out _ ((HB.out.trans (HBW.out.mono HB.out.size)).trans (((Drawn0.refl W1).step _).below.mono (HB.out.trans (HBW.out.mono HB.out.size)).size))
        have HNV := Aside0.mk hnm
        by_cases hbig : 2097152 < f.f1.length
        · have HBad := Aside0.mk (HBad.out (fun h => by have := h.2.2.1; omega))
          have c1 : (2097152 : Int) < (f.f1.length : Int) := by omega
          clear hbig
          go_upto_region 7 with fail
          obtain ⟨W1, hW1⟩ : ∃ W1, W1 = wr.alloc (.cells #[.string f.f0, .slice Ab f.f1.length cb, .int .i64 f.f2] 42) := ⟨_, rfl⟩
          rw [← hW1]
          obtain ⟨z0, z1, z2, hbw, z3⟩ := pbox_read hW1
          have hP1 := HRg.out W1 hbw
          have c0 : W1.cell? ⟨w.heap.size + 1, 0, none⟩ = some (.map (some w.heap.size)) := (blk_cell hP1.blk 0).trans rfl
          have hlk : ∀ n, (Instr.lookup 71 (.map (some w.heap.size)) (.string f.f0) false).run Tryd.prog (W1.drewN n) = .ok (.pointer none) (W1.drewN n) := fun n => by have := (hP1.below ((Drawn0.refl W1).step n).below).look HRi.out f.f0 (HNm.out f (List.mem_of_getElem? HFi.out)); rwa [show (Dk.start acc).fs = acc from rfl, if_neg (by rw [hth]; simp)] at this
          have hlk0 : (Instr.lookup 71 (.map (some w.heap.size)) (.string f.f0) false).run Tryd.prog W1 = .ok (.pointer none) W1 := hlk 0
          have HNa : Aside0 (∀ a, Calls Tryd.prog 34 #[.string f.f0] (W1.drewN a) fun e w'' => e = .returned (.bool true) ∧ ∃ n, w'' = W1.drewN n) := ⟨fun a => (show Calls Tryd.prog 34 #[.string f.f0] (W1.drewN a) fun e w' => e = .returned (.bool true) ∧ Drawn0 (W1.drewN a) w' by have := pnamed_calls f.f0 (HNm.out f (List.mem_of_getElem? HFi.out)) (W1.drewN a); rwa [HNV.out] at this).mono fun e w'' h => ⟨h.1, by obtain ⟨n, hn⟩ := h.2.out; subst hn; exact (((Drawn0.refl W1).step a).step n).out⟩⟩
          have HBW := Aside0.mk hbw
          have HP1 := Aside0.mk hP1
          have HW1 := Aside0.mk hW1
          clear hW1 hbw hP1 x0 x1 x2 z3
          go_quiet (exact HNa.out _)
          go_wp2
          go_ret2
          exact HBad.out _ ((HB.out.trans (HBW.out.mono HB.out.size)).trans (((Drawn0.refl W1).step _).below.mono (HB.out.trans (HBW.out.mono HB.out.size)).size))
        by_cases hneg : f.f2 < 0
        · have HBad := Aside0.mk (HBad.out (fun h => by have := h.2.2.2.1; omega))
          have c1 : decide ((2097152 : Int) < (f.f1.length : Int)) = false := decide_eq_false (by omega)
          have c2 : decide (2097152 < f.f1.length) = false := decide_eq_false hbig
          have c3 : f.f2 < 0 := hneg
          clear hbig hneg
          go_upto_region 7 with fail
          obtain ⟨W1, hW1⟩ : ∃ W1, W1 = wr.alloc (.cells #[.string f.f0, .slice Ab f.f1.length cb, .int .i64 f.f2] 42) := ⟨_, rfl⟩
          rw [← hW1]
          obtain ⟨z0, z1, z2, hbw, z3⟩ := pbox_read hW1
          have hP1 := HRg.out W1 hbw
          have c0 : W1.cell? ⟨w.heap.size + 1, 0, none⟩ = some (.map (some w.heap.size)) := (blk_cell hP1.blk 0).trans rfl
          have hlk : ∀ n, (Instr.lookup 71 (.map (some w.heap.size)) (.string f.f0) false).run Tryd.prog (W1.drewN n) = .ok (.pointer none) (W1.drewN n) := fun n => by have := (hP1.below ((Drawn0.refl W1).step n).below).look HRi.out f.f0 (HNm.out f (List.mem_of_getElem? HFi.out)); rwa [show (Dk.start acc).fs = acc from rfl, if_neg (by rw [hth]; simp)] at this
          have hlk0 : (Instr.lookup 71 (.map (some w.heap.size)) (.string f.f0) false).run Tryd.prog W1 = .ok (.pointer none) W1 := hlk 0
          have HNa : Aside0 (∀ a, Calls Tryd.prog 34 #[.string f.f0] (W1.drewN a) fun e w'' => e = .returned (.bool true) ∧ ∃ n, w'' = W1.drewN n) := ⟨fun a => (show Calls Tryd.prog 34 #[.string f.f0] (W1.drewN a) fun e w' => e = .returned (.bool true) ∧ Drawn0 (W1.drewN a) w' by have := pnamed_calls f.f0 (HNm.out f (List.mem_of_getElem? HFi.out)) (W1.drewN a); rwa [HNV.out] at this).mono fun e w'' h => ⟨h.1, by obtain ⟨n, hn⟩ := h.2.out; subst hn; exact (((Drawn0.refl W1).step a).step n).out⟩⟩
          have HBW := Aside0.mk hbw
          have HP1 := Aside0.mk hP1
          have HW1 := Aside0.mk hW1
          clear hW1 hbw hP1 x0 x1 x2 z3
          go_quiet (exact HNa.out _)
          go_wp2
          go_ret2
          exact HBad.out _ ((HB.out.trans (HBW.out.mono HB.out.size)).trans (((Drawn0.refl W1).step _).below.mono (HB.out.trans (HBW.out.mono HB.out.size)).size))
        by_cases hov : (f.f1.length : Int) < f.f2
        · have HBad := Aside0.mk (HBad.out (fun h => by have := h.2.2.2.2; omega))
          have c1 : decide ((2097152 : Int) < (f.f1.length : Int)) = false := decide_eq_false (by omega)
          have c2 : decide (2097152 < f.f1.length) = false := decide_eq_false hbig
          have c3 : decide (f.f2 < 0) = false := decide_eq_false hneg
          have c4 : (f.f1.length : Int) < f.f2 := hov
          clear hbig hneg hov
          go_upto_region 7 with fail
          obtain ⟨W1, hW1⟩ : ∃ W1, W1 = wr.alloc (.cells #[.string f.f0, .slice Ab f.f1.length cb, .int .i64 f.f2] 42) := ⟨_, rfl⟩
          rw [← hW1]
          obtain ⟨z0, z1, z2, hbw, z3⟩ := pbox_read hW1
          have hP1 := HRg.out W1 hbw
          have c0 : W1.cell? ⟨w.heap.size + 1, 0, none⟩ = some (.map (some w.heap.size)) := (blk_cell hP1.blk 0).trans rfl
          have hlk : ∀ n, (Instr.lookup 71 (.map (some w.heap.size)) (.string f.f0) false).run Tryd.prog (W1.drewN n) = .ok (.pointer none) (W1.drewN n) := fun n => by have := (hP1.below ((Drawn0.refl W1).step n).below).look HRi.out f.f0 (HNm.out f (List.mem_of_getElem? HFi.out)); rwa [show (Dk.start acc).fs = acc from rfl, if_neg (by rw [hth]; simp)] at this
          have hlk0 : (Instr.lookup 71 (.map (some w.heap.size)) (.string f.f0) false).run Tryd.prog W1 = .ok (.pointer none) W1 := hlk 0
          have HNa : Aside0 (∀ a, Calls Tryd.prog 34 #[.string f.f0] (W1.drewN a) fun e w'' => e = .returned (.bool true) ∧ ∃ n, w'' = W1.drewN n) := ⟨fun a => (show Calls Tryd.prog 34 #[.string f.f0] (W1.drewN a) fun e w' => e = .returned (.bool true) ∧ Drawn0 (W1.drewN a) w' by have := pnamed_calls f.f0 (HNm.out f (List.mem_of_getElem? HFi.out)) (W1.drewN a); rwa [HNV.out] at this).mono fun e w'' h => ⟨h.1, by obtain ⟨n, hn⟩ := h.2.out; subst hn; exact (((Drawn0.refl W1).step a).step n).out⟩⟩
          have HBW := Aside0.mk hbw
          have HP1 := Aside0.mk hP1
          have HW1 := Aside0.mk hW1
          clear hW1 hbw hP1 x0 x1 x2 z3
          go_quiet (exact HNa.out _)
          go_wp2
          go_ret2
          exact HBad.out _ ((HB.out.trans (HBW.out.mono HB.out.size)).trans (((Drawn0.refl W1).step _).below.mono (HB.out.trans (HBW.out.mono HB.out.size)).size))
        · have HG : Aside0 (goodF acc f) := ⟨⟨hnm, hth, by omega, by omega, by omega⟩⟩
          have c1 : decide ((2097152 : Int) < (f.f1.length : Int)) = false := decide_eq_false (by omega)
          have c2 : decide (2097152 < f.f1.length) = false := decide_eq_false hbig
          have c3 : decide (f.f2 < 0) = false := decide_eq_false hneg
          have c4 : decide ((f.f1.length : Int) < f.f2) = false := decide_eq_false hov
          clear hbig hneg hov HBad
          go_upto_region 7 with fail
          obtain ⟨W1, hW1⟩ : ∃ W1, W1 = wr.alloc (.cells #[.string f.f0, .slice Ab f.f1.length cb, .int .i64 f.f2] 42) := ⟨_, rfl⟩
          rw [← hW1]
          obtain ⟨z0, z1, z2, hbw, z3⟩ := pbox_read hW1
          have hP1 := HRg.out W1 hbw
          have c0 : W1.cell? ⟨w.heap.size + 1, 0, none⟩ = some (.map (some w.heap.size)) := (blk_cell hP1.blk 0).trans rfl
          have hlk : ∀ n, (Instr.lookup 71 (.map (some w.heap.size)) (.string f.f0) false).run Tryd.prog (W1.drewN n) = .ok (.pointer none) (W1.drewN n) := fun n => by have := (hP1.below ((Drawn0.refl W1).step n).below).look HRi.out f.f0 (HNm.out f (List.mem_of_getElem? HFi.out)); rwa [show (Dk.start acc).fs = acc from rfl, if_neg (by rw [hth]; simp)] at this
          have hlk0 : (Instr.lookup 71 (.map (some w.heap.size)) (.string f.f0) false).run Tryd.prog W1 = .ok (.pointer none) W1 := hlk 0
          have HNa : Aside0 (∀ a, Calls Tryd.prog 34 #[.string f.f0] (W1.drewN a) fun e w'' => e = .returned (.bool true) ∧ ∃ n, w'' = W1.drewN n) := ⟨fun a => (show Calls Tryd.prog 34 #[.string f.f0] (W1.drewN a) fun e w' => e = .returned (.bool true) ∧ Drawn0 (W1.drewN a) w' by have := pnamed_calls f.f0 (HNm.out f (List.mem_of_getElem? HFi.out)) (W1.drewN a); rwa [HNV.out] at this).mono fun e w'' h => ⟨h.1, by obtain ⟨n, hn⟩ := h.2.out; subst hn; exact (((Drawn0.refl W1).step a).step n).out⟩⟩
          have HBW := Aside0.mk hbw
          have HP1 := Aside0.mk hP1
          have HW1 := Aside0.mk hW1
          clear hW1 hbw hP1 x0 x1 x2 z3
          go_quiet (exact HNa.out _)
          go_wp2
          generalize hW2 : World.drewN W1 _ = W2
          have hb12 : Below W1.heap.size W1 W2 := by rw [← hW2]; exact ((Drawn0.refl W1).step _).below
          have hbw2 := HBW.out.trans (hb12.mono HBW.out.size)
          have hP2 := HRg.out W2 hbw2
          have hcc0 : ∀ W, Below W2.heap.size W2 W → W.cell? ⟨w.heap.size + 1, 0, none⟩ = some (.map (some w.heap.size)) ∧ W.cell? ⟨wr.heap.size, 0, none⟩ = some (.string f.f0) ∧ W.cell? ⟨wr.heap.size, 1, none⟩ = some (.slice Ab f.f1.length cb) ∧ W.cell? ⟨wr.heap.size, 2, none⟩ = some (.int .i64 f.f2) := by
            intro W hW
            have hgx : wr.heap.size < W1.heap.size := World.block_lt_of_cell? _ _ z0
            have hbW := hb12.trans (hW.mono hb12.size)
            exact ⟨(blk_cell (hP2.below hW).blk 0).trans rfl, (hbW.cell (p := ⟨wr.heap.size, 0, none⟩) hgx).trans z0, (hbW.cell (p := ⟨wr.heap.size, 1, none⟩) hgx).trans z1, (hbW.cell (p := ⟨wr.heap.size, 2, none⟩) hgx).trans z2⟩
          have hne : wr.heap.size ≠ w.heap.size := by have := blk_lt hP2.blk; have := HB.out.size; have := (HRg.out wr (Below.refl _ _)).map.lt; omega
          obtain ⟨k0_, k1_, k2_, k3_⟩ := hcc0 W2 (Below.refl _ _)
          have HCC := Aside0.mk hcc0
          have HP2 := Aside0.mk hP2
          have HBW2 := Aside0.mk hbw2
          have HNE := Aside0.mk hne
          have HKey : Aside0 (keyOf Tryd.prog 9 (.string f.f0) = some (.string f.f0.data.toList)) := ⟨WideMaps.keyOf_string_mk Tryd.underlying9 (by have := HNm.out f (List.mem_of_getElem? HFi.out); simp only [maxLen]; omega)⟩
          clear z0 z1 z2 c0 hlk hlk0 hb12 hbw2 hP2 hcc0 hne hW2
          go_region_held3 (fun w' => w'.cell? ⟨w.heap.size + 1, 0, none⟩ = some (.map (some w.heap.size)) ∧ w'.cell? ⟨wr.heap.size, 0, none⟩ = some (.string f.f0) ∧ w'.cell? ⟨wr.heap.size, 1, none⟩ = some (.slice Ab f.f1.length cb) ∧ w'.cell? ⟨wr.heap.size, 2, none⟩ = some (.int .i64 f.f2))
            (first | go_keep | exact HCC.out _ HB3.out | exact HCC.out _ (HB3.out.trans ((below_alloc (Below.refl _ _) _).mono HB3.out.size)) | exact HS5.out)
            (first
              | (go_at_call 27; refine Calls.mono (clone_calls Ab cb f.f1 W2.drew (by have := HG.out.2.2.1; omega) HCb.out (HRd.out.below (HBW2.out.trans (((Drawn0.refl W2).step 1).below.mono HBW2.out.size)))) ?_; rintro e w3 ⟨v3, rfl, ho, hb⟩; have hb3 := ((Drawn0.refl W2).step 1).below.trans hb; obtain ⟨A3, C3, rfl, _⟩ := own_form ho; obtain ⟨W4, hW4⟩ : ∃ W4, W4 = w3.alloc (.cells #[.slice A3 f.f1.length C3, .int .i64 f.f2] 76) := ⟨_, rfl⟩; obtain ⟨col4, hP4, hx4, hr4, ht4, hl4, hb4, hc4⟩ := padd_block (f := f) HP2.out hb3 ho hW4; obtain ⟨w5, hrun, hm5, hg5⟩ := hP4.map.update lawS Tryd.underlying71 HAl.out HKey.out (ptrE_mk w3.heap.size); obtain ⟨hP5, hc5⟩ := hP4.add HRi.out (f := f) hth hx4 hr4 ht4 hl4 hg5 hm5; have HP5 := Aside0.mk hP5; have HB5 := Aside0.mk (hc5.below); have HS5 : Aside0 (World.cell? w5 ⟨w.heap.size + 1, 0, none⟩ = some (.map (some w.heap.size)) ∧ World.cell? w5 ⟨wr.heap.size, 0, none⟩ = some (.string f.f0) ∧ World.cell? w5 ⟨wr.heap.size, 1, none⟩ = some (.slice Ab f.f1.length cb) ∧ World.cell? w5 ⟨wr.heap.size, 2, none⟩ = some (.int .i64 f.f2)) := ⟨pnew_keep (HCC.out _ hb4) hg5 HNE.out⟩; rw [hW4] at hrun; have HP4 := Aside0.mk hP4; have HX4 := Aside0.mk hx4; have HR4 := Aside0.mk hr4; have HT4 := Aside0.mk ht4; have HL4 := Aside0.mk hl4; have HB4 := Aside0.mk hb4; have HB3 := Aside0.mk hb3; have HW4 := Aside0.mk hW4; clear ho hb hb3 hW4 hP4 hx4 hr4 ht4 hl4 hb4 hc4 hm5 hg5 hP5 hc5))
          go_wp2
          exact ⟨⟨i + 1, addF acc f, col4, _, H1.out, by first | exact HEQ.out | exact HEQ2.out, HGo.out HG.out, by rw [addF_len, HAcc.out], rises_add HRi.out hth, HP5.out, ((HB.out.trans (HBW2.out.mono HB.out.size)).trans (HB4.out.mono (HB.out.trans (HBW2.out.mono HB.out.size)).size)).trans HB5.out⟩, by first | exact HMS.out | exact HMS2.out⟩
      · have HBad := Aside0.mk (HBad.out (fun h => by have := h.2.1; rw [hth] at this; cases this))
        cases hnm : Nm f.f0
        · have HNV := Aside0.mk hnm
          go_upto_region 7 with fail
          obtain ⟨W1, hW1⟩ : ∃ W1, W1 = wr.alloc (.cells #[.string f.f0, .slice Ab f.f1.length cb, .int .i64 f.f2] 42) := ⟨_, rfl⟩
          rw [← hW1]
          obtain ⟨z0, z1, z2, hbw, z3⟩ := pbox_read hW1
          have hP1 := HRg.out W1 hbw
          have c0 : W1.cell? ⟨w.heap.size + 1, 0, none⟩ = some (.map (some w.heap.size)) := (blk_cell hP1.blk 0).trans rfl
          have hlk : ∀ n, (Instr.lookup 71 (.map (some w.heap.size)) (.string f.f0) false).run Tryd.prog (W1.drewN n) = .ok (.pointer (some ⟨gb f.f0, 0, none⟩)) (W1.drewN n) := fun n => by have := (hP1.below ((Drawn0.refl W1).step n).below).look HRi.out f.f0 (HNm.out f (List.mem_of_getElem? HFi.out)); rwa [show (Dk.start acc).fs = acc from rfl, if_pos hth] at this
          have hlk0 : (Instr.lookup 71 (.map (some w.heap.size)) (.string f.f0) false).run Tryd.prog W1 = .ok (.pointer (some ⟨gb f.f0, 0, none⟩)) W1 := hlk 0
          have HNa : Aside0 (∀ a, Calls Tryd.prog 34 #[.string f.f0] (W1.drewN a) fun e w'' => e = .returned (.bool false) ∧ ∃ n, w'' = W1.drewN n) := ⟨fun a => (show Calls Tryd.prog 34 #[.string f.f0] (W1.drewN a) fun e w' => e = .returned (.bool false) ∧ Drawn0 (W1.drewN a) w' by have := pnamed_calls f.f0 (HNm.out f (List.mem_of_getElem? HFi.out)) (W1.drewN a); rwa [HNV.out] at this).mono fun e w'' h => ⟨h.1, by obtain ⟨n, hn⟩ := h.2.out; subst hn; exact (((Drawn0.refl W1).step a).step n).out⟩⟩
          have HBW := Aside0.mk hbw
          have HP1 := Aside0.mk hP1
          have HW1 := Aside0.mk hW1
          clear hW1 hbw hP1 x0 x1 x2 z3
          go_quiet (exact HNa.out _)
          go_wp2
          go_ret2
          exact HBad.out _ ((HB.out.trans (HBW.out.mono HB.out.size)).trans (((Drawn0.refl W1).step _).below.mono (HB.out.trans (HBW.out.mono HB.out.size)).size))
        · have HNV := Aside0.mk hnm
          go_upto_region 7 with fail
          obtain ⟨W1, hW1⟩ : ∃ W1, W1 = wr.alloc (.cells #[.string f.f0, .slice Ab f.f1.length cb, .int .i64 f.f2] 42) := ⟨_, rfl⟩
          rw [← hW1]
          obtain ⟨z0, z1, z2, hbw, z3⟩ := pbox_read hW1
          have hP1 := HRg.out W1 hbw
          have c0 : W1.cell? ⟨w.heap.size + 1, 0, none⟩ = some (.map (some w.heap.size)) := (blk_cell hP1.blk 0).trans rfl
          have hlk : ∀ n, (Instr.lookup 71 (.map (some w.heap.size)) (.string f.f0) false).run Tryd.prog (W1.drewN n) = .ok (.pointer (some ⟨gb f.f0, 0, none⟩)) (W1.drewN n) := fun n => by have := (hP1.below ((Drawn0.refl W1).step n).below).look HRi.out f.f0 (HNm.out f (List.mem_of_getElem? HFi.out)); rwa [show (Dk.start acc).fs = acc from rfl, if_pos hth] at this
          have hlk0 : (Instr.lookup 71 (.map (some w.heap.size)) (.string f.f0) false).run Tryd.prog W1 = .ok (.pointer (some ⟨gb f.f0, 0, none⟩)) W1 := hlk 0
          have HNa : Aside0 (∀ a, Calls Tryd.prog 34 #[.string f.f0] (W1.drewN a) fun e w'' => e = .returned (.bool true) ∧ ∃ n, w'' = W1.drewN n) := ⟨fun a => (show Calls Tryd.prog 34 #[.string f.f0] (W1.drewN a) fun e w' => e = .returned (.bool true) ∧ Drawn0 (W1.drewN a) w' by have := pnamed_calls f.f0 (HNm.out f (List.mem_of_getElem? HFi.out)) (W1.drewN a); rwa [HNV.out] at this).mono fun e w'' h => ⟨h.1, by obtain ⟨n, hn⟩ := h.2.out; subst hn; exact (((Drawn0.refl W1).step a).step n).out⟩⟩
          have HBW := Aside0.mk hbw
          have HP1 := Aside0.mk hP1
          have HW1 := Aside0.mk hW1
          clear hW1 hbw hP1 x0 x1 x2 z3
          go_quiet (exact HNa.out _)
          go_wp2
          go_ret2
          exact HBad.out _ ((HB.out.trans (HBW.out.mono HB.out.size)).trans (((Drawn0.refl W1).step _).below.mono (HB.out.trans (HBW.out.mono HB.out.size)).size))
    · have k5 : decide (i < fs.length) = false := decide_eq_false h1
      have k6 : decide ((i : Int) < (fs.length : Int)) = false := decide_eq_false (by omega)
      have HFin : Aside0 (PNewPost w wr (.returned (.tuple #[.pointer (some ⟨w.heap.size + 1, 0, none⟩), .int .i64 0])) (newL [] fs)) := ⟨by
        rw [hnew, List.drop_eq_nil_of_le (by omega)]
        exact ⟨_, _, rfl, hB, _, gb, false, 0, hR⟩⟩
      clear h1 hi hnew hacc hR hB hri
      go_wp2
      go_ret2
      exact HFin.out
end Go.Proofs.YthneomomhoilkaaDoor.PA
