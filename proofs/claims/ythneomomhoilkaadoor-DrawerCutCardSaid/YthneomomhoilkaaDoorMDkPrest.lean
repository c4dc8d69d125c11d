/- The program's Restart, walked. Conditions: the disk is one that can be; what its names say. (Printed by gen_prest.py.) -/
import Derived.Test.YthneomomhoilkaaDoorMDkNames
import Derived.BigRegion
import Derived.Test.YthneomomhoilkaaDoorML
namespace Go.Proofs.YthneomomhoilkaaDoor.PA
open Go.RowKit Go.Maps Go.Proofs.YthneomomhoilkaaDoorW.PrintWords Go.Proofs.YthneomomhoilkaaDoorW.PrintLast Go.Proofs.YthneomomhoilkaaDoorW.PrintMore
set_option linter.unusedVariables false
set_option linter.unusedSimpArgs false
set_option maxRecDepth 100000 in
set_option maxHeartbeats 8000000 in
theorem prestart (b g m : Nat) (d : Dk) (gb : ByteArray → Nat) (ar : Bool) (u : Int) (col : RCol) (KA : Option Addr) (kc : Nat) (ks : List Int) (w : World) (hP : PDm b w col g d m gb ar u) (hd : d.Ok) (hX : XInts w col isP KA ks) (hkl : ks.length ≤ 140737488355328)
    (hnames : ∀ W ar' u', PDm b W col g d.fell m gb ar' u' → Calls Tryd.prog 26 #[.pointer (some ⟨g, 0, none⟩)] W fun e w' => NmPost W w' e d.fs) :
    Calls Tryd.prog 15 #[.pointer (some ⟨g, 0, none⟩), .slice KA ks.length kc] w fun e w' => e = .returned (.tuple #[]) ∧ PPost b w col g (d.rest ks) w' := by
  have HCr := Aside0.mk (pcrash g _ d.down ar u d.after d.calls w hP.blk)
  have HSt : Aside0 (∀ w1, w.grownBy w1 (some g) → PB w1 g (.map (some m)) true false 0 0 0 → (∃ ar' u', PDm b w1 col g d.fell m gb ar' u') ∧ Ch b w col w1 col isP) := ⟨fun w1 h1 h2 => ⟨hP.turn h1 ⟨false, 0, h2, rfl, fun h => by simp [Dk.fell] at h⟩ rfl, hP.ch_of h1⟩⟩
  have HNm := Aside0.mk hnames
  have HX0 := Aside0.mk hX
  have HSz := Aside0.mk hd.size
  have HRi := Aside0.mk hd.rises
  have HNa := Aside0.mk hd.names
  have hfew := hd.few
  have HLen := Aside0.mk (restTo_len ks d.fs)
  have HNs := Aside0.mk (restTo_names ks d.fs)
  have HGe := Aside0.mk (restTo_ge ks d.fs)
  have HSuc : Aside0 (∀ i f, d.fs[i]? = some f → restTo ks d.fs (i + 1) = (restTo ks d.fs i).set i (restF ks i f)) := ⟨fun i f h => by rw [restTo, List.getD_eq_getElem?_getD, h]; rfl⟩
  have HRest : Aside0 (d.rest ks = { fs := restTo ks d.fs d.fs.length, down := false, units := -1, after := 0, calls := 0 }) := ⟨rfl⟩
  have HFell : Aside0 (d.fell = { fs := d.fs, down := true, units := -1, after := 0, calls := 0 }) := ⟨rfl⟩
  clear hP hX hd hnames
  generalize d.rest ks = dr at *
  generalize d.fell = df at *
  generalize d.fs = fs at *
  go_enter Tryd.func15, Tryd.ntmps15
  go_wp2_with (first
    | (go_at_call 30; refine HCr.out.mono ?_; rintro e w1 ⟨rfl, hg1, hB1⟩; obtain ⟨⟨ar1, u1, hP1⟩, hc1⟩ := HSt.out w1 hg1 hB1; have HP1 := Aside0.mk hP1; have HC1 := Aside0.mk hc1; clear hg1 hB1 hP1 hc1)
    | (go_at_call 26; refine (HNm.out w1 ar1 u1 HP1.out).mono ?_; rintro e w2 ⟨NA, nc, rfl, hb, hcl⟩; have hc2 : Ch b w1 col w2 (colN col w1.heap.size fun _ => .tm) (fun _ => False) := Ch.of_new hb HP1.out.base _; have HP2 := Aside0.mk (HP1.out.ch hc2 (fun _ _ h => h)); have HC2 := Aside0.mk (HC1.out.trans (hc2.mono fun _ h => h.elim)); have HNc := Aside0.mk (fun i f hf => hcl w2 (Below.refl _ _) i f hf); clear hb hcl hc2))
  obtain ⟨col2, hcol2⟩ : ∃ col2, col2 = colN col w1.heap.size fun _ => .tm := ⟨_, rfl⟩
  have HTm : Aside0 (∀ k, w1.heap.size ≤ k → col2 k = .tm) := ⟨fun k hk => by rw [hcol2]; exact colN_ge hk⟩
  rw [← hcol2] at HP2 HC2
  clear hcol2
  go_loopw [13] (fun v13 wq => ∃ (i : Nat) (ar' : Bool) (u' : Int), i ≤ fs.length ∧ v13 = .int .i64 i ∧ PDm b wq col2 g { fs := restTo ks fs i, down := true, units := -1, after := 0, calls := 0 } m gb ar' u' ∧ Ch b w2 col2 wq col2 isP) (fun v13 _ => fs.length - (intOf v13).toNat)
  case atStart => exact ⟨0, ar1, u1, by omega, rfl, by have := HP2.out; rw [HFell.out] at this; exact this, Ch.refl HP2.out.base⟩
  case round =>
    obtain ⟨i, ar2, u2, hi, rfl, hP, hc⟩ := hrel
    by_cases h1 : i < fs.length
    · obtain ⟨f, hf⟩ : ∃ f, fs[i]? = some f := ⟨_, List.getElem?_eq_getElem h1⟩
      obtain ⟨nad, rfl, n0, hn1, hn2⟩ := HNc.out i f hf
      have n1 : wr.cell? (nad.add i) = some (.string f.f0) := by
        have e1 : (nad.add i).block = nad.block := by unfold Addr.add; split <;> rfl
        rw [← n0]
        unfold World.cell?
        rw [e1, hc.block _ hn2 (by rw [HTm.out _ hn1]; exact fun h => h)]
      have hfl := HLen.out i
      have hgi : (restTo ks fs i)[i]? = some f := by rw [HGe.out i i (Nat.le_refl i)]; exact hf
      have hr2 : Rises (restTo ks fs i) := rises_names HRi.out (HNs.out i hi)
      have hmem := List.mem_of_getElem? hgi
      obtain ⟨ht, hgf⟩ := there_of_mem hr2 hmem
      have hpl : place (restTo ks fs i) f.f0 = i := place_of_get hr2 hgi
      obtain ⟨hsz, hs0, hs1⟩ := HSz.out f (List.mem_of_getElem? hf)
      have hnm := nm_size (HNa.out f (List.mem_of_getElem? hf))
      obtain ⟨s, hs⟩ : ∃ s : Nat, f.f2 = s := ⟨f.f2.toNat, by omega⟩
      obtain ⟨v, hv, hrow⟩ := (hP.files f hmem).ex
      obtain ⟨A, c, rfl, hcc, hrd, hbl⟩ := hrow.reads
      have hlk := hP.look (nm := f.f0) hr2 hnm
      rw [if_pos ht] at hlk
      have c0 : wr.cell? ⟨g, 0, none⟩ = some (.map (some m)) := (blk_cell hP.blk 0).trans rfl
      have x0 : wr.cell? ⟨gb f.f0, 0, none⟩ = some (.slice A f.f1.length c) := (blk_cell hv 0).trans rfl
      have x1 : wr.cell? ⟨gb f.f0, 1, none⟩ = some (.int .i64 s) := by rw [← hs]; exact (blk_cell hv 1).trans rfl
      have y0 := blk_frozen hv 0
      have k1 : (i : Int) < (fs.length : Int) := by omega
      have k2 : (0 : Int) ≤ (i : Int) := by omega
      obtain ⟨K, hK⟩ : ∃ K, K = keepN ks i f := ⟨_, rfl⟩
      have hX := (HX0.out.ch HC2.out (fun _ h => h)).ch hc (fun _ h => h)
      have hXW := fun ad => hX.lt ad
      obtain ⟨D, hD⟩ : ∃ D : Int, D = (f.f1.length : Int) - (s : Int) := ⟨_, rfl⟩
      have hKle : s + K ≤ f.f1.length := by have := keepN_le ks i f hs0 hs1; rw [hK]; rw [hs] at this; exact this
      obtain ⟨M, hM⟩ : ∃ M, M = s + K := ⟨_, rfl⟩
      have HKD : Aside0 (IntKind.i64.wrap ((f.f1.length : Int) - (s : Int)) = D) := ⟨by rw [hD]; exact IntWalk.i64_in _ (by omega)⟩
      have HKD2 : Aside0 (wrap64 ((f.f1.length : Int) - (s : Int)) = D) := ⟨by rw [hD]; exact PA.wr (by omega) (by omega)⟩
      have HKW : Aside0 (IntKind.i64.wrap ((s : Int) + (K : Int)) = (M : Int)) := ⟨by rw [hM]; exact IntWalk.i64_in _ (by omega)⟩
      have HKW2 : Aside0 (wrap64 ((s : Int) + (K : Int)) = (M : Int)) := ⟨by rw [hM]; exact PA.wr (by omega) (by omega)⟩
      have HM3 : Aside0 ((0 : Int) ≤ (M : Int)) := ⟨by omega⟩
      have HM4 : Aside0 ((M : Int) ≤ (c : Int)) := ⟨by omega⟩
      have HK3 : Aside0 (wrap64 ((i : Int) + 1) = ((i : Int) + 1)) := ⟨PA.wr (by omega) (by omega)⟩
      have H1 := Aside0.mk (Nat.succ_le_of_lt h1)
      have HEQ := Aside0.mk (congrArg (Value.int .i64) (show wrap64 ((i : Int) + 1) = ((i + 1 : Nat) : Int) from HK3.out))
      have HMS := Aside0.mk (meas_lt h1 HK3.out)
      have HEQ2 := Aside0.mk (show Value.int .i64 ((i : Int) + 1) = Value.int .i64 ((i + 1 : Nat) : Int) from rfl)
      have HMS2 := Aside0.mk (meas_lt2 h1)
      have HFin : Aside0 (∀ W, wr.grownBy W (some (gb f.f0)) → FB W (gb f.f0) (.slice A M c) M → PDm b W col2 g { fs := restTo ks fs (i + 1), down := true, units := -1, after := 0, calls := 0 } m gb ar2 u2 ∧ Ch b w2 col2 W col2 isP) := ⟨fun W hg hB => by
        have hrF : restF ks i f = { f with f1 := f.f1.take M, f2 := (M : Int) } := by unfold restF; rw [← hK, hs, Int.toNat_natCast, ← hM]
        have hown := own_take hrow.own (m := M) (by omega)
        have hnums : (nums .u8 f.f1).take (M * 1) = nums .u8 (f.f1.take M) := by unfold nums; rw [← List.map_take, Nat.mul_one]
        have hMl : (f.f1.take M).length = M := by rw [List.length_take]; omega
        rw [hnums] at hown
        have hob : ∀ q, (Value.slice A M c).ownBlock = (Value.slice A q c).ownBlock := fun q => by cases A <;> rfl
        have hrow' : BRow b W col2 (.pb f.f0) (.slice A M c) (f.f1.take M) := ⟨by
          rw [hMl]
          exact gb_own hown hg (fun e => by rw [hob f.f1.length] at e; exact own_ne hrow.own hv (by decide) e.symm), fun q hq => hrow.tag q (by rw [← hob f.f1.length]; exact hq)⟩
        obtain ⟨h3, hc3⟩ := hP.set hr2 ht (f := { f with f1 := f.f1.take M, f2 := (M : Int) }) rfl hg hB hrow'
        refine ⟨?_, hc.trans hc3⟩
        unfold setF at h3
        rw [show place ({ fs := restTo ks fs i, down := true, units := -1, after := 0, calls := 0 } : Dk).fs f.f0 = i from hpl, ← hrF] at h3
        rw [HSuc.out i f hf]
        exact h3⟩
      have HB0 : Aside0 (FB wr (gb f.f0) (.slice A f.f1.length c) s) := ⟨by rw [← hs]; exact hv⟩
      by_cases hk0 : ks.length = 0
      · have kk0 : decide ((0 : Int) < (ks.length : Int)) = false := decide_eq_false (by omega)
        have kk1 : decide (0 < ks.length) = false := decide_eq_false (by omega)
        have hK0 : K = 0 := by rw [hK]; unfold keepN keepAt; rw [if_pos hk0]; omega
        have hSM : s = M := by omega
        have hsl : s ≤ f.f1.length := by omega
        clear hP hc hX hXW hrow hrd hbl hv hmem ht hgf hpl hr2 hgi hfl hs0 hs1 hs hK hM hKle hf hi h1 hn1 hn2 hnm hcc hk0 hK0 n0 HKW HKW2
        subst hSM
        clear hD
        have kw0 := HM3.out
        have kw1 := HM4.out
        go_wp2
        go_region
        have hB1 : FB (wr.setCell ⟨gb f.f0, 0, none⟩ (.slice A s c)).drew (gb f.f0) (.slice A s c) s := blk_to HB0.out (by simp)
        have hg1 : wr.grownBy (wr.setCell ⟨gb f.f0, 0, none⟩ (.slice A s c)).drew (some (gb f.f0)) := gb_drew (gb_set (World.grownBy.refl _ _) _ _)
        generalize (wr.setCell ⟨gb f.f0, 0, none⟩ (.slice A s c)).drew = W4 at *
        have d0 : W4.cell? ⟨gb f.f0, 0, none⟩ = some (.slice A s c) := (blk_cell hB1 0).trans rfl
        have d1 : W4.cell? ⟨gb f.f0, 1, none⟩ = some (.int .i64 s) := (blk_cell hB1 1).trans rfl
        have e1 := blk_frozen hB1 1
        have HB1' := Aside0.mk hB1
        have HG1' := Aside0.mk hg1
        clear hB1 hg1 x0 x1 y0 c0
        go_wp2
        have hE := HFin.out _ (gb_set HG1'.out 1 (.int .i64 s)) (blk_to HB1'.out (by simp))
        exact ⟨⟨i + 1, ar2, u2, H1.out, by first | exact HEQ.out | exact HEQ2.out, hE.1, hE.2⟩, by first | exact HMS.out | exact HMS2.out⟩
      · have hkp : 0 < ks.length := by omega
        have kk0 : (0 : Int) < (ks.length : Int) := by omega
        obtain ⟨ka, rfl, xk0⟩ := hX.at hk0 i
        have km1 : (0 : Int) ≤ ((i % ks.length : Nat) : Int) := by omega
        have km2 : ((i % ks.length : Nat) : Int) < (ks.length : Int) := by have := Nat.mod_lt i hkp; omega
        obtain ⟨kp, hkpe⟩ : ∃ kp, kp = keepAt ks i := ⟨_, rfl⟩
        rw [← hkpe] at xk0
        have HKI : Aside0 (min (max kp 0) D = (K : Int)) := ⟨by rw [hK, hD]; unfold keepN; rw [hs, ← hkpe]; omega⟩
        have HMD : Aside0 (Int.tmod (i : Int) (ks.length : Int) = ((i % ks.length : Nat) : Int)) := ⟨(Int.ofNat_tmod i ks.length).symm⟩
        subst hM
        have HKI2 : Aside0 (min (max kp 0) ((f.f1.length : Int) - (s : Int)) = (K : Int)) := ⟨by rw [← hD]; exact HKI.out⟩
        clear hP hc hX hXW hrow hrd hbl hv hmem ht hgf hpl hr2 hgi hfl hs0 hs1 hs hK hf hi h1 hn1 hn2 hnm hcc hk0 n0 hD hkpe hkp HKI HKD HKD2 HKW HKW2
        have ki := HKI2.out
        go_wp2
        go_region
        obtain ⟨W3, hW3⟩ : ∃ W3, W3 = wr.drew := ⟨_, rfl⟩
        rw [← hW3]
        have HB3 : Aside0 (FB W3 (gb f.f0) (.slice A f.f1.length c) s) := ⟨by rw [hW3]; exact HB0.out⟩
        have z0 : W3.cell? ⟨gb f.f0, 0, none⟩ = some (.slice A f.f1.length c) := (blk_cell HB3.out 0).trans rfl
        have z1 : W3.cell? ⟨gb f.f0, 1, none⟩ = some (.int .i64 s) := (blk_cell HB3.out 1).trans rfl
        have z2 := blk_frozen HB3.out 0
        have HW3 := Aside0.mk hW3
        clear hW3 x0 x1 y0 c0 n1 xk0 hlk
        have kw0 := HM3.out
        have kw1 := HM4.out
        go_wp2
        go_region
        have hB1 : FB (W3.setCell ⟨gb f.f0, 0, none⟩ (.slice A (s + K) c)).drew (gb f.f0) (.slice A (s + K) c) s := blk_to HB3.out (by simp)
        have hg1 : W3.grownBy (W3.setCell ⟨gb f.f0, 0, none⟩ (.slice A (s + K) c)).drew (some (gb f.f0)) := gb_drew (gb_set (World.grownBy.refl _ _) _ _)
        generalize (W3.setCell ⟨gb f.f0, 0, none⟩ (.slice A (s + K) c)).drew = W4 at *
        have d0 : W4.cell? ⟨gb f.f0, 0, none⟩ = some (.slice A (s + K) c) := (blk_cell hB1 0).trans rfl
        have d1 : W4.cell? ⟨gb f.f0, 1, none⟩ = some (.int .i64 s) := (blk_cell hB1 1).trans rfl
        have e1 := blk_frozen hB1 1
        have HB1' := Aside0.mk hB1
        have HG1' := Aside0.mk hg1
        clear hB1 hg1 z0 z1 z2
        go_wp2
        have hE := HFin.out _ (((show wr.grownBy W3 (some (gb f.f0)) by rw [HW3.out]; exact gb_drew (World.grownBy.refl wr _))).trans (gb_set HG1'.out 1 (.int .i64 ((s + K : Nat) : Int)))) (blk_to HB1'.out (by simp))
        exact ⟨⟨i + 1, ar2, u2, H1.out, by first | exact HEQ.out | exact HEQ2.out, hE.1, hE.2⟩, by first | exact HMS.out | exact HMS2.out⟩
    · have k5 : decide (i < fs.length) = false := decide_eq_false h1
      have k6 : decide ((i : Int) < (fs.length : Int)) = false := decide_eq_false (by omega)
      have hin : i = fs.length := by omega
      have c1 : wr.cell? ⟨g, 1, none⟩ = some (.bool true) := (blk_cell hP.blk 1).trans rfl
      have c2 := blk_frozen hP.blk 1
      have HFin : Aside0 (PPost b w col g dr (wr.setCell ⟨g, 1, none⟩ (.bool false))) := ⟨by
        have hs : Ch b wr col2 (wr.setCell ⟨g, 1, none⟩ (.bool false)) col2 (fun r => r = .pd) := hP.tag ▸ Ch.one_set hc.le' hP.le 1 _
        rw [HRest.out, ← hin]
        obtain ⟨ar3, u3, h3⟩ := hP.turn (d' := { fs := restTo ks fs i, down := false, units := -1, after := 0, calls := 0 }) (gb_set (World.grownBy.refl _ _) 1 (.bool false)) ⟨ar2, u2, blk_to hP.blk (by simp), hP.arm, hP.unit⟩ rfl
        exact ⟨col2, (HC2.out.trans hc).trans (hs.mono fun r h => h ▸ trivial), m, gb, ar3, u3, h3⟩⟩
      clear h1 hi hP hc
      go_wp2
      go_end0
      exact ⟨rfl, HFin.out⟩
end Go.Proofs.YthneomomhoilkaaDoor.PA
