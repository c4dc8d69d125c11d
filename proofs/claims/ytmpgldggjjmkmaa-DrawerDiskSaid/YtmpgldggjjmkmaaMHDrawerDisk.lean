/- The law DrawerDisk walked: two disks over one list of files, a script. Condition: the lists are ones that can be. -/
import Derived.Test.YtmpgldggjjmkmaaMHDiskB
import Derived.Test.YtmpgldggjjmkmaaMHDiskC
import Derived.Test.YtmpgldggjjmkmaaML
namespace Go.Proofs.Ytmpgldggjjmkmaa.PA
open Go.RowKit Go.Maps Go.Proofs.YtmpgldggjjmkmaaW.PrintWords Go.Proofs.YtmpgldggjjmkmaaW.PrintLast Go.Proofs.YtmpgldggjjmkmaaW.PrintMore
set_option linter.unusedVariables false
set_option linter.unusedSimpArgs false
theorem disk_calls {b : Nat} {w W : World} {col : RCol} {g gP gR : Nat} {o : OpV} {d : Dk} (h : PrSt b W col g gP gR d) (hold : Below b w W) (hin : OpIn w o) (hb : b = w.heap.size) :
    Calls Try.prog 5 #[.pointer (some ⟨g, 0, none⟩), .agg o.cells] W fun e w' => DiskPost b w g gP gR e w' := by
  by_cases h1 : o.kind = 1
  · exact disk_append h hold hin hb h1
  by_cases h2 : o.kind = 2
  · exact disk_sync h hold hin hb h2
  by_cases h3 : o.kind = 3
  · exact disk_trim h hold hin hb h3
  by_cases h4 : o.kind = 4
  · exact disk_remove h hold hin hb h4
  by_cases h5 : o.kind = 5
  · exact disk_read h hold hin hb h5
  by_cases h6 : o.kind = 6
  · exact disk_arm h hold hin hb h6
  by_cases h7 : o.kind = 7
  · exact disk_fail h hold hin hb h7
  by_cases h8 : o.kind = 8
  · exact disk_crash h hold hin hb h8
  by_cases h9 : o.kind = 9
  · exact disk_restart h hold hin hb h9
  by_cases h10 : o.kind = 10
  · exact disk_files h hold hin hb h10
  exact disk_other h hold hin hb h1 h2 h3 h4 h5 h6 h7 h8 h9 h10
structure OpsIn (W : World) (A : Option Addr) (os : List OpV) : Prop where
  le : os.length ≤ 9223372036854775807
  at_ : ∀ (i : Nat) (o : OpV), os[i]? = some o → ∃ ad, A = some ad ∧ (∀ j u, o.cells[j]? = some u → W.cell? (ad.add (i * 8 + j)) = some u)
  inn : ∀ (i : Nat) (o : OpV), os[i]? = some o → OpIn W o
theorem op_cells {W : World} {ad : Addr} {i : Nat} {o : OpV} (h : ∀ j u, o.cells[j]? = some u → W.cell? (ad.add (i * 8 + j)) = some u) :
    W.cell? (ad.add (i * 8)) = some (.int .i64 o.kind) ∧ W.cell? ⟨(ad.add (i * 8)).block, (ad.add (i * 8)).off + 1, none⟩ = some (.int .i64 o.n) ∧ W.cell? ⟨(ad.add (i * 8)).block, (ad.add (i * 8)).off + 2, none⟩ = some (.int .i64 o.m) ∧ W.cell? ⟨(ad.add (i * 8)).block, (ad.add (i * 8)).off + 3, none⟩ = some (.bool o.sec) ∧ W.cell? ⟨(ad.add (i * 8)).block, (ad.add (i * 8)).off + 4, none⟩ = some (.string o.nm) ∧ W.cell? ⟨(ad.add (i * 8)).block, (ad.add (i * 8)).off + 5, none⟩ = some (.slice o.DA o.data.length o.dc) ∧ W.cell? ⟨(ad.add (i * 8)).block, (ad.add (i * 8)).off + 6, none⟩ = some (.slice o.KA o.keep.length o.kc) ∧ W.cell? ⟨(ad.add (i * 8)).block, (ad.add (i * 8)).off + 7, none⟩ = some (.int .u32 o.sum) := by
  have hf : ∀ (k : Nat) u, 0 < k → o.cells[k]? = some u → W.cell? ⟨(ad.add (i * 8)).block, (ad.add (i * 8)).off + k, none⟩ = some u := fun k u hk hu => by
    rw [← add_field _ _ k hk]; exact h k u hu
  exact ⟨h 0 _ rfl, hf 1 _ (by omega) rfl, hf 2 _ (by omega) rfl, hf 3 _ (by omega) rfl, hf 4 _ (by omega) rfl, hf 5 _ (by omega) rfl, hf 6 _ (by omega) rfl, hf 7 _ (by omega) rfl⟩
theorem op_keep {w W : World} {ad : Addr} {i : Nat} {o : OpV} (h : ∀ j u, o.cells[j]? = some u → w.cell? (ad.add (i * 8 + j)) = some u) (hb : Below w.heap.size w W) : ∀ j u, o.cells[j]? = some u → W.cell? (ad.add (i * 8 + j)) = some u :=
  fun j u hu => (hb.cell (World.block_lt_of_cell? _ _ (h j u hu))).trans (h j u hu)
theorem PrSt.go {b : Nat} {W W' : World} {col : RCol} {g gP gR : Nat} {d : Dk} (h : PrSt b W col g gP gR d) (hb : Below W.heap.size W W') : PrSt b W' col g gP gR d := by
  have hl : b ≤ W.heap.size := Nat.le_trans h.le (Nat.le_of_lt (blk_lt h.blk))
  have m : Ch b W col W' col (fun _ => False) := Ch.of_below hb hl
  exact ⟨m.blk h.blk (fun h => h), h.tag, h.le, h.args, h.p.ch m (fun _ _ h => h), h.r.ch m (fun _ _ h => h), h.ok⟩
theorem PrSt.size {b : Nat} {W : World} {col : RCol} {g gP gR : Nat} {d : Dk} (h : PrSt b W col g gP gR d) : b ≤ W.heap.size := Nat.le_trans h.le (Nat.le_of_lt (blk_lt h.blk))
theorem PrSt.drew {b : Nat} {W : World} {col : RCol} {g gP gR : Nat} {d : Dk} (h : PrSt b W col g gP gR d) : PrSt b W.drew col g gP gR d := h.go ((Drawn0.refl W).step 1).below
theorem PrSt.cP {b : Nat} {W : World} {col : RCol} {g gP gR : Nat} {d : Dk} (h : PrSt b W col g gP gR d) : W.cell? ⟨g, 0, none⟩ = some (.pointer (some ⟨gP, 0, none⟩)) := (blk_cell h.blk 0).trans rfl
theorem PrSt.cR {b : Nat} {W : World} {col : RCol} {g gP gR : Nat} {d : Dk} (h : PrSt b W col g gP gR d) : W.cell? ⟨g, 2, none⟩ = some (.pointer (some ⟨gR, 0, none⟩)) := (blk_cell h.blk 2).trans rfl
def PrAt (b : Nat) (w : World) (g gP gR : Nat) (W : World) : Prop := ∃ col d, PrSt b W col g gP gR d ∧ Below b w W
theorem PrAt.go {b : Nat} {w W W' : World} {g gP gR : Nat} (h : PrAt b w g gP gR W) (hb : Below W.heap.size W W') : PrAt b w g gP gR W' := by
  obtain ⟨col, d, h1, h2⟩ := h
  exact ⟨col, d, h1.go hb, h2.trans (hb.mono h1.size)⟩
set_option maxRecDepth 100000 in
set_option maxHeartbeats 8000000 in
theorem drawerDisk_calls (A B : Option Addr) (c e0 : Nat) (fs : List Fl) (os : List OpV) (w : World) (hK : Kd.C k74 w A fs.length fs) (hc : fs.length ≤ c) (hnm : ∀ f ∈ fs, f.f0.size ≤ 140737488355328) (hln : ∀ f ∈ fs, f.f1.length ≤ 140737488351232) (hfl : fs.length * 48 ≤ 140737488351232) (hO : OpsIn w B os) :
    Calls Try.prog 3 #[.slice A fs.length c, .slice B os.length e0] w fun e w' => e = .returned (.bool true) ∧ Below w.heap.size w w' := by
  obtain ⟨b, hb⟩ : ∃ b, b = w.heap.size := ⟨_, rfl⟩
  have HB := Aside0.mk hb
  have HM := Aside0.mk (made_calls A c fs w hK hc hnm hln hfl)
  have HO := Aside0.mk hO
  clear hK hc hnm hln hfl hO hb
  rcases hnew : newS fs with _ | l
  · go_enter Try.func3, Try.ntmps3
    go_wp2_with (go_at_call 4; refine Calls.mono HM.out ?_; rintro e w1 hp; rw [hnew] at hp; obtain ⟨g, rfl, hg, hb1⟩ := hp; have c0 : World.cell? w1 ⟨g, 0, none⟩ = some (.pointer none) := (blk_cell hg 0).trans rfl; have HB1 := Aside0.mk hb1; clear hb1)
    go_ret
    exact ⟨rfl, HB1.out⟩
  · go_enter Try.func3, Try.ntmps3
    go_wp2_with (go_at_call 4; refine Calls.mono HM.out ?_; rintro e w1 hp; rw [hnew] at hp; obtain ⟨g, gP, gR, col, rfl, hg, hb1⟩ := hp; have c0 := hg.cP; have HP := Aside0.mk (show PrAt b w g gP gR w1 from HB.out ▸ ⟨col, _, hg, hb1⟩); clear hb1 hg)
    clear c0
    go_loopw [7] (fun v7 wr => ∃ i : Nat, i ≤ os.length ∧ v7 = .int .i64 i ∧ PrAt b w g gP gR wr) (fun v7 _ => os.length - (intOf v7).toNat)
    case atStart => exact ⟨0, by omega, rfl, HP.out⟩
    case round =>
      clear HP HM
      obtain ⟨i, hi, rfl, col2, d, hP, hB⟩ := hrel
      have hOl := HO.out.le
      by_cases h1 : i < os.length
      · obtain ⟨o, ho⟩ : ∃ o, os[i]? = some o := ⟨_, List.getElem?_eq_getElem h1⟩
        obtain ⟨ad, rfl, hcl⟩ := HO.out.at_ i o ho
        have HIN := Aside0.mk (HO.out.inn i o ho)
        have HCL : Aside0 (∀ W, Below b w W → W.cell? (ad.add (i * 8)) = some (.int .i64 o.kind) ∧ W.cell? ⟨(ad.add (i * 8)).block, (ad.add (i * 8)).off + 1, none⟩ = some (.int .i64 o.n) ∧ W.cell? ⟨(ad.add (i * 8)).block, (ad.add (i * 8)).off + 2, none⟩ = some (.int .i64 o.m) ∧ W.cell? ⟨(ad.add (i * 8)).block, (ad.add (i * 8)).off + 3, none⟩ = some (.bool o.sec) ∧ W.cell? ⟨(ad.add (i * 8)).block, (ad.add (i * 8)).off + 4, none⟩ = some (.string o.nm) ∧ W.cell? ⟨(ad.add (i * 8)).block, (ad.add (i * 8)).off + 5, none⟩ = some (.slice o.DA o.data.length o.dc) ∧ W.cell? ⟨(ad.add (i * 8)).block, (ad.add (i * 8)).off + 6, none⟩ = some (.slice o.KA o.keep.length o.kc) ∧ W.cell? ⟨(ad.add (i * 8)).block, (ad.add (i * 8)).off + 7, none⟩ = some (.int .u32 o.sum)) := ⟨fun W h => op_cells (op_keep hcl (HB.out ▸ h))⟩
        have ci : (i : Int) < (os.length : Int) := by omega
        have HK3 : Aside0 (wrap64 ((i : Int) + 1) = ((i : Int) + 1)) := ⟨PA.wr (by omega) (by omega)⟩
        have HEQ := Aside0.mk (congrArg (Value.int .i64) (show wrap64 ((i : Int) + 1) = ((i + 1 : Nat) : Int) from HK3.out))
        have HMS := Aside0.mk (meas_lt h1 HK3.out)
        have HEQ2 := Aside0.mk (show Value.int .i64 ((i : Int) + 1) = Value.int .i64 ((i + 1 : Nat) : Int) from rfl)
        have HMS2 := Aside0.mk (meas_lt2 h1)
        have H1 := Aside0.mk (Nat.succ_le_of_lt h1)
        have HP := Aside0.mk hP
        have HBL := Aside0.mk hB
        clear hP hB h1 hi ho hcl
        go_upto_region 7 with fail
        have n0_ := Aside0.mk HP.out.drew; have n1_ := Aside0.mk (show Below b w wr.drew from HBL.out.trans (((Drawn0.refl wr).step 1).below.mono HP.out.size)); clear HP HBL; have HP := n0_; have HBL := n1_; clear n0_ n1_
        have hx0 := HP.out.cP; have hx2 := HP.out.cR
        obtain ⟨y0, y1, y2, y3, y4, y5, y6, y7⟩ := HCL.out _ HBL.out
        go_region_held3 (fun w' => w'.cell? ⟨g, 0, none⟩ = some (.pointer (some ⟨gP, 0, none⟩)) ∧ w'.cell? ⟨g, 2, none⟩ = some (.pointer (some ⟨gR, 0, none⟩)) ∧ w'.cell? (ad.add (i * 8)) = some (.int .i64 o.kind) ∧ w'.cell? ⟨(ad.add (i * 8)).block, (ad.add (i * 8)).off + 1, none⟩ = some (.int .i64 o.n) ∧ w'.cell? ⟨(ad.add (i * 8)).block, (ad.add (i * 8)).off + 2, none⟩ = some (.int .i64 o.m) ∧ w'.cell? ⟨(ad.add (i * 8)).block, (ad.add (i * 8)).off + 3, none⟩ = some (.bool o.sec) ∧ w'.cell? ⟨(ad.add (i * 8)).block, (ad.add (i * 8)).off + 4, none⟩ = some (.string o.nm) ∧ w'.cell? ⟨(ad.add (i * 8)).block, (ad.add (i * 8)).off + 5, none⟩ = some (.slice o.DA o.data.length o.dc) ∧ w'.cell? ⟨(ad.add (i * 8)).block, (ad.add (i * 8)).off + 6, none⟩ = some (.slice o.KA o.keep.length o.kc) ∧ w'.cell? ⟨(ad.add (i * 8)).block, (ad.add (i * 8)).off + 7, none⟩ = some (.int .u32 o.sum))
          (first | go_keep | exact ⟨HP.out.cP, HP.out.cR, HCL.out _ HBL.out⟩)
          (first
            | (go_at_call 5; refine Calls.mono (disk_calls (o := o) HP.out HBL.out HIN.out HB.out) ?_; rintro e w2 ⟨rfl, col3, d3, hp3, hb3⟩; have n0_ := Aside0.mk hp3; have n1_ := Aside0.mk hb3; clear HP HBL hp3 hb3; have HP := n0_; have HBL := n1_; clear n0_ n1_)
            | (go_at_call 7; refine Calls.mono (pfiles_d HP.out.ok HP.out.p) ?_; rintro e w5 hp; obtain ⟨A5, c5, rfl, hc5, hk5, hb5⟩ := FlPost.slice hp; have HC5 := Aside0.mk hc5; have HK5 := Aside0.mk hk5; have n1_ := Aside0.mk (HBL.out.trans (hb5.mono HP.out.size)); have n0_ := Aside0.mk (HP.out.go hb5); clear HP HBL hp hc5 hk5 hb5; have HP := n0_; have HBL := n1_; clear n0_ n1_)
            | (go_at_call 8; refine Calls.mono (rfiles_d _ gR _ _ _ HP.out.r HP.out.ok) ?_; rintro e w6 hp; obtain ⟨A6, c6, rfl, hc6, hk6, hb6⟩ := FlPost.slice hp; have HC6 := Aside0.mk hc6; have HK6 := Aside0.mk hk6; have HK5b := Aside0.mk (Kd.C_below HK5.out hb6); have n1_ := Aside0.mk (HBL.out.trans (hb6.mono HP.out.size)); have n0_ := Aside0.mk (HP.out.go hb6); clear HP HBL hp hc6 hk6 hb6; have HP := n0_; have HBL := n1_; clear n0_ n1_)
            | (go_at_call 6; refine Calls.mono (sameFiles_calls d3.fs (by have := HP.out.ok.few; omega) A5 A6 c5 c6 _ HK5b.out HC5.out HK6.out HC6.out) ?_; rintro e w7 ⟨rfl, hb7⟩; have n1_ := Aside0.mk (HBL.out.trans (hb7.mono HP.out.size)); have n0_ := Aside0.mk (HP.out.go hb7); clear HP HBL hb7; have HP := n0_; have HBL := n1_; clear n0_ n1_))
        go_wp2
        exact ⟨⟨i + 1, H1.out, by first | exact HEQ.out | exact HEQ2.out, _, _, HP.out, HBL.out⟩, by first | exact HMS.out | exact HMS2.out⟩
      · obtain rfl : i = os.length := by omega
        have k5 : decide (os.length < os.length) = false := decide_eq_false h1
        have HBL := Aside0.mk hB
        clear hP hB h1 hi
        go_wp2
        go_ret
        exact ⟨rfl, HB.out ▸ HBL.out⟩
end Go.Proofs.Ytmpgldggjjmkmaa.PA
