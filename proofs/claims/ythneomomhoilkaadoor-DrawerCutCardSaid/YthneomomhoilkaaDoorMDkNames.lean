/- The program's names: the map's keys, gathered and sorted. Conditions: the disk is one that can be; the library's sort. -/
import Derived.Test.YthneomomhoilkaaDoorMD
import Derived.Sort.OwnSorted
import Derived.Test.YthneomomhoilkaaDoorML
namespace Go.Proofs.YthneomomhoilkaaDoor.PA
open Go.RowKit Go.Maps Go.Sort Go.Proofs.YthneomomhoilkaaDoorW.PrintWords Go.Proofs.YthneomomhoilkaaDoorW.PrintLast Go.Proofs.YthneomomhoilkaaDoorW.PrintMore
set_option linter.unusedVariables false
set_option linter.unusedSimpArgs false
theorem place_of_get {fs : List Fl} (hs : Rises fs) {i : Nat} {f : Fl} (hf : fs[i]? = some f) : place fs f.f0 = i := by
  have hi : i < fs.length := (List.getElem?_eq_some_iff.1 hf).1
  have e : fs[i] = f := (List.getElem?_eq_some_iff.1 hf).2
  refine place_is (by omega) (fun j x hj hx => ?_) (fun x hx => ?_)
  · have hjl : j < fs.length := by omega
    have e2 : fs[j] = x := (List.getElem?_eq_some_iff.1 hx).2
    have := List.pairwise_iff_getElem.1 hs _ _ hjl hi hj
    rwa [e, e2] at this
  · rw [hf] at hx
    injection hx with hx
    subst hx
    exact List.lt_irrefl _
def SortC : Prop := ∀ (blk cap : Nat) (ss : List (List UInt8)) (w : World), Holds encStr w blk 0 ss.toArray → blk < w.heap.size → ss.length < 4611686018427387904 →
  Calls Tryd.prog 40 #[.slice (some ⟨blk, 0, none⟩) ss.length cap] w fun e w' => e = .returned (.tuple #[]) ∧ ∃ n os, w' = grow (putRow encStr (Sort.ahead w n) blk 0 (ss.mergeSort fun x y => decide (x ≤ y)).toArray) os
def SortNil : Prop := ∀ w : World, Calls Tryd.prog 40 #[.slice none 0 0] w fun e w' => e = .returned (.tuple #[]) ∧ w' = w
theorem infoS : (Tryd.prog.info? 9).map (fun i => (i.zero, i.size, i.bytes)) = some (some (.string ⟨#[]⟩), 1, 16) := by kernel_rfl
set_option maxRecDepth 100000 in
set_option maxHeartbeats 4000000 in
theorem names_calls (hsort : SortC) (hnil : SortNil) (b g m : Nat) (d : Dk) (gb : ByteArray → Nat) (ar : Bool) (u : Int) (col : RCol) (w : World) (hP : PDm b w col g d m gb ar u) (hd : d.Ok) :
    Calls Tryd.prog 26 #[.pointer (some ⟨g, 0, none⟩)] w fun e w' => NmPost w w' e d.fs := by
  have hmap := hP.map
  have hr := hd.rises
  have hfew := hd.few
  have hsz : Maps.size (mapD (H := Unit) d.fs gb) ≤ 40 := by rw [mapD_size]; exact hfew
  have hml := hmap.lt
  have c0 : w.cell? ⟨g, 0, none⟩ = some (.map (some m)) := (blk_cell hP.blk 0).trans rfl
  have HM := Aside0.mk hmap
  have HR := Aside0.mk hr
  have HS := Aside0.mk hsz
  have HSo := Aside0.mk hsort
  have HNi := Aside0.mk hnil
  have HML := Aside0.mk hml
  clear hP hd hmap hr hfew hsz hsort hnil hml
  generalize d.fs = fs at *
  go_enter Tryd.func26, Tryd.ntmps26
  go_wp2_with (at_range; refine wpList_range_own _ rfl _ 71 rfl 9 70 lawS Tryd.underlying71 ptrE m fs.length (mapD fs gb) rfl HM.out ?_; intro w0 hrg0 hg0 hs0; have HRg := Aside0.mk hrg0; have HG0 := Aside0.mk hg0; have HS0 := Aside0.mk hs0; clear hrg0 hg0 hs0)
  go_frame
  go_loopw [3] (fun v3 wr => ∃ (left : Lit → Bool) (cnt : Nat) (ss : List (List UInt8)), wr.ranges Tryd.prog 9 ptrE m w.heap.size fs.length (mapD fs gb) left cnt ∧ ss.length + cnt ≤ Maps.size (mapD (H := Unit) fs gb) ∧
      wr.ownsRow w.heap.size 9 1 v3 ss.length (ss.map encStr) ∧ (v3 = .slice none 0 0 → ss = []) ∧ Collected (mapD fs gb) left ss ∧ Below w.heap.size w wr) (fun _ wr => wr.rangeLeft m w.heap.size)
  case atStart => exact ⟨_, _, [], HRg.out, by simp, own_nil _ _ _ _, fun _ => rfl, Collected.start _, (Below.refl _ _).grown HG0.out (Nat.le_refl _) (fun j hj => by cases hj)⟩
  case round =>
    obtain ⟨left, cnt, ss, hrg, hcs, hrow, hnn, hC, hnx⟩ := hrel
    have HRg := Aside0.mk hrg
    have HCs := Aside0.mk hcs
    have HRow := Aside0.mk hrow
    have HNn := Aside0.mk hnn
    have HC := Aside0.mk hC
    have HNx := Aside0.mk hnx
    clear hrg hcs hrow hnn hC hnx
    go_wp2_with (at_next; refine wpList_next_ranges _ rfl _ rfl 9 lawS ptrE encStr Value.pointer (fun key kl hk => by obtain ⟨x, hx, _⟩ := Maps.keyOf_str Tryd.underlying9 hk; exact ⟨x, hx⟩) (fun v y hv => by obtain ⟨p, hp, _⟩ := ptrE_inv hv; exact ⟨p, hp⟩) m w.heap.size fs.length _ _ _ rfl HRg.out ?_ ?_)
    · intro hc0 hl0
      have hperm := HC.out.perm HM.out lawS Tryd.underlying9 hl0
      have hlen : ss.length = fs.length := by rw [hperm.length_eq, strKeys_mapD, List.length_map]
      have hsorted := sorted_keys HR.out gb hperm
      rcases HRow.out.2 with ⟨hv, h0⟩ | ⟨gl, cap, cur, hv, hbase, hb, h1, h2, h3, h4⟩
      · subst hv
        have hfs : fs.length = 0 := by omega
        have HFs := Aside0.mk hfs
        clear hperm hlen hsorted h0 hfs hc0 hl0
        go_wp2_with (go_at_call 40; refine (HNi.out _).mono ?_; rintro e w' ⟨rfl, rfl⟩)
        go_ret
        exact ⟨none, 0, by rw [HFs.out]; rfl, HNx.out, fun W _ i f hf => by have := (List.getElem?_eq_some_iff.1 hf).1; have := HFs.out; omega⟩
      · subst hv
        have hH : Holds encStr wr gl 0 ss.toArray := holds_of_block hb (by simpa using h4)
        have hgl : gl < wr.heap.size := (Array.getElem?_eq_some_iff.1 hb).1
        have hc := HSo.out gl cap ss wr hH hgl (by have := HCs.out; have := HS.out; omega)
        have HCa := Aside0.mk hc
        have HLn := Aside0.mk hlen
        have HSd := Aside0.mk hsorted
        have HBb := Aside0.mk hb
        have HBs := Aside0.mk hbase
        have H123 := Aside0.mk (And.intro h1 (And.intro h2 h3))
        clear hc hlen hsorted hb hbase h1 h2 h3 h4 hH hgl hperm hc0 hl0
        go_wp2_with (go_at_call 40; refine HCa.out.mono ?_; rintro e w' ⟨rfl, nn, os, rfl⟩)
        go_ret
        have hown := ownsRow_sorted (n := nn) (os := os) (ts := ss.mergeSort fun x y => decide (x ≤ y)) (by simp) HBs.out HBb.out H123.out.1 H123.out.2.1 H123.out.2.2
        refine ⟨some ⟨gl, 0, none⟩, cap, by rw [← HLn.out]; rfl, HNx.out.grown (grownBy_sorted _) HNx.out.size (fun j hj => by cases hj; exact HBs.out), fun W hW i f hf => ⟨_, rfl, ?_, HBs.out, own_lt hown gl rfl⟩⟩
        have hcell := hown.cells (g := gl) rfl i (.string f.f0) (by
          rw [HSd.out, List.getElem?_map, List.getElem?_map, hf]
          show some (encStr f.f0.data.toList) = _
          simp [encStr])
        have hlt := World.block_lt_of_cell? _ _ hcell
        exact (hW.cell hlt).trans hcell
    · intro x p kl yd yp w2 cnt2 hkey hlk hv hat hrg2 hlt hg2 hs2 hen
      obtain ⟨x', ex, rfl, _⟩ := Maps.keyOf_str Tryd.underlying9 hkey
      obtain rfl : x = x' := encStr_inj ex
      have hrow2 := HRow.out.kept hg2 (Or.inr (row_ne_iter HRow.out HRg.out).symm)
      clear hs2
      have HR2 := Aside0.mk hrow2
      have HRg2 := Aside0.mk hrg2
      have HG2 := Aside0.mk hg2
      have HLt := Aside0.mk hlt
      have HSt := Aside0.mk (HC.out.step hlk hat)
      have HB2 := Aside0.mk (HNx.out.grown hg2 HNx.out.size (fun j hj => by cases hj; exact Nat.le_refl _))
      clear hrow2 hrg2 hg2 hlt hlk hv hat hkey ex
      go_wp2_with (at_builtin; refine print_append (w0 := w) (W := w2) w.heap.size rfl (.tmp 14) (.tmp 16) 68 9 (.string ⟨#[]⟩) 16 rfl Tryd.underlying68 infoS rfl (by decide) _ (ss.map encStr) (encStr x) rfl rfl rfl ?aO HB2.out HB2.out.size ?aL ?_; (case aO => rw [List.length_map]; exact HR2.out); (case aL => have := HCs.out; have := HS.out; rw [List.length_map]; omega); intro v1 w3 ho3 hb3 hg3 hat3; have HO3 := Aside0.mk ho3; have HB3 := Aside0.mk hb3; have HG3 := Aside0.mk hg3; clear ho3 hb3 hg3 hat3)
      have hrg3 := HRg2.out.kept HG3.out (row_ne_low HR2.out HML.out) (row_ne_iter HR2.out HRg2.out)
      refine ⟨⟨_, cnt2, ss ++ [x], hrg3, by have := HCs.out; have := HLt.out; simp; omega, by simpa using HO3.out, fun hv1 => ?_, HSt.out, HB3.out⟩, by rw [hrg3.left_eq, HRg.out.left_eq]; exact HLt.out⟩
      exfalso
      have h := HO3.out
      rw [hv1] at h
      rcases h.2 with ⟨_, h0⟩ | ⟨_, _, _, e1, _⟩
      · simp at h0
      · cases e1
end Go.Proofs.YthneomomhoilkaaDoor.PA
