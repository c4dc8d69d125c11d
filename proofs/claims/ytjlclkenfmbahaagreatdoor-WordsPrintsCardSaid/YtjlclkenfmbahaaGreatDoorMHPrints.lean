/- WordsPrints walked by hand: the law's call comes to true. Conditions: Print's two answers are the same for every list of this length, the tables ('Tabs'). -/
import Derived.Test.YtjlclkenfmbahaaGreatDoorMPrintsSt
import Derived.Test.YtjlclkenfmbahaaGreatDoorMHPrint
import Derived.Test.YtjlclkenfmbahaaGreatDoorMRefWritten
import Derived.Test.YtjlclkenfmbahaaGreatDoorMPAx0
import Derived.Test.YtjlclkenfmbahaaGreatDoorMPAx32
import Derived.Test.YtjlclkenfmbahaaGreatDoorML3
namespace Go.Proofs.YtjlclkenfmbahaaGreatDoor.PA
open Go.RowKit Go.Maps Go.Proofs.YtjlclkenfmbahaaGreatDoorW.PrintWords Go.Proofs.YtjlclkenfmbahaaGreatDoorW.PrintLast Go.Proofs.YtjlclkenfmbahaaGreatDoorW.PrintMore
set_option linter.unusedVariables false
set_option linter.unusedSimpArgs false
theorem below_of_drawn {W W' : World} (h : Drawn0 W W') : Below W.heap.size W W' := by
 obtain ⟨n, rfl⟩ := h
 exact pw_below_drewN (Below.refl _ _) n
def Both (ks : List S57) : Prop := ∃ K s e, levyref4_Print.f K ks = some (s, e) ∧ words_Print.f ks = some (s, e)
theorem tok_turn {ks : List S57} {i : Nat} {t : S57} (x : Int) (hin : ∀ t ∈ ks, tokIn t = true) (ht : ks[i]? = some t) : ∀ u ∈ ks.set i ⟨x, t.f1, t.f2, t.f3, t.f4⟩, tokIn u = true := by
 intro u hu
 rcases List.mem_or_eq_of_mem_set hu with h | rfl
 ·exact hin u h
 ·have := hin t (List.mem_of_getElem? ht)
  exact this
theorem print_lent {ks : List S57} {s : ByteArray} {e : Int} {F N : Nat} (hl : ks.length = N) (h : words_Print.f ks = some (s, e)) (W : World) (hT : Tabs W) (hC : Kd.C k57 W (some ⟨F, 0, none⟩) N ks) :
  Calls Tryz.prog 7 #[.slice (some ⟨F, 0, none⟩) N (N + 40)] W fun r w' => r = .returned (.tuple #[.string s, .int .i64 e]) ∧ Below W.heap.size W w' := by
 subst hl
 exact words_Print.calls (some ⟨F, 0, none⟩) (ks.length + 40) ks s e W hT hC (by omega) h
theorem same_lent {K : Nat} {xs : List S57} {F c : Nat} {A : Option Addr} (h : levylaw4_same.f K xs xs = some true) (W : World) (hC : Kd.C k57 W (some ⟨F, 0, none⟩) xs.length xs) (hC2 : Kd.C k57 W A xs.length xs) (hc : xs.length ≤ c) :
  Calls Tryz.prog 9 #[.slice (some ⟨F, 0, none⟩) xs.length (xs.length + 40), .slice A xs.length c] W fun r w' => r = .returned (.bool true) ∧ Drawn0 W w' :=
 levylaw4_same.calls K (some ⟨F, 0, none⟩) (xs.length + 40) xs A c xs true W hC (by omega) hC2 hc h
set_option maxRecDepth 100000 in
set_option maxHeartbeats 8000000 in
theorem prints_calls (A : Option Addr) (c : Nat) (xs : List S57) (w : World) (hT : Tabs w) (hrd : Kd.C k57 w A xs.length xs) (hc : xs.length ≤ c) (hin : ∀ t ∈ xs, tokIn t = true)
  (hP : ∀ ks : List S57, ks.length = xs.length → xs.length ≤ 65536 → (∀ t ∈ ks, tokIn t = true) → Both ks) (hS : xs.length ≤ 65536 → ∃ K, levylaw4_same.f K xs xs = some true) :
  Calls Tryz.prog 3 #[.slice A xs.length c] w fun e w' => e = .returned (.bool true) ∧ Below w.heap.size w w' := by
 have HT := Aside0.mk hT
 have HRD := Aside0.mk hrd
 have HC := Aside0.mk hc
 have HIN := Aside0.mk hin
 clear hT hrd hc hin
 by_cases hbig : 65536 < xs.length
 ·have cbig : ((65536 : Int) < (xs.length : Int)) := by omega
  clear hP hS hbig
  go_enter Tryz.func3, Tryz.ntmps3
  go_wp2
  refine bodyPost_ret (results_tmp rfl _ _ _) rfl ⟨rfl, Below.refl _ _⟩
 ·have cbig : ¬ ((65536 : Int) < (xs.length : Int)) := by omega
  have HN : Aside0 (xs.length ≤ 65536) := ⟨by omega⟩
  have HP : Aside0 (∀ ks : List S57, ks.length = xs.length → (∀ t ∈ ks, tokIn t = true) → Both ks) := ⟨fun ks h1 h2 => hP ks h1 HN.out h2⟩
  obtain ⟨KS, hKS⟩ := hS HN.out
  have HS0 := Aside0.mk hKS
  obtain ⟨K1, s1, e1, hp1, hp2⟩ := HP.out xs rfl HIN.out
  have HP1 := Aside0.mk hp1
  have HP2 := Aside0.mk hp2
  clear hP hS hbig hKS hp1 hp2
  go_enter Tryz.func3, Tryz.ntmps3
  go_upto_region 5 with (go_at_call 5; (with_reducible refine (levyref4_Print.calls K1 A c xs s1 e1 _ HT.out HRD.out HC.out HP1.out).mono ?_); rintro e w1 ⟨rfl, hb1⟩; have HB1 := Aside0.mk hb1; clear hb1)
  have hb0 : Below w.heap.size w (w1.alloc (.cells roomNil 48)) := below_alloc HB1.out _
  have hG0 : (w1.alloc (.cells roomNil 48)).heap[w1.heap.size]? = some (.cells roomNil 48 (0, 0)) := blk_new w1 _
  have hge : w.heap.size ≤ w1.heap.size := HB1.out.size
  obtain ⟨G, hG⟩ : ∃ G, G = w1.heap.size := ⟨_, rfl⟩
  obtain ⟨W0, hW0⟩ : ∃ W0, w1.alloc (.cells roomNil 48) = W0 := ⟨_, rfl⟩
  rw [hW0] at hb0 hG0
  rw [← hG] at hG0 hge
  rw [show (Obj.cells #[.slice none 0 0, .slice none 0 0, .slice none 0 0, .slice none 0 0, .slice none 0 0, .slice none 0 0, .slice none 0 0, .slice none 0 0, .slice none 0 0, .slice none 0 0, .slice none 0 0, .slice none 0 0, .slice none 0 0, .slice none 0 0, .slice none 0 0, .slice none 0 0, .slice none 0 0, .slice none 0 0, .slice none 0 0, .slice none 0 0, .slice none 0 0] 48) = .cells roomNil 48 from rfl, hW0, ← hG]
  have HB0 := Aside0.mk hb0
  have HG0 := Aside0.mk hG0
  have HGE := Aside0.mk hge
  clear hW0 hG hb0 hG0 hge HB1
  go_upto_region 6 with (go_at_call 6; (with_reducible refine (tokens_room G roomNil A c xs W0 (by have := HN.out; omega) HG0.out rfl (Kd.C_below HRD.out HB0.out)).mono ?_); rintro e w2 ⟨F, cap, B2, c2, wf, rfl, hf, hr, hb, rfl⟩; have HS := Aside0.mk (pr_start HB0.out HG0.out HGE.out hf hr hb); clear hf hr hb)
  obtain ⟨W1, hW1⟩ : ∃ W1, wf.setCell ⟨G, 7, none⟩ (.slice (some ⟨B2, 0, none⟩) 1 c2) = W1 := ⟨_, rfl⟩
  obtain ⟨cg, hcg⟩ : ∃ cg, roomNil.setIfInBounds 7 (.slice (some ⟨B2, 0, none⟩) 1 c2) = cg := ⟨_, rfl⟩
  have HS : Aside0 (PrSt w W1 F cap G B2 c2 xs.length cg xs) := ⟨by rw [← hW1, ← hcg]; exact HS.out⟩
  have HCG : Aside0 ((∀ j, j < 21 → j ≠ 7 → cg[j]? = some (.slice none 0 0)) ∧ cg[7]? = some (.slice (some ⟨B2, 0, none⟩) 1 c2)) := ⟨⟨fun j h1 h2 => by rw [← hcg]; exact room_other h1 h2, by rw [← hcg]; exact room_one⟩⟩
  rw [hW1]
  clear hW1 hcg HB0 HG0 HGE
  go_upto_region 9 with (first
   | (go_at_call 7; (with_reducible refine (print_lent rfl HP2.out _ (HT.out.below HS.out.below) (HS.out.readN (by have := HN.out; omega))).mono ?_); rintro e w2 ⟨rfl, hb⟩; have n0_ := Aside0.mk (HS.out.go hb); clear HS hb; have HS := n0_; clear n0_)
   | (go_at_call 8; (with_reducible refine (levylaw4_num.calls e1 e1 _ rfl).mono ?_); rintro e w3 ⟨rfl, hd⟩; have n0_ := Aside0.mk (HS.out.go (below_of_drawn hd)); clear HS hd; have HS := n0_; clear n0_)
   | (go_at_call 9; (with_reducible refine (same_lent HS0.out _ (HS.out.readN (by have := HN.out; omega)) (Kd.C_below HRD.out HS.out.below) HC.out).mono ?_); rintro e w3 ⟨rfl, hd⟩; have n0_ := Aside0.mk (HS.out.go (below_of_drawn hd)); clear HS hd; have HS := n0_; clear n0_)
   | (go_at_call 10; (with_reducible refine (HS.out.hold (by have := HN.out; omega) HCG.out.1 HCG.out.2).mono ?_); rintro e w2 ⟨rfl, hb⟩; have n0_ := Aside0.mk (HS.out.go hb); clear HS hb; have HS := n0_; clear n0_))
  by_cases hz : xs.length = 0
  ·have cz : (xs.length : Int) = 0 := by omega
   go_wp2_with fail
   refine bodyPost_ret (results_tmp rfl _ _ _) rfl ⟨rfl, HS.out.below⟩
  ·have cz : ((xs.length : Int) == 0) = false := beq_eq_false_iff_ne.mpr (by omega)
   have hkl : xs.length / 2 < xs.length := by omega
   obtain ⟨k, hk⟩ : ∃ k, xs.length / 2 = k := ⟨_, rfl⟩
   rw [hk] at hkl
   have hq : (xs.length : Int) / 2 = (k : Int) := by omega
   have HKL := Aside0.mk hkl
   clear hkl hz hk
   go_wp2_with fail
   go_loopw [3, 4, 7, 8, 10, 11] (fun v3 v4 v7 v8 v10 v11 wr => ∃ (i : Nat) (ks : List S57), i ≤ 2 ∧ v10 = .int .i64 i ∧ Hid (ks.length = xs.length) ∧ Hid (∀ t ∈ ks, tokIn t = true) ∧ Hid (PrSt w wr F cap G B2 c2 xs.length cg ks)) (fun _ _ _ _ v10 _ _ => 2 - (intOf v10).toNat)
   case atStart => exact ⟨0, xs, by omega, rfl, rfl, HIN.out, HS.out⟩
   case round =>
    clear HS HP1 HP2
    obtain ⟨i, ks, hi, rfl, hl, hin, hs⟩ := hrel
    by_cases h2 : i < 2
    ·have ci : (i : Int) < 2 := by omega
     have hi1 : wrap64 ((i : Int) + 1) = (i : Int) + 1 := Go.Proofs.YtjlclkenfmbahaaGreatDoor.Days.wr (by omega) (by omega)
     have b1 : (0 : Int) ≤ (k : Int) := by omega
     have b2 : (k : Int) < (xs.length : Int) := by have := HKL.out; omega
     obtain ⟨t, ht⟩ : ∃ t, ks[k]? = some t := ⟨_, List.getElem?_eq_getElem (by have := hl.out; have := HKL.out; omega)⟩
     obtain ⟨⟨x0, -⟩, fr⟩ := hs.out.tok (i := k) (t := t) (by rw [List.getElem?_append_left (by have := hl.out; have := HKL.out; omega)]; exact ht)
     have f0 := fr 0
     rw [Nat.add_zero] at f0
     have hs2 := hs.out.put ht (wrap64 (9 - t.f0))
     obtain ⟨K2, s2, e2, hp1, hp2⟩ := HP.out (ks.set k ⟨wrap64 (9 - t.f0), t.f1, t.f2, t.f3, t.f4⟩) (by rw [List.length_set]; exact hl.out) (tok_turn _ hin.out ht)
     have hin2 := tok_turn (wrap64 (9 - t.f0)) hin.out ht
     have hl2 : (ks.set k ⟨wrap64 (9 - t.f0), t.f1, t.f2, t.f3, t.f4⟩).length = xs.length := by rw [List.length_set]; exact hl.out
     obtain ⟨ls, hls⟩ : ∃ ls, ks.set k ⟨wrap64 (9 - t.f0), t.f1, t.f2, t.f3, t.f4⟩ = ls := ⟨_, rfl⟩
     rw [hls] at hs2 hp1 hp2 hin2 hl2
     have HS2 := Aside0.mk hs2
     have HQ1 := Aside0.mk hp1
     have HQ2 := Aside0.mk hp2
     have HI2 := Aside0.mk hin2
     have HL2 := Aside0.mk hl2
     clear hs2 hp1 hp2 hin2 hl2 hls hin hs hl fr ht
     go_upto_region 16 with fail
     obtain ⟨W2, hW2⟩ : ∃ W2, wr.setCell ⟨F, k * 5, none⟩ (.int .i64 (wrap64 (9 - t.f0))) = W2 := ⟨_, rfl⟩
     have HS : Aside0 (PrSt w W2 F cap G B2 c2 xs.length cg ls) := ⟨by rw [← hW2]; exact HS2.out⟩
     rw [hW2]
     clear hW2 HS2 x0 f0
     have hoA : Kd.R k57 57 (W2.alloc (.cells #[] 57)) W2.heap.size (fun _ => True) (.slice (some ⟨W2.heap.size, 0, none⟩) 0 0) [] :=
      ⟨fun _ _ => trivial, [], World.ownsRow_made W2 #[] 0 (Nat.le_refl _) (by simp [maxLen]) rfl, Reps.none _ _⟩
     have hbA := below_alloc (Below.refl W2.heap.size W2) (.cells #[] 57)
     have hrA : Kd.C k57 (W2.alloc (.cells #[] 57)) (some ⟨F, 0, none⟩) xs.length ls := (HS.out.go hbA).readN (by have := HN.out; omega)
     have HOA := Aside0.mk hoA
     have HBA := Aside0.mk hbA
     have HRA := Aside0.mk hrA
     clear hoA hbA hrA
     go_upto_region 17 with ((with_reducible refine gate_builtin (b := .append) (xs := #[.tmp 70, .tmp 71]) rfl ?_); at_builtin; refine Kd.R_append_rows k57 (Rr := k57.K (W2.alloc (.cells #[] 57))) (w0 := W2) W2.heap.size rfl (.tmp 70) (.tmp 71) 22 57 (.agg #[(.int .i64 0), (.int .i64 0), (.string ⟨#[]⟩), (.int .i64 0), (.int .i64 0)]) 48 rfl Tryz.underlying22 info57 rfl (by decide) (by decide) (.slice (some ⟨W2.heap.size, 0, none⟩) 0 0) [] ls (some ⟨F, 0, none⟩) xs.length (xs.length + 40) (fun _ => True) (fun _ => False) rfl rfl ?aO ?aR ?aK (fun _ hk => hk.elim) (fun _ _ => trivial) ?aB ?aS ?aL ?_; (case aO => exact HOA.out); (case aR => exact HRA.out); (case aK => intro x cs hp; rw [k57_open hp]; exact k57_mkM _ _ _ x); (case aB => exact HBA.out); (case aS => exact HBA.out.size); (case aL => have := HN.out; simp; omega); intro v1 w1 ho1 hb1 hg1 hat1; rw [List.nil_append] at ho1; obtain ⟨A1, c1, rfl, hc1, hr1⟩ := Kd.R_reads ho1; have HA1 := Aside0.mk hr1; have HA2 := Aside0.mk hc1; have n0_ := Aside0.mk (HS.out.go hb1); clear HS ho1 hb1 hg1 hat1 hc1 hr1 HOA HBA HRA; have HS := n0_; clear n0_)
     go_wp2_with (first
      | (go_at_call 5; (with_reducible refine (levyref4_Print.calls K2 A1 c1 ls s2 e2 _ (HT.out.below HS.out.below) HA1.out HA2.out HQ1.out).mono ?_); rintro e w2 ⟨rfl, hb⟩; have n0_ := Aside0.mk (HS.out.go hb); clear HS hb; have HS := n0_; clear n0_)
      | (go_at_call 7; (with_reducible refine (print_lent HL2.out HQ2.out _ (HT.out.below HS.out.below) (HS.out.readN (by have := HN.out; omega))).mono ?_); rintro e w2 ⟨rfl, hb⟩; have n0_ := Aside0.mk (HS.out.go hb); clear HS hb; have HS := n0_; clear n0_)
      | (go_at_call 8; (with_reducible refine (levylaw4_num.calls e2 e2 _ rfl).mono ?_); rintro e w3 ⟨rfl, hd⟩; have n0_ := Aside0.mk (HS.out.go (below_of_drawn hd)); clear HS hd; have HS := n0_; clear n0_))
     exact ⟨⟨i + 1, ls, by omega, congrArg (Value.int .i64) (by omega), HL2.out, HI2.out, HS.out⟩, by simp [intOf]; omega⟩
    ·obtain rfl : i = 2 := by omega
     have HS := Aside0.mk hs.out
     clear hs hin hl
     go_wp2_with (go_at_call 10; (with_reducible refine (HS.out.hold (by have := HN.out; omega) HCG.out.1 HCG.out.2).mono ?_); rintro e w2 ⟨rfl, hb⟩; have n0_ := Aside0.mk (HS.out.go hb); clear HS hb; have HS := n0_; clear n0_)
     refine bodyPost_ret (results_tmp rfl _ _ _) rfl ⟨rfl, HS.out.below⟩
end Go.Proofs.YtjlclkenfmbahaaGreatDoor.PA
