/- DaysDue walked by hand: the law's call comes to true. No condition beyond the row's own. -/
import Derived.Test.YtlipkhhpjelicaaDueSt
import Derived.Test.YtlipkhhpjelicaaPAx0
import Derived.Test.YtlipkhhpjelicaaPAx1
namespace Go.Proofs.Ytlipkhhpjelicaa.PA
open Go.RowKit Go.Proofs.YtlipkhhpjelicaaW.PrintWords Go.Proofs.YtlipkhhpjelicaaW.PrintLast Go.Proofs.YtlipkhhpjelicaaW.PrintMore Go.Proofs.Ytlipkhhpjelicaa.Days
set_option linter.unusedVariables false
set_option linter.unusedSimpArgs false

theorem room_rep : roomNil = Array.replicate 21 (.slice none 0 0) := rfl
theorem room_other {j : Nat} {v : Value} (hj : j < 21) (h1 : j ≠ 1) : (roomNil.setIfInBounds 1 v)[j]? = some (.slice none 0 0) := by
  rw [Array.getElem?_setIfInBounds_ne (Ne.symm h1), room_rep, Array.getElem?_replicate, if_pos hj]
theorem room_one {v : Value} : (roomNil.setIfInBounds 1 v)[1]? = some v := by
  rw [Array.getElem?_setIfInBounds_self_of_lt (by rw [room_rep, Array.size_replicate]; omega)]

set_option maxRecDepth 100000 in
set_option maxHeartbeats 4000000 in
theorem daysDue_calls (n : Int) (A : Option Addr) (c : Nat) (xs : List Int) (w : World) (h8 : xs.length * 8 ≤ 140737488351232) (hrd : ReadsInt w .i64 A xs.length xs) (hwf : ∀ x ∈ xs, (Lit.int .i64 x).wf = true) :
    Calls Try.prog 9 #[.int .i64 n, .slice A xs.length c] w fun e w' => e = .returned (.bool true) ∧ Below w.heap.size w w' := by
  have H8 := Aside0.mk h8
  have HRD := Aside0.mk hrd
  have HWF := Aside0.mk hwf
  clear h8 hrd hwf
  go_enter Try.func9, Try.ntmps9
  go_upto_region 3 with ((with_reducible refine gate_builtin (b := .append) (xs := #[.const (.slice none 0 0), .tmp 14]) rfl ?_); at_builtin; refine print_append_row (w0 := w) w.heap.size rfl (.const (.slice none 0 0)) (.tmp 14) 23 3 .i64 8 rfl Try.underlying23 infoInt (by decide) (.slice none 0 0) [] xs A xs.length c rfl rfl ?aO ?aR ?aB ?aS ?aL ?_; (case aO => exact own_nil _ _ _ _); (case aR => exact HRD.out); (case aB => exact Below.refl _ _); (case aS => exact Nat.le_refl _); (case aL => have := H8.out; simp; omega); intro v1 w1 ho1 hb1 hg1 hat1; rw [List.nil_append] at ho1; obtain ⟨Ak, ck, rfl, hrk⟩ := own_reads ho1; have HO1 := Aside0.mk ho1; have HB1 := Aside0.mk hb1; clear ho1 hb1 hg1 hat1 hrk)
  have hb0 : Below w.heap.size w (w1.alloc (.cells roomNil 47)) := below_alloc HB1.out _
  have hk0 := own_alloc HO1.out (.cells roomNil 47)
  have hG0 : (w1.alloc (.cells roomNil 47)).heap[w1.heap.size]? = some (.cells roomNil 47 (0, 0)) := blk_new w1 _
  have hge : w.heap.size ≤ w1.heap.size := HB1.out.size
  obtain ⟨G, hG⟩ : ∃ G, G = w1.heap.size := ⟨_, rfl⟩
  obtain ⟨W0, hW0⟩ : ∃ W0, w1.alloc (.cells roomNil 47) = W0 := ⟨_, rfl⟩
  rw [hW0] at hb0 hk0 hG0
  rw [← hG] at hG0 hge
  rw [show (Obj.cells #[.slice none 0 0, .slice none 0 0, .slice none 0 0, .slice none 0 0, .slice none 0 0, .slice none 0 0, .slice none 0 0, .slice none 0 0, .slice none 0 0, .slice none 0 0, .slice none 0 0, .slice none 0 0, .slice none 0 0, .slice none 0 0, .slice none 0 0, .slice none 0 0, .slice none 0 0, .slice none 0 0, .slice none 0 0, .slice none 0 0, .slice none 0 0] 47) = .cells roomNil 47 from rfl, hW0, ← hG]
  have HB0 := Aside0.mk hb0
  have HK0 := Aside0.mk hk0
  have HG0 := Aside0.mk hG0
  have HGE := Aside0.mk hge
  clear hW0 hG hb0 hk0 hG0 hge HO1 HB1
  go_upto_region 4 with (go_at_call 10; (with_reducible refine (ints_calls G roomNil A c xs W0 (by have := H8.out; omega) HG0.out rfl (HRD.out.below HB0.out)).mono ?_); rintro e w2 ⟨F, cap, B2, c2, wf, rfl, hf, hr, hb, rfl⟩; have HS := Aside0.mk (due_start HB0.out HK0.out HG0.out HGE.out hf hr hb); clear hf hr hb)
  obtain ⟨W1, hW1⟩ : ∃ W1, wf.setCell ⟨G, 1, none⟩ (.slice (some ⟨B2, 0, none⟩) 1 c2) = W1 := ⟨_, rfl⟩
  have HS : Aside0 (DueSt w W1 F cap G B2 c2 Ak ck xs.length (roomNil.setIfInBounds 1 (.slice (some ⟨B2, 0, none⟩) 1 c2)) xs xs) := ⟨by rw [← hW1]; exact HS.out⟩
  rw [hW1]
  clear hW1 HB0 HK0 HG0 HGE
  obtain ⟨r1, r2, hr⟩ : ∃ r1 r2, dueS n xs = (r1, r2) := ⟨_, _, rfl⟩
  have hl44 : xs.length < 17592186044416 := by have := H8.out; omega
  have HD : Aside0 (days_Due.f n xs = some (r1, r2)) := ⟨by unfold days_Due.f; rw [if_pos ⟨HWF.out, hl44⟩, hr]⟩
  obtain ⟨K, hK⟩ := due_r n xs hl44
  have HR : Aside0 (levyref2_Due.f K n xs = some (r1, r2)) := ⟨by rw [← hr]; exact hK K (Nat.le_refl _)⟩
  have HL := Aside0.mk hl44
  clear hr hK hl44
  go_upto_region 8 with (first
    | (go_at_call 11; (with_reducible refine (days_Due.calls n (some ⟨F, 0, none⟩) (xs.length + 40) xs r1 r2 _ (HS.out.readIn (by have := HL.out; omega)) (by omega) HD.out).mono ?_); rintro e w2 ⟨rfl, hb⟩; have n0_ := Aside0.mk (HS.out.go hb); clear HS hb; have HS := n0_; clear n0_)
    | (go_at_call 12; (with_reducible refine (levyref2_Due.calls K n Ak ck xs r1 r2 _ HS.out.readKept.1 HS.out.readKept.2 HR.out).mono ?_); rintro e w3 ⟨rfl, ⟨nd, rfl⟩⟩; have n0_ := Aside0.mk (HS.out.go (pw_below_drewN (Below.refl _ _) nd)); clear HS; have HS := n0_; clear n0_))
  go_wp2_with fail
  go_loopw [12] (fun v12 wr => ∃ i : Nat, i ≤ xs.length ∧ v12 = .int .i64 i ∧ Hid (DueSt w wr F cap G B2 c2 Ak ck xs.length (roomNil.setIfInBounds 1 (.slice (some ⟨B2, 0, none⟩) 1 c2)) xs xs)) (fun v12 _ => xs.length - (intOf v12).toNat)
  case atStart => exact ⟨0, by omega, rfl, HS.out⟩
  case round =>
    clear HS
    obtain ⟨i, hi, rfl, hs⟩ := hrel
    by_cases hin : i < xs.length
    · have cin : (i : Int) < (xs.length : Int) := by omega
      have hi1 : wrap64 ((i : Int) + 1) = (i : Int) + 1 := by have := HL.out; exact Go.Proofs.Ytlipkhhpjelicaa.Days.wr (by omega) (by omega)
      obtain ⟨x, hx⟩ : ∃ x, xs[i]? = some x := ⟨_, List.getElem?_eq_getElem hin⟩
      obtain ⟨KB, rfl, hne⟩ := hs.out.keptAt (by omega)
      have c1 := (hs.out.cellIn hx).1
      have c2' := (hs.out.cellKept hx).1
      go_wp2_with fail
      go_quiet (fail)
      go_wp2_with fail
      rw [hi1]
      exact ⟨⟨i + 1, by omega, congrArg (Value.int .i64) (by omega), hs.out.go (pw_below_drewN (Below.refl _ _) _)⟩, by simp [intOf]; omega⟩
    · obtain rfl : i = xs.length := by omega
      have HS := Aside0.mk hs.out
      clear hs
      go_upto_region 15 with (go_at_call 13; (with_reducible refine (hold_calls G B2 F xs.length c2 cap _ HL.out (fun j hj hj1 => HS.out.roomCell (room_other hj hj1)) (HS.out.roomCell room_one) HS.out.rowCell (fun k hk => HS.out.mark hk)).mono ?_); rintro e w2 ⟨rfl, hb⟩; have n0_ := Aside0.mk (HS.out.go hb); clear HS hb; have HS := n0_; clear n0_)
      go_wp2_with fail
      go_loopw [13] (fun v13 wr => ∃ (i : Nat) (ks : List Int), i ≤ xs.length ∧ v13 = .int .i64 i ∧ Hid (∀ x ∈ ks, (Lit.int .i64 x).wf = true) ∧ Hid (DueSt w wr F cap G B2 c2 Ak ck xs.length (roomNil.setIfInBounds 1 (.slice (some ⟨B2, 0, none⟩) 1 c2)) ks ks)) (fun v13 _ => xs.length - (intOf v13).toNat)
      case atStart => exact ⟨0, xs, by omega, rfl, HWF.out, HS.out⟩
      case round =>
        clear HS
        obtain ⟨i, ks, hi, rfl, hkw, hs⟩ := hrel
        by_cases hin : i < xs.length
        · have cin : (i : Int) < (xs.length : Int) := by omega
          have hi1 : wrap64 ((i : Int) + 1) = (i : Int) + 1 := by have := HL.out; exact Go.Proofs.Ytlipkhhpjelicaa.Days.wr (by omega) (by omega)
          obtain ⟨x, hx⟩ : ∃ x, ks[i]? = some x := ⟨_, List.getElem?_eq_getElem (by have := hs.out.lk; omega)⟩
          obtain ⟨KB, rfl, hne⟩ := hs.out.keptAt (by omega)
          obtain ⟨c1, f1⟩ := hs.out.cellIn hx
          obtain ⟨c2', f2⟩ := hs.out.cellKept hx
          have hne2 : F ≠ KB := fun e => hne e.symm
          go_wp2_with fail
          rw [hi1]
          exact ⟨⟨i + 1, ks.set i (wrap64 (n + (i : Int))), by omega, congrArg (Value.int .i64) (by omega), fun y hy => (List.mem_or_eq_of_mem_set hy).elim (hkw.out y) (fun e => by rw [e]; exact wrap64_wf _), hs.out.put hin _⟩, by simp [intOf]; omega⟩
        · obtain rfl : i = xs.length := by omega
          have HS := Aside0.mk hs.out
          have hlk := hs.out.lk
          obtain ⟨p1, p2, hp⟩ : ∃ p1 p2, dueS n ks = (p1, p2) := ⟨_, _, rfl⟩
          have hkl : ks.length < 17592186044416 := by rw [hlk]; exact HL.out
          have HD2 : Aside0 (days_Due.f n ks = some (p1, p2)) := ⟨by unfold days_Due.f; rw [if_pos ⟨hkw.out, hkl⟩, hp]⟩
          obtain ⟨K2, hK2⟩ := due_r n ks hkl
          have HR2 : Aside0 (levyref2_Due.f K2 n ks = some (p1, p2)) := ⟨by rw [← hp]; exact hK2 K2 (Nat.le_refl _)⟩
          obtain ⟨q1, q2, hq⟩ : ∃ q1 q2, dueS n [] = (q1, q2) := ⟨_, _, rfl⟩
          have hD3 : days_Due.f n [] = some (q1, q2) := by unfold days_Due.f; rw [if_pos ⟨fun x hx => absurd hx List.not_mem_nil, by decide⟩, hq]
          obtain ⟨K3, hK3⟩ := due_r n [] (by decide)
          have hR3 : levyref2_Due.f K3 n [] = some (q1, q2) := by rw [← hq]; exact hK3 K3 (Nat.le_refl _)
          have hC0 : ∀ W : World, Kd.C (Kd.int .i64) W none ([] : List Int).length [] := fun W => Kd.C_of_reads (d := (0 : Int)) (h1 := fun _ => rfl) ⟨rfl, by decide, fun h => absurd h (by decide)⟩
          have HN1 : Aside0 (∀ W : World, Calls Try.prog 11 #[.int .i64 n, .slice none 0 0] W fun e w' => e = .returned (.tuple #[.int .i64 q1, .int .i64 q2]) ∧ Below W.heap.size W w') := ⟨fun W => days_Due.calls n none 0 [] q1 q2 W (hC0 W) (Nat.le_refl _) hD3⟩
          have HN2 : Aside0 (∀ W : World, Calls Try.prog 12 #[.int .i64 n, .slice none 0 0] W fun e w' => e = .returned (.tuple #[.int .i64 q1, .int .i64 q2]) ∧ Drawn0 W w') := ⟨fun W => levyref2_Due.calls K3 n none 0 [] q1 q2 W (hC0 W) (Nat.le_refl _) hR3⟩
          have HKL := Aside0.mk hlk
          clear hs hkw hp hK2 hq hD3 hK3 hR3 hC0 hkl
          rw [← hlk]
          rw [← hlk] at HS
          clear hlk
          go_wp2_with (first
            | (go_at_call 11; first
              | ((with_reducible refine (days_Due.calls n (some ⟨F, 0, none⟩) (ks.length + 40) ks p1 p2 _ (HS.out.readIn (by have := HL.out; have := HKL.out; omega)) (by omega) HD2.out).mono ?_); rintro e w2 ⟨rfl, hb⟩; have n0_ := Aside0.mk (HS.out.go hb); clear HS hb; have HS := n0_; clear n0_)
              | ((with_reducible refine (HN1.out _).mono ?_); rintro e w2 ⟨rfl, hb⟩; have n0_ := Aside0.mk (HS.out.go hb); clear HS hb; have HS := n0_; clear n0_))
            | (go_at_call 12; first
              | ((with_reducible refine (levyref2_Due.calls K2 n Ak ck ks p1 p2 _ HS.out.readKept.1 HS.out.readKept.2 HR2.out).mono ?_); rintro e w3 ⟨rfl, ⟨nd, rfl⟩⟩; have n0_ := Aside0.mk (HS.out.go (pw_below_drewN (Below.refl _ _) nd)); clear HS; have HS := n0_; clear n0_)
              | ((with_reducible refine (HN2.out _).mono ?_); rintro e w3 ⟨rfl, ⟨nd, rfl⟩⟩; have n0_ := Aside0.mk (HS.out.go (pw_below_drewN (Below.refl _ _) nd)); clear HS; have HS := n0_; clear n0_)))
          refine bodyPost_ret (results_tmp rfl _ _ _) rfl ⟨rfl, HS.out.below⟩

theorem daysDue_walk (a0 : Int) (a1 : Option Addr) (len1 cap1 : Nat) (z1 : List Int) (w : World) (w0 : (Lit.int .i64 a0).wf = true) (w1 : (a1 = none ∧ len1 = 0 ∧ cap1 = 0 ∧ z1 = []) ∨ ∃ x, a1 = some x ∧ len1 ≤ cap1 ∧ cap1 ≤ maxLen ∧ z1.length = cap1 ∧ (∀ i, i < z1.length → w.cell? (x.add i) = some (.int .i64 (z1.getD i 0))) ∧ ∀ n ∈ z1, (Lit.int .i64 n).wf = true) (y1 : len1 * 8 ≤ 140737488351232) :
    Calls Try.prog 9 #[.int .i64 a0, .slice a1 len1 cap1] w fun e w' => e = .returned (.bool true) ∧ Below w.heap.size w w' := by
  obtain ⟨l1, rfl, hr1, hm1, hw1, hc1⟩ := ReadsInt.ofRowC w1
  exact daysDue_calls a0 a1 cap1 l1 w y1 hr1 hw1
end Go.Proofs.Ytlipkhhpjelicaa.PA
