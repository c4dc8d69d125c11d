/- The scanner's quoted text, walked by hand, byte by byte. Conditions: the place lies in the text, the text is of at most 8000 bytes. -/
import Derived.Test.YtjlclkenfmbahaaGreatDoorVScSt
import Derived.BigRegion
import Derived.RegionTactic
import Derived.ChangeAlike
import Derived.Deep.QuietTactic
import Derived.BigQuiet
import Derived.Test.YtjlclkenfmbahaaGreatDoorVPAx0
import Derived.Test.YtjlclkenfmbahaaGreatDoorVL
namespace Go.Proofs.YtjlclkenfmbahaaGreatDoor.PA
open Go.RowKit Go.Proofs.YtjlclkenfmbahaaGreatDoorW.PrintWords Go.Proofs.YtjlclkenfmbahaaGreatDoorW.PrintLast Go.Proofs.YtjlclkenfmbahaaGreatDoorW.PrintMore
set_option linter.unusedVariables false
set_option linter.unusedSimpArgs false
def numU (l : List UInt8) : List Int := l.map fun b => (b.toNat : Int)
theorem numU_snoc (l : List UInt8) (b : UInt8) : numU (l ++ [b]) = numU l ++ [(b.toNat : Int)] := by simp [numU]
theorem numU_len (l : List UInt8) : (numU l).length = l.length := by simp [numU]
def txtR (s : ByteArray) (p : Nat) (e3 e4 : Int) : Nat → Nat → List UInt8 → S57 × Bool × Nat × Int × Int
 | 0, i, _ => (⟨0, 0, ⟨#[]⟩, 0, 0⟩, false, i, 43, p)
 | d + 1, i, acc => match (Ls s)[i]? with
  | none => (⟨0, 0, ⟨#[]⟩, 0, 0⟩, false, i, 43, p)
  | some c =>
   if (c.toNat : Int) = 10 then (⟨0, 0, ⟨#[]⟩, 0, 0⟩, false, i, 43, p)
   else if (c.toNat : Int) = 34 then (if acc.length ≤ 40 then (⟨6, p, strOfNums (numU acc), 0, 0⟩, true, i + 1, e3, e4) else (⟨0, 0, ⟨#[]⟩, 0, 0⟩, false, i + 1, 40, p))
   else if (c.toNat : Int) = 92 then
    match (Ls s)[i + 1]? with
    | none => (⟨0, 0, ⟨#[]⟩, 0, 0⟩, false, i, 43, i)
    | some c2 => if (c2.toNat : Int) = 34 ∨ (c2.toNat : Int) = 92 then txtR s p e3 e4 d (i + 2) (acc ++ [c2]) else (⟨0, 0, ⟨#[]⟩, 0, 0⟩, false, i, 43, i)
   else if (c.toNat : Int) < 32 ∨ 126 < (c.toNat : Int) then (⟨0, 0, ⟨#[]⟩, 0, 0⟩, false, i, 43, i)
   else txtR s p e3 e4 d (i + 1) (acc ++ [c])
def quotedR (s : ByteArray) (p : Nat) (e3 e4 : Int) : S57 × Bool × Nat × Int × Int := txtR s p e3 e4 (s.size + 1) (p + 1) []
def Row (w W : World) (v : Value) (acc : List UInt8) : Prop := W.ownsRow (w.heap.size + 1) 5 1 v acc.length (nums .u8 (numU acc))
theorem Row.drewN {w W : World} {v : Value} {acc : List UInt8} (h : Row w W v acc) (n : Nat) : Row w (W.drewN n) v acc := by
 induction n generalizing W with
 | zero => exact h
 | succ n ih => exact ih (own_drew h)
theorem Row.set {w W : World} {v : Value} {acc : List UInt8} (h : Row w W v acc) {g : Nat} (hg : g < w.heap.size) (j : Nat) (u : Value) : Row w (W.setCell ⟨g, j, none⟩ u) v acc :=
 own_setCell h (p := ⟨g, j, none⟩) (fun e => by have := own_base h g e.symm; omega) u
theorem infoU8 : (Tryz.prog.info? 5).map (fun i => (i.zero, i.size, i.bytes)) = some (some (.int .u8 0), 1, 1) := by kernel_rfl
section
variable {P : Program} {ops : Array Oper} {rest : List Oper} {o : Oper} {a : Act} {Q : Exit → Act → World → Prop}
theorem append_row {w W : World} {c : Int} {b : UInt8} (hgd : o.guard = none) (s x : Operand) (t : TypeId) (ho : o.op = .call { callee := .builtin .append, args := #[s, x], argTypes := #[t, t] })
  (ht : P.underlying t = some (.slice 5)) (hinfo : (P.info? 5).map (fun i => (i.zero, i.size, i.bytes)) = some (some (.int .u8 0), 1, 1)) (v : Value) (acc : List UInt8) (hs : a.eval s = v) (hx : a.eval x = .slice (some ⟨W.heap.size, 0, none⟩) 1 1)
  (hc : (b.toNat : Int) = c) (HO : Row w W v acc) (hsz : w.heap.size + 1 ≤ W.heap.size) (hl : acc.length ≤ 8000)
  (h : ∀ v1 w1, Row w w1 v1 (acc ++ [b]) → Below (w.heap.size + 1) W w1 → wpList P ops Q rest (a.put o.dst v1) w1) :
  wpList P ops Q (o :: rest) a (W.alloc (.cells #[.int .u8 c] 5)) := by
 refine print_append_num (w0 := W) (w.heap.size + 1) hgd s x t 5 .u8 1 ho ht hinfo (by decide) v (numU acc) c hs hx (by rw [numU_len]; exact HO) (Below.refl _ _) hsz (by rw [numU_len]; omega) ?_
 intro v1 w1 ho1 hb1 _ _
 refine h v1 w1 ?_ hb1
 have e : (acc ++ [b]).length = (numU acc ++ [c]).length := by simp [numU]
 unfold Row
 rw [e, numU_snoc, hc]
 exact ho1
end
set_option maxRecDepth 100000 in
set_option maxHeartbeats 8000000 in
theorem quoted_calls (g : Nat) (s : ByteArray) (p : Nat) (l : Bool) (e3 e4 : Int) (w0 w : World) (hs : s.size ≤ 8000) (hp : p < s.size) (hI : IsS88 w0 w g s (p : Int) l e3 e4) (hB : Below w0.heap.size w0 w) :
  Calls Tryz.prog 133 #[.pointer (some ⟨g, 0, none⟩)] w (Told w0 w g s l (quotedR s p e3 e4)) := by
 have HS := Aside0.mk hs
 have HP := Aside0.mk hp
 have S0 := Aside0.mk (St.start hI hB)
 have hi1 : wrap64 ((p : Int) + 1) = (p : Int) + 1 := by unfold wrap64; omega
 have hc1 := S0.out.c1
 have hf1 := S0.out.f 1
 clear hs hp hI hB
 go_enter Tryz.func133, Tryz.ntmps133
 go_wp2
 go_step3
 go_wp2
 go_step3
 go_wp2
 have S1 := Aside0.mk (S0.out.set1 ((p : Int) + 1))
 clear S0 hc1 hf1
 go_loopg [5] (s.size + 1) (fun kq v5 w' => ∃ (i : Nat) (acc : List UInt8), Hid (txtR s p e3 e4 kq i acc = quotedR s p e3 e4 ∧ i ≤ s.size ∧ s.size < i + kq ∧ acc.length ≤ i ∧ St w0 w w' g s (i : Int) l e3 e4 ∧ Row w w' v5 acc))
 case atStart =>
  exact ⟨p + 1, [], rfl, HP.out, by omega, by simp, S1.out, own_nil _ _ _ _⟩
 case round =>
  clear S1 hi1
  obtain ⟨i, acc, hh⟩ := hrel
  obtain ⟨ht, hi, hf, ha, hst, ho⟩ := hh.out
  clear hh
  have HT := Aside0.mk ht
  have HI := Aside0.mk hi
  have HF := Aside0.mk hf
  have HA := Aside0.mk ha
  have ST := Aside0.mk hst
  have HO := Aside0.mk ho
  clear ht hf ha hst ho
  cases gk with
  | zero => exact absurd HF.out (by omega)
  | succ k1 =>
  have hi1 : wrap64 ((i : Int) + 1) = (i : Int) + 1 := by have := HS.out; unfold wrap64; omega
  have hi2 : wrap64 ((i : Int) + 1 + 1) = (i : Int) + 2 := by have := HS.out; unfold wrap64; omega
  clear hi
  have hc0 := ST.out.c0
  have hc1 := ST.out.c1
  have hf1 := ST.out.f 1
  by_cases hlt : i < s.size
  ·skip
   obtain ⟨b, hb⟩ := byte_some s hlt
   have hbt := bt_of s hb
   have hx : ∀ h : i < s.size, ((s[i]'h).toNat : Int) = (b.toNat : Int) := fun h => (bt_at s (i : Int) h).trans hbt.1
   have hbr : (b.toNat : Int) < 256 := by have := b.toNat_lt; omega
   have hbr0 : 0 ≤ (b.toNat : Int) := by omega
   generalize hcb : (b.toNat : Int) = c at hx hbr hbr0
   have HC := Aside0.mk hcb
   have HBY := Aside0.mk hb
   have HLT := Aside0.mk hlt
   have HBR := Aside0.mk hbr
   have HBR0 := Aside0.mk hbr0
   clear hcb hbt hb hbr hbr0
   have p6 : ((0 : Int) ≤ (i : Int)) = True := eq_true (by omega)
   have q6 : ((i : Int) < (s.size : Int)) = True := eq_true (by omega)
   have q5 : ((i : Int) == (s.size : Int)) = false := beq_eq_false_iff_ne.mpr (by omega)
   have q7 : ¬ (i : Int) = (s.size : Int) := by omega
   have q8 : ¬ i = s.size := by omega
   clear hlt
   by_cases h10 : c = 10
   ·have k10 : (c == 10) = true := beq_iff_eq.mpr h10
    have H10 := Aside0.mk h10
    clear h10
    go_wp2
    go_quiet (fail)
    go_wp2_with (first | (go_at_call 135; refine (fail_st (w0 := w0) (w := w) (s := s) (x := (i : Int)) (l := l) (e3 := e3) (e4 := e4) ?hsq1_ 43 (p : Int)).mono ?_; (case hsq1_ => (with_reducible repeat (first | apply St.set1 | apply St.drewN | apply St.drew)); exact ST.out); rintro e w2 ⟨rfl, s2_⟩; have S2 := Aside0.mk s2_; clear s2_; have q0 := S2.out.q0; have q1 := S2.out.q1; have q2 := S2.out.q2; have q3 := S2.out.q3; have q4 := S2.out.q4; have z0 := S2.out.z 0; have z1 := S2.out.z 1; have z2 := S2.out.z 2; have z3 := S2.out.z 3; have z4 := S2.out.z 4))
    obtain ⟨a1, a2, a3, a4⟩ := S2.out.put (.int .i64 0) (.int .i64 0) (.string ⟨#[]⟩) (.int .i64 0) (.int .i64 0)
    rw [Exit.noGoto_ret]
    refine bodyPost_ret (results_ct rfl _ _ w.heap.size 57 #[.int .i64 0, .int .i64 0, .string ⟨#[]⟩, .int .i64 0, .int .i64 0] (0, 0) _ rfl a4 Tryz.underlying57 rfl (by kernel_rfl)) rfl ?_
    rw [← HT.out]; unfold txtR; rw [HBY.out]; dsimp only; rw [if_pos (HC.out.trans H10.out)]
    exact ⟨rfl, a1, a2, a3⟩
   ·have k10 : (c == 10) = false := beq_eq_false_iff_ne.mpr h10
    have H10 := Aside0.mk h10
    clear h10
    by_cases h34 : c = 34
    ·have k34 : (c == 34) = true := beq_iff_eq.mpr h34
     have H34 := Aside0.mk h34
     clear h34
     obtain ⟨A5, c5, rfl⟩ := own_slice HO.out
     by_cases h40 : acc.length ≤ 40
     ·have k40 : ((40 : Int) < (acc.length : Int)) = False := eq_false (by omega)
      have H40 := Aside0.mk h40
      clear h40
      have hcv : ∀ n u, (convert 76 9 (.slice A5 acc.length c5)).run Tryz.prog ((wr.drewN n).setCell ⟨g, 1, none⟩ u) = .ok (.string (strOfNums (numU acc))) ((wr.drewN n).setCell ⟨g, 1, none⟩ u) := fun n u => own_string Tryz.underlying76 Tryz.underlying5 Tryz.underlying9 ((HO.out.drewN n).set ST.out.gl 1 u)
      have q0 : ∀ n u, ((wr.drewN n).setCell ⟨g, 1, none⟩ (.int .i64 u)).cell? ⟨w.heap.size, 0, none⟩ = some (.int .i64 0) := fun n u => ((ST.out.drewN n).set1 u).q0
      have q1 : ∀ n u, ((wr.drewN n).setCell ⟨g, 1, none⟩ (.int .i64 u)).cell? ⟨w.heap.size, 1, none⟩ = some (.int .i64 0) := fun n u => ((ST.out.drewN n).set1 u).q1
      have q2 : ∀ n u, ((wr.drewN n).setCell ⟨g, 1, none⟩ (.int .i64 u)).cell? ⟨w.heap.size, 2, none⟩ = some (.string ⟨#[]⟩) := fun n u => ((ST.out.drewN n).set1 u).q2
      have q3 : ∀ n u, ((wr.drewN n).setCell ⟨g, 1, none⟩ (.int .i64 u)).cell? ⟨w.heap.size, 3, none⟩ = some (.int .i64 0) := fun n u => ((ST.out.drewN n).set1 u).q3
      have q4 : ∀ n u, ((wr.drewN n).setCell ⟨g, 1, none⟩ (.int .i64 u)).cell? ⟨w.heap.size, 4, none⟩ = some (.int .i64 0) := fun n u => ((ST.out.drewN n).set1 u).q4
      have z0 : ∀ n u j, ((wr.drewN n).setCell ⟨g, 1, none⟩ u).frozen? ⟨w.heap.size, j, none⟩ = false := fun n u j => by rw [World.frozen?_setCell]; exact (ST.out.drewN n).z j
      go_wp2
      go_quiet (fail)
      go_wp2
      go_quiet (fail)
      go_wp2
      have hp := fun n => ((ST.out.drewN n).set1 ((i : Int) + 1)).put (.int .i64 6) (.int .i64 p) (.string (strOfNums (numU acc))) (.int .i64 0) (.int .i64 0)
      rw [Exit.noGoto_ret]
      refine bodyPost_ret (results_ct rfl _ _ w.heap.size 57 #[.int .i64 6, .int .i64 p, .string (strOfNums (numU acc)), .int .i64 0, .int .i64 0] (0, 0) _ rfl (hp _).2.2.2 Tryz.underlying57 rfl (by kernel_rfl)) rfl ?_
      rw [← HT.out]; unfold txtR; rw [HBY.out]; dsimp only; rw [if_neg (fun h => H10.out (HC.out.symm.trans h)), if_pos (HC.out.trans H34.out), if_pos H40.out]
      exact ⟨rfl, (hp _).1, (hp _).2.1, (hp _).2.2.1⟩
     ·have k40 : ((40 : Int) < (acc.length : Int)) = True := eq_true (by omega)
      have H40 := Aside0.mk h40
      have k40n : (40 < acc.length) = True := eq_true (by omega)
      clear h40
      go_wp2
      go_quiet (fail)
      go_wp2
      go_quiet (fail)
      go_wp2_with (first | (go_at_call 135; refine (fail_st (w0 := w0) (w := w) (s := s) (x := ((i : Int) + 1)) (l := l) (e3 := e3) (e4 := e4) ?hsq2_ 40 (p : Int)).mono ?_; (case hsq2_ => (with_reducible repeat (first | apply St.set1 | apply St.drewN | apply St.drew)); exact ST.out); rintro e w2 ⟨rfl, s2_⟩; have S2 := Aside0.mk s2_; clear s2_; have q0 := S2.out.q0; have q1 := S2.out.q1; have q2 := S2.out.q2; have q3 := S2.out.q3; have q4 := S2.out.q4; have z0 := S2.out.z 0; have z1 := S2.out.z 1; have z2 := S2.out.z 2; have z3 := S2.out.z 3; have z4 := S2.out.z 4))
      obtain ⟨a1, a2, a3, a4⟩ := S2.out.put (.int .i64 0) (.int .i64 0) (.string ⟨#[]⟩) (.int .i64 0) (.int .i64 0)
      rw [Exit.noGoto_ret]
      refine bodyPost_ret (results_ct rfl _ _ w.heap.size 57 #[.int .i64 0, .int .i64 0, .string ⟨#[]⟩, .int .i64 0, .int .i64 0] (0, 0) _ rfl a4 Tryz.underlying57 rfl (by kernel_rfl)) rfl ?_
      rw [← HT.out]; unfold txtR; rw [HBY.out]; dsimp only; rw [if_neg (fun h => H10.out (HC.out.symm.trans h)), if_pos (HC.out.trans H34.out), if_neg H40.out]
      exact ⟨rfl, a1, a2, a3⟩
    ·have k34 : (c == 34) = false := beq_eq_false_iff_ne.mpr h34
     have H34 := Aside0.mk h34
     clear h34
     by_cases h92 : c = 92
     ·have k92 : (c == 92) = true := beq_iff_eq.mpr h92
      have H92 := Aside0.mk h92
      clear h92
      by_cases hlt2 : i + 1 < s.size
      ·skip
       obtain ⟨b2, hb2⟩ := byte_some s hlt2
       have hbt2 := bt_of s hb2
       have hx2 : ∀ h : i + 1 < s.size, ((s[i + 1]'h).toNat : Int) = (b2.toNat : Int) := fun h => (bt_at s ((i + 1 : Nat) : Int) h).trans hbt2.1
       generalize hcb2 : (b2.toNat : Int) = c2 at hx2
       have HC2 := Aside0.mk hcb2
       have HBY2 := Aside0.mk hb2
       have HLT2 := Aside0.mk hlt2
       clear hcb2 hbt2 hb2
       have p9 : ((0 : Int) ≤ (i : Int) + 1) = True := eq_true (by omega)
       have q9 : ((i : Int) + 1 < (s.size : Int)) = True := eq_true (by omega)
       have q10 : ((i : Int) + 1 == (s.size : Int)) = false := beq_eq_false_iff_ne.mpr (by omega)
       have q11 : ¬ (i : Int) + 1 = (s.size : Int) := by omega
       have q12 : ¬ i + 1 = s.size := by omega
       clear hlt2
       by_cases h2 : c2 = 34 ∨ c2 = 92
       ·skip
        have H2 := Aside0.mk h2
        have kk : (c2 != 34) = false ∨ (c2 != 34) = true ∧ (c2 != 92) = false := by
         rcases h2 with rfl | rfl
         ·exact .inl rfl
         ·exact .inr ⟨rfl, rfl⟩
        clear h2
        rcases kk with kk | ⟨kk, kk2⟩
        ·skip
         go_wp2
         go_quiet (fail)
         go_wp2
         go_quiet (fail)
         go_wp2
         go_quiet (fail)
         go_wp2
         go_quiet (fail)
         go_wp2_with (first | ((with_reducible refine gate_builtin (b := .append) (xs := #[.tmp 143, .tmp 145]) rfl ?_); at_builtin; refine append_row (w := w) (b := b2) rfl (.tmp 143) (.tmp 145) 76 rfl Tryz.underlying76 infoU8 u5 acc rfl (by first | rfl | (go_simp; done) | (go_simp; rfl)) HC2.out ?aO ?aS ?aL ?_; (case aO => exact (((HO.out.drewN _).set ST.out.gl 1 _).drewN _)); (case aS => exact St.size (((ST.out.drewN _).set1 _).drewN _)); (case aL => (have := HA.out; have := HI.out; have := HS.out; omega)); intro v1 w1 ho1 hb1; have S2 := Aside0.mk (St.step (((ST.out.drewN _).set1 _).drewN _) hb1 (St.size (((ST.out.drewN _).set1 _).drewN _))); have HO1 := Aside0.mk ho1; clear ho1 hb1; have hn0 := S2.out.c0; have hn1 := S2.out.c1; have hnf := S2.out.f 1))
         go_roundg k1
         case measure => omega
         case rel =>
          have hle := HI.out
          have hfu := HF.out
          have hac := HA.out
          have hi3 : ((i + 2 : Nat) : Int) = (i : Int) + 2 := by omega
          refine ⟨i + 2, acc ++ [b2], ?_, ?_, ?_, ?_, ?_, ?_⟩
          ·rw [← HT.out]; conv => rhs; unfold txtR
           rw [HBY.out]; dsimp only; rw [if_neg (fun h => H10.out (HC.out.symm.trans h)), if_neg (fun h => H34.out (HC.out.symm.trans h)), if_pos (HC.out.trans H92.out), HBY2.out]; dsimp only; rw [if_pos (by rw [HC2.out]; exact H2.out)]
          ·have := HLT2.out; omega
          ·omega
          ·rw [List.length_append]; simp only [List.length_cons, List.length_nil]; omega
          ·rw [hi3]; exact S2.out.set1 _
          ·exact HO1.out.set S2.out.gl 1 _
        ·skip
         go_wp2
         go_quiet (fail)
         go_wp2
         go_quiet (fail)
         go_wp2
         go_quiet (fail)
         go_wp2
         go_quiet (fail)
         go_wp2_with (first | ((with_reducible refine gate_builtin (b := .append) (xs := #[.tmp 143, .tmp 145]) rfl ?_); at_builtin; refine append_row (w := w) (b := b2) rfl (.tmp 143) (.tmp 145) 76 rfl Tryz.underlying76 infoU8 u5 acc rfl (by first | rfl | (go_simp; done) | (go_simp; rfl)) HC2.out ?aO ?aS ?aL ?_; (case aO => exact (((HO.out.drewN _).set ST.out.gl 1 _).drewN _)); (case aS => exact St.size (((ST.out.drewN _).set1 _).drewN _)); (case aL => (have := HA.out; have := HI.out; have := HS.out; omega)); intro v1 w1 ho1 hb1; have S2 := Aside0.mk (St.step (((ST.out.drewN _).set1 _).drewN _) hb1 (St.size (((ST.out.drewN _).set1 _).drewN _))); have HO1 := Aside0.mk ho1; clear ho1 hb1; have hn0 := S2.out.c0; have hn1 := S2.out.c1; have hnf := S2.out.f 1))
         go_roundg k1
         case measure => omega
         case rel =>
          have hle := HI.out
          have hfu := HF.out
          have hac := HA.out
          have hi3 : ((i + 2 : Nat) : Int) = (i : Int) + 2 := by omega
          refine ⟨i + 2, acc ++ [b2], ?_, ?_, ?_, ?_, ?_, ?_⟩
          ·rw [← HT.out]; conv => rhs; unfold txtR
           rw [HBY.out]; dsimp only; rw [if_neg (fun h => H10.out (HC.out.symm.trans h)), if_neg (fun h => H34.out (HC.out.symm.trans h)), if_pos (HC.out.trans H92.out), HBY2.out]; dsimp only; rw [if_pos (by rw [HC2.out]; exact H2.out)]
          ·have := HLT2.out; omega
          ·omega
          ·rw [List.length_append]; simp only [List.length_cons, List.length_nil]; omega
          ·rw [hi3]; exact S2.out.set1 _
          ·exact HO1.out.set S2.out.gl 1 _
       ·have kk : (c2 != 34) = true := bne_iff_ne.mpr (fun h => h2 (Or.inl h))
        have kk2 : (c2 != 92) = true := bne_iff_ne.mpr (fun h => h2 (Or.inr h))
        have H2 := Aside0.mk h2
        clear h2
        go_wp2
        go_quiet (fail)
        go_wp2
        go_quiet (fail)
        go_wp2
        go_quiet (fail)
        go_wp2_with (first | (go_at_call 135; refine (fail_st (w0 := w0) (w := w) (s := s) (x := (i : Int)) (l := l) (e3 := e3) (e4 := e4) ?hsq3_ 43 ((i : Int) : Int)).mono ?_; (case hsq3_ => (with_reducible repeat (first | apply St.set1 | apply St.drewN | apply St.drew)); exact ST.out); rintro e w2 ⟨rfl, s2_⟩; have S2 := Aside0.mk s2_; clear s2_; have q0 := S2.out.q0; have q1 := S2.out.q1; have q2 := S2.out.q2; have q3 := S2.out.q3; have q4 := S2.out.q4; have z0 := S2.out.z 0; have z1 := S2.out.z 1; have z2 := S2.out.z 2; have z3 := S2.out.z 3; have z4 := S2.out.z 4))
        obtain ⟨a1, a2, a3, a4⟩ := S2.out.put (.int .i64 0) (.int .i64 0) (.string ⟨#[]⟩) (.int .i64 0) (.int .i64 0)
        rw [Exit.noGoto_ret]
        refine bodyPost_ret (results_ct rfl _ _ w.heap.size 57 #[.int .i64 0, .int .i64 0, .string ⟨#[]⟩, .int .i64 0, .int .i64 0] (0, 0) _ rfl a4 Tryz.underlying57 rfl (by kernel_rfl)) rfl ?_
        rw [← HT.out]; unfold txtR; rw [HBY.out]; dsimp only; rw [if_neg (fun h => H10.out (HC.out.symm.trans h)), if_neg (fun h => H34.out (HC.out.symm.trans h)), if_pos (HC.out.trans H92.out), HBY2.out]; dsimp only; rw [if_neg (by rw [HC2.out]; exact H2.out)]
        exact ⟨rfl, a1, a2, a3⟩
      ·have q9 : ((i : Int) + 1 == (s.size : Int)) = true := beq_iff_eq.mpr (by have := HLT.out; omega)
       have q10 : ((i : Int) + 1 = (s.size : Int)) = True := eq_true (by have := HLT.out; omega)
       have q11 : (i + 1 = s.size) = True := eq_true (by have := HLT.out; omega)
       have HNB := Aside0.mk (byte_none s hlt2)
       clear hlt2
       go_wp2
       go_quiet (fail)
       go_wp2
       go_quiet (fail)
       go_wp2
       go_quiet (fail)
       go_wp2_with (first | (go_at_call 135; refine (fail_st (w0 := w0) (w := w) (s := s) (x := (i : Int)) (l := l) (e3 := e3) (e4 := e4) ?hsq4_ 43 ((i : Int) : Int)).mono ?_; (case hsq4_ => (with_reducible repeat (first | apply St.set1 | apply St.drewN | apply St.drew)); exact ST.out); rintro e w2 ⟨rfl, s2_⟩; have S2 := Aside0.mk s2_; clear s2_; have q0 := S2.out.q0; have q1 := S2.out.q1; have q2 := S2.out.q2; have q3 := S2.out.q3; have q4 := S2.out.q4; have z0 := S2.out.z 0; have z1 := S2.out.z 1; have z2 := S2.out.z 2; have z3 := S2.out.z 3; have z4 := S2.out.z 4))
       obtain ⟨a1, a2, a3, a4⟩ := S2.out.put (.int .i64 0) (.int .i64 0) (.string ⟨#[]⟩) (.int .i64 0) (.int .i64 0)
       rw [Exit.noGoto_ret]
       refine bodyPost_ret (results_ct rfl _ _ w.heap.size 57 #[.int .i64 0, .int .i64 0, .string ⟨#[]⟩, .int .i64 0, .int .i64 0] (0, 0) _ rfl a4 Tryz.underlying57 rfl (by kernel_rfl)) rfl ?_
       rw [← HT.out]; unfold txtR; rw [HBY.out]; dsimp only; rw [if_neg (fun h => H10.out (HC.out.symm.trans h)), if_neg (fun h => H34.out (HC.out.symm.trans h)), if_pos (HC.out.trans H92.out), HNB.out]
       exact ⟨rfl, a1, a2, a3⟩
     ·have k92 : (c == 92) = false := beq_eq_false_iff_ne.mpr h92
      have H92 := Aside0.mk h92
      clear h92
      by_cases h32 : c < 32
      ·have k32 : decide (c < 32) = true := decide_eq_true h32
       have H32 := Aside0.mk h32
       go_wp2
       go_quiet (fail)
       go_wp2
       go_quiet (fail)
       go_wp2_with (first | (go_at_call 135; refine (fail_st (w0 := w0) (w := w) (s := s) (x := (i : Int)) (l := l) (e3 := e3) (e4 := e4) ?hsq5_ 43 ((i : Int) : Int)).mono ?_; (case hsq5_ => (with_reducible repeat (first | apply St.set1 | apply St.drewN | apply St.drew)); exact ST.out); rintro e w2 ⟨rfl, s2_⟩; have S2 := Aside0.mk s2_; clear s2_; have q0 := S2.out.q0; have q1 := S2.out.q1; have q2 := S2.out.q2; have q3 := S2.out.q3; have q4 := S2.out.q4; have z0 := S2.out.z 0; have z1 := S2.out.z 1; have z2 := S2.out.z 2; have z3 := S2.out.z 3; have z4 := S2.out.z 4))
       obtain ⟨a1, a2, a3, a4⟩ := S2.out.put (.int .i64 0) (.int .i64 0) (.string ⟨#[]⟩) (.int .i64 0) (.int .i64 0)
       rw [Exit.noGoto_ret]
       refine bodyPost_ret (results_ct rfl _ _ w.heap.size 57 #[.int .i64 0, .int .i64 0, .string ⟨#[]⟩, .int .i64 0, .int .i64 0] (0, 0) _ rfl a4 Tryz.underlying57 rfl (by kernel_rfl)) rfl ?_
       rw [← HT.out]; unfold txtR; rw [HBY.out]; dsimp only; rw [if_neg (fun h => H10.out (HC.out.symm.trans h)), if_neg (fun h => H34.out (HC.out.symm.trans h)), if_neg (fun h => H92.out (HC.out.symm.trans h)), if_pos (Or.inl (by rw [HC.out]; exact H32.out))]
       exact ⟨rfl, a1, a2, a3⟩
      ·have k32 : decide (c < 32) = false := decide_eq_false h32
       have H32 := Aside0.mk h32
       by_cases h126 : 126 < c
       ·have k126 : decide (126 < c) = true := decide_eq_true h126
        have H126 := Aside0.mk h126
        go_wp2
        go_quiet (fail)
        go_wp2
        go_quiet (fail)
        go_wp2_with (first | (go_at_call 135; refine (fail_st (w0 := w0) (w := w) (s := s) (x := (i : Int)) (l := l) (e3 := e3) (e4 := e4) ?hsq6_ 43 ((i : Int) : Int)).mono ?_; (case hsq6_ => (with_reducible repeat (first | apply St.set1 | apply St.drewN | apply St.drew)); exact ST.out); rintro e w2 ⟨rfl, s2_⟩; have S2 := Aside0.mk s2_; clear s2_; have q0 := S2.out.q0; have q1 := S2.out.q1; have q2 := S2.out.q2; have q3 := S2.out.q3; have q4 := S2.out.q4; have z0 := S2.out.z 0; have z1 := S2.out.z 1; have z2 := S2.out.z 2; have z3 := S2.out.z 3; have z4 := S2.out.z 4))
        obtain ⟨a1, a2, a3, a4⟩ := S2.out.put (.int .i64 0) (.int .i64 0) (.string ⟨#[]⟩) (.int .i64 0) (.int .i64 0)
        rw [Exit.noGoto_ret]
        refine bodyPost_ret (results_ct rfl _ _ w.heap.size 57 #[.int .i64 0, .int .i64 0, .string ⟨#[]⟩, .int .i64 0, .int .i64 0] (0, 0) _ rfl a4 Tryz.underlying57 rfl (by kernel_rfl)) rfl ?_
        rw [← HT.out]; unfold txtR; rw [HBY.out]; dsimp only; rw [if_neg (fun h => H10.out (HC.out.symm.trans h)), if_neg (fun h => H34.out (HC.out.symm.trans h)), if_neg (fun h => H92.out (HC.out.symm.trans h)), if_pos (Or.inr (by rw [HC.out]; exact H126.out))]
        exact ⟨rfl, a1, a2, a3⟩
       ·have k126 : decide (126 < c) = false := decide_eq_false h126
        have H126 := Aside0.mk h126
        go_wp2
        go_quiet (fail)
        go_wp2
        go_quiet (fail)
        go_wp2_with (first | ((with_reducible refine gate_builtin (b := .append) (xs := #[.tmp 143, .tmp 145]) rfl ?_); at_builtin; refine append_row (w := w) (b := b) rfl (.tmp 143) (.tmp 145) 76 rfl Tryz.underlying76 infoU8 u5 acc rfl (by first | rfl | (go_simp; done) | (go_simp; rfl)) HC.out ?aO ?aS ?aL ?_; (case aO => exact (HO.out.drewN _)); (case aS => exact St.size (ST.out.drewN _)); (case aL => (have := HA.out; have := HI.out; have := HS.out; omega)); intro v1 w1 ho1 hb1; have S2 := Aside0.mk (St.step (ST.out.drewN _) hb1 (St.size (ST.out.drewN _))); have HO1 := Aside0.mk ho1; clear ho1 hb1; have hn0 := S2.out.c0; have hn1 := S2.out.c1; have hnf := S2.out.f 1))
        go_roundg k1
        case measure => omega
        case rel =>
         have hle := HI.out
         have hfu := HF.out
         have hac := HA.out
         have hi3 : ((i + 1 : Nat) : Int) = (i : Int) + 1 := by omega
         refine ⟨i + 1, acc ++ [b], ?_, ?_, ?_, ?_, ?_, ?_⟩
         ·rw [← HT.out]; conv => rhs; unfold txtR
          rw [HBY.out]; dsimp only; rw [if_neg (fun h => H10.out (HC.out.symm.trans h)), if_neg (fun h => H34.out (HC.out.symm.trans h)), if_neg (fun h => H92.out (HC.out.symm.trans h)), if_neg (fun h => by rw [HC.out] at h; omega)]
         ·have := HLT.out; omega
         ·omega
         ·rw [List.length_append]; simp only [List.length_cons, List.length_nil]; omega
         ·rw [hi3]; exact S2.out.set1 _
         ·exact HO1.out.set S2.out.gl 1 _
  ·have q5 : ((i : Int) == (s.size : Int)) = true := beq_iff_eq.mpr (by have := HI.out; omega)
   have q7 : (i : Int) = (s.size : Int) := by have := HI.out; omega
   have q8 : i = s.size := by have := HI.out; omega
   have HNB := Aside0.mk (byte_none s hlt)
   clear q8 hlt
   go_wp2
   go_quiet (fail)
   go_wp2_with (first | (go_at_call 135; refine (fail_st (w0 := w0) (w := w) (s := s) (x := (i : Int)) (l := l) (e3 := e3) (e4 := e4) ?hsq7_ 43 (p : Int)).mono ?_; (case hsq7_ => (with_reducible repeat (first | apply St.set1 | apply St.drewN | apply St.drew)); exact ST.out); rintro e w2 ⟨rfl, s2_⟩; have S2 := Aside0.mk s2_; clear s2_; have q0 := S2.out.q0; have q1 := S2.out.q1; have q2 := S2.out.q2; have q3 := S2.out.q3; have q4 := S2.out.q4; have z0 := S2.out.z 0; have z1 := S2.out.z 1; have z2 := S2.out.z 2; have z3 := S2.out.z 3; have z4 := S2.out.z 4))
   obtain ⟨a1, a2, a3, a4⟩ := S2.out.put (.int .i64 0) (.int .i64 0) (.string ⟨#[]⟩) (.int .i64 0) (.int .i64 0)
   rw [Exit.noGoto_ret]
   refine bodyPost_ret (results_ct rfl _ _ w.heap.size 57 #[.int .i64 0, .int .i64 0, .string ⟨#[]⟩, .int .i64 0, .int .i64 0] (0, 0) _ rfl a4 Tryz.underlying57 rfl (by kernel_rfl)) rfl ?_
   rw [← HT.out]; unfold txtR; rw [HNB.out]
   exact ⟨rfl, a1, a2, a3⟩
end Go.Proofs.YtjlclkenfmbahaaGreatDoor.PA
