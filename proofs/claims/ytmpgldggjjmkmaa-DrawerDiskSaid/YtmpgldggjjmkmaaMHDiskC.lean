/- The law's 'disk' walked: bytes and numbers that are lent, the files. Condition: two disks alike, a call that can be. -/
import Derived.Test.YtmpgldggjjmkmaaMDkLent
import Derived.StillTailTactics
import Derived.Deep.RegionHeld3
import Derived.Test.YtmpgldggjjmkmaaML
namespace Go.Proofs.Ytmpgldggjjmkmaa.PA
open Go.RowKit Go.Maps Go.Proofs.YtmpgldggjjmkmaaW.PrintWords Go.Proofs.YtmpgldggjjmkmaaW.PrintLast Go.Proofs.YtmpgldggjjmkmaaW.PrintMore
set_option linter.unusedVariables false
set_option linter.unusedSimpArgs false
set_option maxRecDepth 100000 in
set_option maxHeartbeats 4000000 in
theorem disk_append {b : Nat} {w W : World} {col : RCol} {g gP gR : Nat} {o : OpV} {d : Dk} (h : PrSt b W col g gP gR d) (hold : Below b w W) (hin : OpIn w o) (hb : b = w.heap.size) (hk : o.kind = 1) :
    Calls Try.prog 5 #[.pointer (some ⟨g, 0, none⟩), .agg o.cells] W fun e w' => DiskPost b w g gP gR e w' := by
  have hD := DS.start h hold hin hb
  obtain ⟨W1, hW1⟩ : ∃ W1, W.alloc (.cells o.cells 38) = W1 := ⟨_, rfl⟩
  obtain ⟨q, hq⟩ : ∃ q, q = W.heap.size := ⟨_, rfl⟩
  obtain ⟨col1, hcol1⟩ : ∃ col1, col1 = colN col W.heap.size (fun _ => .other) := ⟨_, rfl⟩
  rw [hW1, ← hcol1, ← hq] at hD
  have HW := Aside0.mk hW1
  have HQ := Aside0.mk hq
  have HD := Aside0.mk hD
  have HK := Aside0.mk hk
  clear hk
  clear h hold hb hW1 hq hcol1 hD
  show Calls _ _ #[_, .agg #[.int .i64 o.kind, .int .i64 o.n, .int .i64 o.m, .bool o.sec, .string o.nm, .slice o.DA o.data.length o.dc, .slice o.KA o.keep.length o.kc, .int .u32 o.sum]] _ _
  go_enter Try.func5, Try.ntmps5
  go_upto_region 1 with fail
  rw [show (Obj.cells #[.int .i64 o.kind, .int .i64 o.n, .int .i64 o.m, .bool o.sec, .string o.nm, .slice o.DA o.data.length o.dc, .slice o.KA o.keep.length o.kc, .int .u32 o.sum] 38) = .cells o.cells 38 from rfl, HW.out, ← HQ.out]
  have c0 := HD.out.c0
  rw [HK.out] at c0
  go_upto_region 4 with fail
  rw [show (Obj.cells #[.slice none 0 0, .slice none 0 0, .slice none 0 0, .slice none 0 0, .slice none 0 0, .slice none 0 0, .slice none 0 0, .slice none 0 0, .slice none 0 0, .slice none 0 0, .slice none 0 0, .slice none 0 0, .slice none 0 0, .slice none 0 0, .slice none 0 0, .slice none 0 0, .slice none 0 0, .slice none 0 0, .slice none 0 0, .slice none 0 0, .slice none 0 0] 65) = .cells roomNil 65 from rfl]
  obtain ⟨hds, hG, htG, hbG⟩ := HD.out.room
  obtain ⟨W2, hW2⟩ : ∃ W2, W1.alloc (.cells roomNil 65) = W2 := ⟨_, rfl⟩
  obtain ⟨G, hGe⟩ : ∃ G, G = W1.heap.size := ⟨_, rfl⟩
  obtain ⟨col2, hcol2⟩ : ∃ col2, col2 = colN col1 W1.heap.size (fun _ => .rm) := ⟨_, rfl⟩
  rw [hW2, ← hcol2] at hds
  rw [hW2, ← hGe] at hG
  rw [← hcol2, ← hGe] at htG
  rw [← hGe] at hbG
  rw [hW2, ← hGe]
  have hnG : G < W2.heap.size := blk_lt hG
  have n0_ : Aside0 (DG b w W2 col2 g gP gR q o d d G roomNil) := Aside0.mk ⟨hds, hG, htG, hbG⟩
  clear HD HW HQ; have HD := n0_; clear n0_ hds hG htG hbG hW2 hGe hcol2 hnG c0
  have x5 := HD.out.ds.c5
  have HL5 : Aside0 (o.data.length ≤ 140737488351232) := ⟨HD.out.ds.inn.dlen⟩
  go_upto_region 5 with (first | (go_at_call 13; refine Calls.mono (room_bytes b G roomNil (.slice none 0 0) [] col2 o.DA o.dc o.data W2 HL5.out (by simp) HD.out.blk HD.out.tag HD.out.le rfl (RmB.nil _ _ _) HD.out.ds.data) ?_; rintro e w3 ⟨F, cap, v1, col3, rfl, hm, hrm, hg3, hF⟩; have n0_ := Aside0.mk (DR.of HD.out.ds HD.out.ds.size hm hrm hg3 (blk_lt HD.out.blk) HD.out.tag); clear HD hm hrm hg3 hF; have HD := n0_; clear n0_))
  clear x5
  have n0_ := Aside0.mk HD.out.drew; clear HD; have HD := n0_; clear n0_
  have x0 := HD.out.ds.cP; have x4 := HD.out.ds.c4
  go_region_held3 (fun w' => w'.cell? ⟨g, 0, none⟩ = some (.pointer (some ⟨gP, 0, none⟩)) ∧ w'.cell? ⟨q, 4, none⟩ = some (.string o.nm)) (first | go_keep | exact ⟨HD.out.ds.cP, HD.out.ds.c4⟩) (first | (go_at_call 14; refine Calls.mono (pappend_d o.nm (some ⟨F, 0, none⟩) (o.data.length + 600) o.data HD.out.ds.okP HD.out.ds.inn.name (HD.out.xF (fun h => h)) (Nat.le_add_right _ _) (by have := HL5.out; omega) HD.out.ds.p) ?_; rintro e wp ⟨rfl, hp⟩; obtain ⟨colp, hd2⟩ := HD.out.pstep hp (HD.out.ds.okP.app _ _); have n0_ := Aside0.mk hd2; clear HD hp hd2; have HD := n0_; clear n0_))
  clear x0 x4
  go_upto_region 6 with fail
  have n0_ := Aside0.mk HD.out.drew; clear HD; have HD := n0_; clear n0_
  have x0 := HD.out.ds.cR; have x4 := HD.out.ds.c4; have x5 := HD.out.ds.c5
  go_region_held3 (fun w' => w'.cell? ⟨g, 2, none⟩ = some (.pointer (some ⟨gR, 0, none⟩)) ∧ w'.cell? ⟨q, 4, none⟩ = some (.string o.nm) ∧ w'.cell? ⟨q, 5, none⟩ = some (.slice o.DA o.data.length o.dc)) (first | go_keep | exact ⟨HD.out.ds.cR, HD.out.ds.c4, HD.out.ds.c5⟩)
    (first
      | (go_at_call 15; refine Calls.mono (sameBytes_calls o.data (some ⟨F, 0, none⟩) o.DA (o.data.length + 600) o.dc _ (Kd.C_of_reads (d := (0 : Int)) (readsInt_of.1 HD.out.lent.2.1)) (Nat.le_add_right _ _) (Kd.C_of_reads (d := (0 : Int)) (readsInt_of.1 HD.out.ds.data)) HD.out.ds.inn.dcap) ?_; rintro e w6 ⟨rfl, hd6⟩; have n0_ := Aside0.mk (HD.out.go hd6.below); clear HD hd6; have HD := n0_; clear n0_)
      | (go_at_call 12; refine Calls.mono HD.out.hold ?_; rintro e w7 ⟨rfl, hb7⟩; have n0_ := Aside0.mk (HD.out.go hb7); clear HD hb7; have HD := n0_; clear n0_)
      | (go_at_call 16; refine Calls.mono (rappend_d o.nm o.DA o.dc o.data HD.out.ds.okR HD.out.ds.inn.name (HD.out.ds.xdata (fun h => h)) HD.out.ds.inn.dcap (by have := HL5.out; omega) HD.out.ds.r) ?_; rintro e w8 ⟨rfl, hp⟩; obtain ⟨colr, hd2⟩ := HD.out.rstep hp (HD.out.ds.okR.app _ _); have n0_ := Aside0.mk hd2; clear HD hp hd2; have HD := n0_; clear n0_))
  clear x0 x4 x5
  go_wp2
  have HL := Aside0.mk HD.out.du
  clear HD
  go_loopw [9] (fun v9 wr => ∃ k : Nat, k ≤ o.data.length ∧ v9 = .int .i64 k ∧ DU b w wr colr g gP gR q o (d.app o.nm o.data).2 (d.app o.nm o.data).2 F o.data.length) (fun v9 _ => o.data.length - (intOf v9).toNat)
  case atStart => exact ⟨0, by omega, rfl, HL.out⟩
  case round =>
    clear HL
    obtain ⟨k, hk, rfl, hL⟩ := hrel
    have hnb := HL5.out
    by_cases h2 : k < o.data.length
    · obtain ⟨⟨x, x2⟩, x3⟩ := hL.u8.at h2
      have ck : (k : Int) < (o.data.length : Int) := by omega
      have HJ3 : Aside0 (wrap64 ((k : Int) + 1) = ((k : Int) + 1)) := ⟨PA.wr (by omega) (by omega)⟩
      have HJQ := Aside0.mk (congrArg (Value.int .i64) (show wrap64 ((k : Int) + 1) = ((k + 1 : Nat) : Int) from HJ3.out))
      have HJS := Aside0.mk (meas_lt h2 HJ3.out)
      have HJQ2 := Aside0.mk (show Value.int .i64 ((k : Int) + 1) = Value.int .i64 ((k + 1 : Nat) : Int) from rfl)
      have HJS2 := Aside0.mk (meas_lt2 h2)
      have HJ1 := Aside0.mk (Nat.succ_le_of_lt h2)
      have HL := Aside0.mk hL
      clear h2 hk hL
      go_wp2
      exact ⟨⟨k + 1, HJ1.out, by first | exact HJQ.out | exact HJQ2.out, HL.out.step _ _⟩, by first | exact HJS.out | exact HJS2.out⟩
    · obtain rfl : k = o.data.length := by omega
      have k5 : decide (o.data.length < o.data.length) = false := decide_eq_false h2
      have HL := Aside0.mk hL
      clear h2 hk hL
      obtain ⟨n, hn⟩ : ∃ n, n = o.data.length := ⟨_, rfl⟩
      by_cases h0 : 0 < n ∧ n ≤ 64
      · obtain ⟨h0, h64⟩ := h0
        have a1 : (0 : Int) < (o.data.length : Int) := by omega
        have a2 : (o.data.length : Int) ≤ 64 := by omega
        have a3 : 0 < o.data.length := by omega
        have a4 : o.data.length ≤ 64 := by omega
        clear h0 h64 hn
        obtain ⟨ys, hyl, hyr⟩ := HL.out.reads (by omega)
        have HYR := Aside0.mk hyr
        have HYL := Aside0.mk hyl
        clear hyr hyl
        go_upto_region 12 with fail
        have n0_ := Aside0.mk HL.out.drew; clear HL; have HL := n0_; clear n0_
        have HYQ := Aside0.mk (HYR.out.below ((Drawn0.refl wr).step 1).below)
        have x0 := HL.out.ds.cP; have x4 := HL.out.ds.c4
        go_region_held3 (fun w' => w'.cell? ⟨g, 0, none⟩ = some (.pointer (some ⟨gP, 0, none⟩)) ∧ w'.cell? ⟨q, 4, none⟩ = some (.string o.nm)) (first | go_keep | exact ⟨HL.out.ds.cP, HL.out.ds.c4⟩) (first | (go_at_call 14; refine Calls.mono (pappend_n o.data.length o.nm (some ⟨F, 0, none⟩) (o.data.length + 600) ys HYL.out HL.out.ds.okP HL.out.ds.inn.name (HL.out.xF (fun h => h) HYL.out (HYQ.out)) (Nat.le_add_right _ _) (by have := HL5.out; omega) HL.out.ds.p) ?_; rintro e wp2 ⟨rfl, hp⟩; obtain ⟨colp2, hd2, hm2⟩ := HL.out.pstep hp (HL.out.ds.okP.app _ _); have HX2 := Aside0.mk ((HL.out.xF (S := isP) (fun h => h) HYL.out HYQ.out).ch hm2 (fun _ h => h)); have n0_ := Aside0.mk hd2; clear HL hp hd2 hm2; have HL := n0_; clear n0_))
        clear x0 x4
        go_upto_region 13 with fail
        have n0_ := Aside0.mk HL.out.drew; clear HL; have HL := n0_; clear n0_
        have HXQ : Aside0 (ReadsInt (World.drew wp2) .u8 (some ⟨F, 0, none⟩) o.data.length ys) := ⟨(show ReadsInt wp2 .u8 (some ⟨F, 0, none⟩) o.data.length ys from HYL.out ▸ HX2.out.rd).below ((Drawn0.refl wp2).step 1).below⟩
        have x0 := HL.out.ds.cR; have x4 := HL.out.ds.c4
        go_region_held3 (fun w' => w'.cell? ⟨g, 2, none⟩ = some (.pointer (some ⟨gR, 0, none⟩)) ∧ w'.cell? ⟨q, 4, none⟩ = some (.string o.nm)) (first | go_keep | exact ⟨HZ.out.cR, HZ.out.c4⟩ | exact ⟨HL.out.ds.cR, HL.out.ds.c4⟩)
          (first
            | (go_at_call 16; refine Calls.mono (rappend_d o.nm A9 c9 ys HL.out.ds.okR HL.out.ds.inn.name HX9.out HC9.out (by have := HL5.out; have := HYL.out; omega) HL.out.ds.r) ?_; rintro e w10 ⟨rfl, hp⟩; obtain ⟨col10, hd2, _⟩ := HL.out.ds.rstep hp (HL.out.ds.okR.app _ _); have HZ := Aside0.mk hd2; clear HL hp hd2)
            | (refine step_append_row rfl (.const (.slice none 0 0)) (.tmp 97) 34 5 rfl Try.underlying34 infoB (World.drew wp2).heap.size (.slice none 0 0) [] ys (some ⟨F, 0, none⟩) o.data.length (o.data.length + 600) rfl rfl (own_nil _ _ _ _) HXQ.out (Nat.le_refl _) (by have := HL5.out; simp; omega) ?_; intro v9 w9 ho9 hg9 _; obtain ⟨A9, c9, rfl, hc9, hu9, hx9⟩ := HL.out.fresh ho9 hg9; have HX9 := Aside0.mk hx9; have HC9 := Aside0.mk hc9; have n0_ := Aside0.mk hu9; clear HL hu9 hx9 hc9 ho9 hg9; have HL := n0_; clear n0_))
        go_wp2
        go_ret
        exact HZ.out.post
      · have a0 : ¬ (0 < o.data.length ∧ o.data.length ≤ 64) := by rw [← hn]; exact h0
        clear hn h0
        by_cases h1 : 0 < o.data.length
        · have a1 : (0 : Int) < (o.data.length : Int) := by omega
          have a2 : ¬ (o.data.length : Int) ≤ 64 := by omega
          have a4 : ¬ o.data.length ≤ 64 := by omega
          clear a0
          go_wp2
          go_ret
          exact HL.out.ds.post
        · have a1 : ¬ (0 : Int) < (o.data.length : Int) := by omega
          clear a0
          go_wp2
          go_ret
          exact HL.out.ds.post
set_option maxRecDepth 100000 in
set_option maxHeartbeats 4000000 in
theorem disk_restart {b : Nat} {w W : World} {col : RCol} {g gP gR : Nat} {o : OpV} {d : Dk} (h : PrSt b W col g gP gR d) (hold : Below b w W) (hin : OpIn w o) (hb : b = w.heap.size) (hk : o.kind = 9) :
    Calls Try.prog 5 #[.pointer (some ⟨g, 0, none⟩), .agg o.cells] W fun e w' => DiskPost b w g gP gR e w' := by
  have hD := DS.start h hold hin hb
  obtain ⟨W1, hW1⟩ : ∃ W1, W.alloc (.cells o.cells 38) = W1 := ⟨_, rfl⟩
  obtain ⟨q, hq⟩ : ∃ q, q = W.heap.size := ⟨_, rfl⟩
  obtain ⟨col1, hcol1⟩ : ∃ col1, col1 = colN col W.heap.size (fun _ => .other) := ⟨_, rfl⟩
  rw [hW1, ← hcol1, ← hq] at hD
  have HW := Aside0.mk hW1
  have HQ := Aside0.mk hq
  have HD := Aside0.mk hD
  have HK := Aside0.mk hk
  clear hk
  clear h hold hb hW1 hq hcol1 hD
  show Calls _ _ #[_, .agg #[.int .i64 o.kind, .int .i64 o.n, .int .i64 o.m, .bool o.sec, .string o.nm, .slice o.DA o.data.length o.dc, .slice o.KA o.keep.length o.kc, .int .u32 o.sum]] _ _
  go_enter Try.func5, Try.ntmps5
  go_upto_region 1 with fail
  rw [show (Obj.cells #[.int .i64 o.kind, .int .i64 o.n, .int .i64 o.m, .bool o.sec, .string o.nm, .slice o.DA o.data.length o.dc, .slice o.KA o.keep.length o.kc, .int .u32 o.sum] 38) = .cells o.cells 38 from rfl, HW.out, ← HQ.out]
  have c0 := HD.out.c0
  rw [HK.out] at c0
  go_upto_region 39 with fail
  rw [show (Obj.cells #[.slice none 0 0, .slice none 0 0, .slice none 0 0, .slice none 0 0, .slice none 0 0, .slice none 0 0, .slice none 0 0, .slice none 0 0, .slice none 0 0, .slice none 0 0, .slice none 0 0, .slice none 0 0, .slice none 0 0, .slice none 0 0, .slice none 0 0, .slice none 0 0, .slice none 0 0, .slice none 0 0, .slice none 0 0, .slice none 0 0, .slice none 0 0] 65) = .cells roomNil 65 from rfl]
  obtain ⟨hds, hG, htG, hbG⟩ := HD.out.room
  obtain ⟨W2, hW2⟩ : ∃ W2, W1.alloc (.cells roomNil 65) = W2 := ⟨_, rfl⟩
  obtain ⟨G, hGe⟩ : ∃ G, G = W1.heap.size := ⟨_, rfl⟩
  obtain ⟨col2, hcol2⟩ : ∃ col2, col2 = colN col1 W1.heap.size (fun _ => .rm) := ⟨_, rfl⟩
  rw [hW2, ← hcol2] at hds
  rw [hW2, ← hGe] at hG
  rw [← hcol2, ← hGe] at htG
  rw [← hGe] at hbG
  rw [hW2, ← hGe]
  have hnG : G < W2.heap.size := blk_lt hG
  have n0_ : Aside0 (DG b w W2 col2 g gP gR q o d d G roomNil) := Aside0.mk ⟨hds, hG, htG, hbG⟩
  clear HD HW HQ; have HD := n0_; clear n0_ hds hG htG hbG hW2 hGe hcol2 hnG c0
  have n0_ := Aside0.mk HD.out.drew; clear HD; have HD := n0_; clear n0_
  have x0 := HD.out.ds.cP; have x6 := HD.out.ds.c6
  go_region_held3 (fun w' => w'.cell? ⟨g, 0, none⟩ = some (.pointer (some ⟨gP, 0, none⟩)) ∧ w'.cell? ⟨q, 6, none⟩ = some (.slice o.KA o.keep.length o.kc)) (first | go_keep | exact ⟨HD.out.ds.cP, HD.out.ds.c6⟩ | exact ⟨HD.out.dg.ds.cP, HD.out.dg.ds.c6⟩)
    (first
      | (go_at_call 32; refine Calls.mono (room_ints b G roomNil col2 o.KA o.kc o.keep _ HD.out.ds.inn.klen HD.out.blk HD.out.tag HD.out.le rfl HD.out.ds.keep) ?_; rintro e w3 ⟨F, v1, col3, rfl, hm, hri, hgi, hFi, hrd, hti⟩; have HX := Aside0.mk (xints_lent (S := isP) hrd hti (fun h => h)); have n0_ := Aside0.mk (HD.out.lend hm hri hgi); clear HD hm hri hgi hFi hrd hti; have HD := n0_; clear n0_)
      | (go_at_call 31; refine Calls.mono (prestart_d (some ⟨F, 0, none⟩) (o.keep.length + 40) o.keep HD.out.dg.ds.okP HX.out (by have := HD.out.dg.ds.inn.klen; omega) HD.out.dg.ds.p) ?_; rintro e wp ⟨rfl, hp⟩; obtain ⟨colp, hd2⟩ := HD.out.pstep hp (HD.out.dg.ds.okP.rest _); have n0_ := Aside0.mk hd2; clear HD hp hd2; have HD := n0_; clear n0_))
  clear x0 x6
  go_upto_region 40 with fail
  have n0_ := Aside0.mk HD.out.drew; clear HD; have HD := n0_; clear n0_
  have x0 := HD.out.dg.ds.cR; have x6 := HD.out.dg.ds.c6
  go_region_held3 (fun w' => w'.cell? ⟨g, 2, none⟩ = some (.pointer (some ⟨gR, 0, none⟩)) ∧ w'.cell? ⟨q, 6, none⟩ = some (.slice o.KA o.keep.length o.kc)) (first | go_keep | exact ⟨HD.out.dg.ds.cR, HD.out.dg.ds.c6⟩)
    (first
      | (go_at_call 33; refine Calls.mono (rrestart_d o.KA o.kc o.keep HD.out.dg.ds.okR (HD.out.dg.ds.xkeep (fun h => h)) (by have := HD.out.dg.ds.inn.klen; omega) HD.out.dg.ds.r) ?_; rintro e wr ⟨rfl, hp⟩; obtain ⟨colr, hd2⟩ := HD.out.rstep hp (HD.out.dg.ds.okR.rest _); have n0_ := Aside0.mk hd2; clear HD hp hd2; have HD := n0_; clear n0_))
  clear x0 x6
  go_wp2_with (go_at_call 12; refine Calls.mono HD.out.hold ?_; rintro e w7 ⟨rfl, hb7⟩; have n0_ := Aside0.mk (HD.out.go hb7); clear HD hb7; have HD := n0_; clear n0_)
  go_ret
  exact HD.out.dg.ds.post
set_option maxRecDepth 100000 in
set_option maxHeartbeats 4000000 in
theorem disk_files {b : Nat} {w W : World} {col : RCol} {g gP gR : Nat} {o : OpV} {d : Dk} (h : PrSt b W col g gP gR d) (hold : Below b w W) (hin : OpIn w o) (hb : b = w.heap.size) (hk : o.kind = 10) :
    Calls Try.prog 5 #[.pointer (some ⟨g, 0, none⟩), .agg o.cells] W fun e w' => DiskPost b w g gP gR e w' := by
  have hD := DS.start h hold hin hb
  obtain ⟨W1, hW1⟩ : ∃ W1, W.alloc (.cells o.cells 38) = W1 := ⟨_, rfl⟩
  obtain ⟨q, hq⟩ : ∃ q, q = W.heap.size := ⟨_, rfl⟩
  obtain ⟨col1, hcol1⟩ : ∃ col1, col1 = colN col W.heap.size (fun _ => .other) := ⟨_, rfl⟩
  rw [hW1, ← hcol1, ← hq] at hD
  have HW := Aside0.mk hW1
  have HQ := Aside0.mk hq
  have HD := Aside0.mk hD
  have HK := Aside0.mk hk
  clear hk
  clear h hold hb hW1 hq hcol1 hD
  show Calls _ _ #[_, .agg #[.int .i64 o.kind, .int .i64 o.n, .int .i64 o.m, .bool o.sec, .string o.nm, .slice o.DA o.data.length o.dc, .slice o.KA o.keep.length o.kc, .int .u32 o.sum]] _ _
  go_enter Try.func5, Try.ntmps5
  go_upto_region 1 with fail
  rw [show (Obj.cells #[.int .i64 o.kind, .int .i64 o.n, .int .i64 o.m, .bool o.sec, .string o.nm, .slice o.DA o.data.length o.dc, .slice o.KA o.keep.length o.kc, .int .u32 o.sum] 38) = .cells o.cells 38 from rfl, HW.out, ← HQ.out]
  have c0 := HD.out.c0
  rw [HK.out] at c0
  go_upto_region 43 with fail
  have n0_ := Aside0.mk HD.out.drew; clear HD; have HD := n0_; clear n0_
  have x0 := HD.out.cP; have x2 := HD.out.cR
  go_region_held3 (fun w' => w'.cell? ⟨g, 0, none⟩ = some (.pointer (some ⟨gP, 0, none⟩)) ∧ w'.cell? ⟨g, 2, none⟩ = some (.pointer (some ⟨gR, 0, none⟩))) (first | go_keep | exact ⟨HD.out.cP, HD.out.cR⟩)
    (first
      | (go_at_call 7; refine Calls.mono (pfiles_d HD.out.okP HD.out.p) ?_; rintro e w5 hp; obtain ⟨A5, c5, rfl, hc5, hk5, hb5⟩ := FlPost.slice hp; have HC5 := Aside0.mk hc5; have HK5 := Aside0.mk hk5; have n0_ := Aside0.mk (HD.out.go hb5); clear HD hp hc5 hk5 hb5; have HD := n0_; clear n0_)
      | (go_at_call 8; refine Calls.mono (rfiles_d _ gR _ _ _ HD.out.r HD.out.okR) ?_; rintro e w6 hp; obtain ⟨A6, c6, rfl, hc6, hk6, hb6⟩ := FlPost.slice hp; have HC6 := Aside0.mk hc6; have HK6 := Aside0.mk hk6; have HK5b := Aside0.mk (Kd.C_below HK5.out hb6); have n0_ := Aside0.mk (HD.out.go hb6); clear HD hp hc6 hk6 hb6; have HD := n0_; clear n0_)
      | (go_at_call 6; refine Calls.mono (sameFiles_calls d.fs (by have := HD.out.okP.few; omega) A5 A6 c5 c6 _ HK5b.out HC5.out HK6.out HC6.out) ?_; rintro e w7 ⟨rfl, hb7⟩; have n0_ := Aside0.mk (HD.out.go hb7); clear HD hb7; have HD := n0_; clear n0_))
  clear x0 x2
  go_wp2
  go_ret
  exact HD.out.post
end Go.Proofs.Ytmpgldggjjmkmaa.PA
