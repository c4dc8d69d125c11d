/- The law's 'disk' walked: the small calls. Condition: two disks alike, a call that can be. -/
import Derived.Test.YtmpgldggjjmkmaaMDkOks
import Derived.StillTailTactics
import Derived.Test.YtmpgldggjjmkmaaML
namespace Go.Proofs.Ytmpgldggjjmkmaa.PA
open Go.RowKit Go.Maps Go.Proofs.YtmpgldggjjmkmaaW.PrintWords Go.Proofs.YtmpgldggjjmkmaaW.PrintLast Go.Proofs.YtmpgldggjjmkmaaW.PrintMore
set_option linter.unusedVariables false
set_option linter.unusedSimpArgs false
theorem DS.start {b : Nat} {w W : World} {col : RCol} {g gP gR : Nat} {o : OpV} {d : Dk} (h : PrSt b W col g gP gR d) (hold : Below b w W) (hin : OpIn w o) (hb : b = w.heap.size) : DS b w (W.alloc (.cells o.cells 38)) (colN col W.heap.size fun _ => .other) g gP gR W.heap.size o d d := by
  have hbW : b ≤ W.heap.size := Nat.le_trans h.le (Nat.le_of_lt (blk_lt h.blk))
  have hB := below_alloc (Below.refl W.heap.size W) (.cells o.cells 38)
  have m : Ch b W col (W.alloc (.cells o.cells 38)) (colN col W.heap.size fun _ => .other) (fun _ => False) := Ch.of_new hB hbW _
  exact ⟨m.blk h.blk (fun h => h), (m.same g (blk_lt h.blk)).trans h.tag, h.le, fun k hk => (m.same k (Nat.lt_of_lt_of_le hk hbW)).trans (h.args k hk), blk_new W _, colN_ge (Nat.le_refl _), hbW, h.p.ch m (fun _ _ h => h), h.r.ch m (fun _ _ h => h), h.ok, h.ok, hold.trans m.below, hin, hb⟩
set_option maxRecDepth 100000 in
set_option maxHeartbeats 4000000 in
theorem disk_sync {b : Nat} {w W : World} {col : RCol} {g gP gR : Nat} {o : OpV} {d : Dk} (h : PrSt b W col g gP gR d) (hold : Below b w W) (hin : OpIn w o) (hb : b = w.heap.size) (hk : o.kind = 2) :
    Calls Try.prog 5 #[.pointer (some ⟨g, 0, none⟩), .agg o.cells] W fun e w' => DiskPost b w g gP gR e w' := by
  have hD := DS.start h hold hin hb
  obtain ⟨W1, hW1⟩ : ∃ W1, W.alloc (.cells o.cells 38) = W1 := ⟨_, rfl⟩
  obtain ⟨q, hq⟩ : ∃ q, q = W.heap.size := ⟨_, rfl⟩
  obtain ⟨col1, hcol1⟩ : ∃ col1, col1 = colN col W.heap.size (fun _ => .other) := ⟨_, rfl⟩
  rw [hW1, ← hcol1, ← hq] at hD
  have HW := Aside0.mk hW1
  have HQ := Aside0.mk hq
  have HD := Aside0.mk hD
  have HK := Aside0.mk hk
  clear hk
  clear h hold hb hW1 hq hcol1 hD
  show Calls _ _ #[_, .agg #[.int .i64 o.kind, .int .i64 o.n, .int .i64 o.m, .bool o.sec, .string o.nm, .slice o.DA o.data.length o.dc, .slice o.KA o.keep.length o.kc, .int .u32 o.sum]] _ _
  go_enter Try.func5, Try.ntmps5
  go_upto_region 1 with fail
  rw [show (Obj.cells #[.int .i64 o.kind, .int .i64 o.n, .int .i64 o.m, .bool o.sec, .string o.nm, .slice o.DA o.data.length o.dc, .slice o.KA o.keep.length o.kc, .int .u32 o.sum] 38) = .cells o.cells 38 from rfl, HW.out, ← HQ.out]
  have c0 := HD.out.c0
  rw [HK.out] at c0
  go_upto_region 16 with fail
  have x0 := HD.out.cP; have x1 := HD.out.c1; have x2 := HD.out.c2; have x4 := HD.out.c4
  have n0_ := Aside0.mk HD.out.drew; clear HD; have HD := n0_; clear n0_
  go_still_tail 6, (by kernel_rfl)
  change wpList _ _ _ _ _ (World.drew _)
  clear x0 x1 x2 x4
  go_upto_region 17 with (go_at_call 17; refine Calls.mono (psync_d o.nm HD.out.okP HD.out.inn.name HD.out.p) ?_; rintro e wp ⟨rfl, hp⟩; obtain ⟨colp, hd2, _⟩ := HD.out.pstep hp (HD.out.okP.doF o.nm (fun _ => rfl) good_sync); have n0_ := Aside0.mk hd2; clear HD hp hd2; have HD := n0_; clear n0_)
  have x0 := HD.out.cR; have x1 := HD.out.c1; have x2 := HD.out.c2; have x4 := HD.out.c4
  have n0_ := Aside0.mk HD.out.drew; clear HD; have HD := n0_; clear n0_
  go_region_held3 (fun w' => w'.cell? ⟨g, 2, none⟩ = some (.pointer (some ⟨gR, 0, none⟩)) ∧ w'.cell? ⟨q, 1, none⟩ = some (.int .i64 o.n) ∧ w'.cell? ⟨q, 2, none⟩ = some (.int .i64 o.m) ∧ w'.cell? ⟨q, 4, none⟩ = some (.string o.nm)) (first | go_keep | exact ⟨HD.out.cR, HD.out.c1, HD.out.c2, HD.out.c4⟩) (first | (go_at_call 18; refine Calls.mono (rsync_d o.nm HD.out.okR HD.out.inn.name HD.out.r) ?_; rintro e wr ⟨rfl, hp⟩; obtain ⟨colr, hd2, _⟩ := HD.out.rstep hp (HD.out.okR.doF o.nm (fun _ => rfl) good_sync); have n0_ := Aside0.mk hd2; clear HD hp hd2; have HD := n0_; clear n0_))
  go_wp2
  go_ret
  exact HD.out.post
set_option maxRecDepth 100000 in
set_option maxHeartbeats 4000000 in
theorem disk_trim {b : Nat} {w W : World} {col : RCol} {g gP gR : Nat} {o : OpV} {d : Dk} (h : PrSt b W col g gP gR d) (hold : Below b w W) (hin : OpIn w o) (hb : b = w.heap.size) (hk : o.kind = 3) :
    Calls Try.prog 5 #[.pointer (some ⟨g, 0, none⟩), .agg o.cells] W fun e w' => DiskPost b w g gP gR e w' := by
  have hD := DS.start h hold hin hb
  obtain ⟨W1, hW1⟩ : ∃ W1, W.alloc (.cells o.cells 38) = W1 := ⟨_, rfl⟩
  obtain ⟨q, hq⟩ : ∃ q, q = W.heap.size := ⟨_, rfl⟩
  obtain ⟨col1, hcol1⟩ : ∃ col1, col1 = colN col W.heap.size (fun _ => .other) := ⟨_, rfl⟩
  rw [hW1, ← hcol1, ← hq] at hD
  have HW := Aside0.mk hW1
  have HQ := Aside0.mk hq
  have HD := Aside0.mk hD
  have HK := Aside0.mk hk
  clear hk
  clear h hold hb hW1 hq hcol1 hD
  show Calls _ _ #[_, .agg #[.int .i64 o.kind, .int .i64 o.n, .int .i64 o.m, .bool o.sec, .string o.nm, .slice o.DA o.data.length o.dc, .slice o.KA o.keep.length o.kc, .int .u32 o.sum]] _ _
  go_enter Try.func5, Try.ntmps5
  go_upto_region 1 with fail
  rw [show (Obj.cells #[.int .i64 o.kind, .int .i64 o.n, .int .i64 o.m, .bool o.sec, .string o.nm, .slice o.DA o.data.length o.dc, .slice o.KA o.keep.length o.kc, .int .u32 o.sum] 38) = .cells o.cells 38 from rfl, HW.out, ← HQ.out]
  have c0 := HD.out.c0
  rw [HK.out] at c0
  go_upto_region 19 with fail
  have x0 := HD.out.cP; have x1 := HD.out.c1; have x2 := HD.out.c2; have x4 := HD.out.c4
  have n0_ := Aside0.mk HD.out.drew; clear HD; have HD := n0_; clear n0_
  go_still_tail 8, (by kernel_rfl)
  change wpList _ _ _ _ _ (World.drew _)
  clear x0 x1 x2 x4
  go_upto_region 20 with (go_at_call 19; refine Calls.mono (ptrim_d o.nm o.n HD.out.okP HD.out.inn.name HD.out.p) ?_; rintro e wp ⟨rfl, hp⟩; obtain ⟨colp, hd2, _⟩ := HD.out.pstep hp (HD.out.okP.doF o.nm (fun _ => rfl) (good_trim o.n)); have n0_ := Aside0.mk hd2; clear HD hp hd2; have HD := n0_; clear n0_)
  have x0 := HD.out.cR; have x1 := HD.out.c1; have x2 := HD.out.c2; have x4 := HD.out.c4
  have n0_ := Aside0.mk HD.out.drew; clear HD; have HD := n0_; clear n0_
  go_region_held3 (fun w' => w'.cell? ⟨g, 2, none⟩ = some (.pointer (some ⟨gR, 0, none⟩)) ∧ w'.cell? ⟨q, 1, none⟩ = some (.int .i64 o.n) ∧ w'.cell? ⟨q, 2, none⟩ = some (.int .i64 o.m) ∧ w'.cell? ⟨q, 4, none⟩ = some (.string o.nm)) (first | go_keep | exact ⟨HD.out.cR, HD.out.c1, HD.out.c2, HD.out.c4⟩) (first | (go_at_call 20; refine Calls.mono (rtrim_d o.nm o.n HD.out.inn.n0 HD.out.inn.n1 HD.out.okR HD.out.inn.name HD.out.r) ?_; rintro e wr ⟨rfl, hp⟩; obtain ⟨colr, hd2, _⟩ := HD.out.rstep hp (HD.out.okR.doF o.nm (fun _ => rfl) (good_trim o.n)); have n0_ := Aside0.mk hd2; clear HD hp hd2; have HD := n0_; clear n0_))
  go_wp2
  go_ret
  exact HD.out.post
set_option maxRecDepth 100000 in
set_option maxHeartbeats 4000000 in
theorem disk_remove {b : Nat} {w W : World} {col : RCol} {g gP gR : Nat} {o : OpV} {d : Dk} (h : PrSt b W col g gP gR d) (hold : Below b w W) (hin : OpIn w o) (hb : b = w.heap.size) (hk : o.kind = 4) :
    Calls Try.prog 5 #[.pointer (some ⟨g, 0, none⟩), .agg o.cells] W fun e w' => DiskPost b w g gP gR e w' := by
  have hD := DS.start h hold hin hb
  obtain ⟨W1, hW1⟩ : ∃ W1, W.alloc (.cells o.cells 38) = W1 := ⟨_, rfl⟩
  obtain ⟨q, hq⟩ : ∃ q, q = W.heap.size := ⟨_, rfl⟩
  obtain ⟨col1, hcol1⟩ : ∃ col1, col1 = colN col W.heap.size (fun _ => .other) := ⟨_, rfl⟩
  rw [hW1, ← hcol1, ← hq] at hD
  have HW := Aside0.mk hW1
  have HQ := Aside0.mk hq
  have HD := Aside0.mk hD
  have HK := Aside0.mk hk
  clear hk
  clear h hold hb hW1 hq hcol1 hD
  show Calls _ _ #[_, .agg #[.int .i64 o.kind, .int .i64 o.n, .int .i64 o.m, .bool o.sec, .string o.nm, .slice o.DA o.data.length o.dc, .slice o.KA o.keep.length o.kc, .int .u32 o.sum]] _ _
  go_enter Try.func5, Try.ntmps5
  go_upto_region 1 with fail
  rw [show (Obj.cells #[.int .i64 o.kind, .int .i64 o.n, .int .i64 o.m, .bool o.sec, .string o.nm, .slice o.DA o.data.length o.dc, .slice o.KA o.keep.length o.kc, .int .u32 o.sum] 38) = .cells o.cells 38 from rfl, HW.out, ← HQ.out]
  have c0 := HD.out.c0
  rw [HK.out] at c0
  go_upto_region 22 with fail
  have x0 := HD.out.cP; have x1 := HD.out.c1; have x2 := HD.out.c2; have x4 := HD.out.c4
  have n0_ := Aside0.mk HD.out.drew; clear HD; have HD := n0_; clear n0_
  go_still_tail 6, (by kernel_rfl)
  change wpList _ _ _ _ _ (World.drew _)
  clear x0 x1 x2 x4
  go_upto_region 23 with (go_at_call 21; refine Calls.mono (premove_d o.nm HD.out.okP HD.out.inn.name HD.out.p) ?_; rintro e wp ⟨rfl, hp⟩; obtain ⟨colp, hd2, _⟩ := HD.out.pstep hp (HD.out.okP.rem o.nm); have n0_ := Aside0.mk hd2; clear HD hp hd2; have HD := n0_; clear n0_)
  have x0 := HD.out.cR; have x1 := HD.out.c1; have x2 := HD.out.c2; have x4 := HD.out.c4
  have n0_ := Aside0.mk HD.out.drew; clear HD; have HD := n0_; clear n0_
  go_region_held3 (fun w' => w'.cell? ⟨g, 2, none⟩ = some (.pointer (some ⟨gR, 0, none⟩)) ∧ w'.cell? ⟨q, 1, none⟩ = some (.int .i64 o.n) ∧ w'.cell? ⟨q, 2, none⟩ = some (.int .i64 o.m) ∧ w'.cell? ⟨q, 4, none⟩ = some (.string o.nm)) (first | go_keep | exact ⟨HD.out.cR, HD.out.c1, HD.out.c2, HD.out.c4⟩) (first | (go_at_call 22; refine Calls.mono (rremove_d o.nm HD.out.okR HD.out.inn.name HD.out.r) ?_; rintro e wr ⟨rfl, hp⟩; obtain ⟨colr, hd2, _⟩ := HD.out.rstep hp (HD.out.okR.rem o.nm); have n0_ := Aside0.mk hd2; clear HD hp hd2; have HD := n0_; clear n0_))
  go_wp2
  go_ret
  exact HD.out.post
end Go.Proofs.Ytmpgldggjjmkmaa.PA
