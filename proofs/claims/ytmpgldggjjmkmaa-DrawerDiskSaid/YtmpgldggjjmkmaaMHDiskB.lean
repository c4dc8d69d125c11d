/- The law's 'disk' walked: reads, rigs, crashes, files. Condition: two disks alike, a call that can be. -/
import Derived.Test.YtmpgldggjjmkmaaMHDiskA
import Derived.StillTailTactics
import Derived.Test.YtmpgldggjjmkmaaML
namespace Go.Proofs.Ytmpgldggjjmkmaa.PA
open Go.RowKit Go.Maps Go.Proofs.YtmpgldggjjmkmaaW.PrintWords Go.Proofs.YtmpgldggjjmkmaaW.PrintLast Go.Proofs.YtmpgldggjjmkmaaW.PrintMore
set_option linter.unusedVariables false
set_option linter.unusedSimpArgs false
set_option maxRecDepth 100000 in
set_option maxHeartbeats 4000000 in
theorem disk_arm {b : Nat} {w W : World} {col : RCol} {g gP gR : Nat} {o : OpV} {d : Dk} (h : PrSt b W col g gP gR d) (hold : Below b w W) (hin : OpIn w o) (hb : b = w.heap.size) (hk : o.kind = 6) :
    Calls Try.prog 5 #[.pointer (some ⟨g, 0, none⟩), .agg o.cells] W fun e w' => DiskPost b w g gP gR e w' := by
  have hD := DS.start h hold hin hb
  obtain ⟨W1, hW1⟩ : ∃ W1, W.alloc (.cells o.cells 38) = W1 := ⟨_, rfl⟩
  obtain ⟨q, hq⟩ : ∃ q, q = W.heap.size := ⟨_, rfl⟩
  obtain ⟨col1, hcol1⟩ : ∃ col1, col1 = colN col W.heap.size (fun _ => .other) := ⟨_, rfl⟩
  rw [hW1, ← hcol1, ← hq] at hD
  have HW := Aside0.mk hW1
  have HQ := Aside0.mk hq
  have HD := Aside0.mk hD
  have HK := Aside0.mk hk
  clear hk
  clear h hold hb hW1 hq hcol1 hD
  show Calls _ _ #[_, .agg #[.int .i64 o.kind, .int .i64 o.n, .int .i64 o.m, .bool o.sec, .string o.nm, .slice o.DA o.data.length o.dc, .slice o.KA o.keep.length o.kc, .int .u32 o.sum]] _ _
  go_enter Try.func5, Try.ntmps5
  go_upto_region 1 with fail
  rw [show (Obj.cells #[.int .i64 o.kind, .int .i64 o.n, .int .i64 o.m, .bool o.sec, .string o.nm, .slice o.DA o.data.length o.dc, .slice o.KA o.keep.length o.kc, .int .u32 o.sum] 38) = .cells o.cells 38 from rfl, HW.out, ← HQ.out]
  have c0 := HD.out.c0
  rw [HK.out] at c0
  go_upto_region 29 with fail
  have x0 := HD.out.cP; have x1 := HD.out.c1; have x2 := HD.out.c2; have x4 := HD.out.c4
  have n0_ := Aside0.mk HD.out.drew; clear HD; have HD := n0_; clear n0_
  go_still_tail 6, (by kernel_rfl)
  change wpList _ _ _ _ _ (World.drew _)
  clear x0 x1 x2 x4
  go_upto_region 30 with (go_at_call 25; refine Calls.mono (parm_d o.n HD.out.p) ?_; rintro e wp ⟨rfl, hp⟩; obtain ⟨colp, hd2, _⟩ := HD.out.pstep hp (HD.out.okP.arm HD.out.inn.n1); have n0_ := Aside0.mk hd2; clear HD hp hd2; have HD := n0_; clear n0_)
  have x0 := HD.out.cR; have x1 := HD.out.c1; have x2 := HD.out.c2; have x4 := HD.out.c4
  have n0_ := Aside0.mk HD.out.drew; clear HD; have HD := n0_; clear n0_
  go_still_tail 6, (by kernel_rfl)
  change wpList _ _ _ _ _ (World.drew _)
  clear x0 x1 x2 x4
  go_wp2_with (go_at_call 26; refine Calls.mono (rarm_d o.n HD.out.r) ?_; rintro e wr ⟨rfl, hp⟩; obtain ⟨colr, hd2, _⟩ := HD.out.rstep hp (HD.out.okR.arm HD.out.inn.n1); have n0_ := Aside0.mk hd2; clear HD hp hd2; have HD := n0_; clear n0_)
  go_ret
  exact HD.out.post
set_option maxRecDepth 100000 in
set_option maxHeartbeats 4000000 in
theorem disk_fail {b : Nat} {w W : World} {col : RCol} {g gP gR : Nat} {o : OpV} {d : Dk} (h : PrSt b W col g gP gR d) (hold : Below b w W) (hin : OpIn w o) (hb : b = w.heap.size) (hk : o.kind = 7) :
    Calls Try.prog 5 #[.pointer (some ⟨g, 0, none⟩), .agg o.cells] W fun e w' => DiskPost b w g gP gR e w' := by
  have hD := DS.start h hold hin hb
  obtain ⟨W1, hW1⟩ : ∃ W1, W.alloc (.cells o.cells 38) = W1 := ⟨_, rfl⟩
  obtain ⟨q, hq⟩ : ∃ q, q = W.heap.size := ⟨_, rfl⟩
  obtain ⟨col1, hcol1⟩ : ∃ col1, col1 = colN col W.heap.size (fun _ => .other) := ⟨_, rfl⟩
  rw [hW1, ← hcol1, ← hq] at hD
  have HW := Aside0.mk hW1
  have HQ := Aside0.mk hq
  have HD := Aside0.mk hD
  have HK := Aside0.mk hk
  clear hk
  clear h hold hb hW1 hq hcol1 hD
  show Calls _ _ #[_, .agg #[.int .i64 o.kind, .int .i64 o.n, .int .i64 o.m, .bool o.sec, .string o.nm, .slice o.DA o.data.length o.dc, .slice o.KA o.keep.length o.kc, .int .u32 o.sum]] _ _
  go_enter Try.func5, Try.ntmps5
  go_upto_region 1 with fail
  rw [show (Obj.cells #[.int .i64 o.kind, .int .i64 o.n, .int .i64 o.m, .bool o.sec, .string o.nm, .slice o.DA o.data.length o.dc, .slice o.KA o.keep.length o.kc, .int .u32 o.sum] 38) = .cells o.cells 38 from rfl, HW.out, ← HQ.out]
  have c0 := HD.out.c0
  rw [HK.out] at c0
  go_upto_region 32 with fail
  have x0 := HD.out.cP; have x1 := HD.out.c1; have x2 := HD.out.c2; have x4 := HD.out.c4
  have n0_ := Aside0.mk HD.out.drew; clear HD; have HD := n0_; clear n0_
  go_still_tail 8, (by kernel_rfl)
  change wpList _ _ _ _ _ (World.drew _)
  clear x0 x1 x2 x4
  go_upto_region 33 with (go_at_call 27; refine Calls.mono (pfail_d o.n o.m HD.out.p) ?_; rintro e wp ⟨rfl, hp⟩; obtain ⟨colp, hd2, _⟩ := HD.out.pstep hp (HD.out.okP.fail HD.out.inn.n1 HD.out.inn.m1); have n0_ := Aside0.mk hd2; clear HD hp hd2; have HD := n0_; clear n0_)
  have x0 := HD.out.cR; have x1 := HD.out.c1; have x2 := HD.out.c2; have x4 := HD.out.c4
  have n0_ := Aside0.mk HD.out.drew; clear HD; have HD := n0_; clear n0_
  go_still_tail 8, (by kernel_rfl)
  change wpList _ _ _ _ _ (World.drew _)
  clear x0 x1 x2 x4
  go_wp2_with (go_at_call 28; refine Calls.mono (rfail_d o.n o.m HD.out.r) ?_; rintro e wr ⟨rfl, hp⟩; obtain ⟨colr, hd2, _⟩ := HD.out.rstep hp (HD.out.okR.fail HD.out.inn.n1 HD.out.inn.m1); have n0_ := Aside0.mk hd2; clear HD hp hd2; have HD := n0_; clear n0_)
  go_ret
  exact HD.out.post
set_option maxRecDepth 100000 in
set_option maxHeartbeats 4000000 in
theorem disk_crash {b : Nat} {w W : World} {col : RCol} {g gP gR : Nat} {o : OpV} {d : Dk} (h : PrSt b W col g gP gR d) (hold : Below b w W) (hin : OpIn w o) (hb : b = w.heap.size) (hk : o.kind = 8) :
    Calls Try.prog 5 #[.pointer (some ⟨g, 0, none⟩), .agg o.cells] W fun e w' => DiskPost b w g gP gR e w' := by
  have hD := DS.start h hold hin hb
  obtain ⟨W1, hW1⟩ : ∃ W1, W.alloc (.cells o.cells 38) = W1 := ⟨_, rfl⟩
  obtain ⟨q, hq⟩ : ∃ q, q = W.heap.size := ⟨_, rfl⟩
  obtain ⟨col1, hcol1⟩ : ∃ col1, col1 = colN col W.heap.size (fun _ => .other) := ⟨_, rfl⟩
  rw [hW1, ← hcol1, ← hq] at hD
  have HW := Aside0.mk hW1
  have HQ := Aside0.mk hq
  have HD := Aside0.mk hD
  have HK := Aside0.mk hk
  clear hk
  clear h hold hb hW1 hq hcol1 hD
  show Calls _ _ #[_, .agg #[.int .i64 o.kind, .int .i64 o.n, .int .i64 o.m, .bool o.sec, .string o.nm, .slice o.DA o.data.length o.dc, .slice o.KA o.keep.length o.kc, .int .u32 o.sum]] _ _
  go_enter Try.func5, Try.ntmps5
  go_upto_region 1 with fail
  rw [show (Obj.cells #[.int .i64 o.kind, .int .i64 o.n, .int .i64 o.m, .bool o.sec, .string o.nm, .slice o.DA o.data.length o.dc, .slice o.KA o.keep.length o.kc, .int .u32 o.sum] 38) = .cells o.cells 38 from rfl, HW.out, ← HQ.out]
  have c0 := HD.out.c0
  rw [HK.out] at c0
  go_upto_region 35 with fail
  have x0 := HD.out.cP; have x1 := HD.out.c1; have x2 := HD.out.c2; have x4 := HD.out.c4
  go_upto_region 36 with (go_at_call 29; refine Calls.mono (pcrash_d HD.out.p) ?_; rintro e wp ⟨rfl, hp⟩; obtain ⟨colp, hd2, _⟩ := HD.out.pstep hp (HD.out.okP.fell); have n0_ := Aside0.mk hd2; clear HD hp hd2; have HD := n0_; clear n0_)
  clear x0 x1 x2 x4
  have x0 := HD.out.cR; have x1 := HD.out.c1; have x2 := HD.out.c2; have x4 := HD.out.c4
  go_wp2_with (go_at_call 30; refine Calls.mono (rcrash_d HD.out.r) ?_; rintro e wr ⟨rfl, hp⟩; obtain ⟨colr, hd2, _⟩ := HD.out.rstep hp (HD.out.okR.fell); have n0_ := Aside0.mk hd2; clear HD hp hd2; have HD := n0_; clear n0_)
  go_ret
  exact HD.out.post
set_option maxRecDepth 100000 in
set_option maxHeartbeats 4000000 in
theorem disk_read {b : Nat} {w W : World} {col : RCol} {g gP gR : Nat} {o : OpV} {d : Dk} (h : PrSt b W col g gP gR d) (hold : Below b w W) (hin : OpIn w o) (hb : b = w.heap.size) (hk : o.kind = 5) :
    Calls Try.prog 5 #[.pointer (some ⟨g, 0, none⟩), .agg o.cells] W fun e w' => DiskPost b w g gP gR e w' := by
  have hD := DS.start h hold hin hb
  obtain ⟨W1, hW1⟩ : ∃ W1, W.alloc (.cells o.cells 38) = W1 := ⟨_, rfl⟩
  obtain ⟨q, hq⟩ : ∃ q, q = W.heap.size := ⟨_, rfl⟩
  obtain ⟨col1, hcol1⟩ : ∃ col1, col1 = colN col W.heap.size (fun _ => .other) := ⟨_, rfl⟩
  rw [hW1, ← hcol1, ← hq] at hD
  have HW := Aside0.mk hW1
  have HQ := Aside0.mk hq
  have HD := Aside0.mk hD
  have HK := Aside0.mk hk
  clear hk
  clear h hold hb hW1 hq hcol1 hD
  show Calls _ _ #[_, .agg #[.int .i64 o.kind, .int .i64 o.n, .int .i64 o.m, .bool o.sec, .string o.nm, .slice o.DA o.data.length o.dc, .slice o.KA o.keep.length o.kc, .int .u32 o.sum]] _ _
  go_enter Try.func5, Try.ntmps5
  go_upto_region 1 with fail
  rw [show (Obj.cells #[.int .i64 o.kind, .int .i64 o.n, .int .i64 o.m, .bool o.sec, .string o.nm, .slice o.DA o.data.length o.dc, .slice o.KA o.keep.length o.kc, .int .u32 o.sum] 38) = .cells o.cells 38 from rfl, HW.out, ← HQ.out]
  have c0 := HD.out.c0
  rw [HK.out] at c0
  go_upto_region 25 with fail
  have n0_ := Aside0.mk HD.out.drew; clear HD; have HD := n0_; clear n0_
  have x0 := HD.out.cP; have x4 := HD.out.c4
  go_region_held3 (fun w' => w'.cell? ⟨g, 0, none⟩ = some (.pointer (some ⟨gP, 0, none⟩)) ∧ w'.cell? ⟨q, 4, none⟩ = some (.string o.nm)) (first | go_keep | exact ⟨HD.out.cP, HD.out.c4⟩) (first | (go_at_call 23; refine Calls.mono (pread_d o.nm HD.out.okP HD.out.inn.name HD.out.p) ?_; rintro e wp ⟨vp, rfl, ho, hb⟩; obtain ⟨Ap, np, rfl, hc, _⟩ := own_form ho; have HOp := Aside0.mk (own_reads' ho); have HCp := Aside0.mk hc; have HBp := Aside0.mk hb; have n0_ := Aside0.mk (HD.out.go hb); clear HD ho hb hc; have HD := n0_; clear n0_))
  clear x0 x4
  go_upto_region 26 with fail
  have n0_ := Aside0.mk HD.out.drew; clear HD; have HD := n0_; clear n0_
  have HOq := Aside0.mk (HOp.out.below ((Drawn0.refl wp).step 1).below)
  have x0 := HD.out.cR; have x4 := HD.out.c4
  go_region_held3 (fun w' => w'.cell? ⟨g, 2, none⟩ = some (.pointer (some ⟨gR, 0, none⟩)) ∧ w'.cell? ⟨q, 4, none⟩ = some (.string o.nm)) (first | go_keep | exact ⟨HD.out.cR, HD.out.c4⟩) (first | (go_at_call 24; refine Calls.mono (rread_d o.nm HD.out.okR HD.out.inn.name HD.out.r) ?_; rintro e wr ⟨vr, rfl, ho, hb⟩; obtain ⟨Ar, nr, rfl, hc, _⟩ := own_form ho; have HOr := Aside0.mk (own_reads' ho); have HCr := Aside0.mk hc; have HBr := Aside0.mk hb; have n0_ := Aside0.mk (HD.out.go hb); clear HD ho hb hc; have HD := n0_; clear n0_))
  clear x0 x4
  go_wp2_with (first | (go_at_call 15; refine Calls.mono (sameBytes_calls (d.rdS o.nm).2 Ap Ar np nr wr (Kd.C_of_reads (d := (0 : Int)) (readsInt_of.1 (HOq.out.below HBr.out))) HCp.out (Kd.C_of_reads (d := (0 : Int)) (readsInt_of.1 HOr.out)) HCr.out) ?_; rintro e w9 ⟨rfl, hd⟩; have n0_ := Aside0.mk (HD.out.go (hd.below)); clear HD hd; have HD := n0_; clear n0_))
  go_ret
  exact HD.out.post
set_option maxRecDepth 100000 in
set_option maxHeartbeats 4000000 in
theorem disk_other {b : Nat} {w W : World} {col : RCol} {g gP gR : Nat} {o : OpV} {d : Dk} (h : PrSt b W col g gP gR d) (hold : Below b w W) (hin : OpIn w o) (hb : b = w.heap.size) (h1 : o.kind ≠ 1) (h2 : o.kind ≠ 2) (h3 : o.kind ≠ 3) (h4 : o.kind ≠ 4) (h5 : o.kind ≠ 5) (h6 : o.kind ≠ 6) (h7 : o.kind ≠ 7) (h8 : o.kind ≠ 8) (h9 : o.kind ≠ 9) (h10 : o.kind ≠ 10) :
    Calls Try.prog 5 #[.pointer (some ⟨g, 0, none⟩), .agg o.cells] W fun e w' => DiskPost b w g gP gR e w' := by
  have hD := DS.start h hold hin hb
  obtain ⟨W1, hW1⟩ : ∃ W1, W.alloc (.cells o.cells 38) = W1 := ⟨_, rfl⟩
  obtain ⟨q, hq⟩ : ∃ q, q = W.heap.size := ⟨_, rfl⟩
  obtain ⟨col1, hcol1⟩ : ∃ col1, col1 = colN col W.heap.size (fun _ => .other) := ⟨_, rfl⟩
  rw [hW1, ← hcol1, ← hq] at hD
  have HW := Aside0.mk hW1
  have HQ := Aside0.mk hq
  have HD := Aside0.mk hD
  clear h hold hb hW1 hq hcol1 hD
  show Calls _ _ #[_, .agg #[.int .i64 o.kind, .int .i64 o.n, .int .i64 o.m, .bool o.sec, .string o.nm, .slice o.DA o.data.length o.dc, .slice o.KA o.keep.length o.kc, .int .u32 o.sum]] _ _
  go_enter Try.func5, Try.ntmps5
  go_upto_region 1 with fail
  rw [show (Obj.cells #[.int .i64 o.kind, .int .i64 o.n, .int .i64 o.m, .bool o.sec, .string o.nm, .slice o.DA o.data.length o.dc, .slice o.KA o.keep.length o.kc, .int .u32 o.sum] 38) = .cells o.cells 38 from rfl, HW.out, ← HQ.out]
  have c0 := HD.out.c0
  have k1 : decide (o.kind = 1) = false := decide_eq_false h1
  have k2 : decide (o.kind = 2) = false := decide_eq_false h2
  have k3 : decide (o.kind = 3) = false := decide_eq_false h3
  have k4 : decide (o.kind = 4) = false := decide_eq_false h4
  have k5 : decide (o.kind = 5) = false := decide_eq_false h5
  have k6 : decide (o.kind = 6) = false := decide_eq_false h6
  have k7 : decide (o.kind = 7) = false := decide_eq_false h7
  have k8 : decide (o.kind = 8) = false := decide_eq_false h8
  have k9 : decide (o.kind = 9) = false := decide_eq_false h9
  have k10 : decide (o.kind = 10) = false := decide_eq_false h10
  go_wp2
  go_ret
  exact HD.out.post
end Go.Proofs.Ytmpgldggjjmkmaa.PA
