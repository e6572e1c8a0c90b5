/- CutsNil. -/
import Derived.Test.YtljliopmphaoeaaL4
import Derived.Test.YtljliopmphaoeaaA4
import Derived.Test.YtljliopmphaoeaaMS
namespace Go.Proofs.Ytljliopmphaoeaa
open Go Go.RowKit Go.Proofs.Ytljliopmphaoeaa.Q
theorem eqV0 (W : World) : (binOp .eql 36 (.agg #[.bool false, .int .i64 0, .int .i64 0]) (.agg #[.bool false, .int .i64 0, .int .i64 0])).run Try.prog W = .ok (.bool true) W := by kernel_rfl
theorem eqS0 (W : World) : (binOp .eql 38 (.agg #[.int .i64 0, .int .i64 0, .int .i64 0, .int .i64 0, .int .i64 0]) (.agg #[.int .i64 0, .int .i64 0, .int .i64 0, .int .i64 0, .int .i64 0])).run Try.prog W = .ok (.bool true) W := by kernel_rfl
theorem eqT0 (W : World) : (binOp .eql 43 (.agg #[.int .i64 0, .int .i64 0, .int .i64 0, .int .i64 0]) (.agg #[.int .i64 0, .int .i64 0, .int .i64 0, .int .i64 0])).run Try.prog W = .ok (.bool true) W := by kernel_rfl
theorem guardS (a b c d e a' b' c' d' e' : Value) (x y : Operand) (W : World) : (eqGuard .eql 38 x y (.agg #[a, b, c, d, e]) (.agg #[a', b', c', d', e'])).run Try.prog W = .ok () W := by kernel_rfl
theorem guardT (a b c d a' b' c' d' : Value) (x y : Operand) (W : World) : (eqGuard .eql 43 x y (.agg #[a, b, c, d]) (.agg #[a', b', c', d'])).run Try.prog W = .ok () W := by kernel_rfl
set_option maxHeartbeats 2000000 in
set_option maxRecDepth 100000 in
theorem none_any (r : Rul) (h : Hdr) (w : World) : Calls Try.prog 23 #[.iface 31 (.pointer none), .agg #[.int .i64 r.id, .int .u32 r.src.a, .int .i64 r.src.n, .int .u32 r.dst.a, .int .i64 r.dst.n, .int .u16 r.sp.lo, .int .u16 r.sp.hi, .int .u16 r.dp.lo, .int .u16 r.dp.hi, .int .u8 r.pr.v, .int .u8 r.pr.c, .int .i64 r.act], .agg #[.int .u32 h.src, .int .u32 h.dst, .int .u16 h.sp, .int .u16 h.dp, .int .u8 h.pr]] w fun e w' => e = .returned (.bool true) ∧ Below w.heap.size w w' := by
  obtain ⟨M, hM⟩ : ∃ M, (w.alloc (.cells #[.int .i64 r.id, .int .u32 r.src.a, .int .i64 r.src.n, .int .u32 r.dst.a, .int .i64 r.dst.n, .int .u16 r.sp.lo, .int .u16 r.sp.hi, .int .u16 r.dp.lo, .int .u16 r.dp.hi, .int .u8 r.pr.v, .int .u8 r.pr.c, .int .i64 r.act] 60)).alloc (.cells #[.int .u32 h.src, .int .u32 h.dst, .int .u16 h.sp, .int .u16 h.dp, .int .u8 h.pr] 28) = M := ⟨_, rfl⟩
  have hb : Below w.heap.size w M := by rw [← hM]; exact below_alloc (below_alloc (Below.refl _ _) _) _
  have hr : Blk M w.heap.size #[.int .i64 r.id, .int .u32 r.src.a, .int .i64 r.src.n, .int .u32 r.dst.a, .int .i64 r.dst.n, .int .u16 r.sp.lo, .int .u16 r.sp.hi, .int .u16 r.dp.lo, .int .u16 r.dp.hi, .int .u8 r.pr.v, .int .u8 r.pr.c, .int .i64 r.act] 60 := by rw [← hM]; exact (Blk.new w _ _).alloc _
  have hh : Blk M (w.heap.size + 1) #[.int .u32 h.src, .int .u32 h.dst, .int .u16 h.sp, .int .u16 h.dp, .int .u8 h.pr] 28 := by rw [← hM]; exact blkN (by simp) _ _
  obtain ⟨c0, c1, c2, c3, c4, c5, c6, c7, c8, c9, c10, c11⟩ := show M.cell? ⟨w.heap.size, 0, none⟩ = some (.int .i64 r.id) ∧ M.cell? ⟨w.heap.size, 1, none⟩ = some (.int .u32 r.src.a) ∧ M.cell? ⟨w.heap.size, 2, none⟩ = some (.int .i64 r.src.n) ∧ M.cell? ⟨w.heap.size, 3, none⟩ = some (.int .u32 r.dst.a) ∧ M.cell? ⟨w.heap.size, 4, none⟩ = some (.int .i64 r.dst.n) ∧ M.cell? ⟨w.heap.size, 5, none⟩ = some (.int .u16 r.sp.lo) ∧ M.cell? ⟨w.heap.size, 6, none⟩ = some (.int .u16 r.sp.hi) ∧ M.cell? ⟨w.heap.size, 7, none⟩ = some (.int .u16 r.dp.lo) ∧ M.cell? ⟨w.heap.size, 8, none⟩ = some (.int .u16 r.dp.hi) ∧ M.cell? ⟨w.heap.size, 9, none⟩ = some (.int .u8 r.pr.v) ∧ M.cell? ⟨w.heap.size, 10, none⟩ = some (.int .u8 r.pr.c) ∧ M.cell? ⟨w.heap.size, 11, none⟩ = some (.int .i64 r.act) from ⟨hr.cell (i := 0) rfl, hr.cell (i := 1) rfl, hr.cell (i := 2) rfl, hr.cell (i := 3) rfl, hr.cell (i := 4) rfl, hr.cell (i := 5) rfl, hr.cell (i := 6) rfl, hr.cell (i := 7) rfl, hr.cell (i := 8) rfl, hr.cell (i := 9) rfl, hr.cell (i := 10) rfl, hr.cell (i := 11) rfl⟩
  have HB := Sd.mk hb
  have HR := Sd.mk (And.intro hr hh)
  have HM := Sd.mk hM
  have HI := Sd.mk (fun W => nilInsert 0 r W)
  have HD := Sd.mk (fun W => nilDelete r.id W)
  have HS := Sd.mk nilSet
  have HA := Sd.mk (fun W => nilAsk h W)
  have HT := Sd.mk nilStats
  clear hb hr hh hM
  go_enter Try.func23, Try.ntmps23
  go_upto_region 1 with fail
  rw [HM.out]
  go_wp2_with fail
  refine (HI.out _).mono ?_
  rintro e w1 ⟨rfl, hb1⟩
  have r1 := HR.out.1.below hb1 HR.out.1.lt
  have h1 := HR.out.2.below hb1 HR.out.2.lt
  have HB1 := Sd.mk (beyond HB.out hb1)
  clear c0 c1 c2 c3 c4 c5 c6 c7 c8 c9 c10 c11 hb1
  have c0 := r1.cell (i := 0) rfl
  obtain ⟨b0, b1, b2, b3, b4⟩ := show w1.cell? ⟨w.heap.size + 1, 0, none⟩ = some (.int .u32 h.src) ∧ w1.cell? ⟨w.heap.size + 1, 1, none⟩ = some (.int .u32 h.dst) ∧ w1.cell? ⟨w.heap.size + 1, 2, none⟩ = some (.int .u16 h.sp) ∧ w1.cell? ⟨w.heap.size + 1, 3, none⟩ = some (.int .u16 h.dp) ∧ w1.cell? ⟨w.heap.size + 1, 4, none⟩ = some (.int .u8 h.pr) from ⟨h1.cell (i := 0) rfl, h1.cell (i := 1) rfl, h1.cell (i := 2) rfl, h1.cell (i := 3) rfl, h1.cell (i := 4) rfl⟩
  clear r1 h1
  go_wp2_with fail
  refine (HD.out _).mono ?_
  rintro e w2 ⟨rfl, rfl⟩
  go_wp2_with fail
  refine (HS.out _ _).mono ?_
  rintro e w3 ⟨rfl, rfl⟩
  go_wp2_with fail
  refine (HA.out _).mono ?_
  rintro e w4 ⟨rfl, hb4⟩
  go_upto_region 5 with fail
  obtain ⟨W5, hW5⟩ : ∃ W5, (w4.alloc (.cells #[.bool false, .int .i64 0, .int .i64 0] 36)).alloc (.cells #[.int .i64 0, .int .i64 0, .int .i64 0, .int .i64 0, .int .i64 0] 38) = W5 := ⟨_, rfl⟩
  have x5 : Blk W5 w4.heap.size #[.bool false, .int .i64 0, .int .i64 0] 36 := by rw [← hW5]; exact (Blk.new _ _ _).alloc _
  have y5 : Blk W5 (w4.heap.size + 1) #[.int .i64 0, .int .i64 0, .int .i64 0, .int .i64 0, .int .i64 0] 38 := by rw [← hW5]; exact blkN (by simp) _ _
  have HB5 : Sd (Below w.heap.size w W5) := ⟨by rw [← hW5]; exact beyond HB1.out (beyond hb4 (below_alloc (below_alloc (Below.refl _ _) _) _))⟩
  try rw [hW5]
  generalize w4.heap.size = Q at x5 y5 ⊢
  have e0 := x5.cell (i := 0) rfl
  have e1 := x5.cell (i := 1) rfl
  have e2 := x5.cell (i := 2) rfl
  have f0 := y5.cell (i := 0) rfl
  have f1 := y5.cell (i := 1) rfl
  have f2 := y5.cell (i := 2) rfl
  have f3 := y5.cell (i := 3) rfl
  have f4 := y5.cell (i := 4) rfl
  have q1 := eqV0
  have q2 := eqS0
  have q3 := eqT0
  have g1 := guardV
  have g2 := guardS
  have g3 := guardT
  clear x5 y5 hW5 hb4 c0 b0 b1 b2 b3 b4
  go_wp2_with fail
  refine (HT.out _).mono ?_
  rintro e w6 ⟨rfl, hb6⟩
  have HB6 := Sd.mk (beyond HB5.out hb6)
  clear hb6 e0 e1 e2 f0 f1 f2 f3 f4
  go_wp2
  go_ret
  exact ⟨rfl, HB6.out⟩
set_option maxHeartbeats 2000000 in
set_option maxRecDepth 100000 in
theorem lawNil_any (r : Rul) (h : Hdr) (w : World) : Calls Try.prog 8 #[.agg #[.int .i64 r.id, .int .u32 r.src.a, .int .i64 r.src.n, .int .u32 r.dst.a, .int .i64 r.dst.n, .int .u16 r.sp.lo, .int .u16 r.sp.hi, .int .u16 r.dp.lo, .int .u16 r.dp.hi, .int .u8 r.pr.v, .int .u8 r.pr.c, .int .i64 r.act], .agg #[.int .u32 h.src, .int .u32 h.dst, .int .u16 h.sp, .int .u16 h.dp, .int .u8 h.pr]] w fun e w' => e = .returned (.bool true) ∧ Below w.heap.size w w' := by
  obtain ⟨M, hM⟩ : ∃ M, (w.alloc (.cells #[.int .i64 r.id, .int .u32 r.src.a, .int .i64 r.src.n, .int .u32 r.dst.a, .int .i64 r.dst.n, .int .u16 r.sp.lo, .int .u16 r.sp.hi, .int .u16 r.dp.lo, .int .u16 r.dp.hi, .int .u8 r.pr.v, .int .u8 r.pr.c, .int .i64 r.act] 60)).alloc (.cells #[.int .u32 h.src, .int .u32 h.dst, .int .u16 h.sp, .int .u16 h.dp, .int .u8 h.pr] 28) = M := ⟨_, rfl⟩
  have hb : Below w.heap.size w M := by rw [← hM]; exact below_alloc (below_alloc (Below.refl _ _) _) _
  have hr : Blk M w.heap.size #[.int .i64 r.id, .int .u32 r.src.a, .int .i64 r.src.n, .int .u32 r.dst.a, .int .i64 r.dst.n, .int .u16 r.sp.lo, .int .u16 r.sp.hi, .int .u16 r.dp.lo, .int .u16 r.dp.hi, .int .u8 r.pr.v, .int .u8 r.pr.c, .int .i64 r.act] 60 := by rw [← hM]; exact (Blk.new w _ _).alloc _
  have hh : Blk M (w.heap.size + 1) #[.int .u32 h.src, .int .u32 h.dst, .int .u16 h.sp, .int .u16 h.dp, .int .u8 h.pr] 28 := by rw [← hM]; exact blkN (by simp) _ _
  have HB := Sd.mk hb
  have HR := Sd.mk (And.intro hr hh)
  have HM := Sd.mk hM
  have HA := Sd.mk awake_any
  have HN := Sd.mk (fun W => none_any r h W)
  clear hb hr hh hM
  go_enter Try.func8, Try.ntmps8
  go_upto_region 1 with fail
  rw [HM.out]
  go_wp2_with fail
  refine (HA.out _).mono ?_
  rintro e w1 ⟨rfl, hb1⟩
  have r1 := HR.out.1.below hb1 HR.out.1.lt
  have h1 := HR.out.2.below hb1 HR.out.2.lt
  have HB1 := Sd.mk (beyond HB.out hb1)
  clear hb1
  obtain ⟨c0, c1, c2, c3, c4, c5, c6, c7, c8, c9, c10, c11⟩ := show w1.cell? ⟨w.heap.size, 0, none⟩ = some (.int .i64 r.id) ∧ w1.cell? ⟨w.heap.size, 1, none⟩ = some (.int .u32 r.src.a) ∧ w1.cell? ⟨w.heap.size, 2, none⟩ = some (.int .i64 r.src.n) ∧ w1.cell? ⟨w.heap.size, 3, none⟩ = some (.int .u32 r.dst.a) ∧ w1.cell? ⟨w.heap.size, 4, none⟩ = some (.int .i64 r.dst.n) ∧ w1.cell? ⟨w.heap.size, 5, none⟩ = some (.int .u16 r.sp.lo) ∧ w1.cell? ⟨w.heap.size, 6, none⟩ = some (.int .u16 r.sp.hi) ∧ w1.cell? ⟨w.heap.size, 7, none⟩ = some (.int .u16 r.dp.lo) ∧ w1.cell? ⟨w.heap.size, 8, none⟩ = some (.int .u16 r.dp.hi) ∧ w1.cell? ⟨w.heap.size, 9, none⟩ = some (.int .u8 r.pr.v) ∧ w1.cell? ⟨w.heap.size, 10, none⟩ = some (.int .u8 r.pr.c) ∧ w1.cell? ⟨w.heap.size, 11, none⟩ = some (.int .i64 r.act) from ⟨r1.cell (i := 0) rfl, r1.cell (i := 1) rfl, r1.cell (i := 2) rfl, r1.cell (i := 3) rfl, r1.cell (i := 4) rfl, r1.cell (i := 5) rfl, r1.cell (i := 6) rfl, r1.cell (i := 7) rfl, r1.cell (i := 8) rfl, r1.cell (i := 9) rfl, r1.cell (i := 10) rfl, r1.cell (i := 11) rfl⟩
  obtain ⟨b0, b1, b2, b3, b4⟩ := show w1.cell? ⟨w.heap.size + 1, 0, none⟩ = some (.int .u32 h.src) ∧ w1.cell? ⟨w.heap.size + 1, 1, none⟩ = some (.int .u32 h.dst) ∧ w1.cell? ⟨w.heap.size + 1, 2, none⟩ = some (.int .u16 h.sp) ∧ w1.cell? ⟨w.heap.size + 1, 3, none⟩ = some (.int .u16 h.dp) ∧ w1.cell? ⟨w.heap.size + 1, 4, none⟩ = some (.int .u8 h.pr) from ⟨h1.cell (i := 0) rfl, h1.cell (i := 1) rfl, h1.cell (i := 2) rfl, h1.cell (i := 3) rfl, h1.cell (i := 4) rfl⟩
  clear r1 h1
  go_wp2_with fail
  refine (HN.out _).mono ?_
  rintro e w2 ⟨rfl, hb2⟩
  have HB2 := Sd.mk (beyond HB1.out hb2)
  clear hb2 c0 c1 c2 c3 c4 c5 c6 c7 c8 c9 c10 c11 b0 b1 b2 b3 b4
  go_wp2
  go_ret
  exact ⟨rfl, HB2.out⟩
theorem lawNil_wf (r : Rul) (h : Hdr) (_ : r.Wf) (_ : h.Wf) (w : World) : Calls Try.prog 8 #[.agg #[.int .i64 r.id, .int .u32 r.src.a, .int .i64 r.src.n, .int .u32 r.dst.a, .int .i64 r.dst.n, .int .u16 r.sp.lo, .int .u16 r.sp.hi, .int .u16 r.dp.lo, .int .u16 r.dp.hi, .int .u8 r.pr.v, .int .u8 r.pr.c, .int .i64 r.act], .agg #[.int .u32 h.src, .int .u32 h.dst, .int .u16 h.sp, .int .u16 h.dp, .int .u8 h.pr]] w fun e w' => e = .returned (.bool true) ∧ Below w.heap.size w w' := lawNil_any r h w
end Go.Proofs.Ytljliopmphaoeaa
