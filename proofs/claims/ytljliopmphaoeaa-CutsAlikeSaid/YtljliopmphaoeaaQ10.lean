/- What Within of boxes gives back; equality of boxes. -/
import Derived.Test.YtljliopmphaoeaaQ9
import Derived.Laws.StructEq
namespace Go.Proofs.Ytljliopmphaoeaa
open Go Go.RowKit Go.Proofs.Ytljliopmphaoeaa.Q

theorem eqBox_raw (x y : Bx) (W : World) : (binOp .eql 109 (.agg #[.int .u32 x.src.lo, .int .u32 x.src.hi, .int .u32 x.dst.lo, .int .u32 x.dst.hi, .int .u16 x.sp.lo, .int .u16 x.sp.hi, .int .u16 x.dp.lo, .int .u16 x.dp.hi, .int .u8 x.pr.v, .int .u8 x.pr.c]) (.agg #[.int .u32 y.src.lo, .int .u32 y.src.hi, .int .u32 y.dst.lo, .int .u32 y.dst.hi, .int .u16 y.sp.lo, .int .u16 y.sp.hi, .int .u16 y.dp.lo, .int .u16 y.dp.hi, .int .u8 y.pr.v, .int .u8 y.pr.c])).run Try.prog W = .ok (.bool (decide (x = y))) W := by
  go_simp
  by_cases h : x = y
  · subst h; simp
  · rw [decide_eq_false h]
    obtain ⟨⟨a1, a2⟩, ⟨a3, a4⟩, ⟨a5, a6⟩, ⟨a7, a8⟩, ⟨a9, a10⟩⟩ := x
    obtain ⟨⟨b1, b2⟩, ⟨b3, b4⟩, ⟨b5, b6⟩, ⟨b7, b8⟩, ⟨b9, b10⟩⟩ := y
    simp only
    repeat' split
    all_goals first
      | rfl
      | (exfalso; apply h; simp only [Bx.mk.injEq, Run.mk.injEq, Spn.mk.injEq, Msk.mk.injEq]; omega)
/-- two boxes and what they share in memory, beyond a world -/
def WithS (M : World) (B : Nat) (a b : Bx) (W : World) : Prop := Below M.heap.size M W ∧ (W.cell? ⟨B, 0, none⟩ = some (.int .u32 a.src.lo) ∧ W.cell? ⟨B, 1, none⟩ = some (.int .u32 a.src.hi) ∧ W.cell? ⟨B, 2, none⟩ = some (.int .u32 a.dst.lo) ∧ W.cell? ⟨B, 3, none⟩ = some (.int .u32 a.dst.hi) ∧ W.cell? ⟨B, 4, none⟩ = some (.int .u16 a.sp.lo) ∧ W.cell? ⟨B, 5, none⟩ = some (.int .u16 a.sp.hi) ∧ W.cell? ⟨B, 6, none⟩ = some (.int .u16 a.dp.lo) ∧ W.cell? ⟨B, 7, none⟩ = some (.int .u16 a.dp.hi) ∧ W.cell? ⟨B, 8, none⟩ = some (.int .u8 a.pr.v) ∧ W.cell? ⟨B, 9, none⟩ = some (.int .u8 a.pr.c)) ∧ (W.cell? ⟨B + 1, 0, none⟩ = some (.int .u32 b.src.lo) ∧ W.cell? ⟨B + 1, 1, none⟩ = some (.int .u32 b.src.hi) ∧ W.cell? ⟨B + 1, 2, none⟩ = some (.int .u32 b.dst.lo) ∧ W.cell? ⟨B + 1, 3, none⟩ = some (.int .u32 b.dst.hi) ∧ W.cell? ⟨B + 1, 4, none⟩ = some (.int .u16 b.sp.lo) ∧ W.cell? ⟨B + 1, 5, none⟩ = some (.int .u16 b.sp.hi) ∧ W.cell? ⟨B + 1, 6, none⟩ = some (.int .u16 b.dp.lo) ∧ W.cell? ⟨B + 1, 7, none⟩ = some (.int .u16 b.dp.hi) ∧ W.cell? ⟨B + 1, 8, none⟩ = some (.int .u8 b.pr.v) ∧ W.cell? ⟨B + 1, 9, none⟩ = some (.int .u8 b.pr.c))
set_option maxHeartbeats 2000000 in
set_option maxRecDepth 100000 in
theorem boxWithin_any (a b : Bx) (ha : a.Wf) (hb : b.Wf) (w : World) : Calls Try.prog 67 #[.agg #[.int .u32 a.src.lo, .int .u32 a.src.hi, .int .u32 a.dst.lo, .int .u32 a.dst.hi, .int .u16 a.sp.lo, .int .u16 a.sp.hi, .int .u16 a.dp.lo, .int .u16 a.dp.hi, .int .u8 a.pr.v, .int .u8 a.pr.c], .agg #[.int .u32 b.src.lo, .int .u32 b.src.hi, .int .u32 b.dst.lo, .int .u32 b.dst.hi, .int .u16 b.sp.lo, .int .u16 b.sp.hi, .int .u16 b.dp.lo, .int .u16 b.dp.hi, .int .u8 b.pr.v, .int .u8 b.pr.c]] w fun e w' => e = .returned (.bool (a.within b)) ∧ Below w.heap.size w w' := by
  obtain ⟨M, hM⟩ : ∃ M, M = (w.alloc (.cells #[.int .u32 a.src.lo, .int .u32 a.src.hi, .int .u32 a.dst.lo, .int .u32 a.dst.hi, .int .u16 a.sp.lo, .int .u16 a.sp.hi, .int .u16 a.dp.lo, .int .u16 a.dp.hi, .int .u8 a.pr.v, .int .u8 a.pr.c] 109)).alloc (.cells #[.int .u32 b.src.lo, .int .u32 b.src.hi, .int .u32 b.dst.lo, .int .u32 b.dst.hi, .int .u16 b.sp.lo, .int .u16 b.sp.hi, .int .u16 b.dp.lo, .int .u16 b.dp.hi, .int .u8 b.pr.v, .int .u8 b.pr.c] 109) := ⟨_, rfl⟩
  have HWM : Sd (Below w.heap.size w M) := ⟨by rw [hM]; exact below_alloc (below_alloc (Below.refl _ _) _) _⟩
  have hA : Blk M w.heap.size #[.int .u32 a.src.lo, .int .u32 a.src.hi, .int .u32 a.dst.lo, .int .u32 a.dst.hi, .int .u16 a.sp.lo, .int .u16 a.sp.hi, .int .u16 a.dp.lo, .int .u16 a.dp.hi, .int .u8 a.pr.v, .int .u8 a.pr.c] 109 := by rw [hM]; exact (Blk.new _ _ _).alloc _
  have hBb : Blk M (w.heap.size + 1) #[.int .u32 b.src.lo, .int .u32 b.src.hi, .int .u32 b.dst.lo, .int .u32 b.dst.hi, .int .u16 b.sp.lo, .int .u16 b.sp.hi, .int .u16 b.dp.lo, .int .u16 b.dp.hi, .int .u8 b.pr.v, .int .u8 b.pr.c] 109 := by rw [hM]; exact blkN (by simp) _ _
  have KS : ∀ W, Below M.heap.size M W → WithS M w.heap.size a b W := fun W h => by
    have k := hA.below h hA.lt
    have l := hBb.below h hBb.lt
    exact ⟨h, ⟨k.cell (i := 0) rfl, k.cell (i := 1) rfl, k.cell (i := 2) rfl, k.cell (i := 3) rfl, k.cell (i := 4) rfl, k.cell (i := 5) rfl, k.cell (i := 6) rfl, k.cell (i := 7) rfl, k.cell (i := 8) rfl, k.cell (i := 9) rfl⟩, ⟨l.cell (i := 0) rfl, l.cell (i := 1) rfl, l.cell (i := 2) rfl, l.cell (i := 3) rfl, l.cell (i := 4) rfl, l.cell (i := 5) rfl, l.cell (i := 6) rfl, l.cell (i := 7) rfl, l.cell (i := 8) rfl, l.cell (i := 9) rfl⟩⟩
  have hl := hA.lt
  have HMM := Sd.mk hM
  have HKS := Sd.mk KS
  have K := boxMeet_any a b ha hb
  clear hM hA hBb ha hb KS
  cases hm : a.meets b with
  | false =>
    have HQ : Sd (a.within b = false) := ⟨by unfold Bx.within; rw [hm]; rfl⟩
    rw [hm] at K
    have HK := Sd.mk K
    clear K hm
    go_enter Try.func67, Try.ntmps67
    go_upto_region 1 with fail
    rw [show (w.alloc (.cells #[.int .u32 a.src.lo, .int .u32 a.src.hi, .int .u32 a.dst.lo, .int .u32 a.dst.hi, .int .u16 a.sp.lo, .int .u16 a.sp.hi, .int .u16 a.dp.lo, .int .u16 a.dp.hi, .int .u8 a.pr.v, .int .u8 a.pr.c] 109)).alloc (.cells #[.int .u32 b.src.lo, .int .u32 b.src.hi, .int .u32 b.dst.lo, .int .u32 b.dst.hi, .int .u16 b.sp.lo, .int .u16 b.sp.hi, .int .u16 b.dp.lo, .int .u16 b.dp.hi, .int .u8 b.pr.v, .int .u8 b.pr.c] 109) = M from HMM.out.symm]
    have hC := HKS.out M (Below.refl _ _)
    unfold WithS at hC
    obtain ⟨_, ⟨c0, c1, c2, c3, c4, c5, c6, c7, c8, c9⟩, ⟨d0, d1, d2, d3, d4, d5, d6, d7, d8, d9⟩⟩ := hC
    go_wp2_with fail
    refine (HK.out _).mono ?_
    rintro e w1 ⟨rfl, hb1⟩
    have HB := Sd.mk hb1
    clear hb1 c0 c1 c2 c3 c4 c5 c6 c7 c8 c9 d0 d1 d2 d3 d4 d5 d6 d7 d8 d9
    go_wp2
    go_ret
    exact ⟨ret_bool HQ.out.symm, below_alloc (beyond HWM.out HB.out) _⟩
  | true =>
    have hj : a.meet b = a.join b := by unfold Bx.meet; rw [if_pos hm]
    have HQ : Sd (decide (a.join b = a) = a.within b) := ⟨by unfold Bx.within; rw [hm]; rfl⟩
    rw [hm, hj] at K
    have HK := Sd.mk K
    have hq := eqBox_raw (a.join b) a
    clear K hm hj
    generalize a.join b = m at *
    go_enter Try.func67, Try.ntmps67
    go_upto_region 1 with fail
    rw [show (w.alloc (.cells #[.int .u32 a.src.lo, .int .u32 a.src.hi, .int .u32 a.dst.lo, .int .u32 a.dst.hi, .int .u16 a.sp.lo, .int .u16 a.sp.hi, .int .u16 a.dp.lo, .int .u16 a.dp.hi, .int .u8 a.pr.v, .int .u8 a.pr.c] 109)).alloc (.cells #[.int .u32 b.src.lo, .int .u32 b.src.hi, .int .u32 b.dst.lo, .int .u32 b.dst.hi, .int .u16 b.sp.lo, .int .u16 b.sp.hi, .int .u16 b.dp.lo, .int .u16 b.dp.hi, .int .u8 b.pr.v, .int .u8 b.pr.c] 109) = M from HMM.out.symm]
    have hC := HKS.out M (Below.refl _ _)
    unfold WithS at hC
    obtain ⟨_, ⟨c0, c1, c2, c3, c4, c5, c6, c7, c8, c9⟩, ⟨d0, d1, d2, d3, d4, d5, d6, d7, d8, d9⟩⟩ := hC
    go_wp2_with fail
    refine (HK.out _).mono ?_
    rintro e w1 ⟨rfl, hb1⟩
    have HB := Sd.mk hb1
    have hl1 := Nat.lt_of_lt_of_le hl hb1.size
    have hC := HKS.out w1 hb1
    unfold WithS at hC
    clear hb1 c0 c1 c2 c3 c4 c5 c6 c7 c8 c9 d0 d1 d2 d3 d4 d5 d6 d7 d8 d9
    obtain ⟨_, ⟨c0, c1, c2, c3, c4, c5, c6, c7, c8, c9⟩, _⟩ := hC
    go_wp2
    go_ret
    exact ⟨ret_bool HQ.out, below_alloc (beyond HWM.out HB.out) _⟩
end Go.Proofs.Ytljliopmphaoeaa
