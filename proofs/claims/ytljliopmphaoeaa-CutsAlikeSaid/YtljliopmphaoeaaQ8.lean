/- What the functions of package box give back. -/
import Derived.Test.YtljliopmphaoeaaQ7
namespace Go.Proofs.Ytljliopmphaoeaa
open Go Go.RowKit Go.Proofs.Ytljliopmphaoeaa.Q

/-- a box in memory, beyond a world -/
def BoxS (M : World) (B : Nat) (b : Bx) (W : World) : Prop := Below M.heap.size M W ∧ W.cell? ⟨B, 0, none⟩ = some (.int .u32 b.src.lo) ∧ W.cell? ⟨B, 1, none⟩ = some (.int .u32 b.src.hi) ∧ W.cell? ⟨B, 2, none⟩ = some (.int .u32 b.dst.lo) ∧ W.cell? ⟨B, 3, none⟩ = some (.int .u32 b.dst.hi) ∧ W.cell? ⟨B, 4, none⟩ = some (.int .u16 b.sp.lo) ∧ W.cell? ⟨B, 5, none⟩ = some (.int .u16 b.sp.hi) ∧ W.cell? ⟨B, 6, none⟩ = some (.int .u16 b.dp.lo) ∧ W.cell? ⟨B, 7, none⟩ = some (.int .u16 b.dp.hi) ∧ W.cell? ⟨B, 8, none⟩ = some (.int .u8 b.pr.v) ∧ W.cell? ⟨B, 9, none⟩ = some (.int .u8 b.pr.c)
theorem boxS {M : World} {B : Nat} {b : Bx} (h : Blk M B #[.int .u32 b.src.lo, .int .u32 b.src.hi, .int .u32 b.dst.lo, .int .u32 b.dst.hi, .int .u16 b.sp.lo, .int .u16 b.sp.hi, .int .u16 b.dp.lo, .int .u16 b.dp.hi, .int .u8 b.pr.v, .int .u8 b.pr.c] 109) (W : World) (hW : Below M.heap.size M W) : BoxS M B b W := by
  have k := h.below hW h.lt
  exact ⟨hW, k.cell (i := 0) rfl, k.cell (i := 1) rfl, k.cell (i := 2) rfl, k.cell (i := 3) rfl, k.cell (i := 4) rfl, k.cell (i := 5) rfl, k.cell (i := 6) rfl, k.cell (i := 7) rfl, k.cell (i := 8) rfl, k.cell (i := 9) rfl⟩
theorem share_any (a b : Run) (w : World) : Calls Try.prog 87 #[.agg #[.int .u32 a.lo, .int .u32 a.hi], .agg #[.int .u32 b.lo, .int .u32 b.hi]] w fun e w' => e = .returned (.agg #[.int .u32 (a.meet b).lo, .int .u32 (a.meet b).hi]) ∧ Below w.heap.size w w' := by
  rcases Nat.lt_or_ge a.lo b.lo with h1 | h1 <;> rcases Nat.lt_or_ge b.hi a.hi with h2 | h2
  · have HM : Sd (a.meet b = ⟨b.lo, b.hi⟩) := ⟨by unfold Run.meet; rw [Run.mk.injEq]; omega⟩
    go_enter Try.func87, Try.ntmps87
    go_wp2
    rw [HM.out]
    refine bodyPost_ret (v := .agg #[.int .u32 b.lo, .int .u32 b.hi]) (by simp [results, Try.results87, go_sem]) rfl ⟨rfl, ?_⟩
    exact below_alloc (below_alloc (below_alloc (Below.refl _ _) _) _) _
  · have HM : Sd (a.meet b = ⟨b.lo, a.hi⟩) := ⟨by unfold Run.meet; rw [Run.mk.injEq]; omega⟩
    go_enter Try.func87, Try.ntmps87
    go_wp2
    rw [HM.out]
    refine bodyPost_ret (v := .agg #[.int .u32 b.lo, .int .u32 a.hi]) (by simp [results, Try.results87, go_sem]) rfl ⟨rfl, ?_⟩
    exact below_alloc (below_alloc (below_alloc (Below.refl _ _) _) _) _
  · have HM : Sd (a.meet b = ⟨a.lo, b.hi⟩) := ⟨by unfold Run.meet; rw [Run.mk.injEq]; omega⟩
    go_enter Try.func87, Try.ntmps87
    go_wp2
    rw [HM.out]
    refine bodyPost_ret (v := .agg #[.int .u32 a.lo, .int .u32 b.hi]) (by simp [results, Try.results87, go_sem]) rfl ⟨rfl, ?_⟩
    exact below_alloc (below_alloc (below_alloc (Below.refl _ _) _) _) _
  · have HM : Sd (a.meet b = ⟨a.lo, a.hi⟩) := ⟨by unfold Run.meet; rw [Run.mk.injEq]; omega⟩
    go_enter Try.func87, Try.ntmps87
    go_wp2
    rw [HM.out]
    refine bodyPost_ret (v := .agg #[.int .u32 a.lo, .int .u32 a.hi]) (by simp [results, Try.results87, go_sem]) rfl ⟨rfl, ?_⟩
    exact below_alloc (below_alloc (below_alloc (Below.refl _ _) _) _) _
theorem whole_any (w : World) : Calls Try.prog 46 #[] w fun e w' => e = .returned (.agg #[.int .u32 0, .int .u32 4294967295, .int .u32 0, .int .u32 4294967295, .int .u16 0, .int .u16 65535, .int .u16 0, .int .u16 65535, .int .u8 0, .int .u8 0]) ∧ Below w.heap.size w w' := by
  go_enter Try.func46, Try.ntmps46
  go_wp2
  refine bodyPost_ret (v := .agg #[.int .u32 0, .int .u32 4294967295, .int .u32 0, .int .u32 4294967295, .int .u16 0, .int .u16 65535, .int .u16 0, .int .u16 65535, .int .u8 0, .int .u8 0]) (by simp [results, Try.results46, go_sem]) rfl ⟨rfl, ?_⟩
  exact below_alloc (below_alloc (below_alloc (Below.refl _ _) _) _) _
set_option maxHeartbeats 4000000 in
set_option maxRecDepth 100000 in
theorem boxCheck_any (b : Bx) (hw : b.Wf) (w : World) : Calls Try.prog 103 #[.agg #[.int .u32 b.src.lo, .int .u32 b.src.hi, .int .u32 b.dst.lo, .int .u32 b.dst.hi, .int .u16 b.sp.lo, .int .u16 b.sp.hi, .int .u16 b.dp.lo, .int .u16 b.dp.hi, .int .u8 b.pr.v, .int .u8 b.pr.c]] w fun e w' => e = .returned (.int .i64 b.ck) ∧ Below w.heap.size w w' := by
  obtain ⟨M, hM⟩ : ∃ M, M = w.alloc (.cells #[.int .u32 b.src.lo, .int .u32 b.src.hi, .int .u32 b.dst.lo, .int .u32 b.dst.hi, .int .u16 b.sp.lo, .int .u16 b.sp.hi, .int .u16 b.dp.lo, .int .u16 b.dp.hi, .int .u8 b.pr.v, .int .u8 b.pr.c] 109) := ⟨_, rfl⟩
  have hB : Blk M w.heap.size #[.int .u32 b.src.lo, .int .u32 b.src.hi, .int .u32 b.dst.lo, .int .u32 b.dst.hi, .int .u16 b.sp.lo, .int .u16 b.sp.hi, .int .u16 b.dp.lo, .int .u16 b.dp.hi, .int .u8 b.pr.v, .int .u8 b.pr.c] 109 := by rw [hM]; exact Blk.new _ _ _
  have HWM : Sd (Below w.heap.size w M) := ⟨by rw [hM]; exact below_alloc (Below.refl _ _) _⟩
  have HMM := Sd.mk hM
  have KS := boxS hB
  have hlt := hB.lt
  have HK1 := Sd.mk (spnCheck_any b.sp)
  have HK2 := Sd.mk (spnCheck_any b.dp)
  have HK3 := Sd.mk (mskCheck_any b.pr hw.pr)
  have HKS := Sd.mk KS
  clear KS hB hM hw
  go_enter Try.func103, Try.ntmps103
  go_upto_region 1 with fail
  rw [show w.alloc (.cells #[.int .u32 b.src.lo, .int .u32 b.src.hi, .int .u32 b.dst.lo, .int .u32 b.dst.hi, .int .u16 b.sp.lo, .int .u16 b.sp.hi, .int .u16 b.dp.lo, .int .u16 b.dp.hi, .int .u8 b.pr.v, .int .u8 b.pr.c] 109) = M from HMM.out.symm]
  obtain ⟨_, c0, c1, c2, c3, c4, c5, c6, c7, c8, c9⟩ := HKS.out M (Below.refl _ _)
  go_wp2
  go_loopw [13] (fun iv wr => ∃ k : Int, 0 ≤ k ∧ k ≤ 2 ∧ iv = .int .i64 k ∧ Sd (Below M.heap.size M wr) ∧ Sd ((0 < k → b.src.lo ≤ b.src.hi) ∧ (1 < k → b.dst.lo ≤ b.dst.hi))) (fun iv _ => 2 - (intOf iv).toNat)
  case atStart => exact ⟨0, by omega, by omega, rfl, ⟨Below.refl _ _⟩, ⟨by omega, by omega⟩⟩
  case round =>
    obtain ⟨k, hk0, hk, rfl, HW, HP⟩ := hrel
    clear c0 c1 c2 c3 c4 c5 c6 c7 c8 c9
    obtain ⟨_, c0, c1, c2, c3, c4, c5, c6, c7, c8, c9⟩ := HKS.out _ HW.out
    have hl2 := Nat.lt_of_lt_of_le hlt HW.out.size
    obtain rfl | rfl | rfl : k = 0 ∨ k = 1 ∨ k = 2 := by omega
    · by_cases hz : b.src.hi < b.src.lo
      · have HC : Sd (b.ck = 70) := ⟨by unfold Bx.ck; rw [if_pos (by omega)]⟩
        have hz' : (b.src.hi : Int) < (b.src.lo : Int) := by omega
        have ix : ∀ W, (Instr.index 171 (.agg #[.int .u32 b.src.lo, .int .u32 b.src.hi, .int .u32 b.dst.lo, .int .u32 b.dst.hi]) (.int .i64 0)).run Try.prog W = .ok (.agg #[.int .u32 b.src.lo, .int .u32 b.src.hi]) W := fun _ => by kernel_rfl
        go_wp2
        go_ret
        exact ⟨ret_int HC.out.symm, beyond HWM.out (HW.out.alloc HW.out.size _)⟩
      · have hz1 : b.src.lo ≤ b.src.hi := by omega
        have hz' : (b.src.lo : Int) ≤ (b.src.hi : Int) := by omega
        have HZ := Sd.mk hz1
        clear hz hz1
        have ix : ∀ W, (Instr.index 171 (.agg #[.int .u32 b.src.lo, .int .u32 b.src.hi, .int .u32 b.dst.lo, .int .u32 b.dst.hi]) (.int .i64 0)).run Try.prog W = .ok (.agg #[.int .u32 b.src.lo, .int .u32 b.src.hi]) W := fun _ => by kernel_rfl
        go_wp2
        go_roundw
        case rel => exact ⟨1, by omega, by omega, rfl, ⟨HW.out.alloc HW.out.size _⟩, ⟨by have := HP.out; have := HZ.out; omega⟩⟩
        case measure => decide
    · by_cases hz : b.dst.hi < b.dst.lo
      · have HC : Sd (b.ck = 70) := ⟨by unfold Bx.ck; rw [if_pos (by omega)]⟩
        have hz' : (b.dst.hi : Int) < (b.dst.lo : Int) := by omega
        have ix : ∀ W, (Instr.index 171 (.agg #[.int .u32 b.src.lo, .int .u32 b.src.hi, .int .u32 b.dst.lo, .int .u32 b.dst.hi]) (.int .i64 1)).run Try.prog W = .ok (.agg #[.int .u32 b.dst.lo, .int .u32 b.dst.hi]) W := fun _ => by kernel_rfl
        go_wp2
        go_ret
        exact ⟨ret_int HC.out.symm, beyond HWM.out (HW.out.alloc HW.out.size _)⟩
      · have hz1 : b.dst.lo ≤ b.dst.hi := by omega
        have hz' : (b.dst.lo : Int) ≤ (b.dst.hi : Int) := by omega
        have HZ := Sd.mk hz1
        clear hz hz1
        have ix : ∀ W, (Instr.index 171 (.agg #[.int .u32 b.src.lo, .int .u32 b.src.hi, .int .u32 b.dst.lo, .int .u32 b.dst.hi]) (.int .i64 1)).run Try.prog W = .ok (.agg #[.int .u32 b.dst.lo, .int .u32 b.dst.hi]) W := fun _ => by kernel_rfl
        go_wp2
        go_roundw
        case rel => exact ⟨2, by omega, by omega, rfl, ⟨HW.out.alloc HW.out.size _⟩, ⟨by have := HP.out; have := HZ.out; omega⟩⟩
        case measure => decide
    · have HZ := HP.out
      go_wp2
      go_loopw [27] (fun iv wq => ∃ k : Int, 0 ≤ k ∧ k ≤ 2 ∧ iv = .int .i64 k ∧ Sd (Below M.heap.size M wq) ∧ Sd ((0 < k → b.sp.ck = 0) ∧ (1 < k → b.dp.ck = 0))) (fun iv _ => 2 - (intOf iv).toNat)
      case atStart => exact ⟨0, by omega, by omega, rfl, HW, ⟨by omega, by omega⟩⟩
      case round =>
        obtain ⟨k, hk0, hk, rfl, HX, HQ⟩ := hrel
        clear c0 c1 c2 c3 c4 c5 c6 c7 c8 c9 hl2
        obtain ⟨_, c0, c1, c2, c3, c4, c5, c6, c7, c8, c9⟩ := HKS.out _ HX.out
        have hl3 := Nat.lt_of_lt_of_le hlt HX.out.size
        obtain rfl | rfl | rfl : k = 0 ∨ k = 1 ∨ k = 2 := by omega
        · by_cases hz : b.sp.ck = 0
          · have G := HK1.out
            rw [hz] at G
            have HG := Sd.mk G
            have HZ2 := Sd.mk hz
            have ix : ∀ W, (Instr.index 172 (.agg #[.int .u16 b.sp.lo, .int .u16 b.sp.hi, .int .u16 b.dp.lo, .int .u16 b.dp.hi]) (.int .i64 0)).run Try.prog W = .ok (.agg #[.int .u16 b.sp.lo, .int .u16 b.sp.hi]) W := fun _ => by kernel_rfl
            clear hz G
            go_wp2_with fail
            refine (HG.out _).mono ?_
            rintro e w2 ⟨rfl, hb⟩
            have HB := Sd.mk (beyond (HX.out.alloc HX.out.size _) hb)
            clear hb
            go_wp2
            go_roundw
            case rel => exact ⟨1, by omega, by omega, rfl, HB, ⟨by have := HQ.out; have := HZ2.out; omega⟩⟩
            case measure => decide
          · have hz30 : b.sp.ck = 30 := by rcases b.sp.ck_cases with h | h <;> omega
            have HC : Sd (b.ck = 30) := ⟨by
              have := HQ.out
              unfold Bx.ck
              rw [if_neg (by omega), if_pos hz]; exact hz30⟩
            have G := HK1.out
            rw [hz30] at G
            have HG := Sd.mk G
            have ix : ∀ W, (Instr.index 172 (.agg #[.int .u16 b.sp.lo, .int .u16 b.sp.hi, .int .u16 b.dp.lo, .int .u16 b.dp.hi]) (.int .i64 0)).run Try.prog W = .ok (.agg #[.int .u16 b.sp.lo, .int .u16 b.sp.hi]) W := fun _ => by kernel_rfl
            clear hz hz30 G
            go_wp2_with fail
            refine (HG.out _).mono ?_
            rintro e w2 ⟨rfl, hb⟩
            have HB := Sd.mk (beyond (HX.out.alloc HX.out.size _) hb)
            clear hb
            go_wp2
            go_ret
            exact ⟨ret_int HC.out.symm, beyond HWM.out HB.out⟩
        · by_cases hz : b.dp.ck = 0
          · have G := HK2.out
            rw [hz] at G
            have HG := Sd.mk G
            have HZ2 := Sd.mk hz
            have ix : ∀ W, (Instr.index 172 (.agg #[.int .u16 b.sp.lo, .int .u16 b.sp.hi, .int .u16 b.dp.lo, .int .u16 b.dp.hi]) (.int .i64 1)).run Try.prog W = .ok (.agg #[.int .u16 b.dp.lo, .int .u16 b.dp.hi]) W := fun _ => by kernel_rfl
            clear hz G
            go_wp2_with fail
            refine (HG.out _).mono ?_
            rintro e w2 ⟨rfl, hb⟩
            have HB := Sd.mk (beyond (HX.out.alloc HX.out.size _) hb)
            clear hb
            go_wp2
            go_roundw
            case rel => exact ⟨2, by omega, by omega, rfl, HB, ⟨by have := HQ.out; have := HZ2.out; omega⟩⟩
            case measure => decide
          · have hz30 : b.dp.ck = 30 := by rcases b.dp.ck_cases with h | h <;> omega
            have HC : Sd (b.ck = 30) := ⟨by
              have := HQ.out
              unfold Bx.ck
              rw [if_neg (by omega), if_neg (by omega), if_pos hz]; exact hz30⟩
            have G := HK2.out
            rw [hz30] at G
            have HG := Sd.mk G
            have ix : ∀ W, (Instr.index 172 (.agg #[.int .u16 b.sp.lo, .int .u16 b.sp.hi, .int .u16 b.dp.lo, .int .u16 b.dp.hi]) (.int .i64 1)).run Try.prog W = .ok (.agg #[.int .u16 b.dp.lo, .int .u16 b.dp.hi]) W := fun _ => by kernel_rfl
            clear hz hz30 G
            go_wp2_with fail
            refine (HG.out _).mono ?_
            rintro e w2 ⟨rfl, hb⟩
            have HB := Sd.mk (beyond (HX.out.alloc HX.out.size _) hb)
            clear hb
            go_wp2
            go_ret
            exact ⟨ret_int HC.out.symm, beyond HWM.out HB.out⟩
        · have HC : Sd (b.ck = b.pr.ck) := ⟨by
            have := HQ.out
            unfold Bx.ck
            rw [if_neg (by omega), if_neg (by omega), if_neg (by omega)]⟩
          go_wp2_with fail
          refine (HK3.out _).mono ?_
          rintro e w2 ⟨rfl, hb⟩
          have HB := Sd.mk (beyond HX.out hb)
          clear hb
          go_wp2
          go_ret
          exact ⟨ret_int HC.out.symm, beyond HWM.out HB.out⟩
theorem boxMay_any (b : Bx) (hw : b.Wf) (w : World) : Calls Try.prog 90 #[.agg #[.int .u32 b.src.lo, .int .u32 b.src.hi, .int .u32 b.dst.lo, .int .u32 b.dst.hi, .int .u16 b.sp.lo, .int .u16 b.sp.hi, .int .u16 b.dp.lo, .int .u16 b.dp.hi, .int .u8 b.pr.v, .int .u8 b.pr.c]] w fun e w' => e = .returned (.bool (decide (b.ck = 0))) ∧ Below w.heap.size w w' := by
  have HK := Sd.mk (boxCheck_any b hw)
  have HQ : Sd ((b.ck == 0) = decide (b.ck = 0)) := ⟨rfl⟩
  go_enter Try.func90, Try.ntmps90
  go_wp2_with fail
  refine (HK.out _).mono ?_
  rintro e w1 ⟨rfl, hb⟩
  have HB := Sd.mk (beyond (below_alloc (Below.refl w.heap.size w) _) hb)
  clear hb
  go_wp2
  go_ret
  exact ⟨ret_bool HQ.out, HB.out⟩
end Go.Proofs.Ytljliopmphaoeaa
