/- What the document's answer for rules gives back: the same. -/
import Derived.Test.YtljliopmphaoeaaQ5
namespace Go.Proofs.Ytljliopmphaoeaa
open Go Go.RowKit Go.Proofs.Ytljliopmphaoeaa.Q

theorem rEnds_any (s : Spn) (w : World) : Calls Try.prog 82 #[.agg #[.int .u16 s.lo, .int .u16 s.hi]] w fun e w' => e = .returned (.int .i64 s.ck) ∧ Below w.heap.size w w' := by
  by_cases h : s.hi < s.lo
  · have HC : Sd (s.ck = 30) := ⟨by unfold Spn.ck; rw [if_pos h]⟩
    have h' : (s.hi : Int) < (s.lo : Int) := by omega
    go_enter Try.func82, Try.ntmps82
    go_wp2
    go_ret
    exact ⟨ret_int HC.out.symm, (Below.refl _ _).alloc (Nat.le_refl _) _⟩
  · have HC : Sd (s.ck = 0) := ⟨by unfold Spn.ck; rw [if_neg h]⟩
    have h' : (s.lo : Int) ≤ (s.hi : Int) := by omega
    go_enter Try.func82, Try.ntmps82
    go_wp2
    go_ret
    exact ⟨ret_int HC.out.symm, (Below.refl _ _).alloc (Nat.le_refl _) _⟩
set_option maxHeartbeats 4000000 in
set_option maxRecDepth 100000 in
theorem rRuleCheck_any (r : Rul) (hw : r.Wf) (w : World) : Calls Try.prog 59 #[.agg #[.int .i64 r.id, .int .u32 r.src.a, .int .i64 r.src.n, .int .u32 r.dst.a, .int .i64 r.dst.n, .int .u16 r.sp.lo, .int .u16 r.sp.hi, .int .u16 r.dp.lo, .int .u16 r.dp.hi, .int .u8 r.pr.v, .int .u8 r.pr.c, .int .i64 r.act]] w fun e w' => e = .returned (.tuple #[.int .i64 r.ck.1, .int .i64 r.ck.2]) ∧ Below w.heap.size w w' := by
  obtain ⟨M, hM⟩ : ∃ M, M = w.alloc (.cells #[.int .i64 r.id, .int .u32 r.src.a, .int .i64 r.src.n, .int .u32 r.dst.a, .int .i64 r.dst.n, .int .u16 r.sp.lo, .int .u16 r.sp.hi, .int .u16 r.dp.lo, .int .u16 r.dp.hi, .int .u8 r.pr.v, .int .u8 r.pr.c, .int .i64 r.act] 60) := ⟨_, rfl⟩
  have hB : Blk M w.heap.size #[.int .i64 r.id, .int .u32 r.src.a, .int .i64 r.src.n, .int .u32 r.dst.a, .int .i64 r.dst.n, .int .u16 r.sp.lo, .int .u16 r.sp.hi, .int .u16 r.dp.lo, .int .u16 r.dp.hi, .int .u8 r.pr.v, .int .u8 r.pr.c, .int .i64 r.act] 60 := by rw [hM]; exact Blk.new _ _ _
  have HWM : Sd (Below w.heap.size w M) := ⟨by rw [hM]; exact (Below.refl _ _).alloc (Nat.le_refl _) _⟩
  have HMM := Sd.mk hM
  have KS : ∀ W, Below M.heap.size M W → Below M.heap.size M W ∧ W.cell? ⟨w.heap.size, 0, none⟩ = some (.int .i64 r.id) ∧ W.cell? ⟨w.heap.size, 1, none⟩ = some (.int .u32 r.src.a) ∧ W.cell? ⟨w.heap.size, 2, none⟩ = some (.int .i64 r.src.n) ∧ W.cell? ⟨w.heap.size, 3, none⟩ = some (.int .u32 r.dst.a) ∧ W.cell? ⟨w.heap.size, 4, none⟩ = some (.int .i64 r.dst.n) ∧ W.cell? ⟨w.heap.size, 5, none⟩ = some (.int .u16 r.sp.lo) ∧ W.cell? ⟨w.heap.size, 6, none⟩ = some (.int .u16 r.sp.hi) ∧ W.cell? ⟨w.heap.size, 7, none⟩ = some (.int .u16 r.dp.lo) ∧ W.cell? ⟨w.heap.size, 8, none⟩ = some (.int .u16 r.dp.hi) ∧ W.cell? ⟨w.heap.size, 9, none⟩ = some (.int .u8 r.pr.v) ∧ W.cell? ⟨w.heap.size, 10, none⟩ = some (.int .u8 r.pr.c) ∧ W.cell? ⟨w.heap.size, 11, none⟩ = some (.int .i64 r.act) := fun W h => rulS hB W h
  have H1 := Sd.mk (heldS (fun _ h => h.1) KS (fun W => rPfxCheck_any r.src hw.src W))
  have H2 := Sd.mk (heldS (fun _ h => h.1) KS (fun W => rPfxCheck_any r.dst hw.dst W))
  have H3 := Sd.mk (heldS (fun _ h => h.1) KS (fun W => rEnds_any r.sp W))
  have H4 := Sd.mk (heldS (fun _ h => h.1) KS (fun W => rEnds_any r.dp W))
  have H5 := Sd.mk (heldS (fun _ h => h.1) KS (fun W => rMskCheck_any r.pr hw.pr W))
  have HKS := Sd.mk KS
  have HKA : Sd (∀ W o, (Below M.heap.size M W ∧ W.cell? ⟨w.heap.size, 0, none⟩ = some (.int .i64 r.id) ∧ W.cell? ⟨w.heap.size, 1, none⟩ = some (.int .u32 r.src.a) ∧ W.cell? ⟨w.heap.size, 2, none⟩ = some (.int .i64 r.src.n) ∧ W.cell? ⟨w.heap.size, 3, none⟩ = some (.int .u32 r.dst.a) ∧ W.cell? ⟨w.heap.size, 4, none⟩ = some (.int .i64 r.dst.n) ∧ W.cell? ⟨w.heap.size, 5, none⟩ = some (.int .u16 r.sp.lo) ∧ W.cell? ⟨w.heap.size, 6, none⟩ = some (.int .u16 r.sp.hi) ∧ W.cell? ⟨w.heap.size, 7, none⟩ = some (.int .u16 r.dp.lo) ∧ W.cell? ⟨w.heap.size, 8, none⟩ = some (.int .u16 r.dp.hi) ∧ W.cell? ⟨w.heap.size, 9, none⟩ = some (.int .u8 r.pr.v) ∧ W.cell? ⟨w.heap.size, 10, none⟩ = some (.int .u8 r.pr.c) ∧ W.cell? ⟨w.heap.size, 11, none⟩ = some (.int .i64 r.act)) → (Below M.heap.size M (W.alloc o) ∧ (W.alloc o).cell? ⟨w.heap.size, 0, none⟩ = some (.int .i64 r.id) ∧ (W.alloc o).cell? ⟨w.heap.size, 1, none⟩ = some (.int .u32 r.src.a) ∧ (W.alloc o).cell? ⟨w.heap.size, 2, none⟩ = some (.int .i64 r.src.n) ∧ (W.alloc o).cell? ⟨w.heap.size, 3, none⟩ = some (.int .u32 r.dst.a) ∧ (W.alloc o).cell? ⟨w.heap.size, 4, none⟩ = some (.int .i64 r.dst.n) ∧ (W.alloc o).cell? ⟨w.heap.size, 5, none⟩ = some (.int .u16 r.sp.lo) ∧ (W.alloc o).cell? ⟨w.heap.size, 6, none⟩ = some (.int .u16 r.sp.hi) ∧ (W.alloc o).cell? ⟨w.heap.size, 7, none⟩ = some (.int .u16 r.dp.lo) ∧ (W.alloc o).cell? ⟨w.heap.size, 8, none⟩ = some (.int .u16 r.dp.hi) ∧ (W.alloc o).cell? ⟨w.heap.size, 9, none⟩ = some (.int .u8 r.pr.v) ∧ (W.alloc o).cell? ⟨w.heap.size, 10, none⟩ = some (.int .u8 r.pr.c) ∧ (W.alloc o).cell? ⟨w.heap.size, 11, none⟩ = some (.int .i64 r.act))) := ⟨fun W o h => KS _ (h.1.alloc h.1.size o)⟩
  clear KS hB hM
  by_cases h0 : 1 ≤ r.id ∧ r.id ≤ 999999
  · obtain ⟨i1, i2⟩ := h0
    go_enter Try.func59, Try.ntmps59
    go_wp2
    rw [show w.alloc (.cells #[.int .i64 r.id, .int .u32 r.src.a, .int .i64 r.src.n, .int .u32 r.dst.a, .int .i64 r.dst.n, .int .u16 r.sp.lo, .int .u16 r.sp.hi, .int .u16 r.dp.lo, .int .u16 r.dp.hi, .int .u8 r.pr.v, .int .u8 r.pr.c, .int .i64 r.act] 60) = M from HMM.out.symm]
    go_region_held3 (fun W => Below M.heap.size M W ∧ W.cell? ⟨w.heap.size, 0, none⟩ = some (.int .i64 r.id) ∧ W.cell? ⟨w.heap.size, 1, none⟩ = some (.int .u32 r.src.a) ∧ W.cell? ⟨w.heap.size, 2, none⟩ = some (.int .i64 r.src.n) ∧ W.cell? ⟨w.heap.size, 3, none⟩ = some (.int .u32 r.dst.a) ∧ W.cell? ⟨w.heap.size, 4, none⟩ = some (.int .i64 r.dst.n) ∧ W.cell? ⟨w.heap.size, 5, none⟩ = some (.int .u16 r.sp.lo) ∧ W.cell? ⟨w.heap.size, 6, none⟩ = some (.int .u16 r.sp.hi) ∧ W.cell? ⟨w.heap.size, 7, none⟩ = some (.int .u16 r.dp.lo) ∧ W.cell? ⟨w.heap.size, 8, none⟩ = some (.int .u16 r.dp.hi) ∧ W.cell? ⟨w.heap.size, 9, none⟩ = some (.int .u8 r.pr.v) ∧ W.cell? ⟨w.heap.size, 10, none⟩ = some (.int .u8 r.pr.c) ∧ W.cell? ⟨w.heap.size, 11, none⟩ = some (.int .i64 r.act))
      (first | assumption | (exact HKS.out _ ((Below.refl _ _).drew)) | (exact HKA.out _ _ (by assumption)))
      (first
        | (go_at_call_of 81 (Value.agg #[.int .u32 r.src.a, .int .i64 r.src.n]); refine (H1.out _ (by assumption)).mono ?_; rintro e w1 ⟨rfl, hb1⟩)
        | (go_at_call_of 81 (Value.agg #[.int .u32 r.dst.a, .int .i64 r.dst.n]); refine (H2.out _ (by assumption)).mono ?_; rintro e w2 ⟨rfl, hb2⟩)
        | (go_at_call_of 82 (Value.agg #[.int .u16 r.sp.lo, .int .u16 r.sp.hi]); refine (H3.out _ (by assumption)).mono ?_; rintro e w3 ⟨rfl, hb3⟩)
        | (go_at_call_of 82 (Value.agg #[.int .u16 r.dp.lo, .int .u16 r.dp.hi]); refine (H4.out _ (by assumption)).mono ?_; rintro e w4 ⟨rfl, hb4⟩)
        | (go_at_call_of 83 (Value.agg #[.int .u8 r.pr.v, .int .u8 r.pr.c]); refine (H5.out _ (by assumption)).mono ?_; rintro e w5 ⟨rfl, hb5⟩))
    obtain ⟨hb, c0, c1, c2, c3, c4, c5, c6, c7, c8, c9, c10, c11⟩ := hb5
    have HWW : Sd (Below w.heap.size w w5) := ⟨beyond HWM.out hb⟩
    have sz := Nat.lt_of_lt_of_le (show w.heap.size < M.heap.size by rw [HMM.out, World.size_alloc]; exact Nat.lt_succ_self _) hb.size
    clear hb1 hb2 hb3 hb4 hb HKA
    go_wp2
    go_loop [5] (fun iv => ∃ k : Int, 0 ≤ k ∧ k ≤ 5 ∧ iv = .int .i64 k ∧ Sd ((0 < k → r.src.ck = 0) ∧ (1 < k → r.dst.ck = 0) ∧ (2 < k → r.sp.ck = 0) ∧ (3 < k → r.dp.ck = 0) ∧ (4 < k → r.pr.ck = 0))) (fun iv => 5 - (intOf iv).toNat)
    case atStart => exact ⟨0, by omega, by omega, rfl, ⟨by omega, by omega, by omega, by omega, by omega⟩⟩
    case round =>
      obtain ⟨k, hk0, hk, rfl, HP⟩ := hrel
      obtain rfl | rfl | rfl | rfl | rfl | rfl : k = 0 ∨ k = 1 ∨ k = 2 ∨ k = 3 ∨ k = 4 ∨ k = 5 := by omega
      · by_cases hz : r.src.ck = 0
        · have ht : (r.src.ck != 0) = false := by rw [hz]; rfl
          have HZ := Sd.mk hz
          clear hz
          go_wp2
          go_round
          case rel => exact ⟨1, by omega, by omega, rfl, ⟨by have := HP.out; have := HZ.out; omega⟩⟩
          case measure => decide
        · have ht : (r.src.ck != 0) = true := by simp [hz]
          have HQ : Sd (r.ck = (r.src.ck, 2)) := ⟨by
            have := HP.out
            unfold Rul.ck
            rw [if_neg (by omega), if_pos hz]⟩
          clear hz
          go_wp2
          go_ret2
          rw [HQ.out]
          exact ⟨rfl, below_alloc HWW.out _⟩
      · by_cases hz : r.dst.ck = 0
        · have ht : (r.dst.ck != 0) = false := by rw [hz]; rfl
          have HZ := Sd.mk hz
          clear hz
          go_wp2
          go_round
          case rel => exact ⟨2, by omega, by omega, rfl, ⟨by have := HP.out; have := HZ.out; omega⟩⟩
          case measure => decide
        · have ht : (r.dst.ck != 0) = true := by simp [hz]
          have HQ : Sd (r.ck = (r.dst.ck, 3)) := ⟨by
            have := HP.out
            unfold Rul.ck
            rw [if_neg (by omega), if_neg (by omega), if_pos hz]⟩
          clear hz
          go_wp2
          go_ret2
          rw [HQ.out]
          exact ⟨rfl, below_alloc HWW.out _⟩
      · by_cases hz : r.sp.ck = 0
        · have ht : (r.sp.ck != 0) = false := by rw [hz]; rfl
          have HZ := Sd.mk hz
          clear hz
          go_wp2
          go_round
          case rel => exact ⟨3, by omega, by omega, rfl, ⟨by have := HP.out; have := HZ.out; omega⟩⟩
          case measure => decide
        · have ht : (r.sp.ck != 0) = true := by simp [hz]
          have HQ : Sd (r.ck = (r.sp.ck, 4)) := ⟨by
            have := HP.out
            unfold Rul.ck
            rw [if_neg (by omega), if_neg (by omega), if_neg (by omega), if_pos hz]⟩
          clear hz
          go_wp2
          go_ret2
          rw [HQ.out]
          exact ⟨rfl, below_alloc HWW.out _⟩
      · by_cases hz : r.dp.ck = 0
        · have ht : (r.dp.ck != 0) = false := by rw [hz]; rfl
          have HZ := Sd.mk hz
          clear hz
          go_wp2
          go_round
          case rel => exact ⟨4, by omega, by omega, rfl, ⟨by have := HP.out; have := HZ.out; omega⟩⟩
          case measure => decide
        · have ht : (r.dp.ck != 0) = true := by simp [hz]
          have HQ : Sd (r.ck = (r.dp.ck, 5)) := ⟨by
            have := HP.out
            unfold Rul.ck
            rw [if_neg (by omega), if_neg (by omega), if_neg (by omega), if_neg (by omega), if_pos hz]⟩
          clear hz
          go_wp2
          go_ret2
          rw [HQ.out]
          exact ⟨rfl, below_alloc HWW.out _⟩
      · by_cases hz : r.pr.ck = 0
        · have ht : (r.pr.ck != 0) = false := by rw [hz]; rfl
          have HZ := Sd.mk hz
          clear hz
          go_wp2
          go_round
          case rel => exact ⟨5, by omega, by omega, rfl, ⟨by have := HP.out; have := HZ.out; omega⟩⟩
          case measure => decide
        · have ht : (r.pr.ck != 0) = true := by simp [hz]
          have HQ : Sd (r.ck = (r.pr.ck, 6)) := ⟨by
            have := HP.out
            unfold Rul.ck
            rw [if_neg (by omega), if_neg (by omega), if_neg (by omega), if_neg (by omega), if_neg (by omega), if_pos hz]⟩
          clear hz
          go_wp2
          go_ret2
          rw [HQ.out]
          exact ⟨rfl, below_alloc HWW.out _⟩
      · have HZ := HP.out
        have hk : r.ck = if r.act = 1 ∨ r.act = 2 ∨ r.act = 3 ∨ r.act = 4 then (0, 0) else (81, 7) := by
          unfold Rul.ck
          rw [if_neg (by omega), if_neg (by omega), if_neg (by omega), if_neg (by omega), if_neg (by omega), if_neg (by omega)]
        have HKK := Sd.mk hk
        clear hk HZ HP
        by_cases a1 : r.act < 1
        · have HQ : Sd (r.ck = (81, 7)) := ⟨by rw [HKK.out, if_neg (by omega)]⟩
          go_wp2
          go_ret2
          rw [HQ.out]
          exact ⟨rfl, below_alloc HWW.out _⟩
        · by_cases a2 : 4 < r.act
          · have HQ : Sd (r.ck = (81, 7)) := ⟨by rw [HKK.out, if_neg (by omega)]⟩
            go_wp2
            go_ret2
            rw [HQ.out]
            exact ⟨rfl, below_alloc HWW.out _⟩
          · have HQ : Sd (r.ck = (0, 0)) := ⟨by rw [HKK.out, if_pos (by omega)]⟩
            have a3 : 1 ≤ r.act := by omega
            have a4 : r.act ≤ 4 := by omega
            go_wp2
            go_ret2
            rw [HQ.out]
            exact ⟨rfl, below_alloc HWW.out _⟩
  · have HQ : Sd (r.ck = (80, 1)) := ⟨by unfold Rul.ck; rw [if_pos (by omega)]⟩
    by_cases h1 : r.id < 1
    · clear h0
      go_enter Try.func59, Try.ntmps59
      go_wp2
      go_ret2
      rw [HQ.out]
      exact ⟨rfl, (Below.refl _ _).alloc (Nat.le_refl _) _⟩
    · have h2 : 999999 < r.id := by omega
      clear h0
      go_enter Try.func59, Try.ntmps59
      go_wp2
      go_ret2
      rw [HQ.out]
      exact ⟨rfl, (Below.refl _ _).alloc (Nat.le_refl _) _⟩
theorem rRuleMay_any (r : Rul) (hw : r.Wf) (w : World) : Calls Try.prog 99 #[.agg #[.int .i64 r.id, .int .u32 r.src.a, .int .i64 r.src.n, .int .u32 r.dst.a, .int .i64 r.dst.n, .int .u16 r.sp.lo, .int .u16 r.sp.hi, .int .u16 r.dp.lo, .int .u16 r.dp.hi, .int .u8 r.pr.v, .int .u8 r.pr.c, .int .i64 r.act]] w fun e w' => e = .returned (.bool r.may) ∧ Below w.heap.size w w' := by
  have HK := Sd.mk (rRuleCheck_any r hw)
  have HQ : Sd ((r.ck.1 == 0) = r.may) := ⟨rfl⟩
  go_enter Try.func99, Try.ntmps99
  go_wp2_with fail
  refine (HK.out _).mono ?_
  rintro e w1 ⟨rfl, hb⟩
  have HB := Sd.mk ((Below.refl _ _ |>.alloc (Nat.le_refl w.heap.size) _).trans (hb.mono (by simp)))
  clear hb
  go_wp2
  go_ret
  exact ⟨ret_bool HQ.out, HB.out⟩
end Go.Proofs.Ytljliopmphaoeaa
