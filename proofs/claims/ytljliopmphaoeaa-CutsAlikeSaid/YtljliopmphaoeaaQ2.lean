/- What the functions of package rule give back. -/
import Derived.Test.YtljliopmphaoeaaQ1
namespace Go.Proofs.Ytljliopmphaoeaa
open Go Go.RowKit Go.Proofs.Ytljliopmphaoeaa.Q

/-- a rule's struct in memory, beyond a world -/
def RulS (M : World) (B : Nat) (r : Rul) (W : World) : Prop := Below M.heap.size M W ∧ W.cell? ⟨B, 0, none⟩ = some (.int .i64 r.id) ∧ W.cell? ⟨B, 1, none⟩ = some (.int .u32 r.src.a) ∧ W.cell? ⟨B, 2, none⟩ = some (.int .i64 r.src.n) ∧ W.cell? ⟨B, 3, none⟩ = some (.int .u32 r.dst.a) ∧ W.cell? ⟨B, 4, none⟩ = some (.int .i64 r.dst.n) ∧ W.cell? ⟨B, 5, none⟩ = some (.int .u16 r.sp.lo) ∧ W.cell? ⟨B, 6, none⟩ = some (.int .u16 r.sp.hi) ∧ W.cell? ⟨B, 7, none⟩ = some (.int .u16 r.dp.lo) ∧ W.cell? ⟨B, 8, none⟩ = some (.int .u16 r.dp.hi) ∧ W.cell? ⟨B, 9, none⟩ = some (.int .u8 r.pr.v) ∧ W.cell? ⟨B, 10, none⟩ = some (.int .u8 r.pr.c) ∧ W.cell? ⟨B, 11, none⟩ = some (.int .i64 r.act)
theorem rulS {M : World} {B : Nat} {r : Rul} (h : Blk M B #[.int .i64 r.id, .int .u32 r.src.a, .int .i64 r.src.n, .int .u32 r.dst.a, .int .i64 r.dst.n, .int .u16 r.sp.lo, .int .u16 r.sp.hi, .int .u16 r.dp.lo, .int .u16 r.dp.hi, .int .u8 r.pr.v, .int .u8 r.pr.c, .int .i64 r.act] 60) (W : World) (hW : Below M.heap.size M W) : RulS M B r W := by
  have k := h.below hW h.lt
  exact ⟨hW, k.cell (i := 0) rfl, k.cell (i := 1) rfl, k.cell (i := 2) rfl, k.cell (i := 3) rfl, k.cell (i := 4) rfl, k.cell (i := 5) rfl, k.cell (i := 6) rfl, k.cell (i := 7) rfl, k.cell (i := 8) rfl, k.cell (i := 9) rfl, k.cell (i := 10) rfl, k.cell (i := 11) rfl⟩
theorem heldS {P : Program} {f : FuncId} {args : Array Value} {r : Value} {M : World} {C : World → Prop} (h1 : ∀ W, C W → Below M.heap.size M W) (h2 : ∀ W, Below M.heap.size M W → C W)
    (K : ∀ W, Calls P f args W fun e w' => e = .returned r ∧ Below W.heap.size W w') (W : World) (hW : C W) : Calls P f args W fun e w' => e = .returned r ∧ C w' :=
  (K W).mono fun _ _ h => ⟨h.1, h2 _ (beyond (h1 W hW) h.2)⟩
set_option maxHeartbeats 4000000 in
/-- rule.Check, its five parts' answers known -/
theorem ruleCheck_any (r : Rul) (hw : r.Wf) (w : World) : Calls Try.prog 64 #[.agg #[.int .i64 r.id, .int .u32 r.src.a, .int .i64 r.src.n, .int .u32 r.dst.a, .int .i64 r.dst.n, .int .u16 r.sp.lo, .int .u16 r.sp.hi, .int .u16 r.dp.lo, .int .u16 r.dp.hi, .int .u8 r.pr.v, .int .u8 r.pr.c, .int .i64 r.act]] w fun e w' => e = .returned (.tuple #[.int .i64 r.ck.1, .int .i64 r.ck.2]) ∧ Below w.heap.size w w' := by
  obtain ⟨M, hM⟩ : ∃ M, M = w.alloc (.cells #[.int .i64 r.id, .int .u32 r.src.a, .int .i64 r.src.n, .int .u32 r.dst.a, .int .i64 r.dst.n, .int .u16 r.sp.lo, .int .u16 r.sp.hi, .int .u16 r.dp.lo, .int .u16 r.dp.hi, .int .u8 r.pr.v, .int .u8 r.pr.c, .int .i64 r.act] 60) := ⟨_, rfl⟩
  have hB : Blk M w.heap.size #[.int .i64 r.id, .int .u32 r.src.a, .int .i64 r.src.n, .int .u32 r.dst.a, .int .i64 r.dst.n, .int .u16 r.sp.lo, .int .u16 r.sp.hi, .int .u16 r.dp.lo, .int .u16 r.dp.hi, .int .u8 r.pr.v, .int .u8 r.pr.c, .int .i64 r.act] 60 := by rw [hM]; exact Blk.new _ _ _
  have HWM : Sd (Below w.heap.size w M) := ⟨by rw [hM]; exact (Below.refl _ _).alloc (Nat.le_refl _) _⟩
  have HMM := Sd.mk hM
  have KS := rulS hB
  have H1 := Sd.mk (heldS (fun _ h => h.1) KS (fun W => pfxCheck_any r.src hw.src W))
  have H2 := Sd.mk (heldS (fun _ h => h.1) KS (fun W => pfxCheck_any r.dst hw.dst W))
  have H3 := Sd.mk (heldS (fun _ h => h.1) KS (fun W => spnCheck_any r.sp W))
  have H4 := Sd.mk (heldS (fun _ h => h.1) KS (fun W => spnCheck_any r.dp W))
  have H5 := Sd.mk (heldS (fun _ h => h.1) KS (fun W => mskCheck_any r.pr hw.pr W))
  have HKS := Sd.mk KS
  clear KS hB hM
  by_cases h0 : 1 ≤ r.id ∧ r.id ≤ 999999
  · obtain ⟨i1, i2⟩ := h0
    go_enter Try.func64, Try.ntmps64
    go_wp2
    rw [show w.alloc (.cells #[.int .i64 r.id, .int .u32 r.src.a, .int .i64 r.src.n, .int .u32 r.dst.a, .int .i64 r.dst.n, .int .u16 r.sp.lo, .int .u16 r.sp.hi, .int .u16 r.dp.lo, .int .u16 r.dp.hi, .int .u8 r.pr.v, .int .u8 r.pr.c, .int .i64 r.act] 60) = M from HMM.out.symm]
    refine wp_region_quietC (C := RulS M w.heap.size r) (by kernel_rfl) (by kernel_rfl) (HKS.out _ ((Below.refl _ _).drew)) ?_
    repeat (first
      | go_big_quiet_skip
      | (go_big_quiet_want
         first
           | (refine quiet_run ?_
              apply Exists.intro
              refine ⟨fun w hw => ?_, ?_⟩
              · ((unfold RulS at hw); go_split_ands; go_simp; (try with_reducible rfl))
              go_big_quiet_on
              try simp only [Act.put, List.setIfInBounds_toArray, List.set_cons_zero, List.set_cons_succ])
           | (apply Exists.intro
              refine ⟨fun w hw => ?_, ?_⟩
              · (unfold Oper.quietAt; go_simp; first | (with_reducible exact H1.out _ hw) | (with_reducible exact H2.out _ hw) | (with_reducible exact H3.out _ hw) | (with_reducible exact H4.out _ hw) | (with_reducible exact H5.out _ hw))
              go_big_quiet_on
              try simp only [Act.put, List.setIfInBounds_toArray, List.set_cons_zero, List.set_cons_succ])))
    refine wpQuiet_nil ?_
    intro W hW
    have HWW : Sd (Below M.heap.size M W) := ⟨hW.1⟩
    unfold RulS at hW
    obtain ⟨_, c0, c1, c2, c3, c4, c5, c6, c7, c8, c9, c10, c11⟩ := hW
    go_wp2
    go_loop [30] (fun iv => ∃ k : Int, 0 ≤ k ∧ k ≤ 5 ∧ iv = .int .i64 k ∧ Sd ((0 < k → r.src.ck = 0) ∧ (1 < k → r.dst.ck = 0) ∧ (2 < k → r.sp.ck = 0) ∧ (3 < k → r.dp.ck = 0) ∧ (4 < k → r.pr.ck = 0))) (fun iv => 5 - (intOf iv).toNat)
    case atStart => exact ⟨0, by omega, by omega, rfl, ⟨by omega, by omega, by omega, by omega, by omega⟩⟩
    case round =>
      obtain ⟨k, hk0, hk, rfl, HP⟩ := hrel
      obtain rfl | rfl | rfl | rfl | rfl | rfl : k = 0 ∨ k = 1 ∨ k = 2 ∨ k = 3 ∨ k = 4 ∨ k = 5 := by omega
      · by_cases hz : r.src.ck = 0
        · have ht : (r.src.ck != 0) = false := by rw [hz]; rfl
          have HZ := Sd.mk hz
          clear hz
          have ix : ∀ W, (Instr.index 157 (.agg #[.int .i64 r.src.ck, .int .i64 r.dst.ck, .int .i64 r.sp.ck, .int .i64 r.dp.ck, .int .i64 r.pr.ck]) (.int .i64 0)).run Try.prog W = .ok (.int .i64 r.src.ck) W := fun _ => by kernel_rfl
          go_wp2
          go_round
          case rel => exact ⟨1, by omega, by omega, rfl, ⟨by have := HP.out; have := HZ.out; omega⟩⟩
          case measure => decide
        · have ht : (r.src.ck != 0) = true := by simp [hz]
          have HQ : Sd (r.ck = (r.src.ck, 2)) := ⟨by
            have := HP.out
            unfold Rul.ck
            rw [if_neg (by omega), if_pos hz]⟩
          clear hz
          have ix : ∀ W, (Instr.index 157 (.agg #[.int .i64 r.src.ck, .int .i64 r.dst.ck, .int .i64 r.sp.ck, .int .i64 r.dp.ck, .int .i64 r.pr.ck]) (.int .i64 0)).run Try.prog W = .ok (.int .i64 r.src.ck) W := fun _ => by kernel_rfl
          go_wp2
          go_ret2
          rw [HQ.out]
          exact ⟨rfl, beyond HWM.out HWW.out⟩
      · by_cases hz : r.dst.ck = 0
        · have ht : (r.dst.ck != 0) = false := by rw [hz]; rfl
          have HZ := Sd.mk hz
          clear hz
          have ix : ∀ W, (Instr.index 157 (.agg #[.int .i64 r.src.ck, .int .i64 r.dst.ck, .int .i64 r.sp.ck, .int .i64 r.dp.ck, .int .i64 r.pr.ck]) (.int .i64 1)).run Try.prog W = .ok (.int .i64 r.dst.ck) W := fun _ => by kernel_rfl
          go_wp2
          go_round
          case rel => exact ⟨2, by omega, by omega, rfl, ⟨by have := HP.out; have := HZ.out; omega⟩⟩
          case measure => decide
        · have ht : (r.dst.ck != 0) = true := by simp [hz]
          have HQ : Sd (r.ck = (r.dst.ck, 3)) := ⟨by
            have := HP.out
            unfold Rul.ck
            rw [if_neg (by omega), if_neg (by omega), if_pos hz]⟩
          clear hz
          have ix : ∀ W, (Instr.index 157 (.agg #[.int .i64 r.src.ck, .int .i64 r.dst.ck, .int .i64 r.sp.ck, .int .i64 r.dp.ck, .int .i64 r.pr.ck]) (.int .i64 1)).run Try.prog W = .ok (.int .i64 r.dst.ck) W := fun _ => by kernel_rfl
          go_wp2
          go_ret2
          rw [HQ.out]
          exact ⟨rfl, beyond HWM.out HWW.out⟩
      · by_cases hz : r.sp.ck = 0
        · have ht : (r.sp.ck != 0) = false := by rw [hz]; rfl
          have HZ := Sd.mk hz
          clear hz
          have ix : ∀ W, (Instr.index 157 (.agg #[.int .i64 r.src.ck, .int .i64 r.dst.ck, .int .i64 r.sp.ck, .int .i64 r.dp.ck, .int .i64 r.pr.ck]) (.int .i64 2)).run Try.prog W = .ok (.int .i64 r.sp.ck) W := fun _ => by kernel_rfl
          go_wp2
          go_round
          case rel => exact ⟨3, by omega, by omega, rfl, ⟨by have := HP.out; have := HZ.out; omega⟩⟩
          case measure => decide
        · have ht : (r.sp.ck != 0) = true := by simp [hz]
          have HQ : Sd (r.ck = (r.sp.ck, 4)) := ⟨by
            have := HP.out
            unfold Rul.ck
            rw [if_neg (by omega), if_neg (by omega), if_neg (by omega), if_pos hz]⟩
          clear hz
          have ix : ∀ W, (Instr.index 157 (.agg #[.int .i64 r.src.ck, .int .i64 r.dst.ck, .int .i64 r.sp.ck, .int .i64 r.dp.ck, .int .i64 r.pr.ck]) (.int .i64 2)).run Try.prog W = .ok (.int .i64 r.sp.ck) W := fun _ => by kernel_rfl
          go_wp2
          go_ret2
          rw [HQ.out]
          exact ⟨rfl, beyond HWM.out HWW.out⟩
      · by_cases hz : r.dp.ck = 0
        · have ht : (r.dp.ck != 0) = false := by rw [hz]; rfl
          have HZ := Sd.mk hz
          clear hz
          have ix : ∀ W, (Instr.index 157 (.agg #[.int .i64 r.src.ck, .int .i64 r.dst.ck, .int .i64 r.sp.ck, .int .i64 r.dp.ck, .int .i64 r.pr.ck]) (.int .i64 3)).run Try.prog W = .ok (.int .i64 r.dp.ck) W := fun _ => by kernel_rfl
          go_wp2
          go_round
          case rel => exact ⟨4, by omega, by omega, rfl, ⟨by have := HP.out; have := HZ.out; omega⟩⟩
          case measure => decide
        · have ht : (r.dp.ck != 0) = true := by simp [hz]
          have HQ : Sd (r.ck = (r.dp.ck, 5)) := ⟨by
            have := HP.out
            unfold Rul.ck
            rw [if_neg (by omega), if_neg (by omega), if_neg (by omega), if_neg (by omega), if_pos hz]⟩
          clear hz
          have ix : ∀ W, (Instr.index 157 (.agg #[.int .i64 r.src.ck, .int .i64 r.dst.ck, .int .i64 r.sp.ck, .int .i64 r.dp.ck, .int .i64 r.pr.ck]) (.int .i64 3)).run Try.prog W = .ok (.int .i64 r.dp.ck) W := fun _ => by kernel_rfl
          go_wp2
          go_ret2
          rw [HQ.out]
          exact ⟨rfl, beyond HWM.out HWW.out⟩
      · by_cases hz : r.pr.ck = 0
        · have ht : (r.pr.ck != 0) = false := by rw [hz]; rfl
          have HZ := Sd.mk hz
          clear hz
          have ix : ∀ W, (Instr.index 157 (.agg #[.int .i64 r.src.ck, .int .i64 r.dst.ck, .int .i64 r.sp.ck, .int .i64 r.dp.ck, .int .i64 r.pr.ck]) (.int .i64 4)).run Try.prog W = .ok (.int .i64 r.pr.ck) W := fun _ => by kernel_rfl
          go_wp2
          go_round
          case rel => exact ⟨5, by omega, by omega, rfl, ⟨by have := HP.out; have := HZ.out; omega⟩⟩
          case measure => decide
        · have ht : (r.pr.ck != 0) = true := by simp [hz]
          have HQ : Sd (r.ck = (r.pr.ck, 6)) := ⟨by
            have := HP.out
            unfold Rul.ck
            rw [if_neg (by omega), if_neg (by omega), if_neg (by omega), if_neg (by omega), if_neg (by omega), if_pos hz]⟩
          clear hz
          have ix : ∀ W, (Instr.index 157 (.agg #[.int .i64 r.src.ck, .int .i64 r.dst.ck, .int .i64 r.sp.ck, .int .i64 r.dp.ck, .int .i64 r.pr.ck]) (.int .i64 4)).run Try.prog W = .ok (.int .i64 r.pr.ck) W := fun _ => by kernel_rfl
          go_wp2
          go_ret2
          rw [HQ.out]
          exact ⟨rfl, beyond HWM.out HWW.out⟩
      · have HZ := HP.out
        have hk : r.ck = if r.act = 1 ∨ r.act = 2 ∨ r.act = 3 ∨ r.act = 4 then (0, 0) else (81, 7) := by
          unfold Rul.ck
          rw [if_neg (by omega), if_neg (by omega), if_neg (by omega), if_neg (by omega), if_neg (by omega), if_neg (by omega)]
        have HKK := Sd.mk hk
        clear hk HZ HP
        by_cases a1 : r.act = 1
        · have HQ : Sd (r.ck = (0, 0)) := ⟨by rw [HKK.out, if_pos (by omega)]⟩
          have q1 : (r.act == 1) = true := by simp [a1]
          clear a1
          go_wp2
          go_ret2
          rw [HQ.out]
          exact ⟨rfl, beyond HWM.out HWW.out⟩
        have q1 : (r.act == 1) = false := by simp [a1]
        by_cases a2 : r.act = 2
        · have HQ : Sd (r.ck = (0, 0)) := ⟨by rw [HKK.out, if_pos (by omega)]⟩
          have q2 : (r.act == 2) = true := by simp [a2]
          clear a2
          go_wp2
          go_ret2
          rw [HQ.out]
          exact ⟨rfl, beyond HWM.out HWW.out⟩
        have q2 : (r.act == 2) = false := by simp [a2]
        by_cases a3 : r.act = 3
        · have HQ : Sd (r.ck = (0, 0)) := ⟨by rw [HKK.out, if_pos (by omega)]⟩
          have q3 : (r.act == 3) = true := by simp [a3]
          clear a3
          go_wp2
          go_ret2
          rw [HQ.out]
          exact ⟨rfl, beyond HWM.out HWW.out⟩
        have q3 : (r.act == 3) = false := by simp [a3]
        by_cases a4 : r.act = 4
        · have HQ : Sd (r.ck = (0, 0)) := ⟨by rw [HKK.out, if_pos (by omega)]⟩
          have q4 : (r.act == 4) = true := by simp [a4]
          clear a4
          go_wp2
          go_ret2
          rw [HQ.out]
          exact ⟨rfl, beyond HWM.out HWW.out⟩
        have q4 : (r.act == 4) = false := by simp [a4]
        have HQ : Sd (r.ck = (81, 7)) := ⟨by rw [HKK.out, if_neg (by omega)]⟩
        clear a1 a2 a3 a4
        go_wp2
        go_ret2
        rw [HQ.out]
        exact ⟨rfl, beyond HWM.out HWW.out⟩
  · have HQ : Sd (r.ck = (80, 1)) := ⟨by unfold Rul.ck; rw [if_pos (by omega)]⟩
    by_cases h1 : r.id < 1
    · clear h0
      go_enter Try.func64, Try.ntmps64
      go_wp2
      go_ret2
      rw [HQ.out]
      exact ⟨rfl, (Below.refl _ _).alloc (Nat.le_refl _) _⟩
    · have h2 : 999999 < r.id := by omega
      clear h0
      go_enter Try.func64, Try.ntmps64
      go_wp2
      go_ret2
      rw [HQ.out]
      exact ⟨rfl, (Below.refl _ _).alloc (Nat.le_refl _) _⟩
theorem ruleMay_any (r : Rul) (hw : r.Wf) (w : World) : Calls Try.prog 50 #[.agg #[.int .i64 r.id, .int .u32 r.src.a, .int .i64 r.src.n, .int .u32 r.dst.a, .int .i64 r.dst.n, .int .u16 r.sp.lo, .int .u16 r.sp.hi, .int .u16 r.dp.lo, .int .u16 r.dp.hi, .int .u8 r.pr.v, .int .u8 r.pr.c, .int .i64 r.act]] w fun e w' => e = .returned (.bool r.may) ∧ Below w.heap.size w w' := by
  have HK := Sd.mk (ruleCheck_any r hw)
  have HQ : Sd ((r.ck.1 == 0) = r.may) := ⟨rfl⟩
  go_enter Try.func50, Try.ntmps50
  go_wp2_with fail
  refine (HK.out _).mono ?_
  rintro e w1 ⟨rfl, hb⟩
  have HB := Sd.mk ((Below.refl _ _ |>.alloc (Nat.le_refl w.heap.size) _).trans (hb.mono (by simp)))
  clear hb
  go_wp2
  go_ret
  exact ⟨ret_bool HQ.out, HB.out⟩
end Go.Proofs.Ytljliopmphaoeaa
