/- What Run of prefixes, Match and Box of rules give back. -/
import Derived.Test.YtljliopmphaoeaaQ3
namespace Go.Proofs.Ytljliopmphaoeaa
open Go Go.RowKit Go.Proofs.Ytljliopmphaoeaa.Q

theorem xor_care (n : Int) : bits .xor .u32 ((4294967296 - free n : Nat) : Int) 4294967295 = ((free n - 1 : Nat) : Int) ∧ bits .xor .u32 IntKind.u32.max ((4294967296 - free n : Nat) : Int) = ((free n - 1 : Nat) : Int) := by
  have h1 := free_pos n
  have h2 := free_le n
  have key : (4294967296 - free n) ^^^ 4294967295 = free n - 1 := by
    unfold free at *
    apply Nat.eq_of_testBit_eq; intro i
    have e1 : 4294967296 - 2 ^ (32 - n.toNat) = 2 ^ 32 - ((2 ^ (32 - n.toNat) - 1) + 1) := by omega
    rw [Nat.testBit_xor, e1, Nat.testBit_two_pow_sub_succ (by omega), show 4294967295 = 2 ^ 32 - 1 from by decide, Nat.testBit_two_pow_sub_one, Nat.testBit_two_pow_sub_one]
    by_cases hi : i < 32 <;> by_cases hj : i < 32 - n.toNat <;> simp [hi, hj]
    omega
  constructor
  · rw [show (4294967295 : Int) = ((4294967295 : Nat) : Int) from rfl, u32_xor_nat _ _ (by omega) (by omega), key]
  · rw [show IntKind.u32.max = ((4294967295 : Nat) : Int) from by decide, u32_xor_nat _ _ (by omega) (by omega), Nat.xor_comm, key]
theorem or_care (a : Nat) (n : Int) (ha : a < 4294967296) (h : a % free n = 0) : bits .or .u32 (a : Int) ((free n - 1 : Nat) : Int) = ((a + (free n - 1) : Nat) : Int) := by
  have h1 := free_pos n
  have h2 := free_le n
  rw [u32_or_nat _ _ ha (by omega)]
  unfold free at *
  rw [or_low a _ h]
set_option maxHeartbeats 1000000 in
set_option maxRecDepth 100000 in
theorem pfxRun_ok (p : Pfx) (hw : p.Wf) (hc : p.ck = 0) (w : World) : Calls Try.prog 65 #[.agg #[.int .u32 p.a, .int .i64 p.n]] w fun e w' => e = .returned (.tuple #[.agg #[.int .u32 p.run.lo, .int .u32 p.run.hi], .int .i64 0]) ∧ Below w.heap.size w w' := by
  have K1 := pfxCheck_any p hw
  rw [hc] at K1
  have HK := Sd.mk K1
  obtain ⟨h0, h1, h2⟩ := p.ok_iff.1 hc
  have HR : Sd (p.run = ⟨p.a, p.a + (free p.n - 1)⟩) := ⟨by unfold Pfx.run; rw [if_pos hc]⟩
  have HO := Sd.mk (or_care p.a p.n hw.a h2)
  have HX := Sd.mk (xor_care p.n).2
  have HC := Sd.mk (fun W => care_any p.n h0 h1 W)
  clear hw hc h2 K1
  go_enter Try.func65, Try.ntmps65
  go_wp2_with fail
  refine (HK.out _).mono ?_
  rintro e w1 ⟨rfl, hb⟩
  have hB1 := ((Blk.new w #[.int .u32 p.a, .int .i64 p.n] 54).alloc (.cells #[.int .u32 0, .int .u32 0] 107)).below hb (by simp; omega)
  have hB2 := (blkN (X := w.alloc (.cells #[.int .u32 p.a, .int .i64 p.n] 54)) (N := w.heap.size + 1) (by simp) #[.int .u32 0, .int .u32 0] 107).below hb (by simp)
  have HWW : Sd (Below w.heap.size w w1) := ⟨(below_alloc (below_alloc (Below.refl _ _) _) _).trans (hb.mono (by simp; omega))⟩
  have p0 := hB1.cell (i := 0) rfl
  have p1 := hB1.cell (i := 1) rfl
  have r0 := hB2.cell (i := 0) rfl
  have r1 := hB2.cell (i := 1) rfl
  have rf := hB2.frozen
  have rl := hB2.lt
  clear hb hB1 hB2
  go_wp2
  refine wp_region_still_tail 10 (by kernel_rfl) (by kernel_rfl) ?_
  change wpStill _ _ w1.drew _ _ _
  simp only [List.take_succ_cons, List.take_zero, List.drop_succ_cons, List.drop_zero]
  repeat still_step
  still_call ((HC.out _).mono fun _ _ h => ⟨h.1, h.2.symm⟩)
  repeat still_step
  refine wpStill_nil ?_
  change wpList _ _ _ _ _ w1.drew
  go_wp2
  rw [HX.out, HO.out]
  rw [HR.out]
  refine bodyPost_ret (v := .tuple #[.agg #[.int .u32 p.a, .int .u32 ((p.a + (free p.n - 1) : Nat) : Int)], .int .i64 0]) (by simp [results, Try.results65, go_sem, *]) rfl ⟨rfl, ?_⟩
  exact (HWW.out.drew.setCell (by simp <;> omega) _).setCell (by simp <;> omega) _
/-- a rule and a header in memory, beyond a world -/
def RulHS (M : World) (B H : Nat) (r : Rul) (h : Hdr) (W : World) : Prop := Below M.heap.size M W ∧ W.cell? ⟨B, 0, none⟩ = some (.int .i64 r.id) ∧ W.cell? ⟨B, 1, none⟩ = some (.int .u32 r.src.a) ∧ W.cell? ⟨B, 2, none⟩ = some (.int .i64 r.src.n) ∧ W.cell? ⟨B, 3, none⟩ = some (.int .u32 r.dst.a) ∧ W.cell? ⟨B, 4, none⟩ = some (.int .i64 r.dst.n) ∧ W.cell? ⟨B, 5, none⟩ = some (.int .u16 r.sp.lo) ∧ W.cell? ⟨B, 6, none⟩ = some (.int .u16 r.sp.hi) ∧ W.cell? ⟨B, 7, none⟩ = some (.int .u16 r.dp.lo) ∧ W.cell? ⟨B, 8, none⟩ = some (.int .u16 r.dp.hi) ∧ W.cell? ⟨B, 9, none⟩ = some (.int .u8 r.pr.v) ∧ W.cell? ⟨B, 10, none⟩ = some (.int .u8 r.pr.c) ∧ W.cell? ⟨B, 11, none⟩ = some (.int .i64 r.act) ∧ W.cell? ⟨H, 0, none⟩ = some (.int .u32 h.src) ∧ W.cell? ⟨H, 1, none⟩ = some (.int .u32 h.dst) ∧ W.cell? ⟨H, 2, none⟩ = some (.int .u16 h.sp) ∧ W.cell? ⟨H, 3, none⟩ = some (.int .u16 h.dp) ∧ W.cell? ⟨H, 4, none⟩ = some (.int .u8 h.pr)
theorem rulHS {M : World} {B H : Nat} {r : Rul} {h : Hdr} (hB : Blk M B #[.int .i64 r.id, .int .u32 r.src.a, .int .i64 r.src.n, .int .u32 r.dst.a, .int .i64 r.dst.n, .int .u16 r.sp.lo, .int .u16 r.sp.hi, .int .u16 r.dp.lo, .int .u16 r.dp.hi, .int .u8 r.pr.v, .int .u8 r.pr.c, .int .i64 r.act] 60) (hH : Blk M H #[.int .u32 h.src, .int .u32 h.dst, .int .u16 h.sp, .int .u16 h.dp, .int .u8 h.pr] 28) (W : World) (hW : Below M.heap.size M W) : RulHS M B H r h W := by
  have k := hB.below hW hB.lt
  have l := hH.below hW hH.lt
  exact ⟨hW, k.cell (i := 0) rfl, k.cell (i := 1) rfl, k.cell (i := 2) rfl, k.cell (i := 3) rfl, k.cell (i := 4) rfl, k.cell (i := 5) rfl, k.cell (i := 6) rfl, k.cell (i := 7) rfl, k.cell (i := 8) rfl, k.cell (i := 9) rfl, k.cell (i := 10) rfl, k.cell (i := 11) rfl, l.cell (i := 0) rfl, l.cell (i := 1) rfl, l.cell (i := 2) rfl, l.cell (i := 3) rfl, l.cell (i := 4) rfl⟩
set_option maxHeartbeats 1000000 in
theorem ruleMatch_0 (r : Rul) (hw : r.Wf) (h : Hdr) (hh : h.Wf) (w : World)  (b0 : r.may = false) : Calls Try.prog 27 #[.agg #[.int .i64 r.id, .int .u32 r.src.a, .int .i64 r.src.n, .int .u32 r.dst.a, .int .i64 r.dst.n, .int .u16 r.sp.lo, .int .u16 r.sp.hi, .int .u16 r.dp.lo, .int .u16 r.dp.hi, .int .u8 r.pr.v, .int .u8 r.pr.c, .int .i64 r.act], .agg #[.int .u32 h.src, .int .u32 h.dst, .int .u16 h.sp, .int .u16 h.dp, .int .u8 h.pr]] w fun e w' => e = .returned (.bool false) ∧ Below w.heap.size w w' := by
  have K0 := ruleMay_any r hw
  rw [b0] at K0
  have K1 := pfxHas_any r.src hw.src h.src hh.src
  have K2 := pfxHas_any r.dst hw.dst h.dst hh.dst
  have K3 := spnHas_any r.sp h.sp
  have K4 := spnHas_any r.dp h.dp
  have K5 := mskHas_any r.pr hw.pr h.pr hh.pr
  obtain ⟨M, hM⟩ : ∃ M, M = (w.alloc (.cells #[.int .i64 r.id, .int .u32 r.src.a, .int .i64 r.src.n, .int .u32 r.dst.a, .int .i64 r.dst.n, .int .u16 r.sp.lo, .int .u16 r.sp.hi, .int .u16 r.dp.lo, .int .u16 r.dp.hi, .int .u8 r.pr.v, .int .u8 r.pr.c, .int .i64 r.act] 60)).alloc (.cells #[.int .u32 h.src, .int .u32 h.dst, .int .u16 h.sp, .int .u16 h.dp, .int .u8 h.pr] 28) := ⟨_, rfl⟩
  have HWM : Sd (Below w.heap.size w M) := ⟨by rw [hM]; exact below_alloc (below_alloc (Below.refl _ _) _) _⟩
  have KS := rulHS (M := M) (B := w.heap.size) (H := w.heap.size + 1) (r := r) (h := h) (by rw [hM]; exact (Blk.new _ _ _).alloc _) (by rw [hM]; exact blkN (by simp) _ _)
  have H0 := Sd.mk (heldS (fun _ h => h.1) KS K0)
  have HKS := Sd.mk KS
  have HMM := Sd.mk hM
  clear hM KS K0 K1 K2 K3 K4 K5 b0 hw hh
  go_enter Try.func27, Try.ntmps27
  go_upto_region 1 with fail
  rw [show (w.alloc (.cells #[.int .i64 r.id, .int .u32 r.src.a, .int .i64 r.src.n, .int .u32 r.dst.a, .int .i64 r.dst.n, .int .u16 r.sp.lo, .int .u16 r.sp.hi, .int .u16 r.dp.lo, .int .u16 r.dp.hi, .int .u8 r.pr.v, .int .u8 r.pr.c, .int .i64 r.act] 60)).alloc (.cells #[.int .u32 h.src, .int .u32 h.dst, .int .u16 h.sp, .int .u16 h.dp, .int .u8 h.pr] 28) = M from HMM.out.symm]
  refine wp_region_listC (C := RulHS M w.heap.size (w.heap.size + 1) r h) (HKS.out _ (Below.refl _ _)) ?_
  repeat (first
    | go_big_quiet_skip
    | (go_big_quiet_want
       first
         | (refine quiet_run ?_
            apply Exists.intro
            refine ⟨fun w hw => ?_, ?_⟩
            · ((unfold RulHS at hw); go_split_ands; go_simp; (try with_reducible rfl))
            go_big_quiet_on
            try simp only [Act.put, List.setIfInBounds_toArray, List.set_cons_zero, List.set_cons_succ])
         | (apply Exists.intro
            refine ⟨fun w hw => ?_, ?_⟩
            · (unfold Oper.quietAt; go_simp; first | (with_reducible exact H0.out _ hw))
            go_big_quiet_on
            try simp only [Act.put, List.setIfInBounds_toArray, List.set_cons_zero, List.set_cons_succ])))
  refine wpQuiet_nil ?_
  intro W hW
  have HWW : Sd (Below w.heap.size w W) := ⟨beyond HWM.out hW.1⟩
  clear hW
  go_wp2
  go_ret
  exact ⟨rfl, HWW.out⟩
set_option maxHeartbeats 1000000 in
theorem ruleMatch_1 (r : Rul) (hw : r.Wf) (h : Hdr) (hh : h.Wf) (w : World) (b0 : r.may = true) (b1 : r.src.has h.src = false) : Calls Try.prog 27 #[.agg #[.int .i64 r.id, .int .u32 r.src.a, .int .i64 r.src.n, .int .u32 r.dst.a, .int .i64 r.dst.n, .int .u16 r.sp.lo, .int .u16 r.sp.hi, .int .u16 r.dp.lo, .int .u16 r.dp.hi, .int .u8 r.pr.v, .int .u8 r.pr.c, .int .i64 r.act], .agg #[.int .u32 h.src, .int .u32 h.dst, .int .u16 h.sp, .int .u16 h.dp, .int .u8 h.pr]] w fun e w' => e = .returned (.bool false) ∧ Below w.heap.size w w' := by
  have K0 := ruleMay_any r hw
  rw [b0] at K0
  have K1 := pfxHas_any r.src hw.src h.src hh.src
  rw [b1] at K1
  have K2 := pfxHas_any r.dst hw.dst h.dst hh.dst
  have K3 := spnHas_any r.sp h.sp
  have K4 := spnHas_any r.dp h.dp
  have K5 := mskHas_any r.pr hw.pr h.pr hh.pr
  obtain ⟨M, hM⟩ : ∃ M, M = (w.alloc (.cells #[.int .i64 r.id, .int .u32 r.src.a, .int .i64 r.src.n, .int .u32 r.dst.a, .int .i64 r.dst.n, .int .u16 r.sp.lo, .int .u16 r.sp.hi, .int .u16 r.dp.lo, .int .u16 r.dp.hi, .int .u8 r.pr.v, .int .u8 r.pr.c, .int .i64 r.act] 60)).alloc (.cells #[.int .u32 h.src, .int .u32 h.dst, .int .u16 h.sp, .int .u16 h.dp, .int .u8 h.pr] 28) := ⟨_, rfl⟩
  have HWM : Sd (Below w.heap.size w M) := ⟨by rw [hM]; exact below_alloc (below_alloc (Below.refl _ _) _) _⟩
  have KS := rulHS (M := M) (B := w.heap.size) (H := w.heap.size + 1) (r := r) (h := h) (by rw [hM]; exact (Blk.new _ _ _).alloc _) (by rw [hM]; exact blkN (by simp) _ _)
  have H0 := Sd.mk (heldS (fun _ h => h.1) KS K0)
  have H1 := Sd.mk (heldS (fun _ h => h.1) KS K1)
  have HKS := Sd.mk KS
  have HMM := Sd.mk hM
  clear hM KS K0 K1 K2 K3 K4 K5 b0 b1 hw hh
  go_enter Try.func27, Try.ntmps27
  go_upto_region 1 with fail
  rw [show (w.alloc (.cells #[.int .i64 r.id, .int .u32 r.src.a, .int .i64 r.src.n, .int .u32 r.dst.a, .int .i64 r.dst.n, .int .u16 r.sp.lo, .int .u16 r.sp.hi, .int .u16 r.dp.lo, .int .u16 r.dp.hi, .int .u8 r.pr.v, .int .u8 r.pr.c, .int .i64 r.act] 60)).alloc (.cells #[.int .u32 h.src, .int .u32 h.dst, .int .u16 h.sp, .int .u16 h.dp, .int .u8 h.pr] 28) = M from HMM.out.symm]
  refine wp_region_listC (C := RulHS M w.heap.size (w.heap.size + 1) r h) (HKS.out _ (Below.refl _ _)) ?_
  repeat (first
    | go_big_quiet_skip
    | (go_big_quiet_want
       first
         | (refine quiet_run ?_
            apply Exists.intro
            refine ⟨fun w hw => ?_, ?_⟩
            · ((unfold RulHS at hw); go_split_ands; go_simp; (try with_reducible rfl))
            go_big_quiet_on
            try simp only [Act.put, List.setIfInBounds_toArray, List.set_cons_zero, List.set_cons_succ])
         | (apply Exists.intro
            refine ⟨fun w hw => ?_, ?_⟩
            · (unfold Oper.quietAt; go_simp; first | (with_reducible exact H0.out _ hw) | (with_reducible exact H1.out _ hw))
            go_big_quiet_on
            try simp only [Act.put, List.setIfInBounds_toArray, List.set_cons_zero, List.set_cons_succ])))
  refine wpQuiet_nil ?_
  intro W hW
  have HWW : Sd (Below w.heap.size w W) := ⟨beyond HWM.out hW.1⟩
  clear hW
  go_wp2
  go_ret
  exact ⟨rfl, HWW.out⟩
set_option maxHeartbeats 1000000 in
theorem ruleMatch_2 (r : Rul) (hw : r.Wf) (h : Hdr) (hh : h.Wf) (w : World) (b0 : r.may = true) (b1 : r.src.has h.src = true) (b2 : r.dst.has h.dst = false) : Calls Try.prog 27 #[.agg #[.int .i64 r.id, .int .u32 r.src.a, .int .i64 r.src.n, .int .u32 r.dst.a, .int .i64 r.dst.n, .int .u16 r.sp.lo, .int .u16 r.sp.hi, .int .u16 r.dp.lo, .int .u16 r.dp.hi, .int .u8 r.pr.v, .int .u8 r.pr.c, .int .i64 r.act], .agg #[.int .u32 h.src, .int .u32 h.dst, .int .u16 h.sp, .int .u16 h.dp, .int .u8 h.pr]] w fun e w' => e = .returned (.bool false) ∧ Below w.heap.size w w' := by
  have K0 := ruleMay_any r hw
  rw [b0] at K0
  have K1 := pfxHas_any r.src hw.src h.src hh.src
  rw [b1] at K1
  have K2 := pfxHas_any r.dst hw.dst h.dst hh.dst
  rw [b2] at K2
  have K3 := spnHas_any r.sp h.sp
  have K4 := spnHas_any r.dp h.dp
  have K5 := mskHas_any r.pr hw.pr h.pr hh.pr
  obtain ⟨M, hM⟩ : ∃ M, M = (w.alloc (.cells #[.int .i64 r.id, .int .u32 r.src.a, .int .i64 r.src.n, .int .u32 r.dst.a, .int .i64 r.dst.n, .int .u16 r.sp.lo, .int .u16 r.sp.hi, .int .u16 r.dp.lo, .int .u16 r.dp.hi, .int .u8 r.pr.v, .int .u8 r.pr.c, .int .i64 r.act] 60)).alloc (.cells #[.int .u32 h.src, .int .u32 h.dst, .int .u16 h.sp, .int .u16 h.dp, .int .u8 h.pr] 28) := ⟨_, rfl⟩
  have HWM : Sd (Below w.heap.size w M) := ⟨by rw [hM]; exact below_alloc (below_alloc (Below.refl _ _) _) _⟩
  have KS := rulHS (M := M) (B := w.heap.size) (H := w.heap.size + 1) (r := r) (h := h) (by rw [hM]; exact (Blk.new _ _ _).alloc _) (by rw [hM]; exact blkN (by simp) _ _)
  have H0 := Sd.mk (heldS (fun _ h => h.1) KS K0)
  have H1 := Sd.mk (heldS (fun _ h => h.1) KS K1)
  have H2 := Sd.mk (heldS (fun _ h => h.1) KS K2)
  have HKS := Sd.mk KS
  have HMM := Sd.mk hM
  clear hM KS K0 K1 K2 K3 K4 K5 b0 b1 b2 hw hh
  go_enter Try.func27, Try.ntmps27
  go_upto_region 1 with fail
  rw [show (w.alloc (.cells #[.int .i64 r.id, .int .u32 r.src.a, .int .i64 r.src.n, .int .u32 r.dst.a, .int .i64 r.dst.n, .int .u16 r.sp.lo, .int .u16 r.sp.hi, .int .u16 r.dp.lo, .int .u16 r.dp.hi, .int .u8 r.pr.v, .int .u8 r.pr.c, .int .i64 r.act] 60)).alloc (.cells #[.int .u32 h.src, .int .u32 h.dst, .int .u16 h.sp, .int .u16 h.dp, .int .u8 h.pr] 28) = M from HMM.out.symm]
  refine wp_region_listC (C := RulHS M w.heap.size (w.heap.size + 1) r h) (HKS.out _ (Below.refl _ _)) ?_
  repeat (first
    | go_big_quiet_skip
    | (go_big_quiet_want
       first
         | (refine quiet_run ?_
            apply Exists.intro
            refine ⟨fun w hw => ?_, ?_⟩
            · ((unfold RulHS at hw); go_split_ands; go_simp; (try with_reducible rfl))
            go_big_quiet_on
            try simp only [Act.put, List.setIfInBounds_toArray, List.set_cons_zero, List.set_cons_succ])
         | (apply Exists.intro
            refine ⟨fun w hw => ?_, ?_⟩
            · (unfold Oper.quietAt; go_simp; first | (with_reducible exact H0.out _ hw) | (with_reducible exact H1.out _ hw) | (with_reducible exact H2.out _ hw))
            go_big_quiet_on
            try simp only [Act.put, List.setIfInBounds_toArray, List.set_cons_zero, List.set_cons_succ])))
  refine wpQuiet_nil ?_
  intro W hW
  have HWW : Sd (Below w.heap.size w W) := ⟨beyond HWM.out hW.1⟩
  clear hW
  go_wp2
  go_ret
  exact ⟨rfl, HWW.out⟩
set_option maxHeartbeats 1000000 in
theorem ruleMatch_3 (r : Rul) (hw : r.Wf) (h : Hdr) (hh : h.Wf) (w : World) (b0 : r.may = true) (b1 : r.src.has h.src = true) (b2 : r.dst.has h.dst = true) (b3 : r.sp.has h.sp = false) : Calls Try.prog 27 #[.agg #[.int .i64 r.id, .int .u32 r.src.a, .int .i64 r.src.n, .int .u32 r.dst.a, .int .i64 r.dst.n, .int .u16 r.sp.lo, .int .u16 r.sp.hi, .int .u16 r.dp.lo, .int .u16 r.dp.hi, .int .u8 r.pr.v, .int .u8 r.pr.c, .int .i64 r.act], .agg #[.int .u32 h.src, .int .u32 h.dst, .int .u16 h.sp, .int .u16 h.dp, .int .u8 h.pr]] w fun e w' => e = .returned (.bool false) ∧ Below w.heap.size w w' := by
  have K0 := ruleMay_any r hw
  rw [b0] at K0
  have K1 := pfxHas_any r.src hw.src h.src hh.src
  rw [b1] at K1
  have K2 := pfxHas_any r.dst hw.dst h.dst hh.dst
  rw [b2] at K2
  have K3 := spnHas_any r.sp h.sp
  rw [b3] at K3
  have K4 := spnHas_any r.dp h.dp
  have K5 := mskHas_any r.pr hw.pr h.pr hh.pr
  obtain ⟨M, hM⟩ : ∃ M, M = (w.alloc (.cells #[.int .i64 r.id, .int .u32 r.src.a, .int .i64 r.src.n, .int .u32 r.dst.a, .int .i64 r.dst.n, .int .u16 r.sp.lo, .int .u16 r.sp.hi, .int .u16 r.dp.lo, .int .u16 r.dp.hi, .int .u8 r.pr.v, .int .u8 r.pr.c, .int .i64 r.act] 60)).alloc (.cells #[.int .u32 h.src, .int .u32 h.dst, .int .u16 h.sp, .int .u16 h.dp, .int .u8 h.pr] 28) := ⟨_, rfl⟩
  have HWM : Sd (Below w.heap.size w M) := ⟨by rw [hM]; exact below_alloc (below_alloc (Below.refl _ _) _) _⟩
  have KS := rulHS (M := M) (B := w.heap.size) (H := w.heap.size + 1) (r := r) (h := h) (by rw [hM]; exact (Blk.new _ _ _).alloc _) (by rw [hM]; exact blkN (by simp) _ _)
  have H0 := Sd.mk (heldS (fun _ h => h.1) KS K0)
  have H1 := Sd.mk (heldS (fun _ h => h.1) KS K1)
  have H2 := Sd.mk (heldS (fun _ h => h.1) KS K2)
  have H3 := Sd.mk (heldS (fun _ h => h.1) KS K3)
  have HKS := Sd.mk KS
  have HMM := Sd.mk hM
  clear hM KS K0 K1 K2 K3 K4 K5 b0 b1 b2 b3 hw hh
  go_enter Try.func27, Try.ntmps27
  go_upto_region 1 with fail
  rw [show (w.alloc (.cells #[.int .i64 r.id, .int .u32 r.src.a, .int .i64 r.src.n, .int .u32 r.dst.a, .int .i64 r.dst.n, .int .u16 r.sp.lo, .int .u16 r.sp.hi, .int .u16 r.dp.lo, .int .u16 r.dp.hi, .int .u8 r.pr.v, .int .u8 r.pr.c, .int .i64 r.act] 60)).alloc (.cells #[.int .u32 h.src, .int .u32 h.dst, .int .u16 h.sp, .int .u16 h.dp, .int .u8 h.pr] 28) = M from HMM.out.symm]
  refine wp_region_listC (C := RulHS M w.heap.size (w.heap.size + 1) r h) (HKS.out _ (Below.refl _ _)) ?_
  repeat (first
    | go_big_quiet_skip
    | (go_big_quiet_want
       first
         | (refine quiet_run ?_
            apply Exists.intro
            refine ⟨fun w hw => ?_, ?_⟩
            · ((unfold RulHS at hw); go_split_ands; go_simp; (try with_reducible rfl))
            go_big_quiet_on
            try simp only [Act.put, List.setIfInBounds_toArray, List.set_cons_zero, List.set_cons_succ])
         | (apply Exists.intro
            refine ⟨fun w hw => ?_, ?_⟩
            · (unfold Oper.quietAt; go_simp; first | (with_reducible exact H0.out _ hw) | (with_reducible exact H1.out _ hw) | (with_reducible exact H2.out _ hw) | (with_reducible exact H3.out _ hw))
            go_big_quiet_on
            try simp only [Act.put, List.setIfInBounds_toArray, List.set_cons_zero, List.set_cons_succ])))
  refine wpQuiet_nil ?_
  intro W hW
  have HWW : Sd (Below w.heap.size w W) := ⟨beyond HWM.out hW.1⟩
  clear hW
  go_wp2
  go_ret
  exact ⟨rfl, HWW.out⟩
set_option maxHeartbeats 1000000 in
theorem ruleMatch_4 (r : Rul) (hw : r.Wf) (h : Hdr) (hh : h.Wf) (w : World) (b0 : r.may = true) (b1 : r.src.has h.src = true) (b2 : r.dst.has h.dst = true) (b3 : r.sp.has h.sp = true) (b4 : r.dp.has h.dp = false) : Calls Try.prog 27 #[.agg #[.int .i64 r.id, .int .u32 r.src.a, .int .i64 r.src.n, .int .u32 r.dst.a, .int .i64 r.dst.n, .int .u16 r.sp.lo, .int .u16 r.sp.hi, .int .u16 r.dp.lo, .int .u16 r.dp.hi, .int .u8 r.pr.v, .int .u8 r.pr.c, .int .i64 r.act], .agg #[.int .u32 h.src, .int .u32 h.dst, .int .u16 h.sp, .int .u16 h.dp, .int .u8 h.pr]] w fun e w' => e = .returned (.bool false) ∧ Below w.heap.size w w' := by
  have K0 := ruleMay_any r hw
  rw [b0] at K0
  have K1 := pfxHas_any r.src hw.src h.src hh.src
  rw [b1] at K1
  have K2 := pfxHas_any r.dst hw.dst h.dst hh.dst
  rw [b2] at K2
  have K3 := spnHas_any r.sp h.sp
  rw [b3] at K3
  have K4 := spnHas_any r.dp h.dp
  rw [b4] at K4
  have K5 := mskHas_any r.pr hw.pr h.pr hh.pr
  obtain ⟨M, hM⟩ : ∃ M, M = (w.alloc (.cells #[.int .i64 r.id, .int .u32 r.src.a, .int .i64 r.src.n, .int .u32 r.dst.a, .int .i64 r.dst.n, .int .u16 r.sp.lo, .int .u16 r.sp.hi, .int .u16 r.dp.lo, .int .u16 r.dp.hi, .int .u8 r.pr.v, .int .u8 r.pr.c, .int .i64 r.act] 60)).alloc (.cells #[.int .u32 h.src, .int .u32 h.dst, .int .u16 h.sp, .int .u16 h.dp, .int .u8 h.pr] 28) := ⟨_, rfl⟩
  have HWM : Sd (Below w.heap.size w M) := ⟨by rw [hM]; exact below_alloc (below_alloc (Below.refl _ _) _) _⟩
  have KS := rulHS (M := M) (B := w.heap.size) (H := w.heap.size + 1) (r := r) (h := h) (by rw [hM]; exact (Blk.new _ _ _).alloc _) (by rw [hM]; exact blkN (by simp) _ _)
  have H0 := Sd.mk (heldS (fun _ h => h.1) KS K0)
  have H1 := Sd.mk (heldS (fun _ h => h.1) KS K1)
  have H2 := Sd.mk (heldS (fun _ h => h.1) KS K2)
  have H3 := Sd.mk (heldS (fun _ h => h.1) KS K3)
  have H4 := Sd.mk (heldS (fun _ h => h.1) KS K4)
  have HKS := Sd.mk KS
  have HMM := Sd.mk hM
  clear hM KS K0 K1 K2 K3 K4 K5 b0 b1 b2 b3 b4 hw hh
  go_enter Try.func27, Try.ntmps27
  go_upto_region 1 with fail
  rw [show (w.alloc (.cells #[.int .i64 r.id, .int .u32 r.src.a, .int .i64 r.src.n, .int .u32 r.dst.a, .int .i64 r.dst.n, .int .u16 r.sp.lo, .int .u16 r.sp.hi, .int .u16 r.dp.lo, .int .u16 r.dp.hi, .int .u8 r.pr.v, .int .u8 r.pr.c, .int .i64 r.act] 60)).alloc (.cells #[.int .u32 h.src, .int .u32 h.dst, .int .u16 h.sp, .int .u16 h.dp, .int .u8 h.pr] 28) = M from HMM.out.symm]
  refine wp_region_listC (C := RulHS M w.heap.size (w.heap.size + 1) r h) (HKS.out _ (Below.refl _ _)) ?_
  repeat (first
    | go_big_quiet_skip
    | (go_big_quiet_want
       first
         | (refine quiet_run ?_
            apply Exists.intro
            refine ⟨fun w hw => ?_, ?_⟩
            · ((unfold RulHS at hw); go_split_ands; go_simp; (try with_reducible rfl))
            go_big_quiet_on
            try simp only [Act.put, List.setIfInBounds_toArray, List.set_cons_zero, List.set_cons_succ])
         | (apply Exists.intro
            refine ⟨fun w hw => ?_, ?_⟩
            · (unfold Oper.quietAt; go_simp; first | (with_reducible exact H0.out _ hw) | (with_reducible exact H1.out _ hw) | (with_reducible exact H2.out _ hw) | (with_reducible exact H3.out _ hw) | (with_reducible exact H4.out _ hw))
            go_big_quiet_on
            try simp only [Act.put, List.setIfInBounds_toArray, List.set_cons_zero, List.set_cons_succ])))
  refine wpQuiet_nil ?_
  intro W hW
  have HWW : Sd (Below w.heap.size w W) := ⟨beyond HWM.out hW.1⟩
  clear hW
  go_wp2
  go_ret
  exact ⟨rfl, HWW.out⟩
set_option maxHeartbeats 1000000 in
theorem ruleMatch_5 (r : Rul) (hw : r.Wf) (h : Hdr) (hh : h.Wf) (w : World) (b0 : r.may = true) (b1 : r.src.has h.src = true) (b2 : r.dst.has h.dst = true) (b3 : r.sp.has h.sp = true) (b4 : r.dp.has h.dp = true) (b5 : r.pr.has h.pr = false) : Calls Try.prog 27 #[.agg #[.int .i64 r.id, .int .u32 r.src.a, .int .i64 r.src.n, .int .u32 r.dst.a, .int .i64 r.dst.n, .int .u16 r.sp.lo, .int .u16 r.sp.hi, .int .u16 r.dp.lo, .int .u16 r.dp.hi, .int .u8 r.pr.v, .int .u8 r.pr.c, .int .i64 r.act], .agg #[.int .u32 h.src, .int .u32 h.dst, .int .u16 h.sp, .int .u16 h.dp, .int .u8 h.pr]] w fun e w' => e = .returned (.bool false) ∧ Below w.heap.size w w' := by
  have K0 := ruleMay_any r hw
  rw [b0] at K0
  have K1 := pfxHas_any r.src hw.src h.src hh.src
  rw [b1] at K1
  have K2 := pfxHas_any r.dst hw.dst h.dst hh.dst
  rw [b2] at K2
  have K3 := spnHas_any r.sp h.sp
  rw [b3] at K3
  have K4 := spnHas_any r.dp h.dp
  rw [b4] at K4
  have K5 := mskHas_any r.pr hw.pr h.pr hh.pr
  rw [b5] at K5
  obtain ⟨M, hM⟩ : ∃ M, M = (w.alloc (.cells #[.int .i64 r.id, .int .u32 r.src.a, .int .i64 r.src.n, .int .u32 r.dst.a, .int .i64 r.dst.n, .int .u16 r.sp.lo, .int .u16 r.sp.hi, .int .u16 r.dp.lo, .int .u16 r.dp.hi, .int .u8 r.pr.v, .int .u8 r.pr.c, .int .i64 r.act] 60)).alloc (.cells #[.int .u32 h.src, .int .u32 h.dst, .int .u16 h.sp, .int .u16 h.dp, .int .u8 h.pr] 28) := ⟨_, rfl⟩
  have HWM : Sd (Below w.heap.size w M) := ⟨by rw [hM]; exact below_alloc (below_alloc (Below.refl _ _) _) _⟩
  have KS := rulHS (M := M) (B := w.heap.size) (H := w.heap.size + 1) (r := r) (h := h) (by rw [hM]; exact (Blk.new _ _ _).alloc _) (by rw [hM]; exact blkN (by simp) _ _)
  have H0 := Sd.mk (heldS (fun _ h => h.1) KS K0)
  have H1 := Sd.mk (heldS (fun _ h => h.1) KS K1)
  have H2 := Sd.mk (heldS (fun _ h => h.1) KS K2)
  have H3 := Sd.mk (heldS (fun _ h => h.1) KS K3)
  have H4 := Sd.mk (heldS (fun _ h => h.1) KS K4)
  have H5 := Sd.mk (heldS (fun _ h => h.1) KS K5)
  have HKS := Sd.mk KS
  have HMM := Sd.mk hM
  clear hM KS K0 K1 K2 K3 K4 K5 b0 b1 b2 b3 b4 b5 hw hh
  go_enter Try.func27, Try.ntmps27
  go_upto_region 1 with fail
  rw [show (w.alloc (.cells #[.int .i64 r.id, .int .u32 r.src.a, .int .i64 r.src.n, .int .u32 r.dst.a, .int .i64 r.dst.n, .int .u16 r.sp.lo, .int .u16 r.sp.hi, .int .u16 r.dp.lo, .int .u16 r.dp.hi, .int .u8 r.pr.v, .int .u8 r.pr.c, .int .i64 r.act] 60)).alloc (.cells #[.int .u32 h.src, .int .u32 h.dst, .int .u16 h.sp, .int .u16 h.dp, .int .u8 h.pr] 28) = M from HMM.out.symm]
  refine wp_region_listC (C := RulHS M w.heap.size (w.heap.size + 1) r h) (HKS.out _ (Below.refl _ _)) ?_
  repeat (first
    | go_big_quiet_skip
    | (go_big_quiet_want
       first
         | (refine quiet_run ?_
            apply Exists.intro
            refine ⟨fun w hw => ?_, ?_⟩
            · ((unfold RulHS at hw); go_split_ands; go_simp; (try with_reducible rfl))
            go_big_quiet_on
            try simp only [Act.put, List.setIfInBounds_toArray, List.set_cons_zero, List.set_cons_succ])
         | (apply Exists.intro
            refine ⟨fun w hw => ?_, ?_⟩
            · (unfold Oper.quietAt; go_simp; first | (with_reducible exact H0.out _ hw) | (with_reducible exact H1.out _ hw) | (with_reducible exact H2.out _ hw) | (with_reducible exact H3.out _ hw) | (with_reducible exact H4.out _ hw) | (with_reducible exact H5.out _ hw))
            go_big_quiet_on
            try simp only [Act.put, List.setIfInBounds_toArray, List.set_cons_zero, List.set_cons_succ])))
  refine wpQuiet_nil ?_
  intro W hW
  have HWW : Sd (Below w.heap.size w W) := ⟨beyond HWM.out hW.1⟩
  clear hW
  go_wp2
  go_ret
  exact ⟨rfl, HWW.out⟩
set_option maxHeartbeats 1000000 in
theorem ruleMatch_6 (r : Rul) (hw : r.Wf) (h : Hdr) (hh : h.Wf) (w : World) (b0 : r.may = true) (b1 : r.src.has h.src = true) (b2 : r.dst.has h.dst = true) (b3 : r.sp.has h.sp = true) (b4 : r.dp.has h.dp = true) (b5 : r.pr.has h.pr = true) : Calls Try.prog 27 #[.agg #[.int .i64 r.id, .int .u32 r.src.a, .int .i64 r.src.n, .int .u32 r.dst.a, .int .i64 r.dst.n, .int .u16 r.sp.lo, .int .u16 r.sp.hi, .int .u16 r.dp.lo, .int .u16 r.dp.hi, .int .u8 r.pr.v, .int .u8 r.pr.c, .int .i64 r.act], .agg #[.int .u32 h.src, .int .u32 h.dst, .int .u16 h.sp, .int .u16 h.dp, .int .u8 h.pr]] w fun e w' => e = .returned (.bool true) ∧ Below w.heap.size w w' := by
  have K0 := ruleMay_any r hw
  rw [b0] at K0
  have K1 := pfxHas_any r.src hw.src h.src hh.src
  rw [b1] at K1
  have K2 := pfxHas_any r.dst hw.dst h.dst hh.dst
  rw [b2] at K2
  have K3 := spnHas_any r.sp h.sp
  rw [b3] at K3
  have K4 := spnHas_any r.dp h.dp
  rw [b4] at K4
  have K5 := mskHas_any r.pr hw.pr h.pr hh.pr
  rw [b5] at K5
  obtain ⟨M, hM⟩ : ∃ M, M = (w.alloc (.cells #[.int .i64 r.id, .int .u32 r.src.a, .int .i64 r.src.n, .int .u32 r.dst.a, .int .i64 r.dst.n, .int .u16 r.sp.lo, .int .u16 r.sp.hi, .int .u16 r.dp.lo, .int .u16 r.dp.hi, .int .u8 r.pr.v, .int .u8 r.pr.c, .int .i64 r.act] 60)).alloc (.cells #[.int .u32 h.src, .int .u32 h.dst, .int .u16 h.sp, .int .u16 h.dp, .int .u8 h.pr] 28) := ⟨_, rfl⟩
  have HWM : Sd (Below w.heap.size w M) := ⟨by rw [hM]; exact below_alloc (below_alloc (Below.refl _ _) _) _⟩
  have KS := rulHS (M := M) (B := w.heap.size) (H := w.heap.size + 1) (r := r) (h := h) (by rw [hM]; exact (Blk.new _ _ _).alloc _) (by rw [hM]; exact blkN (by simp) _ _)
  have H0 := Sd.mk (heldS (fun _ h => h.1) KS K0)
  have H1 := Sd.mk (heldS (fun _ h => h.1) KS K1)
  have H2 := Sd.mk (heldS (fun _ h => h.1) KS K2)
  have H3 := Sd.mk (heldS (fun _ h => h.1) KS K3)
  have H4 := Sd.mk (heldS (fun _ h => h.1) KS K4)
  have H5 := Sd.mk (heldS (fun _ h => h.1) KS K5)
  have HKS := Sd.mk KS
  have HMM := Sd.mk hM
  clear hM KS K0 K1 K2 K3 K4 K5 b0 b1 b2 b3 b4 b5 hw hh
  go_enter Try.func27, Try.ntmps27
  go_upto_region 1 with fail
  rw [show (w.alloc (.cells #[.int .i64 r.id, .int .u32 r.src.a, .int .i64 r.src.n, .int .u32 r.dst.a, .int .i64 r.dst.n, .int .u16 r.sp.lo, .int .u16 r.sp.hi, .int .u16 r.dp.lo, .int .u16 r.dp.hi, .int .u8 r.pr.v, .int .u8 r.pr.c, .int .i64 r.act] 60)).alloc (.cells #[.int .u32 h.src, .int .u32 h.dst, .int .u16 h.sp, .int .u16 h.dp, .int .u8 h.pr] 28) = M from HMM.out.symm]
  refine wp_region_listC (C := RulHS M w.heap.size (w.heap.size + 1) r h) (HKS.out _ (Below.refl _ _)) ?_
  repeat (first
    | go_big_quiet_skip
    | (go_big_quiet_want
       first
         | (refine quiet_run ?_
            apply Exists.intro
            refine ⟨fun w hw => ?_, ?_⟩
            · ((unfold RulHS at hw); go_split_ands; go_simp; (try with_reducible rfl))
            go_big_quiet_on
            try simp only [Act.put, List.setIfInBounds_toArray, List.set_cons_zero, List.set_cons_succ])
         | (apply Exists.intro
            refine ⟨fun w hw => ?_, ?_⟩
            · (unfold Oper.quietAt; go_simp; first | (with_reducible exact H0.out _ hw) | (with_reducible exact H1.out _ hw) | (with_reducible exact H2.out _ hw) | (with_reducible exact H3.out _ hw) | (with_reducible exact H4.out _ hw) | (with_reducible exact H5.out _ hw))
            go_big_quiet_on
            try simp only [Act.put, List.setIfInBounds_toArray, List.set_cons_zero, List.set_cons_succ])))
  refine wpQuiet_nil ?_
  intro W hW
  have HWW : Sd (Below w.heap.size w W) := ⟨beyond HWM.out hW.1⟩
  clear hW
  go_wp2
  go_ret
  exact ⟨rfl, HWW.out⟩
theorem ruleMatch_any (r : Rul) (hw : r.Wf) (h : Hdr) (hh : h.Wf) (w : World) : Calls Try.prog 27 #[.agg #[.int .i64 r.id, .int .u32 r.src.a, .int .i64 r.src.n, .int .u32 r.dst.a, .int .i64 r.dst.n, .int .u16 r.sp.lo, .int .u16 r.sp.hi, .int .u16 r.dp.lo, .int .u16 r.dp.hi, .int .u8 r.pr.v, .int .u8 r.pr.c, .int .i64 r.act], .agg #[.int .u32 h.src, .int .u32 h.dst, .int .u16 h.sp, .int .u16 h.dp, .int .u8 h.pr]] w fun e w' => e = .returned (.bool (r.hit h)) ∧ Below w.heap.size w w' := by
  cases b0 : r.may with
  | false => rw [show r.hit h = false from by unfold Rul.hit; simp [b0]]; exact ruleMatch_0 r hw h hh w b0
  | true =>
    cases b1 : r.src.has h.src with
    | false => rw [show r.hit h = false from by unfold Rul.hit; simp [b1]]; exact ruleMatch_1 r hw h hh w b0 b1
    | true =>
      cases b2 : r.dst.has h.dst with
      | false => rw [show r.hit h = false from by unfold Rul.hit; simp [b2]]; exact ruleMatch_2 r hw h hh w b0 b1 b2
      | true =>
        cases b3 : r.sp.has h.sp with
        | false => rw [show r.hit h = false from by unfold Rul.hit; simp [b3]]; exact ruleMatch_3 r hw h hh w b0 b1 b2 b3
        | true =>
          cases b4 : r.dp.has h.dp with
          | false => rw [show r.hit h = false from by unfold Rul.hit; simp [b4]]; exact ruleMatch_4 r hw h hh w b0 b1 b2 b3 b4
          | true =>
            cases b5 : r.pr.has h.pr with
            | false => rw [show r.hit h = false from by unfold Rul.hit; simp [b5]]; exact ruleMatch_5 r hw h hh w b0 b1 b2 b3 b4 b5
            | true =>
              rw [show r.hit h = true from by unfold Rul.hit; simp [b0, b1, b2, b3, b4, b5]]; exact ruleMatch_6 r hw h hh w b0 b1 b2 b3 b4 b5
set_option maxHeartbeats 2000000 in
set_option maxRecDepth 100000 in
theorem ruleBox_any (r : Rul) (hw : r.Wf) (hm : r.may = true) (w : World) : Calls Try.prog 45 #[.agg #[.int .i64 r.id, .int .u32 r.src.a, .int .i64 r.src.n, .int .u32 r.dst.a, .int .i64 r.dst.n, .int .u16 r.sp.lo, .int .u16 r.sp.hi, .int .u16 r.dp.lo, .int .u16 r.dp.hi, .int .u8 r.pr.v, .int .u8 r.pr.c, .int .i64 r.act]] w fun e w' => e = .returned (.tuple #[.agg #[.int .u32 r.box.src.lo, .int .u32 r.box.src.hi, .int .u32 r.box.dst.lo, .int .u32 r.box.dst.hi, .int .u16 r.box.sp.lo, .int .u16 r.box.sp.hi, .int .u16 r.box.dp.lo, .int .u16 r.box.dp.hi, .int .u8 r.box.pr.v, .int .u8 r.box.pr.c], .int .i64 0]) ∧ Below w.heap.size w w' := by
  obtain ⟨_, s1, s2, _⟩ := r.may_iff.1 hm
  have hc : r.ck.1 = 0 := by unfold Rul.may at hm; simpa using hm
  have K0 := ruleCheck_any r hw
  rw [hc] at K0
  have H0 := Sd.mk K0
  have H1 := Sd.mk (pfxRun_ok r.src hw.src s1)
  have H2 := Sd.mk (pfxRun_ok r.dst hw.dst s2)
  have HR : Sd (r.box = ⟨r.src.run, r.dst.run, r.sp, r.dp, r.pr⟩) := ⟨by unfold Rul.box; rw [if_pos hc]⟩
  obtain ⟨M, hM⟩ : ∃ M, M = (w.alloc (.cells #[.int .i64 r.id, .int .u32 r.src.a, .int .i64 r.src.n, .int .u32 r.dst.a, .int .i64 r.dst.n, .int .u16 r.sp.lo, .int .u16 r.sp.hi, .int .u16 r.dp.lo, .int .u16 r.dp.hi, .int .u8 r.pr.v, .int .u8 r.pr.c, .int .i64 r.act] 60)).alloc (.cells #[.int .u32 Bx.zero.src.lo, .int .u32 Bx.zero.src.hi, .int .u32 Bx.zero.dst.lo, .int .u32 Bx.zero.dst.hi, .int .u16 Bx.zero.sp.lo, .int .u16 Bx.zero.sp.hi, .int .u16 Bx.zero.dp.lo, .int .u16 Bx.zero.dp.hi, .int .u8 Bx.zero.pr.v, .int .u8 Bx.zero.pr.c] 109) := ⟨_, rfl⟩
  have HWM : Sd (Below w.heap.size w M) := ⟨by rw [hM]; exact below_alloc (below_alloc (Below.refl _ _) _) _⟩
  have hB : Blk M w.heap.size #[.int .i64 r.id, .int .u32 r.src.a, .int .i64 r.src.n, .int .u32 r.dst.a, .int .i64 r.dst.n, .int .u16 r.sp.lo, .int .u16 r.sp.hi, .int .u16 r.dp.lo, .int .u16 r.dp.hi, .int .u8 r.pr.v, .int .u8 r.pr.c, .int .i64 r.act] 60 := by rw [hM]; exact (Blk.new _ _ _).alloc _
  have hZ : Blk M (w.heap.size + 1) #[.int .u32 Bx.zero.src.lo, .int .u32 Bx.zero.src.hi, .int .u32 Bx.zero.dst.lo, .int .u32 Bx.zero.dst.hi, .int .u16 Bx.zero.sp.lo, .int .u16 Bx.zero.sp.hi, .int .u16 Bx.zero.dp.lo, .int .u16 Bx.zero.dp.hi, .int .u8 Bx.zero.pr.v, .int .u8 Bx.zero.pr.c] 109 := by rw [hM]; exact blkN (by simp) _ _
  have HMM := Sd.mk hM
  have HB := Sd.mk hB
  have HZ := Sd.mk hZ
  have k := hB
  obtain ⟨c0, c1, c2, c3, c4, c5, c6, c7, c8, c9, c10, c11⟩ := show M.cell? ⟨w.heap.size, 0, none⟩ = some (.int .i64 r.id) ∧ M.cell? ⟨w.heap.size, 1, none⟩ = some (.int .u32 r.src.a) ∧ M.cell? ⟨w.heap.size, 2, none⟩ = some (.int .i64 r.src.n) ∧ M.cell? ⟨w.heap.size, 3, none⟩ = some (.int .u32 r.dst.a) ∧ M.cell? ⟨w.heap.size, 4, none⟩ = some (.int .i64 r.dst.n) ∧ M.cell? ⟨w.heap.size, 5, none⟩ = some (.int .u16 r.sp.lo) ∧ M.cell? ⟨w.heap.size, 6, none⟩ = some (.int .u16 r.sp.hi) ∧ M.cell? ⟨w.heap.size, 7, none⟩ = some (.int .u16 r.dp.lo) ∧ M.cell? ⟨w.heap.size, 8, none⟩ = some (.int .u16 r.dp.hi) ∧ M.cell? ⟨w.heap.size, 9, none⟩ = some (.int .u8 r.pr.v) ∧ M.cell? ⟨w.heap.size, 10, none⟩ = some (.int .u8 r.pr.c) ∧ M.cell? ⟨w.heap.size, 11, none⟩ = some (.int .i64 r.act) from ⟨k.cell (i := 0) rfl, k.cell (i := 1) rfl, k.cell (i := 2) rfl, k.cell (i := 3) rfl, k.cell (i := 4) rfl, k.cell (i := 5) rfl, k.cell (i := 6) rfl, k.cell (i := 7) rfl, k.cell (i := 8) rfl, k.cell (i := 9) rfl, k.cell (i := 10) rfl, k.cell (i := 11) rfl⟩
  clear hM hB hZ k hw hm hc s1 s2 K0
  go_enter Try.func45, Try.ntmps45
  go_upto_region 1 with fail
  rw [show (w.alloc (.cells #[.int .i64 r.id, .int .u32 r.src.a, .int .i64 r.src.n, .int .u32 r.dst.a, .int .i64 r.dst.n, .int .u16 r.sp.lo, .int .u16 r.sp.hi, .int .u16 r.dp.lo, .int .u16 r.dp.hi, .int .u8 r.pr.v, .int .u8 r.pr.c, .int .i64 r.act] 60)).alloc (.cells #[.int .u32 0, .int .u32 0, .int .u32 0, .int .u32 0, .int .u16 0, .int .u16 0, .int .u16 0, .int .u16 0, .int .u8 0, .int .u8 0] 109) = M from HMM.out.symm]
  go_wp2_with fail
  refine (H0.out _).mono ?_
  rintro e w1 ⟨rfl, hb1⟩
  have HB1 := Sd.mk hb1
  have k := HB.out.below hb1 HB.out.lt
  clear c0 c1 c2 c3 c4 c5 c6 c7 c8 c9 c10 c11
  obtain ⟨c0, c1, c2, c3, c4, c5, c6, c7, c8, c9, c10, c11⟩ := show w1.cell? ⟨w.heap.size, 0, none⟩ = some (.int .i64 r.id) ∧ w1.cell? ⟨w.heap.size, 1, none⟩ = some (.int .u32 r.src.a) ∧ w1.cell? ⟨w.heap.size, 2, none⟩ = some (.int .i64 r.src.n) ∧ w1.cell? ⟨w.heap.size, 3, none⟩ = some (.int .u32 r.dst.a) ∧ w1.cell? ⟨w.heap.size, 4, none⟩ = some (.int .i64 r.dst.n) ∧ w1.cell? ⟨w.heap.size, 5, none⟩ = some (.int .u16 r.sp.lo) ∧ w1.cell? ⟨w.heap.size, 6, none⟩ = some (.int .u16 r.sp.hi) ∧ w1.cell? ⟨w.heap.size, 7, none⟩ = some (.int .u16 r.dp.lo) ∧ w1.cell? ⟨w.heap.size, 8, none⟩ = some (.int .u16 r.dp.hi) ∧ w1.cell? ⟨w.heap.size, 9, none⟩ = some (.int .u8 r.pr.v) ∧ w1.cell? ⟨w.heap.size, 10, none⟩ = some (.int .u8 r.pr.c) ∧ w1.cell? ⟨w.heap.size, 11, none⟩ = some (.int .i64 r.act) from ⟨k.cell (i := 0) rfl, k.cell (i := 1) rfl, k.cell (i := 2) rfl, k.cell (i := 3) rfl, k.cell (i := 4) rfl, k.cell (i := 5) rfl, k.cell (i := 6) rfl, k.cell (i := 7) rfl, k.cell (i := 8) rfl, k.cell (i := 9) rfl, k.cell (i := 10) rfl, k.cell (i := 11) rfl⟩
  clear k hb1
  go_wp2_with fail
  refine (H1.out _).mono ?_
  rintro e w2 ⟨rfl, hb2⟩
  have HB2 := Sd.mk (beyond HB1.out hb2)
  have k := HB.out.below HB2.out HB.out.lt
  clear c0 c1 c2 c3 c4 c5 c6 c7 c8 c9 c10 c11
  obtain ⟨c0, c1, c2, c3, c4, c5, c6, c7, c8, c9, c10, c11⟩ := show w2.cell? ⟨w.heap.size, 0, none⟩ = some (.int .i64 r.id) ∧ w2.cell? ⟨w.heap.size, 1, none⟩ = some (.int .u32 r.src.a) ∧ w2.cell? ⟨w.heap.size, 2, none⟩ = some (.int .i64 r.src.n) ∧ w2.cell? ⟨w.heap.size, 3, none⟩ = some (.int .u32 r.dst.a) ∧ w2.cell? ⟨w.heap.size, 4, none⟩ = some (.int .i64 r.dst.n) ∧ w2.cell? ⟨w.heap.size, 5, none⟩ = some (.int .u16 r.sp.lo) ∧ w2.cell? ⟨w.heap.size, 6, none⟩ = some (.int .u16 r.sp.hi) ∧ w2.cell? ⟨w.heap.size, 7, none⟩ = some (.int .u16 r.dp.lo) ∧ w2.cell? ⟨w.heap.size, 8, none⟩ = some (.int .u16 r.dp.hi) ∧ w2.cell? ⟨w.heap.size, 9, none⟩ = some (.int .u8 r.pr.v) ∧ w2.cell? ⟨w.heap.size, 10, none⟩ = some (.int .u8 r.pr.c) ∧ w2.cell? ⟨w.heap.size, 11, none⟩ = some (.int .i64 r.act) from ⟨k.cell (i := 0) rfl, k.cell (i := 1) rfl, k.cell (i := 2) rfl, k.cell (i := 3) rfl, k.cell (i := 4) rfl, k.cell (i := 5) rfl, k.cell (i := 6) rfl, k.cell (i := 7) rfl, k.cell (i := 8) rfl, k.cell (i := 9) rfl, k.cell (i := 10) rfl, k.cell (i := 11) rfl⟩
  have sz2 : M.heap.size ≤ w2.heap.size := HB2.out.size
  have sz1 := Nat.lt_of_lt_of_le HB.out.lt sz2
  have sz3 := Nat.lt_of_lt_of_le HZ.out.lt sz2
  clear k hb2
  go_wp2_with fail
  refine (H2.out _).mono ?_
  rintro e w3 ⟨rfl, hb3⟩
  have hb3' := beyond (HB2.out.alloc HB2.out.size (.cells #[.int .u32 r.src.run.lo, .int .u32 r.src.run.hi] 107)) hb3
  have HB3 := Sd.mk hb3'
  have k := HB.out.below HB3.out HB.out.lt
  have kz := HZ.out.below HB3.out HZ.out.lt
  have kr := (Blk.new w2 #[.int .u32 r.src.run.lo, .int .u32 r.src.run.hi] 107).below hb3 (Blk.new w2 #[.int .u32 r.src.run.lo, .int .u32 r.src.run.hi] 107).lt
  clear c0 c1 c2 c3 c4 c5 c6 c7 c8 c9 c10 c11
  obtain ⟨c0, c1, c2, c3, c4, c5, c6, c7, c8, c9, c10, c11⟩ := show w3.cell? ⟨w.heap.size, 0, none⟩ = some (.int .i64 r.id) ∧ w3.cell? ⟨w.heap.size, 1, none⟩ = some (.int .u32 r.src.a) ∧ w3.cell? ⟨w.heap.size, 2, none⟩ = some (.int .i64 r.src.n) ∧ w3.cell? ⟨w.heap.size, 3, none⟩ = some (.int .u32 r.dst.a) ∧ w3.cell? ⟨w.heap.size, 4, none⟩ = some (.int .i64 r.dst.n) ∧ w3.cell? ⟨w.heap.size, 5, none⟩ = some (.int .u16 r.sp.lo) ∧ w3.cell? ⟨w.heap.size, 6, none⟩ = some (.int .u16 r.sp.hi) ∧ w3.cell? ⟨w.heap.size, 7, none⟩ = some (.int .u16 r.dp.lo) ∧ w3.cell? ⟨w.heap.size, 8, none⟩ = some (.int .u16 r.dp.hi) ∧ w3.cell? ⟨w.heap.size, 9, none⟩ = some (.int .u8 r.pr.v) ∧ w3.cell? ⟨w.heap.size, 10, none⟩ = some (.int .u8 r.pr.c) ∧ w3.cell? ⟨w.heap.size, 11, none⟩ = some (.int .i64 r.act) from ⟨k.cell (i := 0) rfl, k.cell (i := 1) rfl, k.cell (i := 2) rfl, k.cell (i := 3) rfl, k.cell (i := 4) rfl, k.cell (i := 5) rfl, k.cell (i := 6) rfl, k.cell (i := 7) rfl, k.cell (i := 8) rfl, k.cell (i := 9) rfl, k.cell (i := 10) rfl, k.cell (i := 11) rfl⟩
  obtain ⟨z0, z1, z2, z3, z4, z5, z6, z7, z8, z9⟩ := show w3.cell? ⟨w.heap.size + 1, 0, none⟩ = some (.int .u32 Bx.zero.src.lo) ∧ w3.cell? ⟨w.heap.size + 1, 1, none⟩ = some (.int .u32 Bx.zero.src.hi) ∧ w3.cell? ⟨w.heap.size + 1, 2, none⟩ = some (.int .u32 Bx.zero.dst.lo) ∧ w3.cell? ⟨w.heap.size + 1, 3, none⟩ = some (.int .u32 Bx.zero.dst.hi) ∧ w3.cell? ⟨w.heap.size + 1, 4, none⟩ = some (.int .u16 Bx.zero.sp.lo) ∧ w3.cell? ⟨w.heap.size + 1, 5, none⟩ = some (.int .u16 Bx.zero.sp.hi) ∧ w3.cell? ⟨w.heap.size + 1, 6, none⟩ = some (.int .u16 Bx.zero.dp.lo) ∧ w3.cell? ⟨w.heap.size + 1, 7, none⟩ = some (.int .u16 Bx.zero.dp.hi) ∧ w3.cell? ⟨w.heap.size + 1, 8, none⟩ = some (.int .u8 Bx.zero.pr.v) ∧ w3.cell? ⟨w.heap.size + 1, 9, none⟩ = some (.int .u8 Bx.zero.pr.c) from ⟨kz.cell (i := 0) rfl, kz.cell (i := 1) rfl, kz.cell (i := 2) rfl, kz.cell (i := 3) rfl, kz.cell (i := 4) rfl, kz.cell (i := 5) rfl, kz.cell (i := 6) rfl, kz.cell (i := 7) rfl, kz.cell (i := 8) rfl, kz.cell (i := 9) rfl⟩
  have r0 := kr.cell (i := 0) rfl
  have r1 := kr.cell (i := 1) rfl
  have zf := kz.frozen
  have zl := kz.lt
  have rl := kr.lt
  have HWW : Sd (Below w.heap.size w w3) := ⟨beyond HWM.out HB3.out⟩
  have sz4 := k.lt
  clear k kz kr hb3 hb3' sz1 sz2 sz3
  go_wp2
  rw [HR.out]
  refine bodyPost_ret (v := .tuple #[.agg #[.int .u32 r.src.run.lo, .int .u32 r.src.run.hi, .int .u32 r.dst.run.lo, .int .u32 r.dst.run.hi, .int .u16 r.sp.lo, .int .u16 r.sp.hi, .int .u16 r.dp.lo, .int .u16 r.dp.hi, .int .u8 r.pr.v, .int .u8 r.pr.c], .int .i64 0]) (by simp [results, Try.results45, go_sem, *]) rfl ⟨rfl, ?_⟩
  refine below_alloc ?_ _
  iterate 10 refine below_set ?_ (Nat.le_succ _)
  exact HWW.out
end Go.Proofs.Ytljliopmphaoeaa
