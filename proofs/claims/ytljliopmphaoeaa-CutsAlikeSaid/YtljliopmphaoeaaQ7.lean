/- What the document's answer for a rule's match gives back: the same. -/
import Derived.Test.YtljliopmphaoeaaQ6
namespace Go.Proofs.Ytljliopmphaoeaa
open Go Go.RowKit Go.Proofs.Ytljliopmphaoeaa.Q

set_option maxHeartbeats 1000000 in
set_option maxRecDepth 100000 in
theorem rMatch_0 (r : Rul) (hw : r.Wf) (h : Hdr) (_hh : h.Wf) (w : World) (hm : r.may = true) (_hok : r.pr.ck = 0) (p0 : h.sp < r.sp.lo) : Calls Try.prog 84 #[.agg #[.int .i64 r.id, .int .u32 r.src.a, .int .i64 r.src.n, .int .u32 r.dst.a, .int .i64 r.dst.n, .int .u16 r.sp.lo, .int .u16 r.sp.hi, .int .u16 r.dp.lo, .int .u16 r.dp.hi, .int .u8 r.pr.v, .int .u8 r.pr.c, .int .i64 r.act], .agg #[.int .u32 h.src, .int .u32 h.dst, .int .u16 h.sp, .int .u16 h.dp, .int .u8 h.pr]] w fun e w' => e = .returned (.bool false) ∧ Below w.heap.size w w' := by
  have q0 : (h.sp : Int) < (r.sp.lo : Int) := by omega
  obtain ⟨M, hM⟩ : ∃ M, M = (w.alloc (.cells #[.int .i64 r.id, .int .u32 r.src.a, .int .i64 r.src.n, .int .u32 r.dst.a, .int .i64 r.dst.n, .int .u16 r.sp.lo, .int .u16 r.sp.hi, .int .u16 r.dp.lo, .int .u16 r.dp.hi, .int .u8 r.pr.v, .int .u8 r.pr.c, .int .i64 r.act] 60)).alloc (.cells #[.int .u32 h.src, .int .u32 h.dst, .int .u16 h.sp, .int .u16 h.dp, .int .u8 h.pr] 28) := ⟨_, rfl⟩
  have HWM : Sd (Below w.heap.size w M) := ⟨by rw [hM]; exact below_alloc (below_alloc (Below.refl _ _) _) _⟩
  have KS := rulHS (M := M) (B := w.heap.size) (H := w.heap.size + 1) (r := r) (h := h) (by rw [hM]; exact (Blk.new _ _ _).alloc _) (by rw [hM]; exact blkN (by simp) _ _)
  have HKS := Sd.mk KS
  have HMM := Sd.mk hM
  have K0 := rRuleMay_any r hw
  rw [hm] at K0
  have H0 := Sd.mk (heldS (fun _ h => h.1) KS K0)
  clear KS hM K0 hm _hok hw _hh 
  go_enter Try.func84, Try.ntmps84
  go_upto_region 1 with fail
  rw [show (w.alloc (.cells #[.int .i64 r.id, .int .u32 r.src.a, .int .i64 r.src.n, .int .u32 r.dst.a, .int .i64 r.dst.n, .int .u16 r.sp.lo, .int .u16 r.sp.hi, .int .u16 r.dp.lo, .int .u16 r.dp.hi, .int .u8 r.pr.v, .int .u8 r.pr.c, .int .i64 r.act] 60)).alloc (.cells #[.int .u32 h.src, .int .u32 h.dst, .int .u16 h.sp, .int .u16 h.dp, .int .u8 h.pr] 28) = M from HMM.out.symm]
  refine wp_region_listC (C := RulHS M w.heap.size (w.heap.size + 1) r h) (HKS.out _ (Below.refl _ _)) ?_
  repeat (first
    | go_big_quiet_skip
    | (go_big_quiet_want
       first
         | (refine quiet_run ?_
            apply Exists.intro
            refine ⟨fun w hw => ?_, ?_⟩
            · ((unfold RulHS at hw); go_split_ands; go_simp; (try with_reducible rfl))
            go_big_quiet_on
            try simp only [Act.put, List.setIfInBounds_toArray, List.set_cons_zero, List.set_cons_succ])
         | (apply Exists.intro
            refine ⟨fun w hw => ?_, ?_⟩
            · (unfold Oper.quietAt; go_simp; first | (with_reducible exact H0.out _ hw))
            go_big_quiet_on
            try simp only [Act.put, List.setIfInBounds_toArray, List.set_cons_zero, List.set_cons_succ])))
  refine wpQuiet_nil ?_
  intro W hW
  have HW := Sd.mk hW
  unfold RulHS at hW
  obtain ⟨_, c0, c1, c2, c3, c4, c5, c6, c7, c8, c9, c10, c11, d0, d1, d2, d3, d4⟩ := hW
  go_upto_region 4 with fail
  clear c0 c1 c2 c3 c4 c5 c6 c7 c8 c9 c10 c11 d0 d1 d2 d3 d4
  refine wp_region_listC (C := RulHS M w.heap.size (w.heap.size + 1) r h) (HW.out) ?_
  repeat (first
    | go_big_quiet_skip
    | (go_big_quiet_want
       first
         | (refine quiet_run ?_
            apply Exists.intro
            refine ⟨fun w hw => ?_, ?_⟩
            · ((unfold RulHS at hw); go_split_ands; go_simp; (try with_reducible rfl))
            go_big_quiet_on
            try simp only [Act.put, List.setIfInBounds_toArray, List.set_cons_zero, List.set_cons_succ])))
  refine wpQuiet_nil ?_
  intro W hW
  have HWW : Sd (Below w.heap.size w W) := ⟨beyond HWM.out hW.1⟩
  clear hW
  go_wp2
  go_ret
  exact ⟨rfl, HWW.out⟩
set_option maxHeartbeats 1000000 in
set_option maxRecDepth 100000 in
theorem rMatch_1 (r : Rul) (hw : r.Wf) (h : Hdr) (_hh : h.Wf) (w : World) (hm : r.may = true) (_hok : r.pr.ck = 0) (p0 : r.sp.lo ≤ h.sp) (p1 : r.sp.hi < h.sp) : Calls Try.prog 84 #[.agg #[.int .i64 r.id, .int .u32 r.src.a, .int .i64 r.src.n, .int .u32 r.dst.a, .int .i64 r.dst.n, .int .u16 r.sp.lo, .int .u16 r.sp.hi, .int .u16 r.dp.lo, .int .u16 r.dp.hi, .int .u8 r.pr.v, .int .u8 r.pr.c, .int .i64 r.act], .agg #[.int .u32 h.src, .int .u32 h.dst, .int .u16 h.sp, .int .u16 h.dp, .int .u8 h.pr]] w fun e w' => e = .returned (.bool false) ∧ Below w.heap.size w w' := by
  have q0 : (r.sp.lo : Int) ≤ (h.sp : Int) := by omega
  have q1 : (r.sp.hi : Int) < (h.sp : Int) := by omega
  obtain ⟨M, hM⟩ : ∃ M, M = (w.alloc (.cells #[.int .i64 r.id, .int .u32 r.src.a, .int .i64 r.src.n, .int .u32 r.dst.a, .int .i64 r.dst.n, .int .u16 r.sp.lo, .int .u16 r.sp.hi, .int .u16 r.dp.lo, .int .u16 r.dp.hi, .int .u8 r.pr.v, .int .u8 r.pr.c, .int .i64 r.act] 60)).alloc (.cells #[.int .u32 h.src, .int .u32 h.dst, .int .u16 h.sp, .int .u16 h.dp, .int .u8 h.pr] 28) := ⟨_, rfl⟩
  have HWM : Sd (Below w.heap.size w M) := ⟨by rw [hM]; exact below_alloc (below_alloc (Below.refl _ _) _) _⟩
  have KS := rulHS (M := M) (B := w.heap.size) (H := w.heap.size + 1) (r := r) (h := h) (by rw [hM]; exact (Blk.new _ _ _).alloc _) (by rw [hM]; exact blkN (by simp) _ _)
  have HKS := Sd.mk KS
  have HMM := Sd.mk hM
  have K0 := rRuleMay_any r hw
  rw [hm] at K0
  have H0 := Sd.mk (heldS (fun _ h => h.1) KS K0)
  clear KS hM K0 hm _hok hw _hh 
  go_enter Try.func84, Try.ntmps84
  go_upto_region 1 with fail
  rw [show (w.alloc (.cells #[.int .i64 r.id, .int .u32 r.src.a, .int .i64 r.src.n, .int .u32 r.dst.a, .int .i64 r.dst.n, .int .u16 r.sp.lo, .int .u16 r.sp.hi, .int .u16 r.dp.lo, .int .u16 r.dp.hi, .int .u8 r.pr.v, .int .u8 r.pr.c, .int .i64 r.act] 60)).alloc (.cells #[.int .u32 h.src, .int .u32 h.dst, .int .u16 h.sp, .int .u16 h.dp, .int .u8 h.pr] 28) = M from HMM.out.symm]
  refine wp_region_listC (C := RulHS M w.heap.size (w.heap.size + 1) r h) (HKS.out _ (Below.refl _ _)) ?_
  repeat (first
    | go_big_quiet_skip
    | (go_big_quiet_want
       first
         | (refine quiet_run ?_
            apply Exists.intro
            refine ⟨fun w hw => ?_, ?_⟩
            · ((unfold RulHS at hw); go_split_ands; go_simp; (try with_reducible rfl))
            go_big_quiet_on
            try simp only [Act.put, List.setIfInBounds_toArray, List.set_cons_zero, List.set_cons_succ])
         | (apply Exists.intro
            refine ⟨fun w hw => ?_, ?_⟩
            · (unfold Oper.quietAt; go_simp; first | (with_reducible exact H0.out _ hw))
            go_big_quiet_on
            try simp only [Act.put, List.setIfInBounds_toArray, List.set_cons_zero, List.set_cons_succ])))
  refine wpQuiet_nil ?_
  intro W hW
  have HW := Sd.mk hW
  unfold RulHS at hW
  obtain ⟨_, c0, c1, c2, c3, c4, c5, c6, c7, c8, c9, c10, c11, d0, d1, d2, d3, d4⟩ := hW
  go_upto_region 4 with fail
  clear c0 c1 c2 c3 c4 c5 c6 c7 c8 c9 c10 c11 d0 d1 d2 d3 d4
  refine wp_region_listC (C := RulHS M w.heap.size (w.heap.size + 1) r h) (HW.out) ?_
  repeat (first
    | go_big_quiet_skip
    | (go_big_quiet_want
       first
         | (refine quiet_run ?_
            apply Exists.intro
            refine ⟨fun w hw => ?_, ?_⟩
            · ((unfold RulHS at hw); go_split_ands; go_simp; (try with_reducible rfl))
            go_big_quiet_on
            try simp only [Act.put, List.setIfInBounds_toArray, List.set_cons_zero, List.set_cons_succ])))
  refine wpQuiet_nil ?_
  intro W hW
  have HWW : Sd (Below w.heap.size w W) := ⟨beyond HWM.out hW.1⟩
  clear hW
  go_wp2
  go_ret
  exact ⟨rfl, HWW.out⟩
set_option maxHeartbeats 1000000 in
set_option maxRecDepth 100000 in
theorem rMatch_2 (r : Rul) (hw : r.Wf) (h : Hdr) (_hh : h.Wf) (w : World) (hm : r.may = true) (_hok : r.pr.ck = 0) (p0 : r.sp.lo ≤ h.sp) (p1 : h.sp ≤ r.sp.hi) (p2 : h.dp < r.dp.lo) : Calls Try.prog 84 #[.agg #[.int .i64 r.id, .int .u32 r.src.a, .int .i64 r.src.n, .int .u32 r.dst.a, .int .i64 r.dst.n, .int .u16 r.sp.lo, .int .u16 r.sp.hi, .int .u16 r.dp.lo, .int .u16 r.dp.hi, .int .u8 r.pr.v, .int .u8 r.pr.c, .int .i64 r.act], .agg #[.int .u32 h.src, .int .u32 h.dst, .int .u16 h.sp, .int .u16 h.dp, .int .u8 h.pr]] w fun e w' => e = .returned (.bool false) ∧ Below w.heap.size w w' := by
  have q0 : (r.sp.lo : Int) ≤ (h.sp : Int) := by omega
  have q1 : (h.sp : Int) ≤ (r.sp.hi : Int) := by omega
  have q2 : (h.dp : Int) < (r.dp.lo : Int) := by omega
  obtain ⟨M, hM⟩ : ∃ M, M = (w.alloc (.cells #[.int .i64 r.id, .int .u32 r.src.a, .int .i64 r.src.n, .int .u32 r.dst.a, .int .i64 r.dst.n, .int .u16 r.sp.lo, .int .u16 r.sp.hi, .int .u16 r.dp.lo, .int .u16 r.dp.hi, .int .u8 r.pr.v, .int .u8 r.pr.c, .int .i64 r.act] 60)).alloc (.cells #[.int .u32 h.src, .int .u32 h.dst, .int .u16 h.sp, .int .u16 h.dp, .int .u8 h.pr] 28) := ⟨_, rfl⟩
  have HWM : Sd (Below w.heap.size w M) := ⟨by rw [hM]; exact below_alloc (below_alloc (Below.refl _ _) _) _⟩
  have KS := rulHS (M := M) (B := w.heap.size) (H := w.heap.size + 1) (r := r) (h := h) (by rw [hM]; exact (Blk.new _ _ _).alloc _) (by rw [hM]; exact blkN (by simp) _ _)
  have HKS := Sd.mk KS
  have HMM := Sd.mk hM
  have K0 := rRuleMay_any r hw
  rw [hm] at K0
  have H0 := Sd.mk (heldS (fun _ h => h.1) KS K0)
  clear KS hM K0 hm _hok hw _hh 
  go_enter Try.func84, Try.ntmps84
  go_upto_region 1 with fail
  rw [show (w.alloc (.cells #[.int .i64 r.id, .int .u32 r.src.a, .int .i64 r.src.n, .int .u32 r.dst.a, .int .i64 r.dst.n, .int .u16 r.sp.lo, .int .u16 r.sp.hi, .int .u16 r.dp.lo, .int .u16 r.dp.hi, .int .u8 r.pr.v, .int .u8 r.pr.c, .int .i64 r.act] 60)).alloc (.cells #[.int .u32 h.src, .int .u32 h.dst, .int .u16 h.sp, .int .u16 h.dp, .int .u8 h.pr] 28) = M from HMM.out.symm]
  refine wp_region_listC (C := RulHS M w.heap.size (w.heap.size + 1) r h) (HKS.out _ (Below.refl _ _)) ?_
  repeat (first
    | go_big_quiet_skip
    | (go_big_quiet_want
       first
         | (refine quiet_run ?_
            apply Exists.intro
            refine ⟨fun w hw => ?_, ?_⟩
            · ((unfold RulHS at hw); go_split_ands; go_simp; (try with_reducible rfl))
            go_big_quiet_on
            try simp only [Act.put, List.setIfInBounds_toArray, List.set_cons_zero, List.set_cons_succ])
         | (apply Exists.intro
            refine ⟨fun w hw => ?_, ?_⟩
            · (unfold Oper.quietAt; go_simp; first | (with_reducible exact H0.out _ hw))
            go_big_quiet_on
            try simp only [Act.put, List.setIfInBounds_toArray, List.set_cons_zero, List.set_cons_succ])))
  refine wpQuiet_nil ?_
  intro W hW
  have HW := Sd.mk hW
  unfold RulHS at hW
  obtain ⟨_, c0, c1, c2, c3, c4, c5, c6, c7, c8, c9, c10, c11, d0, d1, d2, d3, d4⟩ := hW
  go_upto_region 4 with fail
  clear c0 c1 c2 c3 c4 c5 c6 c7 c8 c9 c10 c11 d0 d1 d2 d3 d4
  refine wp_region_listC (C := RulHS M w.heap.size (w.heap.size + 1) r h) (HW.out) ?_
  repeat (first
    | go_big_quiet_skip
    | (go_big_quiet_want
       first
         | (refine quiet_run ?_
            apply Exists.intro
            refine ⟨fun w hw => ?_, ?_⟩
            · ((unfold RulHS at hw); go_split_ands; go_simp; (try with_reducible rfl))
            go_big_quiet_on
            try simp only [Act.put, List.setIfInBounds_toArray, List.set_cons_zero, List.set_cons_succ])))
  refine wpQuiet_nil ?_
  intro W hW
  have HWW : Sd (Below w.heap.size w W) := ⟨beyond HWM.out hW.1⟩
  clear hW
  go_wp2
  go_ret
  exact ⟨rfl, HWW.out⟩
set_option maxHeartbeats 1000000 in
set_option maxRecDepth 100000 in
theorem rMatch_3 (r : Rul) (hw : r.Wf) (h : Hdr) (_hh : h.Wf) (w : World) (hm : r.may = true) (_hok : r.pr.ck = 0) (p0 : r.sp.lo ≤ h.sp) (p1 : h.sp ≤ r.sp.hi) (p2 : r.dp.lo ≤ h.dp) (p3 : r.dp.hi < h.dp) : Calls Try.prog 84 #[.agg #[.int .i64 r.id, .int .u32 r.src.a, .int .i64 r.src.n, .int .u32 r.dst.a, .int .i64 r.dst.n, .int .u16 r.sp.lo, .int .u16 r.sp.hi, .int .u16 r.dp.lo, .int .u16 r.dp.hi, .int .u8 r.pr.v, .int .u8 r.pr.c, .int .i64 r.act], .agg #[.int .u32 h.src, .int .u32 h.dst, .int .u16 h.sp, .int .u16 h.dp, .int .u8 h.pr]] w fun e w' => e = .returned (.bool false) ∧ Below w.heap.size w w' := by
  have q0 : (r.sp.lo : Int) ≤ (h.sp : Int) := by omega
  have q1 : (h.sp : Int) ≤ (r.sp.hi : Int) := by omega
  have q2 : (r.dp.lo : Int) ≤ (h.dp : Int) := by omega
  have q3 : (r.dp.hi : Int) < (h.dp : Int) := by omega
  have qd : decide (h.dp ≤ r.dp.hi) = false := by simp; omega
  obtain ⟨M, hM⟩ : ∃ M, M = (w.alloc (.cells #[.int .i64 r.id, .int .u32 r.src.a, .int .i64 r.src.n, .int .u32 r.dst.a, .int .i64 r.dst.n, .int .u16 r.sp.lo, .int .u16 r.sp.hi, .int .u16 r.dp.lo, .int .u16 r.dp.hi, .int .u8 r.pr.v, .int .u8 r.pr.c, .int .i64 r.act] 60)).alloc (.cells #[.int .u32 h.src, .int .u32 h.dst, .int .u16 h.sp, .int .u16 h.dp, .int .u8 h.pr] 28) := ⟨_, rfl⟩
  have HWM : Sd (Below w.heap.size w M) := ⟨by rw [hM]; exact below_alloc (below_alloc (Below.refl _ _) _) _⟩
  have KS := rulHS (M := M) (B := w.heap.size) (H := w.heap.size + 1) (r := r) (h := h) (by rw [hM]; exact (Blk.new _ _ _).alloc _) (by rw [hM]; exact blkN (by simp) _ _)
  have HKS := Sd.mk KS
  have HMM := Sd.mk hM
  have K0 := rRuleMay_any r hw
  rw [hm] at K0
  have H0 := Sd.mk (heldS (fun _ h => h.1) KS K0)
  clear KS hM K0 hm _hok hw _hh 
  go_enter Try.func84, Try.ntmps84
  go_upto_region 1 with fail
  rw [show (w.alloc (.cells #[.int .i64 r.id, .int .u32 r.src.a, .int .i64 r.src.n, .int .u32 r.dst.a, .int .i64 r.dst.n, .int .u16 r.sp.lo, .int .u16 r.sp.hi, .int .u16 r.dp.lo, .int .u16 r.dp.hi, .int .u8 r.pr.v, .int .u8 r.pr.c, .int .i64 r.act] 60)).alloc (.cells #[.int .u32 h.src, .int .u32 h.dst, .int .u16 h.sp, .int .u16 h.dp, .int .u8 h.pr] 28) = M from HMM.out.symm]
  refine wp_region_listC (C := RulHS M w.heap.size (w.heap.size + 1) r h) (HKS.out _ (Below.refl _ _)) ?_
  repeat (first
    | go_big_quiet_skip
    | (go_big_quiet_want
       first
         | (refine quiet_run ?_
            apply Exists.intro
            refine ⟨fun w hw => ?_, ?_⟩
            · ((unfold RulHS at hw); go_split_ands; go_simp; (try with_reducible rfl))
            go_big_quiet_on
            try simp only [Act.put, List.setIfInBounds_toArray, List.set_cons_zero, List.set_cons_succ])
         | (apply Exists.intro
            refine ⟨fun w hw => ?_, ?_⟩
            · (unfold Oper.quietAt; go_simp; first | (with_reducible exact H0.out _ hw))
            go_big_quiet_on
            try simp only [Act.put, List.setIfInBounds_toArray, List.set_cons_zero, List.set_cons_succ])))
  refine wpQuiet_nil ?_
  intro W hW
  have HW := Sd.mk hW
  unfold RulHS at hW
  obtain ⟨_, c0, c1, c2, c3, c4, c5, c6, c7, c8, c9, c10, c11, d0, d1, d2, d3, d4⟩ := hW
  go_upto_region 4 with fail
  clear c0 c1 c2 c3 c4 c5 c6 c7 c8 c9 c10 c11 d0 d1 d2 d3 d4
  refine wp_region_listC (C := RulHS M w.heap.size (w.heap.size + 1) r h) (HW.out) ?_
  repeat (first
    | go_big_quiet_skip
    | (go_big_quiet_want
       first
         | (refine quiet_run ?_
            apply Exists.intro
            refine ⟨fun w hw => ?_, ?_⟩
            · ((unfold RulHS at hw); go_split_ands; go_simp; (try with_reducible rfl))
            go_big_quiet_on
            try simp only [Act.put, List.setIfInBounds_toArray, List.set_cons_zero, List.set_cons_succ])))
  refine wpQuiet_nil ?_
  intro W hW
  have HWW : Sd (Below w.heap.size w W) := ⟨beyond HWM.out hW.1⟩
  clear hW
  go_wp2
  go_ret
  exact ⟨rfl, HWW.out⟩
set_option maxHeartbeats 1000000 in
set_option maxRecDepth 100000 in
theorem rMatch_4 (r : Rul) (hw : r.Wf) (h : Hdr) (hh : h.Wf) (w : World) (hm : r.may = true) (_hok : r.pr.ck = 0) (p0 : r.sp.lo ≤ h.sp) (p1 : h.sp ≤ r.sp.hi) (p2 : r.dp.lo ≤ h.dp) (p3 : h.dp ≤ r.dp.hi) (b0 : r.src.has h.src = false) : Calls Try.prog 84 #[.agg #[.int .i64 r.id, .int .u32 r.src.a, .int .i64 r.src.n, .int .u32 r.dst.a, .int .i64 r.dst.n, .int .u16 r.sp.lo, .int .u16 r.sp.hi, .int .u16 r.dp.lo, .int .u16 r.dp.hi, .int .u8 r.pr.v, .int .u8 r.pr.c, .int .i64 r.act], .agg #[.int .u32 h.src, .int .u32 h.dst, .int .u16 h.sp, .int .u16 h.dp, .int .u8 h.pr]] w fun e w' => e = .returned (.bool false) ∧ Below w.heap.size w w' := by
  have q0 : (r.sp.lo : Int) ≤ (h.sp : Int) := by omega
  have q1 : (h.sp : Int) ≤ (r.sp.hi : Int) := by omega
  have q2 : (r.dp.lo : Int) ≤ (h.dp : Int) := by omega
  have q3 : (h.dp : Int) ≤ (r.dp.hi : Int) := by omega
  have G0 := rPfxHas_any r.src hw.src h.src hh.src
  rw [b0] at G0
  obtain ⟨M, hM⟩ : ∃ M, M = (w.alloc (.cells #[.int .i64 r.id, .int .u32 r.src.a, .int .i64 r.src.n, .int .u32 r.dst.a, .int .i64 r.dst.n, .int .u16 r.sp.lo, .int .u16 r.sp.hi, .int .u16 r.dp.lo, .int .u16 r.dp.hi, .int .u8 r.pr.v, .int .u8 r.pr.c, .int .i64 r.act] 60)).alloc (.cells #[.int .u32 h.src, .int .u32 h.dst, .int .u16 h.sp, .int .u16 h.dp, .int .u8 h.pr] 28) := ⟨_, rfl⟩
  have HWM : Sd (Below w.heap.size w M) := ⟨by rw [hM]; exact below_alloc (below_alloc (Below.refl _ _) _) _⟩
  have KS := rulHS (M := M) (B := w.heap.size) (H := w.heap.size + 1) (r := r) (h := h) (by rw [hM]; exact (Blk.new _ _ _).alloc _) (by rw [hM]; exact blkN (by simp) _ _)
  have HKS := Sd.mk KS
  have HMM := Sd.mk hM
  have K0 := rRuleMay_any r hw
  rw [hm] at K0
  have H0 := Sd.mk (heldS (fun _ h => h.1) KS K0)
  have HG0 := Sd.mk (heldS (fun _ h => h.1) KS G0)
  clear KS hM K0 hm _hok hw hh G0 b0
  go_enter Try.func84, Try.ntmps84
  go_upto_region 1 with fail
  rw [show (w.alloc (.cells #[.int .i64 r.id, .int .u32 r.src.a, .int .i64 r.src.n, .int .u32 r.dst.a, .int .i64 r.dst.n, .int .u16 r.sp.lo, .int .u16 r.sp.hi, .int .u16 r.dp.lo, .int .u16 r.dp.hi, .int .u8 r.pr.v, .int .u8 r.pr.c, .int .i64 r.act] 60)).alloc (.cells #[.int .u32 h.src, .int .u32 h.dst, .int .u16 h.sp, .int .u16 h.dp, .int .u8 h.pr] 28) = M from HMM.out.symm]
  refine wp_region_listC (C := RulHS M w.heap.size (w.heap.size + 1) r h) (HKS.out _ (Below.refl _ _)) ?_
  repeat (first
    | go_big_quiet_skip
    | (go_big_quiet_want
       first
         | (refine quiet_run ?_
            apply Exists.intro
            refine ⟨fun w hw => ?_, ?_⟩
            · ((unfold RulHS at hw); go_split_ands; go_simp; (try with_reducible rfl))
            go_big_quiet_on
            try simp only [Act.put, List.setIfInBounds_toArray, List.set_cons_zero, List.set_cons_succ])
         | (apply Exists.intro
            refine ⟨fun w hw => ?_, ?_⟩
            · (unfold Oper.quietAt; go_simp; first | (with_reducible exact H0.out _ hw))
            go_big_quiet_on
            try simp only [Act.put, List.setIfInBounds_toArray, List.set_cons_zero, List.set_cons_succ])))
  refine wpQuiet_nil ?_
  intro W hW
  have HW := Sd.mk hW
  unfold RulHS at hW
  obtain ⟨_, c0, c1, c2, c3, c4, c5, c6, c7, c8, c9, c10, c11, d0, d1, d2, d3, d4⟩ := hW
  go_upto_region 4 with fail
  clear c0 c1 c2 c3 c4 c5 c6 c7 c8 c9 c10 c11 d0 d1 d2 d3 d4
  refine wp_region_listC (C := RulHS M w.heap.size (w.heap.size + 1) r h) (HW.out) ?_
  repeat (first
    | go_big_quiet_skip
    | (go_big_quiet_want
       first
         | (refine quiet_run ?_
            apply Exists.intro
            refine ⟨fun w hw => ?_, ?_⟩
            · ((unfold RulHS at hw); go_split_ands; go_simp; (try with_reducible rfl))
            go_big_quiet_on
            try simp only [Act.put, List.setIfInBounds_toArray, List.set_cons_zero, List.set_cons_succ])
         | (apply Exists.intro
            refine ⟨fun w hw => ?_, ?_⟩
            · (unfold Oper.quietAt; go_simp; first | (with_reducible exact HG0.out _ hw))
            go_big_quiet_on
            try simp only [Act.put, List.setIfInBounds_toArray, List.set_cons_zero, List.set_cons_succ])))
  refine wpQuiet_nil ?_
  intro W hW
  have HWW : Sd (Below w.heap.size w W) := ⟨beyond HWM.out hW.1⟩
  clear hW
  go_wp2
  go_ret
  exact ⟨rfl, HWW.out⟩
set_option maxHeartbeats 1000000 in
set_option maxRecDepth 100000 in
theorem rMatch_5 (r : Rul) (hw : r.Wf) (h : Hdr) (hh : h.Wf) (w : World) (hm : r.may = true) (_hok : r.pr.ck = 0) (p0 : r.sp.lo ≤ h.sp) (p1 : h.sp ≤ r.sp.hi) (p2 : r.dp.lo ≤ h.dp) (p3 : h.dp ≤ r.dp.hi) (b0 : r.src.has h.src = true) (b1 : r.dst.has h.dst = false) : Calls Try.prog 84 #[.agg #[.int .i64 r.id, .int .u32 r.src.a, .int .i64 r.src.n, .int .u32 r.dst.a, .int .i64 r.dst.n, .int .u16 r.sp.lo, .int .u16 r.sp.hi, .int .u16 r.dp.lo, .int .u16 r.dp.hi, .int .u8 r.pr.v, .int .u8 r.pr.c, .int .i64 r.act], .agg #[.int .u32 h.src, .int .u32 h.dst, .int .u16 h.sp, .int .u16 h.dp, .int .u8 h.pr]] w fun e w' => e = .returned (.bool false) ∧ Below w.heap.size w w' := by
  have q0 : (r.sp.lo : Int) ≤ (h.sp : Int) := by omega
  have q1 : (h.sp : Int) ≤ (r.sp.hi : Int) := by omega
  have q2 : (r.dp.lo : Int) ≤ (h.dp : Int) := by omega
  have q3 : (h.dp : Int) ≤ (r.dp.hi : Int) := by omega
  have G0 := rPfxHas_any r.src hw.src h.src hh.src
  rw [b0] at G0
  have G1 := rPfxHas_any r.dst hw.dst h.dst hh.dst
  rw [b1] at G1
  obtain ⟨M, hM⟩ : ∃ M, M = (w.alloc (.cells #[.int .i64 r.id, .int .u32 r.src.a, .int .i64 r.src.n, .int .u32 r.dst.a, .int .i64 r.dst.n, .int .u16 r.sp.lo, .int .u16 r.sp.hi, .int .u16 r.dp.lo, .int .u16 r.dp.hi, .int .u8 r.pr.v, .int .u8 r.pr.c, .int .i64 r.act] 60)).alloc (.cells #[.int .u32 h.src, .int .u32 h.dst, .int .u16 h.sp, .int .u16 h.dp, .int .u8 h.pr] 28) := ⟨_, rfl⟩
  have HWM : Sd (Below w.heap.size w M) := ⟨by rw [hM]; exact below_alloc (below_alloc (Below.refl _ _) _) _⟩
  have KS := rulHS (M := M) (B := w.heap.size) (H := w.heap.size + 1) (r := r) (h := h) (by rw [hM]; exact (Blk.new _ _ _).alloc _) (by rw [hM]; exact blkN (by simp) _ _)
  have HKS := Sd.mk KS
  have HMM := Sd.mk hM
  have K0 := rRuleMay_any r hw
  rw [hm] at K0
  have H0 := Sd.mk (heldS (fun _ h => h.1) KS K0)
  have HG0 := Sd.mk (heldS (fun _ h => h.1) KS G0)
  have HG1 := Sd.mk (heldS (fun _ h => h.1) KS G1)
  clear KS hM K0 hm _hok hw hh G0 b0 G1 b1
  go_enter Try.func84, Try.ntmps84
  go_upto_region 1 with fail
  rw [show (w.alloc (.cells #[.int .i64 r.id, .int .u32 r.src.a, .int .i64 r.src.n, .int .u32 r.dst.a, .int .i64 r.dst.n, .int .u16 r.sp.lo, .int .u16 r.sp.hi, .int .u16 r.dp.lo, .int .u16 r.dp.hi, .int .u8 r.pr.v, .int .u8 r.pr.c, .int .i64 r.act] 60)).alloc (.cells #[.int .u32 h.src, .int .u32 h.dst, .int .u16 h.sp, .int .u16 h.dp, .int .u8 h.pr] 28) = M from HMM.out.symm]
  refine wp_region_listC (C := RulHS M w.heap.size (w.heap.size + 1) r h) (HKS.out _ (Below.refl _ _)) ?_
  repeat (first
    | go_big_quiet_skip
    | (go_big_quiet_want
       first
         | (refine quiet_run ?_
            apply Exists.intro
            refine ⟨fun w hw => ?_, ?_⟩
            · ((unfold RulHS at hw); go_split_ands; go_simp; (try with_reducible rfl))
            go_big_quiet_on
            try simp only [Act.put, List.setIfInBounds_toArray, List.set_cons_zero, List.set_cons_succ])
         | (apply Exists.intro
            refine ⟨fun w hw => ?_, ?_⟩
            · (unfold Oper.quietAt; go_simp; first | (with_reducible exact H0.out _ hw))
            go_big_quiet_on
            try simp only [Act.put, List.setIfInBounds_toArray, List.set_cons_zero, List.set_cons_succ])))
  refine wpQuiet_nil ?_
  intro W hW
  have HW := Sd.mk hW
  unfold RulHS at hW
  obtain ⟨_, c0, c1, c2, c3, c4, c5, c6, c7, c8, c9, c10, c11, d0, d1, d2, d3, d4⟩ := hW
  go_upto_region 4 with fail
  clear c0 c1 c2 c3 c4 c5 c6 c7 c8 c9 c10 c11 d0 d1 d2 d3 d4
  refine wp_region_listC (C := RulHS M w.heap.size (w.heap.size + 1) r h) (HW.out) ?_
  repeat (first
    | go_big_quiet_skip
    | (go_big_quiet_want
       first
         | (refine quiet_run ?_
            apply Exists.intro
            refine ⟨fun w hw => ?_, ?_⟩
            · ((unfold RulHS at hw); go_split_ands; go_simp; (try with_reducible rfl))
            go_big_quiet_on
            try simp only [Act.put, List.setIfInBounds_toArray, List.set_cons_zero, List.set_cons_succ])
         | (apply Exists.intro
            refine ⟨fun w hw => ?_, ?_⟩
            · (unfold Oper.quietAt; go_simp; first | (with_reducible exact HG0.out _ hw) | (with_reducible exact HG1.out _ hw))
            go_big_quiet_on
            try simp only [Act.put, List.setIfInBounds_toArray, List.set_cons_zero, List.set_cons_succ])))
  refine wpQuiet_nil ?_
  intro W hW
  have HWW : Sd (Below w.heap.size w W) := ⟨beyond HWM.out hW.1⟩
  clear hW
  go_wp2
  go_ret
  exact ⟨rfl, HWW.out⟩
set_option maxHeartbeats 1000000 in
set_option maxRecDepth 100000 in
theorem rMatch_6 (r : Rul) (hw : r.Wf) (h : Hdr) (hh : h.Wf) (w : World) (hm : r.may = true) (hok : r.pr.ck = 0) (p0 : r.sp.lo ≤ h.sp) (p1 : h.sp ≤ r.sp.hi) (p2 : r.dp.lo ≤ h.dp) (p3 : h.dp ≤ r.dp.hi) (b0 : r.src.has h.src = true) (b1 : r.dst.has h.dst = true) (b2 : r.pr.has h.pr = false) : Calls Try.prog 84 #[.agg #[.int .i64 r.id, .int .u32 r.src.a, .int .i64 r.src.n, .int .u32 r.dst.a, .int .i64 r.dst.n, .int .u16 r.sp.lo, .int .u16 r.sp.hi, .int .u16 r.dp.lo, .int .u16 r.dp.hi, .int .u8 r.pr.v, .int .u8 r.pr.c, .int .i64 r.act], .agg #[.int .u32 h.src, .int .u32 h.dst, .int .u16 h.sp, .int .u16 h.dp, .int .u8 h.pr]] w fun e w' => e = .returned (.bool false) ∧ Below w.heap.size w w' := by
  have q0 : (r.sp.lo : Int) ≤ (h.sp : Int) := by omega
  have q1 : (h.sp : Int) ≤ (r.sp.hi : Int) := by omega
  have q2 : (r.dp.lo : Int) ≤ (h.dp : Int) := by omega
  have q3 : (h.dp : Int) ≤ (r.dp.hi : Int) := by omega
  have G0 := rPfxHas_any r.src hw.src h.src hh.src
  rw [b0] at G0
  have G1 := rPfxHas_any r.dst hw.dst h.dst hh.dst
  rw [b1] at G1
  have G2 := rMskHas_any r.pr hw.pr hok h.pr hh.pr
  rw [b2] at G2
  obtain ⟨M, hM⟩ : ∃ M, M = (w.alloc (.cells #[.int .i64 r.id, .int .u32 r.src.a, .int .i64 r.src.n, .int .u32 r.dst.a, .int .i64 r.dst.n, .int .u16 r.sp.lo, .int .u16 r.sp.hi, .int .u16 r.dp.lo, .int .u16 r.dp.hi, .int .u8 r.pr.v, .int .u8 r.pr.c, .int .i64 r.act] 60)).alloc (.cells #[.int .u32 h.src, .int .u32 h.dst, .int .u16 h.sp, .int .u16 h.dp, .int .u8 h.pr] 28) := ⟨_, rfl⟩
  have HWM : Sd (Below w.heap.size w M) := ⟨by rw [hM]; exact below_alloc (below_alloc (Below.refl _ _) _) _⟩
  have KS := rulHS (M := M) (B := w.heap.size) (H := w.heap.size + 1) (r := r) (h := h) (by rw [hM]; exact (Blk.new _ _ _).alloc _) (by rw [hM]; exact blkN (by simp) _ _)
  have HKS := Sd.mk KS
  have HMM := Sd.mk hM
  have K0 := rRuleMay_any r hw
  rw [hm] at K0
  have H0 := Sd.mk (heldS (fun _ h => h.1) KS K0)
  have HG0 := Sd.mk (heldS (fun _ h => h.1) KS G0)
  have HG1 := Sd.mk (heldS (fun _ h => h.1) KS G1)
  have HG2 := Sd.mk (heldS (fun _ h => h.1) KS G2)
  clear KS hM K0 hm hok hw hh G0 b0 G1 b1 G2 b2
  go_enter Try.func84, Try.ntmps84
  go_upto_region 1 with fail
  rw [show (w.alloc (.cells #[.int .i64 r.id, .int .u32 r.src.a, .int .i64 r.src.n, .int .u32 r.dst.a, .int .i64 r.dst.n, .int .u16 r.sp.lo, .int .u16 r.sp.hi, .int .u16 r.dp.lo, .int .u16 r.dp.hi, .int .u8 r.pr.v, .int .u8 r.pr.c, .int .i64 r.act] 60)).alloc (.cells #[.int .u32 h.src, .int .u32 h.dst, .int .u16 h.sp, .int .u16 h.dp, .int .u8 h.pr] 28) = M from HMM.out.symm]
  refine wp_region_listC (C := RulHS M w.heap.size (w.heap.size + 1) r h) (HKS.out _ (Below.refl _ _)) ?_
  repeat (first
    | go_big_quiet_skip
    | (go_big_quiet_want
       first
         | (refine quiet_run ?_
            apply Exists.intro
            refine ⟨fun w hw => ?_, ?_⟩
            · ((unfold RulHS at hw); go_split_ands; go_simp; (try with_reducible rfl))
            go_big_quiet_on
            try simp only [Act.put, List.setIfInBounds_toArray, List.set_cons_zero, List.set_cons_succ])
         | (apply Exists.intro
            refine ⟨fun w hw => ?_, ?_⟩
            · (unfold Oper.quietAt; go_simp; first | (with_reducible exact H0.out _ hw))
            go_big_quiet_on
            try simp only [Act.put, List.setIfInBounds_toArray, List.set_cons_zero, List.set_cons_succ])))
  refine wpQuiet_nil ?_
  intro W hW
  have HW := Sd.mk hW
  unfold RulHS at hW
  obtain ⟨_, c0, c1, c2, c3, c4, c5, c6, c7, c8, c9, c10, c11, d0, d1, d2, d3, d4⟩ := hW
  go_upto_region 4 with fail
  clear c0 c1 c2 c3 c4 c5 c6 c7 c8 c9 c10 c11 d0 d1 d2 d3 d4
  refine wp_region_listC (C := RulHS M w.heap.size (w.heap.size + 1) r h) (HW.out) ?_
  repeat (first
    | go_big_quiet_skip
    | (go_big_quiet_want
       first
         | (refine quiet_run ?_
            apply Exists.intro
            refine ⟨fun w hw => ?_, ?_⟩
            · ((unfold RulHS at hw); go_split_ands; go_simp; (try with_reducible rfl))
            go_big_quiet_on
            try simp only [Act.put, List.setIfInBounds_toArray, List.set_cons_zero, List.set_cons_succ])
         | (apply Exists.intro
            refine ⟨fun w hw => ?_, ?_⟩
            · (unfold Oper.quietAt; go_simp; first | (with_reducible exact HG0.out _ hw) | (with_reducible exact HG1.out _ hw) | (with_reducible exact HG2.out _ hw))
            go_big_quiet_on
            try simp only [Act.put, List.setIfInBounds_toArray, List.set_cons_zero, List.set_cons_succ])))
  refine wpQuiet_nil ?_
  intro W hW
  have HWW : Sd (Below w.heap.size w W) := ⟨beyond HWM.out hW.1⟩
  clear hW
  go_wp2
  go_ret
  exact ⟨rfl, HWW.out⟩
set_option maxHeartbeats 1000000 in
set_option maxRecDepth 100000 in
theorem rMatch_7 (r : Rul) (hw : r.Wf) (h : Hdr) (hh : h.Wf) (w : World) (hm : r.may = true) (hok : r.pr.ck = 0) (p0 : r.sp.lo ≤ h.sp) (p1 : h.sp ≤ r.sp.hi) (p2 : r.dp.lo ≤ h.dp) (p3 : h.dp ≤ r.dp.hi) (b0 : r.src.has h.src = true) (b1 : r.dst.has h.dst = true) (b2 : r.pr.has h.pr = true) : Calls Try.prog 84 #[.agg #[.int .i64 r.id, .int .u32 r.src.a, .int .i64 r.src.n, .int .u32 r.dst.a, .int .i64 r.dst.n, .int .u16 r.sp.lo, .int .u16 r.sp.hi, .int .u16 r.dp.lo, .int .u16 r.dp.hi, .int .u8 r.pr.v, .int .u8 r.pr.c, .int .i64 r.act], .agg #[.int .u32 h.src, .int .u32 h.dst, .int .u16 h.sp, .int .u16 h.dp, .int .u8 h.pr]] w fun e w' => e = .returned (.bool true) ∧ Below w.heap.size w w' := by
  have q0 : (r.sp.lo : Int) ≤ (h.sp : Int) := by omega
  have q1 : (h.sp : Int) ≤ (r.sp.hi : Int) := by omega
  have q2 : (r.dp.lo : Int) ≤ (h.dp : Int) := by omega
  have q3 : (h.dp : Int) ≤ (r.dp.hi : Int) := by omega
  have G0 := rPfxHas_any r.src hw.src h.src hh.src
  rw [b0] at G0
  have G1 := rPfxHas_any r.dst hw.dst h.dst hh.dst
  rw [b1] at G1
  have G2 := rMskHas_any r.pr hw.pr hok h.pr hh.pr
  rw [b2] at G2
  obtain ⟨M, hM⟩ : ∃ M, M = (w.alloc (.cells #[.int .i64 r.id, .int .u32 r.src.a, .int .i64 r.src.n, .int .u32 r.dst.a, .int .i64 r.dst.n, .int .u16 r.sp.lo, .int .u16 r.sp.hi, .int .u16 r.dp.lo, .int .u16 r.dp.hi, .int .u8 r.pr.v, .int .u8 r.pr.c, .int .i64 r.act] 60)).alloc (.cells #[.int .u32 h.src, .int .u32 h.dst, .int .u16 h.sp, .int .u16 h.dp, .int .u8 h.pr] 28) := ⟨_, rfl⟩
  have HWM : Sd (Below w.heap.size w M) := ⟨by rw [hM]; exact below_alloc (below_alloc (Below.refl _ _) _) _⟩
  have KS := rulHS (M := M) (B := w.heap.size) (H := w.heap.size + 1) (r := r) (h := h) (by rw [hM]; exact (Blk.new _ _ _).alloc _) (by rw [hM]; exact blkN (by simp) _ _)
  have HKS := Sd.mk KS
  have HMM := Sd.mk hM
  have K0 := rRuleMay_any r hw
  rw [hm] at K0
  have H0 := Sd.mk (heldS (fun _ h => h.1) KS K0)
  have HG0 := Sd.mk (heldS (fun _ h => h.1) KS G0)
  have HG1 := Sd.mk (heldS (fun _ h => h.1) KS G1)
  have HG2 := Sd.mk (heldS (fun _ h => h.1) KS G2)
  clear KS hM K0 hm hok hw hh G0 b0 G1 b1 G2 b2
  go_enter Try.func84, Try.ntmps84
  go_upto_region 1 with fail
  rw [show (w.alloc (.cells #[.int .i64 r.id, .int .u32 r.src.a, .int .i64 r.src.n, .int .u32 r.dst.a, .int .i64 r.dst.n, .int .u16 r.sp.lo, .int .u16 r.sp.hi, .int .u16 r.dp.lo, .int .u16 r.dp.hi, .int .u8 r.pr.v, .int .u8 r.pr.c, .int .i64 r.act] 60)).alloc (.cells #[.int .u32 h.src, .int .u32 h.dst, .int .u16 h.sp, .int .u16 h.dp, .int .u8 h.pr] 28) = M from HMM.out.symm]
  refine wp_region_listC (C := RulHS M w.heap.size (w.heap.size + 1) r h) (HKS.out _ (Below.refl _ _)) ?_
  repeat (first
    | go_big_quiet_skip
    | (go_big_quiet_want
       first
         | (refine quiet_run ?_
            apply Exists.intro
            refine ⟨fun w hw => ?_, ?_⟩
            · ((unfold RulHS at hw); go_split_ands; go_simp; (try with_reducible rfl))
            go_big_quiet_on
            try simp only [Act.put, List.setIfInBounds_toArray, List.set_cons_zero, List.set_cons_succ])
         | (apply Exists.intro
            refine ⟨fun w hw => ?_, ?_⟩
            · (unfold Oper.quietAt; go_simp; first | (with_reducible exact H0.out _ hw))
            go_big_quiet_on
            try simp only [Act.put, List.setIfInBounds_toArray, List.set_cons_zero, List.set_cons_succ])))
  refine wpQuiet_nil ?_
  intro W hW
  have HW := Sd.mk hW
  unfold RulHS at hW
  obtain ⟨_, c0, c1, c2, c3, c4, c5, c6, c7, c8, c9, c10, c11, d0, d1, d2, d3, d4⟩ := hW
  go_upto_region 4 with fail
  clear c0 c1 c2 c3 c4 c5 c6 c7 c8 c9 c10 c11 d0 d1 d2 d3 d4
  refine wp_region_listC (C := RulHS M w.heap.size (w.heap.size + 1) r h) (HW.out) ?_
  repeat (first
    | go_big_quiet_skip
    | (go_big_quiet_want
       first
         | (refine quiet_run ?_
            apply Exists.intro
            refine ⟨fun w hw => ?_, ?_⟩
            · ((unfold RulHS at hw); go_split_ands; go_simp; (try with_reducible rfl))
            go_big_quiet_on
            try simp only [Act.put, List.setIfInBounds_toArray, List.set_cons_zero, List.set_cons_succ])
         | (apply Exists.intro
            refine ⟨fun w hw => ?_, ?_⟩
            · (unfold Oper.quietAt; go_simp; first | (with_reducible exact HG0.out _ hw) | (with_reducible exact HG1.out _ hw) | (with_reducible exact HG2.out _ hw))
            go_big_quiet_on
            try simp only [Act.put, List.setIfInBounds_toArray, List.set_cons_zero, List.set_cons_succ])))
  refine wpQuiet_nil ?_
  intro W hW
  have HWW : Sd (Below w.heap.size w W) := ⟨beyond HWM.out hW.1⟩
  clear hW
  go_wp2
  go_ret
  exact ⟨rfl, HWW.out⟩
theorem rMatch_not (r : Rul) (hw : r.Wf) (h : Hdr) (w : World) (hm : r.may = false) : Calls Try.prog 84 #[.agg #[.int .i64 r.id, .int .u32 r.src.a, .int .i64 r.src.n, .int .u32 r.dst.a, .int .i64 r.dst.n, .int .u16 r.sp.lo, .int .u16 r.sp.hi, .int .u16 r.dp.lo, .int .u16 r.dp.hi, .int .u8 r.pr.v, .int .u8 r.pr.c, .int .i64 r.act], .agg #[.int .u32 h.src, .int .u32 h.dst, .int .u16 h.sp, .int .u16 h.dp, .int .u8 h.pr]] w fun e w' => e = .returned (.bool false) ∧ Below w.heap.size w w' := by
  obtain ⟨M, hM⟩ : ∃ M, M = (w.alloc (.cells #[.int .i64 r.id, .int .u32 r.src.a, .int .i64 r.src.n, .int .u32 r.dst.a, .int .i64 r.dst.n, .int .u16 r.sp.lo, .int .u16 r.sp.hi, .int .u16 r.dp.lo, .int .u16 r.dp.hi, .int .u8 r.pr.v, .int .u8 r.pr.c, .int .i64 r.act] 60)).alloc (.cells #[.int .u32 h.src, .int .u32 h.dst, .int .u16 h.sp, .int .u16 h.dp, .int .u8 h.pr] 28) := ⟨_, rfl⟩
  have HWM : Sd (Below w.heap.size w M) := ⟨by rw [hM]; exact below_alloc (below_alloc (Below.refl _ _) _) _⟩
  have KS := rulHS (M := M) (B := w.heap.size) (H := w.heap.size + 1) (r := r) (h := h) (by rw [hM]; exact (Blk.new _ _ _).alloc _) (by rw [hM]; exact blkN (by simp) _ _)
  have HKS := Sd.mk KS
  have HMM := Sd.mk hM
  have K0 := rRuleMay_any r hw
  rw [hm] at K0
  have H0 := Sd.mk (heldS (fun _ h => h.1) KS K0)
  clear KS hM K0
  go_enter Try.func84, Try.ntmps84
  go_upto_region 1 with fail
  rw [show (w.alloc (.cells #[.int .i64 r.id, .int .u32 r.src.a, .int .i64 r.src.n, .int .u32 r.dst.a, .int .i64 r.dst.n, .int .u16 r.sp.lo, .int .u16 r.sp.hi, .int .u16 r.dp.lo, .int .u16 r.dp.hi, .int .u8 r.pr.v, .int .u8 r.pr.c, .int .i64 r.act] 60)).alloc (.cells #[.int .u32 h.src, .int .u32 h.dst, .int .u16 h.sp, .int .u16 h.dp, .int .u8 h.pr] 28) = M from HMM.out.symm]
  refine wp_region_listC (C := RulHS M w.heap.size (w.heap.size + 1) r h) (HKS.out _ (Below.refl _ _)) ?_
  repeat (first
    | go_big_quiet_skip
    | (go_big_quiet_want
       first
         | (refine quiet_run ?_
            apply Exists.intro
            refine ⟨fun w hw => ?_, ?_⟩
            · ((unfold RulHS at hw); go_split_ands; go_simp; (try with_reducible rfl))
            go_big_quiet_on
            try simp only [Act.put, List.setIfInBounds_toArray, List.set_cons_zero, List.set_cons_succ])
         | (apply Exists.intro
            refine ⟨fun w hw => ?_, ?_⟩
            · (unfold Oper.quietAt; go_simp; first | (with_reducible exact H0.out _ hw))
            go_big_quiet_on
            try simp only [Act.put, List.setIfInBounds_toArray, List.set_cons_zero, List.set_cons_succ])))
  refine wpQuiet_nil ?_
  intro W hW
  have HWW : Sd (Below w.heap.size w W) := ⟨beyond HWM.out hW.1⟩
  clear hW
  go_wp2
  go_ret
  exact ⟨rfl, HWW.out⟩
theorem hit_ports (r : Rul) (h : Hdr) (k : h.sp < r.sp.lo ∨ r.sp.hi < h.sp ∨ h.dp < r.dp.lo ∨ r.dp.hi < h.dp) : r.hit h = false := by
  have : r.sp.has h.sp = false ∨ r.dp.has h.dp = false := by
    unfold Spn.has
    rcases k with k | k | k | k
    · left; simp; omega
    · left; simp; omega
    · right; simp; omega
    · right; simp; omega
  unfold Rul.hit
  rcases this with k | k <;> simp [k]
theorem rMatch_any (r : Rul) (hw : r.Wf) (h : Hdr) (hh : h.Wf) (w : World) : Calls Try.prog 84 #[.agg #[.int .i64 r.id, .int .u32 r.src.a, .int .i64 r.src.n, .int .u32 r.dst.a, .int .i64 r.dst.n, .int .u16 r.sp.lo, .int .u16 r.sp.hi, .int .u16 r.dp.lo, .int .u16 r.dp.hi, .int .u8 r.pr.v, .int .u8 r.pr.c, .int .i64 r.act], .agg #[.int .u32 h.src, .int .u32 h.dst, .int .u16 h.sp, .int .u16 h.dp, .int .u8 h.pr]] w fun e w' => e = .returned (.bool (r.hit h)) ∧ Below w.heap.size w w' := by
  cases hm : r.may with
  | false => rw [show r.hit h = false from by unfold Rul.hit; simp [hm]]; exact rMatch_not r hw h w hm
  | true =>
    have hok : r.pr.ck = 0 := (r.may_iff.1 hm).2.2.2.2.2.1
    rcases Nat.lt_or_ge h.sp r.sp.lo with p0 | p0
    · rw [show r.hit h = false from by exact hit_ports r h (by omega)]; exact rMatch_0 r hw h hh w hm hok p0
    rcases Nat.lt_or_ge r.sp.hi h.sp with p1 | p1
    · rw [show r.hit h = false from by exact hit_ports r h (by omega)]; exact rMatch_1 r hw h hh w hm hok p0 p1
    rcases Nat.lt_or_ge h.dp r.dp.lo with p2 | p2
    · rw [show r.hit h = false from by exact hit_ports r h (by omega)]; exact rMatch_2 r hw h hh w hm hok p0 p1 p2
    rcases Nat.lt_or_ge r.dp.hi h.dp with p3 | p3
    · rw [show r.hit h = false from by exact hit_ports r h (by omega)]; exact rMatch_3 r hw h hh w hm hok p0 p1 p2 p3
    rcases Bool.eq_false_or_eq_true (r.src.has h.src) with b0 | b0
    rotate_left
    · rw [show r.hit h = false from by unfold Rul.hit; simp [b0]]; exact rMatch_4 r hw h hh w hm hok p0 p1 p2 p3 b0
    rcases Bool.eq_false_or_eq_true (r.dst.has h.dst) with b1 | b1
    rotate_left
    · rw [show r.hit h = false from by unfold Rul.hit; simp [b1]]; exact rMatch_5 r hw h hh w hm hok p0 p1 p2 p3 b0 b1
    rcases Bool.eq_false_or_eq_true (r.pr.has h.pr) with b2 | b2
    rotate_left
    · rw [show r.hit h = false from by unfold Rul.hit; simp [b2]]; exact rMatch_6 r hw h hh w hm hok p0 p1 p2 p3 b0 b1 b2
    rw [show r.hit h = true from by unfold Rul.hit Spn.has; simp [hm, b0, b1, b2, p0, p1, p2, p3]]; exact rMatch_7 r hw h hh w hm hok p0 p1 p2 p3 b0 b1 b2
end Go.Proofs.Ytljliopmphaoeaa
