/- The closures of package cuts: fields and halves. -/
import Derived.Test.YtljliopmphaoeaaT7
namespace Go.Proofs.Ytljliopmphaoeaa
open Go Go.RowKit Go.Proofs.Ytljliopmphaoeaa.Q

def LowS (M : World) (B O T : Nat) (h : Hdr) (fv mv : Value) (W : World) : Prop := Below M.heap.size M W ∧ W.cell? ⟨B, 0, none⟩ = some (.int .u32 h.src) ∧ W.cell? ⟨B, 1, none⟩ = some (.int .u32 h.dst) ∧ W.cell? ⟨B, 2, none⟩ = some (.int .u16 h.sp) ∧ W.cell? ⟨B, 3, none⟩ = some (.int .u16 h.dp) ∧ W.cell? ⟨B, 4, none⟩ = some (.int .u8 h.pr) ∧ W.cell? ⟨O, 0, none⟩ = some fv ∧ W.cell? ⟨T, 0, none⟩ = some mv
theorem lowS {M : World} {B O T : Nat} {h : Hdr} {fv mv : Value} (hB : Blk M B #[.int .u32 h.src, .int .u32 h.dst, .int .u16 h.sp, .int .u16 h.dp, .int .u8 h.pr] 28) (hO : M.cell? ⟨O, 0, none⟩ = some fv) (hT : M.cell? ⟨T, 0, none⟩ = some mv) (W : World) (hW : Below M.heap.size M W) : LowS M B O T h fv mv W := by
  have k := hB.below hW hB.lt
  exact ⟨hW, k.cell (i := 0) rfl, k.cell (i := 1) rfl, k.cell (i := 2) rfl, k.cell (i := 3) rfl, k.cell (i := 4) rfl, (hW.cell (World.block_lt_of_cell? M _ hO)).trans hO, (hW.cell (World.block_lt_of_cell? M _ hT)).trans hT⟩
theorem field0_any (g : Nat) (w : World) : Calls Try.prog 69 #[.pointer (some ⟨g, 0, none⟩)] w fun e w' => e = .returned (.pointer (some ⟨g, 0, none⟩)) ∧ w = w' := by
  go_enter Try.func69, Try.ntmps69
  go_wp2
  go_ret
  exact ⟨rfl, rfl⟩
theorem of0_any (h : Hdr) (w : World) : Calls Try.prog 70 #[.agg #[.int .u32 h.src, .int .u32 h.dst, .int .u16 h.sp, .int .u16 h.dp, .int .u8 h.pr]] w fun e w' => e = .returned (.int .u32 h.src) ∧ Below w.heap.size w w' := by
  go_enter Try.func70, Try.ntmps70
  go_wp2
  go_ret
  exact ⟨rfl, below_alloc (Below.refl _ _) _⟩
theorem field1_any (g : Nat) (w : World) : Calls Try.prog 71 #[.pointer (some ⟨g, 0, none⟩)] w fun e w' => e = .returned (.pointer (some ⟨g, 2, none⟩)) ∧ w = w' := by
  go_enter Try.func71, Try.ntmps71
  go_wp2
  go_ret
  exact ⟨rfl, rfl⟩
theorem of1_any (h : Hdr) (w : World) : Calls Try.prog 72 #[.agg #[.int .u32 h.src, .int .u32 h.dst, .int .u16 h.sp, .int .u16 h.dp, .int .u8 h.pr]] w fun e w' => e = .returned (.int .u32 h.dst) ∧ Below w.heap.size w w' := by
  go_enter Try.func72, Try.ntmps72
  go_wp2
  go_ret
  exact ⟨rfl, below_alloc (Below.refl _ _) _⟩
theorem field2_any (g : Nat) (w : World) : Calls Try.prog 74 #[.pointer (some ⟨g, 0, none⟩)] w fun e w' => e = .returned (.pointer (some ⟨g, 4, none⟩)) ∧ w = w' := by
  go_enter Try.func74, Try.ntmps74
  go_wp2
  go_ret
  exact ⟨rfl, rfl⟩
theorem of2_any (h : Hdr) (w : World) : Calls Try.prog 75 #[.agg #[.int .u32 h.src, .int .u32 h.dst, .int .u16 h.sp, .int .u16 h.dp, .int .u8 h.pr]] w fun e w' => e = .returned (.int .u16 h.sp) ∧ Below w.heap.size w w' := by
  go_enter Try.func75, Try.ntmps75
  go_wp2
  go_ret
  exact ⟨rfl, below_alloc (Below.refl _ _) _⟩
theorem field3_any (g : Nat) (w : World) : Calls Try.prog 76 #[.pointer (some ⟨g, 0, none⟩)] w fun e w' => e = .returned (.pointer (some ⟨g, 6, none⟩)) ∧ w = w' := by
  go_enter Try.func76, Try.ntmps76
  go_wp2
  go_ret
  exact ⟨rfl, rfl⟩
theorem of3_any (h : Hdr) (w : World) : Calls Try.prog 77 #[.agg #[.int .u32 h.src, .int .u32 h.dst, .int .u16 h.sp, .int .u16 h.dp, .int .u8 h.pr]] w fun e w' => e = .returned (.int .u16 h.dp) ∧ Below w.heap.size w w' := by
  go_enter Try.func77, Try.ntmps77
  go_wp2
  go_ret
  exact ⟨rfl, below_alloc (Below.refl _ _) _⟩
set_option maxHeartbeats 1000000 in
set_option maxRecDepth 100000 in
theorem low0_any (h : Hdr) (O T mid : Nat) (w : World) (hO : w.cell? ⟨O, 0, none⟩ = some (.func (.func 70) #[] #[])) (hT : w.cell? ⟨T, 0, none⟩ = some (.int .u32 mid)) :
    Calls Try.prog 92 #[.agg #[.int .u32 h.src, .int .u32 h.dst, .int .u16 h.sp, .int .u16 h.dp, .int .u8 h.pr], .pointer (some ⟨O, 0, none⟩), .pointer (some ⟨T, 0, none⟩)] w fun e w' => e = .returned (.bool (decide (h.src ≤ mid))) ∧ Below w.heap.size w w' := by
  obtain ⟨M, hM⟩ : ∃ M, M = w.alloc (.cells #[.int .u32 h.src, .int .u32 h.dst, .int .u16 h.sp, .int .u16 h.dp, .int .u8 h.pr] 28) := ⟨_, rfl⟩
  have hB : Blk M w.heap.size #[.int .u32 h.src, .int .u32 h.dst, .int .u16 h.sp, .int .u16 h.dp, .int .u8 h.pr] 28 := by rw [hM]; exact Blk.new _ _ _
  have HWM : Sd (Below w.heap.size w M) := ⟨by rw [hM]; exact (Below.refl _ _).alloc (Nat.le_refl _) _⟩
  have HMM := Sd.mk hM
  have KS := lowS hB (HWM.out.cell (World.block_lt_of_cell? w _ hO) |>.trans hO) (HWM.out.cell (World.block_lt_of_cell? w _ hT) |>.trans hT)
  have H1 := Sd.mk (heldS (fun _ h => h.1) KS (fun W => of0_any h W))
  have HKS := Sd.mk KS
  clear KS hB hM
  go_enter Try.func92, Try.ntmps92
  go_wp2_with fail
  rw [show w.alloc (.cells #[.int .u32 h.src, .int .u32 h.dst, .int .u16 h.sp, .int .u16 h.dp, .int .u8 h.pr] 28) = M from HMM.out.symm]
  refine wp_region_quietC (C := LowS M w.heap.size O T h (.func (.func 70) #[] #[]) (.int .u32 mid)) (by kernel_rfl) (by kernel_rfl) (HKS.out _ ((Below.refl _ _).drew)) ?_
  repeat (first
    | go_big_quiet_skip
    | (go_big_quiet_want
       first
         | (refine quiet_run ?_
            apply Exists.intro
            refine ⟨fun w hw => ?_, ?_⟩
            · ((unfold LowS at hw); go_split_ands; go_simp; (try with_reducible rfl))
            go_big_quiet_on
            try simp only [Act.put, List.setIfInBounds_toArray, List.set_cons_zero, List.set_cons_succ])
         | (apply Exists.intro
            refine ⟨fun w hw => ?_, ?_⟩
            · (unfold Oper.quietAt; go_simp; first | (with_reducible exact H1.out _ hw))
            go_big_quiet_on
            try simp only [Act.put, List.setIfInBounds_toArray, List.set_cons_zero, List.set_cons_succ])))
  refine wpQuiet_nil ?_
  intro W hW
  have HWW : Sd (Below M.heap.size M W) := ⟨hW.1⟩
  unfold LowS at hW
  go_wp2
  go_ret
  exact ⟨rfl, beyond HWM.out HWW.out⟩
set_option maxHeartbeats 1000000 in
set_option maxRecDepth 100000 in
theorem low1_any (h : Hdr) (O T mid : Nat) (w : World) (hO : w.cell? ⟨O, 0, none⟩ = some (.func (.func 72) #[] #[])) (hT : w.cell? ⟨T, 0, none⟩ = some (.int .u32 mid)) :
    Calls Try.prog 92 #[.agg #[.int .u32 h.src, .int .u32 h.dst, .int .u16 h.sp, .int .u16 h.dp, .int .u8 h.pr], .pointer (some ⟨O, 0, none⟩), .pointer (some ⟨T, 0, none⟩)] w fun e w' => e = .returned (.bool (decide (h.dst ≤ mid))) ∧ Below w.heap.size w w' := by
  obtain ⟨M, hM⟩ : ∃ M, M = w.alloc (.cells #[.int .u32 h.src, .int .u32 h.dst, .int .u16 h.sp, .int .u16 h.dp, .int .u8 h.pr] 28) := ⟨_, rfl⟩
  have hB : Blk M w.heap.size #[.int .u32 h.src, .int .u32 h.dst, .int .u16 h.sp, .int .u16 h.dp, .int .u8 h.pr] 28 := by rw [hM]; exact Blk.new _ _ _
  have HWM : Sd (Below w.heap.size w M) := ⟨by rw [hM]; exact (Below.refl _ _).alloc (Nat.le_refl _) _⟩
  have HMM := Sd.mk hM
  have KS := lowS hB (HWM.out.cell (World.block_lt_of_cell? w _ hO) |>.trans hO) (HWM.out.cell (World.block_lt_of_cell? w _ hT) |>.trans hT)
  have H1 := Sd.mk (heldS (fun _ h => h.1) KS (fun W => of1_any h W))
  have HKS := Sd.mk KS
  clear KS hB hM
  go_enter Try.func92, Try.ntmps92
  go_wp2_with fail
  rw [show w.alloc (.cells #[.int .u32 h.src, .int .u32 h.dst, .int .u16 h.sp, .int .u16 h.dp, .int .u8 h.pr] 28) = M from HMM.out.symm]
  refine wp_region_quietC (C := LowS M w.heap.size O T h (.func (.func 72) #[] #[]) (.int .u32 mid)) (by kernel_rfl) (by kernel_rfl) (HKS.out _ ((Below.refl _ _).drew)) ?_
  repeat (first
    | go_big_quiet_skip
    | (go_big_quiet_want
       first
         | (refine quiet_run ?_
            apply Exists.intro
            refine ⟨fun w hw => ?_, ?_⟩
            · ((unfold LowS at hw); go_split_ands; go_simp; (try with_reducible rfl))
            go_big_quiet_on
            try simp only [Act.put, List.setIfInBounds_toArray, List.set_cons_zero, List.set_cons_succ])
         | (apply Exists.intro
            refine ⟨fun w hw => ?_, ?_⟩
            · (unfold Oper.quietAt; go_simp; first | (with_reducible exact H1.out _ hw))
            go_big_quiet_on
            try simp only [Act.put, List.setIfInBounds_toArray, List.set_cons_zero, List.set_cons_succ])))
  refine wpQuiet_nil ?_
  intro W hW
  have HWW : Sd (Below M.heap.size M W) := ⟨hW.1⟩
  unfold LowS at hW
  go_wp2
  go_ret
  exact ⟨rfl, beyond HWM.out HWW.out⟩
set_option maxHeartbeats 1000000 in
set_option maxRecDepth 100000 in
theorem low2_any (h : Hdr) (O T mid : Nat) (w : World) (hO : w.cell? ⟨O, 0, none⟩ = some (.func (.func 75) #[] #[])) (hT : w.cell? ⟨T, 0, none⟩ = some (.int .u16 mid)) :
    Calls Try.prog 94 #[.agg #[.int .u32 h.src, .int .u32 h.dst, .int .u16 h.sp, .int .u16 h.dp, .int .u8 h.pr], .pointer (some ⟨O, 0, none⟩), .pointer (some ⟨T, 0, none⟩)] w fun e w' => e = .returned (.bool (decide (h.sp ≤ mid))) ∧ Below w.heap.size w w' := by
  obtain ⟨M, hM⟩ : ∃ M, M = w.alloc (.cells #[.int .u32 h.src, .int .u32 h.dst, .int .u16 h.sp, .int .u16 h.dp, .int .u8 h.pr] 28) := ⟨_, rfl⟩
  have hB : Blk M w.heap.size #[.int .u32 h.src, .int .u32 h.dst, .int .u16 h.sp, .int .u16 h.dp, .int .u8 h.pr] 28 := by rw [hM]; exact Blk.new _ _ _
  have HWM : Sd (Below w.heap.size w M) := ⟨by rw [hM]; exact (Below.refl _ _).alloc (Nat.le_refl _) _⟩
  have HMM := Sd.mk hM
  have KS := lowS hB (HWM.out.cell (World.block_lt_of_cell? w _ hO) |>.trans hO) (HWM.out.cell (World.block_lt_of_cell? w _ hT) |>.trans hT)
  have H1 := Sd.mk (heldS (fun _ h => h.1) KS (fun W => of2_any h W))
  have HKS := Sd.mk KS
  clear KS hB hM
  go_enter Try.func94, Try.ntmps94
  go_wp2_with fail
  rw [show w.alloc (.cells #[.int .u32 h.src, .int .u32 h.dst, .int .u16 h.sp, .int .u16 h.dp, .int .u8 h.pr] 28) = M from HMM.out.symm]
  refine wp_region_quietC (C := LowS M w.heap.size O T h (.func (.func 75) #[] #[]) (.int .u16 mid)) (by kernel_rfl) (by kernel_rfl) (HKS.out _ ((Below.refl _ _).drew)) ?_
  repeat (first
    | go_big_quiet_skip
    | (go_big_quiet_want
       first
         | (refine quiet_run ?_
            apply Exists.intro
            refine ⟨fun w hw => ?_, ?_⟩
            · ((unfold LowS at hw); go_split_ands; go_simp; (try with_reducible rfl))
            go_big_quiet_on
            try simp only [Act.put, List.setIfInBounds_toArray, List.set_cons_zero, List.set_cons_succ])
         | (apply Exists.intro
            refine ⟨fun w hw => ?_, ?_⟩
            · (unfold Oper.quietAt; go_simp; first | (with_reducible exact H1.out _ hw))
            go_big_quiet_on
            try simp only [Act.put, List.setIfInBounds_toArray, List.set_cons_zero, List.set_cons_succ])))
  refine wpQuiet_nil ?_
  intro W hW
  have HWW : Sd (Below M.heap.size M W) := ⟨hW.1⟩
  unfold LowS at hW
  go_wp2
  go_ret
  exact ⟨rfl, beyond HWM.out HWW.out⟩
set_option maxHeartbeats 1000000 in
set_option maxRecDepth 100000 in
theorem low3_any (h : Hdr) (O T mid : Nat) (w : World) (hO : w.cell? ⟨O, 0, none⟩ = some (.func (.func 77) #[] #[])) (hT : w.cell? ⟨T, 0, none⟩ = some (.int .u16 mid)) :
    Calls Try.prog 94 #[.agg #[.int .u32 h.src, .int .u32 h.dst, .int .u16 h.sp, .int .u16 h.dp, .int .u8 h.pr], .pointer (some ⟨O, 0, none⟩), .pointer (some ⟨T, 0, none⟩)] w fun e w' => e = .returned (.bool (decide (h.dp ≤ mid))) ∧ Below w.heap.size w w' := by
  obtain ⟨M, hM⟩ : ∃ M, M = w.alloc (.cells #[.int .u32 h.src, .int .u32 h.dst, .int .u16 h.sp, .int .u16 h.dp, .int .u8 h.pr] 28) := ⟨_, rfl⟩
  have hB : Blk M w.heap.size #[.int .u32 h.src, .int .u32 h.dst, .int .u16 h.sp, .int .u16 h.dp, .int .u8 h.pr] 28 := by rw [hM]; exact Blk.new _ _ _
  have HWM : Sd (Below w.heap.size w M) := ⟨by rw [hM]; exact (Below.refl _ _).alloc (Nat.le_refl _) _⟩
  have HMM := Sd.mk hM
  have KS := lowS hB (HWM.out.cell (World.block_lt_of_cell? w _ hO) |>.trans hO) (HWM.out.cell (World.block_lt_of_cell? w _ hT) |>.trans hT)
  have H1 := Sd.mk (heldS (fun _ h => h.1) KS (fun W => of3_any h W))
  have HKS := Sd.mk KS
  clear KS hB hM
  go_enter Try.func94, Try.ntmps94
  go_wp2_with fail
  rw [show w.alloc (.cells #[.int .u32 h.src, .int .u32 h.dst, .int .u16 h.sp, .int .u16 h.dp, .int .u8 h.pr] 28) = M from HMM.out.symm]
  refine wp_region_quietC (C := LowS M w.heap.size O T h (.func (.func 77) #[] #[]) (.int .u16 mid)) (by kernel_rfl) (by kernel_rfl) (HKS.out _ ((Below.refl _ _).drew)) ?_
  repeat (first
    | go_big_quiet_skip
    | (go_big_quiet_want
       first
         | (refine quiet_run ?_
            apply Exists.intro
            refine ⟨fun w hw => ?_, ?_⟩
            · ((unfold LowS at hw); go_split_ands; go_simp; (try with_reducible rfl))
            go_big_quiet_on
            try simp only [Act.put, List.setIfInBounds_toArray, List.set_cons_zero, List.set_cons_succ])
         | (apply Exists.intro
            refine ⟨fun w hw => ?_, ?_⟩
            · (unfold Oper.quietAt; go_simp; first | (with_reducible exact H1.out _ hw))
            go_big_quiet_on
            try simp only [Act.put, List.setIfInBounds_toArray, List.set_cons_zero, List.set_cons_succ])))
  refine wpQuiet_nil ?_
  intro W hW
  have HWW : Sd (Below M.heap.size M W) := ⟨hW.1⟩
  unfold LowS at hW
  go_wp2
  go_ret
  exact ⟨rfl, beyond HWM.out HWW.out⟩
set_option maxHeartbeats 1000000 in
set_option maxRecDepth 100000 in
theorem low4_any (h : Hdr) (T bit : Nat) (w : World) (hh : h.pr < 256) (hb : bit < 256) (hT : w.cell? ⟨T, 0, none⟩ = some (.int .u8 bit)) :
    Calls Try.prog 96 #[.agg #[.int .u32 h.src, .int .u32 h.dst, .int .u16 h.sp, .int .u16 h.dp, .int .u8 h.pr], .pointer (some ⟨T, 0, none⟩)] w fun e w' => e = .returned (.bool (decide (h.pr &&& bit = 0))) ∧ Below w.heap.size w w' := by
  have hlT := World.block_lt_of_cell? w _ hT
  simp only [] at hlT
  go_enter Try.func96, Try.ntmps96
  go_wp2
  go_ret
  refine ⟨ret_bool ?_, below_alloc (Below.refl _ _) _⟩
  rw [u8_and_nat _ _ hh hb]
  by_cases e : h.pr &&& bit = 0
  · simp [e]
  · have e2 : ((h.pr &&& bit : Nat) : Int) ≠ 0 := by omega
    rw [decide_eq_false e]; exact beq_false_of_ne e2
end Go.Proofs.Ytljliopmphaoeaa
