/- Configurations; lists of rules in memory; what the small functions of package table give back. -/
import Derived.Test.YtljliopmphaoeaaQ10
namespace Go.Proofs.Ytljliopmphaoeaa
open Go Go.RowKit Go.Proofs.Ytljliopmphaoeaa.Q

structure Cfg where
  max : Int
  dflt : Int
  prune : Int
  grid : Int
  tuple : Int
  binth : Int
  depth : Int
def btw (n a b : Int) : Bool := decide (a ≤ n) && decide (n ≤ b)
def Cfg.ok (c : Cfg) : Bool := btw c.max 1 64 && btw c.dflt 1 4 && btw c.binth 1 16 && btw c.depth 0 10 && btw c.prune 0 1048576 && btw c.grid 0 1048576 && btw c.tuple 0 1048576
def Cfg.ck (c : Cfg) : Int := if c.ok = true then 0 else 110
theorem in_any (n a b : Int) (w : World) : Calls Try.prog 55 #[.int .i64 n, .int .i64 a, .int .i64 b] w fun e w' => e = .returned (.bool (btw n a b)) ∧ w = w' := by
  by_cases h : a ≤ n
  · have HQ : Sd (decide (n ≤ b) = btw n a b) := ⟨by unfold btw; simp [h]⟩
    go_enter Try.func55, Try.ntmps55
    go_wp2
    go_ret
    exact ⟨ret_bool HQ.out, rfl⟩
  · have HQ : Sd (false = btw n a b) := ⟨by unfold btw; simp [h]⟩
    have h' : n < a := by omega
    go_enter Try.func55, Try.ntmps55
    go_wp2
    go_ret
    exact ⟨ret_bool HQ.out, rfl⟩
def CfgS (M : World) (B : Nat) (c : Cfg) (W : World) : Prop := Below M.heap.size M W ∧ W.cell? ⟨B, 0, none⟩ = some (.int .i64 c.max) ∧ W.cell? ⟨B, 1, none⟩ = some (.int .i64 c.dflt) ∧ W.cell? ⟨B, 2, none⟩ = some (.int .i64 c.prune) ∧ W.cell? ⟨B, 3, none⟩ = some (.int .i64 c.grid) ∧ W.cell? ⟨B, 4, none⟩ = some (.int .i64 c.tuple) ∧ W.cell? ⟨B, 5, none⟩ = some (.int .i64 c.binth) ∧ W.cell? ⟨B, 6, none⟩ = some (.int .i64 c.depth)
theorem cfgS {M : World} {B : Nat} {c : Cfg} (h : Blk M B #[.int .i64 c.max, .int .i64 c.dflt, .int .i64 c.prune, .int .i64 c.grid, .int .i64 c.tuple, .int .i64 c.binth, .int .i64 c.depth] 24) (W : World) (hW : Below M.heap.size M W) : CfgS M B c W := by
  have k := h.below hW h.lt
  exact ⟨hW, k.cell (i := 0) rfl, k.cell (i := 1) rfl, k.cell (i := 2) rfl, k.cell (i := 3) rfl, k.cell (i := 4) rfl, k.cell (i := 5) rfl, k.cell (i := 6) rfl⟩
theorem keepSame {P : Program} {f : FuncId} {args : Array Value} {r : Value} {C : World → Prop} (K : ∀ W, Calls P f args W fun e w' => e = .returned r ∧ W = w') (W : World) (hW : C W) : Calls P f args W fun e w' => e = .returned r ∧ C w' :=
  (K W).mono fun _ _ h => ⟨h.1, h.2 ▸ hW⟩
set_option maxHeartbeats 2000000 in
set_option maxRecDepth 100000 in
theorem tabCheck_0 (c : Cfg) (w : World)  (b0 : btw c.max 1 64 = false) : Calls Try.prog 43 #[.agg #[.int .i64 c.max, .int .i64 c.dflt, .int .i64 c.prune, .int .i64 c.grid, .int .i64 c.tuple, .int .i64 c.binth, .int .i64 c.depth]] w fun e w' => e = .returned (.int .i64 c.ck) ∧ Below w.heap.size w w' := by
  obtain ⟨M, hM⟩ : ∃ M, M = w.alloc (.cells #[.int .i64 c.max, .int .i64 c.dflt, .int .i64 c.prune, .int .i64 c.grid, .int .i64 c.tuple, .int .i64 c.binth, .int .i64 c.depth] 24) := ⟨_, rfl⟩
  have hB : Blk M w.heap.size #[.int .i64 c.max, .int .i64 c.dflt, .int .i64 c.prune, .int .i64 c.grid, .int .i64 c.tuple, .int .i64 c.binth, .int .i64 c.depth] 24 := by rw [hM]; exact Blk.new _ _ _
  have HWM : Sd (Below w.heap.size w M) := ⟨by rw [hM]; exact below_alloc (Below.refl _ _) _⟩
  have HMM := Sd.mk hM
  have HKS := Sd.mk (cfgS hB)
  have K0 := in_any c.max 1 64
  rw [b0] at K0
  have H0 := Sd.mk (keepSame (C := CfgS M w.heap.size c) K0)
  have HCK : Sd (c.ck = 110) := ⟨by unfold Cfg.ck Cfg.ok; rw [b0]; simp⟩
  clear hM hB K0 b0
  go_enter Try.func43, Try.ntmps43
  go_upto_region 1 with fail
  rw [show w.alloc (.cells #[.int .i64 c.max, .int .i64 c.dflt, .int .i64 c.prune, .int .i64 c.grid, .int .i64 c.tuple, .int .i64 c.binth, .int .i64 c.depth] 24) = M from HMM.out.symm]
  refine wp_region_listC (C := CfgS M w.heap.size c) (HKS.out _ (Below.refl _ _)) ?_
  repeat (first
    | go_big_quiet_skip
    | (go_big_quiet_want
       first
         | (refine quiet_run ?_
            apply Exists.intro
            refine ⟨fun w hw => ?_, ?_⟩
            · ((unfold CfgS at hw); go_split_ands; go_simp; (try with_reducible rfl))
            go_big_quiet_on
            try simp only [Act.put, List.setIfInBounds_toArray, List.set_cons_zero, List.set_cons_succ])
         | (apply Exists.intro
            refine ⟨fun w hw => ?_, ?_⟩
            · (unfold Oper.quietAt; go_simp; first | (with_reducible exact H0.out _ hw))
            go_big_quiet_on
            try simp only [Act.put, List.setIfInBounds_toArray, List.set_cons_zero, List.set_cons_succ])))
  refine wpQuiet_nil ?_
  intro W hW
  have HWW : Sd (Below w.heap.size w W) := ⟨beyond HWM.out hW.1⟩
  unfold CfgS at hW
  obtain ⟨_, c0, c1, c2, c3, c4, c5, c6⟩ := hW
  go_wp2
  go_loop [3, 31] (fun ov iv => ∃ k : Int, 0 ≤ k ∧ k ≤ 3 ∧ iv = .int .i64 k ∧ ov = .bool false) (fun _ iv => 3 - (intOf iv).toNat)
  case atStart => exact ⟨0, by omega, by omega, rfl, rfl⟩
  case round =>
    obtain ⟨k, hk0, hk, rfl, rfl⟩ := hrel
    obtain rfl | rfl | rfl | rfl : k = 0 ∨ k = 1 ∨ k = 2 ∨ k = 3 := by omega
    · have ix : ∀ W, (Instr.index 131 (.agg #[.int .i64 c.prune, .int .i64 c.grid, .int .i64 c.tuple]) (.int .i64 0)).run Try.prog W = .ok (.int .i64 c.prune) W := fun _ => by kernel_rfl
      go_wp2
      go_round
      case rel => exact ⟨1, by omega, by omega, rfl, rfl⟩
      case measure => decide
    · have ix : ∀ W, (Instr.index 131 (.agg #[.int .i64 c.prune, .int .i64 c.grid, .int .i64 c.tuple]) (.int .i64 1)).run Try.prog W = .ok (.int .i64 c.grid) W := fun _ => by kernel_rfl
      go_wp2
      go_round
      case rel => exact ⟨2, by omega, by omega, rfl, rfl⟩
      case measure => decide
    · have ix : ∀ W, (Instr.index 131 (.agg #[.int .i64 c.prune, .int .i64 c.grid, .int .i64 c.tuple]) (.int .i64 2)).run Try.prog W = .ok (.int .i64 c.tuple) W := fun _ => by kernel_rfl
      go_wp2
      go_round
      case rel => exact ⟨3, by omega, by omega, rfl, rfl⟩
      case measure => decide
    · go_wp2
      go_ret
      exact ⟨ret_int HCK.out.symm, HWW.out⟩
set_option maxHeartbeats 2000000 in
set_option maxRecDepth 100000 in
theorem tabCheck_1 (c : Cfg) (w : World) (b0 : btw c.max 1 64 = true) (b1 : btw c.dflt 1 4 = false) : Calls Try.prog 43 #[.agg #[.int .i64 c.max, .int .i64 c.dflt, .int .i64 c.prune, .int .i64 c.grid, .int .i64 c.tuple, .int .i64 c.binth, .int .i64 c.depth]] w fun e w' => e = .returned (.int .i64 c.ck) ∧ Below w.heap.size w w' := by
  obtain ⟨M, hM⟩ : ∃ M, M = w.alloc (.cells #[.int .i64 c.max, .int .i64 c.dflt, .int .i64 c.prune, .int .i64 c.grid, .int .i64 c.tuple, .int .i64 c.binth, .int .i64 c.depth] 24) := ⟨_, rfl⟩
  have hB : Blk M w.heap.size #[.int .i64 c.max, .int .i64 c.dflt, .int .i64 c.prune, .int .i64 c.grid, .int .i64 c.tuple, .int .i64 c.binth, .int .i64 c.depth] 24 := by rw [hM]; exact Blk.new _ _ _
  have HWM : Sd (Below w.heap.size w M) := ⟨by rw [hM]; exact below_alloc (Below.refl _ _) _⟩
  have HMM := Sd.mk hM
  have HKS := Sd.mk (cfgS hB)
  have K0 := in_any c.max 1 64
  rw [b0] at K0
  have H0 := Sd.mk (keepSame (C := CfgS M w.heap.size c) K0)
  have K1 := in_any c.dflt 1 4
  rw [b1] at K1
  have H1 := Sd.mk (keepSame (C := CfgS M w.heap.size c) K1)
  have HCK : Sd (c.ck = 110) := ⟨by unfold Cfg.ck Cfg.ok; rw [b0, b1]; simp⟩
  clear hM hB K0 b0 K1 b1
  go_enter Try.func43, Try.ntmps43
  go_upto_region 1 with fail
  rw [show w.alloc (.cells #[.int .i64 c.max, .int .i64 c.dflt, .int .i64 c.prune, .int .i64 c.grid, .int .i64 c.tuple, .int .i64 c.binth, .int .i64 c.depth] 24) = M from HMM.out.symm]
  refine wp_region_listC (C := CfgS M w.heap.size c) (HKS.out _ (Below.refl _ _)) ?_
  repeat (first
    | go_big_quiet_skip
    | (go_big_quiet_want
       first
         | (refine quiet_run ?_
            apply Exists.intro
            refine ⟨fun w hw => ?_, ?_⟩
            · ((unfold CfgS at hw); go_split_ands; go_simp; (try with_reducible rfl))
            go_big_quiet_on
            try simp only [Act.put, List.setIfInBounds_toArray, List.set_cons_zero, List.set_cons_succ])
         | (apply Exists.intro
            refine ⟨fun w hw => ?_, ?_⟩
            · (unfold Oper.quietAt; go_simp; first | (with_reducible exact H0.out _ hw) | (with_reducible exact H1.out _ hw))
            go_big_quiet_on
            try simp only [Act.put, List.setIfInBounds_toArray, List.set_cons_zero, List.set_cons_succ])))
  refine wpQuiet_nil ?_
  intro W hW
  have HWW : Sd (Below w.heap.size w W) := ⟨beyond HWM.out hW.1⟩
  unfold CfgS at hW
  obtain ⟨_, c0, c1, c2, c3, c4, c5, c6⟩ := hW
  go_wp2
  go_loop [3, 31] (fun ov iv => ∃ k : Int, 0 ≤ k ∧ k ≤ 3 ∧ iv = .int .i64 k ∧ ov = .bool false) (fun _ iv => 3 - (intOf iv).toNat)
  case atStart => exact ⟨0, by omega, by omega, rfl, rfl⟩
  case round =>
    obtain ⟨k, hk0, hk, rfl, rfl⟩ := hrel
    obtain rfl | rfl | rfl | rfl : k = 0 ∨ k = 1 ∨ k = 2 ∨ k = 3 := by omega
    · have ix : ∀ W, (Instr.index 131 (.agg #[.int .i64 c.prune, .int .i64 c.grid, .int .i64 c.tuple]) (.int .i64 0)).run Try.prog W = .ok (.int .i64 c.prune) W := fun _ => by kernel_rfl
      go_wp2
      go_round
      case rel => exact ⟨1, by omega, by omega, rfl, rfl⟩
      case measure => decide
    · have ix : ∀ W, (Instr.index 131 (.agg #[.int .i64 c.prune, .int .i64 c.grid, .int .i64 c.tuple]) (.int .i64 1)).run Try.prog W = .ok (.int .i64 c.grid) W := fun _ => by kernel_rfl
      go_wp2
      go_round
      case rel => exact ⟨2, by omega, by omega, rfl, rfl⟩
      case measure => decide
    · have ix : ∀ W, (Instr.index 131 (.agg #[.int .i64 c.prune, .int .i64 c.grid, .int .i64 c.tuple]) (.int .i64 2)).run Try.prog W = .ok (.int .i64 c.tuple) W := fun _ => by kernel_rfl
      go_wp2
      go_round
      case rel => exact ⟨3, by omega, by omega, rfl, rfl⟩
      case measure => decide
    · go_wp2
      go_ret
      exact ⟨ret_int HCK.out.symm, HWW.out⟩
set_option maxHeartbeats 2000000 in
set_option maxRecDepth 100000 in
theorem tabCheck_2 (c : Cfg) (w : World) (b0 : btw c.max 1 64 = true) (b1 : btw c.dflt 1 4 = true) (b2 : btw c.binth 1 16 = false) : Calls Try.prog 43 #[.agg #[.int .i64 c.max, .int .i64 c.dflt, .int .i64 c.prune, .int .i64 c.grid, .int .i64 c.tuple, .int .i64 c.binth, .int .i64 c.depth]] w fun e w' => e = .returned (.int .i64 c.ck) ∧ Below w.heap.size w w' := by
  obtain ⟨M, hM⟩ : ∃ M, M = w.alloc (.cells #[.int .i64 c.max, .int .i64 c.dflt, .int .i64 c.prune, .int .i64 c.grid, .int .i64 c.tuple, .int .i64 c.binth, .int .i64 c.depth] 24) := ⟨_, rfl⟩
  have hB : Blk M w.heap.size #[.int .i64 c.max, .int .i64 c.dflt, .int .i64 c.prune, .int .i64 c.grid, .int .i64 c.tuple, .int .i64 c.binth, .int .i64 c.depth] 24 := by rw [hM]; exact Blk.new _ _ _
  have HWM : Sd (Below w.heap.size w M) := ⟨by rw [hM]; exact below_alloc (Below.refl _ _) _⟩
  have HMM := Sd.mk hM
  have HKS := Sd.mk (cfgS hB)
  have K0 := in_any c.max 1 64
  rw [b0] at K0
  have H0 := Sd.mk (keepSame (C := CfgS M w.heap.size c) K0)
  have K1 := in_any c.dflt 1 4
  rw [b1] at K1
  have H1 := Sd.mk (keepSame (C := CfgS M w.heap.size c) K1)
  have K2 := in_any c.binth 1 16
  rw [b2] at K2
  have H2 := Sd.mk (keepSame (C := CfgS M w.heap.size c) K2)
  have HCK : Sd (c.ck = 110) := ⟨by unfold Cfg.ck Cfg.ok; rw [b0, b1, b2]; simp⟩
  clear hM hB K0 b0 K1 b1 K2 b2
  go_enter Try.func43, Try.ntmps43
  go_upto_region 1 with fail
  rw [show w.alloc (.cells #[.int .i64 c.max, .int .i64 c.dflt, .int .i64 c.prune, .int .i64 c.grid, .int .i64 c.tuple, .int .i64 c.binth, .int .i64 c.depth] 24) = M from HMM.out.symm]
  refine wp_region_listC (C := CfgS M w.heap.size c) (HKS.out _ (Below.refl _ _)) ?_
  repeat (first
    | go_big_quiet_skip
    | (go_big_quiet_want
       first
         | (refine quiet_run ?_
            apply Exists.intro
            refine ⟨fun w hw => ?_, ?_⟩
            · ((unfold CfgS at hw); go_split_ands; go_simp; (try with_reducible rfl))
            go_big_quiet_on
            try simp only [Act.put, List.setIfInBounds_toArray, List.set_cons_zero, List.set_cons_succ])
         | (apply Exists.intro
            refine ⟨fun w hw => ?_, ?_⟩
            · (unfold Oper.quietAt; go_simp; first | (with_reducible exact H0.out _ hw) | (with_reducible exact H1.out _ hw) | (with_reducible exact H2.out _ hw))
            go_big_quiet_on
            try simp only [Act.put, List.setIfInBounds_toArray, List.set_cons_zero, List.set_cons_succ])))
  refine wpQuiet_nil ?_
  intro W hW
  have HWW : Sd (Below w.heap.size w W) := ⟨beyond HWM.out hW.1⟩
  unfold CfgS at hW
  obtain ⟨_, c0, c1, c2, c3, c4, c5, c6⟩ := hW
  go_wp2
  go_loop [3, 31] (fun ov iv => ∃ k : Int, 0 ≤ k ∧ k ≤ 3 ∧ iv = .int .i64 k ∧ ov = .bool false) (fun _ iv => 3 - (intOf iv).toNat)
  case atStart => exact ⟨0, by omega, by omega, rfl, rfl⟩
  case round =>
    obtain ⟨k, hk0, hk, rfl, rfl⟩ := hrel
    obtain rfl | rfl | rfl | rfl : k = 0 ∨ k = 1 ∨ k = 2 ∨ k = 3 := by omega
    · have ix : ∀ W, (Instr.index 131 (.agg #[.int .i64 c.prune, .int .i64 c.grid, .int .i64 c.tuple]) (.int .i64 0)).run Try.prog W = .ok (.int .i64 c.prune) W := fun _ => by kernel_rfl
      go_wp2
      go_round
      case rel => exact ⟨1, by omega, by omega, rfl, rfl⟩
      case measure => decide
    · have ix : ∀ W, (Instr.index 131 (.agg #[.int .i64 c.prune, .int .i64 c.grid, .int .i64 c.tuple]) (.int .i64 1)).run Try.prog W = .ok (.int .i64 c.grid) W := fun _ => by kernel_rfl
      go_wp2
      go_round
      case rel => exact ⟨2, by omega, by omega, rfl, rfl⟩
      case measure => decide
    · have ix : ∀ W, (Instr.index 131 (.agg #[.int .i64 c.prune, .int .i64 c.grid, .int .i64 c.tuple]) (.int .i64 2)).run Try.prog W = .ok (.int .i64 c.tuple) W := fun _ => by kernel_rfl
      go_wp2
      go_round
      case rel => exact ⟨3, by omega, by omega, rfl, rfl⟩
      case measure => decide
    · go_wp2
      go_ret
      exact ⟨ret_int HCK.out.symm, HWW.out⟩
set_option maxHeartbeats 2000000 in
set_option maxRecDepth 100000 in
theorem tabCheck_3 (c : Cfg) (w : World) (b0 : btw c.max 1 64 = true) (b1 : btw c.dflt 1 4 = true) (b2 : btw c.binth 1 16 = true) (b3 : btw c.depth 0 10 = false) : Calls Try.prog 43 #[.agg #[.int .i64 c.max, .int .i64 c.dflt, .int .i64 c.prune, .int .i64 c.grid, .int .i64 c.tuple, .int .i64 c.binth, .int .i64 c.depth]] w fun e w' => e = .returned (.int .i64 c.ck) ∧ Below w.heap.size w w' := by
  obtain ⟨M, hM⟩ : ∃ M, M = w.alloc (.cells #[.int .i64 c.max, .int .i64 c.dflt, .int .i64 c.prune, .int .i64 c.grid, .int .i64 c.tuple, .int .i64 c.binth, .int .i64 c.depth] 24) := ⟨_, rfl⟩
  have hB : Blk M w.heap.size #[.int .i64 c.max, .int .i64 c.dflt, .int .i64 c.prune, .int .i64 c.grid, .int .i64 c.tuple, .int .i64 c.binth, .int .i64 c.depth] 24 := by rw [hM]; exact Blk.new _ _ _
  have HWM : Sd (Below w.heap.size w M) := ⟨by rw [hM]; exact below_alloc (Below.refl _ _) _⟩
  have HMM := Sd.mk hM
  have HKS := Sd.mk (cfgS hB)
  have K0 := in_any c.max 1 64
  rw [b0] at K0
  have H0 := Sd.mk (keepSame (C := CfgS M w.heap.size c) K0)
  have K1 := in_any c.dflt 1 4
  rw [b1] at K1
  have H1 := Sd.mk (keepSame (C := CfgS M w.heap.size c) K1)
  have K2 := in_any c.binth 1 16
  rw [b2] at K2
  have H2 := Sd.mk (keepSame (C := CfgS M w.heap.size c) K2)
  have K3 := in_any c.depth 0 10
  rw [b3] at K3
  have H3 := Sd.mk (keepSame (C := CfgS M w.heap.size c) K3)
  have HCK : Sd (c.ck = 110) := ⟨by unfold Cfg.ck Cfg.ok; rw [b0, b1, b2, b3]; simp⟩
  clear hM hB K0 b0 K1 b1 K2 b2 K3 b3
  go_enter Try.func43, Try.ntmps43
  go_upto_region 1 with fail
  rw [show w.alloc (.cells #[.int .i64 c.max, .int .i64 c.dflt, .int .i64 c.prune, .int .i64 c.grid, .int .i64 c.tuple, .int .i64 c.binth, .int .i64 c.depth] 24) = M from HMM.out.symm]
  refine wp_region_listC (C := CfgS M w.heap.size c) (HKS.out _ (Below.refl _ _)) ?_
  repeat (first
    | go_big_quiet_skip
    | (go_big_quiet_want
       first
         | (refine quiet_run ?_
            apply Exists.intro
            refine ⟨fun w hw => ?_, ?_⟩
            · ((unfold CfgS at hw); go_split_ands; go_simp; (try with_reducible rfl))
            go_big_quiet_on
            try simp only [Act.put, List.setIfInBounds_toArray, List.set_cons_zero, List.set_cons_succ])
         | (apply Exists.intro
            refine ⟨fun w hw => ?_, ?_⟩
            · (unfold Oper.quietAt; go_simp; first | (with_reducible exact H0.out _ hw) | (with_reducible exact H1.out _ hw) | (with_reducible exact H2.out _ hw) | (with_reducible exact H3.out _ hw))
            go_big_quiet_on
            try simp only [Act.put, List.setIfInBounds_toArray, List.set_cons_zero, List.set_cons_succ])))
  refine wpQuiet_nil ?_
  intro W hW
  have HWW : Sd (Below w.heap.size w W) := ⟨beyond HWM.out hW.1⟩
  unfold CfgS at hW
  obtain ⟨_, c0, c1, c2, c3, c4, c5, c6⟩ := hW
  go_wp2
  go_loop [3, 31] (fun ov iv => ∃ k : Int, 0 ≤ k ∧ k ≤ 3 ∧ iv = .int .i64 k ∧ ov = .bool false) (fun _ iv => 3 - (intOf iv).toNat)
  case atStart => exact ⟨0, by omega, by omega, rfl, rfl⟩
  case round =>
    obtain ⟨k, hk0, hk, rfl, rfl⟩ := hrel
    obtain rfl | rfl | rfl | rfl : k = 0 ∨ k = 1 ∨ k = 2 ∨ k = 3 := by omega
    · have ix : ∀ W, (Instr.index 131 (.agg #[.int .i64 c.prune, .int .i64 c.grid, .int .i64 c.tuple]) (.int .i64 0)).run Try.prog W = .ok (.int .i64 c.prune) W := fun _ => by kernel_rfl
      go_wp2
      go_round
      case rel => exact ⟨1, by omega, by omega, rfl, rfl⟩
      case measure => decide
    · have ix : ∀ W, (Instr.index 131 (.agg #[.int .i64 c.prune, .int .i64 c.grid, .int .i64 c.tuple]) (.int .i64 1)).run Try.prog W = .ok (.int .i64 c.grid) W := fun _ => by kernel_rfl
      go_wp2
      go_round
      case rel => exact ⟨2, by omega, by omega, rfl, rfl⟩
      case measure => decide
    · have ix : ∀ W, (Instr.index 131 (.agg #[.int .i64 c.prune, .int .i64 c.grid, .int .i64 c.tuple]) (.int .i64 2)).run Try.prog W = .ok (.int .i64 c.tuple) W := fun _ => by kernel_rfl
      go_wp2
      go_round
      case rel => exact ⟨3, by omega, by omega, rfl, rfl⟩
      case measure => decide
    · go_wp2
      go_ret
      exact ⟨ret_int HCK.out.symm, HWW.out⟩
set_option maxHeartbeats 2000000 in
set_option maxRecDepth 100000 in
theorem tabCheck_4 (c : Cfg) (w : World) (b0 : btw c.max 1 64 = true) (b1 : btw c.dflt 1 4 = true) (b2 : btw c.binth 1 16 = true) (b3 : btw c.depth 0 10 = true) : Calls Try.prog 43 #[.agg #[.int .i64 c.max, .int .i64 c.dflt, .int .i64 c.prune, .int .i64 c.grid, .int .i64 c.tuple, .int .i64 c.binth, .int .i64 c.depth]] w fun e w' => e = .returned (.int .i64 c.ck) ∧ Below w.heap.size w w' := by
  obtain ⟨M, hM⟩ : ∃ M, M = w.alloc (.cells #[.int .i64 c.max, .int .i64 c.dflt, .int .i64 c.prune, .int .i64 c.grid, .int .i64 c.tuple, .int .i64 c.binth, .int .i64 c.depth] 24) := ⟨_, rfl⟩
  have hB : Blk M w.heap.size #[.int .i64 c.max, .int .i64 c.dflt, .int .i64 c.prune, .int .i64 c.grid, .int .i64 c.tuple, .int .i64 c.binth, .int .i64 c.depth] 24 := by rw [hM]; exact Blk.new _ _ _
  have HWM : Sd (Below w.heap.size w M) := ⟨by rw [hM]; exact below_alloc (Below.refl _ _) _⟩
  have HMM := Sd.mk hM
  have HKS := Sd.mk (cfgS hB)
  have K0 := in_any c.max 1 64
  rw [b0] at K0
  have H0 := Sd.mk (keepSame (C := CfgS M w.heap.size c) K0)
  have K1 := in_any c.dflt 1 4
  rw [b1] at K1
  have H1 := Sd.mk (keepSame (C := CfgS M w.heap.size c) K1)
  have K2 := in_any c.binth 1 16
  rw [b2] at K2
  have H2 := Sd.mk (keepSame (C := CfgS M w.heap.size c) K2)
  have K3 := in_any c.depth 0 10
  rw [b3] at K3
  have H3 := Sd.mk (keepSame (C := CfgS M w.heap.size c) K3)
  have HCK : Sd (c.ok = (btw c.prune 0 1048576 && btw c.grid 0 1048576 && btw c.tuple 0 1048576)) := ⟨by unfold Cfg.ok; rw [b0, b1, b2, b3]; rfl⟩
  clear hM hB K0 b0 K1 b1 K2 b2 K3 b3
  go_enter Try.func43, Try.ntmps43
  go_upto_region 1 with fail
  rw [show w.alloc (.cells #[.int .i64 c.max, .int .i64 c.dflt, .int .i64 c.prune, .int .i64 c.grid, .int .i64 c.tuple, .int .i64 c.binth, .int .i64 c.depth] 24) = M from HMM.out.symm]
  refine wp_region_listC (C := CfgS M w.heap.size c) (HKS.out _ (Below.refl _ _)) ?_
  repeat (first
    | go_big_quiet_skip
    | (go_big_quiet_want
       first
         | (refine quiet_run ?_
            apply Exists.intro
            refine ⟨fun w hw => ?_, ?_⟩
            · ((unfold CfgS at hw); go_split_ands; go_simp; (try with_reducible rfl))
            go_big_quiet_on
            try simp only [Act.put, List.setIfInBounds_toArray, List.set_cons_zero, List.set_cons_succ])
         | (apply Exists.intro
            refine ⟨fun w hw => ?_, ?_⟩
            · (unfold Oper.quietAt; go_simp; first | (with_reducible exact H0.out _ hw) | (with_reducible exact H1.out _ hw) | (with_reducible exact H2.out _ hw) | (with_reducible exact H3.out _ hw))
            go_big_quiet_on
            try simp only [Act.put, List.setIfInBounds_toArray, List.set_cons_zero, List.set_cons_succ])))
  refine wpQuiet_nil ?_
  intro W hW
  have HWW : Sd (Below w.heap.size w W) := ⟨beyond HWM.out hW.1⟩
  unfold CfgS at hW
  obtain ⟨_, c0, c1, c2, c3, c4, c5, c6⟩ := hW
  go_wp2
  go_loop [3, 31] (fun ov iv => ∃ k : Int, 0 ≤ k ∧ k ≤ 3 ∧ iv = .int .i64 k ∧ ∃ o, ov = .bool o ∧ Sd (o = ((decide (k < 1) || btw c.prune 0 1048576) && (decide (k < 2) || btw c.grid 0 1048576) && (decide (k < 3) || btw c.tuple 0 1048576)))) (fun _ iv => 3 - (intOf iv).toNat)
  case atStart => exact ⟨0, by omega, by omega, rfl, true, rfl, ⟨by simp⟩⟩
  case round =>
    obtain ⟨k, hk0, hk, rfl, o, rfl, HO⟩ := hrel
    obtain rfl | rfl | rfl | rfl : k = 0 ∨ k = 1 ∨ k = 2 ∨ k = 3 := by omega
    · have ix : ∀ W, (Instr.index 131 (.agg #[.int .i64 c.prune, .int .i64 c.grid, .int .i64 c.tuple]) (.int .i64 0)).run Try.prog W = .ok (.int .i64 c.prune) W := fun _ => by kernel_rfl
      cases o with
      | true =>
        have HI := Sd.mk (in_any c.prune 0 1048576)
        go_wp2_with fail
        refine (HI.out _).mono ?_
        rintro e w2 ⟨rfl, rfl⟩
        go_wp2
        go_round
        case rel => exact ⟨1, by omega, by omega, rfl, _, rfl, ⟨by have h := HO.out; revert h; cases btw c.prune 0 1048576 <;> cases btw c.grid 0 1048576 <;> cases btw c.tuple 0 1048576 <;> decide⟩⟩
        case measure => decide
      | false =>
        go_wp2
        go_round
        case rel => exact ⟨1, by omega, by omega, rfl, _, rfl, ⟨by have h := HO.out; revert h; cases btw c.prune 0 1048576 <;> cases btw c.grid 0 1048576 <;> cases btw c.tuple 0 1048576 <;> decide⟩⟩
        case measure => decide
    · have ix : ∀ W, (Instr.index 131 (.agg #[.int .i64 c.prune, .int .i64 c.grid, .int .i64 c.tuple]) (.int .i64 1)).run Try.prog W = .ok (.int .i64 c.grid) W := fun _ => by kernel_rfl
      cases o with
      | true =>
        have HI := Sd.mk (in_any c.grid 0 1048576)
        go_wp2_with fail
        refine (HI.out _).mono ?_
        rintro e w2 ⟨rfl, rfl⟩
        go_wp2
        go_round
        case rel => exact ⟨2, by omega, by omega, rfl, _, rfl, ⟨by have h := HO.out; revert h; cases btw c.prune 0 1048576 <;> cases btw c.grid 0 1048576 <;> cases btw c.tuple 0 1048576 <;> decide⟩⟩
        case measure => decide
      | false =>
        go_wp2
        go_round
        case rel => exact ⟨2, by omega, by omega, rfl, _, rfl, ⟨by have h := HO.out; revert h; cases btw c.prune 0 1048576 <;> cases btw c.grid 0 1048576 <;> cases btw c.tuple 0 1048576 <;> decide⟩⟩
        case measure => decide
    · have ix : ∀ W, (Instr.index 131 (.agg #[.int .i64 c.prune, .int .i64 c.grid, .int .i64 c.tuple]) (.int .i64 2)).run Try.prog W = .ok (.int .i64 c.tuple) W := fun _ => by kernel_rfl
      cases o with
      | true =>
        have HI := Sd.mk (in_any c.tuple 0 1048576)
        go_wp2_with fail
        refine (HI.out _).mono ?_
        rintro e w2 ⟨rfl, rfl⟩
        go_wp2
        go_round
        case rel => exact ⟨3, by omega, by omega, rfl, _, rfl, ⟨by have h := HO.out; revert h; cases btw c.prune 0 1048576 <;> cases btw c.grid 0 1048576 <;> cases btw c.tuple 0 1048576 <;> decide⟩⟩
        case measure => decide
      | false =>
        go_wp2
        go_round
        case rel => exact ⟨3, by omega, by omega, rfl, _, rfl, ⟨by have h := HO.out; revert h; cases btw c.prune 0 1048576 <;> cases btw c.grid 0 1048576 <;> cases btw c.tuple 0 1048576 <;> decide⟩⟩
        case measure => decide
    · cases o with
      | true =>
        have HC : Sd (c.ck = 0) := ⟨by unfold Cfg.ck; rw [HCK.out]; have h := HO.out; revert h; cases btw c.prune 0 1048576 <;> cases btw c.grid 0 1048576 <;> cases btw c.tuple 0 1048576 <;> simp⟩
        go_wp2
        go_ret
        exact ⟨ret_int HC.out.symm, HWW.out⟩
      | false =>
        have HC : Sd (c.ck = 110) := ⟨by unfold Cfg.ck; rw [HCK.out]; have h := HO.out; revert h; cases btw c.prune 0 1048576 <;> cases btw c.grid 0 1048576 <;> cases btw c.tuple 0 1048576 <;> simp⟩
        go_wp2
        go_ret
        exact ⟨ret_int HC.out.symm, HWW.out⟩
theorem tabCheck_any (c : Cfg) (w : World) : Calls Try.prog 43 #[.agg #[.int .i64 c.max, .int .i64 c.dflt, .int .i64 c.prune, .int .i64 c.grid, .int .i64 c.tuple, .int .i64 c.binth, .int .i64 c.depth]] w fun e w' => e = .returned (.int .i64 c.ck) ∧ Below w.heap.size w w' := by
  cases b0 : btw c.max 1 64 with
  | false => exact tabCheck_0 c w b0
  | true =>
  cases b1 : btw c.dflt 1 4 with
  | false => exact tabCheck_1 c w b0 b1
  | true =>
  cases b2 : btw c.binth 1 16 with
  | false => exact tabCheck_2 c w b0 b1 b2
  | true =>
  cases b3 : btw c.depth 0 10 with
  | false => exact tabCheck_3 c w b0 b1 b2 b3
  | true =>
  exact tabCheck_4 c w b0 b1 b2 b3
end Go.Proofs.Ytljliopmphaoeaa
