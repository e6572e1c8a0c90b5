/- What Meet of spans and masks, Run of prefixes, Match and Box of rules give back. -/
import Derived.Test.YtljliopmphaoeaaQ2
import Derived.Deep.DeepCutAuto
namespace Go.Proofs.Ytljliopmphaoeaa
open Go Go.RowKit Go.Proofs.Ytljliopmphaoeaa.Q

theorem blkN {X : World} {N : Nat} (hN : X.heap.size = N) (cs : Array Value) (T : TypeId) : Blk (X.alloc (.cells cs T)) N cs T := hN ▸ Blk.new X cs T
theorem max_if (a b : Nat) : (if a < b then (b : Int) else (a : Int)) = ((max a b : Nat) : Int) := by split <;> omega
theorem min_if (a b : Nat) : (if b < a then (b : Int) else (a : Int)) = ((min a b : Nat) : Int) := by split <;> omega
theorem below_set {w M : World} (h : Below w.heap.size w M) {B i : Nat} {v : Value} (hB : w.heap.size ≤ B) : Below w.heap.size w (M.setCell ⟨B, i, none⟩ v) := h.setCell hB v
theorem below_alloc {w M : World} (h : Below w.heap.size w M) (o : Obj) : Below w.heap.size w (M.alloc o) := h.alloc h.size o
/-- two structs of two cells, a third one and a fourth one, beyond a world -/
def Four (M : World) (B : Nat) (a0 a1 b0 b1 c0 c1 d0 d1 : Value) (W : World) : Prop := Below M.heap.size M W ∧ W.cell? ⟨B, 0, none⟩ = some a0 ∧ W.cell? ⟨B, 1, none⟩ = some a1 ∧ W.cell? ⟨B + 1, 0, none⟩ = some b0 ∧ W.cell? ⟨B + 1, 1, none⟩ = some b1 ∧
  W.cell? ⟨B + 1 + 1, 0, none⟩ = some c0 ∧ W.cell? ⟨B + 1 + 1, 1, none⟩ = some c1 ∧ W.cell? ⟨B + 1 + 1 + 1, 0, none⟩ = some d0 ∧ W.cell? ⟨B + 1 + 1 + 1, 1, none⟩ = some d1
theorem four {M : World} {B : Nat} {a0 a1 b0 b1 c0 c1 d0 d1 : Value} {T1 T2 T3 T4 : TypeId} (h1 : Blk M B #[a0, a1] T1) (h2 : Blk M (B + 1) #[b0, b1] T2) (h3 : Blk M (B + 1 + 1) #[c0, c1] T3) (h4 : Blk M (B + 1 + 1 + 1) #[d0, d1] T4) (W : World) (h : Below M.heap.size M W) : Four M B a0 a1 b0 b1 c0 c1 d0 d1 W :=
  ⟨h, (h1.below h h1.lt).cell (i := 0) rfl, (h1.below h h1.lt).cell (i := 1) rfl, (h2.below h h2.lt).cell (i := 0) rfl, (h2.below h h2.lt).cell (i := 1) rfl, (h3.below h h3.lt).cell (i := 0) rfl, (h3.below h h3.lt).cell (i := 1) rfl, (h4.below h h4.lt).cell (i := 0) rfl, (h4.below h h4.lt).cell (i := 1) rfl⟩
set_option maxHeartbeats 1000000 in
theorem spnMeet_yes (a b : Spn) (w : World) (h1 : a.ck = 0) (h2 : b.ck = 0) (h3 : (a.meet b).ck = 0) : Calls Try.prog 88 #[.agg #[.int .u16 a.lo, .int .u16 a.hi], .agg #[.int .u16 b.lo, .int .u16 b.hi]] w fun e w' => e = .returned (.tuple #[.agg #[.int .u16 ((max a.lo b.lo : Nat) : Int), .int .u16 ((min a.hi b.hi : Nat) : Int)], .bool true]) ∧ Below w.heap.size w w' := by
  have K1 := spnMay_any a
  have K2 := spnMay_any b
  have K3 := spnMay_any (a.meet b)
  rw [decide_eq_true h1] at K1
  rw [decide_eq_true h2] at K2
  rw [decide_eq_true h3] at K3
  obtain ⟨M, hM⟩ : ∃ M, M = ((((w.alloc (.cells #[.int .u16 a.lo, .int .u16 a.hi] 56)).alloc (.cells #[.int .u16 b.lo, .int .u16 b.hi] 56)).alloc (.cells #[.int .u16 0, .int .u16 0] 56)).alloc (.cells #[.int .u16 ((max a.lo b.lo : Nat) : Int), .int .u16 ((min a.hi b.hi : Nat) : Int)] 56)) := ⟨_, rfl⟩
  have HWM : Sd (Below w.heap.size w M) := ⟨by rw [hM]; exact below_alloc (below_alloc (below_alloc (below_alloc (Below.refl _ _) _) _) _) _⟩
  have hB3 : Blk M (w.heap.size + 1 + 1) #[.int .u16 0, .int .u16 0] 56 := by rw [hM]; exact (blkN (by simp) _ _).alloc _
  have KS := four (M := M) (B := w.heap.size) (T1 := 56) (T2 := 56) (T3 := 56) (T4 := 56) (a0 := .int .u16 a.lo) (a1 := .int .u16 a.hi) (b0 := .int .u16 b.lo) (b1 := .int .u16 b.hi) (c0 := .int .u16 0) (c1 := .int .u16 0) (d0 := .int .u16 ((max a.lo b.lo : Nat) : Int)) (d1 := .int .u16 ((min a.hi b.hi : Nat) : Int))
    (by rw [hM]; exact (((Blk.new _ _ _).alloc _).alloc _).alloc _) (by rw [hM]; exact ((blkN (by simp) _ _).alloc _).alloc _) hB3 (by rw [hM]; exact blkN (by simp) _ _)
  have H1 := Sd.mk (heldS (fun _ h => h.1) KS K1)
  have H2 := Sd.mk (heldS (fun _ h => h.1) KS K2)
  have H3 := Sd.mk (heldS (fun _ h => h.1) KS K3)
  have HKS := Sd.mk KS
  have HMM := Sd.mk hM
  have HB3 := Sd.mk hB3
  clear hM KS hB3 K1 K2 K3
  unfold Spn.meet at *
  go_enter Try.func88, Try.ntmps88
  go_upto_region 2 with fail
  simp only [max_if, min_if]
  rw [show ((((w.alloc (.cells #[.int .u16 a.lo, .int .u16 a.hi] 56)).alloc (.cells #[.int .u16 b.lo, .int .u16 b.hi] 56)).alloc (.cells #[.int .u16 0, .int .u16 0] 56)).alloc (.cells #[.int .u16 ((max a.lo b.lo : Nat) : Int), .int .u16 ((min a.hi b.hi : Nat) : Int)] 56)) = M from HMM.out.symm]
  refine wp_region_listC (C := Four M w.heap.size (.int .u16 a.lo) (.int .u16 a.hi) (.int .u16 b.lo) (.int .u16 b.hi) (.int .u16 0) (.int .u16 0) (.int .u16 ((max a.lo b.lo : Nat) : Int)) (.int .u16 ((min a.hi b.hi : Nat) : Int))) (HKS.out _ (Below.refl _ _)) ?_
  repeat (first
    | go_big_quiet_skip
    | (go_big_quiet_want
       first
         | (refine quiet_run ?_
            apply Exists.intro
            refine ⟨fun w hw => ?_, ?_⟩
            · ((unfold Four at hw); go_split_ands; go_simp; (try with_reducible rfl))
            go_big_quiet_on
            try simp only [Act.put, List.setIfInBounds_toArray, List.set_cons_zero, List.set_cons_succ])
         | (apply Exists.intro
            refine ⟨fun w hw => ?_, ?_⟩
            · (unfold Oper.quietAt; go_simp; first | (with_reducible exact H1.out _ hw) | (with_reducible exact H2.out _ hw) | (with_reducible exact H3.out _ hw))
            go_big_quiet_on
            try simp only [Act.put, List.setIfInBounds_toArray, List.set_cons_zero, List.set_cons_succ])))
  refine wpQuiet_nil ?_
  intro W hW
  have hR := HB3.out.below hW.1 HB3.out.lt
  have HWW : Sd (Below w.heap.size w W) := ⟨beyond HWM.out hW.1⟩
  have rf := hR.frozen
  have rl := hR.lt
  unfold Four at hW
  obtain ⟨_, a0, a1, b0, b1, c0, c1, d0, d1⟩ := hW
  clear hR
  go_wp2
  refine bodyPost_ret (v := .tuple #[.agg #[.int .u16 ((max a.lo b.lo : Nat) : Int), .int .u16 ((min a.hi b.hi : Nat) : Int)], .bool true]) (by simp [results, Try.results88, go_sem, *]) rfl ⟨rfl, ?_⟩
  exact (HWW.out.setCell (by simp; omega) _).setCell (by simp; omega) _
set_option maxHeartbeats 1000000 in
theorem spnMeet_no1 (a b : Spn) (w : World) (h1 : ¬ a.ck = 0) : Calls Try.prog 88 #[.agg #[.int .u16 a.lo, .int .u16 a.hi], .agg #[.int .u16 b.lo, .int .u16 b.hi]] w fun e w' => e = .returned (.tuple #[.agg #[.int .u16 0, .int .u16 0], .bool false]) ∧ Below w.heap.size w w' := by
  have K1 := spnMay_any a
  have K2 := spnMay_any b
  have K3 := spnMay_any (a.meet b)
  rw [decide_eq_false h1] at K1
  obtain ⟨M, hM⟩ : ∃ M, M = ((((w.alloc (.cells #[.int .u16 a.lo, .int .u16 a.hi] 56)).alloc (.cells #[.int .u16 b.lo, .int .u16 b.hi] 56)).alloc (.cells #[.int .u16 0, .int .u16 0] 56)).alloc (.cells #[.int .u16 ((max a.lo b.lo : Nat) : Int), .int .u16 ((min a.hi b.hi : Nat) : Int)] 56)) := ⟨_, rfl⟩
  have HWM : Sd (Below w.heap.size w M) := ⟨by rw [hM]; exact below_alloc (below_alloc (below_alloc (below_alloc (Below.refl _ _) _) _) _) _⟩
  have hB3 : Blk M (w.heap.size + 1 + 1) #[.int .u16 0, .int .u16 0] 56 := by rw [hM]; exact (blkN (by simp) _ _).alloc _
  have KS := four (M := M) (B := w.heap.size) (T1 := 56) (T2 := 56) (T3 := 56) (T4 := 56) (a0 := .int .u16 a.lo) (a1 := .int .u16 a.hi) (b0 := .int .u16 b.lo) (b1 := .int .u16 b.hi) (c0 := .int .u16 0) (c1 := .int .u16 0) (d0 := .int .u16 ((max a.lo b.lo : Nat) : Int)) (d1 := .int .u16 ((min a.hi b.hi : Nat) : Int))
    (by rw [hM]; exact (((Blk.new _ _ _).alloc _).alloc _).alloc _) (by rw [hM]; exact ((blkN (by simp) _ _).alloc _).alloc _) hB3 (by rw [hM]; exact blkN (by simp) _ _)
  have H1 := Sd.mk (heldS (fun _ h => h.1) KS K1)
  have H2 := Sd.mk (heldS (fun _ h => h.1) KS K2)
  have H3 := Sd.mk (heldS (fun _ h => h.1) KS K3)
  have HKS := Sd.mk KS
  have HMM := Sd.mk hM
  have HB3 := Sd.mk hB3
  clear hM KS hB3 K1 K2 K3
  unfold Spn.meet at *
  go_enter Try.func88, Try.ntmps88
  go_upto_region 2 with fail
  simp only [max_if, min_if]
  rw [show ((((w.alloc (.cells #[.int .u16 a.lo, .int .u16 a.hi] 56)).alloc (.cells #[.int .u16 b.lo, .int .u16 b.hi] 56)).alloc (.cells #[.int .u16 0, .int .u16 0] 56)).alloc (.cells #[.int .u16 ((max a.lo b.lo : Nat) : Int), .int .u16 ((min a.hi b.hi : Nat) : Int)] 56)) = M from HMM.out.symm]
  refine wp_region_listC (C := Four M w.heap.size (.int .u16 a.lo) (.int .u16 a.hi) (.int .u16 b.lo) (.int .u16 b.hi) (.int .u16 0) (.int .u16 0) (.int .u16 ((max a.lo b.lo : Nat) : Int)) (.int .u16 ((min a.hi b.hi : Nat) : Int))) (HKS.out _ (Below.refl _ _)) ?_
  repeat (first
    | go_big_quiet_skip
    | (go_big_quiet_want
       first
         | (refine quiet_run ?_
            apply Exists.intro
            refine ⟨fun w hw => ?_, ?_⟩
            · ((unfold Four at hw); go_split_ands; go_simp; (try with_reducible rfl))
            go_big_quiet_on
            try simp only [Act.put, List.setIfInBounds_toArray, List.set_cons_zero, List.set_cons_succ])
         | (apply Exists.intro
            refine ⟨fun w hw => ?_, ?_⟩
            · (unfold Oper.quietAt; go_simp; first | (with_reducible exact H1.out _ hw) | (with_reducible exact H2.out _ hw) | (with_reducible exact H3.out _ hw))
            go_big_quiet_on
            try simp only [Act.put, List.setIfInBounds_toArray, List.set_cons_zero, List.set_cons_succ])))
  refine wpQuiet_nil ?_
  intro W hW
  have hR := HB3.out.below hW.1 HB3.out.lt
  have HWW : Sd (Below w.heap.size w W) := ⟨beyond HWM.out hW.1⟩
  have rf := hR.frozen
  have rl := hR.lt
  unfold Four at hW
  obtain ⟨_, a0, a1, b0, b1, c0, c1, d0, d1⟩ := hW
  clear hR
  go_wp2
  refine bodyPost_ret (v := .tuple #[.agg #[.int .u16 0, .int .u16 0], .bool false]) (by simp [results, Try.results88, go_sem, *]) rfl ⟨rfl, ?_⟩
  exact (HWW.out.setCell (by simp; omega) _).setCell (by simp; omega) _
set_option maxHeartbeats 1000000 in
theorem spnMeet_no2 (a b : Spn) (w : World) (h1 : a.ck = 0) (h2 : ¬ b.ck = 0) : Calls Try.prog 88 #[.agg #[.int .u16 a.lo, .int .u16 a.hi], .agg #[.int .u16 b.lo, .int .u16 b.hi]] w fun e w' => e = .returned (.tuple #[.agg #[.int .u16 0, .int .u16 0], .bool false]) ∧ Below w.heap.size w w' := by
  have K1 := spnMay_any a
  have K2 := spnMay_any b
  have K3 := spnMay_any (a.meet b)
  rw [decide_eq_true h1] at K1
  rw [decide_eq_false h2] at K2
  obtain ⟨M, hM⟩ : ∃ M, M = ((((w.alloc (.cells #[.int .u16 a.lo, .int .u16 a.hi] 56)).alloc (.cells #[.int .u16 b.lo, .int .u16 b.hi] 56)).alloc (.cells #[.int .u16 0, .int .u16 0] 56)).alloc (.cells #[.int .u16 ((max a.lo b.lo : Nat) : Int), .int .u16 ((min a.hi b.hi : Nat) : Int)] 56)) := ⟨_, rfl⟩
  have HWM : Sd (Below w.heap.size w M) := ⟨by rw [hM]; exact below_alloc (below_alloc (below_alloc (below_alloc (Below.refl _ _) _) _) _) _⟩
  have hB3 : Blk M (w.heap.size + 1 + 1) #[.int .u16 0, .int .u16 0] 56 := by rw [hM]; exact (blkN (by simp) _ _).alloc _
  have KS := four (M := M) (B := w.heap.size) (T1 := 56) (T2 := 56) (T3 := 56) (T4 := 56) (a0 := .int .u16 a.lo) (a1 := .int .u16 a.hi) (b0 := .int .u16 b.lo) (b1 := .int .u16 b.hi) (c0 := .int .u16 0) (c1 := .int .u16 0) (d0 := .int .u16 ((max a.lo b.lo : Nat) : Int)) (d1 := .int .u16 ((min a.hi b.hi : Nat) : Int))
    (by rw [hM]; exact (((Blk.new _ _ _).alloc _).alloc _).alloc _) (by rw [hM]; exact ((blkN (by simp) _ _).alloc _).alloc _) hB3 (by rw [hM]; exact blkN (by simp) _ _)
  have H1 := Sd.mk (heldS (fun _ h => h.1) KS K1)
  have H2 := Sd.mk (heldS (fun _ h => h.1) KS K2)
  have H3 := Sd.mk (heldS (fun _ h => h.1) KS K3)
  have HKS := Sd.mk KS
  have HMM := Sd.mk hM
  have HB3 := Sd.mk hB3
  clear hM KS hB3 K1 K2 K3
  unfold Spn.meet at *
  go_enter Try.func88, Try.ntmps88
  go_upto_region 2 with fail
  simp only [max_if, min_if]
  rw [show ((((w.alloc (.cells #[.int .u16 a.lo, .int .u16 a.hi] 56)).alloc (.cells #[.int .u16 b.lo, .int .u16 b.hi] 56)).alloc (.cells #[.int .u16 0, .int .u16 0] 56)).alloc (.cells #[.int .u16 ((max a.lo b.lo : Nat) : Int), .int .u16 ((min a.hi b.hi : Nat) : Int)] 56)) = M from HMM.out.symm]
  refine wp_region_listC (C := Four M w.heap.size (.int .u16 a.lo) (.int .u16 a.hi) (.int .u16 b.lo) (.int .u16 b.hi) (.int .u16 0) (.int .u16 0) (.int .u16 ((max a.lo b.lo : Nat) : Int)) (.int .u16 ((min a.hi b.hi : Nat) : Int))) (HKS.out _ (Below.refl _ _)) ?_
  repeat (first
    | go_big_quiet_skip
    | (go_big_quiet_want
       first
         | (refine quiet_run ?_
            apply Exists.intro
            refine ⟨fun w hw => ?_, ?_⟩
            · ((unfold Four at hw); go_split_ands; go_simp; (try with_reducible rfl))
            go_big_quiet_on
            try simp only [Act.put, List.setIfInBounds_toArray, List.set_cons_zero, List.set_cons_succ])
         | (apply Exists.intro
            refine ⟨fun w hw => ?_, ?_⟩
            · (unfold Oper.quietAt; go_simp; first | (with_reducible exact H1.out _ hw) | (with_reducible exact H2.out _ hw) | (with_reducible exact H3.out _ hw))
            go_big_quiet_on
            try simp only [Act.put, List.setIfInBounds_toArray, List.set_cons_zero, List.set_cons_succ])))
  refine wpQuiet_nil ?_
  intro W hW
  have hR := HB3.out.below hW.1 HB3.out.lt
  have HWW : Sd (Below w.heap.size w W) := ⟨beyond HWM.out hW.1⟩
  have rf := hR.frozen
  have rl := hR.lt
  unfold Four at hW
  obtain ⟨_, a0, a1, b0, b1, c0, c1, d0, d1⟩ := hW
  clear hR
  go_wp2
  refine bodyPost_ret (v := .tuple #[.agg #[.int .u16 0, .int .u16 0], .bool false]) (by simp [results, Try.results88, go_sem, *]) rfl ⟨rfl, ?_⟩
  exact (HWW.out.setCell (by simp; omega) _).setCell (by simp; omega) _
set_option maxHeartbeats 1000000 in
theorem spnMeet_no3 (a b : Spn) (w : World) (h1 : a.ck = 0) (h2 : b.ck = 0) (h3 : ¬ (a.meet b).ck = 0) : Calls Try.prog 88 #[.agg #[.int .u16 a.lo, .int .u16 a.hi], .agg #[.int .u16 b.lo, .int .u16 b.hi]] w fun e w' => e = .returned (.tuple #[.agg #[.int .u16 0, .int .u16 0], .bool false]) ∧ Below w.heap.size w w' := by
  have K1 := spnMay_any a
  have K2 := spnMay_any b
  have K3 := spnMay_any (a.meet b)
  rw [decide_eq_true h1] at K1
  rw [decide_eq_true h2] at K2
  rw [decide_eq_false h3] at K3
  obtain ⟨M, hM⟩ : ∃ M, M = ((((w.alloc (.cells #[.int .u16 a.lo, .int .u16 a.hi] 56)).alloc (.cells #[.int .u16 b.lo, .int .u16 b.hi] 56)).alloc (.cells #[.int .u16 0, .int .u16 0] 56)).alloc (.cells #[.int .u16 ((max a.lo b.lo : Nat) : Int), .int .u16 ((min a.hi b.hi : Nat) : Int)] 56)) := ⟨_, rfl⟩
  have HWM : Sd (Below w.heap.size w M) := ⟨by rw [hM]; exact below_alloc (below_alloc (below_alloc (below_alloc (Below.refl _ _) _) _) _) _⟩
  have hB3 : Blk M (w.heap.size + 1 + 1) #[.int .u16 0, .int .u16 0] 56 := by rw [hM]; exact (blkN (by simp) _ _).alloc _
  have KS := four (M := M) (B := w.heap.size) (T1 := 56) (T2 := 56) (T3 := 56) (T4 := 56) (a0 := .int .u16 a.lo) (a1 := .int .u16 a.hi) (b0 := .int .u16 b.lo) (b1 := .int .u16 b.hi) (c0 := .int .u16 0) (c1 := .int .u16 0) (d0 := .int .u16 ((max a.lo b.lo : Nat) : Int)) (d1 := .int .u16 ((min a.hi b.hi : Nat) : Int))
    (by rw [hM]; exact (((Blk.new _ _ _).alloc _).alloc _).alloc _) (by rw [hM]; exact ((blkN (by simp) _ _).alloc _).alloc _) hB3 (by rw [hM]; exact blkN (by simp) _ _)
  have H1 := Sd.mk (heldS (fun _ h => h.1) KS K1)
  have H2 := Sd.mk (heldS (fun _ h => h.1) KS K2)
  have H3 := Sd.mk (heldS (fun _ h => h.1) KS K3)
  have HKS := Sd.mk KS
  have HMM := Sd.mk hM
  have HB3 := Sd.mk hB3
  clear hM KS hB3 K1 K2 K3
  unfold Spn.meet at *
  go_enter Try.func88, Try.ntmps88
  go_upto_region 2 with fail
  simp only [max_if, min_if]
  rw [show ((((w.alloc (.cells #[.int .u16 a.lo, .int .u16 a.hi] 56)).alloc (.cells #[.int .u16 b.lo, .int .u16 b.hi] 56)).alloc (.cells #[.int .u16 0, .int .u16 0] 56)).alloc (.cells #[.int .u16 ((max a.lo b.lo : Nat) : Int), .int .u16 ((min a.hi b.hi : Nat) : Int)] 56)) = M from HMM.out.symm]
  refine wp_region_listC (C := Four M w.heap.size (.int .u16 a.lo) (.int .u16 a.hi) (.int .u16 b.lo) (.int .u16 b.hi) (.int .u16 0) (.int .u16 0) (.int .u16 ((max a.lo b.lo : Nat) : Int)) (.int .u16 ((min a.hi b.hi : Nat) : Int))) (HKS.out _ (Below.refl _ _)) ?_
  repeat (first
    | go_big_quiet_skip
    | (go_big_quiet_want
       first
         | (refine quiet_run ?_
            apply Exists.intro
            refine ⟨fun w hw => ?_, ?_⟩
            · ((unfold Four at hw); go_split_ands; go_simp; (try with_reducible rfl))
            go_big_quiet_on
            try simp only [Act.put, List.setIfInBounds_toArray, List.set_cons_zero, List.set_cons_succ])
         | (apply Exists.intro
            refine ⟨fun w hw => ?_, ?_⟩
            · (unfold Oper.quietAt; go_simp; first | (with_reducible exact H1.out _ hw) | (with_reducible exact H2.out _ hw) | (with_reducible exact H3.out _ hw))
            go_big_quiet_on
            try simp only [Act.put, List.setIfInBounds_toArray, List.set_cons_zero, List.set_cons_succ])))
  refine wpQuiet_nil ?_
  intro W hW
  have hR := HB3.out.below hW.1 HB3.out.lt
  have HWW : Sd (Below w.heap.size w W) := ⟨beyond HWM.out hW.1⟩
  have rf := hR.frozen
  have rl := hR.lt
  unfold Four at hW
  obtain ⟨_, a0, a1, b0, b1, c0, c1, d0, d1⟩ := hW
  clear hR
  go_wp2
  refine bodyPost_ret (v := .tuple #[.agg #[.int .u16 0, .int .u16 0], .bool false]) (by simp [results, Try.results88, go_sem, *]) rfl ⟨rfl, ?_⟩
  exact (HWW.out.setCell (by simp; omega) _).setCell (by simp; omega) _
theorem Spn.meets_iff (a b : Spn) : a.meets b = true ↔ a.ck = 0 ∧ b.ck = 0 ∧ (a.meet b).ck = 0 := by unfold Spn.meets; simp [and_assoc]
theorem spnMeet_t (a b : Spn) (w : World) (h : a.meets b = true) : Calls Try.prog 88 #[.agg #[.int .u16 a.lo, .int .u16 a.hi], .agg #[.int .u16 b.lo, .int .u16 b.hi]] w fun e w' => e = .returned (.tuple #[.agg #[.int .u16 ((max a.lo b.lo : Nat) : Int), .int .u16 ((min a.hi b.hi : Nat) : Int)], .bool true]) ∧ Below w.heap.size w w' := by
  obtain ⟨h1, h2, h3⟩ := (Spn.meets_iff a b).1 h
  exact spnMeet_yes a b w h1 h2 h3
theorem spnMeet_f (a b : Spn) (w : World) (h : a.meets b = false) : Calls Try.prog 88 #[.agg #[.int .u16 a.lo, .int .u16 a.hi], .agg #[.int .u16 b.lo, .int .u16 b.hi]] w fun e w' => e = .returned (.tuple #[.agg #[.int .u16 0, .int .u16 0], .bool false]) ∧ Below w.heap.size w w' := by
  have h' : ¬ (a.ck = 0 ∧ b.ck = 0 ∧ (a.meet b).ck = 0) := fun k => by rw [(Spn.meets_iff a b).2 k] at h; cases h
  by_cases h1 : a.ck = 0
  · by_cases h2 : b.ck = 0
    · exact spnMeet_no3 a b w h1 h2 (fun h3 => h' ⟨h1, h2, h3⟩)
    · exact spnMeet_no2 a b w h1 h2
  · exact spnMeet_no1 a b w h1
/-- three structs of two cells, beyond a world -/
def Three (M : World) (B : Nat) (a0 a1 b0 b1 c0 c1 : Value) (W : World) : Prop := Below M.heap.size M W ∧ W.cell? ⟨B, 0, none⟩ = some a0 ∧ W.cell? ⟨B, 1, none⟩ = some a1 ∧ W.cell? ⟨B + 1, 0, none⟩ = some b0 ∧ W.cell? ⟨B + 1, 1, none⟩ = some b1 ∧
  W.cell? ⟨B + 1 + 1, 0, none⟩ = some c0 ∧ W.cell? ⟨B + 1 + 1, 1, none⟩ = some c1
theorem three {M : World} {B : Nat} {a0 a1 b0 b1 c0 c1 : Value} {T1 T2 T3 : TypeId} (h1 : Blk M B #[a0, a1] T1) (h2 : Blk M (B + 1) #[b0, b1] T2) (h3 : Blk M (B + 1 + 1) #[c0, c1] T3) (W : World) (h : Below M.heap.size M W) : Three M B a0 a1 b0 b1 c0 c1 W :=
  ⟨h, (h1.below h h1.lt).cell (i := 0) rfl, (h1.below h h1.lt).cell (i := 1) rfl, (h2.below h h2.lt).cell (i := 0) rfl, (h2.below h h2.lt).cell (i := 1) rfl, (h3.below h h3.lt).cell (i := 0) rfl, (h3.below h h3.lt).cell (i := 1) rfl⟩
theorem msk_bits (a b : Msk) (ha : a.Wf) (hb : b.Wf) : bits .and .u8 (bits .and .u8 (bits .xor .u8 (a.v : Int) (b.v : Int)) (a.c : Int)) (b.c : Int) = (((a.v ^^^ b.v) &&& a.c &&& b.c : Nat) : Int) := by
  have h1 : a.v ^^^ b.v < 256 := Nat.xor_lt_two_pow (n := 8) ha.v hb.v
  have h2 : (a.v ^^^ b.v) &&& a.c < 256 := Nat.and_lt_two_pow (n := 8) _ ha.c
  rw [u8_xor_nat _ _ ha.v hb.v, u8_and_nat _ _ h1 ha.c, u8_and_nat _ _ h2 hb.c]
set_option maxHeartbeats 1000000 in
theorem mskMeet_yes (a b : Msk) (ha : a.Wf) (hb : b.Wf) (w : World) (h1 : a.ck = 0) (h2 : b.ck = 0) (h3 : (a.v ^^^ b.v) &&& a.c &&& b.c = 0) : Calls Try.prog 89 #[.agg #[.int .u8 a.v, .int .u8 a.c], .agg #[.int .u8 b.v, .int .u8 b.c]] w fun e w' => e = .returned (.tuple #[.agg #[.int .u8 ((a.v ||| b.v : Nat) : Int), .int .u8 ((a.c ||| b.c : Nat) : Int)], .bool true]) ∧ Below w.heap.size w w' := by
  have K1 := mskCheck_any a ha
  have K2 := mskCheck_any b hb
  rw [h1] at K1
  rw [h2] at K2
  obtain ⟨M, hM⟩ : ∃ M, M = ((w.alloc (.cells #[.int .u8 a.v, .int .u8 a.c] 58)).alloc (.cells #[.int .u8 b.v, .int .u8 b.c] 58)).alloc (.cells #[.int .u8 0, .int .u8 0] 58) := ⟨_, rfl⟩
  have HWM : Sd (Below w.heap.size w M) := ⟨by rw [hM]; exact below_alloc (below_alloc (below_alloc (Below.refl _ _) _) _) _⟩
  have hB3 : Blk M (w.heap.size + 1 + 1) #[.int .u8 0, .int .u8 0] 58 := by rw [hM]; exact blkN (by simp) _ _
  have KS := three (M := M) (B := w.heap.size) (T1 := 58) (T2 := 58) (T3 := 58) (a0 := .int .u8 a.v) (a1 := .int .u8 a.c) (b0 := .int .u8 b.v) (b1 := .int .u8 b.c) (c0 := .int .u8 0) (c1 := .int .u8 0)
    (by rw [hM]; exact ((Blk.new _ _ _).alloc _).alloc _) (by rw [hM]; exact (blkN (by simp) _ _).alloc _) hB3
  have H1 := Sd.mk (heldS (fun _ h => h.1) KS K1)
  have H2 := Sd.mk (heldS (fun _ h => h.1) KS K2)
  have HKS := Sd.mk KS
  have HMM := Sd.mk hM
  have HB3 := Sd.mk hB3
  have ht : (bits .and .u8 (bits .and .u8 (bits .xor .u8 (a.v : Int) (b.v : Int)) (a.c : Int)) (b.c : Int) != 0) = false := by rw [msk_bits a b ha hb, h3]; rfl
  have HA := Sd.mk ha
  have HB := Sd.mk hb
  clear h1 h2 h3 ha hb
  clear hM KS hB3 K1 K2
  go_enter Try.func89, Try.ntmps89
  go_upto_region 1 with fail
  rw [show ((w.alloc (.cells #[.int .u8 a.v, .int .u8 a.c] 58)).alloc (.cells #[.int .u8 b.v, .int .u8 b.c] 58)).alloc (.cells #[.int .u8 0, .int .u8 0] 58) = M from HMM.out.symm]
  refine wp_region_listC (C := Three M w.heap.size (.int .u8 a.v) (.int .u8 a.c) (.int .u8 b.v) (.int .u8 b.c) (.int .u8 0) (.int .u8 0)) (HKS.out _ (Below.refl _ _)) ?_
  repeat (first
    | go_big_quiet_skip
    | (go_big_quiet_want
       first
         | (refine quiet_run ?_
            apply Exists.intro
            refine ⟨fun w hw => ?_, ?_⟩
            · ((unfold Three at hw); go_split_ands; go_simp; (try with_reducible rfl))
            go_big_quiet_on
            try simp only [Act.put, List.setIfInBounds_toArray, List.set_cons_zero, List.set_cons_succ])
         | (apply Exists.intro
            refine ⟨fun w hw => ?_, ?_⟩
            · (unfold Oper.quietAt; go_simp; first | (with_reducible exact H1.out _ hw) | (with_reducible exact H2.out _ hw))
            go_big_quiet_on
            try simp only [Act.put, List.setIfInBounds_toArray, List.set_cons_zero, List.set_cons_succ])))
  refine wpQuiet_nil ?_
  intro W hW
  have hR := HB3.out.below hW.1 HB3.out.lt
  have HWW : Sd (Below w.heap.size w W) := ⟨beyond HWM.out hW.1⟩
  have rf := hR.frozen
  have rl := hR.lt
  unfold Three at hW
  obtain ⟨_, a0, a1, b0, b1, c0, c1⟩ := hW
  clear hR
  go_wp2
  rw [u8_or_nat _ _ HA.out.v HB.out.v, u8_or_nat _ _ HA.out.c HB.out.c]
  refine bodyPost_ret (v := .tuple #[.agg #[.int .u8 ((a.v ||| b.v : Nat) : Int), .int .u8 ((a.c ||| b.c : Nat) : Int)], .bool true]) (by simp [results, Try.results89, go_sem, *]) rfl ⟨rfl, ?_⟩
  exact (HWW.out.setCell (by simp; omega) _).setCell (by simp; omega) _
set_option maxHeartbeats 1000000 in
theorem mskMeet_no1 (a b : Msk) (ha : a.Wf) (hb : b.Wf) (w : World) (h1 : a.ck = 40) : Calls Try.prog 89 #[.agg #[.int .u8 a.v, .int .u8 a.c], .agg #[.int .u8 b.v, .int .u8 b.c]] w fun e w' => e = .returned (.tuple #[.agg #[.int .u8 0, .int .u8 0], .bool false]) ∧ Below w.heap.size w w' := by
  have K1 := mskCheck_any a ha
  have K2 := mskCheck_any b hb
  rw [h1] at K1
  obtain ⟨M, hM⟩ : ∃ M, M = ((w.alloc (.cells #[.int .u8 a.v, .int .u8 a.c] 58)).alloc (.cells #[.int .u8 b.v, .int .u8 b.c] 58)).alloc (.cells #[.int .u8 0, .int .u8 0] 58) := ⟨_, rfl⟩
  have HWM : Sd (Below w.heap.size w M) := ⟨by rw [hM]; exact below_alloc (below_alloc (below_alloc (Below.refl _ _) _) _) _⟩
  have hB3 : Blk M (w.heap.size + 1 + 1) #[.int .u8 0, .int .u8 0] 58 := by rw [hM]; exact blkN (by simp) _ _
  have KS := three (M := M) (B := w.heap.size) (T1 := 58) (T2 := 58) (T3 := 58) (a0 := .int .u8 a.v) (a1 := .int .u8 a.c) (b0 := .int .u8 b.v) (b1 := .int .u8 b.c) (c0 := .int .u8 0) (c1 := .int .u8 0)
    (by rw [hM]; exact ((Blk.new _ _ _).alloc _).alloc _) (by rw [hM]; exact (blkN (by simp) _ _).alloc _) hB3
  have H1 := Sd.mk (heldS (fun _ h => h.1) KS K1)
  have H2 := Sd.mk (heldS (fun _ h => h.1) KS K2)
  have HKS := Sd.mk KS
  have HMM := Sd.mk hM
  have HB3 := Sd.mk hB3
  clear h1 ha hb
  clear hM KS hB3 K1 K2
  go_enter Try.func89, Try.ntmps89
  go_upto_region 1 with fail
  rw [show ((w.alloc (.cells #[.int .u8 a.v, .int .u8 a.c] 58)).alloc (.cells #[.int .u8 b.v, .int .u8 b.c] 58)).alloc (.cells #[.int .u8 0, .int .u8 0] 58) = M from HMM.out.symm]
  refine wp_region_listC (C := Three M w.heap.size (.int .u8 a.v) (.int .u8 a.c) (.int .u8 b.v) (.int .u8 b.c) (.int .u8 0) (.int .u8 0)) (HKS.out _ (Below.refl _ _)) ?_
  repeat (first
    | go_big_quiet_skip
    | (go_big_quiet_want
       first
         | (refine quiet_run ?_
            apply Exists.intro
            refine ⟨fun w hw => ?_, ?_⟩
            · ((unfold Three at hw); go_split_ands; go_simp; (try with_reducible rfl))
            go_big_quiet_on
            try simp only [Act.put, List.setIfInBounds_toArray, List.set_cons_zero, List.set_cons_succ])
         | (apply Exists.intro
            refine ⟨fun w hw => ?_, ?_⟩
            · (unfold Oper.quietAt; go_simp; first | (with_reducible exact H1.out _ hw) | (with_reducible exact H2.out _ hw))
            go_big_quiet_on
            try simp only [Act.put, List.setIfInBounds_toArray, List.set_cons_zero, List.set_cons_succ])))
  refine wpQuiet_nil ?_
  intro W hW
  have hR := HB3.out.below hW.1 HB3.out.lt
  have HWW : Sd (Below w.heap.size w W) := ⟨beyond HWM.out hW.1⟩
  have rf := hR.frozen
  have rl := hR.lt
  unfold Three at hW
  obtain ⟨_, a0, a1, b0, b1, c0, c1⟩ := hW
  clear hR
  go_wp2
  refine bodyPost_ret (v := .tuple #[.agg #[.int .u8 0, .int .u8 0], .bool false]) (by simp [results, Try.results89, go_sem, *]) rfl ⟨rfl, ?_⟩
  exact (HWW.out.setCell (by simp; omega) _).setCell (by simp; omega) _
set_option maxHeartbeats 1000000 in
theorem mskMeet_no2 (a b : Msk) (ha : a.Wf) (hb : b.Wf) (w : World) (h1 : a.ck = 0) (h2 : b.ck = 40) : Calls Try.prog 89 #[.agg #[.int .u8 a.v, .int .u8 a.c], .agg #[.int .u8 b.v, .int .u8 b.c]] w fun e w' => e = .returned (.tuple #[.agg #[.int .u8 0, .int .u8 0], .bool false]) ∧ Below w.heap.size w w' := by
  have K1 := mskCheck_any a ha
  have K2 := mskCheck_any b hb
  rw [h1] at K1
  rw [h2] at K2
  obtain ⟨M, hM⟩ : ∃ M, M = ((w.alloc (.cells #[.int .u8 a.v, .int .u8 a.c] 58)).alloc (.cells #[.int .u8 b.v, .int .u8 b.c] 58)).alloc (.cells #[.int .u8 0, .int .u8 0] 58) := ⟨_, rfl⟩
  have HWM : Sd (Below w.heap.size w M) := ⟨by rw [hM]; exact below_alloc (below_alloc (below_alloc (Below.refl _ _) _) _) _⟩
  have hB3 : Blk M (w.heap.size + 1 + 1) #[.int .u8 0, .int .u8 0] 58 := by rw [hM]; exact blkN (by simp) _ _
  have KS := three (M := M) (B := w.heap.size) (T1 := 58) (T2 := 58) (T3 := 58) (a0 := .int .u8 a.v) (a1 := .int .u8 a.c) (b0 := .int .u8 b.v) (b1 := .int .u8 b.c) (c0 := .int .u8 0) (c1 := .int .u8 0)
    (by rw [hM]; exact ((Blk.new _ _ _).alloc _).alloc _) (by rw [hM]; exact (blkN (by simp) _ _).alloc _) hB3
  have H1 := Sd.mk (heldS (fun _ h => h.1) KS K1)
  have H2 := Sd.mk (heldS (fun _ h => h.1) KS K2)
  have HKS := Sd.mk KS
  have HMM := Sd.mk hM
  have HB3 := Sd.mk hB3
  clear h1 h2 ha hb
  clear hM KS hB3 K1 K2
  go_enter Try.func89, Try.ntmps89
  go_upto_region 1 with fail
  rw [show ((w.alloc (.cells #[.int .u8 a.v, .int .u8 a.c] 58)).alloc (.cells #[.int .u8 b.v, .int .u8 b.c] 58)).alloc (.cells #[.int .u8 0, .int .u8 0] 58) = M from HMM.out.symm]
  refine wp_region_listC (C := Three M w.heap.size (.int .u8 a.v) (.int .u8 a.c) (.int .u8 b.v) (.int .u8 b.c) (.int .u8 0) (.int .u8 0)) (HKS.out _ (Below.refl _ _)) ?_
  repeat (first
    | go_big_quiet_skip
    | (go_big_quiet_want
       first
         | (refine quiet_run ?_
            apply Exists.intro
            refine ⟨fun w hw => ?_, ?_⟩
            · ((unfold Three at hw); go_split_ands; go_simp; (try with_reducible rfl))
            go_big_quiet_on
            try simp only [Act.put, List.setIfInBounds_toArray, List.set_cons_zero, List.set_cons_succ])
         | (apply Exists.intro
            refine ⟨fun w hw => ?_, ?_⟩
            · (unfold Oper.quietAt; go_simp; first | (with_reducible exact H1.out _ hw) | (with_reducible exact H2.out _ hw))
            go_big_quiet_on
            try simp only [Act.put, List.setIfInBounds_toArray, List.set_cons_zero, List.set_cons_succ])))
  refine wpQuiet_nil ?_
  intro W hW
  have hR := HB3.out.below hW.1 HB3.out.lt
  have HWW : Sd (Below w.heap.size w W) := ⟨beyond HWM.out hW.1⟩
  have rf := hR.frozen
  have rl := hR.lt
  unfold Three at hW
  obtain ⟨_, a0, a1, b0, b1, c0, c1⟩ := hW
  clear hR
  go_wp2
  refine bodyPost_ret (v := .tuple #[.agg #[.int .u8 0, .int .u8 0], .bool false]) (by simp [results, Try.results89, go_sem, *]) rfl ⟨rfl, ?_⟩
  exact (HWW.out.setCell (by simp; omega) _).setCell (by simp; omega) _
set_option maxHeartbeats 1000000 in
theorem mskMeet_no3 (a b : Msk) (ha : a.Wf) (hb : b.Wf) (w : World) (h1 : a.ck = 0) (h2 : b.ck = 0) (h3 : (a.v ^^^ b.v) &&& a.c &&& b.c ≠ 0) : Calls Try.prog 89 #[.agg #[.int .u8 a.v, .int .u8 a.c], .agg #[.int .u8 b.v, .int .u8 b.c]] w fun e w' => e = .returned (.tuple #[.agg #[.int .u8 0, .int .u8 0], .bool false]) ∧ Below w.heap.size w w' := by
  have K1 := mskCheck_any a ha
  have K2 := mskCheck_any b hb
  rw [h1] at K1
  rw [h2] at K2
  obtain ⟨M, hM⟩ : ∃ M, M = ((w.alloc (.cells #[.int .u8 a.v, .int .u8 a.c] 58)).alloc (.cells #[.int .u8 b.v, .int .u8 b.c] 58)).alloc (.cells #[.int .u8 0, .int .u8 0] 58) := ⟨_, rfl⟩
  have HWM : Sd (Below w.heap.size w M) := ⟨by rw [hM]; exact below_alloc (below_alloc (below_alloc (Below.refl _ _) _) _) _⟩
  have hB3 : Blk M (w.heap.size + 1 + 1) #[.int .u8 0, .int .u8 0] 58 := by rw [hM]; exact blkN (by simp) _ _
  have KS := three (M := M) (B := w.heap.size) (T1 := 58) (T2 := 58) (T3 := 58) (a0 := .int .u8 a.v) (a1 := .int .u8 a.c) (b0 := .int .u8 b.v) (b1 := .int .u8 b.c) (c0 := .int .u8 0) (c1 := .int .u8 0)
    (by rw [hM]; exact ((Blk.new _ _ _).alloc _).alloc _) (by rw [hM]; exact (blkN (by simp) _ _).alloc _) hB3
  have H1 := Sd.mk (heldS (fun _ h => h.1) KS K1)
  have H2 := Sd.mk (heldS (fun _ h => h.1) KS K2)
  have HKS := Sd.mk KS
  have HMM := Sd.mk hM
  have HB3 := Sd.mk hB3
  have ht : (bits .and .u8 (bits .and .u8 (bits .xor .u8 (a.v : Int) (b.v : Int)) (a.c : Int)) (b.c : Int) != 0) = true := by rw [msk_bits a b ha hb]; simp; omega
  clear h1 h2 h3 ha hb
  clear hM KS hB3 K1 K2
  go_enter Try.func89, Try.ntmps89
  go_upto_region 1 with fail
  rw [show ((w.alloc (.cells #[.int .u8 a.v, .int .u8 a.c] 58)).alloc (.cells #[.int .u8 b.v, .int .u8 b.c] 58)).alloc (.cells #[.int .u8 0, .int .u8 0] 58) = M from HMM.out.symm]
  refine wp_region_listC (C := Three M w.heap.size (.int .u8 a.v) (.int .u8 a.c) (.int .u8 b.v) (.int .u8 b.c) (.int .u8 0) (.int .u8 0)) (HKS.out _ (Below.refl _ _)) ?_
  repeat (first
    | go_big_quiet_skip
    | (go_big_quiet_want
       first
         | (refine quiet_run ?_
            apply Exists.intro
            refine ⟨fun w hw => ?_, ?_⟩
            · ((unfold Three at hw); go_split_ands; go_simp; (try with_reducible rfl))
            go_big_quiet_on
            try simp only [Act.put, List.setIfInBounds_toArray, List.set_cons_zero, List.set_cons_succ])
         | (apply Exists.intro
            refine ⟨fun w hw => ?_, ?_⟩
            · (unfold Oper.quietAt; go_simp; first | (with_reducible exact H1.out _ hw) | (with_reducible exact H2.out _ hw))
            go_big_quiet_on
            try simp only [Act.put, List.setIfInBounds_toArray, List.set_cons_zero, List.set_cons_succ])))
  refine wpQuiet_nil ?_
  intro W hW
  have hR := HB3.out.below hW.1 HB3.out.lt
  have HWW : Sd (Below w.heap.size w W) := ⟨beyond HWM.out hW.1⟩
  have rf := hR.frozen
  have rl := hR.lt
  unfold Three at hW
  obtain ⟨_, a0, a1, b0, b1, c0, c1⟩ := hW
  clear hR
  go_wp2
  refine bodyPost_ret (v := .tuple #[.agg #[.int .u8 0, .int .u8 0], .bool false]) (by simp [results, Try.results89, go_sem, *]) rfl ⟨rfl, ?_⟩
  exact (HWW.out.setCell (by simp; omega) _).setCell (by simp; omega) _
theorem mskMeet_t (a b : Msk) (ha : a.Wf) (hb : b.Wf) (w : World) (h : a.meets b = true) : Calls Try.prog 89 #[.agg #[.int .u8 a.v, .int .u8 a.c], .agg #[.int .u8 b.v, .int .u8 b.c]] w fun e w' => e = .returned (.tuple #[.agg #[.int .u8 ((a.v ||| b.v : Nat) : Int), .int .u8 ((a.c ||| b.c : Nat) : Int)], .bool true]) ∧ Below w.heap.size w w' := by
  unfold Msk.meets at h
  simp only [Bool.and_eq_true, decide_eq_true_eq] at h
  exact mskMeet_yes a b ha hb w h.1.1 h.1.2 h.2
theorem mskMeet_f (a b : Msk) (ha : a.Wf) (hb : b.Wf) (w : World) (h : a.meets b = false) : Calls Try.prog 89 #[.agg #[.int .u8 a.v, .int .u8 a.c], .agg #[.int .u8 b.v, .int .u8 b.c]] w fun e w' => e = .returned (.tuple #[.agg #[.int .u8 0, .int .u8 0], .bool false]) ∧ Below w.heap.size w w' := by
  rcases a.ck_cases with h1 | h1
  · exact mskMeet_no1 a b ha hb w h1
  · rcases b.ck_cases with h2 | h2
    · exact mskMeet_no2 a b ha hb w h1 h2
    · refine mskMeet_no3 a b ha hb w h1 h2 fun h3 => ?_
      unfold Msk.meets at h
      simp [h1, h2, h3] at h
end Go.Proofs.Ytljliopmphaoeaa
