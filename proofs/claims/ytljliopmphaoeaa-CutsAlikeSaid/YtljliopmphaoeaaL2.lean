/- May steps and sizes be so? -/
import Derived.Test.YtljliopmphaoeaaL1
namespace Go.Proofs.Ytljliopmphaoeaa
open Go Go.RowKit Go.Proofs.Ytljliopmphaoeaa.Q
def FitS (M : World) (B : Nat) (D N en : Nat) (W : World) : Prop := Below M.heap.size M W ∧ W.cell? ⟨B, 6, none⟩ = some (.int .i64 (D : Int)) ∧ W.cell? ⟨B + 1 + 1 + 1 + 1, 0, none⟩ = some (.int .i64 (N : Int)) ∧ W.cell? ⟨B + 1 + 1 + 1 + 1, 1, none⟩ = some (.int .i64 (en : Int)) ∧ W.cell? ⟨B + 1 + 1 + 1 + 1, 2, none⟩ = some (.int .i64 0) ∧ W.cell? ⟨B + 1 + 1 + 1 + 1, 3, none⟩ = some (.int .i64 0)
set_option maxHeartbeats 2000000 in
set_option maxRecDepth 100000 in
theorem refFits_any (c : Cfg) (hc : c.ck = 0) (A : Option Addr) (cap len : Nat) (h : Hdr) (hit : Bool) (id act : Int) (e n N en : Nat) (w : World) (he : e ≤ c.D) (hn : n ≤ len) (hnB : e < c.D → n ≤ c.B) (hp : hit = true → 1 ≤ n) (hN : 1 ≤ N) (hN2 : N + 1 ≤ 2 ^ (c.D + 1)) (hen : en ≤ N * len) (hlen : len ≤ 64) :
    Calls Try.prog 13 #[.agg #[.int .i64 c.max, .int .i64 c.dflt, .int .i64 c.prune, .int .i64 c.grid, .int .i64 c.tuple, .int .i64 c.binth, .int .i64 c.depth], .slice A len cap, .agg #[.int .u32 h.src, .int .u32 h.dst, .int .u16 h.sp, .int .u16 h.dp, .int .u8 h.pr], .agg #[.bool hit, .int .i64 id, .int .i64 act], .agg #[.int .i64 ((e : Int) + 1), .int .i64 (n : Int), .int .i64 (e : Int), .int .i64 0, .int .i64 0], .agg #[.int .i64 (N : Int), .int .i64 (en : Int), .int .i64 0, .int .i64 0]] w fun x w' => x = .returned (.bool true) ∧ Below w.heap.size w w' := by
  obtain ⟨f1, f2, f3, f4, f5, f6, f7⟩ := Cfg.facts hc
  obtain ⟨M, hM⟩ : ∃ M, ((((w.alloc (.cells #[.int .i64 c.max, .int .i64 c.dflt, .int .i64 c.prune, .int .i64 c.grid, .int .i64 c.tuple, .int .i64 c.binth, .int .i64 c.depth] 24)).alloc (.cells #[.int .u32 h.src, .int .u32 h.dst, .int .u16 h.sp, .int .u16 h.dp, .int .u8 h.pr] 28)).alloc (.cells #[.bool hit, .int .i64 id, .int .i64 act] 36)).alloc (.cells #[.int .i64 ((e : Int) + 1), .int .i64 (n : Int), .int .i64 (e : Int), .int .i64 0, .int .i64 0] 38)).alloc (.cells #[.int .i64 (N : Int), .int .i64 (en : Int), .int .i64 0, .int .i64 0] 43) = M := ⟨_, rfl⟩
  have hb : Below w.heap.size w M := by rw [← hM]; exact below_alloc (below_alloc (below_alloc (below_alloc (below_alloc (Below.refl _ _) _) _) _) _) _
  have hc0 : Blk M w.heap.size #[.int .i64 c.max, .int .i64 c.dflt, .int .i64 c.prune, .int .i64 c.grid, .int .i64 c.tuple, .int .i64 c.binth, .int .i64 c.depth] 24 := by rw [← hM]; exact ((((Blk.new w _ _).alloc _).alloc _).alloc _).alloc _
  have hv0 : Blk M (w.heap.size + 1 + 1) #[.bool hit, .int .i64 id, .int .i64 act] 36 := by rw [← hM]; exact ((blkN (X := (w.alloc _).alloc _) (N := w.heap.size + 1 + 1) (by simp) _ _).alloc _).alloc _
  have hs0 : Blk M (w.heap.size + 1 + 1 + 1) #[.int .i64 ((e : Int) + 1), .int .i64 (n : Int), .int .i64 (e : Int), .int .i64 0, .int .i64 0] 38 := by rw [← hM]; exact (blkN (X := ((w.alloc _).alloc _).alloc _) (N := w.heap.size + 1 + 1 + 1) (by simp) _ _).alloc _
  have ht0 : Blk M (w.heap.size + 1 + 1 + 1 + 1) #[.int .i64 (N : Int), .int .i64 (en : Int), .int .i64 0, .int .i64 0] 43 := by rw [← hM]; exact blkN (X := (((w.alloc _).alloc _).alloc _).alloc _) (N := w.heap.size + 1 + 1 + 1 + 1) (by simp) _ _
  have KS : ∀ W, Below M.heap.size M W → FitS M w.heap.size c.D N en W := fun W hW => by
    have h1 := hc0.below hW hc0.lt
    have h2 := ht0.below hW ht0.lt
    have h6 := h1.cell (i := 6) rfl
    rw [f2] at h6
    exact ⟨hW, h6, h2.cell (i := 0) rfl, h2.cell (i := 1) rfl, h2.cell (i := 2) rfl, h2.cell (i := 3) rfl⟩
  have HS := Sd.mk KS
  have hpow : 2 ^ (c.D + 1) ≤ 2 ^ 11 := Nat.pow_le_pow_right (by omega) (by omega)
  have hpow2 : 2 ^ (c.D + 2) = 2 * 2 ^ (c.D + 1) := by rw [Nat.pow_succ]; omega
  obtain ⟨pw, hpw⟩ : ∃ pw : Nat, pw = 2 ^ (c.D + 2) := ⟨_, rfl⟩
  have HPW : Sd (∀ W, FitS M w.heap.size c.D N en W → Calls Try.prog 28 #[.int .i64 (IntKind.i64.wrap ((c.D : Int) + 2))] W fun x w' => x = .returned (.int .i64 (pw : Int)) ∧ FitS M w.heap.size c.D N en w') := ⟨fun W hW => by
    have K := power_any (c.D + 2) (by omega) W
    rw [show (((c.D + 2 : Nat)) : Int) = IntKind.i64.wrap ((c.D : Int) + 2) from by rw [IntKind.wrap_i64]; omega] at K
    exact K.mono fun x w' ⟨h1, h2⟩ => ⟨by rw [h1, hpw], by rw [← h2]; exact hW⟩⟩
  have hNp : N ≤ pw := by omega
  obtain ⟨pr, hpr⟩ : ∃ pr : Nat, pr = N * len := ⟨_, rfl⟩
  have hprb : pr ≤ 2048 * 64 := by rw [hpr]; exact Nat.mul_le_mul (by omega) hlen
  have hmul : (N : Int) * (len : Int) = (pr : Int) := by rw [hpr]; push_cast; rfl
  rw [← hpr] at hen
  have HB := Sd.mk hb
  have HM := Sd.mk hM
  have hm0 := hc0.cell (i := 5) rfl
  have hm1 := hc0.cell (i := 6) rfl
  rw [f1] at hm0
  rw [f2] at hm1
  have hNb : N ≤ 4096 := by omega
  have v0 := hv0.cell (i := 0) rfl
  have s0 := hs0.cell (i := 0) rfl
  have s1 := hs0.cell (i := 1) rfl
  have s2 := hs0.cell (i := 2) rfl
  have s3 := hs0.cell (i := 3) rfl
  have s4 := hs0.cell (i := 4) rfl
  have hd1 : decide ((1 : Int) ≤ (N : Int)) = true := decide_eq_true (by omega)
  have hd2 : decide ((N : Int) ≤ (pw : Int)) = true := decide_eq_true (by omega)
  have hd3 : decide ((0 : Int) ≤ (en : Int)) = true := decide_eq_true (by omega)
  have hd5 : decide ((en : Int) ≤ IntKind.i64.wrap (pr : Int)) = true := decide_eq_true (by rw [IntKind.wrap_i64]; omega)
  have hd6 : decide ((en : Int) ≤ IntKind.i64.wrap ((N : Int) * (len : Int))) = true := by rw [hmul]; exact hd5
  have hd4 : decide ((en : Int) ≤ (pr : Int)) = true := decide_eq_true (by omega)
  clear f1 f2 f6 f7 hb hc0 hv0 hs0 ht0 KS hpow hpow2 hpw hpr hM hN2 hc
  go_enter Try.func13, Try.ntmps13
  go_upto_region 1 with fail
  rw [HM.out]
  by_cases hcd : e < c.D
  · have hnb := hnB hcd
    have hdm : decide ((n : Int) ≤ (c.B : Int)) = true := decide_eq_true (by omega)
    clear hnB
    have hd0 : decide ((0 : Int) ≤ (n : Int)) = true := decide_eq_true (by omega)
    have hde : decide ((0 : Int) ≤ (e : Int)) = true := decide_eq_true (by omega)
    have hdd : decide ((e : Int) ≤ (c.D : Int)) = true := decide_eq_true (by omega)
    by_cases h1 : 1 ≤ n
    · have hdn : decide ((1 : Int) ≤ (n : Int)) = true := decide_eq_true (by omega)
      go_upto_region 5 with fail
      refine wp_region_quietC (C := FitS M w.heap.size c.D N en) (by kernel_rfl) (by kernel_rfl) (HS.out _ ((Below.refl _ _).drew)) ?_
      repeat (first
        | go_big_quiet_skip
        | (go_big_quiet_want
           first
             | (refine quiet_run ?_
                apply Exists.intro
                refine ⟨fun w hw => ?_, ?_⟩
                · ((unfold FitS at hw); go_split_ands; go_simp; (try with_reducible rfl))
                go_big_quiet_on
                try simp only [Act.put, List.setIfInBounds_toArray, List.set_cons_zero, List.set_cons_succ])
             | (apply Exists.intro
                refine ⟨fun w hw => ?_, ?_⟩
                · (unfold Oper.quietAt; go_simp; first | (with_reducible exact HPW.out _ hw))
                go_big_quiet_on
                try simp only [Act.put, List.setIfInBounds_toArray, List.set_cons_zero, List.set_cons_succ])))
      refine wpQuiet_nil ?_
      intro W hW
      go_wp2_with fail
      go_ret
      exact ⟨rfl, HB.out.trans (hW.1.mono HB.out.size)⟩
    · have hf : hit = false := by cases hit; rfl; exact absurd (hp rfl) h1
      subst hf
      have hdn : decide ((1 : Int) ≤ (n : Int)) = false := decide_eq_false (by omega)
      go_upto_region 5 with fail
      refine wp_region_quietC (C := FitS M w.heap.size c.D N en) (by kernel_rfl) (by kernel_rfl) (HS.out _ ((Below.refl _ _).drew)) ?_
      repeat (first
        | go_big_quiet_skip
        | (go_big_quiet_want
           first
             | (refine quiet_run ?_
                apply Exists.intro
                refine ⟨fun w hw => ?_, ?_⟩
                · ((unfold FitS at hw); go_split_ands; go_simp; (try with_reducible rfl))
                go_big_quiet_on
                try simp only [Act.put, List.setIfInBounds_toArray, List.set_cons_zero, List.set_cons_succ])
             | (apply Exists.intro
                refine ⟨fun w hw => ?_, ?_⟩
                · (unfold Oper.quietAt; go_simp; first | (with_reducible exact HPW.out _ hw))
                go_big_quiet_on
                try simp only [Act.put, List.setIfInBounds_toArray, List.set_cons_zero, List.set_cons_succ])))
      refine wpQuiet_nil ?_
      intro W hW
      go_wp2_with fail
      go_ret
      exact ⟨rfl, HB.out.trans (hW.1.mono HB.out.size)⟩
  · have hdm : decide ((n : Int) ≤ (len : Int)) = true := decide_eq_true (by omega)
    clear hnB
    have hd0 : decide ((0 : Int) ≤ (n : Int)) = true := decide_eq_true (by omega)
    have hde : decide ((0 : Int) ≤ (e : Int)) = true := decide_eq_true (by omega)
    have hdd : decide ((e : Int) ≤ (c.D : Int)) = true := decide_eq_true (by omega)
    by_cases h1 : 1 ≤ n
    · have hdn : decide ((1 : Int) ≤ (n : Int)) = true := decide_eq_true (by omega)
      go_upto_region 5 with fail
      refine wp_region_quietC (C := FitS M w.heap.size c.D N en) (by kernel_rfl) (by kernel_rfl) (HS.out _ ((Below.refl _ _).drew)) ?_
      repeat (first
        | go_big_quiet_skip
        | (go_big_quiet_want
           first
             | (refine quiet_run ?_
                apply Exists.intro
                refine ⟨fun w hw => ?_, ?_⟩
                · ((unfold FitS at hw); go_split_ands; go_simp; (try with_reducible rfl))
                go_big_quiet_on
                try simp only [Act.put, List.setIfInBounds_toArray, List.set_cons_zero, List.set_cons_succ])
             | (apply Exists.intro
                refine ⟨fun w hw => ?_, ?_⟩
                · (unfold Oper.quietAt; go_simp; first | (with_reducible exact HPW.out _ hw))
                go_big_quiet_on
                try simp only [Act.put, List.setIfInBounds_toArray, List.set_cons_zero, List.set_cons_succ])))
      refine wpQuiet_nil ?_
      intro W hW
      go_wp2_with fail
      go_ret
      exact ⟨rfl, HB.out.trans (hW.1.mono HB.out.size)⟩
    · have hf : hit = false := by cases hit; rfl; exact absurd (hp rfl) h1
      subst hf
      have hdn : decide ((1 : Int) ≤ (n : Int)) = false := decide_eq_false (by omega)
      go_upto_region 5 with fail
      refine wp_region_quietC (C := FitS M w.heap.size c.D N en) (by kernel_rfl) (by kernel_rfl) (HS.out _ ((Below.refl _ _).drew)) ?_
      repeat (first
        | go_big_quiet_skip
        | (go_big_quiet_want
           first
             | (refine quiet_run ?_
                apply Exists.intro
                refine ⟨fun w hw => ?_, ?_⟩
                · ((unfold FitS at hw); go_split_ands; go_simp; (try with_reducible rfl))
                go_big_quiet_on
                try simp only [Act.put, List.setIfInBounds_toArray, List.set_cons_zero, List.set_cons_succ])
             | (apply Exists.intro
                refine ⟨fun w hw => ?_, ?_⟩
                · (unfold Oper.quietAt; go_simp; first | (with_reducible exact HPW.out _ hw))
                go_big_quiet_on
                try simp only [Act.put, List.setIfInBounds_toArray, List.set_cons_zero, List.set_cons_succ])))
      refine wpQuiet_nil ?_
      intro W hW
      go_wp2_with fail
      go_ret
      exact ⟨rfl, HB.out.trans (hW.1.mono HB.out.size)⟩
end Go.Proofs.Ytljliopmphaoeaa
