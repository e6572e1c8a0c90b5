/- What the small functions of packages prefix, span and mask give back. -/
import Derived.Test.YtljliopmphaoeaaQB
namespace Go.Proofs.Ytljliopmphaoeaa
open Go Go.RowKit Go.Proofs.Ytljliopmphaoeaa.Q

/-! ### prefix -/
theorem shl_care (n : Int) (h0 : 0 ≤ n) (h1 : n ≤ 32) : ((4294967295 : Int) * 2 ^ (32 - n).toNat) % 4294967296 = ((4294967296 - free n : Nat) : Int) := by
  obtain ⟨k, rfl⟩ : ∃ k : Nat, n = k := ⟨n.toNat, by omega⟩
  have hk : k < 33 := by omega
  have e : ∀ k : Fin 33, ((4294967295 : Int) * 2 ^ (32 - k.val)) % 4294967296 = ((4294967296 - 2 ^ (32 - k.val) : Nat) : Int) := by decide
  have := e ⟨k, hk⟩
  unfold free
  rw [show (32 - (k : Int)).toNat = 32 - k from by omega, Int.toNat_natCast]
  exact this
theorem care_any (n : Int) (h0 : 0 ≤ n) (h1 : n ≤ 32) (w : World) : Calls Try.prog 80 #[.int .i64 n] w fun e w' => e = .returned (.int .u32 ((4294967296 - free n : Nat) : Int)) ∧ w = w' := by
  have HS := Sd.mk (shl_care n h0 h1)
  go_enter Try.func80, Try.ntmps80
  go_wp2
  go_ret
  exact ⟨ret_int HS.out, rfl⟩
theorem free_le (n : Int) : free n ≤ 4294967296 := by
  unfold free
  have : 2 ^ (32 - n.toNat) ≤ 2 ^ 32 := Nat.pow_le_pow_right (by omega) (by omega)
  simpa using this
theorem andNot_care (a : Nat) (n : Int) (ha : a < 4294967296) : bits .andNot .u32 (a : Int) ((4294967296 - free n : Nat) : Int) = ((a % free n : Nat) : Int) := by
  have h1 := free_pos n
  have h2 := free_le n
  rw [u32_andNot_nat a _ ha (by omega), show 4294967295 - (4294967296 - free n) = free n - 1 from by omega]
  unfold free
  rw [mod_and]
theorem and_care (a : Nat) (n : Int) (ha : a < 4294967296) : bits .and .u32 (a : Int) ((4294967296 - free n : Nat) : Int) = ((a / free n * free n : Nat) : Int) := by
  have h1 := free_pos n
  rw [u32_and_nat a _ ha (by omega)]
  unfold free
  rw [top_and a _ (by omega) ha]
set_option maxHeartbeats 1000000 in
theorem pfxCheck_any (p : Pfx) (hw : p.Wf) (w : World) : Calls Try.prog 79 #[.agg #[.int .u32 p.a, .int .i64 p.n]] w fun e w' => e = .returned (.int .i64 p.ck) ∧ Below w.heap.size w w' := by
  obtain ⟨a, n⟩ := p
  have ha := hw.a
  simp only at ha ⊢
  by_cases h0 : n < 0
  · have HC : Sd (Pfx.ck ⟨a, n⟩ = 20) := ⟨by unfold Pfx.ck; rw [if_pos (.inl h0)]⟩
    clear hw
    go_enter Try.func79, Try.ntmps79
    go_wp2
    go_ret
    exact ⟨ret_int HC.out.symm, (Below.refl _ _).alloc (Nat.le_refl _) _⟩
  by_cases h1 : 32 < n
  · have HC : Sd (Pfx.ck ⟨a, n⟩ = 20) := ⟨by unfold Pfx.ck; rw [if_pos (.inr h1)]⟩
    clear hw
    go_enter Try.func79, Try.ntmps79
    go_wp2
    go_ret
    exact ⟨ret_int HC.out.symm, (Below.refl _ _).alloc (Nat.le_refl _) _⟩
  · have h0' : 0 ≤ n := by omega
    have h1' : n ≤ 32 := by omega
    have HK := Sd.mk (fun W => care_any n h0' h1' W)
    have he := andNot_care a n ha
    by_cases hz : a % free n = 0
    · have HC : Sd (Pfx.ck ⟨a, n⟩ = 0) := ⟨by rw [Pfx.ok_iff]; exact ⟨h0', h1', hz⟩⟩
      have ht : (bits .andNot .u32 (a : Int) ((4294967296 - free n : Nat) : Int) != 0) = false := by rw [he, hz]; rfl
      clear hw he hz
      go_enter Try.func79, Try.ntmps79
      go_wp2
      go_quiet ((go_at_call 80; exact quiet_same HK.out))
      go_wp2
      go_ret
      exact ⟨ret_int HC.out.symm, Below.drewN ((Below.refl _ _).alloc (Nat.le_refl _) _)⟩
    · have HC : Sd (Pfx.ck ⟨a, n⟩ = 21) := ⟨by unfold Pfx.ck; rw [if_neg (by simp only; omega), if_pos hz]⟩
      have ht : (bits .andNot .u32 (a : Int) ((4294967296 - free n : Nat) : Int) != 0) = true := by rw [he]; simp; omega
      clear hw he hz
      go_enter Try.func79, Try.ntmps79
      go_wp2
      go_quiet ((go_at_call 80; exact quiet_same HK.out))
      go_wp2
      go_ret
      exact ⟨ret_int HC.out.symm, Below.drewN ((Below.refl _ _).alloc (Nat.le_refl _) _)⟩
set_option maxHeartbeats 1000000 in
theorem pfxHas_any (p : Pfx) (hw : p.Wf) (x : Nat) (hx : x < 4294967296) (w : World) : Calls Try.prog 51 #[.agg #[.int .u32 p.a, .int .i64 p.n], .int .u32 x] w fun e w' => e = .returned (.bool (p.has x)) ∧ Below w.heap.size w w' := by
  have HP := Sd.mk (fun W => pfxCheck_any p hw W)
  obtain ⟨M, hM⟩ : ∃ M, M = w.alloc (.cells #[.int .u32 p.a, .int .i64 p.n] 54) := ⟨_, rfl⟩
  have hB : Blk M w.heap.size #[.int .u32 p.a, .int .i64 p.n] 54 := by rw [hM]; exact Blk.new _ _ _
  have HKS := Sd.mk (keep2 hB)
  have HWM : Sd (Below w.heap.size w M) := ⟨by rw [hM]; exact (Below.refl _ _).alloc (Nat.le_refl _) _⟩
  have HMM := Sd.mk hM
  by_cases hc : p.ck = 0
  · obtain ⟨h0, h1, _⟩ := p.ok_iff.1 hc
    have HK := Sd.mk (fun W => care_any p.n h0 h1 W)
    have he := and_care x p.n hx
    have ht : (bits .and .u32 (x : Int) ((4294967296 - free p.n : Nat) : Int) == (p.a : Int)) = p.has x := by
      rw [he, nat_beq]; unfold Pfx.has; rw [hc]; rfl
    rw [hc] at HP
    have HT := Sd.mk ht
    clear hM hB hw he hc ht
    go_enter Try.func51, Try.ntmps51
    go_wp2
    rw [show w.alloc (.cells #[.int .u32 p.a, .int .i64 p.n] 54) = M from HMM.out.symm]
    go_region_held3 (fun W => Below M.heap.size M W ∧ W.cell? ⟨w.heap.size, 0, none⟩ = some (.int .u32 p.a) ∧ W.cell? ⟨w.heap.size, 1, none⟩ = some (.int .i64 p.n))
      (first | (exact HKS.out _ (by assumption)) | (exact HKS.out _ ((Below.refl _ _).drew)))
      (first
        | (go_at_call 79; refine (held HP.out M _ ?_).mono ?_; (go_split_ands; assumption); rintro e w1 ⟨rfl, hb⟩)
        | (go_at_call 80; refine (held_same HK.out M _ ?_).mono ?_; (go_split_ands; assumption); rintro e w1 ⟨rfl, hb⟩))
    go_wp2
    go_ret
    exact ⟨ret_bool HT.out, beyond HWM.out (by assumption)⟩
  · have hh : p.has x = false := by unfold Pfx.has; simp [hc]
    have HT := Sd.mk hh
    have hcc := p.ck_cases
    clear hM hB hw hh
    rcases hcc with h | h | h
    rotate_right
    · exact absurd h hc
    all_goals
      rw [h] at HP
      clear h hc
      have HPC := Sd.mk (fun W (h : Below M.heap.size M W ∧ W.cell? ⟨w.heap.size, 0, none⟩ = some (.int .u32 p.a) ∧ W.cell? ⟨w.heap.size, 1, none⟩ = some (.int .i64 p.n)) => (held HP.out M W h.1).mono fun e w' k => And.intro k.1 (HKS.out w' k.2))
      go_enter Try.func51, Try.ntmps51
      go_wp2
      rw [show w.alloc (.cells #[.int .u32 p.a, .int .i64 p.n] 54) = M from HMM.out.symm]
      refine wp_region_quietC (C := (fun W => Below M.heap.size M W ∧ W.cell? ⟨w.heap.size, 0, none⟩ = some (.int .u32 p.a) ∧ W.cell? ⟨w.heap.size, 1, none⟩ = some (.int .i64 p.n))) (by kernel_rfl) (by kernel_rfl) (HKS.out _ ((Below.refl _ _).drew)) ?_
      repeat (first
        | go_big_quiet_skip
        | (go_big_quiet_want
           first
             | (refine quiet_run ?_
                apply Exists.intro
                refine ⟨fun w hw => ?_, ?_⟩
                · ((try dsimp only at hw); go_split_ands; go_simp; (try with_reducible rfl))
                go_big_quiet_on
                try simp only [Act.put, List.setIfInBounds_toArray, List.set_cons_zero, List.set_cons_succ])
             | (apply Exists.intro
                refine ⟨fun w hw => ?_, ?_⟩
                · (unfold Oper.quietAt; go_simp; first | (with_reducible exact HPC.out _ hw))
                go_big_quiet_on
                try simp only [Act.put, List.setIfInBounds_toArray, List.set_cons_zero, List.set_cons_succ])))
      refine wpQuiet_nil ?_
      intro W hW
      obtain ⟨hb, _⟩ := hW
      go_wp2
      go_ret
      exact ⟨ret_bool HT.out.symm, beyond HWM.out (by assumption)⟩

/-! ### span -/
theorem spnMay_any (s : Spn) (w : World) : Calls Try.prog 102 #[.agg #[.int .u16 s.lo, .int .u16 s.hi]] w fun e w' => e = .returned (.bool (decide (s.ck = 0))) ∧ Below w.heap.size w w' := by
  have HC : Sd (decide (s.lo ≤ s.hi) = decide (s.ck = 0)) := ⟨by rw [Bool.eq_iff_iff]; simp only [decide_eq_true_eq, Spn.ok_iff]⟩
  go_enter Try.func102, Try.ntmps102
  go_wp2
  go_ret
  exact ⟨ret_bool HC.out, (Below.refl _ _).alloc (Nat.le_refl _) _⟩
theorem spnCheck_any (s : Spn) (w : World) : Calls Try.prog 85 #[.agg #[.int .u16 s.lo, .int .u16 s.hi]] w fun e w' => e = .returned (.int .i64 s.ck) ∧ Below w.heap.size w w' := by
  by_cases h : s.hi < s.lo
  · have HC : Sd (s.ck = 30) := ⟨by unfold Spn.ck; rw [if_pos h]⟩
    have h' : (s.hi : Int) < (s.lo : Int) := by omega
    go_enter Try.func85, Try.ntmps85
    go_wp2
    go_ret
    exact ⟨ret_int HC.out.symm, (Below.refl _ _).alloc (Nat.le_refl _) _⟩
  · have HC : Sd (s.ck = 0) := ⟨by unfold Spn.ck; rw [if_neg h]⟩
    have h' : (s.lo : Int) ≤ (s.hi : Int) := by omega
    go_enter Try.func85, Try.ntmps85
    go_wp2
    go_ret
    exact ⟨ret_int HC.out.symm, (Below.refl _ _).alloc (Nat.le_refl _) _⟩
theorem spnHas_any (s : Spn) (x : Nat) (w : World) : Calls Try.prog 52 #[.agg #[.int .u16 s.lo, .int .u16 s.hi], .int .u16 x] w fun e w' => e = .returned (.bool (s.has x)) ∧ Below w.heap.size w w' := by
  by_cases h : s.lo ≤ x
  · have h' : (s.lo : Int) ≤ (x : Int) := by omega
    have HC : Sd (decide (x ≤ s.hi) = s.has x) := ⟨by unfold Spn.has; rw [Bool.eq_iff_iff]; simp; omega⟩
    go_enter Try.func52, Try.ntmps52
    go_wp2
    go_ret
    exact ⟨ret_bool HC.out, (Below.refl _ _).alloc (Nat.le_refl _) _⟩
  · have h' : (x : Int) < (s.lo : Int) := by omega
    have HC : Sd (false = s.has x) := ⟨by unfold Spn.has; simp [h]⟩
    go_enter Try.func52, Try.ntmps52
    go_wp2
    go_ret
    exact ⟨ret_bool HC.out, (Below.refl _ _).alloc (Nat.le_refl _) _⟩

/-! ### mask -/
theorem andNot_bit (v c i : Nat) (hc : c < 256) : (v &&& (255 - c)).testBit i = (v.testBit i && (decide (i < 8) && !c.testBit i)) := by
  rw [Nat.testBit_and, show 255 - c = 2 ^ 8 - (c + 1) from by omega, Nat.testBit_two_pow_sub_succ (by omega)]
theorem high_bit (v i : Nat) (hv : v < 256) (hi : ¬ i < 8) : v.testBit i = false := Nat.testBit_lt_two_pow (Nat.lt_of_lt_of_le hv (by
  have : 2 ^ 8 ≤ 2 ^ i := Nat.pow_le_pow_right (by omega) (by omega)
  simpa using this))
theorem andNot_zero (v c : Nat) (hv : v < 256) (hc : c < 256) : (v &&& (255 - c) = 0) ↔ v &&& c = v := by
  constructor
  · intro h
    apply Nat.eq_of_testBit_eq; intro i
    have h1 := andNot_bit v c i hc
    rw [h, Nat.zero_testBit] at h1
    rw [Nat.testBit_and]
    by_cases hi : i < 8
    · revert h1; simp only [hi, decide_true, Bool.true_and]
      generalize v.testBit i = p; generalize c.testBit i = q; revert p q; decide
    · rw [high_bit v i hv hi]; rfl
  · intro h
    apply Nat.eq_of_testBit_eq; intro i
    rw [andNot_bit v c i hc, Nat.zero_testBit]
    have h1 : (v &&& c).testBit i = v.testBit i := by rw [h]
    rw [Nat.testBit_and] at h1
    revert h1
    generalize v.testBit i = p; generalize c.testBit i = q; generalize decide (i < 8) = r; revert p q r; decide
theorem mskCheck_any (m : Msk) (hw : m.Wf) (w : World) : Calls Try.prog 86 #[.agg #[.int .u8 m.v, .int .u8 m.c]] w fun e w' => e = .returned (.int .i64 m.ck) ∧ Below w.heap.size w w' := by
  have he := u8_andNot_nat m.v m.c hw.v hw.c
  have hz : (m.v &&& (255 - m.c) = 0) ↔ m.ck = 0 := by
    rw [Msk.ok_iff]
    exact andNot_zero m.v m.c hw.v hw.c
  by_cases h : m.ck = 0
  · have HC := Sd.mk h
    have ht : (bits .andNot .u8 (m.v : Int) (m.c : Int) != 0) = false := by rw [he, hz.2 h]; rfl
    clear hw he hz h
    go_enter Try.func86, Try.ntmps86
    go_wp2
    go_ret
    exact ⟨ret_int HC.out.symm, (Below.refl _ _).alloc (Nat.le_refl _) _⟩
  · have HC : Sd (m.ck = 40) := ⟨by rcases m.ck_cases with h1 | h1 <;> omega⟩
    have ht : (bits .andNot .u8 (m.v : Int) (m.c : Int) != 0) = true := by rw [he]; simp; intro h1; exact h (hz.1 h1)
    clear hw he hz h
    go_enter Try.func86, Try.ntmps86
    go_wp2
    go_ret
    exact ⟨ret_int HC.out.symm, (Below.refl _ _).alloc (Nat.le_refl _) _⟩
theorem mskHas_any (m : Msk) (hw : m.Wf) (x : Nat) (hx : x < 256) (w : World) : Calls Try.prog 53 #[.agg #[.int .u8 m.v, .int .u8 m.c], .int .u8 x] w fun e w' => e = .returned (.bool (m.has x)) ∧ Below w.heap.size w w' := by
  have HC : Sd ((bits .and .u8 (x : Int) (m.c : Int) == (m.v : Int)) = m.has x) := ⟨by rw [u8_and_nat x m.c hx hw.c, nat_beq]; rfl⟩
  clear hw
  go_enter Try.func53, Try.ntmps53
  go_wp2
  go_ret
  exact ⟨ret_bool HC.out, (Below.refl _ _).alloc (Nat.le_refl _) _⟩
end Go.Proofs.Ytljliopmphaoeaa
