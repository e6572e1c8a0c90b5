/- What the document's answers for prefixes and masks give back: the same. -/
import Derived.Test.YtljliopmphaoeaaQ4
namespace Go.Proofs.Ytljliopmphaoeaa
open Go Go.RowKit Go.Proofs.Ytljliopmphaoeaa.Q

/-- the bit of a number at a place from below -/
def bitA (a k : Nat) : Nat := a / 2 ^ k % 2
theorem bitA_lt (a k : Nat) : bitA a k < 2 := Nat.mod_lt _ (by omega)
theorem bitA_test (a k : Nat) : a.testBit k = decide (bitA a k = 1) := Nat.testBit_eq_decide_div_mod_eq
theorem bit_val (a k : Nat) (ha : a < 4294967296) : (wrap64 ((a : Int) / 2 ^ k)).tmod 2 = ((bitA a k : Nat) : Int) := by
  have h1 : ((a : Int) / 2 ^ k) = ((a / 2 ^ k : Nat) : Int) := by simp
  have h2 : a / 2 ^ k ≤ a := Nat.div_le_self _ _
  rw [h1]
  unfold bitA
  generalize a / 2 ^ k = q at h2
  have h3 : wrap64 (q : Int) = (q : Int) := by unfold wrap64; omega
  rw [h3, Int.tmod_eq_emod_of_nonneg (by omega)]
  rfl
theorem bit32_any (a i : Nat) (ha : a < 4294967296) (hi : i < 32) (w : World) : Calls Try.prog 97 #[.int .u32 a, .int .i64 i] w fun e w' => e = .returned (.int .i64 ((bitA a (31 - i) : Nat) : Int)) ∧ w = w' := by
  have HV := Sd.mk (bit_val a (31 - i) ha)
  go_enter Try.func97, Try.ntmps97
  go_wp2
  go_ret
  exact ⟨ret_int HV.out, rfl⟩
theorem bit8_any (a i : Nat) (ha : a < 256) (hi : i < 8) (w : World) : Calls Try.prog 98 #[.int .u8 a, .int .i64 i] w fun e w' => e = .returned (.int .i64 ((bitA a (7 - i) : Nat) : Int)) ∧ w = w' := by
  have HV := Sd.mk (bit_val a (7 - i) (by omega))
  go_enter Try.func98, Try.ntmps98
  go_wp2
  go_ret
  exact ⟨ret_int HV.out, rfl⟩
theorem mod_bit (a k : Nat) (hk : k < 32) : a % 2 ^ (32 - k) = a % 2 ^ (32 - (k + 1)) + 2 ^ (32 - (k + 1)) * bitA a (31 - k) := by
  have := Nat.mod_pow_succ (x := a) (b := 2) (k := 31 - k)
  rw [show 31 - k + 1 = 32 - k from by omega] at this
  rw [show 32 - (k + 1) = 31 - k from by omega]
  exact this
theorem div_bit (a k : Nat) (hk : k < 32) : a / 2 ^ (32 - (k + 1)) = 2 * (a / 2 ^ (32 - k)) + bitA a (31 - k) := by
  have h1 : a / 2 ^ (32 - k) = a / 2 ^ (31 - k) / 2 := by
    rw [Nat.div_div_eq_div_mul, ← Nat.pow_succ, show (31 - k).succ = 32 - k from by omega]
  have h2 := Nat.div_add_mod (a / 2 ^ (31 - k)) 2
  rw [show 32 - (k + 1) = 31 - k from by omega, h1]
  unfold bitA
  omega
set_option maxHeartbeats 1000000 in
set_option maxRecDepth 100000 in
theorem rPfxCheck_any (p : Pfx) (hw : p.Wf) (w : World) : Calls Try.prog 81 #[.agg #[.int .u32 p.a, .int .i64 p.n]] w fun e w' => e = .returned (.int .i64 p.ck) ∧ Below w.heap.size w w' := by
  obtain ⟨a, n⟩ := p
  have ha := hw.a
  simp only at ha ⊢
  by_cases h0 : n < 0
  · have HC : Sd (Pfx.ck ⟨a, n⟩ = 20) := ⟨by unfold Pfx.ck; rw [if_pos (.inl h0)]⟩
    clear hw
    go_enter Try.func81, Try.ntmps81
    go_wp2
    go_ret
    exact ⟨ret_int HC.out.symm, (Below.refl _ _).alloc (Nat.le_refl _) _⟩
  by_cases h1 : 32 < n
  · have HC : Sd (Pfx.ck ⟨a, n⟩ = 20) := ⟨by unfold Pfx.ck; rw [if_pos (.inr h1)]⟩
    clear hw
    go_enter Try.func81, Try.ntmps81
    go_wp2
    go_ret
    exact ⟨ret_int HC.out.symm, (Below.refl _ _).alloc (Nat.le_refl _) _⟩
  · obtain ⟨m, rfl⟩ : ∃ m : Nat, n = m := ⟨n.toNat, by omega⟩
    have hm : m ≤ 32 := by omega
    have hfree : free (m : Int) = 2 ^ (32 - m) := by unfold free; rw [Int.toNat_natCast]
    have HF := Sd.mk hfree
    clear hw h0 h1 hfree
    go_enter Try.func81, Try.ntmps81
    go_wp2
    go_loop [3] (fun iv => ∃ k : Nat, m ≤ k ∧ k ≤ 32 ∧ iv = .int .i64 k ∧ Sd (a % 2 ^ (32 - m) = a % 2 ^ (32 - k))) (fun iv => 32 - (intOf iv).toNat)
    case atStart => exact ⟨m, by omega, by omega, rfl, ⟨rfl⟩⟩
    case round =>
      obtain ⟨k, hk1, hk2, rfl, HI⟩ := hrel
      by_cases hlt : k < 32
      · have HM := Sd.mk (mod_bit a k hlt)
        have hb := bitA_lt a (31 - k)
        by_cases hz : bitA a (31 - k) = 0
        · have HZ := Sd.mk hz
          have K := bit32_any a k ha hlt
          rw [hz] at K
          have HK := Sd.mk K
          clear hz K hb
          go_wp2_with fail
          refine (HK.out _).mono ?_
          rintro e w1 ⟨rfl, rfl⟩
          go_wp2
          go_round
          case rel => exact ⟨k + 1, by omega, by omega, by go_num, ⟨by rw [HI.out, HM.out, HZ.out]; simp⟩⟩
          case measure => simp [intOf]; omega
        · have hz1 : bitA a (31 - k) = 1 := by omega
          have HC : Sd (Pfx.ck ⟨a, m⟩ = 21) := ⟨by
            unfold Pfx.ck
            simp only
            rw [if_neg (by omega), if_pos]
            rw [HF.out, HI.out, HM.out, hz1]
            have := Nat.two_pow_pos (32 - (k + 1))
            omega⟩
          have K := bit32_any a k ha hlt
          rw [hz1] at K
          have HK := Sd.mk K
          clear hz hz1 K hb
          go_wp2_with fail
          refine (HK.out _).mono ?_
          rintro e w1 ⟨rfl, rfl⟩
          go_wp2
          go_ret
          exact ⟨ret_int HC.out.symm, (Below.refl _ _).alloc (Nat.le_refl _) _⟩
      · obtain rfl : k = 32 := by omega
        have HC : Sd (Pfx.ck ⟨a, m⟩ = 0) := ⟨by
          rw [Pfx.ok_iff]
          refine ⟨by simp only; omega, by simp only; omega, ?_⟩
          simp only
          rw [HF.out, HI.out, Nat.sub_self, Nat.pow_zero, Nat.mod_one]⟩
        go_wp2
        go_ret
        exact ⟨ret_int HC.out.symm, (Below.refl _ _).alloc (Nat.le_refl _) _⟩
set_option maxHeartbeats 1000000 in
set_option maxRecDepth 100000 in
theorem rPfxHas_any (p : Pfx) (hw : p.Wf) (x : Nat) (hx : x < 4294967296) (w : World) : Calls Try.prog 100 #[.agg #[.int .u32 p.a, .int .i64 p.n], .int .u32 x] w fun e w' => e = .returned (.bool (p.has x)) ∧ Below w.heap.size w w' := by
  by_cases hc : p.ck = 0
  · have K := rPfxCheck_any p hw
    rw [hc] at K
    have HK := Sd.mk K
    obtain ⟨q0, q1, q2⟩ := p.ok_iff.1 hc
    have hh : p.has x = decide (x / free p.n * free p.n = p.a) := by unfold Pfx.has; rw [hc]; simp
    obtain ⟨a, n⟩ := p
    have ha := hw.a
    simp only at ha q0 q1 q2 hh HK ⊢
    obtain ⟨m, rfl⟩ : ∃ m : Nat, n = m := ⟨n.toNat, by omega⟩
    have hfree : free (m : Int) = 2 ^ (32 - m) := by unfold free; rw [Int.toNat_natCast]
    rw [hfree] at hh q2
    have hm : m ≤ 32 := by omega
    have HH := Sd.mk hh
    have HA : Sd (a = a / 2 ^ (32 - m) * 2 ^ (32 - m)) := ⟨by have := Nat.div_add_mod a (2 ^ (32 - m)); rw [Nat.mul_comm]; omega⟩
    clear hc K hw hfree hh q0 q1 q2
    go_enter Try.func100, Try.ntmps100
    go_wp2_with fail
    refine (HK.out _).mono ?_
    rintro e w1 ⟨rfl, hb⟩
    have k := (Blk.new w #[.int .u32 a, .int .i64 m] 54).below hb (by simp)
    have c0 := k.cell (i := 0) rfl
    have c1 := k.cell (i := 1) rfl
    have HW : Sd (Below w.heap.size w w1) := ⟨((Below.refl _ _).alloc (Nat.le_refl _) _).trans (hb.mono (by simp))⟩
    clear k hb
    go_wp2
    go_loop [5] (fun iv => ∃ k : Nat, k ≤ m ∧ iv = .int .i64 k ∧ Sd (x / 2 ^ (32 - k) = a / 2 ^ (32 - k))) (fun iv => 32 - (intOf iv).toNat)
    case atStart => exact ⟨0, by omega, rfl, ⟨by rw [Nat.div_eq_of_lt (by simpa using hx), Nat.div_eq_of_lt (by simpa using ha)]⟩⟩
    case round =>
      obtain ⟨k, hk, rfl, HI⟩ := hrel
      by_cases hlt : k < m
      · have hlt2 : k < 32 := by omega
        have HD1 := Sd.mk (div_bit a k hlt2)
        have HD2 := Sd.mk (div_bit x k hlt2)
        have K1 := Sd.mk (bit32_any a k ha hlt2)
        have K2 := Sd.mk (bit32_any x k hx hlt2)
        by_cases he : bitA a (31 - k) = bitA x (31 - k)
        · have ht : (((bitA a (31 - k) : Nat) : Int) != ((bitA x (31 - k) : Nat) : Int)) = false := by rw [nat_bne]; simp [he]
          have HE := Sd.mk he
          clear he
          go_wp2_with fail
          refine (K1.out _).mono ?_
          rintro e w2 ⟨rfl, rfl⟩
          go_wp2_with fail
          refine (K2.out _).mono ?_
          rintro e w2 ⟨rfl, rfl⟩
          go_wp2
          go_round
          case rel => exact ⟨k + 1, by omega, by go_num, ⟨by rw [HD1.out, HD2.out, HI.out, HE.out]⟩⟩
          case measure => simp [intOf]; omega
        · have ht : (((bitA a (31 - k) : Nat) : Int) != ((bitA x (31 - k) : Nat) : Int)) = true := by rw [nat_bne]; simp [he]
          have HN : Sd (decide (x / 2 ^ (32 - m) * 2 ^ (32 - m) = a) = false) := ⟨by
            rw [decide_eq_false_iff_not]
            intro h
            apply he
            have h1 : bitA a (31 - k) = bitA x (31 - k) := by
              have e1 : ∀ y, bitA y (31 - k) = bitA (y / 2 ^ (32 - m)) (m - k - 1) := by
                intro y
                unfold bitA
                rw [Nat.div_div_eq_div_mul, ← Nat.pow_add, show 32 - m + (m - k - 1) = 31 - k from by omega]
              rw [e1 a, e1 x, ← h, Nat.mul_div_cancel _ (Nat.two_pow_pos _)]
            exact h1⟩
          clear he
          go_wp2_with fail
          refine (K1.out _).mono ?_
          rintro e w2 ⟨rfl, rfl⟩
          go_wp2_with fail
          refine (K2.out _).mono ?_
          rintro e w2 ⟨rfl, rfl⟩
          go_wp2
          go_ret
          exact ⟨ret_bool (by rw [HH.out, HN.out]), HW.out⟩
      · obtain rfl : k = m := by omega
        have HY : Sd (decide (x / 2 ^ (32 - k) * 2 ^ (32 - k) = a) = true) := ⟨by rw [HI.out, decide_eq_true_iff]; exact HA.out.symm⟩
        go_wp2
        go_ret
        exact ⟨ret_bool (by rw [HH.out, HY.out]), HW.out⟩
  · have hh : p.has x = false := by unfold Pfx.has; simp [hc]
    have HH := Sd.mk hh
    have K := rPfxCheck_any p hw
    rcases p.ck_cases with h | h | h
    rotate_right
    · exact absurd h hc
    all_goals
      rw [h] at K
      have HK := Sd.mk K
      clear h hc K hh hw
      go_enter Try.func100, Try.ntmps100
      go_wp2_with fail
      refine (HK.out _).mono ?_
      rintro e w1 ⟨rfl, hb⟩
      have HW : Sd (Below w.heap.size w w1) := ⟨((Below.refl _ _).alloc (Nat.le_refl _) _).trans (hb.mono (by simp))⟩
      clear hb
      go_wp2
      go_ret
      exact ⟨ret_bool HH.out.symm, HW.out⟩
set_option maxHeartbeats 1000000 in
set_option maxRecDepth 100000 in
theorem rMskCheck_any (m : Msk) (hw : m.Wf) (w : World) : Calls Try.prog 83 #[.agg #[.int .u8 m.v, .int .u8 m.c]] w fun e w' => e = .returned (.int .i64 m.ck) ∧ Below w.heap.size w w' := by
  have KV := fun i hi => bit8_any m.v i hw.v hi
  have KC := fun i hi => bit8_any m.c i hw.c hi
  have HKV := Sd.mk KV
  have HKC := Sd.mk KC
  have HW := Sd.mk hw
  clear hw KV KC
  go_enter Try.func83, Try.ntmps83
  go_wp2
  go_loop [3] (fun iv => ∃ k : Nat, k ≤ 8 ∧ iv = .int .i64 k ∧ Sd (∀ j, j < k → bitA m.v (7 - j) = 1 → bitA m.c (7 - j) = 1)) (fun iv => 8 - (intOf iv).toNat)
  case atStart => exact ⟨0, by omega, rfl, ⟨by omega⟩⟩
  case round =>
    obtain ⟨k, hk, rfl, HI⟩ := hrel
    by_cases hlt : k < 8
    · have hb1 := bitA_lt m.v (7 - k)
      have hb2 := bitA_lt m.c (7 - k)
      by_cases hv : bitA m.v (7 - k) = 0
      · have K1 := HKV.out k hlt
        rw [hv] at K1
        have HK1 := Sd.mk K1
        have HV := Sd.mk hv
        clear K1 hv hb1 hb2
        go_wp2_with fail
        refine (HK1.out _).mono ?_
        rintro e w1 ⟨rfl, rfl⟩
        go_wp2
        go_round
        case rel => exact ⟨k + 1, by omega, by go_num, ⟨fun j hj h => by
          by_cases e : j = k
          · subst e; rw [HV.out] at h; cases h
          · exact HI.out j (by omega) h⟩⟩
        case measure => simp [intOf]; omega
      · have hv1 : bitA m.v (7 - k) = 1 := by omega
        have K1 := HKV.out k hlt
        rw [hv1] at K1
        have HK1 := Sd.mk K1
        have HV := Sd.mk hv1
        by_cases hc : bitA m.c (7 - k) = 0
        · have K2 := HKC.out k hlt
          rw [hc] at K2
          have HK2 := Sd.mk K2
          have HC : Sd (m.ck = 40) := ⟨by
            rcases m.ck_cases with h | h
            · exact h
            · have := (Msk.ok_bit m).1 h (7 - k) (by rw [bitA_test, hv1]; rfl)
              rw [bitA_test, hc] at this
              cases this⟩
          clear K1 K2 hv hv1 hc hb1 hb2
          go_wp2_with fail
          refine (HK1.out _).mono ?_
          rintro e w1 ⟨rfl, rfl⟩
          go_wp2_with fail
          refine (HK2.out _).mono ?_
          rintro e w1 ⟨rfl, rfl⟩
          go_wp2
          go_ret
          exact ⟨ret_int HC.out.symm, (Below.refl _ _).alloc (Nat.le_refl _) _⟩
        · have hc1 : bitA m.c (7 - k) = 1 := by omega
          have K2 := HKC.out k hlt
          rw [hc1] at K2
          have HK2 := Sd.mk K2
          have HC1 := Sd.mk hc1
          clear K1 K2 hv hv1 hc hc1 hb1 hb2
          go_wp2_with fail
          refine (HK1.out _).mono ?_
          rintro e w1 ⟨rfl, rfl⟩
          go_wp2_with fail
          refine (HK2.out _).mono ?_
          rintro e w1 ⟨rfl, rfl⟩
          go_wp2
          go_round
          case rel => exact ⟨k + 1, by omega, by go_num, ⟨fun j hj h => by
            by_cases e : j = k
            · subst e; exact HC1.out
            · exact HI.out j (by omega) h⟩⟩
          case measure => simp [intOf]; omega
    · obtain rfl : k = 8 := by omega
      have HC : Sd (m.ck = 0) := ⟨by
        rw [Msk.ok_bit]
        intro i hi
        by_cases h8 : i < 8
        · have := HI.out (7 - i) (by omega)
          rw [show 7 - (7 - i) = i from by omega] at this
          rw [bitA_test, decide_eq_true_iff] at hi ⊢
          exact this hi
        · rw [high_bit m.v i HW.out.v h8] at hi; cases hi⟩
      go_wp2
      go_ret
      exact ⟨ret_int HC.out.symm, (Below.refl _ _).alloc (Nat.le_refl _) _⟩
theorem bit_key (p q r : Nat) (hp : p < 2) (hq : q < 2) (hr : r < 2) (h1 : decide (q = 1) = true → decide (r = 1) = true) (h2 : r = 1 → q = p) : (decide (p = 1) && decide (r = 1)) = decide (q = 1) := by
  obtain rfl | rfl : p = 0 ∨ p = 1 := by omega
  all_goals obtain rfl | rfl : q = 0 ∨ q = 1 := by omega
  all_goals obtain rfl | rfl : r = 0 ∨ r = 1 := by omega
  all_goals simp_all
set_option maxHeartbeats 1000000 in
set_option maxRecDepth 100000 in
theorem rMskHas_any (m : Msk) (hw : m.Wf) (hok : m.ck = 0) (x : Nat) (hx : x < 256) (w : World) : Calls Try.prog 101 #[.agg #[.int .u8 m.v, .int .u8 m.c], .int .u8 x] w fun e w' => e = .returned (.bool (m.has x)) ∧ Below w.heap.size w w' := by
  have K := rMskCheck_any m hw
  rw [hok] at K
  have HK := Sd.mk K
  have HKV := Sd.mk (fun i hi => bit8_any m.v i hw.v hi)
  have HKC := Sd.mk (fun i hi => bit8_any m.c i hw.c hi)
  have HKX := Sd.mk (fun i hi => bit8_any x i hx hi)
  have HW := Sd.mk hw
  have HOK := Sd.mk hok
  have HX := Sd.mk hx
  clear hw K hok hx
  go_enter Try.func101, Try.ntmps101
  go_wp2_with fail
  refine (HK.out _).mono ?_
  rintro e w1 ⟨rfl, hb⟩
  have k := (Blk.new w #[.int .u8 m.v, .int .u8 m.c] 58).below hb (by simp)
  have c0 := k.cell (i := 0) rfl
  have c1 := k.cell (i := 1) rfl
  have HWW : Sd (Below w.heap.size w w1) := ⟨((Below.refl _ _).alloc (Nat.le_refl _) _).trans (hb.mono (by simp))⟩
  clear k hb
  go_wp2
  go_loop [5] (fun iv => ∃ k : Nat, k ≤ 8 ∧ iv = .int .i64 k ∧ Sd (∀ j, j < k → bitA m.c (7 - j) = 1 → bitA m.v (7 - j) = bitA x (7 - j))) (fun iv => 8 - (intOf iv).toNat)
  case atStart => exact ⟨0, by omega, rfl, ⟨by omega⟩⟩
  case round =>
    obtain ⟨k, hk, rfl, HI⟩ := hrel
    by_cases hlt : k < 8
    · have hb2 := bitA_lt m.c (7 - k)
      by_cases hc : bitA m.c (7 - k) = 0
      · have K1 := HKC.out k hlt
        rw [hc] at K1
        have HK1 := Sd.mk K1
        have HC := Sd.mk hc
        clear K1 hc hb2
        go_wp2_with fail
        refine (HK1.out _).mono ?_
        rintro e w1 ⟨rfl, rfl⟩
        go_wp2
        go_round
        case rel => exact ⟨k + 1, by omega, by go_num, ⟨fun j hj h => by
          by_cases e : j = k
          · subst e; rw [HC.out] at h; cases h
          · exact HI.out j (by omega) h⟩⟩
        case measure => simp [intOf]; omega
      · have hc1 : bitA m.c (7 - k) = 1 := by omega
        have K1 := HKC.out k hlt
        rw [hc1] at K1
        have HK1 := Sd.mk K1
        have HC := Sd.mk hc1
        have HK2 := Sd.mk (HKV.out k hlt)
        have HK3 := Sd.mk (HKX.out k hlt)
        by_cases he : bitA m.v (7 - k) = bitA x (7 - k)
        · have ht : (((bitA m.v (7 - k) : Nat) : Int) != ((bitA x (7 - k) : Nat) : Int)) = false := by rw [nat_bne]; simp [he]
          have HE := Sd.mk he
          clear K1 hc hc1 hb2 he
          go_wp2_with fail
          refine (HK1.out _).mono ?_
          rintro e w1 ⟨rfl, rfl⟩
          go_wp2_with fail
          refine (HK2.out _).mono ?_
          rintro e w1 ⟨rfl, rfl⟩
          go_wp2_with fail
          refine (HK3.out _).mono ?_
          rintro e w1 ⟨rfl, rfl⟩
          go_wp2
          go_round
          case rel => exact ⟨k + 1, by omega, by go_num, ⟨fun j hj h => by
            by_cases e : j = k
            · subst e; exact HE.out
            · exact HI.out j (by omega) h⟩⟩
          case measure => simp [intOf]; omega
        · have ht : (((bitA m.v (7 - k) : Nat) : Int) != ((bitA x (7 - k) : Nat) : Int)) = true := by rw [nat_bne]; simp [he]
          have HN : Sd (m.has x = false) := ⟨by
            cases h : m.has x with
            | false => rfl
            | true =>
              have := (Msk.has_bit m x).1 h (7 - k)
              rw [bitA_test, bitA_test, bitA_test, hc1] at this
              have b1 := bitA_lt x (7 - k)
              have b2 := bitA_lt m.v (7 - k)
              exfalso
              have c1 : bitA x (7 - k) = 0 ∨ bitA x (7 - k) = 1 := by omega
              have c2 : bitA m.v (7 - k) = 0 ∨ bitA m.v (7 - k) = 1 := by omega
              rcases c1 with c1 | c1 <;> rcases c2 with c2 | c2 <;> rw [c1, c2] at this he <;> simp at this he⟩
          clear K1 hc hc1 hb2 he
          go_wp2_with fail
          refine (HK1.out _).mono ?_
          rintro e w1 ⟨rfl, rfl⟩
          go_wp2_with fail
          refine (HK2.out _).mono ?_
          rintro e w1 ⟨rfl, rfl⟩
          go_wp2_with fail
          refine (HK3.out _).mono ?_
          rintro e w1 ⟨rfl, rfl⟩
          go_wp2
          go_ret
          exact ⟨ret_bool HN.out.symm, HWW.out⟩
    · obtain rfl : k = 8 := by omega
      have HN : Sd (m.has x = true) := ⟨by
        rw [Msk.has_bit]
        intro i
        have hok := (Msk.ok_bit m).1 HOK.out i
        by_cases h8 : i < 8
        · have h1 := HI.out (7 - i) (by omega)
          rw [show 7 - (7 - i) = i from by omega] at h1
          rw [bitA_test, bitA_test] at hok
          rw [bitA_test, bitA_test, bitA_test]
          exact bit_key _ _ _ (bitA_lt x i) (bitA_lt m.v i) (bitA_lt m.c i) hok h1
        · rw [high_bit m.v i HW.out.v h8, high_bit x i HX.out h8]; rfl⟩
      go_wp2
      go_ret
      exact ⟨ret_bool HN.out.symm, HWW.out⟩
end Go.Proofs.Ytljliopmphaoeaa
