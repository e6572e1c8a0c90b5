/- How the functions on words hang together: turned twice, kept bits, ones of a word and of its complement; no program in sight. -/
import Derived.Test.YtmmaciegboodlaaDoorBitsPure
namespace Go.Proofs.YtmmaciegboodlaaDoor.BitsPure
open Go

theorem xor_bit (a b k : Nat) : bit (a ^^^ b) k = if bit a k = bit b k then 0 else 1 := by
  rw [bit_of_testBit, Nat.testBit_xor, testBit_eq, testBit_eq]
  have h1 := bit_lt a k; have h2 := bit_lt b k
  by_cases c1 : bit a k = 1 <;> by_cases c2 : bit b k = 1 <;> simp [c1, c2] <;> omega
theorem and_bit (a b k : Nat) : bit (a &&& b) k = if bit a k = 1 ∧ bit b k = 1 then 1 else 0 := by
  rw [bit_of_testBit, Nat.testBit_and, testBit_eq, testBit_eq]
  by_cases c1 : bit a k = 1 <;> by_cases c2 : bit b k = 1 <;> simp [c1, c2]
theorem bit_zero (x b : Nat) (hb : b < 2) : bit (2 * x + b) 0 = b := by unfold bit; simp; omega
theorem bit_succ (x b i : Nat) (hb : b < 2) : bit (2 * x + b) (i + 1) = bit x i := by
  unfold bit
  rw [Nat.pow_succ, Nat.mul_comm (2 ^ i) 2, ← Nat.div_div_eq_div_mul, show (2 * x + b) / 2 = x from by omega]
theorem bit_rev (a : Nat) : ∀ k i, i < k → bit (rev a k) i = bit a (k - 1 - i) := by
  intro k
  induction k with
  | zero => intro i h; omega
  | succ k ih =>
    intro i h
    have hb := bit_lt a k
    cases i with
    | zero => simp only [rev]; rw [bit_zero _ _ hb]; congr 1
    | succ i => simp only [rev]; rw [bit_succ _ _ _ hb, ih i (by omega)]; congr 1; omega
theorem turn_lt (a : Nat) : turn a < 4294967296 := rev_lt a 32
theorem bit_turn (a i : Nat) (hi : i < 32) : bit (turn a) i = bit a (31 - i) := bit_rev a 32 i hi
theorem turn_turn (a : Nat) (ha : a < 4294967296) : turn (turn a) = a :=
  eq_of_bits (turn_lt _) ha fun i hi => by rw [bit_turn _ i hi, bit_turn _ _ (by omega)]; congr 1; omega
theorem low_same (a : Nat) : low a = same (turn a) 0 := by
  unfold low same
  apply least_congr
  intro j hj
  rw [bit_turn _ _ (by omega), show 31 - (31 - j) = j from by omega]
  have := bit_lt a j
  have h0 : bit 0 (31 - j) = 0 := by unfold bit; simp
  rw [h0]
  rcases (show bit a j = 0 ∨ bit a j = 1 from by omega) with e | e <;> simp [e]
theorem bit_all : ∀ i : Fin 32, bit 4294967295 i.val = 1 := by decide +kernel
theorem bit_not (a i : Nat) (hi : i < 32) : bit (a ^^^ 4294967295) i = 1 - bit a i := by
  rw [xor_bit, bit_all ⟨i, hi⟩]
  have := bit_lt a i
  rcases (show bit a i = 0 ∨ bit a i = 1 from by omega) with e | e <;> simp [e]
theorem ones_not (a : Nat) : ones a + ones (a ^^^ 4294967295) = 32 := by
  have : ∀ k, k ≤ 32 → onesTo a k + onesTo (a ^^^ 4294967295) k = k := by
    intro k
    induction k with
    | zero => intro _; rfl
    | succ k ih =>
      intro h
      have := ih (by omega)
      have h1 := bit_not a k (by omega)
      have h2 := bit_lt a k
      simp only [onesTo]; omega
  exact this 32 (Nat.le_refl _)
theorem bit_high : ∀ (n : Fin 33) (i : Fin 32), bit (high n.val) i.val = if 32 - n.val ≤ i.val then 1 else 0 := by decide +kernel
theorem bit_keep (a n i : Nat) (hn : n ≤ 32) (hi : i < 32) : bit (a &&& high n) i = if 32 - n ≤ i then bit a i else 0 := by
  rw [and_bit, bit_high ⟨n, by omega⟩ ⟨i, hi⟩]
  have := bit_lt a i
  by_cases c : 32 - n ≤ i <;> simp [c]
  split <;> omega
theorem keep_lt (a n : Nat) (ha : a < 4294967296) : a &&& high n < 4294967296 := Nat.lt_of_le_of_lt Nat.and_le_left ha
theorem same_keep (a b n : Nat) (ha : a < 4294967296) (hb : b < 4294967296) (hn : n ≤ 32) : n ≤ same a b ↔ a &&& high n = b &&& high n := by
  obtain ⟨h1, h2, h3⟩ := least_spec (fun i => decide (bit a (31 - i) ≠ bit b (31 - i))) 32
  have hs : same a b = least (fun i => decide (bit a (31 - i) ≠ bit b (31 - i))) 32 := rfl
  rw [← hs] at h1 h2 h3
  constructor
  · intro h
    refine eq_of_bits (keep_lt a n ha) (keep_lt b n hb) fun i hi => ?_
    rw [bit_keep a n i hn hi, bit_keep b n i hn hi]
    by_cases c : 32 - n ≤ i
    · have := h2 (31 - i) (by omega)
      rw [show 31 - (31 - i) = i from by omega] at this
      simpa [c] using this
    · simp [c]
  · intro h
    rcases Nat.lt_or_ge (same a b) n with c | c
    · have h4 := h3 (by omega)
      have e := congrArg (fun x => bit x (31 - same a b)) h
      simp only [bit_keep a n (31 - same a b) hn (by omega), bit_keep b n (31 - same a b) hn (by omega)] at e
      rw [if_pos (by omega), if_pos (by omega)] at e
      simp [e] at h4
    · exact c
theorem keep_keep (a h : Nat) : (a &&& h) &&& h = a &&& h := by rw [Nat.and_assoc, Nat.and_self]
theorem same_comm (a b : Nat) : same b a = same a b := by
  unfold same
  apply least_congr
  intro j _
  rw [Bool.eq_iff_iff]; simp only [decide_eq_true_eq]; exact ⟨fun h e => h e.symm, fun h e => h e.symm⟩
theorem same_self (a : Nat) : same a a = 32 := least_of (Nat.le_refl _) (fun _ _ => by simp) (fun h => by omega)
theorem same_le (a b : Nat) : same a b ≤ 32 := (least_spec _ 32).1
theorem low_le (a : Nat) : low a ≤ 32 := (least_spec _ 32).1

end Go.Proofs.YtmmaciegboodlaaDoor.BitsPure
