/- The plain mathematics of words of 32 bits: what the functions of package bits and of its reference compute, as functions on natural numbers, and that they agree; no program in sight. -/
import Derived.Laws.BitsLemmas
namespace Go.Proofs.YtmmaciegboodlaaDoor.BitsPure
open Go

/-! ### words -/
theorem wrap_u32 (n : Nat) (h : n < 4294967296) : IntKind.u32.wrap (n : Int) = (n : Int) := by rw [IntKind.wrap_u32]; omega
theorem ofInt32 (a : Nat) (ha : a < 4294967296) : (BitVec.ofInt 32 (a : Int)).toNat = a := by
  rw [BitVec.ofInt_natCast, BitVec.toNat_ofNat]; omega
theorem lt32 {a : Nat} (ha : a < 4294967296) : a < 2 ^ 32 := ha
theorem bits_and (a b : Nat) (ha : a < 4294967296) (hb : b < 4294967296) : bits .and .u32 (a : Int) (b : Int) = ((a &&& b : Nat) : Int) := by
  show IntKind.u32.wrap ((BitVec.ofInt 32 (a : Int) &&& BitVec.ofInt 32 (b : Int)).toNat : Int) = _
  rw [BitVec.toNat_and, ofInt32 a ha, ofInt32 b hb]
  exact wrap_u32 _ (Nat.and_lt_two_pow a (lt32 hb))
theorem bits_or (a b : Nat) (ha : a < 4294967296) (hb : b < 4294967296) : bits .or .u32 (a : Int) (b : Int) = ((a ||| b : Nat) : Int) := by
  show IntKind.u32.wrap ((BitVec.ofInt 32 (a : Int) ||| BitVec.ofInt 32 (b : Int)).toNat : Int) = _
  rw [BitVec.toNat_or, ofInt32 a ha, ofInt32 b hb]
  exact wrap_u32 _ (Nat.or_lt_two_pow (lt32 ha) (lt32 hb))
theorem bits_xor (a b : Nat) (ha : a < 4294967296) (hb : b < 4294967296) : bits .xor .u32 (a : Int) (b : Int) = ((a ^^^ b : Nat) : Int) := by
  show IntKind.u32.wrap ((BitVec.ofInt 32 (a : Int) ^^^ BitVec.ofInt 32 (b : Int)).toNat : Int) = _
  rw [BitVec.toNat_xor, ofInt32 a ha, ofInt32 b hb]
  exact wrap_u32 _ (Nat.xor_lt_two_pow (lt32 ha) (lt32 hb))
theorem bits_one (a : Nat) (ha : a < 4294967296) : bits .and .u32 (a : Int) 1 = ((a % 2 : Nat) : Int) := by
  rw [show (1 : Int) = ((1 : Nat) : Int) from rfl, bits_and a 1 ha (by omega), Nat.and_one_is_mod]
theorem bits_fifteen (a : Nat) (ha : a < 4294967296) : bits .and .u32 (a : Int) 15 = ((a % 16 : Nat) : Int) := by
  rw [show (15 : Int) = ((15 : Nat) : Int) from rfl, bits_and a 15 ha (by omega), show (15 : Nat) = 2 ^ 4 - 1 from rfl, Nat.and_two_pow_sub_one_eq_mod]
theorem div_cast (a k : Nat) : (a : Int) / 2 ^ k = ((a / 2 ^ k : Nat) : Int) := by simp
theorem div_lt {a : Nat} (ha : a < 4294967296) (k : Nat) : a / 2 ^ k < 4294967296 := Nat.lt_of_le_of_lt (Nat.div_le_self _ _) ha

/-! ### the bit i from the low end -/
def bit (a i : Nat) : Nat := a / 2 ^ i % 2
theorem bit_le (a i : Nat) : bit a i ≤ 1 := by unfold bit; omega
theorem bit_lt (a i : Nat) : bit a i < 2 := by unfold bit; omega
theorem testBit_eq (a i : Nat) : a.testBit i = decide (bit a i = 1) := by
  rw [Nat.testBit_eq_decide_div_mod_eq]; rfl
theorem bit_of_testBit (a i : Nat) : bit a i = if a.testBit i then 1 else 0 := by
  rw [testBit_eq]; have := bit_lt a i; by_cases h : bit a i = 1 <;> simp [h]; omega
theorem shr_and (a i : Nat) (ha : a < 4294967296) : bits .and .u32 ((a : Int) / 2 ^ i) 1 = ((bit a i : Nat) : Int) := by
  rw [div_cast, bits_one _ (div_lt ha i)]; rfl
theorem eq_of_bits {a b : Nat} (ha : a < 4294967296) (hb : b < 4294967296) (h : ∀ i, i < 32 → bit a i = bit b i) : a = b := by
  apply Nat.eq_of_testBit_eq
  intro i
  by_cases hi : i < 32
  · rw [testBit_eq, testBit_eq, h i hi]
  · have h2 : 2 ^ 32 ≤ 2 ^ i := Nat.pow_le_pow_right (by omega) (by omega)
    rw [Nat.testBit_lt_two_pow (Nat.lt_of_lt_of_le (lt32 ha) h2), Nat.testBit_lt_two_pow (Nat.lt_of_lt_of_le (lt32 hb) h2)]

/-! ### the least number with a property, or n -/
def least (p : Nat → Bool) (n : Nat) : Nat := ((List.range n).find? p).getD n
theorem least_of {p : Nat → Bool} {n k : Nat} (hk : k ≤ n) (h0 : ∀ j, j < k → p j = false) (h1 : k < n → p k = true) : least p n = k := by
  unfold least
  by_cases h : k < n
  · have : (List.range n).find? p = some k := by
      rw [List.find?_eq_some_iff_append]
      refine ⟨h1 h, List.range k, (List.range' (k + 1) (n - (k + 1))), ?_, fun x hx => ?_⟩
      · rw [List.range_eq_range', List.range_eq_range']
        rw [show List.range' 0 n = List.range' 0 (k + (n - k)) from by rw [Nat.add_sub_cancel' hk], ← List.range'_append_1]
        congr 1
        rw [show n - k = (n - (k + 1)) + 1 from by omega, List.range'_succ]; simp
      · rw [h0 x (List.mem_range.1 hx)]; rfl
    rw [this]; rfl
  · have hkn : k = n := by omega
    subst hkn
    have : (List.range k).find? p = none := by
      rw [List.find?_eq_none]; intro x hx; rw [h0 x (List.mem_range.1 hx)]; simp
    rw [this]; rfl
theorem least_spec (p : Nat → Bool) (n : Nat) : least p n ≤ n ∧ (∀ j, j < least p n → p j = false) ∧ (least p n < n → p (least p n) = true) := by
  induction n with
  | zero => exact ⟨by simp [least], fun j hj => by simp [least] at hj, fun h => by simp [least] at h⟩
  | succ n ih =>
    obtain ⟨h1, h2, h3⟩ := ih
    by_cases hlt : least p n < n
    · have : least p (n + 1) = least p n := least_of (by omega) h2 (fun _ => h3 hlt)
      rw [this]; exact ⟨by omega, h2, fun _ => h3 hlt⟩
    · have hn : least p n = n := by omega
      rw [hn] at h2
      by_cases hp : p n = true
      · have : least p (n + 1) = n := least_of (by omega) h2 (fun _ => hp)
        rw [this]; exact ⟨by omega, h2, fun _ => hp⟩
      · have h2' : ∀ j, j < n + 1 → p j = false := fun j hj => by
          by_cases hjn : j = n
          · subst hjn; simpa using hp
          · exact h2 j (by omega)
        have : least p (n + 1) = n + 1 := least_of (Nat.le_refl _) h2' (fun h => by omega)
        rw [this]; exact ⟨by omega, h2', fun h => by omega⟩
theorem least_congr {p q : Nat → Bool} {n : Nat} (h : ∀ j, j < n → p j = q j) : least p n = least q n := by
  obtain ⟨h1, h2, h3⟩ := least_spec q n
  exact least_of h1 (fun j hj => (h j (by omega)).trans (h2 j hj)) (fun hlt => (h _ hlt).trans (h3 hlt))

/-! ### the functions -/
def high (n : Nat) : Nat := 4294967296 - 2 ^ (32 - n)
theorem high_lt (n : Nat) : high n < 4294967296 := by
  unfold high; have : 0 < 2 ^ (32 - n) := Nat.two_pow_pos _; omega
def same (a b : Nat) : Nat := least (fun i => decide (bit a (31 - i) ≠ bit b (31 - i))) 32
def low (a : Nat) : Nat := least (fun i => decide (bit a i = 1)) 32
/-- the bits below k, added up -/
def onesTo (a : Nat) : Nat → Nat
  | 0 => 0
  | k + 1 => onesTo a k + bit a k
def ones (a : Nat) : Nat := onesTo a 32
/-- the first k bits from the low end, the other way round -/
def rev (a : Nat) : Nat → Nat
  | 0 => 0
  | k + 1 => 2 * rev a k + bit a k
def turn (a : Nat) : Nat := rev a 32

/-! ### the rounds of the loops -/
theorem rev_lt (a k : Nat) : rev a k < 2 ^ k := by
  induction k with
  | zero => simp [rev]
  | succ k ih => have := bit_lt a k; simp only [rev, Nat.pow_succ]; omega
theorem pow_le32 {k : Nat} (hk : k ≤ 32) : (2 : Nat) ^ k ≤ 4294967296 := Nat.pow_le_pow_right (by omega) hk
theorem turn_step (a k : Nat) (ha : a < 4294967296) (hk : k < 32) :
    bits .or .u32 ((rev a k : Nat) * 2 % 4294967296) (bits .and .u32 ((a : Int) / 2 ^ k) 1) = ((rev a (k + 1) : Nat) : Int) := by
  have h1 := rev_lt a k
  have h2 : (2 : Nat) ^ k ≤ 2 ^ 31 := Nat.pow_le_pow_right (by omega) (by omega)
  simp only [show (2 : Nat) ^ 31 = 2147483648 from rfl] at h2
  have hb := bit_lt a k
  rw [shr_and a k ha, show ((rev a k : Nat) : Int) * 2 % 4294967296 = ((2 ^ 1 * rev a k : Nat) : Int) from by omega]
  rw [bits_or _ _ (by omega) (by omega), ← Nat.two_pow_add_eq_or_of_lt (by omega)]
  simp only [rev]
theorem half_step (a k : Nat) : (a : Int) / 2 ^ k / 2 = ((a / 2 ^ (k + 1) : Nat) : Int) := by
  rw [div_cast, Nat.pow_succ, ← Nat.div_div_eq_div_mul]; omega
theorem rturn_step (a k : Nat) (ha : a < 4294967296) (hk : k < 32) :
    bits .or .u32 (((rev a k : Nat) : Int) * 2 ^ (32 - k)) (bits .and .u32 ((a : Int) / 2 ^ k) 1 * 2 ^ (31 - k) % 4294967296) = ((rev a (k + 1) * 2 ^ (32 - (k + 1)) : Nat) : Int) := by
  have h1 := rev_lt a k
  have hb := bit_lt a k
  have hm : rev a k * 2 ^ (32 - k) < 4294967296 := by
    have : rev a k * 2 ^ (32 - k) < 2 ^ k * 2 ^ (32 - k) := Nat.mul_lt_mul_of_pos_right h1 (Nat.two_pow_pos _)
    rw [← Nat.pow_add, show k + (32 - k) = 32 from by omega] at this
    exact this
  have hp : (2 : Nat) ^ (32 - k) = 2 * 2 ^ (31 - k) := by rw [show 32 - k = 31 - k + 1 from by omega, Nat.pow_succ]; omega
  have hq : (2 : Nat) ^ (31 - k) ≤ 2 ^ 31 := Nat.pow_le_pow_right (by omega) (by omega)
  simp only [show (2 : Nat) ^ 31 = 2147483648 from rfl] at hq
  have hbq : bit a k * 2 ^ (31 - k) < 2 ^ (32 - k) := by
    have := Nat.two_pow_pos (31 - k)
    rcases (show bit a k = 0 ∨ bit a k = 1 from by omega) with e | e <;> rw [e] <;> omega
  have hle := pow_le32 (k := 32 - k) (by omega)
  have e1 : ((rev a k : Nat) : Int) * 2 ^ (32 - k) = ((2 ^ (32 - k) * rev a k : Nat) : Int) := by rw [Nat.mul_comm]; simp
  have e2 : ((bit a k : Nat) : Int) * 2 ^ (31 - k) % 4294967296 = ((bit a k * 2 ^ (31 - k) : Nat) : Int) := by
    have : ((bit a k : Nat) : Int) * 2 ^ (31 - k) = ((bit a k * 2 ^ (31 - k) : Nat) : Int) := by simp
    rw [this]; omega
  rw [shr_and a k ha, e1, e2, bits_or _ _ (by rw [Nat.mul_comm]; exact hm) (by omega), ← Nat.two_pow_add_eq_or_of_lt hbq]
  congr 1
  rw [show 32 - (k + 1) = 31 - k from by omega, hp]
  simp only [rev, Nat.add_mul]
  rw [Nat.mul_assoc, Nat.mul_comm (2 ^ (31 - k)) (rev a k), Nat.mul_assoc]
theorem high_step : ∀ k : Fin 32, bits .or .u32 (high k.val : Nat) (2 ^ (31 - k.val) % 4294967296) = (high (k.val + 1) : Nat) := by decide

/-- how many ones a number of four bits has -/
def nib (i : Nat) : Nat := onesTo i 4
theorem ones_le (a k : Nat) : onesTo a k ≤ k := by
  induction k with
  | zero => exact Nat.le_refl _
  | succ k ih => have := bit_lt a k; simp only [onesTo]; omega
theorem bit_div (a i j : Nat) : bit a (i + j) = bit (a / 2 ^ i) j := by
  unfold bit; rw [Nat.pow_add, Nat.div_div_eq_div_mul]
theorem bit_mod (a j : Nat) (hj : j < 4) : bit (a % 16) j = bit a j := by
  unfold bit
  have : ∀ k : Fin 4, a % 16 / 2 ^ k.val % 2 = a / 2 ^ k.val % 2 := by
    intro k
    match k with
    | ⟨0, _⟩ => simp
    | ⟨1, _⟩ => simp; omega
    | ⟨2, _⟩ => simp; omega
    | ⟨3, _⟩ => simp; omega
  exact this ⟨j, hj⟩
theorem nib_step (a k : Nat) : onesTo a (4 * (k + 1)) = onesTo a (4 * k) + nib (a / 2 ^ (4 * k) % 16) := by
  rw [show 4 * (k + 1) = 4 * k + 1 + 1 + 1 + 1 from by omega]
  simp only [onesTo, nib]
  rw [bit_mod _ 0 (by omega), bit_mod _ 1 (by omega), bit_mod _ 2 (by omega), bit_mod _ 3 (by omega), ← bit_div, ← bit_div, ← bit_div, ← bit_div]
  simp only [Nat.add_assoc, Nat.add_zero]
  omega
theorem nib_idx (a k : Nat) (ha : a < 4294967296) : bits .and .u32 ((a : Int) / 2 ^ k) 15 = ((a / 2 ^ k % 16 : Nat) : Int) := by
  rw [div_cast, bits_fifteen _ (div_lt ha k)]

end Go.Proofs.YtmmaciegboodlaaDoor.BitsPure
