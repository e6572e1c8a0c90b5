/- Floats that are whole numbers: what their words stand for, and that sums, differences, products and comparisons of them are those of the numbers; no program in sight. -/
import Derived.Laws.FloatArith
namespace Go.Proofs.Ytdhkhdfenalagaa.Fl
open Go Ieee

/-- the word stands for the whole number n; of a nought the sign is free -/
def IsInt (x : Nat) (n : Int) : Prop := ∃ (neg : Bool) (s : Nat), Ieee.double.read x = .number neg (n.natAbs * 2 ^ s) (-(s : Int)) ∧ (n ≠ 0 → neg = decide (n < 0))

theorem signed_val (neg : Bool) (n : Int) (s up : Nat) (h : n ≠ 0 → neg = decide (n < 0)) : signed neg (n.natAbs * 2 ^ s) up = n * 2 ^ (s + up) := by
  have e : (n.natAbs * 2 ^ s) <<< up = n.natAbs * 2 ^ (s + up) := by rw [Nat.shiftLeft_eq, Nat.mul_assoc, ← Nat.pow_add]
  unfold signed
  rw [e]
  by_cases h0 : n = 0
  · subst h0; simp
  · rw [h h0]
    by_cases hn : n < 0
    · simp only [decide_eq_true hn, if_true]
      have : (n.natAbs : Int) = -n := by omega
      push_cast
      rw [this, Int.neg_mul, Int.neg_neg]
    · simp only [decide_eq_false hn, if_false, Bool.false_eq_true]
      have : (n.natAbs : Int) = n := by omega
      push_cast
      rw [this]

theorem cmp_mul (m n : Int) (k : Nat) : compare (m * 2 ^ k) (n * 2 ^ k) = compare m n := by
  have hp : (0 : Int) < 2 ^ k := Int.pow_pos (by omega)
  have h1 : m * 2 ^ k < n * 2 ^ k ↔ m < n := Int.mul_lt_mul_right hp
  have h2 : m * 2 ^ k = n * 2 ^ k ↔ m = n := Int.mul_eq_mul_right_iff (by omega)
  simp only [compare, compareOfLessAndEq, h1, h2]

theorem order_int {x y : Nat} {m n : Int} (hx : IsInt x m) (hy : IsInt y n) : Ieee.double.order x y = some (compare m n) := by
  obtain ⟨a, s, h1, h2⟩ := hx
  obtain ⟨b, t, h3, h4⟩ := hy
  unfold Format.order
  rw [h1, h3]
  simp only [Datum.order]
  rcases Nat.le_total s t with h | h
  · have e : min (-(s : Int)) (-(t : Int)) = -(t : Int) := by omega
    rw [e, signed_val _ _ _ _ h2, signed_val _ _ _ _ h4]
    rw [show (-(s : Int) - -(t : Int)).toNat = t - s from by omega, show (-(t : Int) - -(t : Int)).toNat = 0 from by omega, show s + (t - s) = t from by omega, Nat.add_zero, cmp_mul]
  · have e : min (-(s : Int)) (-(t : Int)) = -(s : Int) := by omega
    rw [e, signed_val _ _ _ _ h2, signed_val _ _ _ _ h4]
    rw [show (-(t : Int) - -(s : Int)).toNat = s - t from by omega, show (-(s : Int) - -(s : Int)).toNat = 0 from by omega, show t + (s - t) = s from by omega, Nat.add_zero, cmp_mul]

/-! ### the nearest word of a whole number below 2^53 -/
theorem bin : Ieee.double.binade = 4503599627370496 := rfl
theorem inf : Ieee.double.infRung = 9218868437227405312 := by decide
theorem sw : Ieee.double.signWeight = 9223372036854775808 := rfl
theorem lp : Ieee.double.leastPlace = -1074 := by decide
theorem fb : Ieee.double.fractionBits = 52 := rfl

/-- the word of the number mag, not nought, below 2^53 -/
def W (neg : Bool) (mag : Nat) : Nat := Ieee.double.word neg ((1074 - (52 - mag.log2)) * 4503599627370496 + mag * 2 ^ (52 - mag.log2))

theorem log_le {mag : Nat} (h0 : mag ≠ 0) (h : mag < 9007199254740992) : mag.log2 ≤ 52 := by
  have := (Nat.log2_lt h0 (k := 53)).2 h
  omega
theorem mag_lo {mag : Nat} (h0 : mag ≠ 0) (h : mag < 9007199254740992) : 4503599627370496 ≤ mag * 2 ^ (52 - mag.log2) := by
  have hl := log_le h0 h
  have h1 : 2 ^ mag.log2 ≤ mag := Nat.log2_self_le h0
  have := Nat.mul_le_mul_right (2 ^ (52 - mag.log2)) h1
  rw [← Nat.pow_add, show mag.log2 + (52 - mag.log2) = 52 from by omega] at this
  exact this
theorem mag_hi {mag : Nat} (h0 : mag ≠ 0) (h : mag < 9007199254740992) : mag * 2 ^ (52 - mag.log2) < 9007199254740992 := by
  have hl := log_le h0 h
  have h1 : mag < 2 ^ (mag.log2 + 1) := Nat.lt_log2_self
  have := Nat.mul_lt_mul_of_pos_right h1 (Nat.two_pow_pos (52 - mag.log2))
  rw [← Nat.pow_add, show mag.log2 + 1 + (52 - mag.log2) = 53 from by omega] at this
  exact this

theorem cut_zero (neg : Bool) (n : Nat) : Toward.even.cut neg n 0 = n := by
  unfold Toward.cut
  simp [Nat.mod_one]

theorem cut_exact (neg : Bool) (n k : Nat) (h0 : n ≠ 0) : Toward.even.cut neg (n * 2 ^ k) k = n := by
  have hk : k ≤ (n * 2 ^ k).log2 + 2 := by
    have : k ≤ (n * 2 ^ k).log2 := (Nat.le_log2 (by have := Nat.two_pow_pos k; exact Nat.mul_ne_zero h0 (by omega))).2 (Nat.le_mul_of_pos_left _ (by omega))
    omega
  unfold Toward.cut
  rw [show min k ((n * 2 ^ k).log2 + 2) = k from by omega]
  have hp := Nat.two_pow_pos k
  simp only [Nat.one_shiftLeft]
  rw [Nat.mul_div_cancel _ hp, Nat.mul_mod_left]
  have h1 : ¬ (2 ^ k < 2 * 0) := by omega
  have h2 : (2 ^ k == 2 * 0) = false := by simp
  simp [h2]

theorem log_mul (n k : Nat) (h0 : n ≠ 0) : (n * 2 ^ k).log2 = n.log2 + k := by
  have hp := Nat.two_pow_pos k
  have hne : n * 2 ^ k ≠ 0 := Nat.mul_ne_zero h0 (by omega)
  apply Nat.le_antisymm
  · have h1 : n < 2 ^ (n.log2 + 1) := Nat.lt_log2_self
    have : (n * 2 ^ k).log2 < n.log2 + 1 + k := by
      rw [Nat.log2_lt hne, Nat.pow_add]
      exact Nat.mul_lt_mul_of_pos_right h1 hp
    omega
  · rw [Nat.le_log2 hne, Nat.pow_add]
    exact Nat.mul_le_mul_right _ (Nat.log2_self_le h0)

theorem nearest_exact (neg : Bool) (mag k : Nat) (h0 : mag ≠ 0) (h : mag < 9007199254740992) : Ieee.double.nearest neg (mag * 2 ^ k) (-(k : Int)) = W neg mag := by
  have hl := log_le h0 h
  have hlo := mag_lo h0 h
  have hhi := mag_hi h0 h
  have hne : mag * 2 ^ k ≠ 0 := Nat.mul_ne_zero h0 (by have := Nat.two_pow_pos k; omega)
  unfold Format.nearest
  rw [if_neg hne, log_mul mag k h0, fb, lp, bin, inf]
  dsimp only
  have e1 : max (-(k : Int) + ((mag.log2 + k : Nat) : Int) - ((52 : Nat) : Int)) (-1074) = -((52 - mag.log2 : Nat) : Int) := by omega
  rw [e1]
  have e2 : Toward.even.cut neg ((mag * 2 ^ k) <<< (-(k : Int) - -((52 - mag.log2 : Nat) : Int)).toNat) (-((52 - mag.log2 : Nat) : Int) - -(k : Int)).toNat = mag * 2 ^ (52 - mag.log2) := by
    rcases Nat.le_total k (52 - mag.log2) with c | c
    · rw [show (-((52 - mag.log2 : Nat) : Int) - -(k : Int)).toNat = 0 from by omega, cut_zero, Nat.shiftLeft_eq, Nat.mul_assoc, ← Nat.pow_add]
      congr 2
      omega
    · rw [show (-(k : Int) - -((52 - mag.log2 : Nat) : Int)).toNat = 0 from by omega, show (-((52 - mag.log2 : Nat) : Int) - -(k : Int)).toNat = k - (52 - mag.log2) from by omega, Nat.shiftLeft_zero]
      have : mag * 2 ^ k = (mag * 2 ^ (52 - mag.log2)) * 2 ^ (k - (52 - mag.log2)) := by rw [Nat.mul_assoc, ← Nat.pow_add]; congr 2; omega
      rw [this, cut_exact _ _ _ (by omega)]
  rw [e2]
  unfold W
  congr 1
  rw [show (-((52 - mag.log2 : Nat) : Int) - -1074).toNat = 1074 - (52 - mag.log2) from by omega]
  apply Nat.min_eq_left
  obtain ⟨e, he⟩ : ∃ e, e = 1074 - (52 - mag.log2) := ⟨_, rfl⟩
  have he2 : e ≤ 1074 := by omega
  rw [← he]
  clear he e2 e1 hne
  generalize mag * 2 ^ (52 - mag.log2) = t at *
  omega

theorem read_W (neg : Bool) (mag : Nat) (h0 : mag ≠ 0) (h : mag < 9007199254740992) : Ieee.double.read (W neg mag) = .number neg (mag * 2 ^ (52 - mag.log2)) (-((52 - mag.log2 : Nat) : Int)) := by
  have hl := log_le h0 h
  have hlo := mag_lo h0 h
  have hhi := mag_hi h0 h
  unfold W Format.word Format.read
  rw [sw, bin, inf, lp]
  generalize mag * 2 ^ (52 - mag.log2) = t at *
  obtain ⟨e, he⟩ : ∃ e, e = 1074 - (52 - mag.log2) := ⟨_, rfl⟩
  rw [← he]
  have he2 : e ≤ 1074 := by omega
  have hL : -((52 - mag.log2 : Nat) : Int) = -1074 + (e : Int) := by omega
  rw [hL]
  clear hL hl he
  have hr : e * 4503599627370496 + t < 9223372036854775808 := by omega
  have r1 : (if neg = true then 9223372036854775808 + (e * 4503599627370496 + t) else e * 4503599627370496 + t) / 9223372036854775808 % 2 = if neg = true then 1 else 0 := by
    cases neg <;> simp <;> omega
  have r2 : (if neg = true then 9223372036854775808 + (e * 4503599627370496 + t) else e * 4503599627370496 + t) % 9223372036854775808 = e * 4503599627370496 + t := by
    cases neg <;> simp <;> omega
  dsimp only
  rw [r1, r2, if_neg (by omega), if_pos (by omega)]
  have r3 : (e * 4503599627370496 + t) % 4503599627370496 = t - 4503599627370496 := by omega
  have r4 : (e * 4503599627370496 + t) / 4503599627370496 - 1 = e := by omega
  rw [r3, r4]
  have r5 : 4503599627370496 + (t - 4503599627370496) = t := by omega
  rw [r5]
  cases neg <;> rfl

/-- the word of a whole number -/
def fl (n : Int) : Nat := if n = 0 then 0 else W (decide (n < 0)) n.natAbs

theorem read_zero (neg : Bool) : Ieee.double.read (Ieee.double.word neg 0) = .number neg 0 (-1074) := by cases neg <;> decide
theorem zero_form (neg : Bool) (s : Nat) : Datum.number neg 0 (-(s : Int)) = .number neg ((0 : Int).natAbs * 2 ^ s) (-(s : Int)) := by rw [Int.natAbs_zero, Nat.zero_mul]
theorem read_zero' (neg : Bool) (s : Nat) (h : s = 1074) : Ieee.double.read (Ieee.double.word neg 0) = .number neg ((0 : Int).natAbs * 2 ^ s) (-(s : Int)) := by
  rw [← zero_form, read_zero, h]; rfl
theorem isInt_zero (neg : Bool) : IsInt (Ieee.double.word neg 0) 0 := by
  obtain ⟨s, hs⟩ : ∃ s, s = 1074 := ⟨_, rfl⟩
  exact ⟨neg, s, read_zero' neg s hs, fun h => absurd rfl h⟩
theorem isInt_W (neg : Bool) (n : Int) (h0 : n ≠ 0) (h : n.natAbs < 9007199254740992) (hn : neg = decide (n < 0)) : IsInt (W neg n.natAbs) n :=
  ⟨neg, 52 - n.natAbs.log2, read_W neg n.natAbs (by omega) h, fun _ => hn⟩
theorem isInt_fl (n : Int) (h : n.natAbs < 9007199254740992) : IsInt (fl n) n := by
  unfold fl
  by_cases h0 : n = 0
  · rw [if_pos h0, h0]; exact isInt_zero false
  · rw [if_neg h0]; exact isInt_W _ _ h0 h rfl

theorem floatOfInt_fl (n : Int) (h : n.natAbs < 9007199254740992) : floatOfInt .f64 n = fl n := by
  show Ieee.double.nearest (decide (n < 0)) n.natAbs 0 = _
  unfold fl
  by_cases h0 : n = 0
  · subst h0; decide
  · rw [if_neg h0]
    have := nearest_exact (decide (n < 0)) n.natAbs 0 (by omega) h
    simpa using this

/-! ### sums, differences, products -/
/-- what a datum stands for, with its sign -/
def Is (d : Datum) (n : Int) (neg : Bool) : Prop := ∃ s : Nat, d = .number neg (n.natAbs * 2 ^ s) (-(s : Int)) ∧ (n ≠ 0 → neg = decide (n < 0))
theorem isInt_iff (x : Nat) (n : Int) : IsInt x n ↔ ∃ neg, Is (Ieee.double.read x) n neg :=
  ⟨fun ⟨a, s, h, h'⟩ => ⟨a, s, h, h'⟩, fun ⟨a, s, h, h'⟩ => ⟨a, s, h, h'⟩⟩
theorem Is.opposite {d : Datum} {n : Int} {neg : Bool} (h : Is d n neg) : Is d.opposite (-n) (!neg) := by
  obtain ⟨s, rfl, h2⟩ := h
  refine ⟨s, by simp [Datum.opposite], fun h0 => ?_⟩
  rw [h2 (by omega)]
  rcases Int.lt_trichotomy n 0 with c | c | c
  · rw [decide_eq_true c, decide_eq_false (show ¬ (-n < 0) by omega)]; rfl
  · omega
  · rw [decide_eq_false (show ¬ (n < 0) by omega), decide_eq_true (show -n < 0 by omega)]; rfl
/-- the sum's word -/
def sumW (m n : Int) (a b : Bool) : Nat := if m + n = 0 then Ieee.double.word (a && b) 0 else W (decide (m + n < 0)) (m + n).natAbs
theorem sum_is {d e : Datum} {m n : Int} {a b : Bool} (hd : Is d m a) (he : Is e n b) (h : (m + n).natAbs < 9007199254740992) : (d.sum e).map Ieee.double.write = some (sumW m n a b) := by
  obtain ⟨s, rfl, h2⟩ := hd
  obtain ⟨t, rfl, h4⟩ := he
  obtain ⟨u, hu, e1, e2⟩ : ∃ u : Nat, min (-(s : Int)) (-(t : Int)) = -(u : Int) ∧ s + (-(s : Int) - -(u : Int)).toNat = u ∧ t + (-(t : Int) - -(u : Int)).toNat = u := by
    rcases Nat.le_total s t with c | c
    · exact ⟨t, by omega, by omega, by omega⟩
    · exact ⟨s, by omega, by omega, by omega⟩
  simp only [Datum.sum, hu, signed_val _ _ _ _ h2, signed_val _ _ _ _ h4, e1, e2, Option.map_some, Option.some.injEq]
  rw [← Int.add_mul]
  have hp : (0 : Int) < 2 ^ u := Int.pow_pos (by omega)
  unfold sumW
  by_cases c : m + n = 0
  · rw [if_pos c, c]
    simp only [Int.zero_mul, if_true, Int.natAbs_zero, Format.write]
    unfold Format.nearest
    rw [if_pos rfl]
  · rw [if_neg c]
    have hne : (m + n) * 2 ^ u ≠ 0 := Int.mul_ne_zero c (by omega)
    rw [if_neg hne]
    have hs : decide ((m + n) * 2 ^ u < 0) = decide (m + n < 0) := by
      rw [Bool.eq_iff_iff]; simp only [decide_eq_true_eq]
      constructor
      · intro hh
        by_cases k : m + n < 0
        · exact k
        · have := Int.mul_nonneg (show 0 ≤ m + n by omega) (Int.le_of_lt hp); omega
      · intro hh; exact Int.mul_neg_of_neg_of_pos hh hp
    have ha : ((m + n) * 2 ^ u).natAbs = (m + n).natAbs * 2 ^ u := by
      rw [Int.natAbs_mul, Int.natAbs_pow]; rfl
    rw [hs, ha]
    exact nearest_exact _ _ _ (by omega) h
theorem isInt_sumW (m n : Int) (a b : Bool) (h : (m + n).natAbs < 9007199254740992) : IsInt (sumW m n a b) (m + n) := by
  unfold sumW
  by_cases c : m + n = 0
  · rw [if_pos c, c]; exact isInt_zero _
  · rw [if_neg c]; exact isInt_W _ _ c h rfl

theorem add_int {x y : Nat} {m n : Int} (hx : IsInt x m) (hy : IsInt y n) (h : (m + n).natAbs < 9007199254740992) : ∃ r, Ieee.double.add x y = some r ∧ IsInt r (m + n) := by
  obtain ⟨a, ha⟩ := (isInt_iff _ _).1 hx
  obtain ⟨b, hb⟩ := (isInt_iff _ _).1 hy
  exact ⟨_, sum_is ha hb h, isInt_sumW m n a b h⟩
theorem sub_int {x y : Nat} {m n : Int} (hx : IsInt x m) (hy : IsInt y n) (h : (m - n).natAbs < 9007199254740992) : ∃ r, Ieee.double.sub x y = some r ∧ IsInt r (m - n) := by
  obtain ⟨a, ha⟩ := (isInt_iff _ _).1 hx
  obtain ⟨b, hb⟩ := (isInt_iff _ _).1 hy
  have := sum_is ha hb.opposite (by rw [← Int.sub_eq_add_neg]; exact h)
  refine ⟨_, this, ?_⟩
  rw [Int.sub_eq_add_neg]
  exact isInt_sumW m (-n) _ _ (by rw [← Int.sub_eq_add_neg]; exact h)

theorem is_fl (n : Int) (h : n.natAbs < 9007199254740992) : Is (Ieee.double.read (fl n)) n (decide (n < 0)) := by
  unfold fl
  by_cases h0 : n = 0
  · rw [if_pos h0, h0]
    obtain ⟨s, hs⟩ : ∃ s, s = 1074 := ⟨_, rfl⟩
    exact ⟨s, read_zero' false s hs, fun h => absurd rfl h⟩
  · rw [if_neg h0]; exact ⟨_, read_W _ _ (by omega) h, fun _ => rfl⟩
theorem add_fl (m n : Int) (hm : m.natAbs < 9007199254740992) (hn : n.natAbs < 9007199254740992) (h : (m + n).natAbs < 9007199254740992) : Ieee.double.add (fl m) (fl n) = some (fl (m + n)) := by
  have := sum_is (is_fl m hm) (is_fl n hn) h
  refine Eq.trans this ?_
  congr 1
  unfold sumW fl
  by_cases c : m + n = 0
  · rw [if_pos c, if_pos c]
    have : (decide (m < 0) && decide (n < 0)) = false := by simp; omega
    rw [this]; rfl
  · rw [if_neg c, if_neg c]
theorem sub_fl (m n : Int) (hm : m.natAbs < 9007199254740992) (hn : n.natAbs < 9007199254740992) (h : (m - n).natAbs < 9007199254740992) (h0 : 0 ≤ m) : Ieee.double.sub (fl m) (fl n) = some (fl (m - n)) := by
  have := sum_is (is_fl m hm) (is_fl n hn).opposite (by rw [← Int.sub_eq_add_neg]; exact h)
  refine Eq.trans this ?_
  congr 1
  unfold sumW fl
  rw [← Int.sub_eq_add_neg]
  by_cases c : m - n = 0
  · rw [if_pos c, if_pos c]
    have : decide (m < 0) = false := by simp; omega
    rw [this]; rfl
  · rw [if_neg c, if_neg c]
theorem mul_fl (m n : Int) (hm : m.natAbs < 9007199254740992) (hn : n.natAbs < 9007199254740992) (h : (m * n).natAbs < 9007199254740992) (h0 : 0 ≤ m) (h1 : 0 ≤ n) : Ieee.double.mul (fl m) (fl n) = some (fl (m * n)) := by
  obtain ⟨s, e1, _⟩ := is_fl m hm
  obtain ⟨t, e2, _⟩ := is_fl n hn
  unfold Format.mul
  rw [e1, e2]
  have d1 : decide (m < 0) = false := by simp; omega
  have d2 : decide (n < 0) = false := by simp; omega
  simp only [Datum.product, d1, d2, Option.map_some, Option.some.injEq, Format.write, Bool.xor_false]
  have hmn : 0 ≤ m * n := Int.mul_nonneg h0 h1
  have ha : m.natAbs * 2 ^ s * (n.natAbs * 2 ^ t) = (m * n).natAbs * 2 ^ (s + t) := by
    rw [Int.natAbs_mul, Nat.pow_add, Nat.mul_assoc, Nat.mul_assoc, Nat.mul_left_comm (2 ^ s)]
  rw [ha, show (-(s : Int) + -(t : Int)) = -((s + t : Nat) : Int) from by omega]
  unfold fl
  by_cases c : m * n = 0
  · rw [if_pos c, c]; simp [Format.nearest]; rfl
  · rw [if_neg c, show decide (m * n < 0) = false from by simp; omega]
    exact nearest_exact _ _ _ (by omega) h

end Go.Proofs.Ytdhkhdfenalagaa.Fl
