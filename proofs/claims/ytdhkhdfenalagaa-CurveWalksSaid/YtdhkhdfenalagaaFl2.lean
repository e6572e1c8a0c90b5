/- Whether a float is a whole number below a limit, and which; no program in sight. -/
import Derived.Test.YtdhkhdfenalagaaFl
namespace Go.Proofs.Ytdhkhdfenalagaa.Fl
open Go Ieee

/-- the float cut to a whole number -/
def tr (f : Nat) : Int := (floatToIntVal .f64 f .i64).getD 0
/-- not below 0, and below L -/
def inB (f : Nat) (L : Int) : Bool := (Ieee.double.order f 0 == some .gt || Ieee.double.order f 0 == some .eq) && Ieee.double.order f (fl L) == some .lt
/-- .. and a whole number -/
def partB (f : Nat) (L : Int) : Bool := inB f L && Ieee.double.order f (fl (tr f)) == some .eq

theorem read_form (f : Nat) : (∃ neg m e, Ieee.double.read f = .number neg m e ∧ (e = -1074 ∨ 4503599627370496 ≤ m)) ∨ (∃ s, Ieee.double.read f = .infinity s) ∨ (∃ s t, Ieee.double.read f = .nan s t) := by
  unfold Format.read
  rw [sw, bin, inf, lp]
  dsimp only
  split
  · exact .inl ⟨_, _, _, rfl, .inl rfl⟩
  · split
    · exact .inl ⟨_, _, _, rfl, .inr (by omega)⟩
    · split
      · exact .inr (.inl ⟨_, rfl⟩)
      · exact .inr (.inr ⟨_, _, rfl⟩)

theorem signed_abs (neg : Bool) (m k : Nat) : (signed neg m k).natAbs = m * 2 ^ k := by
  unfold signed
  rw [Nat.shiftLeft_eq]
  generalize m * 2 ^ k = q
  cases neg <;> simp
theorem signed_neg (m k : Nat) : signed true m k ≤ 0 := by
  unfold signed
  generalize m <<< k = q
  simp

theorem isInt0 : IsInt 0 0 := isInt_zero false

theorem cmp_ge {a b : Int} (h : (some (compare a b) == some Ordering.gt || some (compare a b) == some Ordering.eq) = true) : b ≤ a := by
  rcases Int.lt_trichotomy a b with c | c | c
  · have : compare a b = .lt := by simp [compare, compareOfLessAndEq, c]
    rw [this] at h; exact absurd h (by decide)
  · omega
  · omega
theorem cmp_lt {a b : Int} (h : (some (compare a b) == some Ordering.lt) = true) : a < b := by
  rcases Int.lt_trichotomy a b with c | c | c
  · exact c
  · have : compare a b = .eq := by subst c; simp [compare, compareOfLessAndEq]
    rw [this] at h; exact absurd h (by decide)
  · have c2 : ¬ a < b := by omega
    have c3 : ¬ a = b := by omega
    have : compare a b = .gt := by simp [compare, compareOfLessAndEq, c2, c3]
    rw [this] at h; exact absurd h (by decide)
theorem cmp_eq {a b : Int} (h : (some (compare a b) == some Ordering.eq) = true) : a = b := by
  rcases Int.lt_trichotomy a b with c | c | c
  · have : compare a b = .lt := by simp [compare, compareOfLessAndEq, c]
    rw [this] at h; exact absurd h (by decide)
  · exact c
  · have c2 : ¬ a < b := by omega
    have c3 : ¬ a = b := by omega
    have : compare a b = .gt := by simp [compare, compareOfLessAndEq, c2, c3]
    rw [this] at h; exact absurd h (by decide)

theorem cut_bound (neg : Bool) (m d : Nat) (L : Nat) (hL : 0 < L) (h : m < L * 2 ^ d) : Toward.zero.cut neg m d < L := by
  unfold Toward.cut
  simp only [Bool.toNat_false, Nat.add_zero, Nat.one_shiftLeft]
  rcases Nat.le_total d (m.log2 + 2) with c | c
  · rw [Nat.min_eq_left c]
    exact Nat.div_lt_of_lt_mul (by rw [Nat.mul_comm]; exact h)
  · rw [Nat.min_eq_right c]
    have : m < 2 ^ (m.log2 + 2) := Nat.lt_of_lt_of_le Nat.lt_log2_self (Nat.pow_le_pow_right (by omega) (by omega))
    rw [Nat.div_eq_of_lt this]; exact hL
theorem cut_none (neg : Bool) (m : Nat) : Toward.zero.cut neg m 0 = m := by
  unfold Toward.cut; simp

/-- what a number in bounds is cut to -/
theorem in_tr (f : Nat) (L : Int) (hL : L ≤ 4503599627370496) (h0 : 0 ≤ L) (h : inB f L = true) : floatToIntVal .f64 f .i64 = some (tr f) ∧ 0 ≤ tr f ∧ tr f < L := by
  unfold inB at h
  rw [Bool.and_eq_true] at h
  obtain ⟨h1, h2⟩ := h
  obtain ⟨b, t, hb, hb'⟩ := isInt_fl L (by omega)
  obtain ⟨z, zt, hz, _⟩ := isInt0
  unfold Format.order at h1 h2
  rw [hz] at h1
  rw [hb] at h2
  suffices hs : ∃ n : Int, (Ieee.double.read f).toInt .zero = some n ∧ 0 ≤ n ∧ n < L by
    obtain ⟨n, e, e1, e2⟩ := hs
    have : floatToIntVal .f64 f .i64 = some n := by
      unfold floatToIntVal
      show (match (Ieee.double.read f).toInt .zero with | some n => _ | none => _) = _
      rw [e]
      have hb : IntKind.i64.min ≤ n ∧ n ≤ IntKind.i64.max := by
        have m1 : IntKind.i64.min = -9223372036854775808 := by decide
        have m2 : IntKind.i64.max = 9223372036854775807 := by decide
        rw [m1, m2]; omega
      simp only [hb, and_self, if_true]
    unfold tr
    rw [this]
    exact ⟨rfl, e1, e2⟩
  rcases read_form f with ⟨neg, m, e, hf, _⟩ | ⟨s, hf⟩ | ⟨s, u, hf⟩
  · rw [hf] at h1 h2 ⊢
    simp only [Datum.order, Int.natAbs_zero, Nat.zero_mul] at h1
    simp only [Datum.order, signed_val _ _ _ _ hb'] at h2
    have g1 := cmp_ge h1
    have g2 := cmp_lt h2
    have hz0 : signed z 0 ((-(zt : Int) - min e (-(zt : Int))).toNat) = 0 := by unfold signed; cases z <;> simp
    rw [hz0] at g1
    have hneg : neg = true → m = 0 := by
      intro hn
      rw [hn] at g1
      have g9 := signed_neg m (e - min e (-(zt : Int))).toNat
      have this := signed_abs true m (e - min e (-(zt : Int))).toNat
      rw [show signed true m (e - min e (-(zt : Int))).toNat = 0 from Int.le_antisymm g9 g1] at this
      have this := this.symm
      have hp := Nat.two_pow_pos ((e - min e (-(zt : Int))).toNat)
      rcases Nat.mul_eq_zero.1 (show m * 2 ^ (e - min e (-(zt : Int))).toNat = 0 from this) with c | c
      · exact c
      · omega
    have hsg : ∀ k, signed neg m k = (m * 2 ^ k : Nat) := by
      intro k
      unfold signed
      rw [Nat.shiftLeft_eq]
      cases hn : neg with
      | false => simp
      | true => rw [hneg hn]; simp
    rw [hsg] at g2
    have hLn : L = (L.toNat : Int) := by omega
    have hLpos : 0 < L.toNat := by
      by_cases c : L.toNat = 0
      · have hL0 : L = 0 := by omega
        rw [hL0, Int.zero_mul] at g2
        exact absurd g2 (Int.not_lt.2 (Int.natCast_nonneg _))
      · omega
    have key : ∀ k : Nat, ((m * 2 ^ (e - min e (-(t : Int))).toNat : Nat) : Int) < L * 2 ^ (t + (-(t : Int) - min e (-(t : Int))).toNat) := fun _ => g2
    simp only [Datum.toInt, Datum.integral]
    refine ⟨_, rfl, ?_⟩
    rcases Int.le_total 0 e with c | c
    · obtain ⟨k, rfl⟩ := Int.eq_ofNat_of_zero_le c
      have hmin : min ((k : Nat) : Int) (-(t : Int)) = -(t : Int) := by omega
      rw [hmin] at g2
      rw [show (((k : Nat) : Int) - -(t : Int)).toNat = k + t from by omega, show (-(t : Int) - -(t : Int)).toNat = 0 from by omega, Nat.add_zero] at g2
      rw [hLn] at g2
      have g3 : m * 2 ^ (k + t) < L.toNat * 2 ^ t := by exact_mod_cast g2
      rw [Nat.pow_add, ← Nat.mul_assoc] at g3
      have g4 : m * 2 ^ k < L.toNat := Nat.lt_of_mul_lt_mul_right g3
      rw [show (-((k : Nat) : Int)).toNat = 0 from by omega, cut_none]
      have : signed neg (m <<< ((k : Nat) : Int).toNat) 0 = (m * 2 ^ k : Nat) := by
        unfold signed
        simp only [Int.toNat_natCast, Nat.shiftLeft_eq, Nat.pow_zero, Nat.mul_one]
        cases hn : neg with
        | false => simp
        | true => rw [hneg hn]; simp
      rw [this]; omega
    · obtain ⟨k, hk⟩ : ∃ k : Nat, e = -(k : Int) := ⟨(-e).toNat, by omega⟩
      subst hk
      have g5 : m < L.toNat * 2 ^ k := by
        rw [hLn] at g2
        rcases Nat.le_total k t with c2 | c2
        · rw [show min (-(k : Int)) (-(t : Int)) = -(t : Int) from by omega, show (-(k : Int) - -(t : Int)).toNat = t - k from by omega, show (-(t : Int) - -(t : Int)).toNat = 0 from by omega, Nat.add_zero] at g2
          have g3 : m * 2 ^ (t - k) < L.toNat * 2 ^ t := by exact_mod_cast g2
          rw [show (2 : Nat) ^ t = 2 ^ k * 2 ^ (t - k) from by rw [← Nat.pow_add]; congr 1; omega, ← Nat.mul_assoc] at g3
          exact Nat.lt_of_mul_lt_mul_right g3
        · rw [show min (-(k : Int)) (-(t : Int)) = -(k : Int) from by omega, show (-(k : Int) - -(k : Int)).toNat = 0 from by omega, show (-(t : Int) - -(k : Int)).toNat = k - t from by omega, show t + (k - t) = k from by omega] at g2
          have g3 : m * 2 ^ 0 < L.toNat * 2 ^ k := by exact_mod_cast g2
          simpa using g3
      rw [show (-(k : Int)).toNat = 0 from by omega, Nat.shiftLeft_zero, show (- -(k : Int)).toNat = k from by omega]
      have hc := cut_bound neg m k L.toNat hLpos g5
      have : signed neg (Toward.zero.cut neg m k) 0 = (Toward.zero.cut neg m k : Nat) := by
        unfold signed
        rw [Nat.shiftLeft_zero]
        cases hn : neg with
        | false => simp
        | true =>
          have : Toward.zero.cut true m k = 0 := by rw [hneg hn]; unfold Toward.cut; simp
          rw [this]; simp
      rw [this]; omega
  · rw [hf] at h1 h2
    cases s
    · simp [Datum.order] at h2
    · simp [Datum.order] at h1
  · rw [hf] at h1
    simp [Datum.order] at h1

theorem part_int (f : Nat) (L : Int) (hL : L ≤ 4503599627370496) (h0 : 0 ≤ L) (h : partB f L = true) : IsInt f (tr f) ∧ 0 ≤ tr f ∧ tr f < L := by
  unfold partB at h
  rw [Bool.and_eq_true] at h
  obtain ⟨h1, h2⟩ := h
  obtain ⟨_, ht0, htL⟩ := in_tr f L hL h0 h1
  refine ⟨?_, ht0, htL⟩
  generalize tr f = X at *
  obtain ⟨b, t, hb, hb'⟩ := isInt_fl X (by omega)
  unfold Format.order at h2
  rw [hb] at h2
  unfold IsInt
  rcases read_form f with ⟨neg, m, e, hf, hm⟩ | ⟨s, hf⟩ | ⟨s, u, hf⟩
  · rw [hf] at h2 ⊢
    simp only [Datum.order, signed_val _ _ _ _ hb'] at h2
    have g := cmp_eq h2
    have hXn : X = (X.toNat : Int) := by omega
    have hsign : X ≠ 0 → neg = decide (X < 0) := by
      intro hX
      cases hn : neg with
      | false => simp; omega
      | true =>
        rw [hn] at g
        have g9 := signed_neg m (e - min e (-(t : Int))).toNat
        have hp : (0 : Int) < 2 ^ (t + (-(t : Int) - min e (-(t : Int))).toNat) := Int.pow_pos (by omega)
        have : 0 < X * 2 ^ (t + (-(t : Int) - min e (-(t : Int))).toNat) := Int.mul_pos (by omega) hp
        omega
    have hmag : m * 2 ^ (e - min e (-(t : Int))).toNat = X.toNat * 2 ^ (t + (-(t : Int) - min e (-(t : Int))).toNat) := by
      have g' := congrArg Int.natAbs g
      rw [Int.natAbs_mul, Int.natAbs_pow, signed_abs] at g'
      have e2 : X.natAbs = X.toNat := by omega
      rw [e2] at g'
      exact g'
    rcases Int.le_total 0 e with c | c
    · exfalso
      obtain ⟨k, rfl⟩ := Int.eq_ofNat_of_zero_le c
      have hm2 : 4503599627370496 ≤ m := by rcases hm with hm | hm <;> omega
      rw [show min ((k : Nat) : Int) (-(t : Int)) = -(t : Int) from by omega, show (((k : Nat) : Int) - -(t : Int)).toNat = k + t from by omega, show (-(t : Int) - -(t : Int)).toNat = 0 from by omega, Nat.add_zero, Nat.pow_add, ← Nat.mul_assoc] at hmag
      have := Nat.mul_right_cancel (Nat.two_pow_pos t) hmag
      have : m ≤ m * 2 ^ k := Nat.le_mul_of_pos_right _ (Nat.two_pow_pos k)
      omega
    · obtain ⟨k, hk⟩ : ∃ k : Nat, e = -(k : Int) := ⟨(-e).toNat, by omega⟩
      subst hk
      refine ⟨neg, k, ?_, hsign⟩
      have e2 : X.natAbs = X.toNat := by omega
      rw [e2]
      congr 1
      rcases Nat.le_total k t with c2 | c2
      · rw [show min (-(k : Int)) (-(t : Int)) = -(t : Int) from by omega, show (-(k : Int) - -(t : Int)).toNat = t - k from by omega, show (-(t : Int) - -(t : Int)).toNat = 0 from by omega, Nat.add_zero] at hmag
        rw [show (2 : Nat) ^ t = 2 ^ k * 2 ^ (t - k) from by rw [← Nat.pow_add]; congr 1; omega, ← Nat.mul_assoc] at hmag
        exact Nat.mul_right_cancel (Nat.two_pow_pos _) hmag
      · rw [show min (-(k : Int)) (-(t : Int)) = -(k : Int) from by omega, show (-(k : Int) - -(k : Int)).toNat = 0 from by omega, show (-(t : Int) - -(k : Int)).toNat = k - t from by omega, show t + (k - t) = k from by omega] at hmag
        simpa using hmag
  · rw [hf] at h2
    cases s <;> simp [Datum.order] at h2
  · rw [hf] at h2
    simp [Datum.order] at h2

/-- a float against itself: equal, or it is no number -/
theorem order_self (f : Nat) : Ieee.double.order f f = some .eq ∨ Ieee.double.order f f = none := by
  unfold Format.order
  rcases read_form f with ⟨neg, m, e, hf, _⟩ | ⟨s, hf⟩ | ⟨s, u, hf⟩
  · rw [hf]; left; simp [Datum.order]
  · rw [hf]; left; cases s <;> rfl
  · rw [hf]; right; rfl
/-- a whole number in bounds is one of the floats that pass -/
theorem part_of_int {f : Nat} {X L : Int} (hf : IsInt f X) (h0 : 0 ≤ X) (hL : X < L) (hb : L ≤ 4503599627370496) : partB f L = true ∧ tr f = X := by
  have hin : inB f L = true := by
    unfold inB
    rw [order_int hf isInt0, order_int hf (isInt_fl L (by omega))]
    have c1 : compare X L = .lt := by simp [compare, compareOfLessAndEq, hL]
    rw [c1]
    rcases Int.lt_trichotomy X 0 with c | c | c
    · omega
    · subst c; rfl
    · have c2 : ¬ X < 0 := by omega
      have c3 : ¬ X = 0 := by omega
      have : compare X 0 = .gt := by simp [compare, compareOfLessAndEq, c2, c3]
      rw [this]; rfl
  have htr : tr f = X := by
    obtain ⟨e1, e2, e3⟩ := in_tr f L hb (by omega) hin
    obtain ⟨neg, s, hr, hs⟩ := hf
    have : (Ieee.double.read f).toInt .zero = some X := by
      rw [hr]
      simp only [Datum.toInt, Datum.integral]
      congr 1
      rw [show (-(s : Int)).toNat = 0 from by omega, Nat.shiftLeft_zero, show (- -(s : Int)).toNat = s from by omega]
      have hc : Toward.zero.cut neg (X.natAbs * 2 ^ s) s = X.natAbs := by
        by_cases hX : X.natAbs = 0
        · rw [hX]; unfold Toward.cut; simp
        · unfold Toward.cut
          simp only [Bool.toNat_false, Nat.add_zero, Nat.one_shiftLeft]
          rw [log_mul _ _ hX, Nat.min_eq_left (by omega), Nat.mul_div_cancel _ (Nat.two_pow_pos s)]
      rw [hc]
      unfold signed
      rw [Nat.shiftLeft_zero]
      by_cases hX : X = 0
      · subst hX; simp
      · rw [hs hX]
        have : ¬ X < 0 := by omega
        simp [this]; omega
    have h2 : floatToIntVal .f64 f .i64 = some X := by
      unfold floatToIntVal
      show (match (Ieee.double.read f).toInt .zero with | some n => _ | none => _) = _
      rw [this]
      have hb : IntKind.i64.min ≤ X ∧ X ≤ IntKind.i64.max := by
        have m1 : IntKind.i64.min = -9223372036854775808 := by decide
        have m2 : IntKind.i64.max = 9223372036854775807 := by decide
        rw [m1, m2]; omega
      simp only [hb, and_self, if_true]
    rw [h2] at e1
    exact (Option.some.inj e1).symm
  refine ⟨?_, htr⟩
  unfold partB
  rw [hin, htr, order_int hf (isInt_fl X (by omega))]
  have : compare X X = .eq := by simp [compare, compareOfLessAndEq]
  rw [this]; rfl

end Go.Proofs.Ytdhkhdfenalagaa.Fl
