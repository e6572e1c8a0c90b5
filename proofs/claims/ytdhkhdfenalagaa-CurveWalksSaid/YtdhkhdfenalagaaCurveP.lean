/- Hilbert's walk on numbers: the point of a place, the place of a point, that they undo one another, and that the walk goes step by step; no program in sight. -/
namespace Go.Proofs.Ytdhkhdfenalagaa.Hil

def hat : Nat → Nat → Int × Int
  | 0, _ => (0, 0)
  | k + 1, p =>
    if p / 4 ^ k = 0 then ((hat k (p % 4 ^ k)).2, (hat k (p % 4 ^ k)).1)
    else if p / 4 ^ k = 1 then ((hat k (p % 4 ^ k)).1, (hat k (p % 4 ^ k)).2 + 2 ^ k)
    else if p / 4 ^ k = 2 then ((hat k (p % 4 ^ k)).1 + 2 ^ k, (hat k (p % 4 ^ k)).2 + 2 ^ k)
    else (2 * 2 ^ k - 1 - (hat k (p % 4 ^ k)).2, 2 ^ k - 1 - (hat k (p % 4 ^ k)).1)
def hpl : Nat → Int → Int → Nat
  | 0, _, _ => 0
  | k + 1, x, y =>
    if x < 2 ^ k then (if y < 2 ^ k then hpl k y x else 4 ^ k + hpl k x (y - 2 ^ k))
    else (if 2 ^ k ≤ y then 2 * 4 ^ k + hpl k (x - 2 ^ k) (y - 2 ^ k) else 3 * 4 ^ k + hpl k (2 ^ k - 1 - y) (2 * 2 ^ k - 1 - x))

theorem pow2_pos (k : Nat) : (0 : Int) < 2 ^ k := Int.pow_pos (by omega)
theorem pow2_succ (k : Nat) : (2 : Int) ^ (k + 1) = 2 * 2 ^ k := by rw [Int.pow_succ]; omega
theorem pow4_pos (k : Nat) : 0 < 4 ^ k := Nat.pow_pos (by omega)
theorem pow4_succ (k : Nat) : 4 ^ (k + 1) = 4 * 4 ^ k := by rw [Nat.pow_succ]; omega

theorem hat_bd : ∀ (k p : Nat), p < 4 ^ k → 0 ≤ (hat k p).1 ∧ (hat k p).1 < 2 ^ k ∧ 0 ≤ (hat k p).2 ∧ (hat k p).2 < 2 ^ k
  | 0, p, _ => by simp [hat]
  | k + 1, p, h => by
    have hp := pow2_pos k
    have ih := hat_bd k (p % 4 ^ k) (Nat.mod_lt _ (pow4_pos k))
    rw [pow2_succ]
    simp only [hat]
    split
    · simp only; omega
    · split
      · simp only; omega
      · split <;> simp only <;> omega
theorem div4_lt (k p : Nat) (h : p < 4 ^ (k + 1)) : p / 4 ^ k < 4 := by
  rw [pow4_succ] at h
  exact Nat.div_lt_of_lt_mul (by rw [Nat.mul_comm]; exact h)
theorem hpl_bd : ∀ (k : Nat) (x y : Int), 0 ≤ x → x < 2 ^ k → 0 ≤ y → y < 2 ^ k → hpl k x y < 4 ^ k
  | 0, x, y, _, _, _, _ => by simp [hpl]
  | k + 1, x, y, hx, hx', hy, hy' => by
    rw [pow2_succ] at hx' hy'
    rw [pow4_succ]
    simp only [hpl]
    split
    · split
      · have := hpl_bd k y x hy (by omega) hx (by omega); omega
      · have := hpl_bd k x (y - 2 ^ k) hx (by omega) (by omega) (by omega); omega
    · split
      · have := hpl_bd k (x - 2 ^ k) (y - 2 ^ k) (by omega) (by omega) (by omega) (by omega); omega
      · have := hpl_bd k (2 ^ k - 1 - y) (2 * 2 ^ k - 1 - x) (by omega) (by omega) (by omega) (by omega); omega
theorem hpl_hat : ∀ (k p : Nat), p < 4 ^ k → hpl k (hat k p).1 (hat k p).2 = p
  | 0, p, h => by simp [hpl] at *; omega
  | k + 1, p, h => by
    have hp := pow2_pos k
    have hm := Nat.mod_lt p (pow4_pos k)
    have bd := hat_bd k (p % 4 ^ k) hm
    have ih := hpl_hat k (p % 4 ^ k) hm
    have hq := div4_lt k p h
    have hd := Nat.div_add_mod p (4 ^ k)
    simp only [hat]
    generalize hat k (p % 4 ^ k) = r at *
    generalize p / 4 ^ k = q at *
    obtain ⟨x, y⟩ := r
    simp only at bd ih ⊢
    split
    · rename_i e
      rw [e, Nat.mul_zero, Nat.zero_add] at hd
      simp only [hpl]
      rw [if_pos (by omega), if_pos (by omega), ih, hd]
    · split
      · rename_i e
        rw [e, Nat.mul_one] at hd
        simp only [hpl]
        rw [if_pos (by omega), if_neg (by omega), show y + 2 ^ k - 2 ^ k = y from by omega, ih, hd]
      · split
        · rename_i e
          rw [e, Nat.mul_comm] at hd
          simp only [hpl]
          rw [if_neg (by omega), if_pos (by omega), show x + 2 ^ k - 2 ^ k = x from by omega, show y + 2 ^ k - 2 ^ k = y from by omega, ih, hd]
        · have e : q = 3 := by omega
          rw [e, Nat.mul_comm] at hd
          simp only [hpl]
          rw [if_neg (by omega), if_neg (by omega), show 2 ^ k - 1 - (2 ^ k - 1 - x) = x from by omega, show 2 * 2 ^ k - 1 - (2 * 2 ^ k - 1 - y) = y from by omega, ih, hd]
theorem div_add (a b k : Nat) (h : b < 4 ^ k) : (a * 4 ^ k + b) / 4 ^ k = a ∧ (a * 4 ^ k + b) % 4 ^ k = b := by
  have hp := pow4_pos k
  constructor
  · rw [Nat.mul_comm, Nat.mul_add_div hp, Nat.div_eq_of_lt h, Nat.add_zero]
  · rw [Nat.mul_comm, Nat.mul_add_mod, Nat.mod_eq_of_lt h]
theorem hat_hpl : ∀ (k : Nat) (x y : Int), 0 ≤ x → x < 2 ^ k → 0 ≤ y → y < 2 ^ k → hat k (hpl k x y) = (x, y)
  | 0, x, y, h1, h2, h3, h4 => by simp [hat] at *; omega
  | k + 1, x, y, hx, hx', hy, hy' => by
    rw [pow2_succ] at hx' hy'
    simp only [hpl]
    split
    · split
      · have hb := hpl_bd k y x hy (by omega) hx (by omega)
        have ih := hat_hpl k y x hy (by omega) hx (by omega)
        obtain ⟨e1, e2⟩ := div_add 0 _ k hb
        rw [Nat.zero_mul, Nat.zero_add] at e1 e2
        simp only [hat]; rw [e1, e2, ih]; simp
      · have hb := hpl_bd k x (y - 2 ^ k) hx (by omega) (by omega) (by omega)
        have ih := hat_hpl k x (y - 2 ^ k) hx (by omega) (by omega) (by omega)
        obtain ⟨e1, e2⟩ := div_add 1 _ k hb
        rw [Nat.one_mul] at e1 e2
        simp only [hat]; rw [e1, e2, ih]; simp
    · split
      · have hb := hpl_bd k (x - 2 ^ k) (y - 2 ^ k) (by omega) (by omega) (by omega) (by omega)
        have ih := hat_hpl k (x - 2 ^ k) (y - 2 ^ k) (by omega) (by omega) (by omega) (by omega)
        obtain ⟨e1, e2⟩ := div_add 2 _ k hb
        simp only [hat]; rw [e1, e2, ih]; simp
      · have hb := hpl_bd k (2 ^ k - 1 - y) (2 * 2 ^ k - 1 - x) (by omega) (by omega) (by omega) (by omega)
        have ih := hat_hpl k (2 ^ k - 1 - y) (2 * 2 ^ k - 1 - x) (by omega) (by omega) (by omega) (by omega)
        obtain ⟨e1, e2⟩ := div_add 3 _ k hb
        simp only [hat]; rw [e1, e2, ih]; simp; omega

theorem hat_first : ∀ k, hat k 0 = (0, 0)
  | 0 => rfl
  | k + 1 => by simp only [hat]; rw [Nat.zero_div, Nat.zero_mod, hat_first k]; simp
theorem hat_last : ∀ k, hat k (4 ^ k - 1) = (2 ^ k - 1, 0)
  | 0 => rfl
  | k + 1 => by
    have hp := pow4_pos k
    obtain ⟨e1, e2⟩ := div_add 3 (4 ^ k - 1) k (by omega)
    rw [pow4_succ, show 4 * 4 ^ k - 1 = 3 * 4 ^ k + (4 ^ k - 1) from by omega]
    simp only [hat]
    rw [e1, e2, hat_last k, pow2_succ]
    simp
/-- two points, a step apart -/
def Near (a b : Int × Int) : Prop := (b.1 - a.1 = 1 ∧ b.2 = a.2) ∨ (b.1 - a.1 = -1 ∧ b.2 = a.2) ∨ (b.1 = a.1 ∧ b.2 - a.2 = 1) ∨ (b.1 = a.1 ∧ b.2 - a.2 = -1)
theorem hat_near : ∀ (k p : Nat), p + 1 < 4 ^ k → Near (hat k p) (hat k (p + 1))
  | 0, p, h => by simp at h
  | k + 1, p, h => by
    have hp4 := pow4_pos k
    have hm := Nat.mod_lt p hp4
    have hd := Nat.div_add_mod p (4 ^ k)
    have hq := div4_lt k p (by omega)
    by_cases c : p % 4 ^ k + 1 < 4 ^ k
    · have ih := hat_near k (p % 4 ^ k) c
      obtain ⟨e1, e2⟩ := div_add (p / 4 ^ k) (p % 4 ^ k + 1) k c
      rw [show p / 4 ^ k * 4 ^ k + (p % 4 ^ k + 1) = p + 1 from by rw [Nat.mul_comm, ← Nat.add_assoc, hd]] at e1 e2
      simp only [hat]
      rw [e1, e2]
      unfold Near at *
      split
      · simp only; omega
      · split
        · simp only; omega
        · split <;> simp only <;> omega
    · have hl : p % 4 ^ k = 4 ^ k - 1 := by omega
      have hne : p / 4 ^ k < 3 := by
        rw [pow4_succ] at h
        rcases Nat.lt_or_ge (p / 4 ^ k) 3 with x | x
        · exact x
        · have : 3 * 4 ^ k ≤ 4 ^ k * (p / 4 ^ k) := by rw [Nat.mul_comm]; exact Nat.mul_le_mul_left _ x
          omega
      obtain ⟨e1, e2⟩ := div_add (p / 4 ^ k + 1) 0 k hp4
      rw [show (p / 4 ^ k + 1) * 4 ^ k + 0 = p + 1 from by rw [Nat.add_mul, Nat.mul_comm, Nat.one_mul]; omega] at e1 e2
      simp only [hat]
      rw [e1, e2, hl, hat_first, hat_last]
      unfold Near
      generalize p / 4 ^ k = q at *
      rcases (show q = 0 ∨ q = 1 ∨ q = 2 from by omega) with e | e | e <;> rw [e] <;> simp <;> omega
/-- the point of a place, quarter by quarter from the least -/
theorem hat_digit (j p : Nat) : (p % 4 ^ (j + 1)) / 4 ^ j = p / 4 ^ j % 4 ∧ (p % 4 ^ (j + 1)) % 4 ^ j = p % 4 ^ j := by
  rw [Nat.pow_succ]
  exact ⟨Nat.mod_mul_right_div_self p (4 ^ j) 4, Nat.mod_mul_right_mod p (4 ^ j) 4⟩

end Go.Proofs.Ytdhkhdfenalagaa.Hil
