/- Prefixes, spans, masks, boxes and rules, in plain Lean. -/
import Derived.Laws.BitsLemmas
namespace Go.Proofs.Ytljliopmphaoeaa.Q

structure Pfx where
  a : Nat
  n : Int
structure Spn where
  lo : Nat
  hi : Nat
structure Msk where
  v : Nat
  c : Nat
structure Rul where
  id : Int
  src : Pfx
  dst : Pfx
  sp : Spn
  dp : Spn
  pr : Msk
  act : Int
structure Hdr where
  src : Nat
  dst : Nat
  sp : Nat
  dp : Nat
  pr : Nat
structure Run where
  lo : Nat
  hi : Nat
structure Bx where
  src : Run
  dst : Run
  sp : Spn
  dp : Spn
  pr : Msk

/-! ### what a machine's number may be -/
def I64 (n : Int) : Prop := -9223372036854775808 ≤ n ∧ n ≤ 9223372036854775807
structure Pfx.Wf (p : Pfx) : Prop where
  a : p.a < 4294967296
  n : I64 p.n
structure Spn.Wf (s : Spn) : Prop where
  lo : s.lo < 65536
  hi : s.hi < 65536
structure Msk.Wf (m : Msk) : Prop where
  v : m.v < 256
  c : m.c < 256
structure Run.Wf (r : Run) : Prop where
  lo : r.lo < 4294967296
  hi : r.hi < 4294967296
structure Rul.Wf (r : Rul) : Prop where
  id : I64 r.id
  src : r.src.Wf
  dst : r.dst.Wf
  sp : r.sp.Wf
  dp : r.dp.Wf
  pr : r.pr.Wf
  act : I64 r.act
structure Hdr.Wf (h : Hdr) : Prop where
  src : h.src < 4294967296
  dst : h.dst < 4294967296
  sp : h.sp < 65536
  dp : h.dp < 65536
  pr : h.pr < 256
structure Bx.Wf (b : Bx) : Prop where
  src : b.src.Wf
  dst : b.dst.Wf
  sp : b.sp.Wf
  dp : b.dp.Wf
  pr : b.pr.Wf

/-! ### what may be, what it has -/
/-- the addresses of so many free bits -/
def free (n : Int) : Nat := 2 ^ (32 - n.toNat)
def Pfx.ck (p : Pfx) : Int := if p.n < 0 ∨ 32 < p.n then 20 else if p.a % free p.n ≠ 0 then 21 else 0
def Spn.ck (s : Spn) : Int := if s.hi < s.lo then 30 else 0
def Msk.ck (m : Msk) : Int := if m.v &&& m.c = m.v then 0 else 40
def Pfx.has (p : Pfx) (x : Nat) : Bool := decide (p.ck = 0) && decide (x / free p.n * free p.n = p.a)
def Spn.has (s : Spn) (x : Nat) : Bool := decide (s.lo ≤ x) && decide (x ≤ s.hi)
def Msk.has (m : Msk) (x : Nat) : Bool := decide (x &&& m.c = m.v)
/-- what is wrong with a rule, and with which of its fields -/
def Rul.ck (r : Rul) : Int × Int :=
  if r.id < 1 ∨ 999999 < r.id then (80, 1)
  else if r.src.ck ≠ 0 then (r.src.ck, 2)
  else if r.dst.ck ≠ 0 then (r.dst.ck, 3)
  else if r.sp.ck ≠ 0 then (r.sp.ck, 4)
  else if r.dp.ck ≠ 0 then (r.dp.ck, 5)
  else if r.pr.ck ≠ 0 then (r.pr.ck, 6)
  else if r.act = 1 ∨ r.act = 2 ∨ r.act = 3 ∨ r.act = 4 then (0, 0) else (81, 7)
def Rul.may (r : Rul) : Bool := decide (r.ck.1 = 0)
def Rul.hit (r : Rul) (h : Hdr) : Bool := r.may && r.src.has h.src && r.dst.has h.dst && r.sp.has h.sp && r.dp.has h.dp && r.pr.has h.pr
theorem Pfx.ck_cases (p : Pfx) : p.ck = 20 ∨ p.ck = 21 ∨ p.ck = 0 := by unfold Pfx.ck; (repeat' split) <;> simp
theorem Spn.ck_cases (s : Spn) : s.ck = 30 ∨ s.ck = 0 := by unfold Spn.ck; split <;> simp
theorem Msk.ck_cases (m : Msk) : m.ck = 40 ∨ m.ck = 0 := by unfold Msk.ck; split <;> simp
theorem Pfx.ck_bd (p : Pfx) : 0 ≤ p.ck ∧ p.ck ≤ 81 := by rcases p.ck_cases with h | h | h <;> omega
theorem Spn.ck_bd (s : Spn) : 0 ≤ s.ck ∧ s.ck ≤ 81 := by rcases s.ck_cases with h | h <;> omega
theorem Msk.ck_bd (m : Msk) : 0 ≤ m.ck ∧ m.ck ≤ 81 := by rcases m.ck_cases with h | h <;> omega
theorem Rul.ck_bd (r : Rul) : 0 ≤ r.ck.1 ∧ r.ck.1 ≤ 81 ∧ 0 ≤ r.ck.2 ∧ r.ck.2 ≤ 7 := by
  have h1 := r.src.ck_bd; have h2 := r.dst.ck_bd; have h3 := r.sp.ck_bd; have h4 := r.dp.ck_bd; have h5 := r.pr.ck_bd
  unfold Rul.ck
  (repeat' split) <;> simp only <;> omega
/-- what a rule that may be is -/
theorem Rul.may_iff (r : Rul) : r.may = true ↔ (1 ≤ r.id ∧ r.id ≤ 999999) ∧ r.src.ck = 0 ∧ r.dst.ck = 0 ∧ r.sp.ck = 0 ∧ r.dp.ck = 0 ∧ r.pr.ck = 0 ∧ (1 ≤ r.act ∧ r.act ≤ 4) := by
  unfold Rul.may Rul.ck
  rw [decide_eq_true_iff]
  by_cases h0 : r.id < 1 ∨ 999999 < r.id
  · rw [if_pos h0]; simp only; omega
  rw [if_neg h0]
  by_cases h1 : r.src.ck ≠ 0
  · rw [if_pos h1]; simp only; omega
  rw [if_neg h1]
  by_cases h2 : r.dst.ck ≠ 0
  · rw [if_pos h2]; simp only; omega
  rw [if_neg h2]
  by_cases h3 : r.sp.ck ≠ 0
  · rw [if_pos h3]; simp only; omega
  rw [if_neg h3]
  by_cases h4 : r.dp.ck ≠ 0
  · rw [if_pos h4]; simp only; omega
  rw [if_neg h4]
  by_cases h5 : r.pr.ck ≠ 0
  · rw [if_pos h5]; simp only; omega
  rw [if_neg h5]
  by_cases h6 : r.act = 1 ∨ r.act = 2 ∨ r.act = 3 ∨ r.act = 4
  · rw [if_pos h6]; simp only; simp only [true_iff]; omega
  · rw [if_neg h6]; simp only; omega

/-! ### a prefix's bits -/
theorem free_pos (n : Int) : 0 < free n := Nat.two_pow_pos _
theorem mod_and (a j : Nat) : a &&& (2 ^ j - 1) = a % 2 ^ j := Nat.and_two_pow_sub_one_eq_mod a j
theorem top_and (a j : Nat) (hj : j ≤ 32) (ha : a < 4294967296) : a &&& (4294967296 - 2 ^ j) = a / 2 ^ j * 2 ^ j := by
  have h1 : 4294967296 - 2 ^ j = (2 ^ (32 - j) - 1) * 2 ^ j := by
    rw [Nat.sub_mul, ← Nat.pow_add, show 32 - j + j = 32 from by omega]; simp
  have h2 : a / 2 ^ j < 2 ^ (32 - j) := by
    rw [Nat.div_lt_iff_lt_mul (Nat.two_pow_pos j), ← Nat.pow_add, show 32 - j + j = 32 from by omega]; exact ha
  rw [h1, ← Nat.shiftLeft_eq, ← Nat.shiftLeft_eq, ← Nat.shiftRight_eq_div_pow]
  apply Nat.eq_of_testBit_eq
  intro i
  rw [Nat.testBit_and, Nat.testBit_shiftLeft, Nat.testBit_shiftLeft, Nat.testBit_shiftRight, Nat.testBit_two_pow_sub_one]
  by_cases hi : j ≤ i
  · rw [show j + (i - j) = i from by omega]
    by_cases hk : i - j < 32 - j
    · simp [hi, hk]
    · have : a.testBit i = false := Nat.testBit_lt_two_pow (Nat.lt_of_lt_of_le ha (by
        have : 2 ^ 32 ≤ 2 ^ i := Nat.pow_le_pow_right (by omega) (by omega)
        simpa using this))
      simp [this]
  · simp [hi]
theorem or_low (a j : Nat) (h : a % 2 ^ j = 0) : a ||| (2 ^ j - 1) = a + (2 ^ j - 1) := by
  have h1 : a = 2 ^ j * (a / 2 ^ j) := by have := Nat.div_add_mod a (2 ^ j); omega
  have h2 : 2 ^ j - 1 < 2 ^ j := by have := Nat.two_pow_pos j; omega
  rw [h1]
  exact (Nat.two_pow_add_eq_or_of_lt h2 _).symm
/-- the run of a prefix that may be -/
def Pfx.run (p : Pfx) : Run := if p.ck = 0 then ⟨p.a, p.a + (free p.n - 1)⟩ else ⟨0, 0⟩
theorem Pfx.ok_iff (p : Pfx) : p.ck = 0 ↔ 0 ≤ p.n ∧ p.n ≤ 32 ∧ p.a % free p.n = 0 := by
  unfold Pfx.ck
  split
  · simp; omega
  · split
    · simp; omega
    · simp; omega
theorem free_dvd (n : Int) (h0 : 0 ≤ n) (h1 : n ≤ 32) : ∃ k, 4294967296 = free n * k := by
  refine ⟨2 ^ n.toNat, ?_⟩
  unfold free
  rw [← Nat.pow_add, show 32 - n.toNat + n.toNat = 32 from by omega]
theorem Pfx.top (p : Pfx) (h : p.ck = 0) (hw : p.a < 4294967296) : p.a + (free p.n - 1) < 4294967296 := by
  obtain ⟨h0, h1, h2⟩ := p.ok_iff.1 h
  obtain ⟨k, hk⟩ := free_dvd p.n h0 h1
  have hf := free_pos p.n
  have h3 : p.a = free p.n * (p.a / free p.n) := by have := Nat.div_add_mod p.a (free p.n); omega
  have h4 : p.a / free p.n < k := by
    apply Nat.lt_of_mul_lt_mul_left (a := free p.n)
    omega
  have h5 : free p.n * (p.a / free p.n + 1) ≤ free p.n * k := Nat.mul_le_mul_left _ h4
  rw [Nat.mul_add, Nat.mul_one] at h5
  omega
/-- a prefix has just the addresses of its run -/
theorem Pfx.has_run (p : Pfx) (h : p.ck = 0) (x : Nat) : p.has x = (decide (p.run.lo ≤ x) && decide (x ≤ p.run.hi)) := by
  obtain ⟨h0, h1, h2⟩ := p.ok_iff.1 h
  have hf := free_pos p.n
  unfold Pfx.has Pfx.run
  rw [if_pos h, Bool.eq_iff_iff]
  simp only [h, decide_true, Bool.true_and, decide_eq_true_eq, Bool.and_eq_true]
  have h3 : p.a = p.a / free p.n * free p.n := by have := Nat.div_add_mod p.a (free p.n); rw [Nat.mul_comm]; omega
  have h4 := Nat.div_add_mod x (free p.n)
  have h5 := Nat.mod_lt x hf
  rw [Nat.mul_comm] at h4
  constructor
  · intro h6; omega
  · rintro ⟨h6, h7⟩
    have h8 : x / free p.n = p.a / free p.n := by
      apply Nat.div_eq_of_lt_le
      · omega
      · rw [Nat.add_mul, Nat.one_mul, ← h3]; omega
    rw [h8]; exact h3.symm

/-! ### boxes -/
def Run.has (r : Run) (x : Nat) : Bool := decide (r.lo ≤ x) && decide (x ≤ r.hi)
def Bx.ck (b : Bx) : Int := if b.src.hi < b.src.lo ∨ b.dst.hi < b.dst.lo then 70 else if b.sp.ck ≠ 0 then b.sp.ck else if b.dp.ck ≠ 0 then b.dp.ck else b.pr.ck
def Bx.has (b : Bx) (h : Hdr) : Bool := b.src.has h.src && b.dst.has h.dst && b.sp.has h.sp && b.dp.has h.dp && b.pr.has h.pr
def Run.meet (a b : Run) : Run := ⟨max a.lo b.lo, min a.hi b.hi⟩
def Spn.meet (a b : Spn) : Spn := ⟨max a.lo b.lo, min a.hi b.hi⟩
/-- have two masks something in common? -/
def Msk.meets (a b : Msk) : Bool := decide (a.ck = 0) && decide (b.ck = 0) && decide ((a.v ^^^ b.v) &&& a.c &&& b.c = 0)
def Spn.meets (a b : Spn) : Bool := decide (a.ck = 0) && decide (b.ck = 0) && decide ((a.meet b).ck = 0)
def Msk.join (a b : Msk) : Msk := ⟨a.v ||| b.v, a.c ||| b.c⟩
def Bx.join (a b : Bx) : Bx := ⟨a.src.meet b.src, a.dst.meet b.dst, a.sp.meet b.sp, a.dp.meet b.dp, a.pr.join b.pr⟩
def Bx.meets (a b : Bx) : Bool := (a.sp.meets b.sp && a.dp.meets b.dp && a.pr.meets b.pr) && decide (a.ck = 0) && decide (b.ck = 0) && decide ((a.join b).ck = 0)
def Bx.zero : Bx := ⟨⟨0, 0⟩, ⟨0, 0⟩, ⟨0, 0⟩, ⟨0, 0⟩, ⟨0, 0⟩⟩
def Bx.meet (a b : Bx) : Bx := if a.meets b = true then a.join b else Bx.zero
deriving instance DecidableEq for Run, Spn, Msk, Bx
def Bx.within (a b : Bx) : Bool := a.meets b && decide (a.join b = a)
def Rul.box (r : Rul) : Bx := if r.ck.1 = 0 then ⟨r.src.run, r.dst.run, r.sp, r.dp, r.pr⟩ else Bx.zero

theorem Spn.ok_iff (s : Spn) : s.ck = 0 ↔ s.lo ≤ s.hi := by unfold Spn.ck; split <;> simp <;> omega
theorem Msk.ok_iff (m : Msk) : m.ck = 0 ↔ m.v &&& m.c = m.v := by unfold Msk.ck; split <;> simp [*]
theorem Bx.ok_iff (b : Bx) : b.ck = 0 ↔ b.src.lo ≤ b.src.hi ∧ b.dst.lo ≤ b.dst.hi ∧ b.sp.ck = 0 ∧ b.dp.ck = 0 ∧ b.pr.ck = 0 := by
  unfold Bx.ck
  split
  · simp; omega
  · split
    · simp [*]
    · split
      · simp [*]
      · simp_all
theorem Msk.has_bit (m : Msk) (x : Nat) : m.has x = true ↔ ∀ i, (x.testBit i && m.c.testBit i) = m.v.testBit i := by
  unfold Msk.has
  rw [decide_eq_true_iff]
  constructor
  · intro h i; rw [← Nat.testBit_and, h]
  · intro h; apply Nat.eq_of_testBit_eq; intro i; rw [Nat.testBit_and]; exact h i
theorem Msk.ok_bit (m : Msk) : m.ck = 0 ↔ ∀ i, m.v.testBit i = true → m.c.testBit i = true := by
  rw [Msk.ok_iff]
  constructor
  · intro h i hi
    have : (m.v &&& m.c).testBit i = true := by rw [h]; exact hi
    rw [Nat.testBit_and, Bool.and_eq_true] at this
    exact this.2
  · intro h; apply Nat.eq_of_testBit_eq; intro i; rw [Nat.testBit_and]
    have := h i
    cases hv : m.v.testBit i
    · rfl
    · rw [this hv]; rfl
theorem Msk.meets_bit (a b : Msk) (ha : a.ck = 0) (hb : b.ck = 0) : a.meets b = true ↔ ∀ i, a.c.testBit i = true → b.c.testBit i = true → a.v.testBit i = b.v.testBit i := by
  unfold Msk.meets
  simp only [ha, hb, decide_true, Bool.true_and, decide_eq_true_eq]
  constructor
  · intro h i h1 h2
    have : ((a.v ^^^ b.v) &&& a.c &&& b.c).testBit i = false := by rw [h]; exact Nat.zero_testBit i
    rw [Nat.testBit_and, Nat.testBit_and, Nat.testBit_xor, h1, h2] at this
    revert this
    generalize a.v.testBit i = p; generalize b.v.testBit i = q
    revert p q; decide
  · intro h; apply Nat.eq_of_testBit_eq; intro i
    rw [Nat.testBit_and, Nat.testBit_and, Nat.testBit_xor, Nat.zero_testBit]
    have := h i
    revert this
    generalize a.v.testBit i = p; generalize b.v.testBit i = q; generalize a.c.testBit i = r; generalize b.c.testBit i = s
    revert p q r s; decide
theorem Msk.join_has (a b : Msk) (ha : a.ck = 0) (hb : b.ck = 0) (hm : a.meets b = true) (x : Nat) : (a.join b).has x = (a.has x && b.has x) := by
  rw [Bool.eq_iff_iff, Bool.and_eq_true, Msk.has_bit, Msk.has_bit, Msk.has_bit, ← forall_and]
  have h1 := (Msk.ok_bit a).1 ha
  have h2 := (Msk.ok_bit b).1 hb
  have h3 := (Msk.meets_bit a b ha hb).1 hm
  refine forall_congr' fun i => ?_
  unfold Msk.join
  simp only [Nat.testBit_or]
  have h1 := h1 i; have h2 := h2 i; have h3 := h3 i
  revert h1 h2 h3
  generalize a.v.testBit i = p; generalize b.v.testBit i = q; generalize a.c.testBit i = r; generalize b.c.testBit i = s; generalize x.testBit i = u
  revert p q r s u; decide
theorem Msk.no_meet (a b : Msk) (ha : a.ck = 0) (hb : b.ck = 0) (hm : a.meets b = false) (x : Nat) : (a.has x && b.has x) = false := by
  cases h : (a.has x && b.has x) with
  | false => rfl
  | true =>
    rw [Bool.and_eq_true, Msk.has_bit, Msk.has_bit] at h
    have : a.meets b = true := (Msk.meets_bit a b ha hb).2 fun i h1 h2 => by
      have h3 := h.1 i; have h4 := h.2 i
      rw [h1] at h3; rw [h2] at h4; rw [← h3, ← h4]
    rw [this] at hm; cases hm
theorem Msk.join_ok (a b : Msk) (ha : a.ck = 0) (hb : b.ck = 0) : (a.join b).ck = 0 := by
  rw [Msk.ok_bit] at *
  intro i
  unfold Msk.join
  simp only [Nat.testBit_or]
  have h1 := ha i; have h2 := hb i
  revert h1 h2
  generalize a.v.testBit i = p; generalize b.v.testBit i = q; generalize a.c.testBit i = r; generalize b.c.testBit i = s
  revert p q r s; decide
theorem Run.meet_has (a b : Run) (x : Nat) : (a.meet b).has x = (a.has x && b.has x) := by
  unfold Run.meet Run.has
  rw [Bool.eq_iff_iff]; simp; omega
theorem Spn.meet_has (a b : Spn) (x : Nat) : (a.meet b).has x = (a.has x && b.has x) := by
  unfold Spn.meet Spn.has
  rw [Bool.eq_iff_iff]; simp; omega
/-- where two boxes meet, what they share is what both have -/
theorem Bx.join_has (a b : Bx) (hm : a.meets b = true) (h : Hdr) : (a.join b).has h = (a.has h && b.has h) := by
  unfold Bx.meets at hm
  simp only [Bool.and_eq_true, decide_eq_true_eq] at hm
  obtain ⟨⟨⟨⟨⟨h1, h2⟩, h3⟩, h4⟩, h5⟩, h6⟩ := hm
  have p1 := (Bx.ok_iff a).1 h4
  have p2 := (Bx.ok_iff b).1 h5
  have e := Msk.join_has a.pr b.pr p1.2.2.2.2 p2.2.2.2.2 h3 h.pr
  unfold Bx.has Bx.join
  simp only [Run.meet_has, Spn.meet_has, e]
  cases a.src.has h.src <;> cases b.src.has h.src <;> cases a.dst.has h.dst <;> cases b.dst.has h.dst <;> cases a.sp.has h.sp <;> cases b.sp.has h.sp <;> simp <;>
    cases a.dp.has h.dp <;> cases b.dp.has h.dp <;> cases a.pr.has h.pr <;> cases b.pr.has h.pr <;> rfl
/-- where they do not, no header is in both -/
theorem Bx.no_meet (a b : Bx) (ha : a.ck = 0) (hb : b.ck = 0) (hm : a.meets b = false) (h : Hdr) (h1 : a.has h = true) : b.has h = false := by
  cases h2 : b.has h with
  | false => rfl
  | true =>
    exfalso
    have p1 := (Bx.ok_iff a).1 ha
    have p2 := (Bx.ok_iff b).1 hb
    unfold Bx.has at h1 h2
    simp only [Bool.and_eq_true] at h1 h2
    obtain ⟨⟨⟨⟨a1, a2⟩, a3⟩, a4⟩, a5⟩ := h1
    obtain ⟨⟨⟨⟨b1, b2⟩, b3⟩, b4⟩, b5⟩ := h2
    have hpr : a.pr.meets b.pr = true := by
      cases hp : a.pr.meets b.pr with
      | true => rfl
      | false => have := Msk.no_meet a.pr b.pr p1.2.2.2.2 p2.2.2.2.2 hp h.pr; rw [a5, b5] at this; cases this
    have hj := Msk.join_ok a.pr b.pr p1.2.2.2.2 p2.2.2.2.2
    simp only [Run.has, Spn.has, Bool.and_eq_true, decide_eq_true_eq] at a1 a2 a3 a4 b1 b2 b3 b4
    have s1 : (a.sp.meet b.sp).ck = 0 := (Spn.ok_iff _).2 (by simp only [Spn.meet]; omega)
    have s2 : (a.dp.meet b.dp).ck = 0 := (Spn.ok_iff _).2 (by simp only [Spn.meet]; omega)
    have : a.meets b = true := by
      unfold Bx.meets
      simp only [Bool.and_eq_true, decide_eq_true_eq]
      refine ⟨⟨⟨⟨⟨?_, ?_⟩, hpr⟩, ha⟩, hb⟩, (Bx.ok_iff _).2 ⟨?_, ?_, s1, s2, hj⟩⟩
      · unfold Spn.meets; simp [p1, p2, s1]
      · unfold Spn.meets; simp [p1, p2, s2]
      · simp only [Bx.join, Run.meet]; omega
      · simp only [Bx.join, Run.meet]; omega
    rw [this] at hm; cases hm
theorem Bx.within_has (a b : Bx) (hw : a.within b = true) (h : Hdr) (ha : a.has h = true) : b.has h = true := by
  unfold Bx.within at hw
  simp only [Bool.and_eq_true, decide_eq_true_eq] at hw
  have := Bx.join_has a b hw.1 h
  rw [hw.2, ha] at this
  cases hb : b.has h with
  | true => rfl
  | false => rw [hb] at this; cases this
/-- a rule that may be hits just what its box has -/
theorem Rul.hit_box (r : Rul) (hm : r.may = true) (h : Hdr) : r.hit h = r.box.has h := by
  obtain ⟨_, h1, h2, _⟩ := r.may_iff.1 hm
  have hc : r.ck.1 = 0 := by unfold Rul.may at hm; simpa using hm
  unfold Rul.hit Rul.box Bx.has
  rw [hm, if_pos hc, Pfx.has_run _ h1, Pfx.has_run _ h2]
  simp only [Run.has, Bool.true_and]
theorem Pfx.run_le (p : Pfx) : p.run.lo ≤ p.run.hi := by unfold Pfx.run; split <;> simp
theorem Rul.box_ok (r : Rul) (hm : r.may = true) : r.box.ck = 0 := by
  obtain ⟨_, h1, h2, h3, h4, h5, _⟩ := r.may_iff.1 hm
  have hc : r.ck.1 = 0 := by unfold Rul.may at hm; simpa using hm
  unfold Rul.box
  rw [if_pos hc, Bx.ok_iff]
  exact ⟨r.src.run_le, r.dst.run_le, h3, h4, h5⟩
end Go.Proofs.Ytljliopmphaoeaa.Q
