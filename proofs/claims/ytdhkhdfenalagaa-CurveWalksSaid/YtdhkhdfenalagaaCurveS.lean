/- What Place and the reference's Place give back: the place of a point, or that it is none. -/
import Derived.Test.YtdhkhdfenalagaaCurveR
namespace Go.Proofs.Ytdhkhdfenalagaa
open Go.RowKit Go.Proofs.Ytdhkhdfenalagaa.Fl Go.Proofs.Ytdhkhdfenalagaa.Hil

theorem ret_two {k l : IntKind} {a b c d : Int} (h : a = b) (h' : c = d) : Ending.returned (.tuple #[.int k a, .int l c]) = .returned (.tuple #[.int k b, .int l d]) := by rw [h, h']
theorem lim_bd (n : Int) (h0 : 1 ≤ n) (h1 : n ≤ 16) : wrap64 ((2 : Int) ^ n.toNat) = (2 : Int) ^ n.toNat ∧ (0 : Int) < (2 : Int) ^ n.toNat ∧ (2 : Int) ^ n.toNat ≤ 65536 := by
  have h : 2 ^ n.toNat ≤ 2 ^ 16 := Nat.pow_le_pow_right (by omega) (by omega)
  have e2 : (2 : Nat) ^ 16 = 65536 := rfl
  have e : ((2 : Int) ^ n.toNat) = ((2 ^ n.toNat : Nat) : Int) := by simp
  have h3 : 0 < 2 ^ n.toNat := Nat.two_pow_pos _
  rw [e]
  rw [e2] at h
  generalize 2 ^ n.toNat = t at *
  unfold wrap64
  omega
/-- the square's side -/
def side (n : Int) : Int := 2 ^ n.toNat
/-- both parts are whole and in the square -/
def inSq (n : Int) (x y : Nat) : Bool := partB x (side n) && partB y (side n)

set_option maxHeartbeats 1000000 in
theorem rPlace_order (n : Int) (x y : Nat) (h : n < 1 ∨ 16 < n) (w : World) :
    Calls Try.prog 15 #[.int .i64 n, .float .f64 x, .float .f64 y] w fun e w' => e = .returned (.tuple #[.int .i64 0, .int .i64 130]) ∧ w = w' := by
  rcases h with h | h
  · go_enter Try.func15, Try.ntmps15
    go_wp2
    all_goals (go_ret2; exact ⟨rfl, rfl⟩)
  · have h' : 1 ≤ n := by omega
    go_enter Try.func15, Try.ntmps15
    go_wp2
    all_goals (go_ret2; exact ⟨rfl, rfl⟩)
set_option maxHeartbeats 1000000 in
theorem rPlace_point (n : Int) (x y : Nat) (h0 : 1 ≤ n) (h1 : n ≤ 16) (h : inSq n x y = false) (w : World) :
    Calls Try.prog 15 #[.int .i64 n, .float .f64 x, .float .f64 y] w fun e w' => e = .returned (.tuple #[.int .i64 0, .int .i64 131]) ∧ w = w' := by
  obtain ⟨b1, b2, b3⟩ := lim_bd n h0 h1
  have t0 : partB x (side n) = true → 0 ≤ tr x := fun h => (part_int x (side n) (by unfold side; omega) (by unfold side; omega) h).2.1
  have C1 : ∀ W, Calls Try.prog 31 #[.float .f64 x, .int .i64 (2 ^ n.toNat)] W fun e w' => e = .returned (.int .i64 (if partB x (side n) = true then tr x else -1)) ∧ W = w' := fun W => whole_any x (2 ^ n.toNat) (by omega) b3 W
  have C2 : ∀ W, Calls Try.prog 31 #[.float .f64 y, .int .i64 (2 ^ n.toNat)] W fun e w' => e = .returned (.int .i64 (if partB y (side n) = true then tr y else -1)) ∧ W = w' := fun W => whole_any y (2 ^ n.toNat) (by omega) b3 W
  unfold inSq at h
  cases c1 : partB x (side n) with
  | false =>
    rw [c1] at C1
    have D1 := Sd.mk C1; have D2 := Sd.mk C2
    clear C1 C2 h c1 t0
    go_enter Try.func15, Try.ntmps15
    go_wp2_with fail
    refine (D1.out _).mono ?_
    rintro e w' ⟨rfl, rfl⟩
    go_wp2_with fail
    refine (D2.out _).mono ?_
    rintro e w' ⟨rfl, rfl⟩
    go_wp2
    all_goals (go_ret2; exact ⟨rfl, rfl⟩)
  | true =>
    rw [c1, Bool.true_and] at h
    have t := t0 c1
    rw [c1] at C1
    rw [h] at C2
    simp only [if_true] at C1
    have D1 := Sd.mk C1; have D2 := Sd.mk C2
    clear C1 C2 h c1 t0
    go_enter Try.func15, Try.ntmps15
    go_wp2_with fail
    refine (D1.out _).mono ?_
    rintro e w' ⟨rfl, rfl⟩
    go_wp2_with fail
    refine (D2.out _).mono ?_
    rintro e w' ⟨rfl, rfl⟩
    go_wp2
    all_goals (go_ret2; exact ⟨rfl, rfl⟩)
set_option maxHeartbeats 1000000 in
theorem rPlace_ok (n : Int) (x y : Nat) (h0 : 1 ≤ n) (h1 : n ≤ 16) (h : inSq n x y = true) (w : World) :
    Calls Try.prog 15 #[.int .i64 n, .float .f64 x, .float .f64 y] w fun e w' => e = .returned (.tuple #[.int .i64 (hpl n.toNat (tr x) (tr y) : Nat), .int .i64 0]) ∧ Below w.heap.size w w' := by
  obtain ⟨b1, b2, b3⟩ := lim_bd n h0 h1
  have C1 : ∀ W, Calls Try.prog 31 #[.float .f64 x, .int .i64 (2 ^ n.toNat)] W fun e w' => e = .returned (.int .i64 (if partB x (side n) = true then tr x else -1)) ∧ W = w' := fun W => whole_any x (2 ^ n.toNat) (by omega) b3 W
  have C2 : ∀ W, Calls Try.prog 31 #[.float .f64 y, .int .i64 (2 ^ n.toNat)] W fun e w' => e = .returned (.int .i64 (if partB y (side n) = true then tr y else -1)) ∧ W = w' := fun W => whole_any y (2 ^ n.toNat) (by omega) b3 W
  unfold inSq at h
  rw [Bool.and_eq_true] at h
  obtain ⟨c1, c2⟩ := h
  obtain ⟨_, x0, x1⟩ := part_int x (side n) (by unfold side; omega) (by unfold side; omega) c1
  obtain ⟨_, y0, y1⟩ := part_int y (side n) (by unfold side; omega) (by unfold side; omega) c2
  have C3 : ∀ W, Calls Try.prog 32 #[.int .i64 n, .agg #[.int .i64 (tr x), .int .i64 (tr y)]] W fun e w' => e = .returned (.int .i64 (hpl n.toNat (tr x) (tr y) : Nat)) ∧ Below W.heap.size W w' := by
    intro W
    have := place_any n.toNat (tr x) (tr y) W (by omega) x0 x1 y0 y1
    rw [show ((n.toNat : Nat) : Int) = n from by omega] at this
    exact this
  rw [c1] at C1
  rw [c2] at C2
  simp only [if_true] at C1 C2
  have D1 := Sd.mk C1; have D2 := Sd.mk C2; have D3 := Sd.mk C3
  clear C1 C2 C3 c1 c2 x1 y1
  generalize tr x = X at *
  generalize tr y = Y at *
  go_enter Try.func15, Try.ntmps15
  go_wp2_with fail
  refine (D1.out _).mono ?_
  rintro e w' ⟨rfl, rfl⟩
  go_wp2_with fail
  refine (D2.out _).mono ?_
  rintro e w' ⟨rfl, rfl⟩
  go_wp2_with (go_at_call 32; refine (D3.out _).mono ?_; rintro e w1 ⟨rfl, hb⟩)
  go_ret2
  exact ⟨rfl, ‹Below _ _ _›⟩

end Go.Proofs.Ytdhkhdfenalagaa
