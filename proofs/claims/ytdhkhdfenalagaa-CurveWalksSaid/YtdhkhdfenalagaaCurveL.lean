/- The statements of the curve: At, Place, Steps, Round: each law's walk. -/
import Derived.Test.YtdhkhdfenalagaaCurveW
namespace Go.Proofs.Ytdhkhdfenalagaa
open Go.RowKit Go.Proofs.Ytdhkhdfenalagaa.Fl Go.Proofs.Ytdhkhdfenalagaa.Hil

theorem pow16 (k : Nat) (h : k ≤ 16) : (2 : Int) ^ k ≤ 65536 := by
  have h2 : 2 ^ k ≤ 2 ^ 16 := Nat.pow_le_pow_right (by omega) h
  have e2 : (2 : Nat) ^ 16 = 65536 := rfl
  have e : ((2 : Int) ^ k) = ((2 ^ k : Nat) : Int) := by simp
  rw [e]; omega
theorem atC_bd (n p : Int) : 0 ≤ (atC n p).1.1 ∧ (atC n p).1.1 < 65536 ∧ 0 ≤ (atC n p).1.2 ∧ (atC n p).1.2 < 65536 := by
  unfold atC
  split
  · simp
  · split
    · simp
    · have h := hat_bd n.toNat p.toNat (by omega)
      have h2 := pow16 n.toNat (by omega)
      simp only
      omega
theorem fl_same (x : Int) (h : x.natAbs < 9007199254740992) : FloatKind.f64.format.order (fl x) (fl x) = some .eq := by
  have := order_int (isInt_fl x h) (isInt_fl x h)
  rw [show compare x x = Ordering.eq from by simp] at this
  exact this

set_option maxHeartbeats 1000000 in
set_option maxRecDepth 100000 in
theorem LawAt_any (n p : Int) (w : World) :
    Calls Try.prog 3 #[.int .i64 n, .int .i64 p] w fun e w' => e = .returned (.bool true) ∧ Below w.heap.size w w' := by
  have C1 := Sd.mk (At_any n p)
  have C2 := Sd.mk (rAt_any n p)
  have bd := atC_bd n p
  generalize atC n p = t at *
  obtain ⟨⟨x, y⟩, c⟩ := t
  simp only [ptV] at *
  have hx := fl_same x (by omega)
  have hy := fl_same y (by omega)
  have C3 := Sd.mk (number_any x y (by omega) (by omega))
  clear bd
  go_enter Try.func3, Try.ntmps3
  go_wp2_with fail
  refine (C1.out _).mono ?_
  rintro e w1 ⟨rfl, hb1⟩
  go_wp2_with fail
  refine (C2.out _).mono ?_
  rintro e w2 ⟨rfl, hb2⟩
  go_wp2_with fail
  refine (awake13 _).mono ?_
  rintro e w3 ⟨rfl, hb3⟩
  obtain ⟨hc, hf⟩ := bcell hb3
  have hs3 := hb3.size
  have hbel : Below w.heap.size w w3 := (hb1.trans (hb2.mono hb1.size)).trans (((Below.refl _ _).alloc (by have := hb1.size; have := hb2.size; omega) _).trans (hb3.mono (by have := hb1.size; have := hb2.size; simp; omega)))
  go_wp2_with fail
  refine (C3.out _).mono ?_
  rintro e w4 ⟨rfl, hb4⟩
  go_wp2
  go_ret
  exact ⟨rfl, hbel.trans (hb4.mono hbel.size)⟩

set_option maxHeartbeats 1000000 in
set_option maxRecDepth 100000 in
theorem LawPlaces_any (n : Int) (x y : Nat) (w : World) :
    Calls Try.prog 4 #[.int .i64 n, .float .f64 x, .float .f64 y] w fun e w' => e = .returned (.bool true) ∧ Below w.heap.size w w' := by
  have C1 := Sd.mk (Place_any n x y)
  have C2 := Sd.mk (rPlace_any n x y)
  generalize plC n x y = t at *
  obtain ⟨p, c⟩ := t
  simp only at C1 C2
  go_enter Try.func4, Try.ntmps4
  go_wp2_with fail
  refine (C1.out _).mono ?_
  rintro e w1 ⟨rfl, rfl⟩
  go_wp2_with fail
  refine (C2.out _).mono ?_
  rintro e w2 ⟨rfl, hb2⟩
  go_wp2_with fail
  refine (awake13 _).mono ?_
  rintro e w3 ⟨rfl, hb3⟩
  go_wp2
  go_ret
  exact ⟨rfl, hb2.trans (hb3.mono hb2.size)⟩

theorem tmod4 (q : Int) : q.tmod 4 = if 0 ≤ q then q % 4 else -((-q) % 4) := by
  split
  · exact Int.tmod_eq_emod_of_nonneg (by omega)
  · have := Int.tmod_eq_emod_of_nonneg (a := -q) (b := 4) (by omega)
    rw [Int.neg_tmod] at this
    omega
theorem same_self (a : Nat) (w : World) : Calls Try.prog 17 #[.float .f64 a, .float .f64 a] w fun e w' => e = .returned (.bool true) ∧ w = w' := by
  rcases order_self a with h | h
  · have h' : FloatKind.f64.format.order a a = some .eq := h
    clear h
    go_enter Try.func17, Try.ntmps17
    go_wp2
    go_ret
    exact ⟨rfl, rfl⟩
  · have h' : FloatKind.f64.format.order a a = none := h
    clear h
    go_enter Try.func17, Try.ntmps17
    go_wp2
    go_ret
    exact ⟨rfl, rfl⟩
set_option maxHeartbeats 1000000 in
set_option maxRecDepth 100000 in
theorem LawTurns_any (a b : Nat) (q : Int) (w : World) :
    Calls Try.prog 5 #[.float .f64 a, .float .f64 b, .int .i64 q] w fun e w' => e = .returned (.bool true) ∧ Below w.heap.size w w' := by
  obtain ⟨m, hm⟩ : ∃ m : Nat, (m : Int) = q % 4 := ⟨(q % 4).toNat, by omega⟩
  have C1 := Sd.mk (Turn_m a b q m hm)
  have C2 := Sd.mk (same_self (rot (a, b) m).1)
  have C3 := Sd.mk (same_self (rot (a, b) m).2)
  have hneg := run_neg
  by_cases h : q.tmod 4 < 0
  · have e : q.tmod 4 + 4 = m := by have := tmod4 q; split at this <;> omega
    have hm4 : m < 4 := by omega
    clear hm
    go_enter Try.func5, Try.ntmps5
    go_wp2_with fail
    go_loop [8, 9, 10] (fun x y i => ∃ k : Nat, k ≤ m ∧ i = .int .i64 k ∧ x = .float .f64 (rot (a, b) k).1 ∧ y = .float .f64 (rot (a, b) k).2) (fun _ _ i => 4 - (intOf i).toNat)
    case atStart => exact ⟨0, by omega, rfl, rfl, rfl⟩
    case round =>
      obtain ⟨k, hk, rfl, rfl, rfl⟩ := hrel
      by_cases hlt : k < m
      · go_wp2_with fail
        go_round
        case rel => exact ⟨k + 1, by omega, by go_num, rfl, rfl⟩
        case measure => simp [intOf]; omega
      · have e : k = m := by omega
        subst e
        go_wp2_with fail
        refine (C1.out _).mono ?_
        rintro e w1 ⟨rfl, rfl⟩
        go_wp2_with fail
        refine (awake13 _).mono ?_
        rintro e w1 ⟨rfl, hb⟩
        go_wp2_with fail
        refine (C2.out _).mono ?_
        rintro e w2 ⟨rfl, rfl⟩
        go_wp2_with fail
        refine (C3.out _).mono ?_
        rintro e w2 ⟨rfl, rfl⟩
        go_wp2
        go_ret
        exact ⟨rfl, hb⟩
  · have e : q.tmod 4 = m := by have := tmod4 q; split at this <;> omega
    have hm4 : m < 4 := by omega
    clear hm
    go_enter Try.func5, Try.ntmps5
    go_wp2_with fail
    go_loop [8, 9, 10] (fun x y i => ∃ k : Nat, k ≤ m ∧ i = .int .i64 k ∧ x = .float .f64 (rot (a, b) k).1 ∧ y = .float .f64 (rot (a, b) k).2) (fun _ _ i => 4 - (intOf i).toNat)
    case atStart => exact ⟨0, by omega, rfl, rfl, rfl⟩
    case round =>
      obtain ⟨k, hk, rfl, rfl, rfl⟩ := hrel
      by_cases hlt : k < m
      · go_wp2_with fail
        go_round
        case rel => exact ⟨k + 1, by omega, by go_num, rfl, rfl⟩
        case measure => simp [intOf]; omega
      · have e : k = m := by omega
        subst e
        go_wp2_with fail
        refine (C1.out _).mono ?_
        rintro e w1 ⟨rfl, rfl⟩
        go_wp2_with fail
        refine (awake13 _).mono ?_
        rintro e w1 ⟨rfl, hb⟩
        go_wp2_with fail
        refine (C2.out _).mono ?_
        rintro e w2 ⟨rfl, rfl⟩
        go_wp2_with fail
        refine (C3.out _).mono ?_
        rintro e w2 ⟨rfl, rfl⟩
        go_wp2
        go_ret
        exact ⟨rfl, hb⟩

end Go.Proofs.Ytdhkhdfenalagaa
