/- What Place of package curve gives back: the place of a point, or that it is none. -/
import Derived.Test.YtdhkhdfenalagaaCurveS
namespace Go.Proofs.Ytdhkhdfenalagaa
open Go.RowKit Go.Proofs.Ytdhkhdfenalagaa.Fl Go.Proofs.Ytdhkhdfenalagaa.Hil

set_option maxHeartbeats 1000000 in
theorem Place_order (n : Int) (x y : Nat) (h : n < 1 ∨ 16 < n) (w : World) :
    Calls Try.prog 14 #[.int .i64 n, .complex .f64 x y] w fun e w' => e = .returned (.tuple #[.int .i64 0, .int .i64 130]) ∧ w = w' := by
  go_enter Try.func14, Try.ntmps14
  go_wp2_with (go_at_call 26; refine (order_bad n h _).mono ?_; rintro e w' ⟨rfl, rfl⟩)
  go_ret2
  exact ⟨rfl, rfl⟩
set_option maxHeartbeats 1000000 in
theorem Place_point (n : Int) (x y : Nat) (h0 : 1 ≤ n) (h1 : n ≤ 16) (h : inSq n x y = false) (w : World) :
    Calls Try.prog 14 #[.int .i64 n, .complex .f64 x y] w fun e w' => e = .returned (.tuple #[.int .i64 0, .int .i64 131]) ∧ w = w' := by
  obtain ⟨b1, b2, b3⟩ := lim_bd n h0 h1
  have C1 : ∀ W, Calls Try.prog 30 #[.float .f64 x, .int .i64 (2 ^ n.toNat)] W fun e w' => e = .returned (.bool (partB x (side n))) ∧ W = w' := fun W => part_any x (2 ^ n.toNat) (by omega) b3 W
  have C2 : ∀ W, Calls Try.prog 30 #[.float .f64 y, .int .i64 (2 ^ n.toNat)] W fun e w' => e = .returned (.bool (partB y (side n))) ∧ W = w' := fun W => part_any y (2 ^ n.toNat) (by omega) b3 W
  unfold inSq at h
  cases c1 : partB x (side n) with
  | false =>
    rw [c1] at C1
    have D1 := Sd.mk C1
    clear C1 C2 h c1
    go_enter Try.func14, Try.ntmps14
    go_wp2_with (go_at_call 26; refine (order_ok n h0 h1 _).mono ?_; rintro e w' ⟨rfl, rfl⟩)
    refine (D1.out _).mono ?_
    rintro e w' ⟨rfl, rfl⟩
    go_wp2
    go_ret2
    exact ⟨rfl, rfl⟩
  | true =>
    rw [c1, Bool.true_and] at h
    rw [c1] at C1
    rw [h] at C2
    have D1 := Sd.mk C1; have D2 := Sd.mk C2
    clear C1 C2 h c1
    go_enter Try.func14, Try.ntmps14
    go_wp2_with (go_at_call 26; refine (order_ok n h0 h1 _).mono ?_; rintro e w' ⟨rfl, rfl⟩)
    refine (D1.out _).mono ?_
    rintro e w' ⟨rfl, rfl⟩
    go_wp2_with fail
    refine (D2.out _).mono ?_
    rintro e w' ⟨rfl, rfl⟩
    go_wp2
    go_ret2
    exact ⟨rfl, rfl⟩

theorem geB {x : Nat} {X H : Int} (hx : IsInt x X) (hH : H.natAbs < 9007199254740992) : (FloatKind.f64.format.order x (floatOfInt .f64 H) == some .gt || FloatKind.f64.format.order x (floatOfInt .f64 H) == some .eq) = decide (H ≤ X) := by
  rw [floatOfInt_fl H hH]
  have : FloatKind.f64.format.order x (fl H) = some (compare X H) := order_int hx (isInt_fl H hH)
  rw [this]
  rcases Int.lt_trichotomy X H with c | c | c
  · have e : compare X H = .lt := by simp [compare, compareOfLessAndEq, c]
    rw [e, decide_eq_false (by omega)]; rfl
  · have e : compare X H = .eq := by subst c; simp [compare, compareOfLessAndEq]
    rw [e, decide_eq_true (by omega)]; rfl
  · have c2 : ¬ X < H := by omega
    have c3 : ¬ X = H := by omega
    have e : compare X H = .gt := by simp [compare, compareOfLessAndEq, c2, c3]
    rw [e, decide_eq_true (by omega)]; rfl
theorem fl2 : fl 2 = 4611686018427387904 := by decide
theorem fl1 : fl 1 = 4607182418800017408 := by decide
theorem fl0 : fl 0 = 0 := rfl

/-- the difference of two points that are whole -/
theorem csub {x y a b : Nat} {X Y A B : Int} (hx : IsInt x X) (hy : IsInt y Y) (ha : IsInt a A) (hb : IsInt b B) (h1 : (X - A).natAbs < 9007199254740992) (h2 : (Y - B).natAbs < 9007199254740992) :
    ∃ re im, IsInt re (X - A) ∧ IsInt im (Y - B) ∧ ∀ (t : TypeId) (w : World), (binOp .sub t (.complex .f64 x y) (.complex .f64 a b)).run Try.prog w = .ok (.complex .f64 re im) w := by
  obtain ⟨re, e1, i1⟩ := sub_int hx ha h1
  obtain ⟨im, e2, i2⟩ := sub_int hy hb h2
  refine ⟨re, im, i1, i2, fun t w => run_complex_sum w .sub (.inr rfl) t .f64 x y a b re im ?_⟩
  have g1 : floatBits .sub .f64 x a = some re := e1
  have g2 : floatBits .sub .f64 y b = some im := e2
  unfold cSumBits
  rw [g1]
  simp only [Option.bind_some]
  rw [g2]
  rfl

/-- the quarter of a point, and the point within it -/
def qx (k : Nat) (X Y : Int) : Int := if X < 2 ^ k then (if Y < 2 ^ k then Y else X) else (if 2 ^ k ≤ Y then X - 2 ^ k else 2 ^ k - 1 - Y)
def qy (k : Nat) (X Y : Int) : Int := if X < 2 ^ k then (if Y < 2 ^ k then X else Y - 2 ^ k) else (if 2 ^ k ≤ Y then Y - 2 ^ k else 2 * 2 ^ k - 1 - X)
def qn (k : Nat) (X Y : Int) : Nat := if X < 2 ^ k then (if Y < 2 ^ k then 0 else 1) else (if 2 ^ k ≤ Y then 2 else 3)
theorem q_hpl (k : Nat) (X Y : Int) : hpl (k + 1) X Y = qn k X Y * 4 ^ k + hpl k (qx k X Y) (qy k X Y) := by
  unfold qx qy qn
  simp only [hpl]
  split
  · split <;> simp
  · split <;> simp
theorem q_bd (k : Nat) (X Y : Int) (h1 : 0 ≤ X) (h2 : X < 2 ^ (k + 1)) (h3 : 0 ≤ Y) (h4 : Y < 2 ^ (k + 1)) : 0 ≤ qx k X Y ∧ qx k X Y < 2 ^ k ∧ 0 ≤ qy k X Y ∧ qy k X Y < 2 ^ k := by
  rw [pow2_succ] at h2 h4
  unfold qx qy
  split
  · split <;> omega
  · split <;> omega

/-- what holds of the loop's slots: m halvings are to come -/
def PlaceRel (F : Nat) (m : Nat) (z pl sd : Value) : Prop := ∃ (x y : Nat) (X Y : Int) (P : Nat), z = .complex .f64 x y ∧ pl = .int .i64 P ∧ sd = .int .i64 (2 ^ m / 2) ∧ IsInt x X ∧ IsInt y Y ∧ 0 ≤ X ∧ X < 2 ^ m ∧ 0 ≤ Y ∧ Y < 2 ^ m ∧ P * 4 ^ m + hpl m X Y = F

set_option maxHeartbeats 2000000 in
theorem Place_ok (n : Int) (x y : Nat) (h0 : 1 ≤ n) (h1 : n ≤ 16) (h : inSq n x y = true) (w : World) :
    Calls Try.prog 14 #[.int .i64 n, .complex .f64 x y] w fun e w' => e = .returned (.tuple #[.int .i64 (hpl n.toNat (tr x) (tr y) : Nat), .int .i64 0]) ∧ w = w' := by
  obtain ⟨b1, b2, b3⟩ := lim_bd n h0 h1
  have C1 : ∀ W, Calls Try.prog 30 #[.float .f64 x, .int .i64 (2 ^ n.toNat)] W fun e w' => e = .returned (.bool (partB x (side n))) ∧ W = w' := fun W => part_any x (2 ^ n.toNat) (by omega) b3 W
  have C2 : ∀ W, Calls Try.prog 30 #[.float .f64 y, .int .i64 (2 ^ n.toNat)] W fun e w' => e = .returned (.bool (partB y (side n))) ∧ W = w' := fun W => part_any y (2 ^ n.toNat) (by omega) b3 W
  unfold inSq at h
  rw [Bool.and_eq_true] at h
  obtain ⟨c1, c2⟩ := h
  obtain ⟨ix, x0, x1⟩ := part_int x (side n) (by unfold side; omega) (by unfold side; omega) c1
  obtain ⟨iy, y0, y1⟩ := part_int y (side n) (by unfold side; omega) (by unfold side; omega) c2
  have hF : Sd (hpl n.toNat (tr x) (tr y) < 4294967296) := ⟨by
    have a1 := hpl_bd n.toNat (tr x) (tr y) x0 x1 y0 y1
    have a2 : 4 ^ n.toNat ≤ 4 ^ 16 := Nat.pow_le_pow_right (by omega) (by omega)
    have a3 : (4 : Nat) ^ 16 = 4294967296 := rfl
    omega⟩
  have hs0 : wrap64 ((2 : Int) ^ (n.toNat - 1)) = 2 ^ n.toNat / 2 := by
    have e : (2 : Int) ^ n.toNat = 2 * 2 ^ (n.toNat - 1) := by rw [← pow2_succ]; congr 1; omega
    rw [e] at b2 b3 ⊢
    generalize (2 : Int) ^ (n.toNat - 1) = t at *
    unfold wrap64; omega
  have hR : Sd (PlaceRel (hpl n.toNat (tr x) (tr y)) n.toNat (.complex .f64 x y) (.int .i64 0) (.int .i64 (2 ^ n.toNat / 2))) := ⟨⟨x, y, tr x, tr y, 0, rfl, rfl, rfl, ix, iy, x0, x1, y0, y1, by simp⟩⟩
  generalize hpl n.toNat (tr x) (tr y) = F at *
  rw [c1] at C1
  rw [c2] at C2
  have D1 := Sd.mk C1; have D2 := Sd.mk C2
  have HS := Sd.mk hs0
  clear C1 C2 c1 c2 x1 y1 x0 y0 ix iy hs0
  go_enter Try.func14, Try.ntmps14
  go_wp2_with (go_at_call 26; refine (order_ok n h0 h1 _).mono ?_; rintro e w' ⟨rfl, rfl⟩)
  refine (D1.out _).mono ?_
  rintro e w' ⟨rfl, rfl⟩
  go_wp2_with fail
  refine (D2.out _).mono ?_
  rintro e w' ⟨rfl, rfl⟩
  go_wp2
  clear b1 b2 b3 D1 D2
  go_loop [1, 7, 8] (fun z pl sd => ∃ m : Nat, m ≤ 16 ∧ PlaceRel F m z pl sd) (fun _ _ sd => (intOf sd).toNat)
  case atStart => exact ⟨n.toNat, by omega, by rw [HS.out]; exact hR.out⟩
  case round =>
    obtain ⟨m, hm, x, y, X, Y, P, rfl, rfl, rfl, ix, iy, x0, x1, y0, y1, hP⟩ := hrel
    cases m with
    | zero =>
      have e : F = P := by simp [hpl] at hP; omega
      have E := Sd.mk e
      have e0 : (2 : Int) ^ 0 / 2 = 0 := by decide
      rw [e0]
      clear e e0 hP x0 x1 y0 y1 ix iy
      go_wp2
      go_ret2
      exact ⟨ret_two (by rw [E.out]) rfl, rfl⟩
    | succ k =>
      have hpow : (2 : Int) ^ k ≤ 32768 := (pow_facts k (by omega)).1
      have hpos := pow2_pos k
      have h4 := pow4_pos k
      have e0 : (2 : Int) ^ (k + 1) / 2 = 2 ^ k := by rw [pow2_succ]; generalize (2 : Int) ^ k = t; omega
      rw [e0]
      have hnext : Sd (∀ x' y' : Nat, IsInt x' (qx k X Y) → IsInt y' (qy k X Y) → PlaceRel F k (.complex .f64 x' y') (.int .i64 ((P * 4 + qn k X Y : Nat) : Int)) (.int .i64 (2 ^ k / 2))) := ⟨fun x' y' hx' hy' => by
        have bd := q_bd k X Y x0 x1 y0 y1
        refine ⟨x', y', _, _, _, rfl, rfl, rfl, hx', hy', bd.1, bd.2.1, bd.2.2.1, bd.2.2.2, ?_⟩
        rw [q_hpl, pow4_succ] at hP
        rw [← hP, Nat.add_mul, Nat.mul_assoc, Nat.add_assoc]⟩
      have hPb : (P : Int) * 4 ≤ 4294967296 := by
        have : P * 4 * 1 ≤ P * 4 * 4 ^ k := Nat.mul_le_mul_left _ h4
        rw [pow4_succ] at hP
        have hF := hF.out
        have e : P * (4 * 4 ^ k) = P * 4 * 4 ^ k := by rw [Nat.mul_assoc]
        omega
      have hQ := Sd.mk (q_bd k X Y x0 x1 y0 y1)
      have hGx := geB (H := 2 ^ k) ix (by omega)
      have hGy := geB (H := 2 ^ k) iy (by omega)
      clear hP h4 e0
      by_cases c1 : X < 2 ^ k
      · rw [decide_eq_false (by omega)] at hGx
        by_cases c2 : Y < 2 ^ k
        · rw [decide_eq_false (by omega)] at hGy
          have HN : Sd (PlaceRel F k (.complex .f64 y x) (.int .i64 (P * 4)) (.int .i64 (2 ^ k / 2))) := ⟨by
            have g := hnext.out y x (by unfold qx; rw [if_pos c1, if_pos c2]; exact iy) (by unfold qy; rw [if_pos c1, if_pos c2]; exact ix)
            rw [show qn k X Y = 0 from by unfold qn; rw [if_pos c1, if_pos c2]] at g
            rw [show ((P : Int) * 4) = ((P * 4 + 0 : Nat) : Int) from by push_cast; omega]; exact g⟩
          clear hnext hQ x0 x1 y0 y1 c1 c2 ix iy
          go_wp2_with (go_at_call 28; refine (flip_any _ _ _).mono ?_; rintro e w' ⟨rfl, rfl⟩)
          go_round
          case rel => exact ⟨k, by omega, HN.out⟩
          case measure => simp [intOf]; generalize (2 : Int) ^ k = t at *; omega
        · rw [decide_eq_true (by omega)] at hGy
          obtain ⟨re, im, i1, i2, hs⟩ := csub ix iy isInt0 (isInt_fl (2 ^ k) (by omega)) (by rw [pow2_succ] at x1; omega) (by rw [pow2_succ] at y1; omega)
          rw [Int.sub_zero] at i1
          have hs' : ∀ (t : TypeId) (w : World), (binOp .sub t (.complex .f64 x y) (.complex .f64 0 (floatOfInt .f64 (2 ^ k)))).run Try.prog w = .ok (.complex .f64 re im) w := by rw [floatOfInt_fl _ (by omega)]; exact hs
          have HN : Sd (PlaceRel F k (.complex .f64 re im) (.int .i64 (4 * P + 1)) (.int .i64 (2 ^ k / 2))) := ⟨by
            have g := hnext.out re im (by unfold qx; rw [if_pos c1, if_neg c2]; exact i1) (by unfold qy; rw [if_pos c1, if_neg c2]; exact i2)
            rw [show qn k X Y = 1 from by unfold qn; rw [if_pos c1, if_neg c2]] at g
            rw [show (4 * (P : Int) + 1) = ((P * 4 + 1 : Nat) : Int) from by push_cast; omega]; exact g⟩
          clear hnext hQ x0 x1 y0 y1 c1 c2 ix iy i1 i2 hs
          go_wp2_with (go_at_call 28; refine (flip_any _ _ _).mono ?_; rintro e w' ⟨rfl, rfl⟩)
          go_round
          case rel => exact ⟨k, by omega, HN.out⟩
          case measure => simp [intOf]; generalize (2 : Int) ^ k = t at *; omega
      · rw [decide_eq_true (by omega)] at hGx
        by_cases c2 : 2 ^ k ≤ Y
        · rw [decide_eq_true c2] at hGy
          obtain ⟨re, im, i1, i2, hs⟩ := csub ix iy (isInt_fl (2 ^ k) (by omega)) (isInt_fl (2 ^ k) (by omega)) (by rw [pow2_succ] at x1; omega) (by rw [pow2_succ] at y1; omega)
          have hs' : ∀ (t : TypeId) (w : World), (binOp .sub t (.complex .f64 x y) (.complex .f64 (floatOfInt .f64 (2 ^ k)) (floatOfInt .f64 (2 ^ k)))).run Try.prog w = .ok (.complex .f64 re im) w := by rw [floatOfInt_fl _ (by omega)]; exact hs
          have HN : Sd (PlaceRel F k (.complex .f64 re im) (.int .i64 (4 * P + 2)) (.int .i64 (2 ^ k / 2))) := ⟨by
            have g := hnext.out re im (by unfold qx; rw [if_neg c1, if_pos c2]; exact i1) (by unfold qy; rw [if_neg c1, if_pos c2]; exact i2)
            rw [show qn k X Y = 2 from by unfold qn; rw [if_neg c1, if_pos c2]] at g
            rw [show (4 * (P : Int) + 2) = ((P * 4 + 2 : Nat) : Int) from by push_cast; omega]; exact g⟩
          clear hnext hQ x0 x1 y0 y1 c1 c2 ix iy i1 i2 hs
          go_wp2_with (go_at_call 28; refine (flip_any _ _ _).mono ?_; rintro e w' ⟨rfl, rfl⟩)
          go_round
          case rel => exact ⟨k, by omega, HN.out⟩
          case measure => simp [intOf]; generalize (2 : Int) ^ k = t at *; omega
        · rw [decide_eq_false c2] at hGy
          obtain ⟨re, im, i1, i2, hs⟩ := csub (isInt_fl (2 * 2 ^ k - 1) (by omega)) (isInt_fl (2 ^ k - 1) (by omega)) ix iy (by rw [pow2_succ] at x1; omega) (by rw [pow2_succ] at y1; omega)
          have hm1 : ∀ (t : TypeId) (w : World), (binOp .mul t (.float .f64 4611686018427387904) (.float .f64 (floatOfInt .f64 (2 ^ k)))).run Try.prog w = .ok (.float .f64 (fl (2 * 2 ^ k))) w := fun t w =>
            run_float_arith w .mul t .f64 _ _ _ (by rw [floatOfInt_fl _ (by omega), ← fl2]; exact mul_fl 2 (2 ^ k) (by omega) (by omega) (by omega) (by omega) (by omega))
          have hm2 : ∀ (t : TypeId) (w : World), (binOp .sub t (.float .f64 (fl (2 * 2 ^ k))) (.float .f64 4607182418800017408)).run Try.prog w = .ok (.float .f64 (fl (2 * 2 ^ k - 1))) w := fun t w =>
            run_float_arith w .sub t .f64 _ _ _ (by rw [← fl1]; exact sub_fl (2 * 2 ^ k) 1 (by omega) (by omega) (by omega) (by omega))
          have hm3 : ∀ (t : TypeId) (w : World), (binOp .sub t (.float .f64 (floatOfInt .f64 (2 ^ k))) (.float .f64 4607182418800017408)).run Try.prog w = .ok (.float .f64 (fl (2 ^ k - 1))) w := fun t w =>
            run_float_arith w .sub t .f64 _ _ _ (by rw [floatOfInt_fl _ (by omega), ← fl1]; exact sub_fl (2 ^ k) 1 (by omega) (by omega) (by omega) (by omega))
          have HN : Sd (PlaceRel F k (.complex .f64 im re) (.int .i64 (4 * P + 3)) (.int .i64 (2 ^ k / 2))) := ⟨by
            have g := hnext.out im re (by unfold qx; rw [if_neg c1, if_neg c2]; exact i2) (by unfold qy; rw [if_neg c1, if_neg c2]; exact i1)
            rw [show qn k X Y = 3 from by unfold qn; rw [if_neg c1, if_neg c2]] at g
            rw [show (4 * (P : Int) + 3) = ((P * 4 + 3 : Nat) : Int) from by push_cast; omega]; exact g⟩
          clear hnext hQ x0 x1 y0 y1 c1 c2 ix iy i1 i2
          go_wp2_with (go_at_call 28; refine (flip_any _ _ _).mono ?_; rintro e w' ⟨rfl, rfl⟩)
          go_round
          case rel => exact ⟨k, by omega, HN.out⟩
          case measure => simp [intOf]; generalize (2 : Int) ^ k = t at *; omega

end Go.Proofs.Ytdhkhdfenalagaa
