/- The statements of the curve: Round and Steps: their walks. -/
import Derived.Test.YtdhkhdfenalagaaCurveL
namespace Go.Proofs.Ytdhkhdfenalagaa
open Go.RowKit Go.Proofs.Ytdhkhdfenalagaa.Fl Go.Proofs.Ytdhkhdfenalagaa.Hil

theorem eq_int {a b : Nat} {v : Int} (ha : IsInt a v) (hb : IsInt b v) : FloatKind.f64.format.order a b = some .eq := by
  have := order_int ha hb
  rw [show compare v v = Ordering.eq from by simp] at this
  exact this
theorem lim4 (n : Int) (h1 : n ≤ 16) : 4 ^ n.toNat ≤ 4294967296 := by
  have h2 : 4 ^ n.toNat ≤ 4 ^ 16 := Nat.pow_le_pow_right (by omega) (by omega)
  have e2 : (4 : Nat) ^ 16 = 4294967296 := rfl
  omega
theorem side_le (n : Int) (h0 : 1 ≤ n) (h1 : n ≤ 16) : side n ≤ 65536 ∧ 0 < side n := by
  obtain ⟨_, h2, h3⟩ := lim_bd n h0 h1
  exact ⟨h3, h2⟩
/-- a point's place gives the point -/
theorem plC_back (n : Int) (x y : Nat) : (plC n x y).2 ≠ 0 ∧ (plC n x y).1 = 0 ∨
    (plC n x y).2 = 0 ∧ ∃ X Y : Int, IsInt x X ∧ IsInt y Y ∧ 0 ≤ X ∧ X < 65536 ∧ 0 ≤ Y ∧ Y < 65536 ∧ atC n (plC n x y).1 = ((X, Y), 0) := by
  unfold plC
  split
  · exact .inl ⟨by simp, rfl⟩
  · rename_i hn
    split
    · rename_i h
      refine .inr ⟨rfl, tr x, tr y, ?_⟩
      unfold inSq at h
      rw [Bool.and_eq_true] at h
      obtain ⟨s1, s2⟩ := side_le n (by omega) (by omega)
      obtain ⟨ix, x0, x1⟩ := part_int x (side n) (by omega) (by omega) h.1
      obtain ⟨iy, y0, y1⟩ := part_int y (side n) (by omega) (by omega) h.2
      refine ⟨ix, iy, x0, by omega, y0, by omega, ?_⟩
      have hb := hpl_bd n.toNat (tr x) (tr y) x0 x1 y0 y1
      have hh := hat_hpl n.toNat (tr x) (tr y) x0 x1 y0 y1
      unfold atC
      rw [if_neg hn, if_neg (by simp only []; omega)]
      simp only [Int.toNat_natCast, hh]
    · exact .inl ⟨by simp, rfl⟩

set_option maxHeartbeats 1000000 in
set_option maxRecDepth 100000 in
theorem LawRound_any (n x y : Int) (w : World) :
    Calls Try.prog 7 #[.int .i64 n, .int .i64 x, .int .i64 y] w fun e w' => e = .returned (.bool true) ∧ Below w.heap.size w w' := by
  have C1 := Sd.mk (Place_any n (floatOfInt .f64 x) (floatOfInt .f64 y))
  have hback := plC_back n (floatOfInt .f64 x) (floatOfInt .f64 y)
  generalize plC n (floatOfInt .f64 x) (floatOfInt .f64 y) = t at *
  obtain ⟨p, c⟩ := t
  simp only at C1 hback
  rcases hback with ⟨h1, h2⟩ | ⟨h1, X, Y, ix, iy, x0, x1, y0, y1, ha⟩
  · subst h2
    go_enter Try.func7, Try.ntmps7
    go_wp2_with fail
    refine (C1.out _).mono ?_
    rintro e w1 ⟨rfl, rfl⟩
    go_wp2_with fail
    refine (awake13 _).mono ?_
    rintro e w1 ⟨rfl, hb⟩
    go_wp2
    go_ret
    exact ⟨rfl, hb⟩
  · subst h1
    have C2 := Sd.mk (At_any n p)
    rw [ha] at C2
    simp only at C2
    have e1 := eq_int (isInt_fl X (by omega)) ix
    have e2 := eq_int (isInt_fl Y (by omega)) iy
    clear ix iy ha
    go_enter Try.func7, Try.ntmps7
    go_wp2_with fail
    refine (C1.out _).mono ?_
    rintro e w1 ⟨rfl, rfl⟩
    go_wp2_with fail
    refine (C2.out _).mono ?_
    rintro e w1 ⟨rfl, hb1⟩
    go_wp2_with fail
    refine (awake13 _).mono ?_
    rintro e w2 ⟨rfl, hb2⟩
    go_wp2
    go_ret
    exact ⟨rfl, hb1.trans (hb2.mono hb1.size)⟩

end Go.Proofs.Ytdhkhdfenalagaa
