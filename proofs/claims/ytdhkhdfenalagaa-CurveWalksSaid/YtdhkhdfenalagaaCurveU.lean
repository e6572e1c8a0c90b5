/- At, Place and their twins of the reference at any numbers; the document's examples. -/
import Derived.Test.YtdhkhdfenalagaaCurveV
namespace Go.Proofs.Ytdhkhdfenalagaa
open Go.RowKit Go.Proofs.Ytdhkhdfenalagaa.Fl Go.Proofs.Ytdhkhdfenalagaa.Hil

/-- the point of a place, and the word -/
def atC (n p : Int) : (Int × Int) × Int :=
  if n < 1 ∨ 16 < n then ((0, 0), 130) else if p < 0 ∨ ((4 ^ n.toNat : Nat) : Int) ≤ p then ((0, 0), 131) else (hat n.toNat p.toNat, 0)
theorem At_any (n p : Int) (w : World) :
    Calls Try.prog 10 #[.int .i64 n, .int .i64 p] w fun e w' => e = .returned (.tuple #[.complex .f64 (fl (atC n p).1.1) (fl (atC n p).1.2), .int .i64 (atC n p).2]) ∧ Below w.heap.size w w' := by
  unfold atC
  split
  · exact At_order n p (by assumption) w
  · split
    · exact At_point n p (by omega) (by omega) (by assumption) w
    · have := At_ok n.toNat p.toNat (by omega) (by omega) (by omega) w
      rw [show ((n.toNat : Nat) : Int) = n from by omega, show ((p.toNat : Nat) : Int) = p from by omega] at this
      exact this
theorem rAt_any (n p : Int) (w : World) :
    Calls Try.prog 11 #[.int .i64 n, .int .i64 p] w fun e w' => e = .returned (.tuple #[ptV (atC n p).1, .int .i64 (atC n p).2]) ∧ Below w.heap.size w w' := by
  unfold atC
  split
  · exact rAt_order n p (by assumption) w
  · split
    · exact rAt_point n p (by omega) (by omega) (by assumption) w
    · exact rAt_ok n p (by omega) (by omega) (by omega) (by omega) w
/-- the place of two numbers, and the word -/
def plC (n : Int) (x y : Nat) : Int × Int :=
  if n < 1 ∨ 16 < n then (0, 130) else if inSq n x y = true then ((hpl n.toNat (tr x) (tr y) : Nat), 0) else (0, 131)
theorem Place_any (n : Int) (x y : Nat) (w : World) :
    Calls Try.prog 14 #[.int .i64 n, .complex .f64 x y] w fun e w' => e = .returned (.tuple #[.int .i64 (plC n x y).1, .int .i64 (plC n x y).2]) ∧ w = w' := by
  unfold plC
  split
  · exact Place_order n x y (by assumption) w
  · split
    · exact Place_ok n x y (by omega) (by omega) (by assumption) w
    · exact Place_point n x y (by omega) (by omega) (by simpa using (by assumption : ¬ inSq n x y = true)) w
theorem rPlace_any (n : Int) (x y : Nat) (w : World) :
    Calls Try.prog 15 #[.int .i64 n, .float .f64 x, .float .f64 y] w fun e w' => e = .returned (.tuple #[.int .i64 (plC n x y).1, .int .i64 (plC n x y).2]) ∧ Below w.heap.size w w' := by
  unfold plC
  split
  · exact (rPlace_order n x y (by assumption) w).mono (by rintro e w' ⟨rfl, rfl⟩; exact ⟨rfl, Below.refl _ _⟩)
  · split
    · exact rPlace_ok n x y (by omega) (by omega) (by assumption) w
    · exact (rPlace_point n x y (by omega) (by omega) (by simpa using (by assumption : ¬ inSq n x y = true)) w).mono (by rintro e w' ⟨rfl, rfl⟩; exact ⟨rfl, Below.refl _ _⟩)

theorem at13 (w : World) : Calls Try.prog 10 #[.int .i64 1, .int .i64 3] w fun e w' => e = .returned (.tuple #[.complex .f64 4607182418800017408 0, .int .i64 0]) ∧ Below w.heap.size w w' := by
  have := At_any 1 3 w
  rw [show atC 1 3 = ((1, 0), 0) from by decide] at this
  exact this
theorem at215 (w : World) : Calls Try.prog 10 #[.int .i64 2, .int .i64 15] w fun e w' => e = .returned (.tuple #[.complex .f64 4613937818241073152 0, .int .i64 0]) ∧ Below w.heap.size w w' := by
  have := At_any 2 15 w
  rw [show atC 2 15 = ((3, 0), 0) from by decide] at this
  exact this
theorem pl2 (w : World) : Calls Try.prog 14 #[.int .i64 2, .complex .f64 0 4611686018427387904] w fun e w' => e = .returned (.tuple #[.int .i64 4, .int .i64 0]) ∧ w = w' := by
  have := Place_any 2 0 4611686018427387904 w
  have h1 := part_of_int (f := 0) (X := 0) (L := 4) isInt0 (by omega) (by omega) (by omega)
  have h2 := part_of_int (f := 4611686018427387904) (X := 2) (L := 4) (fl2 ▸ isInt_fl 2 (by omega)) (by omega) (by omega) (by omega)
  rw [show plC 2 0 4611686018427387904 = (4, 0) from by
    unfold plC inSq side
    rw [if_neg (by omega), show ((2 : Int) ^ (2 : Int).toNat) = 4 from rfl, h1.1, h2.1, h1.2, h2.2]; decide] at this
  exact this
theorem plh (w : World) : Calls Try.prog 14 #[.int .i64 2, .complex .f64 4602678819172646912 0] w fun e w' => e = .returned (.tuple #[.int .i64 0, .int .i64 131]) ∧ w = w' := by
  have := Place_any 2 4602678819172646912 0 w
  have h1 : ¬ partB 4602678819172646912 4 = true := by decide
  rw [show plC 2 4602678819172646912 0 = (0, 131) from by
    unfold plC inSq side
    rw [if_neg (by omega), show ((2 : Int) ^ (2 : Int).toNat) = 4 from rfl, if_neg (by simp [h1])]] at this
  exact this

end Go.Proofs.Ytdhkhdfenalagaa
