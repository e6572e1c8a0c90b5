/- The document's examples hold. -/
import Derived.Test.YtdhkhdfenalagaaCurveU
namespace Go.Proofs.Ytdhkhdfenalagaa
open Go.RowKit Go.Proofs.Ytdhkhdfenalagaa.Fl Go.Proofs.Ytdhkhdfenalagaa.Hil

theorem turn1 (w : World) : Calls Try.prog 16 #[.complex .f64 4611686018427387904 4607182418800017408, .int .i64 1] w fun e w' => e = .returned (.complex .f64 13830554455654793216 4611686018427387904) ∧ w = w' := by
  have := Turn_m 4611686018427387904 4607182418800017408 1 1 (by omega) w
  rw [show rot (4611686018427387904, 4607182418800017408) 1 = (13830554455654793216, 4611686018427387904) from by decide] at this
  exact this
theorem turn3 (w : World) : Calls Try.prog 16 #[.complex .f64 4611686018427387904 4607182418800017408, .int .i64 (-1)] w fun e w' => e = .returned (.complex .f64 4607182418800017408 13835058055282163712) ∧ w = w' := by
  have := Turn_m 4611686018427387904 4607182418800017408 (-1) 3 (by omega) w
  rw [show rot (4611686018427387904, 4607182418800017408) 3 = (4607182418800017408, 13835058055282163712) from by decide] at this
  exact this
theorem turn6 (w : World) : Calls Try.prog 16 #[.complex .f64 4611686018427387904 4607182418800017408, .int .i64 6] w fun e w' => e = .returned (.complex .f64 13835058055282163712 13830554455654793216) ∧ w = w' := by
  have := Turn_m 4611686018427387904 4607182418800017408 6 2 (by omega) w
  rw [show rot (4611686018427387904, 4607182418800017408) 2 = (13835058055282163712, 13830554455654793216) from by decide] at this
  exact this

set_option maxHeartbeats 4000000 in
set_option maxRecDepth 100000 in
theorem awake13 (w : World) :
    Calls Try.prog 12 #[] w fun e w' => e = .returned (.bool true) ∧ Below w.heap.size w w' := by
  go_enter Try.func12, Try.ntmps12
  go_wp2_with fail
  refine (at13 _).mono ?_
  rintro e w1 ⟨rfl, hb1⟩
  go_wp2_with fail
  refine (at215 _).mono ?_
  rintro e w2 ⟨rfl, hb2⟩
  go_wp2_with fail
  refine (pl2 _).mono ?_
  rintro e w' ⟨rfl, rfl⟩
  go_wp2_with fail
  refine (plh _).mono ?_
  rintro e w' ⟨rfl, rfl⟩
  go_wp2_with fail
  refine (turn1 _).mono ?_
  rintro e w' ⟨rfl, rfl⟩
  go_wp2_with fail
  refine (turn3 _).mono ?_
  rintro e w' ⟨rfl, rfl⟩
  go_wp2_with fail
  refine (turn6 _).mono ?_
  rintro e w' ⟨rfl, rfl⟩
  go_wp2
  go_ret
  exact ⟨rfl, hb1.trans (hb2.mono hb1.size)⟩

end Go.Proofs.Ytdhkhdfenalagaa
