/- The statement of the curve's walk, at every input. -/
import Derived.Test.YtdhkhdfenalagaaCurveH
namespace Go.Proofs.Ytdhkhdfenalagaa
open Go.RowKit

theorem wf_i64 {e : Int} (h : (Lit.int .i64 e).wf = true) : -9223372036854775808 ≤ e ∧ e ≤ 9223372036854775807 := by
  have h' : -9223372036854775808 ≤ e ∧ e ≤ 9223372036854775807 := by simpa [Lit.wf, IntKind.min, IntKind.max, IntKind.bits, IntKind.signed] using h
  exact h'
theorem LawWalks_any (n e : Int) (_ : (Lit.int .i64 n).wf = true) (he : (Lit.int .i64 e).wf = true) (w : World) :
    Calls Try.prog 8 #[.int .i64 n, .int .i64 e] w fun e' w' => e' = .returned (.bool true) ∧ Below w.heap.size w w' := by
  obtain ⟨h1, h2⟩ := wf_i64 he
  by_cases h : e < 0
  · have e1 : wrap64 (-wrap64 (e + 1)) = -(e + 1) := by unfold wrap64; omega
    have e2 : (wrap64 (-wrap64 (e + 1))).tmod 3000 = (-(e + 1)) % 3000 := by rw [e1]; exact Int.tmod_eq_emod_of_nonneg (by omega)
    have e3 : wrap64 (1 + (-(e + 1)) % 3000) = 1 + (-(e + 1)) % 3000 := by unfold wrap64; omega
    exact LawWalks_core n e (1 + (-(e + 1)) % 3000) (by omega) (by omega) (.inl ⟨h, by rw [e2, e3]⟩) w
  · exact LawWalks_core n e (1 + e % 3000) (by omega) (by omega) (.inr ⟨by omega, rfl⟩) w

end Go.Proofs.Ytdhkhdfenalagaa
