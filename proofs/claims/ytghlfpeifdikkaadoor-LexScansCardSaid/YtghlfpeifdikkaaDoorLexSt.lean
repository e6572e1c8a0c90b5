/- The steps of LexScans: read as data, and read again behind the call. -/
import Derived.Test.YtghlfpeifdikkaaDoorLexL3
import Derived.WalkKit
import Derived.ProofKit
import Derived.OpenShut
import Derived.ChangeOld
import Derived.ReadAgain
import Derived.Deep.SlicePairs
namespace Go.Proofs.YtghlfpeifdikkaaDoor
open Go.ChangeShapes Go.WideShapes Go.RowKit Go.Deep

theorem kids_all : Kids Tryd.prog (· < Tryd.prog.types.size) := kids_rows (by kernel_rfl) (by kernel_rfl)
theorem full_all : ∀ t e, t < Tryd.prog.types.size → Tryd.prog.underlying t = some (.slice e) → 0 < Tryd.prog.cellsOf e := slices_full_of Tryd.prog (by kernel_rfl)
theorem back_steps {H : Type} {enc : TypeId × Value → H} {W W' : World} {v : Value} {d : DataW H} {p : List MemPlace} (h : DataW.Trod enc Tryd.prog W 0 (fun _ => true) true 41 v d p) (bel : Below W.heap.size W W') :
    DataW.Trod enc Tryd.prog W' 0 (fun b => decide (b < W.heap.size)) true 41 v d p := by
  obtain ⟨n, h⟩ := h
  have hl := DataW.trod_lt _ _ _ _ h
  exact DataW.Trod.respare kids_all full_all (of_decide_eq_true (by kernel_rfl)) ⟨n, DataW.trod_carry (w' := W') n _ _ _ h (fun q hq => bel.same (hl q hq))⟩ (fun q hq => decide_eq_true (hl q hq))
theorem open_steps {H : Type} {enc : TypeId × Value → H} {W : World} {A : Option Addr} {n cap : Nat} {d : DataW H} {p : List MemPlace} (h : DataW.Trod enc Tryd.prog W 0 (fun _ => true) true 41 (.slice A n cap) d p) : Steps W A n := by
  obtain ⟨f, h⟩ := h
  rcases open_slice_pairs Tryd.underlying41 Tryd.underlying45 (by kernel_rfl) rfl rfl (by kernel_rfl) (by kernel_rfl) h with ⟨hc, _⟩ | ⟨a, len, cap', m, k, V0, V1, D0, D1, P0, P1, hc, _, hl, hm, hmm, _, hall⟩
  · simp [Value.cells] at hc
    obtain ⟨rfl, rfl, rfl⟩ := hc
    exact fun i hi => absurd hi (Nat.not_lt_zero i)
  · simp [Value.cells] at hc
    obtain ⟨rfl, rfl, rfl⟩ := hc
    simp only [if_true] at hmm
    intro i hi
    obtain ⟨g, off, spot⟩ := a
    obtain ⟨h0, h1, t0, t1⟩ := hall i (by omega)
    have hspot : spot = none := by simpa [Addr.add] using World.cell?_spot (hall 0 (by omega)).1
    subst hspot
    obtain ⟨y, e0, _, w0⟩ := DataW.trod_int Tryd.underlying3 t0
    obtain ⟨z, e1, _, _⟩ := DataW.trod_int Tryd.underlying3 t1
    simp only [List.cons.injEq, and_true] at e0 e1
    rw [e0, add_plain] at h0
    rw [e1, add_plain] at h1
    refine ⟨g, off, y, z, rfl, h0, by rw [Nat.add_assoc]; exact h1, ?_⟩
    simp [Lit.wf, IntKind.min, IntKind.max, IntKind.signed, IntKind.bits] at w0
    omega
end Go.Proofs.YtghlfpeifdikkaaDoor
