/- From the row's condition on errors.errorType to the cell that the walks read; and the world of the witness. -/
import Derived.Test.YtghlfpeifdikkaaDoorKeepIs
import Derived.Test.YtghlfpeifdikkaaDoorRows
import Derived.ProofKit
import Derived.LaidMore
import Derived.LaidHandle
import Derived.LaidLaws
import Derived.OpenShut
import Derived.Stop.Joined
namespace Go.Proofs.YtghlfpeifdikkaaDoor
open Go.RowKit

/-- the variable, by its name as the row lists it -/
def nmErr : String := Rows.lexAllRow.named.getD 0 default
def laid1 : List (String × DataW Unit) := [(nmErr, Rows.laid_errors_errorType)]
theorem gErr : Tryd.prog.globalNamed nmErr = some 0 := by kernel_rfl
theorem rtErr : (Tryd.prog.cutTypes.find? (·.1 == "internal/reflectlite.rtype")).map (·.2) = some 88 := by kernel_rfl
theorem oneRow : ((List.range Tryd.prog.types.size).filter fun t => Tryd.prog.rowNamed t [101, 114, 114, 111, 114]) = [29] := by kernel_rfl
theorem et_of_laid {W : World} (h : laidMetH Tryd.prog laid1 W) : ET W := by
  have h' : laidMet Tryd.prog [] W ∧ handlesMet Tryd.prog laid1 W := h
  obtain ⟨name, u, ty, e1, e2, e3, e4, e5⟩ := h'.2 _ (List.mem_singleton.2 rfl)
  have en : name = [101, 114, 114, 111, 114] := (Option.some.inj e1).symm
  subst en
  obtain rfl := Option.some.inj (rtErr.symm.trans e2)
  have hm : ty ∈ (List.range Tryd.prog.types.size).filter fun t => Tryd.prog.rowNamed t [101, 114, 114, 111, 114] := List.mem_filter.2 ⟨List.mem_range.2 e3, e4⟩
  rw [oneRow] at hm
  obtain rfl := List.mem_singleton.1 hm
  have hh : typeHandle Tryd.prog 29 = .pointer (some ⟨4, 29, none⟩) := by kernel_rfl
  rw [hh] at e5
  unfold ET
  simpa using World.var?_cell gErr e5 0
theorem door_met (os : Os) (args : Array Value) : laidMetH Tryd.prog laid1 ((World.doorLaid Tryd.prog 400 os).forCall (fun _ _ => 0) ⟨#[], args, []⟩).memory :=
  laidMetH_of_parts (laidMet_nil _ _) (by kernel_rfl)
end Go.Proofs.YtghlfpeifdikkaaDoor
