/- From the row's condition on the table of nibbles to the cells that the walks read; and the world of the witness. -/
import Derived.Test.YtmmaciegboodlaaDoorBitsL
import Derived.Test.YtmmaciegboodlaaDoorRows
import Derived.ProofKit
import Derived.LaidMore
import Derived.OpenShut
import Derived.Lib.LaidTab
import Derived.Stop.Joined
namespace Go.Proofs.YtmmaciegboodlaaDoor
open Go.RowKit Go.Proofs.YtmmaciegboodlaaDoor.BitsPure

/-- the variable, by its name as the row lists it -/
def nmTab : String := Rows.bitsHighRow.named.getD 0 default
def laid1 : List (String × DataW Unit) := [(nmTab, Rows.laid_quintet_bits_nibbles)]
def nums16 : List Int := [0, 1, 1, 2, 1, 2, 2, 3, 1, 2, 2, 3, 2, 3, 3, 4]
theorem gTab : Tryd.prog.globalNamed nmTab = some 0 := by kernel_rfl
theorem tTab : (Tryd.prog.globals[0]?).map (·.type) = some 40 := by kernel_rfl
theorem nums_nib : ∀ i : Fin 16, nums16.getD i.val 0 = (nib i.val : Nat) := by decide
theorem tab_of_laid {W : World} (h : laidMetH Tryd.prog laid1 W) : Tab W := by
  rw [MakeChecks.laidMetH_plain _ _ _ (by kernel_rfl)] at h
  have hT : Lib.TabIs Tryd.prog W nmTab .i64 nums16 :=
    Lib.tabIs_of_head gTab tTab Tryd.underlying40 Tryd.underlying3 (by kernel_rfl) (by kernel_rfl) (show laidMet Tryd.prog ((nmTab, Lib.tabData .i64 nums16) :: []) W from h)
  intro i hi
  have := hT.cell gTab i hi
  rw [nums_nib ⟨i, hi⟩] at this
  exact this
theorem door_met (os : Os) (args : Array Value) : laidMetH Tryd.prog laid1 ((World.doorLaid Tryd.prog 400 os).forCall (fun _ _ => 0) ⟨#[], args, []⟩).memory :=
  laidMetH_of_parts3 (fuel := 8) (laidMet_of_run' 8 (by kernel_rfl) (by kernel_rfl)) (by kernel_rfl) (by kernel_rfl)
theorem own : ownKnob Tryd.prog.godebug = none := by kernel_rfl

end Go.Proofs.YtmmaciegboodlaaDoor
