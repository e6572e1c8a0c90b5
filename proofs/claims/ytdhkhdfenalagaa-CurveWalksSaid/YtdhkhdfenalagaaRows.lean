/-
  No cell of these rows narrows 'for every input' (looked for: loops, veiled, ifaces, maps, wideKeys, modest, calm, conditions, laid).
  DERIVED. THE GIVEN ROWS OF THIS SEAT. 7 by the template 'for every input the law returns true; each argument reads behind the call as it read before'; 0 by the template 'total and deterministic' (their statements: YtdhkhdfenalagaaTotals.lean).
  GIVEN WITH THE SEED: the statements are not yours to turn. If you find one false, say at which input.
  Laid BY PROGRAM, IN A SANDBOX (cutbox-rows.mjs): the forced cells as the released guide's own fill.sh prints them over the translation 0613cb99a67d81bd… (all of the seat's roots in one cut). By AI agents, Wed Nov 11 2026. No macro, syntax, notation, axiom, sorry.
-/
import Derived.Test.YtdhkhdfenalagaaChecked
import GoSem.Claim
import GoSem.ClaimJoined
import GoSem.ClaimMapViews
import Derived.JoinedTies
import Derived.KernelRfl
namespace Go.Proofs.Ytdhkhdfenalagaa
/- THE CELL 'sum', in the pinned program and in every row, IS THE sha256 OF THE DUMP (.gsa) THAT YtdhkhdfenalagaaProg.lean LOADS. Nothing in Lean hashes anything: it is a label: what it is worth is what the hold of that sum in a sandbox is worth. -/
noncomputable def Try.pinned : Pinned := { name := "ytdhkhdfenalagaa", sum := "0613cb99a67d81bdb46f8835b7ff13f2cb7467a737309ad810637da5170c5313", checked := Try.checked }
namespace Rows
def none {H : Type} : Left H := { results := [], args := [] }

/-- 'quintetlaw13.CurveAt': WHATEVER THE INPUT: true; the input reads as it did. -/
def curveAtSpec : ChangeSpec := { name := "curveAt", fn := fun _ => fun
  | [d1, d2] => { results := [.lit (.bool true)], args := [d1, d2] }
  | _ => none }
def curveAtRow : OpenClaim := { program := "ytdhkhdfenalagaa", sum := "0613cb99a67d81bdb46f8835b7ff13f2cb7467a737309ad810637da5170c5313", func := "quintet/quintetlaw13.CurveAt", spec := "curveAt", unfollowed := true, recurses := true, apart := false }
def CurveAtSaid : Prop := curveAtRow.holds Try.pinned (OpenSpec.ofChange curveAtSpec)

/-- ITS FALSE NEIGHBOUR: 'it returns false'. Refute it at one input. -/
def curveAtWrong : ChangeSpec := { name := "curveAt", fn := fun _ => fun
  | [d1, d2] => { results := [.lit (.bool false)], args := [d1, d2] }
  | _ => none }
def CurveAtWrongFalsely : Prop := curveAtRow.holds Try.pinned (OpenSpec.ofChange curveAtWrong)

/-- 'quintetlaw13.CurvePlaces': WHATEVER THE INPUT: true; the input reads as it did. -/
def curvePlacesSpec : ChangeSpec := { name := "curvePlaces", fn := fun _ => fun
  | [d1, d2, d3] => { results := [.lit (.bool true)], args := [d1, d2, d3] }
  | _ => none }
def curvePlacesRow : OpenClaim := { program := "ytdhkhdfenalagaa", sum := "0613cb99a67d81bdb46f8835b7ff13f2cb7467a737309ad810637da5170c5313", func := "quintet/quintetlaw13.CurvePlaces", spec := "curvePlaces", unfollowed := true, recurses := true, apart := false }
def CurvePlacesSaid : Prop := curvePlacesRow.holds Try.pinned (OpenSpec.ofChange curvePlacesSpec)

/-- ITS FALSE NEIGHBOUR: 'it returns false'. Refute it at one input. -/
def curvePlacesWrong : ChangeSpec := { name := "curvePlaces", fn := fun _ => fun
  | [d1, d2, d3] => { results := [.lit (.bool false)], args := [d1, d2, d3] }
  | _ => none }
def CurvePlacesWrongFalsely : Prop := curvePlacesRow.holds Try.pinned (OpenSpec.ofChange curvePlacesWrong)

/-- 'quintetlaw13.CurveTurns': WHATEVER THE INPUT: true; the input reads as it did. -/
def curveTurnsSpec : ChangeSpec := { name := "curveTurns", fn := fun _ => fun
  | [d1, d2, d3] => { results := [.lit (.bool true)], args := [d1, d2, d3] }
  | _ => none }
def curveTurnsRow : OpenClaim := { program := "ytdhkhdfenalagaa", sum := "0613cb99a67d81bdb46f8835b7ff13f2cb7467a737309ad810637da5170c5313", func := "quintet/quintetlaw13.CurveTurns", spec := "curveTurns", unfollowed := true, recurses := true, apart := false }
def CurveTurnsSaid : Prop := curveTurnsRow.holds Try.pinned (OpenSpec.ofChange curveTurnsSpec)

/-- ITS FALSE NEIGHBOUR: 'it returns false'. Refute it at one input. -/
def curveTurnsWrong : ChangeSpec := { name := "curveTurns", fn := fun _ => fun
  | [d1, d2, d3] => { results := [.lit (.bool false)], args := [d1, d2, d3] }
  | _ => none }
def CurveTurnsWrongFalsely : Prop := curveTurnsRow.holds Try.pinned (OpenSpec.ofChange curveTurnsWrong)

/-- 'quintetlaw13.CurveSteps': WHATEVER THE INPUT: true; the input reads as it did. -/
def curveStepsSpec : ChangeSpec := { name := "curveSteps", fn := fun _ => fun
  | [d1, d2] => { results := [.lit (.bool true)], args := [d1, d2] }
  | _ => none }
def curveStepsRow : OpenClaim := { program := "ytdhkhdfenalagaa", sum := "0613cb99a67d81bdb46f8835b7ff13f2cb7467a737309ad810637da5170c5313", func := "quintet/quintetlaw13.CurveSteps", spec := "curveSteps", unfollowed := true, recurses := true, apart := false }
def CurveStepsSaid : Prop := curveStepsRow.holds Try.pinned (OpenSpec.ofChange curveStepsSpec)

/-- ITS FALSE NEIGHBOUR: 'it returns false'. Refute it at one input. -/
def curveStepsWrong : ChangeSpec := { name := "curveSteps", fn := fun _ => fun
  | [d1, d2] => { results := [.lit (.bool false)], args := [d1, d2] }
  | _ => none }
def CurveStepsWrongFalsely : Prop := curveStepsRow.holds Try.pinned (OpenSpec.ofChange curveStepsWrong)

/-- 'quintetlaw13.CurveRound': WHATEVER THE INPUT: true; the input reads as it did. -/
def curveRoundSpec : ChangeSpec := { name := "curveRound", fn := fun _ => fun
  | [d1, d2, d3] => { results := [.lit (.bool true)], args := [d1, d2, d3] }
  | _ => none }
def curveRoundRow : OpenClaim := { program := "ytdhkhdfenalagaa", sum := "0613cb99a67d81bdb46f8835b7ff13f2cb7467a737309ad810637da5170c5313", func := "quintet/quintetlaw13.CurveRound", spec := "curveRound", unfollowed := true, recurses := true, apart := false }
def CurveRoundSaid : Prop := curveRoundRow.holds Try.pinned (OpenSpec.ofChange curveRoundSpec)

/-- ITS FALSE NEIGHBOUR: 'it returns false'. Refute it at one input. -/
def curveRoundWrong : ChangeSpec := { name := "curveRound", fn := fun _ => fun
  | [d1, d2, d3] => { results := [.lit (.bool false)], args := [d1, d2, d3] }
  | _ => none }
def CurveRoundWrongFalsely : Prop := curveRoundRow.holds Try.pinned (OpenSpec.ofChange curveRoundWrong)

/-- 'quintetlaw13.CurveWalks': WHATEVER THE INPUT: true; the input reads as it did. -/
def curveWalksSpec : ChangeSpec := { name := "curveWalks", fn := fun _ => fun
  | [d1, d2] => { results := [.lit (.bool true)], args := [d1, d2] }
  | _ => none }
def curveWalksRow : OpenClaim := { program := "ytdhkhdfenalagaa", sum := "0613cb99a67d81bdb46f8835b7ff13f2cb7467a737309ad810637da5170c5313", func := "quintet/quintetlaw13.CurveWalks", spec := "curveWalks", unfollowed := true, recurses := true, apart := false }
def CurveWalksSaid : Prop := curveWalksRow.holds Try.pinned (OpenSpec.ofChange curveWalksSpec)

/-- ITS FALSE NEIGHBOUR: 'it returns false'. Refute it at one input. -/
def curveWalksWrong : ChangeSpec := { name := "curveWalks", fn := fun _ => fun
  | [d1, d2] => { results := [.lit (.bool false)], args := [d1, d2] }
  | _ => none }
def CurveWalksWrongFalsely : Prop := curveWalksRow.holds Try.pinned (OpenSpec.ofChange curveWalksWrong)

/-- 'quintetlaw13.CurveSorts': WHATEVER THE INPUT: true; the input reads as it did. -/
def curveSortsSpec : ChangeSpec := { name := "curveSorts", fn := fun _ => fun
  | [d] => { results := [.lit (.bool true)], args := [d] }
  | _ => none }
def curveSortsRow : OpenClaim := { program := "ytdhkhdfenalagaa", sum := "0613cb99a67d81bdb46f8835b7ff13f2cb7467a737309ad810637da5170c5313", func := "quintet/quintetlaw13.CurveSorts", spec := "curveSorts", unfollowed := true, recurses := true, apart := false }
def CurveSortsSaid : Prop := curveSortsRow.holds Try.pinned (OpenSpec.ofChange curveSortsSpec)

/-- ITS FALSE NEIGHBOUR: 'it returns false'. Refute it at one input. -/
def curveSortsWrong : ChangeSpec := { name := "curveSorts", fn := fun _ => fun
  | [d] => { results := [.lit (.bool false)], args := [d] }
  | _ => none }
def CurveSortsWrongFalsely : Prop := curveSortsRow.holds Try.pinned (OpenSpec.ofChange curveSortsWrong)

/- THE SECOND FORM. 'bulk': how many values and letters a reading holds, each counted each time it is reached (what is shared counts as often as it is met; a slice's spare places count too). A statement '..UptoSaid' is the law's where the arguments, and the package variables that the reading takes, are together of bulk at most 1048576: NARROWER than '..Said'. Prove '..Said' where nothing that the law and all that it calls make is longer than what came in: it says more and counts as full. Else prove '..UptoSaid'. A law counts once. -/
mutual
def uptoBulk {H : Type} : DataW H → Nat
  | .lit (.string bytes) => bytes.length + 1
  | .lit _ => 1
  | .nil => 1
  | .ptr d => uptoBulk d + 1
  | .slice elems spare => uptoBulkAll elems + uptoBulkAll spare + 1
  | .agg parts => uptoBulkAll parts + 1
  | .iface _ d => uptoBulk d + 1
  | .map entries => uptoBulkEntries entries + 1
  | .held _ => 1
def uptoBulkAll {H : Type} : List (DataW H) → Nat
  | [] => 0
  | d :: r => uptoBulk d + uptoBulkAll r
def uptoBulkEntries {H : Type} : List (Lit × DataW H) → Nat
  | [] => 0
  | x :: r => uptoBulkEntry x + uptoBulkEntries r
def uptoBulkEntry {H : Type} : Lit × DataW H → Nat
  | (.string bytes, d) => bytes.length + uptoBulk d + 1
  | (_, d) => uptoBulk d + 1
 end
def uptoSmall : (H : Type) → List (DataW H) → Bool := fun _ ds => decide (uptoBulkAll ds ≤ 1048576)
def OpenSpec.upto (s : _root_.Go.ChangeSpec) : _root_.Go.OpenSpec := { _root_.Go.OpenSpec.ofChange s with cond := some uptoSmall }

/-- 'quintetlaw13.CurveAt', WHERE WHAT IT READS IS OF BULK AT MOST 1048576: true; the input reads as it did. -/
def curveAtUptoRow : OpenClaim := { program := "ytdhkhdfenalagaa", sum := "0613cb99a67d81bdb46f8835b7ff13f2cb7467a737309ad810637da5170c5313", func := "quintet/quintetlaw13.CurveAt", spec := "curveAt", unfollowed := true, recurses := true, apart := false, narrowed := true }
def CurveAtUptoSaid : Prop := curveAtUptoRow.holds Try.pinned (OpenSpec.upto curveAtSpec)

/-- 'quintetlaw13.CurvePlaces', WHERE WHAT IT READS IS OF BULK AT MOST 1048576: true; the input reads as it did. -/
def curvePlacesUptoRow : OpenClaim := { program := "ytdhkhdfenalagaa", sum := "0613cb99a67d81bdb46f8835b7ff13f2cb7467a737309ad810637da5170c5313", func := "quintet/quintetlaw13.CurvePlaces", spec := "curvePlaces", unfollowed := true, recurses := true, apart := false, narrowed := true }
def CurvePlacesUptoSaid : Prop := curvePlacesUptoRow.holds Try.pinned (OpenSpec.upto curvePlacesSpec)

/-- 'quintetlaw13.CurveTurns', WHERE WHAT IT READS IS OF BULK AT MOST 1048576: true; the input reads as it did. -/
def curveTurnsUptoRow : OpenClaim := { program := "ytdhkhdfenalagaa", sum := "0613cb99a67d81bdb46f8835b7ff13f2cb7467a737309ad810637da5170c5313", func := "quintet/quintetlaw13.CurveTurns", spec := "curveTurns", unfollowed := true, recurses := true, apart := false, narrowed := true }
def CurveTurnsUptoSaid : Prop := curveTurnsUptoRow.holds Try.pinned (OpenSpec.upto curveTurnsSpec)

/-- 'quintetlaw13.CurveSteps', WHERE WHAT IT READS IS OF BULK AT MOST 1048576: true; the input reads as it did. -/
def curveStepsUptoRow : OpenClaim := { program := "ytdhkhdfenalagaa", sum := "0613cb99a67d81bdb46f8835b7ff13f2cb7467a737309ad810637da5170c5313", func := "quintet/quintetlaw13.CurveSteps", spec := "curveSteps", unfollowed := true, recurses := true, apart := false, narrowed := true }
def CurveStepsUptoSaid : Prop := curveStepsUptoRow.holds Try.pinned (OpenSpec.upto curveStepsSpec)

/-- 'quintetlaw13.CurveRound', WHERE WHAT IT READS IS OF BULK AT MOST 1048576: true; the input reads as it did. -/
def curveRoundUptoRow : OpenClaim := { program := "ytdhkhdfenalagaa", sum := "0613cb99a67d81bdb46f8835b7ff13f2cb7467a737309ad810637da5170c5313", func := "quintet/quintetlaw13.CurveRound", spec := "curveRound", unfollowed := true, recurses := true, apart := false, narrowed := true }
def CurveRoundUptoSaid : Prop := curveRoundUptoRow.holds Try.pinned (OpenSpec.upto curveRoundSpec)

/-- 'quintetlaw13.CurveWalks', WHERE WHAT IT READS IS OF BULK AT MOST 1048576: true; the input reads as it did. -/
def curveWalksUptoRow : OpenClaim := { program := "ytdhkhdfenalagaa", sum := "0613cb99a67d81bdb46f8835b7ff13f2cb7467a737309ad810637da5170c5313", func := "quintet/quintetlaw13.CurveWalks", spec := "curveWalks", unfollowed := true, recurses := true, apart := false, narrowed := true }
def CurveWalksUptoSaid : Prop := curveWalksUptoRow.holds Try.pinned (OpenSpec.upto curveWalksSpec)

/-- 'quintetlaw13.CurveSorts', WHERE WHAT IT READS IS OF BULK AT MOST 1048576: true; the input reads as it did. -/
def curveSortsUptoRow : OpenClaim := { program := "ytdhkhdfenalagaa", sum := "0613cb99a67d81bdb46f8835b7ff13f2cb7467a737309ad810637da5170c5313", func := "quintet/quintetlaw13.CurveSorts", spec := "curveSorts", unfollowed := true, recurses := true, apart := false, narrowed := true }
def CurveSortsUptoSaid : Prop := curveSortsUptoRow.holds Try.pinned (OpenSpec.upto curveSortsSpec)

end Rows
end Go.Proofs.Ytdhkhdfenalagaa
