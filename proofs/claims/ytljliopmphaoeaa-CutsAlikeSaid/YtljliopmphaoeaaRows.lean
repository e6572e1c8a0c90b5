/-
  No cell of these rows narrows 'for every input' (looked for: loops, veiled, ifaces, maps, wideKeys, modest, calm, conditions, laid).
  DERIVED. THE GIVEN ROWS OF THIS SEAT. 6 by the template 'for every input the law returns true; each argument reads behind the call as it read before'; 0 by the template 'total and deterministic' (their statements: YtljliopmphaoeaaTotals.lean).
  GIVEN WITH THE SEED: the statements are not yours to turn. If you find one false, say at which input.
  Laid BY PROGRAM, IN A SANDBOX (cutbox-rows.mjs): the forced cells as the released guide's own fill.sh prints them over the translation dcb7a297e7c0e069… (all of the seat's roots in one cut). By AI agents, Wed Nov 11 2026. No macro, syntax, notation, axiom, sorry.
-/
import Derived.Test.YtljliopmphaoeaaChecked
import GoSem.Claim
import GoSem.ClaimJoined
import GoSem.ClaimMapViews
import Derived.JoinedTies
import Derived.KernelRfl
namespace Go.Proofs.Ytljliopmphaoeaa
/- THE CELL 'sum', in the pinned program and in every row, IS THE sha256 OF THE DUMP (.gsa) THAT YtljliopmphaoeaaProg.lean LOADS. Nothing in Lean hashes anything: it is a label: what it is worth is what the hold of that sum in a sandbox is worth. -/
noncomputable def Try.pinned : Pinned := { name := "ytljliopmphaoeaa", sum := "dcb7a297e7c0e06956516d80c6da8934a66fa43c3c8da02a1451cc1e28de77fd", checked := Try.checked }
namespace Rows
def none {H : Type} : Left H := { results := [], args := [] }

/-- 'quintetlaw18.CutsNew': WHATEVER THE INPUT: true; the input reads as it did. -/
def cutsNewSpec : ChangeSpec := { name := "cutsNew", fn := fun _ => fun
  | [d1, d2] => { results := [.lit (.bool true)], args := [d1, d2] }
  | _ => none }
def cutsNewRow : OpenClaim := { program := "ytljliopmphaoeaa", sum := "dcb7a297e7c0e06956516d80c6da8934a66fa43c3c8da02a1451cc1e28de77fd", func := "quintet/quintetlaw18.CutsNew", spec := "cutsNew", unfollowed := true, recurses := true, apart := false }
def CutsNewSaid : Prop := cutsNewRow.holds Try.pinned (OpenSpec.ofChange cutsNewSpec)

/-- ITS FALSE NEIGHBOUR: 'it returns false'. Refute it at one input. -/
def cutsNewWrong : ChangeSpec := { name := "cutsNew", fn := fun _ => fun
  | [d1, d2] => { results := [.lit (.bool false)], args := [d1, d2] }
  | _ => none }
def CutsNewWrongFalsely : Prop := cutsNewRow.holds Try.pinned (OpenSpec.ofChange cutsNewWrong)

/-- 'quintetlaw18.CutsAlike': WHATEVER THE INPUT: true; the input reads as it did. -/
def cutsAlikeSpec : ChangeSpec := { name := "cutsAlike", fn := fun _ => fun
  | [d1, d2, d3, d4] => { results := [.lit (.bool true)], args := [d1, d2, d3, d4] }
  | _ => none }
def cutsAlikeRow : OpenClaim := { program := "ytljliopmphaoeaa", sum := "dcb7a297e7c0e06956516d80c6da8934a66fa43c3c8da02a1451cc1e28de77fd", func := "quintet/quintetlaw18.CutsAlike", spec := "cutsAlike", unfollowed := true, recurses := true, apart := false }
def CutsAlikeSaid : Prop := cutsAlikeRow.holds Try.pinned (OpenSpec.ofChange cutsAlikeSpec)

/-- ITS FALSE NEIGHBOUR: 'it returns false'. Refute it at one input. -/
def cutsAlikeWrong : ChangeSpec := { name := "cutsAlike", fn := fun _ => fun
  | [d1, d2, d3, d4] => { results := [.lit (.bool false)], args := [d1, d2, d3, d4] }
  | _ => none }
def CutsAlikeWrongFalsely : Prop := cutsAlikeRow.holds Try.pinned (OpenSpec.ofChange cutsAlikeWrong)

/-- 'quintetlaw18.CutsApart': WHATEVER THE INPUT: true; the input reads as it did. -/
def cutsApartSpec : ChangeSpec := { name := "cutsApart", fn := fun _ => fun
  | [d1, d2, d3, d4] => { results := [.lit (.bool true)], args := [d1, d2, d3, d4] }
  | _ => none }
def cutsApartRow : OpenClaim := { program := "ytljliopmphaoeaa", sum := "dcb7a297e7c0e06956516d80c6da8934a66fa43c3c8da02a1451cc1e28de77fd", func := "quintet/quintetlaw18.CutsApart", spec := "cutsApart", unfollowed := true, recurses := true, apart := false }
def CutsApartSaid : Prop := cutsApartRow.holds Try.pinned (OpenSpec.ofChange cutsApartSpec)

/-- ITS FALSE NEIGHBOUR: 'it returns false'. Refute it at one input. -/
def cutsApartWrong : ChangeSpec := { name := "cutsApart", fn := fun _ => fun
  | [d1, d2, d3, d4] => { results := [.lit (.bool false)], args := [d1, d2, d3, d4] }
  | _ => none }
def CutsApartWrongFalsely : Prop := cutsApartRow.holds Try.pinned (OpenSpec.ofChange cutsApartWrong)

/-- 'quintetlaw18.CutsPlays': WHATEVER THE INPUT: true; the input reads as it did. -/
def cutsPlaysSpec : ChangeSpec := { name := "cutsPlays", fn := fun _ => fun
  | [d1, d2, d3] => { results := [.lit (.bool true)], args := [d1, d2, d3] }
  | _ => none }
def cutsPlaysRow : OpenClaim := { program := "ytljliopmphaoeaa", sum := "dcb7a297e7c0e06956516d80c6da8934a66fa43c3c8da02a1451cc1e28de77fd", func := "quintet/quintetlaw18.CutsPlays", spec := "cutsPlays", unfollowed := true, recurses := true, apart := false }
def CutsPlaysSaid : Prop := cutsPlaysRow.holds Try.pinned (OpenSpec.ofChange cutsPlaysSpec)

/-- ITS FALSE NEIGHBOUR: 'it returns false'. Refute it at one input. -/
def cutsPlaysWrong : ChangeSpec := { name := "cutsPlays", fn := fun _ => fun
  | [d1, d2, d3] => { results := [.lit (.bool false)], args := [d1, d2, d3] }
  | _ => none }
def CutsPlaysWrongFalsely : Prop := cutsPlaysRow.holds Try.pinned (OpenSpec.ofChange cutsPlaysWrong)

/-- 'quintetlaw18.CutsSets': WHATEVER THE INPUT: true; the input reads as it did. -/
def cutsSetsSpec : ChangeSpec := { name := "cutsSets", fn := fun _ => fun
  | [d1, d2, d3] => { results := [.lit (.bool true)], args := [d1, d2, d3] }
  | _ => none }
def cutsSetsRow : OpenClaim := { program := "ytljliopmphaoeaa", sum := "dcb7a297e7c0e06956516d80c6da8934a66fa43c3c8da02a1451cc1e28de77fd", func := "quintet/quintetlaw18.CutsSets", spec := "cutsSets", unfollowed := true, recurses := true, apart := false }
def CutsSetsSaid : Prop := cutsSetsRow.holds Try.pinned (OpenSpec.ofChange cutsSetsSpec)

/-- ITS FALSE NEIGHBOUR: 'it returns false'. Refute it at one input. -/
def cutsSetsWrong : ChangeSpec := { name := "cutsSets", fn := fun _ => fun
  | [d1, d2, d3] => { results := [.lit (.bool false)], args := [d1, d2, d3] }
  | _ => none }
def CutsSetsWrongFalsely : Prop := cutsSetsRow.holds Try.pinned (OpenSpec.ofChange cutsSetsWrong)

/-- 'quintetlaw18.CutsNil': WHATEVER THE INPUT: true; the input reads as it did. -/
def cutsNilSpec : ChangeSpec := { name := "cutsNil", fn := fun _ => fun
  | [d1, d2] => { results := [.lit (.bool true)], args := [d1, d2] }
  | _ => none }
def cutsNilRow : OpenClaim := { program := "ytljliopmphaoeaa", sum := "dcb7a297e7c0e06956516d80c6da8934a66fa43c3c8da02a1451cc1e28de77fd", func := "quintet/quintetlaw18.CutsNil", spec := "cutsNil", unfollowed := true, recurses := true, apart := false }
def CutsNilSaid : Prop := cutsNilRow.holds Try.pinned (OpenSpec.ofChange cutsNilSpec)

/-- ITS FALSE NEIGHBOUR: 'it returns false'. Refute it at one input. -/
def cutsNilWrong : ChangeSpec := { name := "cutsNil", fn := fun _ => fun
  | [d1, d2] => { results := [.lit (.bool false)], args := [d1, d2] }
  | _ => none }
def CutsNilWrongFalsely : Prop := cutsNilRow.holds Try.pinned (OpenSpec.ofChange cutsNilWrong)

/- THE SECOND FORM. 'bulk': how many values and letters a reading holds, each counted each time it is reached (what is shared counts as often as it is met; a slice's spare places count too). A statement '..UptoSaid' is the law's where the arguments, and the package variables that the reading takes, are together of bulk at most 1048576: NARROWER than '..Said'. Prove '..Said' where nothing that the law and all that it calls make is longer than what came in: it says more and counts as full. Else prove '..UptoSaid'. A law counts once. -/
mutual
def uptoBulk {H : Type} : DataW H → Nat
  | .lit (.string bytes) => bytes.length + 1
  | .lit _ => 1
  | .nil => 1
  | .ptr d => uptoBulk d + 1
  | .slice elems spare => uptoBulkAll elems + uptoBulkAll spare + 1
  | .agg parts => uptoBulkAll parts + 1
  | .iface _ d => uptoBulk d + 1
  | .map entries => uptoBulkEntries entries + 1
  | .held _ => 1
def uptoBulkAll {H : Type} : List (DataW H) → Nat
  | [] => 0
  | d :: r => uptoBulk d + uptoBulkAll r
def uptoBulkEntries {H : Type} : List (Lit × DataW H) → Nat
  | [] => 0
  | x :: r => uptoBulkEntry x + uptoBulkEntries r
def uptoBulkEntry {H : Type} : Lit × DataW H → Nat
  | (.string bytes, d) => bytes.length + uptoBulk d + 1
  | (_, d) => uptoBulk d + 1
 end
def uptoSmall : (H : Type) → List (DataW H) → Bool := fun _ ds => decide (uptoBulkAll ds ≤ 1048576)
def OpenSpec.upto (s : _root_.Go.ChangeSpec) : _root_.Go.OpenSpec := { _root_.Go.OpenSpec.ofChange s with cond := some uptoSmall }

/-- 'quintetlaw18.CutsNew', WHERE WHAT IT READS IS OF BULK AT MOST 1048576: true; the input reads as it did. -/
def cutsNewUptoRow : OpenClaim := { program := "ytljliopmphaoeaa", sum := "dcb7a297e7c0e06956516d80c6da8934a66fa43c3c8da02a1451cc1e28de77fd", func := "quintet/quintetlaw18.CutsNew", spec := "cutsNew", unfollowed := true, recurses := true, apart := false, narrowed := true }
def CutsNewUptoSaid : Prop := cutsNewUptoRow.holds Try.pinned (OpenSpec.upto cutsNewSpec)

/-- 'quintetlaw18.CutsAlike', WHERE WHAT IT READS IS OF BULK AT MOST 1048576: true; the input reads as it did. -/
def cutsAlikeUptoRow : OpenClaim := { program := "ytljliopmphaoeaa", sum := "dcb7a297e7c0e06956516d80c6da8934a66fa43c3c8da02a1451cc1e28de77fd", func := "quintet/quintetlaw18.CutsAlike", spec := "cutsAlike", unfollowed := true, recurses := true, apart := false, narrowed := true }
def CutsAlikeUptoSaid : Prop := cutsAlikeUptoRow.holds Try.pinned (OpenSpec.upto cutsAlikeSpec)

/-- 'quintetlaw18.CutsApart', WHERE WHAT IT READS IS OF BULK AT MOST 1048576: true; the input reads as it did. -/
def cutsApartUptoRow : OpenClaim := { program := "ytljliopmphaoeaa", sum := "dcb7a297e7c0e06956516d80c6da8934a66fa43c3c8da02a1451cc1e28de77fd", func := "quintet/quintetlaw18.CutsApart", spec := "cutsApart", unfollowed := true, recurses := true, apart := false, narrowed := true }
def CutsApartUptoSaid : Prop := cutsApartUptoRow.holds Try.pinned (OpenSpec.upto cutsApartSpec)

/-- 'quintetlaw18.CutsPlays', WHERE WHAT IT READS IS OF BULK AT MOST 1048576: true; the input reads as it did. -/
def cutsPlaysUptoRow : OpenClaim := { program := "ytljliopmphaoeaa", sum := "dcb7a297e7c0e06956516d80c6da8934a66fa43c3c8da02a1451cc1e28de77fd", func := "quintet/quintetlaw18.CutsPlays", spec := "cutsPlays", unfollowed := true, recurses := true, apart := false, narrowed := true }
def CutsPlaysUptoSaid : Prop := cutsPlaysUptoRow.holds Try.pinned (OpenSpec.upto cutsPlaysSpec)

/-- 'quintetlaw18.CutsSets', WHERE WHAT IT READS IS OF BULK AT MOST 1048576: true; the input reads as it did. -/
def cutsSetsUptoRow : OpenClaim := { program := "ytljliopmphaoeaa", sum := "dcb7a297e7c0e06956516d80c6da8934a66fa43c3c8da02a1451cc1e28de77fd", func := "quintet/quintetlaw18.CutsSets", spec := "cutsSets", unfollowed := true, recurses := true, apart := false, narrowed := true }
def CutsSetsUptoSaid : Prop := cutsSetsUptoRow.holds Try.pinned (OpenSpec.upto cutsSetsSpec)

/-- 'quintetlaw18.CutsNil', WHERE WHAT IT READS IS OF BULK AT MOST 1048576: true; the input reads as it did. -/
def cutsNilUptoRow : OpenClaim := { program := "ytljliopmphaoeaa", sum := "dcb7a297e7c0e06956516d80c6da8934a66fa43c3c8da02a1451cc1e28de77fd", func := "quintet/quintetlaw18.CutsNil", spec := "cutsNil", unfollowed := true, recurses := true, apart := false, narrowed := true }
def CutsNilUptoSaid : Prop := cutsNilUptoRow.holds Try.pinned (OpenSpec.upto cutsNilSpec)

end Rows
end Go.Proofs.Ytljliopmphaoeaa
