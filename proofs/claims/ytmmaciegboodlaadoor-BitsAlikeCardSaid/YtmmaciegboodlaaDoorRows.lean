/-
  NARROWER THAN 'FOR EVERY INPUT', by the rows' own cells (each row's printed sentence says how): BitsHigh: laid · BitsKeeps: laid · BitsAt: laid · BitsSame: laid · BitsCounts: laid · BitsText: laid · BitsAlike: laid.
  DERIVED. THE GIVEN ROWS OF THIS SEAT. 7 by the template 'for every input the law returns true; each argument reads behind the call as it read before'; 0 by the template 'total and deterministic' (their statements: YtmmaciegboodlaaDoorTotals.lean).
  GIVEN WITH THE SEED: the statements are not yours to turn. If you find one false, say at which input.
  Laid BY PROGRAM, IN A SANDBOX (cutbox-rows.mjs): the forced cells as the released guide's own fill.sh prints them over the translation 16191de8697c7906… (all of the seat's roots in one cut). By AI agents, Wed Nov 11 2026. No macro, syntax, notation, axiom, sorry.
-/
import Derived.Test.YtmmaciegboodlaaDoorChecked
import GoSem.Claim
import GoSem.ClaimJoined
import GoSem.ClaimMapViews
import Derived.JoinedTies
import Derived.KernelRfl
namespace Go.Proofs.YtmmaciegboodlaaDoor
/- THE CELL 'sum', in the pinned program and in every row, IS THE sha256 OF THE DUMP (.gsa) THAT YtmmaciegboodlaaDoorProg.lean LOADS. Nothing in Lean hashes anything: it is a label: what it is worth is what the hold of that sum in a sandbox is worth. -/
noncomputable def Tryd.pinned : Pinned := { name := "ytmmaciegboodlaadoor", sum := "16191de8697c7906a412277d391e7ffc1b1201afeb8c2144e5ea2a68558c23ce", checked := Tryd.checked }
namespace Rows
def none {H : Type} : Left H := { results := [], args := [] }

/- WHAT THE LISTED PACKAGE-LEVEL VARIABLES READ AS WHEN THE CALL BEGINS. Each datum BY PROGRAM (the guide's laid-datum.mjs) off the statement by which the dump's own 'gosem.cut.vars' lays the variable. In a bare row this is a premise. The card (YtmmaciegboodlaaDoorCards.lean) ties it to the program's text. -/
def laid_quintet_bits_nibbles {H : Type} : DataW H := .agg [.lit (.int .i64 0), .lit (.int .i64 1), .lit (.int .i64 1), .lit (.int .i64 2), .lit (.int .i64 1), .lit (.int .i64 2), .lit (.int .i64 2), .lit (.int .i64 3), .lit (.int .i64 1), .lit (.int .i64 2), .lit (.int .i64 2), .lit (.int .i64 3), .lit (.int .i64 2), .lit (.int .i64 3), .lit (.int .i64 3), .lit (.int .i64 4)]

/-- 'quintetlaw01.BitsHigh': WHATEVER THE INPUT: true; the input reads as it did. -/
def bitsHighSpec : ChangeSpec := { name := "bitsHigh", fn := fun _ => fun
  | [d] => { results := [.lit (.bool true)], args := [d] }
  | _ => none }
def bitsHighRow : OpenClaim := { program := "ytmmaciegboodlaadoor", sum := "16191de8697c7906a412277d391e7ffc1b1201afeb8c2144e5ea2a68558c23ce", func := "quintet/quintetlaw01.BitsHigh", spec := "bitsHigh", inPlace := ["internal/abi.NoEscape"], named := ["quintet/bits.nibbles"], apart := false, laid := [("quintet/bits.nibbles", laid_quintet_bits_nibbles)] }
def BitsHighSaid : Prop := bitsHighRow.holds Tryd.pinned (OpenSpec.ofChange bitsHighSpec)

/-- ITS FALSE NEIGHBOUR: 'it returns false'. Refute it at one input. -/
def bitsHighWrong : ChangeSpec := { name := "bitsHigh", fn := fun _ => fun
  | [d] => { results := [.lit (.bool false)], args := [d] }
  | _ => none }
def BitsHighWrongFalsely : Prop := bitsHighRow.holds Tryd.pinned (OpenSpec.ofChange bitsHighWrong)

/-- 'quintetlaw01.BitsKeeps': WHATEVER THE INPUT: true; the input reads as it did. -/
def bitsKeepsSpec : ChangeSpec := { name := "bitsKeeps", fn := fun _ => fun
  | [d1, d2] => { results := [.lit (.bool true)], args := [d1, d2] }
  | _ => none }
def bitsKeepsRow : OpenClaim := { program := "ytmmaciegboodlaadoor", sum := "16191de8697c7906a412277d391e7ffc1b1201afeb8c2144e5ea2a68558c23ce", func := "quintet/quintetlaw01.BitsKeeps", spec := "bitsKeeps", inPlace := ["internal/abi.NoEscape"], named := ["quintet/bits.nibbles"], apart := false, laid := [("quintet/bits.nibbles", laid_quintet_bits_nibbles)] }
def BitsKeepsSaid : Prop := bitsKeepsRow.holds Tryd.pinned (OpenSpec.ofChange bitsKeepsSpec)

/-- ITS FALSE NEIGHBOUR: 'it returns false'. Refute it at one input. -/
def bitsKeepsWrong : ChangeSpec := { name := "bitsKeeps", fn := fun _ => fun
  | [d1, d2] => { results := [.lit (.bool false)], args := [d1, d2] }
  | _ => none }
def BitsKeepsWrongFalsely : Prop := bitsKeepsRow.holds Tryd.pinned (OpenSpec.ofChange bitsKeepsWrong)

/-- 'quintetlaw01.BitsAt': WHATEVER THE INPUT: true; the input reads as it did. -/
def bitsAtSpec : ChangeSpec := { name := "bitsAt", fn := fun _ => fun
  | [d1, d2] => { results := [.lit (.bool true)], args := [d1, d2] }
  | _ => none }
def bitsAtRow : OpenClaim := { program := "ytmmaciegboodlaadoor", sum := "16191de8697c7906a412277d391e7ffc1b1201afeb8c2144e5ea2a68558c23ce", func := "quintet/quintetlaw01.BitsAt", spec := "bitsAt", inPlace := ["internal/abi.NoEscape"], named := ["quintet/bits.nibbles"], apart := false, laid := [("quintet/bits.nibbles", laid_quintet_bits_nibbles)] }
def BitsAtSaid : Prop := bitsAtRow.holds Tryd.pinned (OpenSpec.ofChange bitsAtSpec)

/-- ITS FALSE NEIGHBOUR: 'it returns false'. Refute it at one input. -/
def bitsAtWrong : ChangeSpec := { name := "bitsAt", fn := fun _ => fun
  | [d1, d2] => { results := [.lit (.bool false)], args := [d1, d2] }
  | _ => none }
def BitsAtWrongFalsely : Prop := bitsAtRow.holds Tryd.pinned (OpenSpec.ofChange bitsAtWrong)

/-- 'quintetlaw01.BitsSame': WHATEVER THE INPUT: true; the input reads as it did. -/
def bitsSameSpec : ChangeSpec := { name := "bitsSame", fn := fun _ => fun
  | [d1, d2] => { results := [.lit (.bool true)], args := [d1, d2] }
  | _ => none }
def bitsSameRow : OpenClaim := { program := "ytmmaciegboodlaadoor", sum := "16191de8697c7906a412277d391e7ffc1b1201afeb8c2144e5ea2a68558c23ce", func := "quintet/quintetlaw01.BitsSame", spec := "bitsSame", inPlace := ["internal/abi.NoEscape"], named := ["quintet/bits.nibbles"], apart := false, laid := [("quintet/bits.nibbles", laid_quintet_bits_nibbles)] }
def BitsSameSaid : Prop := bitsSameRow.holds Tryd.pinned (OpenSpec.ofChange bitsSameSpec)

/-- ITS FALSE NEIGHBOUR: 'it returns false'. Refute it at one input. -/
def bitsSameWrong : ChangeSpec := { name := "bitsSame", fn := fun _ => fun
  | [d1, d2] => { results := [.lit (.bool false)], args := [d1, d2] }
  | _ => none }
def BitsSameWrongFalsely : Prop := bitsSameRow.holds Tryd.pinned (OpenSpec.ofChange bitsSameWrong)

/-- 'quintetlaw01.BitsCounts': WHATEVER THE INPUT: true; the input reads as it did. -/
def bitsCountsSpec : ChangeSpec := { name := "bitsCounts", fn := fun _ => fun
  | [d] => { results := [.lit (.bool true)], args := [d] }
  | _ => none }
def bitsCountsRow : OpenClaim := { program := "ytmmaciegboodlaadoor", sum := "16191de8697c7906a412277d391e7ffc1b1201afeb8c2144e5ea2a68558c23ce", func := "quintet/quintetlaw01.BitsCounts", spec := "bitsCounts", inPlace := ["internal/abi.NoEscape"], named := ["quintet/bits.nibbles"], apart := false, laid := [("quintet/bits.nibbles", laid_quintet_bits_nibbles)] }
def BitsCountsSaid : Prop := bitsCountsRow.holds Tryd.pinned (OpenSpec.ofChange bitsCountsSpec)

/-- ITS FALSE NEIGHBOUR: 'it returns false'. Refute it at one input. -/
def bitsCountsWrong : ChangeSpec := { name := "bitsCounts", fn := fun _ => fun
  | [d] => { results := [.lit (.bool false)], args := [d] }
  | _ => none }
def BitsCountsWrongFalsely : Prop := bitsCountsRow.holds Tryd.pinned (OpenSpec.ofChange bitsCountsWrong)

/-- 'quintetlaw01.BitsText': WHATEVER THE INPUT: true; the input reads as it did. -/
def bitsTextSpec : ChangeSpec := { name := "bitsText", fn := fun _ => fun
  | [d1, d2] => { results := [.lit (.bool true)], args := [d1, d2] }
  | _ => none }
def bitsTextRow : OpenClaim := { program := "ytmmaciegboodlaadoor", sum := "16191de8697c7906a412277d391e7ffc1b1201afeb8c2144e5ea2a68558c23ce", func := "quintet/quintetlaw01.BitsText", spec := "bitsText", inPlace := ["internal/abi.NoEscape"], named := ["quintet/bits.nibbles"], apart := false, laid := [("quintet/bits.nibbles", laid_quintet_bits_nibbles)] }
def BitsTextSaid : Prop := bitsTextRow.holds Tryd.pinned (OpenSpec.ofChange bitsTextSpec)

/-- ITS FALSE NEIGHBOUR: 'it returns false'. Refute it at one input. -/
def bitsTextWrong : ChangeSpec := { name := "bitsText", fn := fun _ => fun
  | [d1, d2] => { results := [.lit (.bool false)], args := [d1, d2] }
  | _ => none }
def BitsTextWrongFalsely : Prop := bitsTextRow.holds Tryd.pinned (OpenSpec.ofChange bitsTextWrong)

/-- 'quintetlaw01.BitsAlike': WHATEVER THE INPUT: true; the input reads as it did. -/
def bitsAlikeSpec : ChangeSpec := { name := "bitsAlike", fn := fun _ => fun
  | [d1, d2, d3] => { results := [.lit (.bool true)], args := [d1, d2, d3] }
  | _ => none }
def bitsAlikeRow : OpenClaim := { program := "ytmmaciegboodlaadoor", sum := "16191de8697c7906a412277d391e7ffc1b1201afeb8c2144e5ea2a68558c23ce", func := "quintet/quintetlaw01.BitsAlike", spec := "bitsAlike", inPlace := ["internal/abi.NoEscape"], named := ["quintet/bits.nibbles"], apart := false, laid := [("quintet/bits.nibbles", laid_quintet_bits_nibbles)] }
def BitsAlikeSaid : Prop := bitsAlikeRow.holds Tryd.pinned (OpenSpec.ofChange bitsAlikeSpec)

/-- ITS FALSE NEIGHBOUR: 'it returns false'. Refute it at one input. -/
def bitsAlikeWrong : ChangeSpec := { name := "bitsAlike", fn := fun _ => fun
  | [d1, d2, d3] => { results := [.lit (.bool false)], args := [d1, d2, d3] }
  | _ => none }
def BitsAlikeWrongFalsely : Prop := bitsAlikeRow.holds Tryd.pinned (OpenSpec.ofChange bitsAlikeWrong)

/- THE SECOND FORM. 'bulk': how many values and letters a reading holds, each counted each time it is reached (what is shared counts as often as it is met; a slice's spare places count too). A statement '..UptoSaid' is the law's where the arguments, and the package variables that the reading takes, are together of bulk at most 1048576: NARROWER than '..Said'. Prove '..Said' where nothing that the law and all that it calls make is longer than what came in: it says more and counts as full. Else prove '..UptoSaid'. A law counts once. -/
mutual
def uptoBulk {H : Type} : DataW H → Nat
  | .lit (.string bytes) => bytes.length + 1
  | .lit _ => 1
  | .nil => 1
  | .ptr d => uptoBulk d + 1
  | .slice elems spare => uptoBulkAll elems + uptoBulkAll spare + 1
  | .agg parts => uptoBulkAll parts + 1
  | .iface _ d => uptoBulk d + 1
  | .map entries => uptoBulkEntries entries + 1
  | .held _ => 1
def uptoBulkAll {H : Type} : List (DataW H) → Nat
  | [] => 0
  | d :: r => uptoBulk d + uptoBulkAll r
def uptoBulkEntries {H : Type} : List (Lit × DataW H) → Nat
  | [] => 0
  | x :: r => uptoBulkEntry x + uptoBulkEntries r
def uptoBulkEntry {H : Type} : Lit × DataW H → Nat
  | (.string bytes, d) => bytes.length + uptoBulk d + 1
  | (_, d) => uptoBulk d + 1
 end
def uptoSmall : (H : Type) → List (DataW H) → Bool := fun _ ds => decide (uptoBulkAll ds ≤ 1048576)
def OpenSpec.upto (s : _root_.Go.ChangeSpec) : _root_.Go.OpenSpec := { _root_.Go.OpenSpec.ofChange s with cond := some uptoSmall }

/-- 'quintetlaw01.BitsHigh', WHERE WHAT IT READS IS OF BULK AT MOST 1048576: true; the input reads as it did. -/
def bitsHighUptoRow : OpenClaim := { program := "ytmmaciegboodlaadoor", sum := "16191de8697c7906a412277d391e7ffc1b1201afeb8c2144e5ea2a68558c23ce", func := "quintet/quintetlaw01.BitsHigh", spec := "bitsHigh", inPlace := ["internal/abi.NoEscape"], named := ["quintet/bits.nibbles"], apart := false, laid := [("quintet/bits.nibbles", laid_quintet_bits_nibbles)], narrowed := true }
def BitsHighUptoSaid : Prop := bitsHighUptoRow.holds Tryd.pinned (OpenSpec.upto bitsHighSpec)

/-- 'quintetlaw01.BitsKeeps', WHERE WHAT IT READS IS OF BULK AT MOST 1048576: true; the input reads as it did. -/
def bitsKeepsUptoRow : OpenClaim := { program := "ytmmaciegboodlaadoor", sum := "16191de8697c7906a412277d391e7ffc1b1201afeb8c2144e5ea2a68558c23ce", func := "quintet/quintetlaw01.BitsKeeps", spec := "bitsKeeps", inPlace := ["internal/abi.NoEscape"], named := ["quintet/bits.nibbles"], apart := false, laid := [("quintet/bits.nibbles", laid_quintet_bits_nibbles)], narrowed := true }
def BitsKeepsUptoSaid : Prop := bitsKeepsUptoRow.holds Tryd.pinned (OpenSpec.upto bitsKeepsSpec)

/-- 'quintetlaw01.BitsAt', WHERE WHAT IT READS IS OF BULK AT MOST 1048576: true; the input reads as it did. -/
def bitsAtUptoRow : OpenClaim := { program := "ytmmaciegboodlaadoor", sum := "16191de8697c7906a412277d391e7ffc1b1201afeb8c2144e5ea2a68558c23ce", func := "quintet/quintetlaw01.BitsAt", spec := "bitsAt", inPlace := ["internal/abi.NoEscape"], named := ["quintet/bits.nibbles"], apart := false, laid := [("quintet/bits.nibbles", laid_quintet_bits_nibbles)], narrowed := true }
def BitsAtUptoSaid : Prop := bitsAtUptoRow.holds Tryd.pinned (OpenSpec.upto bitsAtSpec)

/-- 'quintetlaw01.BitsSame', WHERE WHAT IT READS IS OF BULK AT MOST 1048576: true; the input reads as it did. -/
def bitsSameUptoRow : OpenClaim := { program := "ytmmaciegboodlaadoor", sum := "16191de8697c7906a412277d391e7ffc1b1201afeb8c2144e5ea2a68558c23ce", func := "quintet/quintetlaw01.BitsSame", spec := "bitsSame", inPlace := ["internal/abi.NoEscape"], named := ["quintet/bits.nibbles"], apart := false, laid := [("quintet/bits.nibbles", laid_quintet_bits_nibbles)], narrowed := true }
def BitsSameUptoSaid : Prop := bitsSameUptoRow.holds Tryd.pinned (OpenSpec.upto bitsSameSpec)

/-- 'quintetlaw01.BitsCounts', WHERE WHAT IT READS IS OF BULK AT MOST 1048576: true; the input reads as it did. -/
def bitsCountsUptoRow : OpenClaim := { program := "ytmmaciegboodlaadoor", sum := "16191de8697c7906a412277d391e7ffc1b1201afeb8c2144e5ea2a68558c23ce", func := "quintet/quintetlaw01.BitsCounts", spec := "bitsCounts", inPlace := ["internal/abi.NoEscape"], named := ["quintet/bits.nibbles"], apart := false, laid := [("quintet/bits.nibbles", laid_quintet_bits_nibbles)], narrowed := true }
def BitsCountsUptoSaid : Prop := bitsCountsUptoRow.holds Tryd.pinned (OpenSpec.upto bitsCountsSpec)

/-- 'quintetlaw01.BitsText', WHERE WHAT IT READS IS OF BULK AT MOST 1048576: true; the input reads as it did. -/
def bitsTextUptoRow : OpenClaim := { program := "ytmmaciegboodlaadoor", sum := "16191de8697c7906a412277d391e7ffc1b1201afeb8c2144e5ea2a68558c23ce", func := "quintet/quintetlaw01.BitsText", spec := "bitsText", inPlace := ["internal/abi.NoEscape"], named := ["quintet/bits.nibbles"], apart := false, laid := [("quintet/bits.nibbles", laid_quintet_bits_nibbles)], narrowed := true }
def BitsTextUptoSaid : Prop := bitsTextUptoRow.holds Tryd.pinned (OpenSpec.upto bitsTextSpec)

/-- 'quintetlaw01.BitsAlike', WHERE WHAT IT READS IS OF BULK AT MOST 1048576: true; the input reads as it did. -/
def bitsAlikeUptoRow : OpenClaim := { program := "ytmmaciegboodlaadoor", sum := "16191de8697c7906a412277d391e7ffc1b1201afeb8c2144e5ea2a68558c23ce", func := "quintet/quintetlaw01.BitsAlike", spec := "bitsAlike", inPlace := ["internal/abi.NoEscape"], named := ["quintet/bits.nibbles"], apart := false, laid := [("quintet/bits.nibbles", laid_quintet_bits_nibbles)], narrowed := true }
def BitsAlikeUptoSaid : Prop := bitsAlikeUptoRow.holds Tryd.pinned (OpenSpec.upto bitsAlikeSpec)

end Rows
end Go.Proofs.YtmmaciegboodlaaDoor
