/-
  DERIVED. GIVEN WITH THE SEED: THE CARDS: each row of YtmmaciegboodlaaDoorRows.lean that lists a variable, with what it lists TIED to the program's text (the seventh form; the later family's looks); each row that meets fmt, with fmt's text TOLD by the authors' own Lean function (tested against real Go, not proved from fmt's source: count such statements apart). THE CARD IS WHAT COUNTS. Prove the row's statement (the work); the ties are given (YtmmaciegboodlaaDoorTie.lean); close each card by the builder's one call (the guide's Derived/Test/ToyasCard.lean, 'card_holds'). Laid BY PROGRAM, IN A SANDBOX (cutbox-door.mjs). By AI agents, Wed Nov 11 2026. No macro, syntax, notation, axiom, sorry.
-/
import Derived.Test.YtmmaciegboodlaaDoorRows
import GoSem.ClaimSeven
namespace Go.Proofs.YtmmaciegboodlaaDoor
namespace Rows

/-- THE TIED CARD OF 'quintetlaw01.BitsHigh'. -/
def bitsHighCard : Claim7 := { stood := { row := bitsHighRow, standIns := [], harness := (true, "197d0a7ee9f9218d990a41bb47fa64c95875af61fe602465969c9e5755d87b63"), looks := false }, kinds := [], alts := [], laidByText := true, laidKinds := [.data], laidTests := true, laidLooks := .later }
def BitsHighCardSaid : Prop := Claim7.holds Tryd.pinned (.plain (OpenSpec.ofChange bitsHighSpec)) bitsHighCard

/-- THE TIED CARD OF 'quintetlaw01.BitsKeeps'. -/
def bitsKeepsCard : Claim7 := { stood := { row := bitsKeepsRow, standIns := [], harness := (true, "197d0a7ee9f9218d990a41bb47fa64c95875af61fe602465969c9e5755d87b63"), looks := false }, kinds := [], alts := [], laidByText := true, laidKinds := [.data], laidTests := true, laidLooks := .later }
def BitsKeepsCardSaid : Prop := Claim7.holds Tryd.pinned (.plain (OpenSpec.ofChange bitsKeepsSpec)) bitsKeepsCard

/-- THE TIED CARD OF 'quintetlaw01.BitsAt'. -/
def bitsAtCard : Claim7 := { stood := { row := bitsAtRow, standIns := [], harness := (true, "197d0a7ee9f9218d990a41bb47fa64c95875af61fe602465969c9e5755d87b63"), looks := false }, kinds := [], alts := [], laidByText := true, laidKinds := [.data], laidTests := true, laidLooks := .later }
def BitsAtCardSaid : Prop := Claim7.holds Tryd.pinned (.plain (OpenSpec.ofChange bitsAtSpec)) bitsAtCard

/-- THE TIED CARD OF 'quintetlaw01.BitsSame'. -/
def bitsSameCard : Claim7 := { stood := { row := bitsSameRow, standIns := [], harness := (true, "197d0a7ee9f9218d990a41bb47fa64c95875af61fe602465969c9e5755d87b63"), looks := false }, kinds := [], alts := [], laidByText := true, laidKinds := [.data], laidTests := true, laidLooks := .later }
def BitsSameCardSaid : Prop := Claim7.holds Tryd.pinned (.plain (OpenSpec.ofChange bitsSameSpec)) bitsSameCard

/-- THE TIED CARD OF 'quintetlaw01.BitsCounts'. -/
def bitsCountsCard : Claim7 := { stood := { row := bitsCountsRow, standIns := [], harness := (true, "197d0a7ee9f9218d990a41bb47fa64c95875af61fe602465969c9e5755d87b63"), looks := false }, kinds := [], alts := [], laidByText := true, laidKinds := [.data], laidTests := true, laidLooks := .later }
def BitsCountsCardSaid : Prop := Claim7.holds Tryd.pinned (.plain (OpenSpec.ofChange bitsCountsSpec)) bitsCountsCard

/-- THE TIED CARD OF 'quintetlaw01.BitsText'. -/
def bitsTextCard : Claim7 := { stood := { row := bitsTextRow, standIns := [], harness := (true, "197d0a7ee9f9218d990a41bb47fa64c95875af61fe602465969c9e5755d87b63"), looks := false }, kinds := [], alts := [], laidByText := true, laidKinds := [.data], laidTests := true, laidLooks := .later }
def BitsTextCardSaid : Prop := Claim7.holds Tryd.pinned (.plain (OpenSpec.ofChange bitsTextSpec)) bitsTextCard

/-- THE TIED CARD OF 'quintetlaw01.BitsAlike'. -/
def bitsAlikeCard : Claim7 := { stood := { row := bitsAlikeRow, standIns := [], harness := (true, "197d0a7ee9f9218d990a41bb47fa64c95875af61fe602465969c9e5755d87b63"), looks := false }, kinds := [], alts := [], laidByText := true, laidKinds := [.data], laidTests := true, laidLooks := .later }
def BitsAlikeCardSaid : Prop := Claim7.holds Tryd.pinned (.plain (OpenSpec.ofChange bitsAlikeSpec)) bitsAlikeCard

/-- THE SECOND FORM's CARD OF 'quintetlaw01.BitsHigh'. -/
def bitsHighUptoCard : Claim7 := { stood := { row := bitsHighUptoRow, standIns := [], harness := (true, "197d0a7ee9f9218d990a41bb47fa64c95875af61fe602465969c9e5755d87b63"), looks := false }, kinds := [], alts := [], laidByText := true, laidKinds := [.data], laidTests := true, laidLooks := .later }
def BitsHighUptoCardSaid : Prop := Claim7.holds Tryd.pinned (.plain (OpenSpec.upto bitsHighSpec)) bitsHighUptoCard

/-- THE SECOND FORM's CARD OF 'quintetlaw01.BitsKeeps'. -/
def bitsKeepsUptoCard : Claim7 := { stood := { row := bitsKeepsUptoRow, standIns := [], harness := (true, "197d0a7ee9f9218d990a41bb47fa64c95875af61fe602465969c9e5755d87b63"), looks := false }, kinds := [], alts := [], laidByText := true, laidKinds := [.data], laidTests := true, laidLooks := .later }
def BitsKeepsUptoCardSaid : Prop := Claim7.holds Tryd.pinned (.plain (OpenSpec.upto bitsKeepsSpec)) bitsKeepsUptoCard

/-- THE SECOND FORM's CARD OF 'quintetlaw01.BitsAt'. -/
def bitsAtUptoCard : Claim7 := { stood := { row := bitsAtUptoRow, standIns := [], harness := (true, "197d0a7ee9f9218d990a41bb47fa64c95875af61fe602465969c9e5755d87b63"), looks := false }, kinds := [], alts := [], laidByText := true, laidKinds := [.data], laidTests := true, laidLooks := .later }
def BitsAtUptoCardSaid : Prop := Claim7.holds Tryd.pinned (.plain (OpenSpec.upto bitsAtSpec)) bitsAtUptoCard

/-- THE SECOND FORM's CARD OF 'quintetlaw01.BitsSame'. -/
def bitsSameUptoCard : Claim7 := { stood := { row := bitsSameUptoRow, standIns := [], harness := (true, "197d0a7ee9f9218d990a41bb47fa64c95875af61fe602465969c9e5755d87b63"), looks := false }, kinds := [], alts := [], laidByText := true, laidKinds := [.data], laidTests := true, laidLooks := .later }
def BitsSameUptoCardSaid : Prop := Claim7.holds Tryd.pinned (.plain (OpenSpec.upto bitsSameSpec)) bitsSameUptoCard

/-- THE SECOND FORM's CARD OF 'quintetlaw01.BitsCounts'. -/
def bitsCountsUptoCard : Claim7 := { stood := { row := bitsCountsUptoRow, standIns := [], harness := (true, "197d0a7ee9f9218d990a41bb47fa64c95875af61fe602465969c9e5755d87b63"), looks := false }, kinds := [], alts := [], laidByText := true, laidKinds := [.data], laidTests := true, laidLooks := .later }
def BitsCountsUptoCardSaid : Prop := Claim7.holds Tryd.pinned (.plain (OpenSpec.upto bitsCountsSpec)) bitsCountsUptoCard

/-- THE SECOND FORM's CARD OF 'quintetlaw01.BitsText'. -/
def bitsTextUptoCard : Claim7 := { stood := { row := bitsTextUptoRow, standIns := [], harness := (true, "197d0a7ee9f9218d990a41bb47fa64c95875af61fe602465969c9e5755d87b63"), looks := false }, kinds := [], alts := [], laidByText := true, laidKinds := [.data], laidTests := true, laidLooks := .later }
def BitsTextUptoCardSaid : Prop := Claim7.holds Tryd.pinned (.plain (OpenSpec.upto bitsTextSpec)) bitsTextUptoCard

/-- THE SECOND FORM's CARD OF 'quintetlaw01.BitsAlike'. -/
def bitsAlikeUptoCard : Claim7 := { stood := { row := bitsAlikeUptoRow, standIns := [], harness := (true, "197d0a7ee9f9218d990a41bb47fa64c95875af61fe602465969c9e5755d87b63"), looks := false }, kinds := [], alts := [], laidByText := true, laidKinds := [.data], laidTests := true, laidLooks := .later }
def BitsAlikeUptoCardSaid : Prop := Claim7.holds Tryd.pinned (.plain (OpenSpec.upto bitsAlikeSpec)) bitsAlikeUptoCard
end Rows
end Go.Proofs.YtmmaciegboodlaaDoor
