/-
  DERIVED. GIVEN WITH THE SEED: THE CARDS: each row of YtghlfpeifdikkaaDoorRows.lean that lists a variable, with what it lists TIED to the program's text (the seventh form; the later family's looks); each row that meets fmt, with fmt's text TOLD by the authors' own Lean function (tested against real Go, not proved from fmt's source: count such statements apart). THE CARD IS WHAT COUNTS. Prove the row's statement (the work); the ties are given (YtghlfpeifdikkaaDoorTie.lean); close each card by the builder's one call (the guide's Derived/Test/ToyasCard.lean, 'card_holds'). Laid BY PROGRAM, IN A SANDBOX (cutbox-door.mjs). By AI agents, Wed Nov 11 2026. No macro, syntax, notation, axiom, sorry.
-/
import Derived.Test.YtghlfpeifdikkaaDoorRows
import GoSem.ClaimSeven
namespace Go.Proofs.YtghlfpeifdikkaaDoor
namespace Rows

/-- THE TIED CARD OF 'quintetlaw09.LexAll'. -/
def lexAllCard : Claim7 := { stood := { row := lexAllRow, standIns := [], harness := (true, "349f7817f26d44ae6cb5e07b76d032b1f0903543640c1ed636be6fb789481925"), looks := true }, kinds := [], alts := [], laidByText := true, laidKinds := [.handle], laidTests := true, laidLooks := .later }
def LexAllCardSaid : Prop := Claim7.holds Tryd.pinned (.plain (OpenSpec.ofChange lexAllSpec)) lexAllCard

/-- THE TIED CARD OF 'quintetlaw09.LexTells'. -/
def lexTellsCard : Claim7 := { stood := { row := lexTellsRow, standIns := [], harness := (true, "349f7817f26d44ae6cb5e07b76d032b1f0903543640c1ed636be6fb789481925"), looks := true }, kinds := [], alts := [], laidByText := true, laidKinds := [.handle], laidTests := true, laidLooks := .later }
def LexTellsCardSaid : Prop := Claim7.holds Tryd.pinned (.plain (OpenSpec.ofChange lexTellsSpec)) lexTellsCard

/-- THE TIED CARD OF 'quintetlaw09.LexScans'. -/
def lexScansCard : Claim7 := { stood := { row := lexScansRow, standIns := [], harness := (true, "349f7817f26d44ae6cb5e07b76d032b1f0903543640c1ed636be6fb789481925"), looks := true }, kinds := [], alts := [], laidByText := true, laidKinds := [.handle], laidTests := true, laidLooks := .later }
def LexScansCardSaid : Prop := Claim7.holds Tryd.pinned (.plain (OpenSpec.ofChange lexScansSpec)) lexScansCard

/-- THE TIED CARD OF 'quintetlaw09.LexNil'. -/
def lexNilCard : Claim7 := { stood := { row := lexNilRow, standIns := [], harness := (true, "349f7817f26d44ae6cb5e07b76d032b1f0903543640c1ed636be6fb789481925"), looks := true }, kinds := [], alts := [], laidByText := true, laidKinds := [.handle], laidTests := true, laidLooks := .later }
def LexNilCardSaid : Prop := Claim7.holds Tryd.pinned (.plain (OpenSpec.ofChange lexNilSpec)) lexNilCard

/-- THE TIED CARD OF 'quintetlaw09.LexJoins'. -/
def lexJoinsCard : Claim7 := { stood := { row := lexJoinsRow, standIns := [], harness := (true, "349f7817f26d44ae6cb5e07b76d032b1f0903543640c1ed636be6fb789481925"), looks := true }, kinds := [], alts := [], laidByText := true, laidKinds := [.handle], laidTests := true, laidLooks := .later }
def LexJoinsCardSaid : Prop := Claim7.holds Tryd.pinned (.plain (OpenSpec.ofChange lexJoinsSpec)) lexJoinsCard

/-- THE TIED CARD OF 'quintetlaw09.LexEnds'. -/
def lexEndsCard : Claim7 := { stood := { row := lexEndsRow, standIns := [], harness := (true, "349f7817f26d44ae6cb5e07b76d032b1f0903543640c1ed636be6fb789481925"), looks := true }, kinds := [], alts := [], laidByText := true, laidKinds := [.handle], laidTests := true, laidLooks := .later }
def LexEndsCardSaid : Prop := Claim7.holds Tryd.pinned (.plain (OpenSpec.ofChange lexEndsSpec)) lexEndsCard

/-- THE SECOND FORM's CARD OF 'quintetlaw09.LexAll'. -/
def lexAllUptoCard : Claim7 := { stood := { row := lexAllUptoRow, standIns := [], harness := (true, "349f7817f26d44ae6cb5e07b76d032b1f0903543640c1ed636be6fb789481925"), looks := true }, kinds := [], alts := [], laidByText := true, laidKinds := [.handle], laidTests := true, laidLooks := .later }
def LexAllUptoCardSaid : Prop := Claim7.holds Tryd.pinned (.plain (OpenSpec.upto lexAllSpec)) lexAllUptoCard

/-- THE SECOND FORM's CARD OF 'quintetlaw09.LexTells'. -/
def lexTellsUptoCard : Claim7 := { stood := { row := lexTellsUptoRow, standIns := [], harness := (true, "349f7817f26d44ae6cb5e07b76d032b1f0903543640c1ed636be6fb789481925"), looks := true }, kinds := [], alts := [], laidByText := true, laidKinds := [.handle], laidTests := true, laidLooks := .later }
def LexTellsUptoCardSaid : Prop := Claim7.holds Tryd.pinned (.plain (OpenSpec.upto lexTellsSpec)) lexTellsUptoCard

/-- THE SECOND FORM's CARD OF 'quintetlaw09.LexScans'. -/
def lexScansUptoCard : Claim7 := { stood := { row := lexScansUptoRow, standIns := [], harness := (true, "349f7817f26d44ae6cb5e07b76d032b1f0903543640c1ed636be6fb789481925"), looks := true }, kinds := [], alts := [], laidByText := true, laidKinds := [.handle], laidTests := true, laidLooks := .later }
def LexScansUptoCardSaid : Prop := Claim7.holds Tryd.pinned (.plain (OpenSpec.upto lexScansSpec)) lexScansUptoCard

/-- THE SECOND FORM's CARD OF 'quintetlaw09.LexNil'. -/
def lexNilUptoCard : Claim7 := { stood := { row := lexNilUptoRow, standIns := [], harness := (true, "349f7817f26d44ae6cb5e07b76d032b1f0903543640c1ed636be6fb789481925"), looks := true }, kinds := [], alts := [], laidByText := true, laidKinds := [.handle], laidTests := true, laidLooks := .later }
def LexNilUptoCardSaid : Prop := Claim7.holds Tryd.pinned (.plain (OpenSpec.upto lexNilSpec)) lexNilUptoCard

/-- THE SECOND FORM's CARD OF 'quintetlaw09.LexJoins'. -/
def lexJoinsUptoCard : Claim7 := { stood := { row := lexJoinsUptoRow, standIns := [], harness := (true, "349f7817f26d44ae6cb5e07b76d032b1f0903543640c1ed636be6fb789481925"), looks := true }, kinds := [], alts := [], laidByText := true, laidKinds := [.handle], laidTests := true, laidLooks := .later }
def LexJoinsUptoCardSaid : Prop := Claim7.holds Tryd.pinned (.plain (OpenSpec.upto lexJoinsSpec)) lexJoinsUptoCard

/-- THE SECOND FORM's CARD OF 'quintetlaw09.LexEnds'. -/
def lexEndsUptoCard : Claim7 := { stood := { row := lexEndsUptoRow, standIns := [], harness := (true, "349f7817f26d44ae6cb5e07b76d032b1f0903543640c1ed636be6fb789481925"), looks := true }, kinds := [], alts := [], laidByText := true, laidKinds := [.handle], laidTests := true, laidLooks := .later }
def LexEndsUptoCardSaid : Prop := Claim7.holds Tryd.pinned (.plain (OpenSpec.upto lexEndsSpec)) lexEndsUptoCard
end Rows
end Go.Proofs.YtghlfpeifdikkaaDoor
