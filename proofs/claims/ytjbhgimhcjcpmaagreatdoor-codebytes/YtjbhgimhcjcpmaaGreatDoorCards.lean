/-
  DERIVED. GIVEN WITH THE SEED: THE CARDS: each row of YtjbhgimhcjcpmaaGreatDoorRows.lean that lists a variable, with what it lists TIED to the program's text (the seventh form; the later family's looks); each row that meets fmt, with fmt's text TOLD by the authors' own Lean function (tested against real Go, not proved from fmt's source: count such statements apart). THE CARD IS WHAT COUNTS. Prove the row's statement (the work); the ties are given (YtjbhgimhcjcpmaaGreatDoorTie.lean); close each card by the builder's one call (the guide's Derived/Test/ToyasCard.lean, 'card_holds'). Laid BY PROGRAM, IN A SANDBOX (cutbox-door.mjs). By AI agents, Wed Nov 11 2026. No macro, syntax, notation, axiom, sorry.
-/
import Derived.Test.YtjbhgimhcjcpmaaGreatDoorRows
import GoSem.ClaimSeven
namespace Go.Proofs.YtjbhgimhcjcpmaaGreatDoor
namespace Rows

/-- THE TIED CARD OF 'twainlaw19.CodeOwn'. -/
def codeOwnCard : Claim7 := { stood := { row := codeOwnRow, standIns := [], harness := (true, "aad8f7e8bb18db135a4d28440e2ab1f045eb3d39eccc020e2720510902a882e7"), looks := true }, kinds := [], alts := [], laidByText := true, laidKinds := [.handle], laidTests := true, laidLooks := .later }
def CodeOwnCardSaid : Prop := Claim7.holds Tryz.pinned (.plain (OpenSpec.ofChange codeOwnSpec)) codeOwnCard

/-- THE TIED CARD OF 'twainlaw19.CodeBytes'. -/
def codeBytesCard : Claim7 := { stood := { row := codeBytesRow, standIns := [], harness := (true, "aad8f7e8bb18db135a4d28440e2ab1f045eb3d39eccc020e2720510902a882e7"), looks := true }, kinds := [], alts := [], laidByText := true, laidKinds := [.handle], laidTests := true, laidLooks := .later }
def CodeBytesCardSaid : Prop := Claim7.holds Tryz.pinned (.plain (OpenSpec.ofChange codeBytesSpec)) codeBytesCard

/-- THE TIED CARD OF 'twainlaw19.CodePlans'. -/
def codePlansCard : Claim7 := { stood := { row := codePlansRow, standIns := [], harness := (true, "aad8f7e8bb18db135a4d28440e2ab1f045eb3d39eccc020e2720510902a882e7"), looks := true }, kinds := [], alts := [], laidByText := true, laidKinds := [.handle], laidTests := true, laidLooks := .later }
def CodePlansCardSaid : Prop := Claim7.holds Tryz.pinned (.plain (OpenSpec.ofChange codePlansSpec)) codePlansCard

/-- THE SECOND FORM's CARD OF 'twainlaw19.CodeOwn'. -/
def codeOwnUptoCard : Claim7 := { stood := { row := codeOwnUptoRow, standIns := [], harness := (true, "aad8f7e8bb18db135a4d28440e2ab1f045eb3d39eccc020e2720510902a882e7"), looks := true }, kinds := [], alts := [], laidByText := true, laidKinds := [.handle], laidTests := true, laidLooks := .later }
def CodeOwnUptoCardSaid : Prop := Claim7.holds Tryz.pinned (.plain (OpenSpec.upto codeOwnSpec)) codeOwnUptoCard

/-- THE SECOND FORM's CARD OF 'twainlaw19.CodeBytes'. -/
def codeBytesUptoCard : Claim7 := { stood := { row := codeBytesUptoRow, standIns := [], harness := (true, "aad8f7e8bb18db135a4d28440e2ab1f045eb3d39eccc020e2720510902a882e7"), looks := true }, kinds := [], alts := [], laidByText := true, laidKinds := [.handle], laidTests := true, laidLooks := .later }
def CodeBytesUptoCardSaid : Prop := Claim7.holds Tryz.pinned (.plain (OpenSpec.upto codeBytesSpec)) codeBytesUptoCard

/-- THE SECOND FORM's CARD OF 'twainlaw19.CodePlans'. -/
def codePlansUptoCard : Claim7 := { stood := { row := codePlansUptoRow, standIns := [], harness := (true, "aad8f7e8bb18db135a4d28440e2ab1f045eb3d39eccc020e2720510902a882e7"), looks := true }, kinds := [], alts := [], laidByText := true, laidKinds := [.handle], laidTests := true, laidLooks := .later }
def CodePlansUptoCardSaid : Prop := Claim7.holds Tryz.pinned (.plain (OpenSpec.upto codePlansSpec)) codePlansUptoCard
end Rows
end Go.Proofs.YtjbhgimhcjcpmaaGreatDoor
