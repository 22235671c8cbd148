/-
  DERIVED. GIVEN WITH THE SEED: THE CARDS: each row of YtiamcdbnhmlhaaaDoorRows.lean that lists a variable, with what it lists TIED to the program's text (the seventh form; the later family's looks); each row that meets fmt, with fmt's text TOLD by the authors' own Lean function (tested against real Go, not proved from fmt's source: count such statements apart). THE CARD IS WHAT COUNTS. Prove the row's statement (the work); the ties are given (YtiamcdbnhmlhaaaDoorTie.lean); close each card by the builder's one call (the guide's Derived/Test/ToyasCard.lean, 'card_holds'). Laid BY PROGRAM, IN A SANDBOX (cutbox-door.mjs). By AI agents, Wed Nov 11 2026. No macro, syntax, notation, axiom, sorry.
-/
import Derived.Test.YtiamcdbnhmlhaaaDoorRows
import GoSem.ClaimSeven
namespace Go.Proofs.YtiamcdbnhmlhaaaDoor
namespace Rows

/-- THE TIED CARD OF 'crossbarlaw15.NackRight'. -/
def nackRightCard : Claim7 := { stood := { row := nackRightRow, standIns := [], harness := (true, "046de7403189887092d11bdc89c3bcbd724030bd22401ec967d65eba670ce720"), looks := false }, kinds := [], alts := [], laidByText := true, laidKinds := [.data], laidTests := true, laidLooks := .later }
def NackRightCardSaid : Prop := Claim7.holds Tryd.pinned (.plain (OpenSpec.ofChange nackRightSpec)) nackRightCard

/-- THE TIED CARD OF 'crossbarlaw15.NackMany'. -/
def nackManyCard : Claim7 := { stood := { row := nackManyRow, standIns := [], harness := (true, "046de7403189887092d11bdc89c3bcbd724030bd22401ec967d65eba670ce720"), looks := false }, kinds := [], alts := [], laidByText := true, laidKinds := [.data], laidTests := true, laidLooks := .later }
def NackManyCardSaid : Prop := Claim7.holds Tryd.pinned (.plain (OpenSpec.ofChange nackManySpec)) nackManyCard

/-- THE TIED CARD OF 'crossbarlaw15.NackBack'. -/
def nackBackCard : Claim7 := { stood := { row := nackBackRow, standIns := [], harness := (true, "046de7403189887092d11bdc89c3bcbd724030bd22401ec967d65eba670ce720"), looks := false }, kinds := [], alts := [], laidByText := true, laidKinds := [.data], laidTests := true, laidLooks := .later }
def NackBackCardSaid : Prop := Claim7.holds Tryd.pinned (.plain (OpenSpec.ofChange nackBackSpec)) nackBackCard

/-- THE TIED CARD OF 'crossbarlaw15.NackJoins'. -/
def nackJoinsCard : Claim7 := { stood := { row := nackJoinsRow, standIns := [], harness := (true, "046de7403189887092d11bdc89c3bcbd724030bd22401ec967d65eba670ce720"), looks := false }, kinds := [], alts := [], laidByText := true, laidKinds := [.data], laidTests := true, laidLooks := .later }
def NackJoinsCardSaid : Prop := Claim7.holds Tryd.pinned (.plain (OpenSpec.ofChange nackJoinsSpec)) nackJoinsCard

/-- THE SECOND FORM's CARD OF 'crossbarlaw15.NackRight'. -/
def nackRightUptoCard : Claim7 := { stood := { row := nackRightUptoRow, standIns := [], harness := (true, "046de7403189887092d11bdc89c3bcbd724030bd22401ec967d65eba670ce720"), looks := false }, kinds := [], alts := [], laidByText := true, laidKinds := [.data], laidTests := true, laidLooks := .later }
def NackRightUptoCardSaid : Prop := Claim7.holds Tryd.pinned (.plain (OpenSpec.upto nackRightSpec)) nackRightUptoCard

/-- THE SECOND FORM's CARD OF 'crossbarlaw15.NackMany'. -/
def nackManyUptoCard : Claim7 := { stood := { row := nackManyUptoRow, standIns := [], harness := (true, "046de7403189887092d11bdc89c3bcbd724030bd22401ec967d65eba670ce720"), looks := false }, kinds := [], alts := [], laidByText := true, laidKinds := [.data], laidTests := true, laidLooks := .later }
def NackManyUptoCardSaid : Prop := Claim7.holds Tryd.pinned (.plain (OpenSpec.upto nackManySpec)) nackManyUptoCard

/-- THE SECOND FORM's CARD OF 'crossbarlaw15.NackBack'. -/
def nackBackUptoCard : Claim7 := { stood := { row := nackBackUptoRow, standIns := [], harness := (true, "046de7403189887092d11bdc89c3bcbd724030bd22401ec967d65eba670ce720"), looks := false }, kinds := [], alts := [], laidByText := true, laidKinds := [.data], laidTests := true, laidLooks := .later }
def NackBackUptoCardSaid : Prop := Claim7.holds Tryd.pinned (.plain (OpenSpec.upto nackBackSpec)) nackBackUptoCard

/-- THE SECOND FORM's CARD OF 'crossbarlaw15.NackJoins'. -/
def nackJoinsUptoCard : Claim7 := { stood := { row := nackJoinsUptoRow, standIns := [], harness := (true, "046de7403189887092d11bdc89c3bcbd724030bd22401ec967d65eba670ce720"), looks := false }, kinds := [], alts := [], laidByText := true, laidKinds := [.data], laidTests := true, laidLooks := .later }
def NackJoinsUptoCardSaid : Prop := Claim7.holds Tryd.pinned (.plain (OpenSpec.upto nackJoinsSpec)) nackJoinsUptoCard
end Rows
end Go.Proofs.YtiamcdbnhmlhaaaDoor
