/-
  DERIVED. GIVEN WITH THE SEED: THE CARDS: each row of YtfdaoepbdolgiaaDoorRows.lean that lists a variable, with what it lists TIED to the program's text (the seventh form; the later family's looks); each row that meets fmt, with fmt's text TOLD by the authors' own Lean function (tested against real Go, not proved from fmt's source: count such statements apart). THE CARD IS WHAT COUNTS. Prove the row's statement (the work); the ties are given (YtfdaoepbdolgiaaDoorTie.lean); close each card by the builder's one call (the guide's Derived/Test/ToyasCard.lean, 'card_holds'). Laid BY PROGRAM, IN A SANDBOX (cutbox-door.mjs). By AI agents, Wed Nov 11 2026. No macro, syntax, notation, axiom, sorry.
-/
import Derived.Test.YtfdaoepbdolgiaaDoorRows
import GoSem.ClaimSeven
namespace Go.Proofs.YtfdaoepbdolgiaaDoor
namespace Rows

/-- THE TIED CARD OF 'laws.FnHopsFrom'. -/
def fnHopsFromCard : Claim7 := { stood := { row := fnHopsFromRow, standIns := [], harness := (true, "2446195820e6065cf6ffe296ac45f45e6d34bbdf389326608d0efc74b3a9302c"), looks := false }, kinds := [], alts := [], laidByText := true, laidKinds := [.data], laidTests := true, laidLooks := .later }
def FnHopsFromCardSaid : Prop := Claim7.holds Tryd.pinned (.plain (OpenSpec.ofChange fnHopsFromSpec)) fnHopsFromCard

/-- THE TIED CARD OF 'laws.FnWrongHops'. -/
def fnWrongHopsCard : Claim7 := { stood := { row := fnWrongHopsRow, standIns := [], harness := (true, "2446195820e6065cf6ffe296ac45f45e6d34bbdf389326608d0efc74b3a9302c"), looks := false }, kinds := [], alts := [], laidByText := true, laidKinds := [.data], laidTests := true, laidLooks := .later }
def FnWrongHopsCardSaid : Prop := Claim7.holds Tryd.pinned (.plain (OpenSpec.ofChange fnWrongHopsSpec)) fnWrongHopsCard

/-- THE TIED CARD OF 'laws.FnHopsRight'. -/
def fnHopsRightCard : Claim7 := { stood := { row := fnHopsRightRow, standIns := [], harness := (true, "2446195820e6065cf6ffe296ac45f45e6d34bbdf389326608d0efc74b3a9302c"), looks := false }, kinds := [], alts := [], laidByText := true, laidKinds := [.data], laidTests := true, laidLooks := .later }
def FnHopsRightCardSaid : Prop := Claim7.holds Tryd.pinned (.plain (OpenSpec.ofChange fnHopsRightSpec)) fnHopsRightCard

/-- THE TIED CARD OF 'laws.FnDropVertex'. -/
def fnDropVertexCard : Claim7 := { stood := { row := fnDropVertexRow, standIns := [], harness := (true, "2446195820e6065cf6ffe296ac45f45e6d34bbdf389326608d0efc74b3a9302c"), looks := false }, kinds := [], alts := [], laidByText := true, laidKinds := [.data], laidTests := true, laidLooks := .later }
def FnDropVertexCardSaid : Prop := Claim7.holds Tryd.pinned (.plain (OpenSpec.ofChange fnDropVertexSpec)) fnDropVertexCard

/-- THE TIED CARD OF 'laws.FnDropHops'. -/
def fnDropHopsCard : Claim7 := { stood := { row := fnDropHopsRow, standIns := [], harness := (true, "2446195820e6065cf6ffe296ac45f45e6d34bbdf389326608d0efc74b3a9302c"), looks := false }, kinds := [], alts := [], laidByText := true, laidKinds := [.data], laidTests := true, laidLooks := .later }
def FnDropHopsCardSaid : Prop := Claim7.holds Tryd.pinned (.plain (OpenSpec.ofChange fnDropHopsSpec)) fnDropHopsCard

/-- THE TIED CARD OF 'laws.FnPartsRight'. -/
def fnPartsRightCard : Claim7 := { stood := { row := fnPartsRightRow, standIns := [], harness := (true, "2446195820e6065cf6ffe296ac45f45e6d34bbdf389326608d0efc74b3a9302c"), looks := false }, kinds := [], alts := [], laidByText := true, laidKinds := [.data], laidTests := true, laidLooks := .later }
def FnPartsRightCardSaid : Prop := Claim7.holds Tryd.pinned (.plain (OpenSpec.ofChange fnPartsRightSpec)) fnPartsRightCard

/-- THE TIED CARD OF 'laws.FnPartParents'. -/
def fnPartParentsCard : Claim7 := { stood := { row := fnPartParentsRow, standIns := [], harness := (true, "2446195820e6065cf6ffe296ac45f45e6d34bbdf389326608d0efc74b3a9302c"), looks := false }, kinds := [], alts := [], laidByText := true, laidKinds := [.data], laidTests := true, laidLooks := .later }
def FnPartParentsCardSaid : Prop := Claim7.holds Tryd.pinned (.plain (OpenSpec.ofChange fnPartParentsSpec)) fnPartParentsCard

/-- THE TIED CARD OF 'laws.FnExactPartParents'. -/
def fnExactPartParentsCard : Claim7 := { stood := { row := fnExactPartParentsRow, standIns := [], harness := (true, "2446195820e6065cf6ffe296ac45f45e6d34bbdf389326608d0efc74b3a9302c"), looks := false }, kinds := [], alts := [], laidByText := true, laidKinds := [.data], laidTests := true, laidLooks := .later }
def FnExactPartParentsCardSaid : Prop := Claim7.holds Tryd.pinned (.plain (OpenSpec.ofChange fnExactPartParentsSpec)) fnExactPartParentsCard

/-- THE SECOND FORM's CARD OF 'laws.FnHopsFrom'. -/
def fnHopsFromUptoCard : Claim7 := { stood := { row := fnHopsFromUptoRow, standIns := [], harness := (true, "2446195820e6065cf6ffe296ac45f45e6d34bbdf389326608d0efc74b3a9302c"), looks := false }, kinds := [], alts := [], laidByText := true, laidKinds := [.data], laidTests := true, laidLooks := .later }
def FnHopsFromUptoCardSaid : Prop := Claim7.holds Tryd.pinned (.plain (OpenSpec.upto fnHopsFromSpec)) fnHopsFromUptoCard

/-- THE SECOND FORM's CARD OF 'laws.FnWrongHops'. -/
def fnWrongHopsUptoCard : Claim7 := { stood := { row := fnWrongHopsUptoRow, standIns := [], harness := (true, "2446195820e6065cf6ffe296ac45f45e6d34bbdf389326608d0efc74b3a9302c"), looks := false }, kinds := [], alts := [], laidByText := true, laidKinds := [.data], laidTests := true, laidLooks := .later }
def FnWrongHopsUptoCardSaid : Prop := Claim7.holds Tryd.pinned (.plain (OpenSpec.upto fnWrongHopsSpec)) fnWrongHopsUptoCard

/-- THE SECOND FORM's CARD OF 'laws.FnHopsRight'. -/
def fnHopsRightUptoCard : Claim7 := { stood := { row := fnHopsRightUptoRow, standIns := [], harness := (true, "2446195820e6065cf6ffe296ac45f45e6d34bbdf389326608d0efc74b3a9302c"), looks := false }, kinds := [], alts := [], laidByText := true, laidKinds := [.data], laidTests := true, laidLooks := .later }
def FnHopsRightUptoCardSaid : Prop := Claim7.holds Tryd.pinned (.plain (OpenSpec.upto fnHopsRightSpec)) fnHopsRightUptoCard

/-- THE SECOND FORM's CARD OF 'laws.FnDropVertex'. -/
def fnDropVertexUptoCard : Claim7 := { stood := { row := fnDropVertexUptoRow, standIns := [], harness := (true, "2446195820e6065cf6ffe296ac45f45e6d34bbdf389326608d0efc74b3a9302c"), looks := false }, kinds := [], alts := [], laidByText := true, laidKinds := [.data], laidTests := true, laidLooks := .later }
def FnDropVertexUptoCardSaid : Prop := Claim7.holds Tryd.pinned (.plain (OpenSpec.upto fnDropVertexSpec)) fnDropVertexUptoCard

/-- THE SECOND FORM's CARD OF 'laws.FnDropHops'. -/
def fnDropHopsUptoCard : Claim7 := { stood := { row := fnDropHopsUptoRow, standIns := [], harness := (true, "2446195820e6065cf6ffe296ac45f45e6d34bbdf389326608d0efc74b3a9302c"), looks := false }, kinds := [], alts := [], laidByText := true, laidKinds := [.data], laidTests := true, laidLooks := .later }
def FnDropHopsUptoCardSaid : Prop := Claim7.holds Tryd.pinned (.plain (OpenSpec.upto fnDropHopsSpec)) fnDropHopsUptoCard

/-- THE SECOND FORM's CARD OF 'laws.FnPartsRight'. -/
def fnPartsRightUptoCard : Claim7 := { stood := { row := fnPartsRightUptoRow, standIns := [], harness := (true, "2446195820e6065cf6ffe296ac45f45e6d34bbdf389326608d0efc74b3a9302c"), looks := false }, kinds := [], alts := [], laidByText := true, laidKinds := [.data], laidTests := true, laidLooks := .later }
def FnPartsRightUptoCardSaid : Prop := Claim7.holds Tryd.pinned (.plain (OpenSpec.upto fnPartsRightSpec)) fnPartsRightUptoCard

/-- THE SECOND FORM's CARD OF 'laws.FnPartParents'. -/
def fnPartParentsUptoCard : Claim7 := { stood := { row := fnPartParentsUptoRow, standIns := [], harness := (true, "2446195820e6065cf6ffe296ac45f45e6d34bbdf389326608d0efc74b3a9302c"), looks := false }, kinds := [], alts := [], laidByText := true, laidKinds := [.data], laidTests := true, laidLooks := .later }
def FnPartParentsUptoCardSaid : Prop := Claim7.holds Tryd.pinned (.plain (OpenSpec.upto fnPartParentsSpec)) fnPartParentsUptoCard

/-- THE SECOND FORM's CARD OF 'laws.FnExactPartParents'. -/
def fnExactPartParentsUptoCard : Claim7 := { stood := { row := fnExactPartParentsUptoRow, standIns := [], harness := (true, "2446195820e6065cf6ffe296ac45f45e6d34bbdf389326608d0efc74b3a9302c"), looks := false }, kinds := [], alts := [], laidByText := true, laidKinds := [.data], laidTests := true, laidLooks := .later }
def FnExactPartParentsUptoCardSaid : Prop := Claim7.holds Tryd.pinned (.plain (OpenSpec.upto fnExactPartParentsSpec)) fnExactPartParentsUptoCard
end Rows
end Go.Proofs.YtfdaoepbdolgiaaDoor
