/-
  DERIVED. GIVEN WITH THE SEED: THE CARDS: each row of YthjnidcmhegoeaaDoorRows.lean that lists a variable, with what it lists TIED to the program's text (the seventh form; the later family's looks); each row that meets fmt, with fmt's text TOLD by the authors' own Lean function (tested against real Go, not proved from fmt's source: count such statements apart). THE CARD IS WHAT COUNTS. Prove the row's statement (the work); the ties are given (YthjnidcmhegoeaaDoorTie.lean); close each card by the builder's one call (the guide's Derived/Test/ToyasCard.lean, 'card_holds'). Laid BY PROGRAM, IN A SANDBOX (cutbox-door.mjs). By AI agents, Wed Nov 11 2026. No macro, syntax, notation, axiom, sorry.
-/
import Derived.Test.YthjnidcmhegoeaaDoorRows
import GoSem.ClaimSeven
namespace Go.Proofs.YthjnidcmhegoeaaDoor
namespace Rows

/-- THE TIED CARD OF 'laws.FnExactJobText'. -/
def fnExactJobTextCard : Claim7 := { stood := { row := fnExactJobTextRow, standIns := [], harness := (true, "90d4287f9771e6198213b5556a3090db84299d980f21d7551ad6f2778c98f8eb"), looks := true }, kinds := [], alts := [], laidByText := true, laidKinds := [.data, .data, .data], laidTests := true, laidLooks := .later }
def FnExactJobTextCardSaid : Prop := Claim7.holds Tryd.pinned (.plain (OpenSpec.ofChange fnExactJobTextSpec)) fnExactJobTextCard

/-- THE TIED CARD OF 'laws.FnJobText'. -/
def fnJobTextCard : Claim7 := { stood := { row := fnJobTextRow, standIns := [], harness := (true, "90d4287f9771e6198213b5556a3090db84299d980f21d7551ad6f2778c98f8eb"), looks := true }, kinds := [], alts := [], laidByText := true, laidKinds := [.data, .data, .data], laidTests := true, laidLooks := .later }
def FnJobTextCardSaid : Prop := Claim7.holds Tryd.pinned (.plain (OpenSpec.ofChange fnJobTextSpec)) fnJobTextCard

/-- THE TIED CARD OF 'laws.FnReadJob'. -/
def fnReadJobCard : Claim7 := { stood := { row := fnReadJobRow, standIns := [], harness := (true, "90d4287f9771e6198213b5556a3090db84299d980f21d7551ad6f2778c98f8eb"), looks := true }, kinds := [], alts := [], laidByText := true, laidKinds := [.data, .data, .data], laidTests := true, laidLooks := .later }
def FnReadJobCardSaid : Prop := Claim7.holds Tryd.pinned (.plain (OpenSpec.ofChange fnReadJobSpec)) fnReadJobCard

/-- THE TIED CARD OF 'laws.FnExactCostParents'. -/
def fnExactCostParentsCard : Claim7 := { stood := { row := fnExactCostParentsRow, standIns := [], harness := (true, "90d4287f9771e6198213b5556a3090db84299d980f21d7551ad6f2778c98f8eb"), looks := true }, kinds := [], alts := [], laidByText := true, laidKinds := [.data], laidTests := true, laidLooks := .later }
def FnExactCostParentsCardSaid : Prop := Claim7.holds Tryd.pinned (.plain (OpenSpec.ofChange fnExactCostParentsSpec)) fnExactCostParentsCard

/-- THE TIED CARD OF 'laws.FnCostParents'. -/
def fnCostParentsCard : Claim7 := { stood := { row := fnCostParentsRow, standIns := [], harness := (true, "90d4287f9771e6198213b5556a3090db84299d980f21d7551ad6f2778c98f8eb"), looks := true }, kinds := [], alts := [], laidByText := true, laidKinds := [.data], laidTests := true, laidLooks := .later }
def FnCostParentsCardSaid : Prop := Claim7.holds Tryd.pinned (.plain (OpenSpec.ofChange fnCostParentsSpec)) fnCostParentsCard

/-- THE TIED CARD OF 'laws.FnCostsFrom'. -/
def fnCostsFromCard : Claim7 := { stood := { row := fnCostsFromRow, standIns := [], harness := (true, "90d4287f9771e6198213b5556a3090db84299d980f21d7551ad6f2778c98f8eb"), looks := true }, kinds := [], alts := [], laidByText := true, laidKinds := [.data], laidTests := true, laidLooks := .later }
def FnCostsFromCardSaid : Prop := Claim7.holds Tryd.pinned (.plain (OpenSpec.ofChange fnCostsFromSpec)) fnCostsFromCard

/-- THE TIED CARD OF 'laws.FnWrongCosts'. -/
def fnWrongCostsCard : Claim7 := { stood := { row := fnWrongCostsRow, standIns := [], harness := (true, "90d4287f9771e6198213b5556a3090db84299d980f21d7551ad6f2778c98f8eb"), looks := true }, kinds := [], alts := [], laidByText := true, laidKinds := [.data], laidTests := true, laidLooks := .later }
def FnWrongCostsCardSaid : Prop := Claim7.holds Tryd.pinned (.plain (OpenSpec.ofChange fnWrongCostsSpec)) fnWrongCostsCard

/-- THE TIED CARD OF 'laws.FnCostsRight'. -/
def fnCostsRightCard : Claim7 := { stood := { row := fnCostsRightRow, standIns := [], harness := (true, "90d4287f9771e6198213b5556a3090db84299d980f21d7551ad6f2778c98f8eb"), looks := true }, kinds := [], alts := [], laidByText := true, laidKinds := [.data], laidTests := true, laidLooks := .later }
def FnCostsRightCardSaid : Prop := Claim7.holds Tryd.pinned (.plain (OpenSpec.ofChange fnCostsRightSpec)) fnCostsRightCard

/-- THE SECOND FORM's CARD OF 'laws.FnExactJobText'. -/
def fnExactJobTextUptoCard : Claim7 := { stood := { row := fnExactJobTextUptoRow, standIns := [], harness := (true, "90d4287f9771e6198213b5556a3090db84299d980f21d7551ad6f2778c98f8eb"), looks := true }, kinds := [], alts := [], laidByText := true, laidKinds := [.data, .data, .data], laidTests := true, laidLooks := .later }
def FnExactJobTextUptoCardSaid : Prop := Claim7.holds Tryd.pinned (.plain (OpenSpec.upto fnExactJobTextSpec)) fnExactJobTextUptoCard

/-- THE SECOND FORM's CARD OF 'laws.FnJobText'. -/
def fnJobTextUptoCard : Claim7 := { stood := { row := fnJobTextUptoRow, standIns := [], harness := (true, "90d4287f9771e6198213b5556a3090db84299d980f21d7551ad6f2778c98f8eb"), looks := true }, kinds := [], alts := [], laidByText := true, laidKinds := [.data, .data, .data], laidTests := true, laidLooks := .later }
def FnJobTextUptoCardSaid : Prop := Claim7.holds Tryd.pinned (.plain (OpenSpec.upto fnJobTextSpec)) fnJobTextUptoCard

/-- THE SECOND FORM's CARD OF 'laws.FnReadJob'. -/
def fnReadJobUptoCard : Claim7 := { stood := { row := fnReadJobUptoRow, standIns := [], harness := (true, "90d4287f9771e6198213b5556a3090db84299d980f21d7551ad6f2778c98f8eb"), looks := true }, kinds := [], alts := [], laidByText := true, laidKinds := [.data, .data, .data], laidTests := true, laidLooks := .later }
def FnReadJobUptoCardSaid : Prop := Claim7.holds Tryd.pinned (.plain (OpenSpec.upto fnReadJobSpec)) fnReadJobUptoCard

/-- THE SECOND FORM's CARD OF 'laws.FnExactCostParents'. -/
def fnExactCostParentsUptoCard : Claim7 := { stood := { row := fnExactCostParentsUptoRow, standIns := [], harness := (true, "90d4287f9771e6198213b5556a3090db84299d980f21d7551ad6f2778c98f8eb"), looks := true }, kinds := [], alts := [], laidByText := true, laidKinds := [.data], laidTests := true, laidLooks := .later }
def FnExactCostParentsUptoCardSaid : Prop := Claim7.holds Tryd.pinned (.plain (OpenSpec.upto fnExactCostParentsSpec)) fnExactCostParentsUptoCard

/-- THE SECOND FORM's CARD OF 'laws.FnCostParents'. -/
def fnCostParentsUptoCard : Claim7 := { stood := { row := fnCostParentsUptoRow, standIns := [], harness := (true, "90d4287f9771e6198213b5556a3090db84299d980f21d7551ad6f2778c98f8eb"), looks := true }, kinds := [], alts := [], laidByText := true, laidKinds := [.data], laidTests := true, laidLooks := .later }
def FnCostParentsUptoCardSaid : Prop := Claim7.holds Tryd.pinned (.plain (OpenSpec.upto fnCostParentsSpec)) fnCostParentsUptoCard

/-- THE SECOND FORM's CARD OF 'laws.FnCostsFrom'. -/
def fnCostsFromUptoCard : Claim7 := { stood := { row := fnCostsFromUptoRow, standIns := [], harness := (true, "90d4287f9771e6198213b5556a3090db84299d980f21d7551ad6f2778c98f8eb"), looks := true }, kinds := [], alts := [], laidByText := true, laidKinds := [.data], laidTests := true, laidLooks := .later }
def FnCostsFromUptoCardSaid : Prop := Claim7.holds Tryd.pinned (.plain (OpenSpec.upto fnCostsFromSpec)) fnCostsFromUptoCard

/-- THE SECOND FORM's CARD OF 'laws.FnWrongCosts'. -/
def fnWrongCostsUptoCard : Claim7 := { stood := { row := fnWrongCostsUptoRow, standIns := [], harness := (true, "90d4287f9771e6198213b5556a3090db84299d980f21d7551ad6f2778c98f8eb"), looks := true }, kinds := [], alts := [], laidByText := true, laidKinds := [.data], laidTests := true, laidLooks := .later }
def FnWrongCostsUptoCardSaid : Prop := Claim7.holds Tryd.pinned (.plain (OpenSpec.upto fnWrongCostsSpec)) fnWrongCostsUptoCard

/-- THE SECOND FORM's CARD OF 'laws.FnCostsRight'. -/
def fnCostsRightUptoCard : Claim7 := { stood := { row := fnCostsRightUptoRow, standIns := [], harness := (true, "90d4287f9771e6198213b5556a3090db84299d980f21d7551ad6f2778c98f8eb"), looks := true }, kinds := [], alts := [], laidByText := true, laidKinds := [.data], laidTests := true, laidLooks := .later }
def FnCostsRightUptoCardSaid : Prop := Claim7.holds Tryd.pinned (.plain (OpenSpec.upto fnCostsRightSpec)) fnCostsRightUptoCard
end Rows
end Go.Proofs.YthjnidcmhegoeaaDoor
