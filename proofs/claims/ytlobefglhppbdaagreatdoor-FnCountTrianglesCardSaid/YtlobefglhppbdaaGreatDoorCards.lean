/-
  DERIVED. GIVEN WITH THE SEED: THE CARDS: each row of YtlobefglhppbdaaGreatDoorRows.lean that lists a variable, with what it lists TIED to the program's text (the seventh form; the later family's looks); each row that meets fmt, with fmt's text TOLD by the authors' own Lean function (tested against real Go, not proved from fmt's source: count such statements apart). THE CARD IS WHAT COUNTS. Prove the row's statement (the work); the ties are given (YtlobefglhppbdaaGreatDoorTie.lean); close each card by the builder's one call (the guide's Derived/Test/ToyasCard.lean, 'card_holds'). Laid BY PROGRAM, IN A SANDBOX (cutbox-door.mjs). By AI agents, Wed Nov 11 2026. No macro, syntax, notation, axiom, sorry.
-/
import Derived.Test.YtlobefglhppbdaaGreatDoorRows
import GoSem.ClaimSeven
namespace Go.Proofs.YtlobefglhppbdaaGreatDoor
namespace Rows

/-- THE TIED CARD OF 'laws.FnCountTriangles'. -/
def fnCountTrianglesCard : Claim7 := { stood := { row := fnCountTrianglesRow, standIns := [], harness := (true, "e54b087ff569df064ef6a3e732cf0b51eacb38c71779e53a565e9143af123798"), looks := false }, kinds := [], alts := [], laidByText := true, laidKinds := [.data], laidTests := true, laidLooks := .later }
def FnCountTrianglesCardSaid : Prop := Claim7.holds Tryz.pinned (.plain (OpenSpec.ofChange fnCountTrianglesSpec)) fnCountTrianglesCard

/-- THE SECOND FORM's CARD OF 'laws.FnCountTriangles'. -/
def fnCountTrianglesUptoCard : Claim7 := { stood := { row := fnCountTrianglesUptoRow, standIns := [], harness := (true, "e54b087ff569df064ef6a3e732cf0b51eacb38c71779e53a565e9143af123798"), looks := false }, kinds := [], alts := [], laidByText := true, laidKinds := [.data], laidTests := true, laidLooks := .later }
def FnCountTrianglesUptoCardSaid : Prop := Claim7.holds Tryz.pinned (.plain (OpenSpec.upto fnCountTrianglesSpec)) fnCountTrianglesUptoCard
end Rows
end Go.Proofs.YtlobefglhppbdaaGreatDoor
