/- Services that can be read as data, by states. No statement of the seat is proved here. -/
import Derived.Lib.Hide
import Derived.Test.YtmkecjamfippfaaRxTy
import Derived.Test.YtmkecjamfippfaaRxAFrame
import Derived.Test.YtmkecjamfippfaaRxASvc
set_option linter.unusedSimpArgs false
set_option linter.unusedVariables false
namespace Go.Proofs.Ytmkecjamfippfaa.Abs
open Go.RowKit
open R (val row ref)
open Go.ChangeShapes Go.WideShapes Go.ChangeAt
section
variable {H : Type} {enc : TypeId × Value → H} {W : World} {base : Nat} {spare : Nat → Bool} {held : Bool}
theorem rdr_disk : Rdr enc W base spare held 40 ((Bool × List Int) × (Bool × List Int)) (fun z => diskP z.1.1 z.1.2 z.2.1 z.2.2) (fun z => z.1.2.length ≤ maxLen ∧ z.2.2.length ≤ maxLen) :=
  (rdr_two (n0 := 1) (n1 := 1) rdr_ints rdr_ints Try.underlying40 ⟨rfl, rfl⟩ ⟨rfl, rfl⟩ (by kernel_rfl) (by kernel_rfl) (by kernel_rfl)).turn (fun _ => rfl) (fun _ h => ⟨h.1.1, h.2.1⟩)
end
end Go.Proofs.Ytmkecjamfippfaa.Abs
