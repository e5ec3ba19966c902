/- What disks and graphs that can be read as data look like in memory. No statement of the seat is proved here. -/
import Derived.Test.YtlanonimjbhjnaaRows
import Derived.WalkKit
import Derived.ProofKit
import Derived.Lib.SmallJoins
import Derived.Handy
import Derived.Test.YtlanonimjbhjnaaLib
import Derived.Test.YtlanonimjbhjnaaOwn
import Derived.Test.YtlanonimjbhjnaaReads
set_option linter.unusedSimpArgs false
set_option linter.unusedVariables false
namespace Go.Proofs.Ytlanonimjbhjnaa
open Go.ChangeShapes Go.WideShapes Go.ChangeAt Go.RowKit

section
variable {H : Type} {enc : TypeId × Value → H} {W : World} {base fuel : Nat} {spare : Nat → Bool} {held : Bool} {cs : List Value} {x : DataW H × List MemPlace}
theorem rd_slI (h : DataW.trod enc Try.prog W base spare held fuel 32 cs = some x) :
    ∃ ao c xs, cs = [.slice ao xs.length c] ∧ Src W ao xs.length 1 (iv xs) ∧ (∀ z ∈ xs, I64 z) ∧ xs.length ≤ maxLen := by
  obtain ⟨ao, c, b, o, xs, h1, ha, hi, hz, hl, hm⟩ := rd_ints h
  exact ⟨ao, c, xs, h1, hi.src ha, hz, by omega⟩

theorem rd_disk (h : DataW.trod enc Try.prog W base spare held fuel 61 cs = some x) :
    ∃ a1 c1 xs a2 c2 ys, cs = [.slice a1 xs.length c1, .slice a2 ys.length c2] ∧ Src W a1 xs.length 1 (iv xs) ∧ Src W a2 ys.length 1 (iv ys) ∧ xs.length ≤ maxLen ∧ ys.length ≤ maxLen := by
  obtain ⟨cs0, cs1, x0, x1, n, rfl, _, _, h0, h1⟩ := rd_struct2 (n0 := 1) (n1 := 1) Try.underlying61 ⟨rfl, rfl⟩ ⟨rfl, rfl⟩ (by kernel_rfl) (by kernel_rfl) (by kernel_rfl) h
  obtain ⟨a1, c1, xs, rfl, s1, _, m1⟩ := rd_slI h0
  obtain ⟨a2, c2, ys, rfl, s2, _, m2⟩ := rd_slI h1
  exact ⟨a1, c1, xs, a2, c2, ys, rfl, s1, s2, m1, m2⟩
end
end Go.Proofs.Ytlanonimjbhjnaa
