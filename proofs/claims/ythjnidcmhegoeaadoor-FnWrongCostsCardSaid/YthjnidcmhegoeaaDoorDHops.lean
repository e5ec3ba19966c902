/- The frame of a law whose row lists the table of math/bits. No statement of the seat is proved here. -/
import Derived.Lib.LaidTab
import Derived.LaidMore
import Derived.Lay
import Derived.SevenTiedAt
import Derived.OpenShut
import Derived.Stop.Joined
import Derived.Test.YthjnidcmhegoeaaDoorRows
import Derived.WalkKit
import Derived.ProofKit
import Derived.Lib.SmallJoins
import Derived.Handy
import Derived.Test.YthjnidcmhegoeaaDoorLib
import Derived.Test.YthjnidcmhegoeaaDoorOwn
import Derived.Test.YthjnidcmhegoeaaDoorFrame
import Derived.Test.YthjnidcmhegoeaaDoorReads
import Derived.Test.YthjnidcmhegoeaaDoorCFrame
set_option linter.unusedSimpArgs false
set_option linter.unusedVariables false
namespace Go.Proofs.YthjnidcmhegoeaaDoor
open Go.ChangeShapes Go.WideShapes Go.ChangeAt Go.RowKit

open Go.ChangeShapes Go.WideShapes Go.ChangeAt Go.RowKit
def tabL : List (String × DataW Unit) := [("math/bits.deBruijn32tab", Rows.laid_math_bits_deBruijn32tab)]
theorem glob_of {W : World} (h : laidMetH Tryd.prog tabL W) : Abs.Glob W.heap.size W := by
  rw [MakeChecks.laidMetH_plain _ _ _ (by kernel_rfl)] at h
  have hT := Lib.tabIs_of_head (k := .u8) (zs := Abs.debTab) (g := 0) (t := 161) (e := 5) (n := 32) (rest := []) (by kernel_rfl) (by kernel_rfl) Tryd.underlying161 Tryd.underlying5 (by kernel_rfl) (by kernel_rfl) h
  have hc := fun (i : Nat) (hi : i < 32) => hT.cell (g := 0) (by kernel_rfl) i hi
  exact ⟨Abs.block_lt' (hc 0 (by omega)), hc⟩
end Go.Proofs.YthjnidcmhegoeaaDoor
