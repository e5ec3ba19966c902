/- The laws' own words on graphs and lists of numbers: copies, sizes, tests. No statement of the seat is proved here. -/
import Derived.Lib.Hide
import Derived.Test.YtlobefglhppbdaaGreatDoorCtTy
import Derived.Test.YtlobefglhppbdaaGreatDoorCtADat
import Derived.Test.YtlobefglhppbdaaGreatDoorCtGValid
set_option linter.unusedSimpArgs false
set_option linter.unusedVariables false
namespace Go.Proofs.YtlobefglhppbdaaGreatDoor.Abs
open Go.RowKit
open R (val row ref)
abbrev edgeP (e : E3) : P0 := .agg [int e.1, int e.2.1, int e.2.2]
def edges (es : List E3) : List P0 := es.map edgeP
abbrev graphP (m : Int) (nil : Bool) (es : List E3) : P0 := .agg [int m, row nil 3 (edges es)]
theorem edges_len (es : List E3) : (edges es).length = es.length := List.length_map ..
theorem edges_get {es : List E3} {k : Nat} (h : k < es.length) : (edges es)[k]? = some (edgeP es[k]) := by
  unfold edges; simp [h]
theorem edges_at {es : List E3} {k : Nat} (h : k < es.length) : (edges es)[(k : Int).toNat]? = some (edgeP es[k]) := by
  unfold edges; simp [h]
end Go.Proofs.YtlobefglhppbdaaGreatDoor.Abs
