/- Sets of vertices: how many; those below and above a vertex. No statement of the seat is proved here. -/
import Derived.LoopN
import Derived.Deep.Quiet
import Derived.Deep.QuietTactic
import Derived.Lib.BitFns
import Derived.Test.YtlobefglhppbdaaGreatDoorRows
import Derived.WalkKit
import Derived.WalkSpells
import Derived.WalkLawsBesides
import Derived.Lib.Hide
import Derived.Handy
import Derived.BigQuiet
import Derived.Deep.QuietTactic
import Derived.Test.YtlobefglhppbdaaGreatDoorCtLib
import Derived.Test.YtlobefglhppbdaaGreatDoorCtOwn
import Derived.Test.YtlobefglhppbdaaGreatDoorCtJobs
import Derived.Test.YtlobefglhppbdaaGreatDoorCtMasks
set_option linter.unusedSimpArgs false
set_option linter.unusedVariables false
set_option maxRecDepth 100000
set_option maxHeartbeats 1000000
namespace Go.Proofs.YtlobefglhppbdaaGreatDoor
open Go.RowKit
theorem implOnes (x : Int) (w : World) (h0 : 0 ≤ x) (h1 : x ≤ 255) : Calls Tryz.prog 37 #[.int .u32 x] w fun e w' => e = .returned (.int .i64 (Go.Lib.onesCount x.toNat)) ∧ Below w.heap.size w w' := by
  have hs24 : x / 16777216 = 0 := by omega
  have hs16 : x / 65536 = 0 := by omega
  have hs8 : x / 256 = 0 := by omega
  have hA0 : bits .and .u32 0 255 = 0 := by decide
  have hAx : bits .and .u32 x 255 = x := by
    have h := u32_and_nat x.toNat 255 (by omega) (by omega)
    have e : x.toNat &&& 255 = x.toNat := by
      have := Nat.and_two_pow_sub_one_eq_mod x.toNat 8
      simp at this
      rw [this]; omega
    rw [e, Int.toNat_of_nonneg h0] at h
    exact h
  go_enter Tryz.func37, Tryz.ntmps37
  go_wp2
  go_quiet (fail)
  go_wp2
  go_ret
  exact ⟨ret_int (by
    have e0 : Go.Lib.pop8 0 = 0 := by decide +kernel
    have e1 := Go.Lib.pop8_eq ⟨x.toNat, by omega⟩
    have e2 := Go.Lib.onesCount_le8 ⟨x.toNat, by omega⟩
    dsimp only at e1 e2
    rw [Int.toNat_of_nonneg h0] at e1
    rw [e0, e1];omega), (by repeat' (first|(with_reducible exact Below.refl _ _)|(with_reducible assumption)|(with_reducible refine Below.alloc ?_ ?_ _)|(with_reducible refine Below.drew ?_)|(with_reducible refine below_drewN ?_ _)|(with_reducible refine Below.setCell ?_ ?_ _)|(refine bstep (by with_reducible assumption) ?_)|(refine bstep2 (by with_reducible assumption) (by first|omega|(simp;done)|(simp;omega)) ?_)|go_size))⟩
end Go.Proofs.YtlobefglhppbdaaGreatDoor
