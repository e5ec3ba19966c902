/- Frames: CheckSum (the model's), FrameOf, both texts. No statement of the seat is proved here. -/
import Derived.Lib.AppendZerosOnto
import Derived.LoopN
import Derived.Lib.SliceRun
import Derived.Test.YtmkijbfiilpccaaRows
import Derived.WalkKit
import Derived.WalkSpells
import Derived.WalkLawsBesides
import Derived.Lib.Hide
import Derived.Handy
import Derived.BigQuiet
import Derived.Deep.QuietTactic
import Derived.Test.YtmkijbfiilpccaaXlLib
import Derived.Test.YtmkijbfiilpccaaXlOwn
import Derived.Test.YtmkijbfiilpccaaXlJobs
import Derived.Test.YtmkijbfiilpccaaXlCodes3
set_option linter.unusedSimpArgs false
set_option linter.unusedVariables false
set_option maxRecDepth 100000
set_option maxHeartbeats 600000
namespace Go.Proofs.Ytmkijbfiilpccaa
open Go.RowKit
def bodyOk (xs : List Int) : Bool:=bytesOk xs && decide (1 ≤ xs.length) && decide (xs.length ≤ 100)
theorem implBodyValid (ao : Option Addr) (b o c : Nat) (xs : List Int) (w : World) (hl : xs.length ≤ maxLen) (ha : At ao b o xs.length) (h : Ints w b o xs) :
  Calls Try.prog 84 #[.slice ao xs.length c] w fun e w'=>e = .returned (.bool (bodyOk xs)) ∧ w = w':=by
 have hl':=hl
 unfold maxLen at hl'
 cases hv : bytesOk xs
 all_goals
  have HV:=Lib.hid hv
  have HB:=Lib.hid (implBytesValid ao b o c xs w hl ha h)
  rw [hv] at HB
  clear hv
  by_cases h1 : 1 ≤ xs.length
  ·by_cases h2 : xs.length ≤ 100
   ·have i1 : (1 : Int) ≤ xs.length:=by omega
    have i2 : (xs.length : Int) ≤ 100:=by omega
    have d1 : decide ((1 : Int) ≤ xs.length) = true:=by simp; omega
    have d2 : decide ((xs.length : Int) ≤ 100) = true:=by simp; omega
    go_enter Try.func84,Try.ntmps84
    go_wp2_with (first|(go_at_call 77;refine HB.out.mono ?_;rintro e w1 ⟨rfl,rfl⟩))
    go_ret
    exact ⟨Zbb (by simp [bodyOk,HV.out,h1,h2]),rfl⟩
   ·have i1 : (1 : Int) ≤ xs.length:=by omega
    have i2 : ¬ (xs.length : Int) ≤ 100:=by omega
    have i3 : (100 : Int) < xs.length:=by omega
    go_enter Try.func84,Try.ntmps84
    go_wp2_with (first|(go_at_call 77;refine HB.out.mono ?_;rintro e w1 ⟨rfl,rfl⟩))
    go_ret
    exact ⟨Zbb (by simp [bodyOk,HV.out,h1,h2]),rfl⟩
  ·have i1 : ¬ (1 : Int) ≤ xs.length:=by omega
   have i3 : (xs.length : Int) < 1:=by omega
   go_enter Try.func84,Try.ntmps84
   go_wp2_with (first|(go_at_call 77;refine HB.out.mono ?_;rintro e w1 ⟨rfl,rfl⟩))
   go_ret
   exact ⟨Zbb (by simp [bodyOk,h1]),rfl⟩
end Go.Proofs.Ytmkijbfiilpccaa
