/- HopsRight of the program: its parts. No statement of the seat is proved here. -/
import Derived.Deep.RegionHeld3
import Derived.Test.YthjnidcmhegoeaaDoorRows
import Derived.WalkKit
import Derived.WalkSpells
import Derived.WalkLawsBesides
import Derived.Lib.Hide
import Derived.Handy
import Derived.BigQuiet
import Derived.Deep.QuietTactic
import Derived.Test.YthjnidcmhegoeaaDoorLib
import Derived.Test.YthjnidcmhegoeaaDoorOwn
import Derived.Test.YthjnidcmhegoeaaDoorJobs
import Derived.Test.YthjnidcmhegoeaaDoorCodes3
import Derived.Test.YthjnidcmhegoeaaDoorFrames2
import Derived.Test.YthjnidcmhegoeaaDoorGraphs
import Derived.Test.YthjnidcmhegoeaaDoorGValid
import Derived.Test.YthjnidcmhegoeaaDoorHopsR
import Derived.Test.YthjnidcmhegoeaaDoorMasks
set_option linter.unusedSimpArgs false
set_option linter.unusedVariables false
namespace Go.Proofs.YthjnidcmhegoeaaDoor
open Go.RowKit

/-! ## HopsI -/
/-! ## HopsI2 -/
def hopsOk (m : Int) (es : List E3) (s : Int) (vs : List Int) : Bool := gOk m es && hasV m s && decide ((vs.length : Int) = m) && hopsI vs.length es s vs
theorem vset_all {n : Nat} (p : Int → Bool) : (vset n).all p = ((List.range n).all fun (i : Nat) => p (i : Int)) := by
  unfold vset
  rw [List.all_map]
  rfl

theorem hopsI_no1 {n : Nat} {es : List E3} {s : Int} {vs : List Int} {k : Nat} (hk : k < n) (h : c1 s vs k = false) : hopsI n es s vs = false := by
  unfold hopsI
  rw [show (vset n).all (c1 s vs) = false from ?_]
  · rfl
  · rw [List.all_eq_false]
    exact ⟨k, mem_vset.2 ⟨by omega, by omega⟩, by simp [h]⟩
/-- Does an edge give vertex u its bit? -/
def lkB (vs : List Int) (u : Int) (e : E3) : Bool := decide (0 < val vs e.2.1) && (decide (e.2.1 = u) && decide (val vs e.1 = val vs e.2.1 - 1))
theorem lkB_lk (vs : List Int) (es : List E3) (u : Int) (h : 0 < val vs u) : es.any (lkB vs u) = es.any (lk vs u) := by
  congr 1
  funext e
  unfold lkB lk
  rw [Bool.eq_iff_iff]
  simp only [Bool.and_eq_true, decide_eq_true_eq]
  constructor
  · rintro ⟨_, h1, h2⟩; subst h1; exact ⟨rfl, h2⟩
  · rintro ⟨h1, h2⟩; subst h1; exact ⟨h, rfl, h2⟩
theorem c1_at (s : Int) (vs : List Int) (k : Nat) : c1 s vs k = (decide (-1 ≤ vs.getD k 0) && (vs.getD k 0 == 0) == ((k : Int) == s)) := by
  unfold c1 val
  rw [Int.toNat_natCast]
  congr 1

end Go.Proofs.YthjnidcmhegoeaaDoor
