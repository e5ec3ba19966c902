/- HopsRight as plain laws: what both texts compute is the same. No statement of the seat is proved here. -/
import Derived.Test.YtlobefglhppbdaaGreatDoorRows
import Derived.WalkKit
import Derived.WalkSpells
import Derived.WalkLawsBesides
import Derived.Lib.Hide
import Derived.Handy
import Derived.BigQuiet
import Derived.Deep.QuietTactic
import Derived.Lib.AppendZerosOnto
import Derived.LoopN
import Derived.Lib.SliceRun
import Derived.Test.YtlobefglhppbdaaGreatDoorCtLib
import Derived.Test.YtlobefglhppbdaaGreatDoorCtOwn
import Derived.Test.YtlobefglhppbdaaGreatDoorCtJobs
import Derived.Test.YtlobefglhppbdaaGreatDoorCtGValid
set_option linter.unusedSimpArgs false
set_option linter.unusedVariables false
namespace Go.Proofs.YtlobefglhppbdaaGreatDoor
open Go.RowKit
def val (vs : List Int) (v : Int) : Int := vs.getD v.toNat 0
def c1 (s : Int) (vs : List Int) (v : Int) : Bool := decide (-1 ≤ val vs v) && (decide (val vs v = 0) == decide (v = s))
theorem chain_valid {P : Int → Bool} : ∀ (es : List E3) (p : Option E3), chain P p es = true → ∀ e ∈ es, P e.1 = true ∧ P e.2.1 = true ∧ e.1 ≠ e.2.1 ∧ 0 ≤ e.2.2 ∧ e.2.2 ≤ 20
  | [], _, _, e, h => by simp at h
  | x :: t, p, h, e, he => by
    simp only [chain, Bool.and_eq_true] at h
    rcases List.mem_cons.1 he with rfl | he
    · have := h.1.1
      simp only [eOk, Bool.and_eq_true, decide_eq_true_eq] at this
      exact ⟨this.1.1.1, this.1.1.2, this.1.2, this.2.1, this.2.2⟩
    · exact chain_valid t _ h.2 e he
theorem gOk_edges {m : Int} {es : List E3} (h : gOk m es = true) : ∀ e ∈ es, (0 ≤ e.1 ∧ e.1 < m) ∧ (0 ≤ e.2.1 ∧ e.2.1 < m) ∧ e.1 ≠ e.2.1 ∧ 0 ≤ e.2.2 ∧ e.2.2 ≤ 20 := by
  intro e he
  simp only [gOk, Bool.and_eq_true] at h
  obtain ⟨h1, h2, h3⟩ := chain_valid es none h.2 e he
  simp only [hasV, decide_eq_true_eq] at h1 h2
  exact ⟨h1, h2, h3⟩
end Go.Proofs.YtlobefglhppbdaaGreatDoor
