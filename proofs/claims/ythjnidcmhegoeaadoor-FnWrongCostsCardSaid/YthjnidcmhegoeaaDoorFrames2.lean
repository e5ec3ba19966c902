/- Frames: CheckSum (the model's), FrameOf, both texts. No statement of the seat is proved here. -/
import Derived.Lib.AppendZerosOnto
import Derived.LoopN
import Derived.Lib.SliceRun
import Derived.Test.YthjnidcmhegoeaaDoorRows
import Derived.WalkKit
import Derived.WalkSpells
import Derived.WalkLawsBesides
import Derived.Lib.Hide
import Derived.Handy
import Derived.BigQuiet
import Derived.Deep.QuietTactic
import Derived.Test.YthjnidcmhegoeaaDoorLib
import Derived.Test.YthjnidcmhegoeaaDoorOwn
import Derived.Test.YthjnidcmhegoeaaDoorJobs
import Derived.Test.YthjnidcmhegoeaaDoorCodes3
set_option linter.unusedSimpArgs false
set_option linter.unusedVariables false
namespace Go.Proofs.YthjnidcmhegoeaaDoor
open Go.RowKit

/-! ## Frames -/
def bodyOk (xs : List Int) : Bool := bytesOk xs && decide (1 ≤ xs.length) && decide (xs.length ≤ 100)
def frameOf (xs : List Int) : List Int := if bodyOk xs then (xs.length : Int) :: xs ++ [sumOf xs] else []
theorem frame_len (xs : List Int) : (frameOf xs).length ≤ 102 := by
  unfold frameOf
  split
  · rename_i h
    simp [bodyOk] at h
    simp; omega
  · simp
theorem frame_pos {xs : List Int} (h : bodyOk xs = true) : (frameOf xs).length = xs.length + 2 := by
  unfold frameOf
  rw [if_pos h]
  simp

/-! ## Frames2 -/
/-- n numbers can be read from the address ao on. -/
abbrev Sl (w : World) (ao : Option Addr) (xs : List Int) : Prop := Src w ao xs.length 1 (iv xs)
theorem Sl.nil (w : World) (ao : Option Addr) : Sl w ao [] := Src.empty _ _ _
theorem Own.sl {w : World} {base n c : Nat} {ao : Option Addr} {xs : List Int} (h : Own w base 3 1 ao n c (iv xs)) : Sl w ao xs := by
  have hn : n = xs.length := by have := h.length_; simp at this; omega
  subst hn
  exact h.src

theorem Own.take_ {w : World} {base E size n c m : Nat} {ao : Option Addr} {cs : List Value} (h : Own w base E size ao n c cs) (hm : m ≤ n) : Own w base E size ao m c (cs.take (m * size)) := by
  have hle : m * size ≤ n * size := Nat.mul_le_mul_right _ hm
  have hl := h.1
  refine ⟨by rw [List.length_take]; omega, ?_⟩
  rcases h.2 with ⟨hv, hn⟩ | ⟨g, cap, cur, hv, hg, hh, hnc, hcm, hcs, ht⟩
  · simp at hv
    exact .inl ⟨by simp [hv]; omega, by omega⟩
  · simp at hv
    refine .inr ⟨g, cap, cur, by simp [hv], hg, hh, by omega, hcm, hcs, ?_⟩
    rw [← ht, List.take_take, Nat.min_eq_left hle]

/-- What a function leaves that hands back numbers in memory of its own. -/
def SlP (w : World) (xs : List Int) (e : Ending) (w' : World) : Prop :=
  ∃ ao c, e = .returned (.slice ao xs.length c) ∧ Own w' w.heap.size 3 1 ao xs.length c (iv xs) ∧ Below w.heap.size w w'

theorem own_cap {E G : Nat} (w : World) (X : Array Value) (hX : X.size = G) (hG : G ≤ maxLen) : Own (w.alloc (.cells X E)).drew w.heap.size E 1 (some ⟨w.heap.size, 0, none⟩) 0 G [] :=
  ⟨by simp, .inr ⟨w.heap.size, G, X, rfl, Nat.le_refl _, heap_alloc_new w _, Nat.zero_le _, hG, by omega, by simp⟩⟩

theorem sz_ints (w : World) : (sizeOf 44).run Tryd.prog w = .ok 1 w := by kernel_rfl

end Go.Proofs.YthjnidcmhegoeaaDoor
