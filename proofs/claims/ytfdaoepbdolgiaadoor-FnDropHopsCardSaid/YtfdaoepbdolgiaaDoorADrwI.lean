/- By states: numbers drawn. No statement of the seat is proved here. -/
import Derived.Test.YtfdaoepbdolgiaaDoorAbsX
import Derived.Test.YtfdaoepbdolgiaaDoorTy
import Derived.Lib.Hide
import Derived.Test.YtfdaoepbdolgiaaDoorADrw
set_option linter.unusedSimpArgs false
set_option linter.unusedVariables false
namespace Go.Proofs.YtfdaoepbdolgiaaDoor.Abs
open Go.RowKit
open R (val row ref)

theorem var2 {E : TypeId} {a b a' b' : Cell} (h1 : a = a') (h2 : b = b') : Ob.var E [a, b] = .var E [a', b'] := by rw [h1, h2]
theorem cAr_own0 {H : Nat → Option Ob} {k n sz : Nat} {E : TypeId} {els : List P0} {new : Bool} (hk : H k = some (.sl E sz new els)) (hn : n = els.length) : CAr H (.own k 0 n sz) (row false sz els) := by
  have := cAr_own (H := H) (j := 0) (n := n) hk (by omega)
  rwa [List.drop_zero, List.take_of_length_le (by omega)] at this
theorem cell_int {m : Bool} {k : IntKind} {a b : Int} (h : a = b) : Cell.r m (.val (.int k a)) = .r m (.val (.int k b)) := by rw [h]
theorem cell_own {k n n' sz : Nat} (h : n = n') : Cell.own k 0 n sz = .own k 0 n' sz := by rw [h]
theorem range_map_len {α : Type} (f : Nat → α) (n : Nat) : ((List.range n).map f).length = n := by simp
/-- A number of l20Ints. -/
noncomputable def intV (bs : List Int) (p top : Int) (i : Nat) : Int := pickV bs (p + 1 + 2 * i) top - (pickV bs (p + 1 + 2 * i + 1) 9).tdiv 8
noncomputable def intsT (bs : List Int) (p top : Int) (n : Nat) : List Int := (List.range n).map (intV bs p top)
theorem intsT_len (bs : List Int) (p top : Int) (n : Nat) : (intsT bs p top n).length = n := range_map_len _ _
theorem intsT_snoc (bs : List Int) (p top : Int) (n : Nat) : intsT bs p top (n + 1) = intsT bs p top n ++ [intV bs p top n] := by unfold intsT; rw [List.range_succ, List.map_append]; rfl
end Go.Proofs.YtfdaoepbdolgiaaDoor.Abs
