/- Hops, as plain data: what least numbers of edges are; the checks of HopsRight say just that. No statement of the seat is proved here. -/
import Derived.Test.YtlobefglhppbdaaGreatDoorCtHopsR
set_option linter.unusedSimpArgs false
set_option linter.unusedVariables false
namespace Go.Proofs.YtlobefglhppbdaaGreatDoor
def Inside (m : Nat) (es : List E3) : Prop := ∀ e ∈ es, (0 ≤ e.1 ∧ e.1 < (m : Int)) ∧ (0 ≤ e.2.1 ∧ e.2.1 < (m : Int))
def setv (xs : List Int) (v x : Int) : List Int := xs.set v.toNat x
theorem setv_len (xs : List Int) (v x : Int) : (setv xs v x).length = xs.length := by unfold setv; simp
theorem val_setv {xs : List Int} {v x u : Int} (h0 : 0 ≤ v) (h1 : v < xs.length) (g0 : 0 ≤ u) : val (setv xs v x) u = if u = v then x else val xs u := by
  unfold val setv
  by_cases h : u = v
  · subst h
    rw [if_pos rfl, List.getD_eq_getElem?_getD, List.getElem?_set_self (by omega)]; rfl
  · rw [if_neg h, List.getD_eq_getElem?_getD, List.getElem?_set_ne (by omega), ← List.getD_eq_getElem?_getD]
end Go.Proofs.YtlobefglhppbdaaGreatDoor
set_option linter.unusedSimpArgs false
set_option linter.unusedVariables false
namespace Go.Proofs.YtlobefglhppbdaaGreatDoor
def unset (xs : List Int) : Nat := xs.count (-1)
theorem unset_setv {xs : List Int} {u x : Int} (h0 : 0 ≤ u) (h1 : u < xs.length) (hu : val xs u = -1) (hx : x ≠ -1) : unset (setv xs u x) + 1 = unset xs := by
  unfold unset setv
  have hl : u.toNat < xs.length := by omega
  have hg : xs[u.toNat] = -1 := by
    unfold val at hu
    simpa [List.getD_eq_getElem?_getD, hl] using hu
  have hc : 0 < xs.count (-1) := List.count_pos_iff.2 (hg ▸ List.getElem_mem hl)
  rw [List.count_set (by omega)]
  have e1 : (xs[u.toNat] == (-1 : Int)) = true := by rw [hg]; rfl
  have e2 : (x == (-1 : Int)) = false := by simpa using hx
  rw [e1, e2]
  simp only [if_true, Bool.false_eq_true, if_false]
  omega
end Go.Proofs.YtlobefglhppbdaaGreatDoor
