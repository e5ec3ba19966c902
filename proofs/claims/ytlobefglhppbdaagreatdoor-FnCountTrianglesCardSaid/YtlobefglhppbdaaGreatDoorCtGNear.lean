/- Neighbours, as plain data: what the masks say. No statement of the seat is proved here. -/
import Derived.Lib.Hide
import Derived.Test.YtlobefglhppbdaaGreatDoorCtTy
import Derived.Test.YtlobefglhppbdaaGreatDoorCtGAdj
import Derived.Test.YtlobefglhppbdaaGreatDoorCtABits
set_option linter.unusedSimpArgs false
set_option linter.unusedVariables false
namespace Go.Proofs.YtlobefglhppbdaaGreatDoor.Abs
open Go.RowKit
open R (val row ref)
theorem addM_bit {ms : List Nat} {a b : Nat} (ha : a < ms.length) (v p : Nat) : ((addM ms a b).getD v 0).testBit p = ((ms.getD v 0).testBit p || (decide (v = a) && decide (p = b))) := by
  unfold addM
  rw [List.getD_eq_getElem?_getD, List.getElem?_set]
  by_cases h : a = v
  · subst h
    rw [if_pos rfl, if_pos ha]
    simp only [Option.getD_some, Nat.testBit_or, Nat.testBit_two_pow]
    simp [eq_comm]
  · rw [if_neg h, List.getD_eq_getElem?_getD]
    have h' : ¬ v = a := fun e => h e.symm
    simp [h']
def toE (a b : Int) (e : E3) : Bool := decide (e.1 = a) && decide (e.2.1 = b)
theorem next_bit (m : Nat) (v p : Nat) : ∀ (es : List E3), (∀ e ∈ es, (0 ≤ e.1 ∧ e.1 < (m : Int)) ∧ (0 ≤ e.2.1 ∧ e.2.1 < (m : Int))) → ∀ ms : List Nat, ms.length = m →
    ((es.foldl (fun ms e => addM ms e.1.toNat e.2.1.toNat) ms).getD v 0).testBit p = ((ms.getD v 0).testBit p || es.any (toE v p))
  | [], _, ms, _ => by simp
  | e :: es, hg, ms, h1 => by
    have := hg e (by simp)
    rw [List.foldl_cons, next_bit m v p es (fun e he => hg e (by simp [he])) _ (by rw [addM_len]; exact h1), addM_bit oM, List.any_cons, Bool.or_assoc]
    congr 2
    unfold toE
    rw [Bool.eq_iff_iff]; simp; omega
theorem near_bit (m : Nat) (v p : Nat) : ∀ (es : List E3), (∀ e ∈ es, (0 ≤ e.1 ∧ e.1 < (m : Int)) ∧ (0 ≤ e.2.1 ∧ e.2.1 < (m : Int))) → ∀ ms : List Nat, ms.length = m →
    ((es.foldl (fun ms e => addM ms e.2.1.toNat e.1.toNat) ms).getD v 0).testBit p = ((ms.getD v 0).testBit p || es.any (toE p v))
  | [], _, ms, _ => by simp
  | e :: es, hg, ms, h1 => by
    have := hg e (by simp)
    rw [List.foldl_cons, near_bit m v p es (fun e he => hg e (by simp [he])) _ (by rw [addM_len]; exact h1), addM_bit oM, List.any_cons, Bool.or_assoc]
    congr 2
    unfold toE
    rw [Bool.eq_iff_iff]; simp; omega
theorem nearM_bit {m : Nat} {es : List E3} (hm : m ≤ 16) (hg : ∀ e ∈ es, (0 ≤ e.1 ∧ e.1 < (m : Int)) ∧ (0 ≤ e.2.1 ∧ e.2.1 < (m : Int))) (v p : Nat) : ((nearM m es).getD v 0).testBit p = adj es v p := by
  have h1 := next_bit m v p es hg (List.replicate m 0) (by simp)
  have hl : (nextM m es).length = m := (next_ok m hm es hg _ (by simp) (fun i => by rw [List.getD_eq_getElem?_getD, List.getElem?_replicate]; split <;> simp)).1
  unfold nearM
  rw [near_bit m v p es hg _ hl]
  unfold nextM
  rw [h1]
  have h0 : ((List.replicate m 0).getD v 0).testBit p = false := by
    rw [List.getD_eq_getElem?_getD, List.getElem?_replicate]; split <;> simp
  rw [h0, Bool.false_or]
  unfold adj adjE
  rw [Bool.eq_iff_iff, Bool.or_eq_true, List.any_eq_true, List.any_eq_true, List.any_eq_true]
  constructor
  · rintro (⟨e, he, h⟩ | ⟨e, he, h⟩)
    · exact ⟨e, he, by unfold toE at h; rw [h]; rfl⟩
    · exact ⟨e, he, by unfold toE at h; rw [h]; simp⟩
  · rintro ⟨e, he, h⟩
    rcases Bool.or_eq_true _ _ ▸ h with h | h
    · exact .inl ⟨e, he, h⟩
    · exact .inr ⟨e, he, h⟩
end Go.Proofs.YtlobefglhppbdaaGreatDoor.Abs
