/- PartsRight of the reference by states. No statement of the seat is proved here. -/
import Derived.Test.YtknbeakmnkjkhaaTy
import Derived.Lib.Hide
import Derived.Test.YtknbeakmnkjkhaaBParts
import Derived.Test.YtknbeakmnkjkhaaPParts
set_option linter.unusedSimpArgs false
set_option linter.unusedVariables false
namespace Go.Proofs.Ytknbeakmnkjkhaa.Abs
open Go.RowKit
open R (val row ref)

theorem addM_bit {ms : List Nat} {a b : Nat} (ha : a < ms.length) (v p : Nat) : ((addM ms a b).getD v 0).testBit p = ((ms.getD v 0).testBit p || (decide (v = a) && decide (p = b))) := by
  unfold addM
  rw [List.getD_eq_getElem?_getD, List.getElem?_set]
  by_cases h : a = v
  · subst h
    rw [if_pos rfl, if_pos ha]
    simp only [Option.getD_some, Nat.testBit_or, Nat.testBit_two_pow]
    simp [eq_comm]
  · rw [if_neg h, List.getD_eq_getElem?_getD]
    have h' : ¬ v = a := fun e => h e.symm
    simp [h']
def toE (a b : Int) (e : E3) : Bool := decide (e.1 = a) && decide (e.2.1 = b)
theorem next_bit (m : Nat) (v p : Nat) : ∀ (es : List E3), (∀ e ∈ es, (0 ≤ e.1 ∧ e.1 < (m : Int)) ∧ (0 ≤ e.2.1 ∧ e.2.1 < (m : Int))) → ∀ ms : List Nat, ms.length = m →
    ((es.foldl (fun ms e => addM ms e.1.toNat e.2.1.toNat) ms).getD v 0).testBit p = ((ms.getD v 0).testBit p || es.any (toE v p))
  | [], _, ms, _ => by simp
  | e :: es, hg, ms, h1 => by
    have := hg e (by simp)
    rw [List.foldl_cons, next_bit m v p es (fun e he => hg e (by simp [he])) _ (by rw [addM_len]; exact h1), addM_bit (by omega), List.any_cons, Bool.or_assoc]
    congr 2
    unfold toE
    rw [Bool.eq_iff_iff]; simp; omega
theorem near_bit (m : Nat) (v p : Nat) : ∀ (es : List E3), (∀ e ∈ es, (0 ≤ e.1 ∧ e.1 < (m : Int)) ∧ (0 ≤ e.2.1 ∧ e.2.1 < (m : Int))) → ∀ ms : List Nat, ms.length = m →
    ((es.foldl (fun ms e => addM ms e.2.1.toNat e.1.toNat) ms).getD v 0).testBit p = ((ms.getD v 0).testBit p || es.any (toE p v))
  | [], _, ms, _ => by simp
  | e :: es, hg, ms, h1 => by
    have := hg e (by simp)
    rw [List.foldl_cons, near_bit m v p es (fun e he => hg e (by simp [he])) _ (by rw [addM_len]; exact h1), addM_bit (by omega), List.any_cons, Bool.or_assoc]
    congr 2
    unfold toE
    rw [Bool.eq_iff_iff]; simp; omega
theorem nearM_bit {m : Nat} {es : List E3} (hm : m ≤ 16) (hg : ∀ e ∈ es, (0 ≤ e.1 ∧ e.1 < (m : Int)) ∧ (0 ≤ e.2.1 ∧ e.2.1 < (m : Int))) (v p : Nat) : ((nearM m es).getD v 0).testBit p = adj es v p := by
  have h1 := next_bit m v p es hg (List.replicate m 0) (by simp)
  have hl : (nextM m es).length = m := (next_ok m hm es hg _ (by simp) (fun i => by rw [List.getD_eq_getElem?_getD, List.getElem?_replicate]; split <;> simp)).1
  unfold nearM
  rw [near_bit m v p es hg _ hl]
  unfold nextM
  rw [h1]
  have h0 : ((List.replicate m 0).getD v 0).testBit p = false := by
    rw [List.getD_eq_getElem?_getD, List.getElem?_replicate]; split <;> simp
  rw [h0, Bool.false_or]
  unfold adj adjE
  rw [Bool.eq_iff_iff, Bool.or_eq_true, List.any_eq_true, List.any_eq_true, List.any_eq_true]
  constructor
  · rintro (⟨e, he, h⟩ | ⟨e, he, h⟩)
    · exact ⟨e, he, by unfold toE at h; rw [h]; rfl⟩
    · exact ⟨e, he, by unfold toE at h; rw [h]; simp⟩
  · rintro ⟨e, he, h⟩
    rcases Bool.or_eq_true _ _ ▸ h with h | h
    · exact .inl ⟨e, he, h⟩
    · exact .inr ⟨e, he, h⟩
theorem nearL_any {m : Int} {es : List E3} (hg : gOk m es = true) (v p : Int) : (nearL m es v).any (fun z => decide (z = p)) = (hasV m p && adj es v p) := by
  unfold nearL hasV
  rw [hg, if_pos rfl, Bool.eq_iff_iff, List.any_eq_true, Bool.and_eq_true]
  simp only [decide_eq_true_eq, List.mem_filter, List.mem_map, List.mem_range]
  constructor
  · rintro ⟨z, ⟨⟨i, hi, rfl⟩, h2⟩, rfl⟩
    exact ⟨⟨by omega, by omega⟩, h2⟩
  · rintro ⟨⟨h0, h1⟩, h2⟩
    exact ⟨p, ⟨⟨p.toNat, by omega, by omega⟩, h2⟩, rfl⟩
/-- Is p a neighbour of v? -/
def nr (m : Int) (es : List E3) (v p : Int) : Bool := hasV m p && adj es v p
theorem pI_vI {m : Int} {es : List E3} {vs : List Int} (d f : Int → Int) (hg : gOk m es = true) (hmn : (vs.length : Int) = m) {v : Int} (h0 : 0 ≤ v) (h1 : v < m) :
    pI vs.length (nearM vs.length es) d f v = Parts.vI vs.length d f (nr m es) v := by
  have hm := gOk_m hg
  have hge := gOk_edges hg
  have hb := nearM_bit (m := vs.length) (es := es) (by omega) (fun e he => by have := hge e he; omega) v.toNat (f v).toNat
  unfold pI Parts.vI nr
  by_cases hd : d v = v
  · rw [if_pos hd, if_pos hd]
  · rw [if_neg hd, if_neg hd, hb, hmn]
    by_cases hp : hasV m (f v) = true
    · have hp' := hp
      unfold hasV at hp'
      simp only [decide_eq_true_eq] at hp'
      rw [show ((v.toNat : Nat) : Int) = v by omega, show (((f v).toNat : Nat) : Int) = f v by omega, hp]
      have e : decide (v < d v) = !decide (d v ≤ v) := by rw [Bool.eq_iff_iff]; simp
      rw [e]
      unfold hasV
      generalize decide (d v ≤ v) = b1
      generalize decide (0 ≤ d v ∧ d v < m) = b2
      generalize adj es v (f v) = b3
      generalize decide (d (f v) = d v) = b4
      generalize Costs.climb vs.length (d v) f vs.length (f v) = b5
      cases b1 <;> cases b2 <;> cases b3 <;> cases b4 <;> cases b5 <;> rfl
    · rw [Bool.not_eq_true] at hp
      rw [hp]; simp
end Go.Proofs.Ytknbeakmnkjkhaa.Abs
