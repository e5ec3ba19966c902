/- Numbers as sets of their bits: the lowest bit, the list of all. No statement of the seat is proved here. -/
import Derived.Test.YtlobefglhppbdaaGreatDoorCtMasks
set_option linter.unusedSimpArgs false
set_option linter.unusedVariables false
namespace Go.Proofs.YtlobefglhppbdaaGreatDoor
theorem low_ex : ∀ x : Nat, 0 < x → ∃ k q, x = 2 ^ (k + 1) * q + 2 ^ k := by
  intro x
  induction x using Nat.strongRecOn with
  | _ x ih =>
    intro h
    by_cases ho : x % 2 = 1
    · exact ⟨0, x / 2, by simp only [Nat.zero_add, Nat.pow_one, Nat.pow_zero]; omega⟩
    · obtain ⟨k, q, hx⟩ := ih (x / 2) (by omega) (by omega)
      refine ⟨k + 1, q, ?_⟩
      have : x = 2 * (x / 2) := by omega
      rw [this, hx, Nat.pow_succ 2 (k + 1), Nat.pow_succ 2 k]
      generalize 2 ^ k = p
      simp only [Nat.mul_add, Nat.mul_comm, Nat.mul_left_comm, Nat.mul_assoc]
open Classical in
noncomputable def lsb (x : Nat) : Nat := if h : 0 < x then Classical.choose (low_ex x h) else 0
theorem lsb_spec {x : Nat} (h : 0 < x) : ∃ q, x = 2 ^ (lsb x + 1) * q + 2 ^ lsb x := by
  unfold lsb; rw [dif_pos h]; exact Classical.choose_spec (low_ex x h)
theorem tb_low {k q : Nat} (j : Nat) : (2 ^ (k + 1) * q + 2 ^ k).testBit j = if j < k + 1 then decide (k = j) else q.testBit (j - (k + 1)) := by
  rw [Nat.testBit_two_pow_mul_add _ (Nat.pow_lt_pow_right (by omega) (by omega))]
  split
  · rw [Nat.testBit_two_pow]
  · rfl
theorem tb_pred {k q : Nat} (j : Nat) : (2 ^ (k + 1) * q + 2 ^ k - 1).testBit j = if j < k + 1 then decide (j < k) else q.testBit (j - (k + 1)) := by
  have hp : 0 < 2 ^ k := Nat.pos_of_ne_zero (by simp)
  have hl : 2 ^ k < 2 ^ (k + 1) := Nat.pow_lt_pow_right (by omega) (by omega)
  rw [Nat.add_sub_assoc hp, Nat.testBit_two_pow_mul_add _ (by omega)]
  split
  · rw [Nat.testBit_two_pow_sub_one]
  · rfl
theorem lsb_neg {x : Nat} (h : 0 < x) (hx : x < 4294967296) : x &&& (4294967296 - x) = 2 ^ lsb x := by
  obtain ⟨q, hq⟩ := lsb_spec h
  generalize lsb x = k at *
  refine Nat.eq_of_testBit_eq (fun j => ?_)
  have e : 4294967296 - x = 2 ^ 32 - (x - 1 + 1) := by omega
  rw [Nat.testBit_and, e, Nat.testBit_two_pow_sub_succ (by omega), Nat.testBit_two_pow, hq, tb_low, tb_pred]
  have hk : k < 32 := by
    apply Decidable.byContradiction
    intro hc
    have : 2 ^ 32 ≤ 2 ^ k := Nat.pow_le_pow_right (by omega) (by omega)
    omega
  by_cases hj : j < k + 1
  · rw [if_pos hj, if_pos hj]
    by_cases hkj : k = j
    · simp [hkj]; omega
    · simp [hkj]
  · rw [if_neg hj, if_neg hj]
    have : k ≠ j := by omega
    cases q.testBit (j - (k + 1)) <;> simp [this]
theorem lsb_lt {x : Nat} (h : 0 < x) {n : Nat} (hx : x < 2 ^ n) : lsb x < n := by
  obtain ⟨q, hq⟩ := lsb_spec h
  generalize lsb x = k at *
  apply Decidable.byContradiction
  intro hc
  have : 2 ^ n ≤ 2 ^ k := Nat.pow_le_pow_right (by omega) (by omega)
  omega
def drp (x : Nat) : Nat := x &&& (x - 1)
theorem drp_lt {x : Nat} (h : 0 < x) : drp x < x := by
  have : drp x ≤ x - 1 := Nat.and_le_right
  omega
theorem drp_bit {x : Nat} (h : 0 < x) (j : Nat) : (drp x).testBit j = (x.testBit j && !decide (j = lsb x)) := by
  obtain ⟨q, hq⟩ := lsb_spec h
  unfold drp
  generalize lsb x = k at *
  rw [Nat.testBit_and, hq, tb_low, tb_pred]
  by_cases hj : j < k + 1
  · rw [if_pos hj, if_pos hj]
    by_cases hkj : k = j
    · simp [hkj]
    · simp [hkj]
  · rw [if_neg hj, if_neg hj]
    have : j ≠ k := by omega
    cases q.testBit (j - (k + 1)) <;> simp [this]
theorem lsb_bit {x : Nat} (h : 0 < x) : x.testBit (lsb x) = true := by
  obtain ⟨q, hq⟩ := lsb_spec h
  generalize lsb x = k at *
  rw [hq, tb_low]
  simp
noncomputable def bitsR (x : Nat) : List Int := if h : x = 0 then [] else (lsb x : Int) :: bitsR (drp x)
termination_by x
decreasing_by exact drp_lt (by omega)
theorem bitsR_zero : bitsR 0 = [] := by rw [bitsR]; rfl
theorem bitsR_pos {x : Nat} (h : 0 < x) : bitsR x = (lsb x : Int) :: bitsR (drp x) := by rw [bitsR, dif_neg (by omega)]
theorem bitsR_len (x : Nat) : (bitsR x).length ≤ x := by
  induction x using Nat.strongRecOn with
  | _ x ih =>
    by_cases h : x = 0
    · rw [h, bitsR_zero]; simp
    · have h0 : 0 < x := by omega
      have := ih (drp x) (drp_lt h0)
      have := drp_lt h0
      rw [bitsR_pos h0, List.length_cons]; omega
theorem mem_bitsR (x : Nat) (u : Int) : u ∈ bitsR x ↔ 0 ≤ u ∧ x.testBit u.toNat = true := by
  induction x using Nat.strongRecOn with
  | _ x ih =>
    by_cases h : x = 0
    · rw [h, bitsR_zero]; simp
    · have h0 : 0 < x := by omega
      rw [bitsR_pos h0, List.mem_cons, ih _ (drp_lt h0), drp_bit h0]
      constructor
      · rintro (rfl | ⟨h1, h2⟩)
        · exact ⟨by omega, by simpa using lsb_bit h0⟩
        · exact ⟨h1, by simp at h2; exact h2.1⟩
      · rintro ⟨h1, h2⟩
        by_cases hu : u = lsb x
        · exact .inl hu
        · refine .inr ⟨h1, ?_⟩
          have : ¬ u.toNat = lsb x := by omega
          simp [h2, this]
theorem tab_at : ∀ k : Nat, k < 32 → ([0, 1, 28, 2, 29, 14, 24, 3, 30, 22, 20, 15, 25, 17, 4, 8, 31, 27, 13, 23, 21, 19, 16, 7, 26, 12, 18, 6, 11, 5, 10, 9] : List Int).getD (2 ^ k * 125613361 % 4294967296 / 134217728) 0 = (k : Int) ∧ 2 ^ k * 125613361 % 4294967296 / 134217728 < 32 := by decide
end Go.Proofs.YtlobefglhppbdaaGreatDoor
