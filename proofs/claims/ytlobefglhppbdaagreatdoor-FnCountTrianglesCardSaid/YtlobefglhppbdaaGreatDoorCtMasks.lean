/- Sets of vertices as bits. No statement of the seat is proved here. -/
import Derived.Test.YtlobefglhppbdaaGreatDoorRows
import Derived.WalkKit
import Derived.WalkSpells
import Derived.WalkLawsBesides
import Derived.Lib.Hide
import Derived.Handy
import Derived.BigQuiet
import Derived.Deep.QuietTactic
import Derived.Test.YtlobefglhppbdaaGreatDoorCtLib
import Derived.Test.YtlobefglhppbdaaGreatDoorCtOwn
import Derived.Test.YtlobefglhppbdaaGreatDoorCtJobs
set_option linter.unusedSimpArgs false
set_option linter.unusedVariables false
set_option maxRecDepth 100000
set_option maxHeartbeats 400000
namespace Go.Proofs.YtlobefglhppbdaaGreatDoor
open Go.RowKit
theorem pow_lt32 {v : Nat} (h : v ≤ 31) : 2 ^ v < 4294967296 := by
  have : 2 ^ v ≤ 2 ^ 31 := Nat.pow_le_pow_right (by omega) h
  omega
theorem ofInt_u32 (a : Nat) (ha : a < 4294967296) : (BitVec.ofInt 32 (a : Int)).toNat = a := by
  rw [BitVec.ofInt_natCast, BitVec.toNat_ofNat]; exact Nat.mod_eq_of_lt (by omega)
theorem u32_and_nat (a b : Nat) (ha : a < 4294967296) (hb : b < 4294967296) : bits .and .u32 (a : Int) (b : Int) = ((a &&& b : Nat) : Int) := by
  have hx : a &&& b < 2 ^ 32 := Nat.and_lt_two_pow _ (by omega)
  show IntKind.u32.wrap ((BitVec.ofInt 32 (a : Int) &&& BitVec.ofInt 32 (b : Int)).toNat : Int) = _
  rw [BitVec.toNat_and, ofInt_u32 a ha, ofInt_u32 b hb, IntKind.wrap_u32]
  omega
theorem u32_or_nat (a b : Nat) (ha : a < 4294967296) (hb : b < 4294967296) : bits .or .u32 (a : Int) (b : Int) = ((a ||| b : Nat) : Int) := by
  have hx : a ||| b < 2 ^ 32 := Nat.or_lt_two_pow (by omega) (by omega)
  show IntKind.u32.wrap ((BitVec.ofInt 32 (a : Int) ||| BitVec.ofInt 32 (b : Int)).toNat : Int) = _
  rw [BitVec.toNat_or, ofInt_u32 a ha, ofInt_u32 b hb, IntKind.wrap_u32]
  omega
theorem implMaskOf (v : Nat) (w : World) (hv : v ≤ 31) : Calls Tryz.prog 35 #[.int .i64 v] w fun e w' => e = .returned (.int .u32 ((2 ^ v : Nat) : Int)) ∧ w = w' := by
  have h0 : (v : Int) ≤ 31 := by omega
  have hp := pow_lt32 hv
  have HP : Hid (((2 : Int) ^ v % 4294967296) = ((2 ^ v : Nat) : Int)) := by
    unfold Hid
    have : ((2 : Int) ^ v) = ((2 ^ v : Nat) : Int) := by simp
    rw [this]
    generalize 2 ^ v = N at *
    omega
  clear hp
  go_enter Tryz.func35, Tryz.ntmps35
  go_wp2
  go_ret
  exact ⟨ret_int HP.out, rfl⟩
theorem implMaskHas (M v : Nat) (w : World) (hM : M < 4294967296) (hv : v ≤ 31) : Calls Tryz.prog 128 #[.int .u32 M, .int .i64 v] w fun e w' => e = .returned (.bool (M.testBit v)) ∧ w = w' := by
  have hp := pow_lt32 hv
  have HA : Hid ((bits .and .u32 (M : Int) ((2 ^ v : Nat) : Int) != 0) = M.testBit v) := by
    unfold Hid
    rw [u32_and_nat M (2 ^ v) hM hp]
    cases h : M.testBit v
    · have h0 : M &&& 2 ^ v = 0 := by
        apply Nat.eq_of_testBit_eq
        intro i
        rw [Nat.testBit_and, Nat.testBit_two_pow, Nat.zero_testBit]
        by_cases hi : v = i
        · subst hi; simp [h]
        · simp [hi]
      rw [h0]; rfl
    · have h1 : (M &&& 2 ^ v).testBit v = true := by
        rw [Nat.testBit_and, Nat.testBit_two_pow, h]; simp
      have h2 : M &&& 2 ^ v ≠ 0 := fun e => by rw [e, Nat.zero_testBit] at h1; cases h1
      rw [bne_iff_ne]
      omega
  have KM := Lib.hid (implMaskOf v w hv)
  clear hp
  generalize 2 ^ v = N at *
  go_enter Tryz.func128, Tryz.ntmps128
  go_wp2_with (go_at_call 35; refine KM.out.mono ?_; rintro e w1 ⟨rfl, rfl⟩)
  go_ret
  exact ⟨ret_bool HA.out, rfl⟩
end Go.Proofs.YtlobefglhppbdaaGreatDoor
