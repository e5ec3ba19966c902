/- Sets of vertices as bits. No statement of the seat is proved here. -/
import Derived.Test.YthjnidcmhegoeaaDoorRows
import Derived.WalkKit
import Derived.WalkSpells
import Derived.WalkLawsBesides
import Derived.Lib.Hide
import Derived.Handy
import Derived.BigQuiet
import Derived.Deep.QuietTactic
import Derived.Test.YthjnidcmhegoeaaDoorLib
import Derived.Test.YthjnidcmhegoeaaDoorOwn
import Derived.Test.YthjnidcmhegoeaaDoorJobs
set_option linter.unusedSimpArgs false
set_option linter.unusedVariables false
namespace Go.Proofs.YthjnidcmhegoeaaDoor
open Go.RowKit

theorem pow_lt32 {v : Nat} (h : v ≤ 31) : 2 ^ v < 4294967296 := by
  have : 2 ^ v ≤ 2 ^ 31 := Nat.pow_le_pow_right (by omega) h
  omega
theorem ofInt_u32 (a : Nat) (ha : a < 4294967296) : (BitVec.ofInt 32 (a : Int)).toNat = a := by
  rw [BitVec.ofInt_natCast, BitVec.toNat_ofNat]; exact Nat.mod_eq_of_lt (by omega)
theorem u32_and_nat (a b : Nat) (ha : a < 4294967296) (hb : b < 4294967296) : bits .and .u32 (a : Int) (b : Int) = ((a &&& b : Nat) : Int) := by
  have hx : a &&& b < 2 ^ 32 := Nat.and_lt_two_pow _ (by omega)
  show IntKind.u32.wrap ((BitVec.ofInt 32 (a : Int) &&& BitVec.ofInt 32 (b : Int)).toNat : Int) = _
  rw [BitVec.toNat_and, ofInt_u32 a ha, ofInt_u32 b hb, IntKind.wrap_u32]
  omega
theorem u32_or_nat (a b : Nat) (ha : a < 4294967296) (hb : b < 4294967296) : bits .or .u32 (a : Int) (b : Int) = ((a ||| b : Nat) : Int) := by
  have hx : a ||| b < 2 ^ 32 := Nat.or_lt_two_pow (by omega) (by omega)
  show IntKind.u32.wrap ((BitVec.ofInt 32 (a : Int) ||| BitVec.ofInt 32 (b : Int)).toNat : Int) = _
  rw [BitVec.toNat_or, ofInt_u32 a ha, ofInt_u32 b hb, IntKind.wrap_u32]
  omega

set_option maxRecDepth 100000 in
set_option maxHeartbeats 400000 in
theorem implMaskOf (v : Nat) (w : World) (hv : v ≤ 31) : Calls Tryd.prog 64 #[.int .i64 v] w fun e w' => e = .returned (.int .u32 ((2 ^ v : Nat) : Int)) ∧ w = w' := by
  have h0 : (v : Int) ≤ 31 := by omega
  have hp := pow_lt32 hv
  have HP : Hid (((2 : Int) ^ v % 4294967296) = ((2 ^ v : Nat) : Int)) := by
    unfold Hid
    have : ((2 : Int) ^ v) = ((2 ^ v : Nat) : Int) := by simp
    rw [this]
    generalize 2 ^ v = N at *
    omega
  clear hp
  go_enter Tryd.func64, Tryd.ntmps64
  go_wp2
  go_ret
  exact ⟨ret_int HP.out, rfl⟩

end Go.Proofs.YthjnidcmhegoeaaDoor
