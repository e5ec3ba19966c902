/- By states: division, remainder, xor, numbers of bytes. No statement of the seat is proved here. -/
import Derived.Test.YtfdaoepbdolgiaaDoorTy
import Derived.Lib.Hide
import Derived.Test.YtfdaoepbdolgiaaDoorADat
set_option linter.unusedSimpArgs false
set_option linter.unusedVariables false
namespace Go.Proofs.YtfdaoepbdolgiaaDoor.Abs
open Go.RowKit
open R (val row ref)

theorem k_rem {P : Program} {l : List (Nat × D)} {h : List (Nat × Ob)} {o : Oper} {n n' : Bool} {k : IntKind} {p q : Int} {t t' : TypeId} {x y : Operand} (ho : o.op = .binOp .rem t x y t') (hx : evO l x = some (.one (.r n (R.val (.int k p))))) (hy : evO l y = some (.one (.r n' (R.val (.int k q))))) (hq : q ≠ 0) : Loc P (lookH h) (evD (look l)) o (.one (.r true (R.val (.int k (p.tmod q))))) :=
  loc_rem t t' x y ho (evO_spec hx) (evO_spec hy) hq
theorem k_div {P : Program} {l : List (Nat × D)} {h : List (Nat × Ob)} {o : Oper} {n n' : Bool} {k : IntKind} {p q : Int} {t t' : TypeId} {x y : Operand} (ho : o.op = .binOp .quo t x y t') (hx : evO l x = some (.one (.r n (R.val (.int k p))))) (hy : evO l y = some (.one (.r n' (R.val (.int k q))))) (hq : q ≠ 0) : Loc P (lookH h) (evD (look l)) o (.one (.r true (R.val (.int k (k.wrap (p.tdiv q)))))) :=
  loc_div t t' x y ho (evO_spec hx) (evO_spec hy) hq
theorem bv64 (a : Nat) (ha : a < 9223372036854775808) : (BitVec.ofInt 64 (a : Int)).toNat = a := by
  rw [BitVec.ofInt_natCast, BitVec.toNat_ofNat]; exact Nat.mod_eq_of_lt (by omega)
theorem xor64 (a b : Nat) (ha : a < 9223372036854775808) (hb : b < 9223372036854775808) : bits .xor .i64 (a : Int) (b : Int) = ((a ^^^ b : Nat) : Int) := by
  have hx : a ^^^ b < 2 ^ 63 := Nat.xor_lt_two_pow (by omega) (by omega)
  show IntKind.i64.wrap ((BitVec.ofInt 64 (a : Int) ^^^ BitVec.ofInt 64 (b : Int)).toNat : Int) = _
  rw [BitVec.toNat_xor, bv64 a ha, bv64 b hb, IntKind.wrap_i64]
  omega
theorem k_xor {P : Program} {l : List (Nat × D)} {h : List (Nat × Ob)} {o : Oper} {m m' : Bool} {p q : Int} {t t' : TypeId} {x y : Operand} (ho : o.op = .binOp .xor t x y t') (hx : evO l x = some (.one (.r m (R.val (.int .i64 p))))) (hy : evO l y = some (.one (.r m' (R.val (.int .i64 q))))) :
    Loc P (lookH h) (evD (look l)) o (.one (.r true (R.val (.int .i64 (bits .xor .i64 p q))))) :=
  loc_run fun base a w ι own hw he hH => by
    have h1 := he x (by rw [ho]; simp [Op.operands])
    have h2 := he y (by rw [ho]; simp [Op.operands])
    rw [evO_spec hx] at h1
    rw [evO_spec hy] at h2
    have e1 : a.eval x = .int .i64 p := ((val_p (c := Cx.young ⟨w, own⟩ base m)).1 h1).1
    have e2 : a.eval y = .int .i64 q := ((val_p (c := Cx.young ⟨w, own⟩ base m')).1 h2).1
    refine ⟨.int .i64 (bits .xor .i64 p q), ?_, rfl, rfl⟩
    unfold execOp
    rw [ho]
    simp only [e1, e2]
    simp [eqGuard, binOp, Op.intArith, Op.intCmp, go_sem]
theorem k_conv {P : Program} {l : List (Nat × D)} {h : List (Nat × Ob)} {o : Oper} {m : Bool} {k k' : IntKind} {p : Int} {t t' : TypeId} {x : Operand} (ht : P.underlying t = some (.int k)) (ht' : P.underlying t' = some (.int k')) (ho : o.op = .convert t t' x) (hx : evO l x = some (.one (.r m (R.val (.int k p))))) :
    Loc P (lookH h) (evD (look l)) o (.one (.r true (R.val (.int k' (k'.wrap p))))) :=
  loc_run fun base a w ι own hw he hH => by
    have h1 := he x (by rw [ho]; simp [Op.operands])
    rw [evO_spec hx] at h1
    have e1 : a.eval x = .int k p := ((val_p (c := Cx.young ⟨w, own⟩ base m)).1 h1).1
    refine ⟨.int k' (k'.wrap p), ?_, rfl, rfl⟩
    unfold execOp
    rw [ho]
    simp only [e1]
    simp [convert, underlying, ht, ht', Conv.intToInt, go_sem]
theorem u_u8 : Tryd.prog.underlying 5 = some (.int .u8) := by kernel_rfl
theorem u_i64 : Tryd.prog.underlying 3 = some (.int .i64) := by kernel_rfl
end Go.Proofs.YtfdaoepbdolgiaaDoor.Abs
