/- Strings by states. No statement of the seat is proved here. -/
import Derived.Laws.Strings
import Derived.Laws.Pointers
import Derived.Laws.Concat
import Derived.Test.YthjnidcmhegoeaaDoorTy
import Derived.Lib.Hide
import Derived.Test.YthjnidcmhegoeaaDoorADat
set_option linter.unusedSimpArgs false
set_option linter.unusedVariables false
namespace Go.Proofs.YthjnidcmhegoeaaDoor.Abs
open Go.RowKit
open R (val row ref)

abbrev strV (l : List UInt8) : Value := .string ⟨l.toArray⟩
abbrev strP (l : List UInt8) : P0 := .one (val (strV l))
section
variable {P : Program} {l : List (Nat × D)} {h : List (Nat × Ob)} {o : Oper} {m m' : Bool} {p q : List UInt8} {T t' : TypeId} {x y : Operand}
theorem k_strEq (ho : o.op = .binOp .eql T x y t') (hx : evO l x = some (.one (.r m (val (strV p))))) (hy : evO l y = some (.one (.r m' (val (strV q))))) : Loc P (lookH h) (evD (look l)) o (.one (.r true (bool (p == q)))) :=
  loc_run fun base a w ι own hw he hH => by
    have h1 : (evD (look l) x).p ι base ⟨w, own⟩ (a.eval x) := he x (by rw [ho]; simp [Op.operands])
    have h2 : (evD (look l) y).p ι base ⟨w, own⟩ (a.eval y) := he y (by rw [ho]; simp [Op.operands])
    rw [evO_spec hx] at h1
    rw [evO_spec hy] at h2
    refine ⟨_, ?_, rfl, rfl⟩
    unfold execOp
    rw [ho]
    simp only [h1.1, h2.1]
    simp [eqGuard, binOp_string_eql]
theorem k_strNe (ho : o.op = .binOp .neq T x y t') (hx : evO l x = some (.one (.r m (val (strV p))))) (hy : evO l y = some (.one (.r m' (val (strV q))))) : Loc P (lookH h) (evD (look l)) o (.one (.r true (bool (!(p == q))))) :=
  loc_run fun base a w ι own hw he hH => by
    have h1 : (evD (look l) x).p ι base ⟨w, own⟩ (a.eval x) := he x (by rw [ho]; simp [Op.operands])
    have h2 : (evD (look l) y).p ι base ⟨w, own⟩ (a.eval y) := he y (by rw [ho]; simp [Op.operands])
    rw [evO_spec hx] at h1
    rw [evO_spec hy] at h2
    refine ⟨_, ?_, rfl, rfl⟩
    unfold execOp
    rw [ho]
    simp only [h1.1, h2.1]
    simp [eqGuard, binOp_string_neq]
theorem k_strAdd (ho : o.op = .binOp .add T x y t') (hx : evO l x = some (.one (.r m (val (strV p))))) (hy : evO l y = some (.one (.r m' (val (strV q))))) (hp : p.length ≤ 8388608) (hq : q.length ≤ 8388608) : Loc P (lookH h) (evD (look l)) o (.one (.r true (val (strV (p ++ q))))) :=
  loc_run fun base a w ι own hw he hH => by
    have h1 : (evD (look l) x).p ι base ⟨w, own⟩ (a.eval x) := he x (by rw [ho]; simp [Op.operands])
    have h2 : (evD (look l) y).p ι base ⟨w, own⟩ (a.eval y) := he y (by rw [ho]; simp [Op.operands])
    rw [evO_spec hx] at h1
    rw [evO_spec hy] at h2
    refine ⟨_, ?_, rfl, rfl⟩
    unfold execOp
    rw [ho]
    simp only [h1.1, h2.1]
    have := run_string_add_lists (P := P) w p q (by omega) (by omega)
    simp [eqGuard, binOp_string_add, this]
theorem run_lenS (hT : P.underlying T = some .string) {ty : TypeId} {cs : Array Bool} (p : List UInt8) (w : World) : (invoke (.builtin .len #[T] ty cs) #[strV p]).run P w = .ok (.value (.int .i64 p.length)) w := by
  unfold invoke builtin Builtin.len_
  simp [underlying, hT, goInt, - ByteArray.size_data]
  rfl
theorem k_strLen (hT : P.underlying T = some .string) (ho : o.op = .call { callee := .builtin .len, args := #[x], argTypes := #[T] }) (hx : evO l x = some (.one (.r m (val (strV p))))) : Loc P (lookH h) (evD (look l)) o (.one (.r true (int p.length))) :=
  loc_run fun base a w ι own hw he hH => by
    have h1 : (evD (look l) x).p ι base ⟨w, own⟩ (a.eval x) := he x (by rw [ho]; simp [Op.operands, Call.operands])
    rw [evO_spec hx] at h1
    refine ⟨_, ?_, rfl, rfl⟩
    unfold execOp
    rw [ho]
    simp only [resolve, Sem.run_bind, Sem.run_pure, Result.andThen_ok, List.map_toArray, List.map_cons, List.map_nil, h1.1, run_lenS hT]
theorem k_strIndex {i : Nat} (hT : P.underlying T = some .string) (ho : o.op = .index T x y) (hx : evO l x = some (.one (.r m (val (strV p))))) (hy : evO l y = some (.one (.r m' (int (i : Int))))) {b : UInt8} (hi : p[i]? = some b) : Loc P (lookH h) (evD (look l)) o (.one (.r true (val (.int .u8 b.toNat)))) :=
  loc_run fun base a w ι own hw he hH => by
    have h1 : (evD (look l) x).p ι base ⟨w, own⟩ (a.eval x) := he x (by rw [ho]; simp [Op.operands])
    have h2 : (evD (look l) y).p ι base ⟨w, own⟩ (a.eval y) := he y (by rw [ho]; simp [Op.operands])
    rw [evO_spec hx] at h1
    rw [evO_spec hy] at h2
    obtain ⟨hil, hib⟩ := List.getElem?_eq_some_iff.1 hi
    refine ⟨_, ?_, rfl, rfl⟩
    unfold execOp
    rw [ho]
    simp only [h1.1, h2.1]
    have e : (ByteArray.mk p.toArray)[i]? = some b := by
      rw [getElem?_pos (ByteArray.mk p.toArray) i (by show i < p.toArray.size; simpa using hil)]
      show some (p.toArray[i]'(by simpa using hil)) = some b
      simp [hib]
    simp [Instr.index, asIntOf, underlying, hT, e]
theorem extract_mk (a b : Nat) : (ByteArray.mk p.toArray).extract a b = ⟨((p.drop a).take (b - a)).toArray⟩ := by
  apply ByteArray.ext
  rw [ByteArray.data_extract]
  simp [List.extract_eq_take_drop]
theorem k_strSlice {lo hi : Option Operand} {a b : Nat} (hT : P.underlying T = some .string) (ho : o.op = .slice T x lo hi none) (hx : evO l x = some (.one (.r m (val (strV p))))) (hlo : optI (evD (look l)) lo a 0) (hhi : optI (evD (look l)) hi b p.length) (hab : a ≤ b) (hb : b ≤ p.length) : Loc P (lookH h) (evD (look l)) o (.one (.r true (val (strV ((p.drop a).take (b - a)))))) :=
  loc_run fun base ac w ι own hw he hH => by
    have h1 : (evD (look l) x).p ι base ⟨w, own⟩ (ac.eval x) := he x (by rw [ho]; simp [Op.operands])
    rw [evO_spec hx] at h1
    have hlo' : lo.map ac.eval = some (.int .i64 (a : Int)) ∨ lo.map ac.eval = none ∧ a = 0 := by
      cases lo with
      | none => exact .inr ⟨rfl, hlo⟩
      | some y =>
        obtain ⟨m1, h1⟩ := hlo
        have h2 : (evD (look l) y).p ι base ⟨w, own⟩ (ac.eval y) := he y (by rw [ho]; simp [Op.operands])
        rw [h1] at h2
        exact .inl (by rw [Option.map_some, ((val_p (c := Cx.young ⟨w, own⟩ base m1)).1 h2).1])
    have hhi' : hi.map ac.eval = some (.int .i64 (b : Int)) ∨ hi.map ac.eval = none ∧ b = p.length := by
      cases hi with
      | none => exact .inr ⟨rfl, hhi⟩
      | some y =>
        obtain ⟨m1, h1⟩ := hhi
        have h2 : (evD (look l) y).p ι base ⟨w, own⟩ (ac.eval y) := he y (by rw [ho]; simp [Op.operands])
        rw [h1] at h2
        exact .inl (by rw [Option.map_some, ((val_p (c := Cx.young ⟨w, own⟩ base m1)).1 h2).1])
    have hsz : (ByteArray.mk p.toArray).size = p.length := by show p.toArray.size = _; simp
    refine ⟨_, ?_, rfl, rfl⟩
    unfold execOp
    rw [ho]
    simp only [h1.1]
    rcases hlo' with e1 | ⟨e1, rfl⟩ <;> rcases hhi' with e2 | ⟨e2, rfl⟩ <;>
      simp [e1, e2, Instr.sliceAt, Instr.slice, Instr.sliceBounds, Instr.sliceBound, asIntOf, underlying, hT, hsz, extract_mk, hab, hb]
end
end Go.Proofs.YthjnidcmhegoeaaDoor.Abs
