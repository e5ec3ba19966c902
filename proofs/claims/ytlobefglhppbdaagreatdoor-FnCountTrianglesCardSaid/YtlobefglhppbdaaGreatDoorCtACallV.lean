/- A call of a function value by states. No statement of the seat is proved here. -/
import Derived.Lib.Hide
import Derived.Test.YtlobefglhppbdaaGreatDoorCtTy
import Derived.Test.YtlobefglhppbdaaGreatDoorCtADat
set_option linter.unusedSimpArgs false
set_option linter.unusedVariables false
namespace Go.Proofs.YtlobefglhppbdaaGreatDoor.Abs
open Go.RowKit
open R (val row ref)
theorem k_callV {P : Program} {l : List (Nat × D)} {h : List (Nat × Ob)} {o : Oper} {f : FuncId} {res : Res} {x : Operand} {xs : List Operand} {ys : List P0} {tys : Array TypeId} {nn : Bool} (hf : Fn P f ys res) (ho : o.op = .call { callee := .value x, args := xs.toArray, argTypes := tys }) (hx : evO l x = some (.one (.r nn (R.val (Value.func (.func f) #[] #[])))))
    (ha : AsArgs (lookH h) (evD (look l)) xs ys) : Loc P (lookH h) (evD (look l)) o res.d := by
  intro base a w ι own hown hbase hev hH _ K Q hK
  have hm : ∀ y ∈ xs, (evD (look l) y).p ι base ⟨w, own⟩ (a.eval y) := fun y hy => hev y (by rw [ho]; simp [Op.operands, Call.operands, hy])
  have hfx : a.eval x = .func (.func f) #[] #[] := by
    have := hev x (by rw [ho]; simp [Op.operands, Call.operands])
    rw [evO_spec hx] at this
    exact ((val_p (c := Cx.young ⟨w, own⟩ base nn)).1 this).1
  have hA := args_of hH xs ys hm ha
  have hrun : (execOp a.eval o).run P w = .ok (.enter f (xs.map a.eval).toArray) w := by
    unfold execOp
    rw [ho]
    simp [resolve, hfx, Deferred.ofValue, invoke, hf.1 _ _]
  unfold Oper.wp
  rw [hrun, Oper.upon_enter]
  refine (hf.2 w _ (hbase.2.mono hbase.1) hA).mono ?_
  rintro e w' ⟨v, rfl, hp, hb⟩
  have hx : Cx.Ext ⟨w', fun b => b < w.heap.size⟩ (Cx.young ⟨w', own⟩ base true) := Cx.Ext.sub rfl (by
    intro b hb'
    rcases hb' with h | h
    · exact (hown b h).2
    · exact Nat.lt_of_lt_of_le h hbase.1)
  exact hK v w' ι own (Chg.quiet hown hb (Res.d_p (Res.mono hx hp)))
end Go.Proofs.YtlobefglhppbdaaGreatDoor.Abs
