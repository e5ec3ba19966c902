/- Calls through interface values, by states. No statement of the seat is proved here. -/
import Derived.Lib.Hide
import Derived.Test.YtlobefglhppbdaaGreatDoorCtTy
import Derived.Test.YtlobefglhppbdaaGreatDoorCtAbsX
import Derived.Test.YtlobefglhppbdaaGreatDoorCtADat
set_option linter.unusedSimpArgs false
set_option linter.unusedVariables false
namespace Go.Proofs.YtlobefglhppbdaaGreatDoor.Abs
open Go.RowKit
open R (val row ref)
theorem k_callG {P : Program} {H : Nat → Option Ob} {ev : Operand → D} {o : Oper} {f : FuncId} {res : Res} {ys : List P0} (hf : Fn P f ys res)
    (hgo : ∀ (base : Nat) (a : Act) (w : World) (ι : Nat → Nat × Nat) (own : Nat → Prop), (∀ k ob, H k = some ob → own (ι k).1 ∧ ob.p ι base ⟨w, own⟩ (ι k)) → (∀ x ∈ o.op.operands, (ev x).p ι base ⟨w, own⟩ (a.eval x)) → ∃ vs : List Value, (execOp a.eval o).run P w = .ok (.enter f vs.toArray) w ∧ Args ⟨w, fun _ => False⟩ vs ys) : Loc P H ev o res.d := by
  intro base a w ι own hown hbase hev hH _ K Q hK
  obtain ⟨vs, hrun, hA⟩ := hgo base a w ι own hH hev
  unfold Oper.wp
  rw [hrun, Oper.upon_enter]
  refine (hf.2 w _ (hbase.2.mono hbase.1) hA).mono ?_
  rintro e w' ⟨v, rfl, hp, hb⟩
  have hx : Cx.Ext ⟨w', fun b => b < w.heap.size⟩ (Cx.young ⟨w', own⟩ base true) := Cx.Ext.sub rfl (by
    intro b hb'
    rcases hb' with h | h
    · exact (hown b h).2
    · exact Nat.lt_of_lt_of_le h hbase.1)
  exact hK v w' ι own (Chg.quiet hown hb (Res.d_p (Res.mono hx hp)))
theorem run_inv {P : Program} {o : Oper} {a : Act} {w : World} {r : Operand} {xs : List Operand} {tys : Array TypeId} {name : String} {T : TypeId} {v u : Value} {f : FuncId} (ho : o.op = .call { callee := .invoke r name, args := xs.toArray, argTypes := tys }) (hr : a.eval r = .iface T v)
    (hm : (method (P.types.size + Made.depth) T v name).run P w = .ok (f, u) w) (he : Ent P f) : (execOp a.eval o).run P w = .ok (.enter f (u :: xs.map a.eval).toArray) w := by
  unfold execOp
  rw [ho]
  simp [resolve, hr, invoke, callMethod, hm, he _ _]
  exact List.take_of_length_le (by simp)
section
variable {P : Program} {l : List (Nat × D)} {h : List (Nat × Ob)} {o : Oper} {f : FuncId} {r : Operand} {xs : List Operand} {tys : Array TypeId} {name : String} {T : TypeId} {k : Nat}
end
end Go.Proofs.YtlobefglhppbdaaGreatDoor.Abs
