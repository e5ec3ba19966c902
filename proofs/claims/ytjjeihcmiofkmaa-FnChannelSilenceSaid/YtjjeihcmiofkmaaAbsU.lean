/- Functions that hand back a whole row of their own making: the caller may go on as its owner. Bits. No statement of the seat is proved here. -/
import Derived.Test.YtjjeihcmiofkmaaAbsN
set_option linter.unusedSimpArgs false
set_option linter.unusedVariables false
namespace Go.Proofs.Ytjjeihcmiofkmaa.Abs
open Go.RowKit
open R (val row ref)
/-- Called on these data function f hands back a new row of these elements, whole, and turns nothing that was there. -/
def FnO (P : Program) (f : FuncId) (args : List P0) (E : TypeId) (sz : Nat) (els : List P0) : Prop :=
  Ent P f ∧ ∀ (w : World) (vs : List Value), Args ⟨w, fun _ => False⟩ vs args → Calls P f vs.toArray w (fun e w' => ∃ (b o o1 cap : Nat) (arr : Array Value), e = .returned (.slice (some ⟨b, o1, none⟩) els.length cap) ∧ (o1 = o ∨ cap = 0) ∧ w.heap.size ≤ b ∧ els.length ≤ cap ∧ cap ≤ maxLen ∧ w'.heap[b]? = some (.cells arr E (0, 0)) ∧ o + cap * sz ≤ arr.size ∧
    (∀ (i : Nat) (e : P0), els[i]? = some e → e.n = sz ∧ ∀ (j : Nat) (r : R), e.rs[j]? = some r → ∃ u, arr[o + (i * sz + j)]? = some u ∧ r.p ⟨w', fun b' => b' < w.heap.size ∨ b' = b⟩ u) ∧ Below w.heap.size w w')
theorem fn_ofO {P : Program} {f : FuncId} {fn : Func} {c : Code} {n t sz : Nat} {E : TypeId} {args els : List P0} (hf : P.funcs[f]? = some fn) (hname : (fn.name == "runtime.NumGoroutine") = false) (hb : fn.body = some c) (hn : fn.ntmps = n) (hr : fn.results = #[.tmp t]) (hl : Nat.ble args.length n = true)
    (h : AW P c (mkS n (argEnv 0 args) []) (fun e s => (e = .ret ∨ e = .normal) ∧ ∃ k, s.env t = .one (.own k 0 els.length sz) ∧ s.heap k = some (.sl E sz true els))) : FnO P f args E sz els := by
  refine ⟨ent_of hf hname hb, ?_⟩
  intro w vs hA
  refine calls_of_wp hf hb ?_
  refine wp_mono (h (bs0 w) _ w (sim_start hn hl hA)) ?_
  rintro e a' w' ⟨s', ⟨he, k, h1, h2⟩, ι, own, hs'⟩
  have g := hs'.env t
  rw [h1] at g
  obtain ⟨oo, cap, arr, E', e1, e0, e2, e3, e4, e5⟩ := g
  obtain ⟨ho, arr', o1, o2, o3⟩ := hs'.heap k _ h2
  have o1' : w'.heap[(ι k).1]? = some (.cells arr' E (0, 0)) := o1
  have e4' : w'.heap[(ι k).1]? = some (.cells arr E' (0, 0)) := e4
  rw [e4'] at o1'
  obtain ⟨rfl, rfl⟩ : arr = arr' ∧ E' = E := by simpa using o1'
  rw [Nat.zero_mul] at e0
  rw [Nat.zero_add] at e5
  have g1 : (results fn a'.tmps).run P w' = .ok (a'.tmps.getD t undef) w' := results_run (l := [.tmp t]) (vs := [a'.tmps.getD t undef]) hr ⟨rfl, trivial⟩
  have key : ∃ (b o o1 cap : Nat) (arr : Array Value), Ending.returned (a'.tmps.getD t undef) = .returned (.slice (some ⟨b, o1, none⟩) els.length cap) ∧ (o1 = o ∨ cap = 0) ∧ w.heap.size ≤ b ∧ els.length ≤ cap ∧ cap ≤ maxLen ∧ w'.heap[b]? = some (.cells arr E' (0, 0)) ∧ o + cap * sz ≤ arr.size ∧
    (∀ (i : Nat) (e : P0), els[i]? = some e → e.n = sz ∧ ∀ (j : Nat) (r : R), e.rs[j]? = some r → ∃ u, arr[o + (i * sz + j)]? = some u ∧ r.p ⟨w', fun b' => b' < w.heap.size ∨ b' = b⟩ u) ∧ Below w.heap.size w w' := by
    refine ⟨(ι k).1, (ι k).2, oo, cap, arr, by rw [e1], e0, (hs'.own_ _ ho).1, e2, e3, e4, e5, fun i e hi => ⟨(o3 i e hi).1, fun j r hj => ?_⟩, hs'.below.below0⟩
    obtain ⟨u, hu, hp⟩ := (o3 i e hi).2 j r hj
    have hx : Cx.Ext (Cx.young ⟨w', own⟩ w.heap.size true) ⟨w', fun b' => b' < w.heap.size ∨ b' = (ι k).1⟩ := Cx.Ext.sub rfl (by
      rintro b' (h | h)
      · exact Or.inr h
      · exact Or.inl (h ▸ ho))
    exact ⟨u, hu, r.mono hx hp⟩
  rcases he with rfl | rfl
  · exact ⟨hs'.defers, _, g1, key⟩
  · exact ⟨hs'.defers, _, g1, key⟩
theorem ret_own {n t k sz : Nat} {l : List (Nat × D)} {h : List (Nat × Ob)} {E : TypeId} {els : List P0} {c : Nat} (he : lookO l t = some (.one (.own k 0 c sz))) (hk : lookHO h k = some (.sl E sz true els)) (hc : c = els.length) :
    (Exit.ret = Exit.ret ∨ Exit.ret = Exit.normal) ∧ ∃ k, (mkS n l h).env t = .one (.own k 0 els.length sz) ∧ (mkS n l h).heap k = some (.sl E sz true els) := ⟨.inl rfl, k, by rw [← hc]; exact lookO_spec he, lookHO_spec hk⟩
theorem e_callO {P : Program} {t sz : Nat} {H : Nat → Option Ob} {ev : Operand → D} {o : Oper} {f : FuncId} {E : TypeId} {els ys : List P0} {xs : List Operand} {tys : Array TypeId} (hf : FnO P f ys E sz els) (ho : o.op = .call { callee := .value (.func f), args := xs.toArray, argTypes := tys }) (hd : o.dst = some t)
    (ha : AsArgs H ev xs ys) : Eff P H ev o (.one (.own t 0 els.length sz)) [] [t] [(t, some (.sl E sz true els))] := by
  intro base a w ι own hown hbase hev hH _ K Q hK
  have hmm : ∀ x ∈ xs, (ev x).p ι base ⟨w, own⟩ (a.eval x) := fun x hx => hev x (by rw [ho]; simp [Op.operands, Call.operands, hx])
  have hA := args_of hH xs ys hmm ha
  have hrun : (execOp a.eval o).run P w = .ok (.enter f (xs.map a.eval).toArray) w := by
    unfold execOp
    rw [ho]
    simp [resolve, Act.eval, Deferred.ofValue, invoke, hf.1 _ _]
  unfold Oper.wp
  rw [hrun, Oper.upon_enter]
  refine (hf.2 w _ hA).mono ?_
  rintro e w' ⟨b, oo, o1, cap, arr, rfl, q0, q1, q2, q3, q4, q5, q6, hb⟩
  have hlt : b < w'.heap.size := lt_of_heap q4
  refine hK _ _ _ _ (Chg.fresh (g := (b, oo)) hown hb q1 hlt ?_ ?_)
  · have hm := Nat.mul_le_mul_right sz q2
    refine ⟨arr, q4, by show oo + _ ≤ _; omega, fun i e he => ⟨(q6 i e he).1, fun j r hj => ?_⟩⟩
    obtain ⟨u, hu, hp⟩ := (q6 i e he).2 j r hj
    have hx : Cx.Ext ⟨w', fun b' => b' < w.heap.size ∨ b' = b⟩ (Cx.young ⟨w', fun b' => own b' ∨ b' = b⟩ base true) := Cx.Ext.sub rfl (by
      rintro b' (h | h)
      · rcases h with h | h
        · exact Or.inl (hown b' h).2
        · exact Or.inr h
      · exact Or.inl (Nat.lt_of_lt_of_le h hbase))
    exact ⟨u, hu, r.mono hx hp⟩
  · exact ⟨o1, cap, arr, E, by rw [upd_same], by rw [upd_same, Nat.zero_mul]; exact q0, q2, q3, by rw [upd_same]; exact q4, by rw [upd_same, Nat.zero_add]; exact q5⟩
end Go.Proofs.Ytjjeihcmiofkmaa.Abs
