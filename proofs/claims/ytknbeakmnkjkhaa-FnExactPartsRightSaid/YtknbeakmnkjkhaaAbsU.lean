/- Functions that hand back a whole row of their own making: the caller may go on as its owner. Bits. No statement of the seat is proved here. -/
import Derived.Test.YtknbeakmnkjkhaaAbsT
import Derived.Test.YtknbeakmnkjkhaaAbsN
set_option linter.unusedSimpArgs false
set_option linter.unusedVariables false
namespace Go.Proofs.Ytknbeakmnkjkhaa.Abs
open Go.RowKit
open R (val row ref)
/-- Called on these data function f hands back a new row of these elements, whole, and turns nothing that was there. -/
def FnO (P : Program) (f : FuncId) (args : List P0) (E : TypeId) (sz : Nat) (els : List P0) : Prop :=
  Ent P f ∧ ∀ (w : World) (vs : List Value), Args ⟨w, fun _ => False⟩ vs args → Calls P f vs.toArray w (fun e w' => ∃ (b cap : Nat) (arr : Array Value), e = .returned (.slice (some ⟨b, 0, none⟩) els.length cap) ∧ w.heap.size ≤ b ∧ els.length ≤ cap ∧ cap ≤ maxLen ∧ w'.heap[b]? = some (.cells arr E (0, 0)) ∧ arr.size = cap * sz ∧
    (∀ (i : Nat) (e : P0), els[i]? = some e → e.n = sz ∧ ∀ (j : Nat) (r : R), e.rs[j]? = some r → ∃ u, arr[i * sz + j]? = some u ∧ r.p ⟨w', fun b' => b' < w.heap.size ∨ b' = b⟩ u) ∧ Below w.heap.size w w')
theorem fn_ofO {P : Program} {f : FuncId} {fn : Func} {c : Code} {n t sz : Nat} {E : TypeId} {args els : List P0} (hf : P.funcs[f]? = some fn) (hname : (fn.name == "runtime.NumGoroutine") = false) (hb : fn.body = some c) (hn : fn.ntmps = n) (hr : fn.results = #[.tmp t]) (hl : Nat.ble args.length n = true)
    (h : AW P c (mkS n (argEnv 0 args) []) (fun e s => (e = .ret ∨ e = .normal) ∧ ∃ k, s.env t = .one (.own k 0 els.length sz) ∧ s.heap k = some (.sl E sz true els))) : FnO P f args E sz els := by
  refine ⟨ent_of hf hname hb, ?_⟩
  intro w vs hA
  refine calls_of_wp hf hb ?_
  have hlen := hA.length
  have hl' : args.length ≤ n := by simpa using hl
  have hs : Sim w (mkS n (argEnv 0 args) []) { tmps := vs.toArray ++ Array.replicate (fn.ntmps - vs.toArray.size) undef, defers := [] } w := by
    refine ⟨fun _ => 0, fun _ => False, Below.refl _ _, fun b hb => hb.elim, ?_, ?_, ?_, ?_, rfl⟩
    · simp [hn, mkS]; omega
    · intro t
      have := argEnv_sim (ι := fun _ => 0) (base := w.heap.size) 0 vs args (fn.ntmps - vs.toArray.size) hA [] rfl t (Nat.zero_le _)
      simpa [mkS, List.getD_eq_getElem?_getD, ← Array.getElem?_toList] using this
    · intro k ob hk; cases hk
    · intro k k' ob ob' hk; cases hk
  refine wp_mono (h w _ w hs) ?_
  rintro e a' w' ⟨s', ⟨he, k, h1, h2⟩, ι, own, hs'⟩
  have g := hs'.env t
  rw [h1] at g
  obtain ⟨cap, arr, E', e1, e2, e3, e4, e5⟩ := g
  obtain ⟨ho, arr', o1, o2, o3⟩ := hs'.heap k _ h2
  rw [e4] at o1
  obtain ⟨rfl, rfl⟩ : arr = arr' ∧ E' = E := by simpa using o1
  rw [Nat.zero_mul] at e1
  rw [Nat.zero_add] at e5
  have g1 : (results fn a'.tmps).run P w' = .ok (a'.tmps.getD t undef) w' := results_run (l := [.tmp t]) (vs := [a'.tmps.getD t undef]) hr ⟨rfl, trivial⟩
  have key : ∃ (b cap : Nat) (arr : Array Value), Ending.returned (a'.tmps.getD t undef) = .returned (.slice (some ⟨b, 0, none⟩) els.length cap) ∧ w.heap.size ≤ b ∧ els.length ≤ cap ∧ cap ≤ maxLen ∧ w'.heap[b]? = some (.cells arr E' (0, 0)) ∧ arr.size = cap * sz ∧
    (∀ (i : Nat) (e : P0), els[i]? = some e → e.n = sz ∧ ∀ (j : Nat) (r : R), e.rs[j]? = some r → ∃ u, arr[i * sz + j]? = some u ∧ r.p ⟨w', fun b' => b' < w.heap.size ∨ b' = b⟩ u) ∧ Below w.heap.size w w' := by
    refine ⟨ι k, cap, arr, by rw [e1], (hs'.own_ _ ho).1, e2, e3, e4, e5, fun i e hi => ⟨(o3 i e hi).1, fun j r hj => ?_⟩, hs'.below⟩
    obtain ⟨u, hu, hp⟩ := (o3 i e hi).2 j r hj
    have hx : Cx.Ext (Cx.young ⟨w', own⟩ w.heap.size true) ⟨w', fun b' => b' < w.heap.size ∨ b' = ι k⟩ := Cx.Ext.sub rfl (by
      rintro b' (h | h)
      · exact Or.inr h
      · exact Or.inl (h ▸ ho))
    exact ⟨u, hu, r.mono hx hp⟩
  rcases he with rfl | rfl
  · exact ⟨hs'.defers, _, g1, key⟩
  · exact ⟨hs'.defers, _, g1, key⟩
theorem ret_own {n t k sz : Nat} {l : List (Nat × D)} {h : List (Nat × Ob)} {E : TypeId} {els : List P0} {c : Nat} (he : lookO l t = some (.one (.own k 0 c sz))) (hk : lookHO h k = some (.sl E sz true els)) (hc : c = els.length) :
    (Exit.ret = Exit.ret ∨ Exit.ret = Exit.normal) ∧ ∃ k, (mkS n l h).env t = .one (.own k 0 els.length sz) ∧ (mkS n l h).heap k = some (.sl E sz true els) := ⟨.inl rfl, k, by rw [← hc]; exact lookO_spec he, lookHO_spec hk⟩
theorem e_callO {P : Program} {n t sz : Nat} {l : List (Nat × D)} {h : List (Nat × Ob)} {o : Oper} {f : FuncId} {E : TypeId} {els ys : List P0} {xs : List Operand} {tys : Array TypeId} (hf : FnO P f ys E sz els) (ho : o.op = .call { callee := .value (.func f), args := xs.toArray, argTypes := tys }) (hd : o.dst = some t)
    (ha : AsArgs (lookH h) (mkS n l h).ev xs ys) (hm : noM t l h = true) (ht : Nat.blt t n = true) : EOp P o (mkS n l h) (mkS n ((t, .one (.own t 0 els.length sz)) :: l) ((t, .sl E sz true els) :: h)) := by
  intro w0 a w ⟨ι, own, hs⟩ K Q hK
  have hmm : ∀ x ∈ xs, ((mkS n l h).ev x).p ι w0.heap.size ⟨w, own⟩ (a.eval x) := fun x hx => hs.ev x
  have hA := args_of (fun k ob hk => hs.heap k ob hk) xs ys hmm ha
  have hrun : (execOp a.eval o).run P w = .ok (.enter f (xs.map a.eval).toArray) w := by
    unfold execOp
    rw [ho]
    simp [resolve, Act.eval, Deferred.ofValue, invoke, hf.1 _ _]
  unfold Oper.wp
  rw [hrun, Oper.upon_enter]
  refine (hf.2 w _ hA).mono ?_
  rintro e w' ⟨b, cap, arr, rfl, q1, q2, q3, q4, q5, q6, hb⟩
  have hlt : b < w'.heap.size := lt_of_heap q4
  show K (a.put o.dst _) w'
  rw [hd]
  refine hK _ _ ⟨_, _, hs.fresh (g := b) hm (by simpa using ht) hb q1 hlt ?_ ?_⟩
  · refine ⟨arr, q4, by rw [q5]; exact Nat.mul_le_mul_right _ q2, fun i e he => ⟨(q6 i e he).1, fun j r hj => ?_⟩⟩
    obtain ⟨u, hu, hp⟩ := (q6 i e he).2 j r hj
    have hx : Cx.Ext ⟨w', fun b' => b' < w.heap.size ∨ b' = b⟩ (Cx.young ⟨w', fun b' => own b' ∨ b' = b⟩ w0.heap.size true) := Cx.Ext.sub rfl (by
      rintro b' (h | h)
      · rcases h with h | h
        · exact Or.inl (hs.own_ b' h).2
        · exact Or.inr h
      · exact Or.inl (Nat.lt_of_lt_of_le h hs.below.size))
    exact ⟨u, hu, r.mono hx hp⟩
  · refine ⟨cap, arr, E, by rw [upd_same, Nat.zero_mul], q2, q3, by rw [upd_same]; exact q4, by rw [q5, Nat.zero_add]⟩
end Go.Proofs.Ytknbeakmnkjkhaa.Abs
