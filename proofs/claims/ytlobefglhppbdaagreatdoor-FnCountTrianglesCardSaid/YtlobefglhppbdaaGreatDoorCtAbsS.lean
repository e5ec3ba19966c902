/- Functions that hand back a whole row of their own making: the caller may go on as its owner. Bits. No statement of the seat is proved here. -/
import Derived.Test.YtlobefglhppbdaaGreatDoorCtAbsN
set_option linter.unusedSimpArgs false
set_option linter.unusedVariables false
namespace Go.Proofs.YtlobefglhppbdaaGreatDoor.Abs
open Go.RowKit
open R (val row ref)
def FnO (P : Program) (f : FuncId) (args : List P0) (E : TypeId) (sz : Nat) (els : List P0) : Prop :=
  Ent P f ∧ ∀ (w : World) (vs : List Value), Glob w.heap.size w → Args ⟨w, fun _ => False⟩ vs args → Calls P f vs.toArray w (fun e w' => ∃ (b o o1 cap : Nat) (arr : Array Value), e = .returned (.slice (some ⟨b, o1, none⟩) els.length cap) ∧ (o1 = o ∨ cap = 0) ∧ w.heap.size ≤ b ∧ els.length ≤ cap ∧ cap ≤ maxLen ∧ w'.heap[b]? = some (.cells arr E (0, 0)) ∧ o + cap * sz ≤ arr.size ∧
    (∀ (i : Nat) (e : P0), els[i]? = some e → e.n = sz ∧ ∀ (j : Nat) (r : R), e.rs[j]? = some r → ∃ u, arr[o + (i * sz + j)]? = some u ∧ r.p ⟨w', fun b' => b' < w.heap.size ∨ b' = b⟩ u) ∧ Below w.heap.size w w')
theorem fn_ofO {P : Program} {f : FuncId} {fn : Func} {c : Code} {n t sz : Nat} {E : TypeId} {args els : List P0} (hf : P.funcs[f]? = some fn) (hname : (fn.name == "runtime.NumGoroutine") = false) (hb : fn.body = some c) (hn : fn.ntmps = n) (hr : fn.results = #[.tmp t]) (hl : Nat.ble args.length n = true)
    (h : AW P c (mkS n (argEnv 0 args) []) (fun e s => (e = .ret ∨ e = .normal) ∧ ∃ k, s.env t = .one (.own k 0 els.length sz) ∧ s.heap k = some (.sl E sz true els))) : FnO P f args E sz els := by
  refine ⟨ent_of hf hname hb, ?_⟩
  intro w vs hG hA
  refine calls_of_wp hf hb ?_
  refine wp_mono (h (bs0 w) _ w (sim_start hn hl hG hA)) ?_
  rintro e a' w' ⟨s', ⟨he, k, h1, h2⟩, ι, own, hs'⟩
  have g := hs'.env t
  rw [h1] at g
  obtain ⟨oo, cap, arr, E', e1, e0, e2, e3, e4, e5⟩ := g
  obtain ⟨ho, arr', o1, o2, o3⟩ := hs'.heap k _ h2
  have o1' : w'.heap[(ι k).1]? = some (.cells arr' E (0, 0)) := o1
  have e4' : w'.heap[(ι k).1]? = some (.cells arr E' (0, 0)) := e4
  rw [e4'] at o1'
  obtain ⟨rfl, rfl⟩ : arr = arr' ∧ E' = E := by simpa using o1'
  rw [Nat.zero_mul] at e0
  rw [Nat.zero_add] at e5
  have g1 : (results fn a'.tmps).run P w' = .ok (a'.tmps.getD t undef) w' := results_run (l := [.tmp t]) (vs := [a'.tmps.getD t undef]) hr ⟨rfl, trivial⟩
  have key : ∃ (b o o1 cap : Nat) (arr : Array Value), Ending.returned (a'.tmps.getD t undef) = .returned (.slice (some ⟨b, o1, none⟩) els.length cap) ∧ (o1 = o ∨ cap = 0) ∧ w.heap.size ≤ b ∧ els.length ≤ cap ∧ cap ≤ maxLen ∧ w'.heap[b]? = some (.cells arr E' (0, 0)) ∧ o + cap * sz ≤ arr.size ∧
    (∀ (i : Nat) (e : P0), els[i]? = some e → e.n = sz ∧ ∀ (j : Nat) (r : R), e.rs[j]? = some r → ∃ u, arr[o + (i * sz + j)]? = some u ∧ r.p ⟨w', fun b' => b' < w.heap.size ∨ b' = b⟩ u) ∧ Below w.heap.size w w' := by
    refine ⟨(ι k).1, (ι k).2, oo, cap, arr, by rw [e1], e0, (hs'.own_ _ ho).1, e2, e3, e4, e5, fun i e hi => ⟨(o3 i e hi).1, fun j r hj => ?_⟩, hs'.below.below0⟩
    obtain ⟨u, hu, hp⟩ := (o3 i e hi).2 j r hj
    have hx : Cx.Ext (Cx.young ⟨w', own⟩ w.heap.size true) ⟨w', fun b' => b' < w.heap.size ∨ b' = (ι k).1⟩ := Cx.Ext.sub rfl (by
      rintro b' (h | h)
      · exact Or.inr h
      · exact Or.inl (h ▸ ho))
    exact ⟨u, hu, r.mono hx hp⟩
  rcases he with rfl | rfl
  · exact ⟨hs'.defers, _, g1, key⟩
  · exact ⟨hs'.defers, _, g1, key⟩
theorem ret_own {n t k sz : Nat} {l : List (Nat × D)} {h : List (Nat × Ob)} {E : TypeId} {els : List P0} {c : Nat} (he : lookO l t = some (.one (.own k 0 c sz))) (hk : lookHO h k = some (.sl E sz true els)) (hc : c = els.length) :
    (Exit.ret = Exit.ret ∨ Exit.ret = Exit.normal) ∧ ∃ k, (mkS n l h).env t = .one (.own k 0 els.length sz) ∧ (mkS n l h).heap k = some (.sl E sz true els) := ⟨.inl rfl, k, by rw [← hc]; exact lookO_spec he, lookHO_spec hk⟩
theorem e_callO {P : Program} {t sz : Nat} {H : Nat → Option Ob} {ev : Operand → D} {o : Oper} {f : FuncId} {E : TypeId} {els ys : List P0} {xs : List Operand} {tys : Array TypeId} (hf : FnO P f ys E sz els) (ho : o.op = .call { callee := .value (.func f), args := xs.toArray, argTypes := tys }) (hd : o.dst = some t)
    (ha : AsArgs H ev xs ys) : Eff P H ev o (.one (.own t 0 els.length sz)) [] [t] [(t, some (.sl E sz true els))] := by
  intro base a w ι own hown hbase hev hH _ K Q hK
  have hmm : ∀ x ∈ xs, (ev x).p ι base ⟨w, own⟩ (a.eval x) := fun x hx => hev x (by rw [ho]; simp [Op.operands, Call.operands, hx])
  have hA := args_of hH xs ys hmm ha
  have hrun : (execOp a.eval o).run P w = .ok (.enter f (xs.map a.eval).toArray) w := by
    unfold execOp
    rw [ho]
    simp [resolve, Act.eval, Deferred.ofValue, invoke, hf.1 _ _]
  unfold Oper.wp
  rw [hrun, Oper.upon_enter]
  refine (hf.2 w _ (hbase.2.mono hbase.1) hA).mono ?_
  rintro e w' ⟨b, oo, o1, cap, arr, rfl, q0, q1, q2, q3, q4, q5, q6, hb⟩
  have hlt : b < w'.heap.size := lt_of_heap q4
  refine hK _ _ _ _ (Chg.fresh (g := (b, oo)) hown hb q1 hlt ?_ ?_)
  · have hm := Nat.mul_le_mul_right sz q2
    refine ⟨arr, q4, by show oo + _ ≤ _; omega, fun i e he => ⟨(q6 i e he).1, fun j r hj => ?_⟩⟩
    obtain ⟨u, hu, hp⟩ := (q6 i e he).2 j r hj
    have hx : Cx.Ext ⟨w', fun b' => b' < w.heap.size ∨ b' = b⟩ (Cx.young ⟨w', fun b' => own b' ∨ b' = b⟩ base true) := Cx.Ext.sub rfl (by
      rintro b' (h | h)
      · rcases h with h | h
        · exact Or.inl (hown b' h).2
        · exact Or.inr h
      · exact Or.inl (Nat.lt_of_lt_of_le h hbase.1))
    exact ⟨u, hu, r.mono hx hp⟩
  · exact ⟨o1, cap, arr, E, by rw [upd_same], by rw [upd_same, Nat.zero_mul]; exact q0, q2, q3, by rw [upd_same]; exact q4, by rw [upd_same, Nat.zero_add]; exact q5⟩
def DArgs (ι : Nat → Nat × Nat) (base : Nat) (c : Cx) : List Value → List D → Prop
  | [], [] => True
  | v :: vs, d :: ds => d.p ι base c v ∧ DArgs ι base c vs ds
  | _, _ => False
theorem DArgs.length {ι : Nat → Nat × Nat} {base : Nat} {c : Cx} : ∀ {vs : List Value} {ds : List D}, DArgs ι base c vs ds → vs.length = ds.length
  | [], [], _ => rfl
  | _ :: _, _ :: _, ⟨_, h⟩ => by simp [h.length]
  | [], _ :: _, h => h.elim
  | _ :: _, [], h => h.elim
def dEnv : Nat → List D → List (Nat × D)
  | _, [] => []
  | i, d :: ds => (i, d) :: dEnv (i + 1) ds
theorem dEnv_sim {c : Cx} {ι : Nat → Nat × Nat} {base : Nat} : ∀ (i : Nat) (vs : List Value) (ds : List D) (n : Nat), DArgs ι base c vs ds → ∀ (pre : List Value), pre.length = i → ∀ t, i ≤ t → (look (dEnv i ds) t).p ι base c ((pre ++ vs ++ List.replicate n undef).getD t undef)
  | i, [], [], n, _, pre, hp, t, ht => by simp only [dEnv, look, D.p]
  | i, v :: vs, d :: ds, n, ⟨h1, h2⟩, pre, hp, t, ht => by
    simp only [dEnv, look]
    by_cases e : t = i
    · subst e
      rw [upd_same]
      simp only [List.getD_eq_getElem?_getD, List.append_assoc]
      rw [List.getElem?_append_right (by omega), hp]
      simpa using h1
    · rw [upd_ne _ _ e]
      have := dEnv_sim (ι := ι) (base := base) (i + 1) vs ds n h2 (pre ++ [v]) (by simp [hp]) t (by omega)
      simpa using this
  | i, [], _ :: _, n, h, _, _, _, _ => h.elim
  | i, _ :: _, [], n, h, _, _, _, _ => h.elim
structure ChgS (base : Nat) (w w' : World) (ι ι' : Nat → Nat × Nat) (own own' : Nat → Prop) (v : Value) (d : D) (h h' : List (Nat × Ob)) : Prop where
  os : w'.os = w.os
  tape : w'.tape = w.tape
  output : w'.output = w.output
  size : w.heap.size ≤ w'.heap.size
  block : ∀ b, b < w.heap.size → (∀ k ∈ keys h, b ≠ (ι k).1) → w'.heap[b]? = w.heap[b]?
  sized : Sized w w'
  own1 : ∀ b, own b → (∀ k ∈ keys h, b ≠ (ι k).1) → own' b
  own2 : ∀ b, own' b → own b ∨ w.heap.size ≤ b
  own3 : ∀ b, own' b → base ≤ b ∧ b < w'.heap.size
  val : d.p ι' base ⟨w', own'⟩ v
  pin : ∀ k, pinned ≤ k → k ∈ keys h → ι' k = ι k
  named : ∀ k ob, lookH h' k = some ob → own' (ι' k).1 ∧ ob.p ι' base ⟨w', own'⟩ (ι' k) ∧ (w.heap.size ≤ (ι' k).1 ∨ ∃ k0 ∈ keys h, (ι' k).1 = (ι k0).1)
  inj : ∀ k k' ob ob', lookH h' k = some ob → lookH h' k' = some ob' → (ι' k).1 = (ι' k').1 → k = k'
def FnS (P : Program) (f : FuncId) (args : List D) (h : List (Nat × Ob)) (d : D) (h' : List (Nat × Ob)) : Prop :=
  Ent P f ∧ ∀ (base : Nat) (w : World) (ι : Nat → Nat × Nat) (own : Nat → Prop) (vs : List Value), (∀ b, own b → base ≤ b ∧ b < w.heap.size) → (base ≤ w.heap.size ∧ Glob base w) →
    (∀ k ob, lookH h k = some ob → own (ι k).1 ∧ ob.p ι base ⟨w, own⟩ (ι k)) → (∀ k k' ob ob', lookH h k = some ob → lookH h k' = some ob' → (ι k).1 = (ι k').1 → k = k') → DArgs ι base ⟨w, own⟩ vs args →
    Calls P f vs.toArray w (fun e w' => ∃ v ι' own', e = .returned v ∧ ChgS base w w' ι ι' own own' v d h h')
theorem lookH_keys {h : List (Nat × Ob)} {k : Nat} {ob : Ob} (hk : lookH h k = some ob) : k ∈ keys h := by
  rcases Classical.em (k ∈ keys h) with h1 | h1
  · exact h1
  · rw [lookH_none h1] at hk; cases hk
noncomputable def bsS (w : World) (base : Nat) (ι : Nat → Nat × Nat) (own : Nat → Prop) (h : List (Nat × Ob)) : Bs :=
  { toWorld := w, base := base, M := fun b => ∃ k ∈ keys h, b = (ι k).1, own0 := own, pin := fun k => if pinned ≤ k ∧ k ∈ keys h then some (ι k) else none, dfs := [] }
def Ret1 (P : Program) (s : St) : ResultVar → D → Prop
  | .tmp t, d => s.env t = d
  | .cell t ty, d => ∃ k off E cells ag m, s.env t = .one (.ptr k 0 0 off) ∧ s.heap k = some (.var E cells) ∧ tyOf P ty = some (ag, m) ∧ Nat.ble (off + m) cells.length = true ∧ (ag || Nat.beq m 1) = true ∧ cut ag m off cells = d
def coD : Bool × List Cell → Option D
  | (true, xs) => some (.agg xs)
  | (false, [x]) => some (.one x)
  | _ => none
def RvCs (P : Program) (s : St) : List ResultVar → List (Bool × List Cell) → Prop
  | [], [] => True
  | r :: rs, x :: xs => (∃ d, Ret1 P s r d ∧ coD x = some d) ∧ RvCs P s rs xs
  | _, _ => False
theorem ret1_run {P : Program} {w0 : Bs} {s : St} {a : Act} {w : World} {ι : Nat → Nat × Nat} {own : Nat → Prop} (hs : Sim' w0 s a w ι own) : ∀ {r : ResultVar} {d : D}, Ret1 P s r d → ∃ v, (rvRun a.tmps r).run P w = .ok v w ∧ d.p ι w0.base ⟨w, own⟩ v
  | .tmp t, d, h => ⟨_, rfl, (show s.env t = d from h) ▸ hs.env t⟩
  | .cell t ty, _, ⟨k, off, E, cells, ag, m, h1, h2, h3, h4, h5, rfl⟩ => by
    have hx := hs.env t
    rw [h1] at hx
    have hx2 : a.tmps.getD t undef = .pointer (some ⟨(ι k).1, (ι k).2 + off, none⟩) := by have : a.tmps.getD t undef = .pointer (some ⟨(ι k).1, (ι k).2 + (0 * 0 + off), none⟩) := hx; simpa using this
    obtain ⟨v, g1, g2⟩ := load_var_run (P := P) (t := ty) (hs.heap k _ h2).2 h3 (by simpa using h4) (by simpa using h5)
    refine ⟨v, ?_, g2⟩
    simp only [rvRun, hx2, Sem.run_bind, asAddr, Sem.run_pure, Result.andThen_ok, g1]
theorem coD_p {ι : Nat → Nat × Nat} {base : Nat} {c : Cx} {v : Value} : ∀ {x : Bool × List Cell} {d : D}, coD x = some d → d.p ι base c v → Co.p ι base c v x
  | (true, xs), _, h, hp => by injection h with h; subst h; exact hp
  | (false, [x]), _, h, hp => by injection h with h; subst h; exact hp
  | (false, []), _, h, _ => by cases h
  | (false, _ :: _ :: _), _, h, _ => by cases h
theorem rvCs_run {P : Program} {w0 : Bs} {s : St} {a : Act} {w : World} {ι : Nat → Nat × Nat} {own : Nat → Prop} (hs : Sim' w0 s a w ι own) : ∀ {l : List ResultVar} {xs : List (Bool × List Cell)}, RvCs P s l xs → ∃ vs, RvsRun P w a.tmps l vs ∧ l.length = vs.length ∧ vs.length = xs.length ∧ ∀ (j : Nat) (x : Bool × List Cell), xs[j]? = some x → ∃ u, vs[j]? = some u ∧ Co.p ι w0.base ⟨w, own⟩ u x
  | [], [], _ => ⟨[], trivial, rfl, rfl, fun j x hj => by simp at hj⟩
  | rv :: l, x :: xs, ⟨⟨d, h1, h0⟩, h2⟩ => by
    obtain ⟨v, g1, g2⟩ := ret1_run hs h1
    obtain ⟨vs, e1, e0, e2, e3⟩ := rvCs_run hs h2
    refine ⟨v :: vs, ⟨g1, e1⟩, by simp [e0], by simp [e2], fun j y hj => ?_⟩
    cases j with
    | zero => simp at hj; subst hj; exact ⟨v, rfl, coD_p h0 g2⟩
    | succ j => exact e3 j y (by simpa using hj)
  | [], _ :: _, h => h.elim
  | _ :: _, [], h => h.elim
def RetD (P : Program) (s : St) : List ResultVar → D → Prop
  | [], d => d = .tup true []
  | [.tmp t], d => s.env t = d
  | [.cell t ty], d => ∃ k off E cells ag m, s.env t = .one (.ptr k 0 0 off) ∧ s.heap k = some (.var E cells) ∧ tyOf P ty = some (ag, m) ∧ Nat.ble (off + m) cells.length = true ∧ (ag || Nat.beq m 1) = true ∧ cut ag m off cells = d
  | l, d => (∃ xs, d = .tup true xs ∧ Nat.beq l.length 1 = false ∧ RvsOk P s l xs ∧ xs.all (fun x => match x with | .one (.val _) => true | _ => false) = true) ∨ (∃ xs, d = .tups xs ∧ Nat.beq l.length 1 = false ∧ RvCs P s l xs)
theorem retD_run {P : Program} {fn : Func} {w0 : Bs} {s : St} {a : Act} {w : World} {ι : Nat → Nat × Nat} {own : Nat → Prop} (hs : Sim' w0 s a w ι own) {l : List ResultVar} {d : D} (hf : fn.results = l.toArray) (h : RetD P s l d) : ∃ v, (results fn a.tmps).run P w = .ok v w ∧ d.p ι w0.base ⟨w, own⟩ v := by
  have gen : ∀ xs, d = .tup true xs → Nat.beq l.length 1 = false → RvsOk P s l xs → xs.all (fun x => match x with | .one (.val _) => true | _ => false) = true → ∃ v, (results fn a.tmps).run P w = .ok v w ∧ d.p ι w0.base ⟨w, own⟩ v := by
    intro xs hd hl hr hv
    obtain ⟨vs, e1, e0, e2, e3⟩ := rvs_run hs hr
    have h1 : l.length ≠ 1 := fun e => by rw [e] at hl; cases hl
    refine ⟨.tuple vs.toArray, by rw [results_run hf e1, dif_neg (by simp; omega)], ?_⟩
    subst hd
    refine ⟨vs, rfl, e2, fun j x hj => ?_⟩
    obtain ⟨u, hu, hp⟩ := e3 j x hj
    refine ⟨u, hu, ?_⟩
    have := List.all_eq_true.1 hv x (List.mem_of_getElem? hj)
    cases x with
    | agg rs => cases this
    | one r => cases r with
      | val z => exact val_p.2 (val_p.1 hp)
      | row _ _ _ => cases this
      | ref _ => cases this
  have gen2 : ∀ xs, d = .tups xs → Nat.beq l.length 1 = false → RvCs P s l xs → ∃ v, (results fn a.tmps).run P w = .ok v w ∧ d.p ι w0.base ⟨w, own⟩ v := by
    intro xs hd hl hr
    obtain ⟨vs, e1, e0, e2, e3⟩ := rvCs_run hs hr
    have h1 : l.length ≠ 1 := fun e => by rw [e] at hl; cases hl
    refine ⟨.tuple vs.toArray, by rw [results_run hf e1, dif_neg (by simp; omega)], ?_⟩
    subst hd
    exact ⟨vs, rfl, e2, e3⟩
  match l, h with
  | [], h => exact gen [] h rfl trivial rfl
  | [.tmp t], h => exact ⟨_, results_run (vs := [a.tmps.getD t undef]) hf ⟨rfl, trivial⟩, h ▸ hs.env t⟩
  | [.cell t ty], h =>
    obtain ⟨k, off, E, cells, ag, m, h1, h2, h3, h4, h5, rfl⟩ := h
    have hx := hs.env t
    rw [h1] at hx
    have hx2 : a.tmps.getD t undef = .pointer (some ⟨(ι k).1, (ι k).2 + off, none⟩) := by have : a.tmps.getD t undef = .pointer (some ⟨(ι k).1, (ι k).2 + (0 * 0 + off), none⟩) := hx; simpa using this
    obtain ⟨v, g1, g2⟩ := load_var_run (P := P) (t := ty) (hs.heap k _ h2).2 h3 (by simpa using h4) (by simpa using h5)
    refine ⟨v, results_run (vs := [v]) hf ⟨?_, trivial⟩, g2⟩
    simp only [rvRun, hx2, Sem.run_bind, asAddr, Sem.run_pure, Result.andThen_ok, g1]
  | .tmp _ :: _ :: _, .inl h => obtain ⟨xs, h1, h2, h3, h4⟩ := h; exact gen xs h1 h2 h3 h4
  | .cell _ _ :: _ :: _, .inl h => obtain ⟨xs, h1, h2, h3, h4⟩ := h; exact gen xs h1 h2 h3 h4
  | .tmp _ :: _ :: _, .inr h => obtain ⟨xs, h1, h2, h3⟩ := h; exact gen2 xs h1 h2 h3
  | .cell _ _ :: _ :: _, .inr h => obtain ⟨xs, h1, h2, h3⟩ := h; exact gen2 xs h1 h2 h3
def DImp (d d' : D) : Prop := ∀ (ι : Nat → Nat × Nat) (base : Nat) (c : Cx) (v : Value), d.p ι base c v → d'.p ι base c v
def EndD (P : Program) (s : St) (l : List ResultVar) (ρ : List (Nat × Nat)) (d : D) (h' : List (Nat × Ob)) : Prop := injB ρ (h'.map (·.1)) = true ∧ SubHR ρ s.heap h' ∧ ∃ d0, RetD P s l d0 ∧ DImp d0 (d.ren ρ)
theorem fnS_of {P : Program} {f : FuncId} {fn : Func} {c : Code} {n : Nat} {args : List D} {h h' : List (Nat × Ob)} {d : D} {l : List ResultVar} (hf : P.funcs[f]? = some fn) (hname : (fn.name == "runtime.NumGoroutine") = false) (hb : fn.body = some c) (hn : fn.ntmps = n) (hr : fn.results = l.toArray) (hl : Nat.ble args.length n = true)
    (hW : AW P c (mkS n (dEnv 0 args) h) (fun e s => (e = .ret ∨ e = .normal) ∧ ∃ s2, Weak s s2 ∧ ∃ ρ, EndD P s2 l ρ d h')) : FnS P f args h d h' := by
  refine ⟨ent_of hf hname hb, ?_⟩
  intro base w ι own vs hown hbase hH hinj hA
  refine calls_of_wp hf hb ?_
  have hlen := hA.length
  have hl' : args.length ≤ n := by simpa using hl
  have hs : Sim (bsS w base ι own h) (mkS n (dEnv 0 args) h) { tmps := vs.toArray ++ Array.replicate (fn.ntmps - vs.toArray.size) undef, defers := [] } w := by
    refine ⟨ι, own, ⟨rfl, rfl, rfl, Nat.le_refl _, fun _ _ _ => rfl, fun b arr E h => ⟨arr, h, rfl⟩⟩, hbase, hown, fun b _ hb _ => hb, fun b hb => .inl hb, ?_, ?_, hH, fun k ob hk => .inr ⟨k, lookH_keys hk, rfl⟩, hinj, rfl, fun k p hp => ?_⟩
    · simp [hn, mkS]; omega
    · intro t
      have := dEnv_sim (ι := ι) (base := base) 0 vs args (fn.ntmps - vs.toArray.size) hA [] rfl t (Nat.zero_le _)
      simpa [mkS, bsS, List.getD_eq_getElem?_getD, ← Array.getElem?_toList] using this
    · have hp' : (if pinned ≤ k ∧ k ∈ keys h then some (ι k) else none) = some p := hp
      split at hp'
      · rename_i hc; injection hp' with hp'; exact ⟨hp', hc.1⟩
      · cases hp'
  refine wp_mono (hW (bsS w base ι own h) _ w hs) ?_
  rintro e a' w' ⟨s', ⟨he, s2, hwk, ρ, hend⟩, hs0⟩
  obtain ⟨ι1, own', hs'⟩ := hwk _ _ _ hs0
  obtain ⟨d0, hd0, himp⟩ := hend.2.2
  obtain ⟨v, g1, g2'⟩ := retD_run hs' hr hd0
  have g2 := himp _ _ _ _ g2'
  have hd : a'.defers = [] := hs'.defers
  have hi := hend.1
  have hh := hend.2.1
  unfold injB at hi
  rw [Bool.and_eq_true] at hi
  obtain ⟨hpn, hi⟩ := hi
  have key : ∃ v' ι' own', Ending.returned v = .returned v' ∧ ChgS base w w' ι ι' own own' v' d h h' := by
    refine ⟨v, fun k => ι1 (ren ρ k), own', rfl, hs'.below.os, hs'.below.tape, hs'.below.output, hs'.below.size, fun b hb hn => hs'.below.block b hb (fun ⟨k, hk, e⟩ => hn k hk e), hs'.below.sized, fun b hb hn => hs'.keep b (hown b hb).2 hb (fun ⟨k, hk, e⟩ => hn k hk e), hs'.frm, hs'.own_, D.ren_p g2, fun k hk hk' => ?_, fun k ob hk => ?_, fun k k' ob ob' hk hk' e => ?_⟩
    · show ι1 (ren ρ k) = ι k
      rw [ren_pin hk hpn]
      refine (hs'.pin k (ι k) ?_).1
      show (if pinned ≤ k ∧ k ∈ keys h then some (ι k) else none) = some (ι k)
      rw [if_pos ⟨hk, hk'⟩]
    · obtain ⟨h1, _⟩ := hh.get k ob hk
      obtain ⟨q1, q2⟩ := hs'.heap _ _ h1
      exact ⟨q1, Ob.ren_p q2, hs'.place _ _ h1⟩
    · obtain ⟨h1, m1⟩ := hh.get k ob hk
      obtain ⟨h2, m2⟩ := hh.get k' ob' hk'
      have := hs'.inj _ _ _ _ h1 h2 e
      simp only [List.all_eq_true, Bool.or_eq_true, Bool.not_eq_true', Nat.beq_eq] at hi
      rcases hi k m1 k' m2 with h | h
      · rw [this] at h; simp at h
      · exact h
  rcases he with rfl | rfl
  · exact ⟨hd, v, g1, key⟩
  · exact ⟨hd, v, g1, key⟩
theorem Cell.p_on {ι ι' : Nat → Nat × Nat} {base : Nat} {c : Cx} {v : Value} : ∀ {x : Cell}, (∀ k, x.men k = true → ι' k = ι k) → x.p ι base c v → x.p ι' base c v
  | .r n x, _, h => h
  | .own k j n sz, hm, h => by
    have : ι' k = ι k := hm k (by simp [Cell.men])
    simpa only [Cell.p, this] using h
  | .ptr k i sz off, hm, h => by
    have : ι' k = ι k := hm k (by simp [Cell.men])
    simpa only [Cell.p, this] using h
  | .any, _, h => h
  | .clo f ps, hm, h => by
    have : ptrsV ι' ps = ptrsV ι ps := ptrsV_eq fun p hp => hm p.1 (by simp only [Cell.men, List.any_eq_true]; exact ⟨p, hp, by simp⟩)
    simpa only [Cell.p, this] using h
theorem Ob.p_on {ι ι' : Nat → Nat × Nat} {base : Nat} {c : Cx} {b : Nat × Nat} : ∀ {x : Ob}, (∀ k, x.men k = true → ι' k = ι k) → x.p ι base c b → x.p ι' base c b
  | .var E xs, hm, ⟨arr, h1, h2, h3⟩ => ⟨arr, h1, h2, fun j x hj => by
      obtain ⟨u, hu, hx⟩ := h3 j x hj
      exact ⟨u, hu, Cell.p_on (fun k hk => hm k (by simp only [Ob.men, List.any_eq_true]; exact ⟨x, List.mem_of_getElem? hj, hk⟩)) hx⟩⟩
  | .sl .., _, h => h
theorem Cell.p_ren {ρ : List (Nat × Nat)} {ι : Nat → Nat × Nat} {base : Nat} {c : Cx} {v : Value} : ∀ {x : Cell}, x.p (fun k => ι (Abs.ren ρ k)) base c v → (x.ren ρ).p ι base c v
  | .r _ _, h => h
  | .own .., h => h
  | .ptr .., h => h
  | .any, h => h
  | .clo .., h => ⟨by rw [h.1, ptrsV_ren], h.2⟩
theorem Ob.p_ren {ρ : List (Nat × Nat)} {ι : Nat → Nat × Nat} {base : Nat} {b : Nat × Nat} {c : Cx} : ∀ {ob : Ob}, ob.p (fun k => ι (Abs.ren ρ k)) base c b → (ob.ren ρ).p ι base c b
  | .var E cs, ⟨arr, h1, h2, h3⟩ => ⟨arr, h1, by simpa using h2, fun j x hj => by
      simp only [List.getElem?_map, Option.map_eq_some_iff] at hj
      obtain ⟨y, hy, rfl⟩ := hj
      obtain ⟨u, hu, hx⟩ := h3 j y hy
      exact ⟨u, hu, Cell.p_ren hx⟩⟩
  | .sl .., h => h
theorem D.p_on {ι ι' : Nat → Nat × Nat} {base : Nat} {c : Cx} {v : Value} : ∀ {x : D}, (∀ k, x.men k = true → ι' k = ι k) → x.p ι base c v → x.p ι' base c v
  | .one x, hm, h => Cell.p_on hm h
  | .agg xs, hm, ⟨vs, h1, h2, h3⟩ => ⟨vs, h1, h2, fun j x hj => by
      obtain ⟨u, hu, hx⟩ := h3 j x hj
      exact ⟨u, hu, Cell.p_on (fun k hk => hm k (by simp only [D.men, List.any_eq_true]; exact ⟨x, List.mem_of_getElem? hj, hk⟩)) hx⟩⟩
  | .tup n xs, _, h => h
  | .any, _, _ => trivial
  | .tups xs, hm, h => D.tups_imp (fun x hx y hy _ h1 => Cell.p_on (fun k hk => hm k (by simp only [D.men, List.any_eq_true]; exact ⟨x, hx, y, hy, hk⟩)) h1) h
theorem D.p_ren {ρ : List (Nat × Nat)} {ι : Nat → Nat × Nat} {base : Nat} {c : Cx} {v : Value} : ∀ {d : D}, d.p (fun k => ι (Abs.ren ρ k)) base c v → (d.ren ρ).p ι base c v
  | .one x, h => Cell.p_ren h
  | .agg xs, ⟨vs, h1, h2, h3⟩ => ⟨vs, h1, by simpa using h2, fun j x hj => by
      simp only [List.getElem?_map, Option.map_eq_some_iff] at hj
      obtain ⟨y, hy, rfl⟩ := hj
      obtain ⟨u, hu, hx⟩ := h3 j y hy
      exact ⟨u, hu, Cell.p_ren hx⟩⟩
  | .tup _ _, h => h
  | .any, _ => trivial
  | .tups xs, h => D.tups_map (Cell.ren ρ) (fun _ _ _ _ _ h1 => Cell.p_ren h1) h
def AsD (d d' : D) (ρ : List (Nat × Nat)) : Prop := ∀ (ι : Nat → Nat × Nat) (base : Nat) (c : Cx) (v : Value), d.p ι base c v → d'.p (fun k => ι (ren ρ k)) base c v
theorem asD_ren {d d' : D} {ρ : List (Nat × Nat)} (h : d = d'.ren ρ) : AsD d d' ρ := fun ι base c v hd => D.ren_p (h ▸ hd)
theorem asD_r {m : Bool} {r r' : R} {ρ : List (Nat × Nat)} (h : r = r') : AsD (.one (.r m r)) (.one (.r false r')) ρ := fun ι base c v hd => by
  subst h; exact R.mono r (young_le (m' := false) (fun h => by cases h)) hd
def AsDs (ρ : List (Nat × Nat)) (ev : Operand → D) : List Operand → List D → Prop
  | [], [] => True
  | x :: xs, d :: ds => AsD (ev x) d ρ ∧ AsDs ρ ev xs ds
  | _, _ => False
theorem dargs_of {ρ : List (Nat × Nat)} {ev : Operand → D} {ι : Nat → Nat × Nat} {base : Nat} {c : Cx} {e : Operand → Value} : ∀ (xs : List Operand) (ds : List D), (∀ x ∈ xs, (ev x).p ι base c (e x)) → AsDs ρ ev xs ds → DArgs (fun k => ι (ren ρ k)) base c (xs.map e) ds
  | [], [], _, _ => trivial
  | x :: xs, d :: ds, h, ⟨h1, h2⟩ => ⟨h1 ι base c _ (h x (by simp)), dargs_of xs ds (fun x hx => h x (by simp [hx])) h2⟩
  | [], _ :: _, _, h => h.elim
  | _ :: _, [], _, h => h.elim
def mapN (ρ : List (Nat × Nat)) : List Nat → List Nat
  | [] => []
  | k :: ks => ren ρ k :: mapN ρ ks
def lowN : List Nat → List Nat
  | [] => []
  | k :: ks => bif Nat.blt k pinned then k :: lowN ks else lowN ks
def someU (ρ : List (Nat × Nat)) : List (Nat × Ob) → List (Nat × Option Ob)
  | [] => []
  | (k, ob) :: h => (ren ρ k, some (ob.ren ρ)) :: someU ρ h
def noneU (ρ : List (Nat × Nat)) : List Nat → List (Nat × Option Ob)
  | [] => []
  | k :: ks => (ren ρ k, none) :: noneU ρ ks
theorem mem_mapN {ρ : List (Nat × Nat)} {u : Nat} : ∀ {ks : List Nat}, u ∈ mapN ρ ks ↔ ∃ k ∈ ks, ren ρ k = u
  | [] => by simp [mapN]
  | k :: ks => by simp only [mapN, List.mem_cons, mem_mapN (ks := ks)]; constructor
                  · rintro (h | ⟨k', h1, h2⟩)
                    · exact ⟨k, .inl rfl, h.symm⟩
                    · exact ⟨k', .inr h1, h2⟩
                  · rintro ⟨k', h1 | h1, h2⟩
                    · exact .inl (by rw [← h2, h1])
                    · exact .inr ⟨k', h1, h2⟩
theorem mem_lowN {u : Nat} : ∀ {ks : List Nat}, u ∈ lowN ks ↔ u ∈ ks ∧ u < pinned
  | [] => by simp [lowN]
  | k :: ks => by
    simp only [lowN]
    cases hb : Nat.blt k pinned with
    | true =>
      have : k < pinned := by simpa using hb
      simp only [cond_true, List.mem_cons, mem_lowN (ks := ks)]
      constructor
      · rintro (h | h)
        · exact ⟨.inl h, h ▸ this⟩
        · exact ⟨.inr h.1, h.2⟩
      · rintro ⟨h | h, h'⟩
        · exact .inl h
        · exact .inr ⟨h, h'⟩
    | false =>
      have : ¬ k < pinned := by
        intro h
        have h2 : Nat.blt k pinned = true := by rw [Nat.blt_eq]; exact h
        rw [h2] at hb; cases hb
      simp only [cond_false, List.mem_cons, mem_lowN (ks := ks)]
      constructor
      · rintro h; exact ⟨.inr h.1, h.2⟩
      · rintro ⟨h | h, h'⟩
        · exact absurd (h ▸ h') this
        · exact ⟨h, h'⟩
theorem mem_someU {ρ : List (Nat × Nat)} {u : Nat} {ob : Ob} : ∀ {h : List (Nat × Ob)}, (u, some ob) ∈ someU ρ h → ∃ k o, (k, o) ∈ h ∧ u = ren ρ k ∧ ob = o.ren ρ
  | [], h => by simp [someU] at h
  | (k, o) :: r, h => by
    simp only [someU, List.mem_cons] at h
    rcases h with h | h
    · injection h with h1 h2
      injection h2 with h2
      exact ⟨k, o, by simp, h1, h2⟩
    · obtain ⟨k', o', h1, h2, h3⟩ := mem_someU h
      exact ⟨k', o', by simp [h1], h2, h3⟩
theorem not_noneU {ρ : List (Nat × Nat)} {u : Nat} {ob : Ob} : ∀ {ks : List Nat}, (u, some ob) ∉ noneU ρ ks
  | [], h => by simp [noneU] at h
  | k :: ks, h => by
    simp only [noneU, List.mem_cons] at h
    rcases h with h | h
    · injection h with _ h; cases h
    · exact not_noneU h
def nodupB : List Nat → Bool
  | [] => true
  | k :: ks => !memB k ks && nodupB ks
theorem lookH_mem : ∀ {h : List (Nat × Ob)} {k : Nat} {ob : Ob}, nodupB (keys h) = true → (k, ob) ∈ h → lookH h k = some ob
  | (u, o) :: h, k, ob, hn, hm => by
    simp only [keys, nodupB, Bool.and_eq_true, Bool.not_eq_true'] at hn
    simp only [List.mem_cons] at hm
    simp only [lookH, upd]
    rcases hm with hm | hm
    · injection hm with h1 h2; subst h1 h2; rw [if_pos rfl]
    · have hk : k ∈ keys h := by
        clear hn
        induction h with
        | nil => simp at hm
        | cons p h ih =>
          obtain ⟨a, b⟩ := p
          simp only [List.mem_cons] at hm
          rcases hm with hm | hm
          · injection hm with h1 _; simp [keys, h1]
          · simp only [keys, List.mem_cons]; exact .inr (ih hm)
      have hne : k ≠ u := fun e => by
        subst e
        have := memB_spec.2 hk
        rw [this] at hn; cases hn.1
      rw [if_neg hne]
      exact lookH_mem hn.2 hm
def closedB (ks : List Nat) : List (Nat × Ob) → Bool
  | [] => true
  | (_, ob) :: h => ob.names.all (fun k => memB k ks) && closedB ks h
theorem cell_names {k : Nat} : ∀ {x : Cell}, x.men k = true → k ∈ x.names
  | .r .., h => by cases h
  | .own .., h => by simp [Cell.men] at h; simp [Cell.names, h]
  | .ptr .., h => by simp [Cell.men] at h; simp [Cell.names, h]
  | .any, h => by cases h
  | .clo f ps, h => by
    simp only [Cell.men, List.any_eq_true] at h
    obtain ⟨p, hp, hk⟩ := h
    have : p.1 = k := by simpa using hk
    exact List.mem_map.2 ⟨p, hp, this⟩
theorem cells_names {k : Nat} : ∀ {xs : List Cell}, xs.any (Cell.men k) = true → k ∈ namesL xs
  | [], h => by simp at h
  | x :: xs, h => by
    simp only [List.any_cons, Bool.or_eq_true] at h
    simp only [namesL, List.mem_append]
    rcases h with h | h
    · exact .inl (cell_names h)
    · exact .inr (cells_names h)
theorem ob_names {k : Nat} : ∀ {x : Ob}, x.men k = true → k ∈ x.names
  | .var E xs, h => cells_names h
  | .sl .., h => by cases h
theorem t_names {k : Nat} : ∀ {xs : List (Bool × List Cell)}, (xs.any fun x => x.2.any (Cell.men k)) = true → k ∈ namesT xs
  | [], h => by cases h
  | x :: xs, h => by
    simp only [List.any_cons, Bool.or_eq_true] at h
    simp only [namesT, List.mem_append]
    rcases h with h | h
    · exact .inl (cells_names h)
    · exact .inr (t_names h)
theorem d_names {k : Nat} : ∀ {x : D}, x.men k = true → k ∈ x.names
  | .one x, h => cell_names h
  | .agg xs, h => cells_names h
  | .tup .., h => by cases h
  | .any, h => by cases h
  | .tups xs, h => t_names h
theorem closedB_spec {ks : List Nat} : ∀ {h : List (Nat × Ob)}, closedB ks h = true → ∀ k ob, (k, ob) ∈ h → ∀ u, ob.men u = true → u ∈ ks
  | (u0, o) :: h, hc, k, ob, hm, u, hu => by
    simp only [closedB, Bool.and_eq_true, List.all_eq_true] at hc
    simp only [List.mem_cons] at hm
    rcases hm with hm | hm
    · injection hm with _ h2; subst h2; exact memB_spec.1 (hc.1 u (ob_names hu))
    · exact closedB_spec hc.2 k ob hm u hu
def injN (ρ : List (Nat × Nat)) (ks : List Nat) : Bool := ks.all fun a => ks.all fun b => !(Nat.beq (ren ρ a) (ren ρ b)) || Nat.beq a b
def okS (ρ : List (Nat × Nat)) (d : D) (h h' : List (Nat × Ob)) : Bool := injN ρ (keys h ++ keys h') && nodupB (keys h') && closedB (keys h') h' && (keys h').all (fun k => Nat.blt k pinned || memB k (keys h)) && d.names.all (fun k => memB k (keys h'))
def invN (ρ : List (Nat × Nat)) : List Nat → Nat → Option Nat
  | [], _ => none
  | m :: ms, k => if ren ρ m = k then some m else invN ρ ms k
theorem invN_some {ρ : List (Nat × Nat)} : ∀ {ms : List Nat} {k m : Nat}, invN ρ ms k = some m → m ∈ ms ∧ ren ρ m = k
  | m0 :: ms, k, m, h => by
    simp only [invN] at h
    split at h
    · rename_i e; injection h with h; subst h; exact ⟨by simp, e⟩
    · obtain ⟨h1, h2⟩ := invN_some h; exact ⟨by simp [h1], h2⟩
theorem invN_none {ρ : List (Nat × Nat)} : ∀ {ms : List Nat} {k : Nat}, invN ρ ms k = none → ∀ m ∈ ms, ren ρ m ≠ k
  | m0 :: ms, k, h, m, hm => by
    simp only [invN] at h
    split at h
    · cases h
    · rename_i e
      simp only [List.mem_cons] at hm
      rcases hm with hm | hm
      · rw [hm]; exact e
      · exact invN_none h m hm
theorem e_callS {P : Program} {H : Nat → Option Ob} {ev : Operand → D} {o : Oper} {f : FuncId} {args : List D} {d : D} {h h' : List (Nat × Ob)} {xs : List Operand} {tys : Array TypeId} (ρ : List (Nat × Nat)) (hf : FnS P f args h d h') (ho : o.op = .call { callee := .value (.func f), args := xs.toArray, argTypes := tys })
    (ha : AsDs ρ ev xs args) (hh : SubHR ρ H h) (hok : okS ρ d h h' = true) : Eff P H ev o (d.ren ρ) (mapN ρ (keys h)) (mapN ρ (lowN (keys h'))) (someU ρ h' ++ noneU ρ (keys h)) := by
  unfold okS at hok
  simp only [Bool.and_eq_true, List.all_eq_true, Bool.or_eq_true, memB_spec, Nat.blt_eq] at hok
  obtain ⟨⟨⟨⟨hinj, hnd⟩, hcl⟩, hpn⟩, hdn⟩ := hok
  have hρ : ∀ a ∈ keys h ++ keys h', ∀ b ∈ keys h ++ keys h', ren ρ a = ren ρ b → a = b := fun a ha b hb e => by
    unfold injN at hinj
    have := List.all_eq_true.1 (List.all_eq_true.1 hinj a ha) b hb
    rw [e] at this
    simpa using this
  intro base a w ι own hown hbase hev hH hHi K Q hK
  have hm : ∀ x ∈ xs, (ev x).p ι base ⟨w, own⟩ (a.eval x) := fun x hx => hev x (by rw [ho]; simp [Op.operands, Call.operands, hx])
  have hrun : (execOp a.eval o).run P w = .ok (.enter f (xs.map a.eval).toArray) w := by
    unfold execOp
    rw [ho]
    simp [resolve, Act.eval, Deferred.ofValue, invoke, hf.1 _ _]
  unfold Oper.wp
  rw [hrun, Oper.upon_enter]
  refine (hf.2 base w (fun k => ι (ren ρ k)) own _ hown hbase (fun k ob hk => ?_) (fun k k' ob ob' hk hk' e => ?_) (dargs_of xs args hm ha)).mono ?_
  · obtain ⟨g1, g2⟩ := hh.get k ob hk
    obtain ⟨q1, q2⟩ := hH _ _ g1
    exact ⟨q1, Ob.ren_p q2⟩
  · have := hHi _ _ _ _ (hh.get k ob hk).1 (hh.get k' ob' hk').1 e
    exact hρ k (List.mem_append_left _ (lookH_keys hk)) k' (List.mem_append_left _ (lookH_keys hk')) this
  · rintro e w' ⟨v, ιc, own', rfl, hc⟩
    let ι' : Nat → Nat × Nat := fun k => match invN ρ (lowN (keys h')) k with | some m => ιc m | none => ι k
    have hι : ∀ m ∈ keys h', ι' (ren ρ m) = ιc m := fun m hm => by
      show (match invN ρ (lowN (keys h')) (ren ρ m) with | some m => ιc m | none => ι (ren ρ m)) = ιc m
      cases hi : invN ρ (lowN (keys h')) (ren ρ m) with
      | some m' =>
        obtain ⟨h1, h2⟩ := invN_some hi
        rw [hρ m' (List.mem_append_right _ (mem_lowN.1 h1).1) m (List.mem_append_right _ hm) h2]
      | none =>
        have hge : pinned ≤ m := by
          rcases Nat.lt_or_ge m pinned with hlt | hge
          · exact absurd rfl (invN_none hi m (mem_lowN.2 ⟨hm, hlt⟩))
          · exact hge
        have hmk : m ∈ keys h := by
          rcases hpn m hm with h1 | h1
          · omega
          · exact h1
        exact (hc.pin m hge hmk).symm
    refine hK v w' ι' own' ⟨hc.os, hc.tape, hc.output, hc.size, fun b hb hn => hc.block b hb (fun k hk => hn (ren ρ k) (mem_mapN.2 ⟨k, hk, rfl⟩)), hc.sized, fun b hb hn => hc.own1 b hb (fun k hk => hn (ren ρ k) (mem_mapN.2 ⟨k, hk, rfl⟩)), hc.own2, fun b hb => (hc.own3 b hb).2, fun k hk => ?_, ?_, fun k ob hU => ?_, fun k ob k' ob' hU hU' e => ?_⟩
    · show (match invN ρ (lowN (keys h')) k with | some m => ιc m | none => ι k) = ι k
      cases hi : invN ρ (lowN (keys h')) k with
      | some m => obtain ⟨h1, h2⟩ := invN_some hi; exact absurd (mem_mapN.2 ⟨m, h1, h2⟩) hk
      | none => rfl
    · exact D.p_ren (D.p_on (fun u hu => hι u (hdn u (d_names hu))) hc.val)
    · rcases List.mem_append.1 hU with hU | hU
      · obtain ⟨m, om, h1, rfl, rfl⟩ := mem_someU hU
        have hl := lookH_mem hnd h1
        obtain ⟨q1, q2, q3⟩ := hc.named m om hl
        have hmk := lookH_keys hl
        rw [hι m hmk]
        refine ⟨q1, Ob.p_ren (Ob.p_on (fun u hu => hι u (closedB_spec hcl m om h1 u hu)) q2), ?_⟩
        rcases q3 with q3 | ⟨k0, hk0, q3⟩
        · exact .inl q3
        · exact .inr ⟨ren ρ k0, mem_mapN.2 ⟨k0, hk0, rfl⟩, q3⟩
      · exact absurd hU not_noneU
    · rcases List.mem_append.1 hU with hU | hU
      · rcases List.mem_append.1 hU' with hU' | hU'
        · obtain ⟨m, om, h1, rfl, rfl⟩ := mem_someU hU
          obtain ⟨m', om', h1', rfl, rfl⟩ := mem_someU hU'
          have hl := lookH_mem hnd h1
          have hl' := lookH_mem hnd h1'
          rw [hι m (lookH_keys hl), hι m' (lookH_keys hl')] at e
          rw [hc.inj m m' om om' hl hl' e]
        · exact absurd hU' not_noneU
      · exact absurd hU not_noneU
theorem ret_D {P : Program} {n : Nat} {l : List (Nat × D)} {h h' : List (Nat × Ob)} {rl : List ResultVar} {d : D} (ρ : List (Nat × Nat)) (hi : injB ρ (h'.map (·.1)) = true) (hh : SubHR ρ (lookH h) h') (hr : ∃ d0, RetD P (mkS n l h) rl d0 ∧ DImp d0 (d.ren ρ)) : (Exit.ret = Exit.ret ∨ Exit.ret = Exit.normal) ∧ ∃ s2, Weak (mkS n l h) s2 ∧ ∃ ρ, EndD P s2 rl ρ d h' := ⟨.inl rfl, _, fun _ _ _ h => h, ρ, hi, hh, hr⟩
theorem retD_bool {P : Program} {n t : Nat} {l : List (Nat × D)} {h : List (Nat × Ob)} {ρ : List (Nat × Nat)} {m b b' : Bool} (he : lookO l t = some (.one (.r m (val (.bool b))))) (hm : m = true) (hb : b = b') : ∃ d0, RetD P (mkS n l h) [.tmp t] d0 ∧ DImp d0 (D.ren ρ (.one (.r true (bool b')))) := by
  subst hm hb
  exact ⟨_, lookO_spec he, fun _ _ _ _ h => h⟩
theorem retD_int {P : Program} {n t : Nat} {l : List (Nat × D)} {h : List (Nat × Ob)} {ρ : List (Nat × Nat)} {m : Bool} {k : IntKind} {b b' : Int} (he : lookO l t = some (.one (.r m (val (.int k b))))) (hm : m = true) (hb : b = b') : ∃ d0, RetD P (mkS n l h) [.tmp t] d0 ∧ DImp d0 (D.ren ρ (.one (.r true (val (.int k b'))))) := by
  subst hm hb
  exact ⟨_, lookO_spec he, fun _ _ _ _ h => h⟩
theorem retD_tmp {P : Program} {n t : Nat} {l : List (Nat × D)} {h : List (Nat × Ob)} {d d' : D} (he : lookO l t = some d) (hi : DImp d d') : ∃ d0, RetD P (mkS n l h) [.tmp t] d0 ∧ DImp d0 d' := ⟨d, lookO_spec he, hi⟩
theorem retD_cell {P : Program} {n t ty k off m : Nat} {l : List (Nat × D)} {h : List (Nat × Ob)} {E : TypeId} {cells : List Cell} {ag : Bool} {d d' : D} (he : lookO l t = some (.one (.ptr k 0 0 off))) (hk : lookHO h k = some (.var E cells)) (hT : tyOf P ty = some (ag, m)) (hn : Nat.ble (off + m) cells.length = true) (h1 : (ag || Nat.beq m 1) = true) (hc : cutO ag m off cells = some d') (hd : DImp d' d) : ∃ d0, RetD P (mkS n l h) [.cell t ty] d0 ∧ DImp d0 d :=
  ⟨d', ⟨k, off, E, cells, ag, m, lookO_spec he, lookHO_spec hk, hT, hn, h1, by rw [cutO_spec hc]⟩, hd⟩
theorem ret1_tmp {P : Program} {n t : Nat} {l : List (Nat × D)} {h : List (Nat × Ob)} {d : D} (he : lookO l t = some d) : Ret1 P (mkS n l h) (.tmp t) d := lookO_spec he
theorem ret1_cell {P : Program} {n t ty k off m : Nat} {l : List (Nat × D)} {h : List (Nat × Ob)} {E : TypeId} {cells : List Cell} {ag : Bool} {d' : D} (he : lookO l t = some (.one (.ptr k 0 0 off))) (hk : lookHO h k = some (.var E cells)) (hT : tyOf P ty = some (ag, m)) (hn : Nat.ble (off + m) cells.length = true) (h1 : (ag || Nat.beq m 1) = true) (hc : cutO ag m off cells = some d') : Ret1 P (mkS n l h) (.cell t ty) d' :=
  ⟨k, off, E, cells, ag, m, lookO_spec he, lookHO_spec hk, hT, hn, h1, by rw [cutO_spec hc]⟩
theorem retD_two {P : Program} {s : St} {a b : ResultVar} {x y : Bool × List Cell} {dx dy d : D} (ha : Ret1 P s a dx) (hx : coD x = some dx) (hb : Ret1 P s b dy) (hy : coD y = some dy) (hd : DImp (.tups [x, y]) d) : ∃ d0, RetD P s [a, b] d0 ∧ DImp d0 d := by
  cases a <;> exact ⟨_, .inr ⟨[x, y], rfl, rfl, ⟨_, ha, hx⟩, ⟨_, hb, hy⟩, trivial⟩, hd⟩
theorem tups2 {cs cs' : List Cell} {b : Bool} {c c' : Cell} (h1 : cs = cs') (h2 : c = c') : D.tups [(b, cs), (false, [c])] = .tups [(b, cs'), (false, [c'])] := by rw [h1, h2]
theorem imp_refl {d d' : D} (h : d = d') : DImp d d' := fun _ _ _ _ hd => h ▸ hd
section
variable (k k' j sz : Nat)
end
theorem Weak.trans {s1 s2 s3 : St} (h : Weak s1 s2) (h' : Weak s2 s3) : Weak s1 s3 := fun w0 a w hs => h' w0 a w (h w0 a w hs)
theorem ret_W {P : Program} {s s2 : St} {rl : List ResultVar} {d : D} {h' : List (Nat × Ob)} (hw : Weak s s2) (h : (Exit.ret = Exit.ret ∨ Exit.ret = Exit.normal) ∧ ∃ s3, Weak s2 s3 ∧ ∃ ρ, EndD P s3 rl ρ d h') : (Exit.ret = Exit.ret ∨ Exit.ret = Exit.normal) ∧ ∃ s3, Weak s s3 ∧ ∃ ρ, EndD P s3 rl ρ d h' := by
  obtain ⟨h1, s3, h2, h3⟩ := h
  exact ⟨h1, s3, hw.trans h2, h3⟩
end Go.Proofs.YtlobefglhppbdaaGreatDoor.Abs
