/- Rules for single operations that yield a value. No statement of the seat is proved here. -/
import Derived.Test.YtjjeihcmiofkmaaAbs
set_option linter.unusedSimpArgs false
set_option linter.unusedVariables false
namespace Go.Proofs.Ytjjeihcmiofkmaa.Abs
open Go.RowKit
open R (val row ref)

/-- Is the type one of structs or arrays, and how many cells has it? -/
def tyOf (P : Program) (t : TypeId) : Option (Bool × Nat) :=
  match P.info? t, P.underlying t with
  | some i, some (.struct _) | some i, some (.array _ _) => some (true, i.size)
  | some i, some _ => some (false, i.size)
  | _, _ => none
theorem tyOf_run {P : Program} {t : TypeId} {ag : Bool} {n : Nat} (h : tyOf P t = some (ag, n)) (w : World) : (isAgg t).run P w = .ok ag w ∧ (sizeOf t).run P w = .ok n w := by
  unfold tyOf at h
  unfold isAgg sizeOf underlying typeInfo
  cases hi : P.info? t with
  | none => simp [hi] at h
  | some i =>
    cases hu : P.underlying t with
    | none => simp [hi, hu] at h
    | some d => cases d <;> simp [hi, hu] at h ⊢ <;> simp [h]

/-- A field: its place and its type, where it has a cell. -/
def fldOf (P : Program) (t : TypeId) (f : Nat) : Option (Nat × TypeId) :=
  match P.underlying t with
  | some (.struct fs) => match fs[f]? with
    | some x => match P.info? x.type with
      | some i => if i.size = 0 then none else some (x.offset, x.type)
      | none => none
    | none => none
  | _ => none
/-- A slice type's element: its type, its cells. -/
def slOf (P : Program) (t : TypeId) : Option (TypeId × Nat) :=
  match P.underlying t with
  | some (.slice e) => match P.info? e with
    | some i => some (e, i.size)
    | none => none
  | _ => none
theorem slOf_spec {P : Program} {t e : TypeId} {n : Nat} (h : slOf P t = some (e, n)) : P.underlying t = some (.slice e) ∧ P.elem t = e ∧ ∀ w, (sizeOf e).run P w = .ok n w := by
  unfold slOf at h
  cases hu : P.underlying t with
  | none => simp [hu] at h
  | some d =>
    cases d <;> simp [hu] at h
    rename_i e'
    cases hi : P.info? e' with
    | none => simp [hi] at h
    | some i =>
      simp [hi] at h
      obtain ⟨rfl, rfl⟩ := h
      exact ⟨rfl, by simp [Program.elem, hu], fun w => by simp [sizeOf, typeInfo, hi]⟩

section
variable {P : Program} {H : Nat → Option Ob} {ev : Operand → D} {o : Oper}

theorem loc_move {d : D} (x : Operand) (ho : o.op = .move x) (hx : ev x = d) : Loc P H ev o d :=
  loc_run fun base a w ι own hw he hH => ⟨a.eval x, BigFrame.run_move x ho w, hx ▸ he x (by rw [ho]; simp [Op.operands])⟩
theorem loc_assign {d : D} (x : Operand) (ho : o.op = .assign x) (hx : ev x = d) : Loc P H ev o d :=
  loc_run fun base a w ι own hw he hH => ⟨a.eval x, BigFrame.run_assign x ho w, hx ▸ he x (by rw [ho]; simp [Op.operands])⟩

theorem loc_pick_true {n : Bool} {d : D} (c x y : Operand) (ho : o.op = .pick c x y) (hc : ev c = .one (.r n (bool true))) (hx : ev x = d) : Loc P H ev o d :=
  loc_run fun base a w ι own hw he hH => by
    have h1 : (ev c).p ι base ⟨w, own⟩ (a.eval c) := he c (by rw [ho]; simp [Op.operands])
    rw [hc] at h1
    refine ⟨a.eval x, ?_, hx ▸ he x (by rw [ho]; simp [Op.operands])⟩
    unfold execOp; simp [ho, h1.1, asBool]
theorem loc_pick_false {n : Bool} {d : D} (c x y : Operand) (ho : o.op = .pick c x y) (hc : ev c = .one (.r n (bool false))) (hy : ev y = d) : Loc P H ev o d :=
  loc_run fun base a w ι own hw he hH => by
    have h1 : (ev c).p ι base ⟨w, own⟩ (a.eval c) := he c (by rw [ho]; simp [Op.operands])
    rw [hc] at h1
    refine ⟨a.eval y, ?_, hy ▸ he y (by rw [ho]; simp [Op.operands])⟩
    unfold execOp; simp [ho, h1.1, asBool]
theorem loc_pick_bool {n n' n'' p q t : Bool} (c x y : Operand) (ho : o.op = .pick c x y) (hc : ev c = .one (.r n (bool t))) (hx : ev x = .one (.r n' (bool p))) (hy : ev y = .one (.r n'' (bool q))) : Loc P H ev o (.one (.r true (bool (if t then p else q)))) :=
  loc_run fun base a w ι own hw he hH => by
    have h1 : (ev c).p ι base ⟨w, own⟩ (a.eval c) := he c (by rw [ho]; simp [Op.operands])
    have h2 : (ev x).p ι base ⟨w, own⟩ (a.eval x) := he x (by rw [ho]; simp [Op.operands])
    have h3 : (ev y).p ι base ⟨w, own⟩ (a.eval y) := he y (by rw [ho]; simp [Op.operands])
    rw [hc] at h1
    rw [hx] at h2
    rw [hy] at h3
    refine ⟨.bool (if t then p else q), ?_, rfl, rfl⟩
    unfold execOp; cases t <;> simp [ho, h1.1, h2.1, h3.1, asBool]

/-- What an operator gives on two numbers of a kind. -/
def binR (op : BinOp) (k : IntKind) (a b : Int) : Option Value :=
  match op with
  | .add => some (.int k (k.wrap (a + b)))
  | .sub => some (.int k (k.wrap (a - b)))
  | .mul => some (.int k (k.wrap (a * b)))
  | .eql => some (.bool (a == b))
  | .neq => some (.bool (a != b))
  | .lss => some (.bool (decide (a < b)))
  | .leq => some (.bool (decide (a ≤ b)))
  | .gtr => some (.bool (decide (b < a)))
  | .geq => some (.bool (decide (b ≤ a)))
  | _ => none
theorem binR_one {op : BinOp} {k : IntKind} {a b : Int} {z : Value} (h : binR op k a b = some z) : z.oneCell' = true := by
  cases op <;> simp [binR] at h <;> subst h <;> rfl
theorem loc_bin {n n' : Bool} {k : IntKind} {p q : Int} {z : Value} (op : BinOp) (t t' : TypeId) (x y : Operand) (ho : o.op = .binOp op t x y t') (hx : ev x = .one (.r n (val (.int k p)))) (hy : ev y = .one (.r n' (val (.int k q)))) (hz : binR op k p q = some z) : Loc P H ev o (.one (.r true (val z))) :=
  loc_run fun base a w ι own hw he hH => by
    have h1 : (ev x).p ι base ⟨w, own⟩ (a.eval x) := he x (by rw [ho]; simp [Op.operands])
    have h2 : (ev y).p ι base ⟨w, own⟩ (a.eval y) := he y (by rw [ho]; simp [Op.operands])
    rw [hx] at h1
    rw [hy] at h2
    refine ⟨z, ?_, rfl, binR_one hz⟩
    unfold execOp
    rw [ho]
    simp only [h1.1, h2.1]
    cases op <;> simp [binR] at hz <;> subst hz <;> simp [eqGuard, binOp, Op.intArith, Op.intCmp, go_sem]
theorem loc_div {n n' : Bool} {k : IntKind} {p q : Int} (t t' : TypeId) (x y : Operand) (ho : o.op = .binOp .quo t x y t') (hx : ev x = .one (.r n (val (.int k p)))) (hy : ev y = .one (.r n' (val (.int k q)))) (hq : q ≠ 0) : Loc P H ev o (.one (.r true (val (.int k (k.wrap (p.tdiv q)))))) :=
  loc_run fun base a w ι own hw he hH => by
    have h1 : (ev x).p ι base ⟨w, own⟩ (a.eval x) := he x (by rw [ho]; simp [Op.operands])
    have h2 : (ev y).p ι base ⟨w, own⟩ (a.eval y) := he y (by rw [ho]; simp [Op.operands])
    rw [hx] at h1
    rw [hy] at h2
    refine ⟨_, ?_, rfl, rfl⟩
    unfold execOp
    rw [ho]
    simp [h1.1, h2.1, eqGuard, binOp, Op.intDiv, hq]
theorem loc_rem {n n' : Bool} {k : IntKind} {p q : Int} (t t' : TypeId) (x y : Operand) (ho : o.op = .binOp .rem t x y t') (hx : ev x = .one (.r n (val (.int k p)))) (hy : ev y = .one (.r n' (val (.int k q)))) (hq : q ≠ 0) : Loc P H ev o (.one (.r true (val (.int k (p.tmod q))))) :=
  loc_run fun base a w ι own hw he hH => by
    have h1 : (ev x).p ι base ⟨w, own⟩ (a.eval x) := he x (by rw [ho]; simp [Op.operands])
    have h2 : (ev y).p ι base ⟨w, own⟩ (a.eval y) := he y (by rw [ho]; simp [Op.operands])
    rw [hx] at h1
    rw [hy] at h2
    refine ⟨_, ?_, rfl, rfl⟩
    unfold execOp
    rw [ho]
    simp [h1.1, h2.1, eqGuard, binOp, Op.intDiv, hq]
theorem loc_not {n p : Bool} (t : TypeId) (x : Operand) (ho : o.op = .unOp .not t x) (hx : ev x = .one (.r n (bool p))) : Loc P H ev o (.one (.r true (bool (!p)))) :=
  loc_run fun base a w ι own hw he hH => by
    have h1 : (ev x).p ι base ⟨w, own⟩ (a.eval x) := he x (by rw [ho]; simp [Op.operands])
    rw [hx] at h1
    refine ⟨_, ?_, rfl, rfl⟩
    unfold execOp
    rw [ho]
    simp [h1.1, Op.unary]

theorem equal_bool {P : Program} {t : TypeId} (hT : P.underlying t = some .bool) (p q : Bool) (w : World) : (Op.equal t (.bool p) (.bool q)).run P w = .ok (p == q) w := by
  unfold Op.equal Op.maxDepth Op.equalIn
  simp [underlying, hT]
/-- Tests of two Bools. -/
theorem loc_eqB {n n' p q : Bool} (t t' : TypeId) (x y : Operand) (hT : P.underlying t = some .bool) (ho : o.op = .binOp .eql t x y t') (hx : ev x = .one (.r n (bool p))) (hy : ev y = .one (.r n' (bool q))) : Loc P H ev o (.one (.r true (bool (p == q)))) :=
  loc_run fun base a w ι own hw he hH => by
    have h1 : (ev x).p ι base ⟨w, own⟩ (a.eval x) := he x (by rw [ho]; simp [Op.operands])
    have h2 : (ev y).p ι base ⟨w, own⟩ (a.eval y) := he y (by rw [ho]; simp [Op.operands])
    rw [hx] at h1
    rw [hy] at h2
    refine ⟨_, ?_, rfl, rfl⟩
    unfold execOp
    rw [ho]
    simp only [h1.1, h2.1]
    simp [eqGuard, binOp, equal_bool hT]
theorem loc_neB {n n' p q : Bool} (t t' : TypeId) (x y : Operand) (hT : P.underlying t = some .bool) (ho : o.op = .binOp .neq t x y t') (hx : ev x = .one (.r n (bool p))) (hy : ev y = .one (.r n' (bool q))) : Loc P H ev o (.one (.r true (bool (p != q)))) :=
  loc_run fun base a w ι own hw he hH => by
    have h1 : (ev x).p ι base ⟨w, own⟩ (a.eval x) := he x (by rw [ho]; simp [Op.operands])
    have h2 : (ev y).p ι base ⟨w, own⟩ (a.eval y) := he y (by rw [ho]; simp [Op.operands])
    rw [hx] at h1
    rw [hy] at h2
    refine ⟨.bool (p != q), ?_, rfl, rfl⟩
    unfold execOp
    rw [ho]
    simp only [h1.1, h2.1]
    simp [eqGuard, binOp, equal_bool hT]
    cases p <;> cases q <;> rfl

/-! ### places -/
theorem fldOf_spec {t : TypeId} {f off : Nat} {ft : TypeId} (h : fldOf P t f = some (off, ft)) : ∃ fs x, P.underlying t = some (.struct fs) ∧ fs[f]? = some x ∧ x.offset = off ∧ x.type = ft ∧ ∃ n, n ≠ 0 ∧ ∀ w, (sizeOf ft).run P w = .ok n w := by
  unfold fldOf at h
  cases hu : P.underlying t with
  | none => simp [hu] at h
  | some d =>
    cases d <;> simp [hu] at h
    rename_i fs
    cases hf : fs[f]? with
    | none => simp [hf] at h
    | some x =>
      cases hi : P.info? x.type with
      | none => simp [hf, hi] at h
      | some i =>
        simp only [hf, hi, Option.ite_none_left_eq_some, Option.some.injEq, Prod.mk.injEq] at h
        obtain ⟨h0, h1, h2⟩ := h
        exact ⟨fs, x, rfl, hf, h1, h2, i.size, h0, fun w => by rw [← h2]; simp [sizeOf, typeInfo, hi]⟩
theorem run_fieldAt {t : TypeId} {f off : Nat} {ft : TypeId} (h : fldOf P t f = some (off, ft)) (b o : Nat) (w : World) : (Instr.fieldAt t (.pointer (some ⟨b, o, none⟩)) f).run P w = .ok (.pointer (some ⟨b, o + off, none⟩)) w := by
  obtain ⟨fs, x, h1, h2, h3, h4, n, h5, h6⟩ := fldOf_spec h
  unfold Instr.fieldAt
  simp only [Sem.run_bind, underlying, run_program, Result.andThen_ok, h1, Sem.run_pure, h2, Instr.sureAddr, fieldPlace, h4, h6, if_neg h5, h3]
  unfold Addr.add
  by_cases h0 : off = 0
  · simp [h0]
  · simp [h0]
theorem loc_field_ptr {k i sz off fo : Nat} {ft : TypeId} (t : TypeId) (x : Operand) (f : Nat) (ho : o.op = .fieldAddr t x f) (hx : ev x = .one (.ptr k i sz off)) (hf : fldOf P t f = some (fo, ft)) : Loc P H ev o (.one (.ptr k i sz (off + fo))) :=
  loc_run fun base a w ι own hw he hH => by
    have h1 : (ev x).p ι base ⟨w, own⟩ (a.eval x) := he x (by rw [ho]; simp [Op.operands])
    rw [hx] at h1
    refine ⟨.pointer (some ⟨(ι k).1, (ι k).2 + (i * sz + (off + fo)), none⟩), ?_, rfl⟩
    unfold execOp
    rw [ho]
    have h2 : a.eval x = .pointer (some ⟨(ι k).1, (ι k).2 + (i * sz + off), none⟩) := h1
    simp [h2, run_fieldAt hf, Nat.add_assoc]

/-- The cells of a datum that stands in the cells 'cs' from 'off' on. -/
def cut (ag : Bool) (n off : Nat) (cs : List Cell) : D := if ag then .agg ((cs.drop off).take n) else match cs[off]? with | some x => .one x | none => .any
def cutP (ag : Bool) (n off : Nat) (rs : List R) : P0 := if ag then .agg ((rs.drop off).take n) else match rs[off]? with | some x => .one x | none => .agg []
theorem loc_field_ref {n : Bool} {y : P0} {fo fn : Nat} {ag : Bool} {ft : TypeId} (t : TypeId) (x : Operand) (f : Nat) (ho : o.op = .fieldAddr t x f) (hx : ev x = .one (.r n (ref y))) (hf : fldOf P t f = some (fo, ft)) (hT : tyOf P ft = some (ag, fn)) (hn : fo + fn ≤ y.rs.length) (h1 : ag = true ∨ fn = 1) : Loc P H ev o (.one (.r n (ref (cutP ag fn fo y.rs)))) :=
  loc_run fun base a w ι own hw he hH => by
    have hx1 : (ev x).p ι base ⟨w, own⟩ (a.eval x) := he x (by rw [ho]; simp [Op.operands])
    rw [hx] at hx1
    obtain ⟨b, o', e1, e2, e3, e4⟩ := ref_p.1 hx1
    refine ⟨.pointer (some ⟨b, o' + fo, none⟩), ?_, ref_p.2 ⟨b, o' + fo, rfl, e2, e3, ?_⟩⟩
    · unfold execOp
      rw [ho]
      simp [e1, run_fieldAt hf]
    · intro j r hj
      have : y.rs[fo + j]? = some r := by
        unfold cutP at hj
        cases ag with
        | true =>
          simp only [if_true, P0.rs, List.getElem?_take, List.getElem?_drop] at hj
          split at hj
          · exact hj
          · cases hj
        | false =>
          have hf1 : fn = 1 := by simpa using h1
          have hlt : fo < y.rs.length := by omega
          have hg : y.rs[fo]? = some y.rs[fo] := List.getElem?_eq_getElem hlt
          simp only [Bool.false_eq_true, if_false, hg] at hj
          have hj' : [y.rs[fo]][j]? = some r := hj
          cases j with
          | zero => simp only [List.getElem?_cons_zero, Option.some.injEq] at hj'; rw [Nat.add_zero, hg, hj']
          | succ j => simp at hj'
      have := e4 (fo + j) r this
      rwa [← Nat.add_assoc] at this

/-! ### loads -/
theorem loadCells_run {w : World} {b : Nat} : ∀ (n o i : Nat) (acc : Array Value) (vs : List Value), vs.length = n → (∀ j u, vs[j]? = some u → w.cell? ⟨b, o + (i + j), none⟩ = some u) → (loadCellsFrom ⟨b, o, none⟩ i n acc).run P w = .ok (acc ++ vs.toArray) w
  | 0, o, i, acc, vs, hl, _ => by
    have : vs = [] := List.eq_nil_of_length_eq_zero hl
    subst this
    simp [loadCellsFrom]
  | n + 1, o, i, acc, vs, hl, h => by
    cases vs with
    | nil => simp at hl
    | cons v vs =>
      have h0 := h 0 v rfl
      have ha : Addr.add ⟨b, o, none⟩ i = ⟨b, o + i, none⟩ := Addr.add_lit b o i
      simp only [loadCellsFrom, Sem.run_bind, ha, run_load]
      rw [show o + (i + 0) = o + i from rfl] at h0
      rw [h0]
      simp only [Result.andThen_ok]
      rw [loadCells_run n o (i + 1) (acc.push v) vs (by simpa using hl) (fun j u hj => by have := h (j + 1) u (by simpa using hj); rwa [show i + 1 + j = i + (j + 1) by omega])]
      simp
theorem loadVar_one {t : TypeId} {n : Nat} (hT : tyOf P t = some (false, n)) {w : World} {b o : Nat} {u : Value} (h : w.cell? ⟨b, o, none⟩ = some u) : (loadVar t ⟨b, o, none⟩).run P w = .ok u w := by
  unfold loadVar
  simp [(tyOf_run hT w).1, h]
theorem loadVar_agg {t : TypeId} {n : Nat} (hT : tyOf P t = some (true, n)) {w : World} {b o : Nat} {vs : List Value} (hl : vs.length = n) (h : ∀ j u, vs[j]? = some u → w.cell? ⟨b, o + j, none⟩ = some u) : (loadVar t ⟨b, o, none⟩).run P w = .ok (.agg vs.toArray) w := by
  unfold loadVar loadCells
  simp only [Sem.run_bind, (tyOf_run hT w).1, Result.andThen_ok, if_true, (tyOf_run hT w).2]
  rw [loadCells_run n o 0 #[] vs hl (fun j u hj => by rw [Nat.zero_add]; exact h j u hj)]
  simp
theorem cell_of_arr {w : World} {b o : Nat} {arr : Array Value} {E : TypeId} {f : Nat × Nat} (h : w.heap[b]? = some (.cells arr E f)) : w.cell? ⟨b, o, none⟩ = arr[o]? := by simp [World.cell?, h]

/-- From cells of which each reads as told, the values. -/
theorem pick_vals {α : Type} {p : α → Value → Prop} {g : Nat → Option Value} : ∀ (xs : List α), (∀ (j : Nat) (x : α), xs[j]? = some x → ∃ u, g j = some u ∧ p x u) → ∃ vs : List Value, vs.length = xs.length ∧ ∀ (j : Nat) (x : α), xs[j]? = some x → ∃ u, vs[j]? = some u ∧ g j = some u ∧ p x u := by
  intro xs
  induction xs generalizing g with
  | nil => intro _; exact ⟨[], rfl, fun j x hj => by simp at hj⟩
  | cons x xs ih =>
    intro h
    obtain ⟨u, hu, hp⟩ := h 0 x rfl
    obtain ⟨vs, hl, hv⟩ := ih (g := fun j => g (j + 1)) (fun j y hj => h (j + 1) y (by simpa using hj))
    refine ⟨u :: vs, by simp [hl], fun j y hj => ?_⟩
    cases j with
    | zero => simp at hj; subst hj; exact ⟨u, rfl, hu, hp⟩
    | succ j => exact hv j y (by simpa using hj)

theorem load_var_run {ι : Nat → Nat × Nat} {base : Nat} {b : Nat × Nat} {w : World} {own : Nat → Prop} {off n : Nat} {ag : Bool} {E : TypeId} {cells : List Cell} {t : TypeId} (hob : (Ob.var E cells).p ι base ⟨w, own⟩ b) (hT : tyOf P t = some (ag, n)) (hn : off + n ≤ cells.length) (h1 : ag = true ∨ n = 1) :
    ∃ v, (loadVar t ⟨b.1, b.2 + off, none⟩).run P w = .ok v w ∧ (cut ag n off cells).p ι base ⟨w, own⟩ v := by
  obtain ⟨arr, g1, g2, g3⟩ := hob
  cases ag with
  | false =>
    have hn1 : n = 1 := by simpa using h1
    obtain ⟨u, hu, hp⟩ := g3 off cells[off] (List.getElem?_eq_getElem (by omega))
    refine ⟨u, loadVar_one hT (by rw [cell_of_arr g1]; exact hu), ?_⟩
    simp only [cut, Bool.false_eq_true, if_false]
    rw [List.getElem?_eq_getElem (by omega)]
    exact hp
  | true =>
    obtain ⟨vs, hl, hv⟩ := pick_vals (p := fun (x : Cell) u => x.p ι base ⟨w, own⟩ u) (g := fun j => arr[b.2 + (off + j)]?) ((cells.drop off).take n) (fun j x hj => by
      rw [List.getElem?_take] at hj
      split at hj
      · rw [List.getElem?_drop] at hj
        exact g3 _ _ hj
      · cases hj)
    have hlen : vs.length = n := by rw [hl, List.length_take, List.length_drop]; omega
    refine ⟨.agg vs.toArray, loadVar_agg hT hlen (fun j u hj => ?_), ?_⟩
    · rw [cell_of_arr g1]
      have hjl : j < vs.length := by
        rcases Nat.lt_or_ge j vs.length with h | h
        · exact h
        · rw [List.getElem?_eq_none h] at hj; cases hj
      obtain ⟨u', e1, e2, _⟩ := hv j _ (List.getElem?_eq_getElem (by omega))
      rw [e1] at hj; injection hj with hj; subst hj; rw [Nat.add_assoc]; exact e2
    · simp only [cut, if_true]
      exact ⟨vs, rfl, hl, fun j x hj => let ⟨u, e1, _, e3⟩ := hv j x hj; ⟨u, e1, e3⟩⟩
theorem loc_load_var {k off n : Nat} {ag : Bool} {E : TypeId} {cells : List Cell} {d : D} (t : TypeId) (x : Operand) (ho : o.op = .load t x) (hx : ev x = .one (.ptr k 0 0 off)) (hT : tyOf P t = some (ag, n)) (hk : H k = some (.var E cells)) (hn : Nat.ble (off + n) cells.length = true) (h1 : (ag || Nat.beq n 1) = true) (hd : cut ag n off cells = d) : Loc P H ev o d :=
  loc_run fun base a w ι own hw he hH => by
    have hx1 : (ev x).p ι base ⟨w, own⟩ (a.eval x) := he x (by rw [ho]; simp [Op.operands])
    rw [hx] at hx1
    have hx2 : a.eval x = .pointer (some ⟨(ι k).1, (ι k).2 + off, none⟩) := by have : a.eval x = .pointer (some ⟨(ι k).1, (ι k).2 + (0 * 0 + off), none⟩) := hx1; simpa using this
    obtain ⟨v, g1, g2⟩ := load_var_run (hH k _ hk).2 hT (by simpa using hn) (by simpa using h1)
    refine ⟨v, ?_, hd ▸ g2⟩
    unfold execOp
    rw [ho]
    simp only [hx2, Sem.run_bind, Instr.loadAt, Instr.sureAddr, Sem.run_pure, Result.andThen_ok, g1]
def mk : Bool → List R → P0
  | false, [r] => .one r
  | _, rs => .agg rs
theorem load_cells {c : Cx} {b o n : Nat} {rs : List R} (h : CellsAt c b o rs) {t : TypeId} {ag : Bool} (hT : tyOf P t = some (ag, n)) (hn : rs.length = n) {y : P0} (hy : y = mk ag rs) (h1 : ag = true ∨ n = 1) :
    ∃ v, (loadVar t ⟨b, o, none⟩).run P c.w = .ok v c.w ∧ y.p c v := by
  cases ag with
  | false =>
    have hn1 : n = 1 := by simpa using h1
    subst hn1
    match rs, hn with
    | [r], _ =>
      obtain ⟨u, hu, hp⟩ := h 0 r rfl
      exact ⟨u, loadVar_one hT (by simpa using hu), by subst hy; exact hp⟩
  | true =>
    obtain ⟨vs, hl, hv⟩ := pick_vals (p := fun (x : R) u => x.p c u) (g := fun j => c.w.cell? ⟨b, o + j, none⟩) rs h
    refine ⟨.agg vs.toArray, loadVar_agg hT (by omega) (fun j u hj => ?_), ?_⟩
    · have hjl : j < vs.length := by
        rcases Nat.lt_or_ge j vs.length with h | h
        · exact h
        · rw [List.getElem?_eq_none h] at hj; cases hj
      obtain ⟨u', e1, e2, _⟩ := hv j _ (List.getElem?_eq_getElem (by omega))
      rw [e1] at hj; injection hj with hj; subst hj; exact e2
    · subst hy
      exact ⟨vs, rfl, hl, fun j x hj => let ⟨u, e1, _, e3⟩ := hv j x hj; ⟨u, e1, e3⟩⟩
theorem loc_load_ref {n : Bool} {m : Nat} {ag : Bool} {y : P0} (t : TypeId) (x : Operand) (ho : o.op = .load t x) (hx : ev x = .one (.r n (ref y))) (hT : tyOf P t = some (ag, m)) (hn : y.rs.length = m) (hy : y = mk ag y.rs) (h1 : ag = true ∨ m = 1) : Loc P H ev o (y.d n) :=
  loc_run fun base a w ι own hw he hH => by
    have hx1 : (ev x).p ι base ⟨w, own⟩ (a.eval x) := he x (by rw [ho]; simp [Op.operands])
    rw [hx] at hx1
    obtain ⟨b, o', e1, e2, e3, e4⟩ := ref_p.1 hx1
    obtain ⟨v, h2, h3⟩ := load_cells e4 hT hn hy h1
    rw [Cx.young_w] at h2
    refine ⟨v, ?_, P0.d_p.2 h3⟩
    unfold execOp
    rw [ho]
    simp only [e1, Sem.run_bind, Instr.loadAt, Instr.sureAddr, Sem.run_pure, Result.andThen_ok, h2]
theorem loc_index_row {n n' nil : Bool} {sz : Nat} {els : List P0} {i : Int} {e : P0} {E : TypeId} (t : TypeId) (x ix : Operand) (ho : o.op = .indexAddr t x ix) (hT : slOf P t = some (E, sz)) (hx : ev x = .one (.r n (row nil sz els))) (hi : ev ix = .one (.r n' (int i))) (h0 : 0 ≤ i) (h1 : els[i.toNat]? = some e) : Loc P H ev o (.one (.r n (ref e))) :=
  loc_run fun base a w ι own hw he hH => by
    have hx1 : (ev x).p ι base ⟨w, own⟩ (a.eval x) := he x (by rw [ho]; simp [Op.operands])
    have hi1 : (ev ix).p ι base ⟨w, own⟩ (a.eval ix) := he ix (by rw [ho]; simp [Op.operands])
    rw [hx] at hx1
    rw [hi] at hi1
    obtain ⟨ao, cap, e1, e2, e3, e4, e5⟩ := row_p.1 hx1
    have hlt : i.toNat < els.length := by
      rcases Nat.lt_or_ge i.toNat els.length with h | h
      · exact h
      · rw [List.getElem?_eq_none h] at h1; cases h1
    obtain ⟨b, o', g1, g2, g3, g4⟩ := e5 (by omega)
    obtain ⟨hs1, hs2, hs3⟩ := slOf_spec hT
    have hat : At ao b o' els.length := .inr g1
    refine ⟨.pointer (some ⟨b, o' + i.toNat * sz, none⟩), ?_, ref_p.2 ⟨b, o' + i.toNat * sz, rfl, g2, g3, (g4 _ e h1).2⟩⟩
    unfold execOp
    rw [ho]
    have h3 : a.eval x = .slice ao els.length cap := e1
    simp only [h3, hi1.1, Sem.run_bind, hat.ixN (c := cap) sz hs1 hs3 i w h0 (by omega), Result.andThen_ok, Sem.run_pure]
theorem loc_index_own {n' : Bool} {k j m sz : Nat} {i : Int} {E : TypeId} (t : TypeId) (x ix : Operand) (ho : o.op = .indexAddr t x ix) (hT : slOf P t = some (E, sz)) (hx : ev x = .one (.own k j m sz)) (hi : ev ix = .one (.r n' (int i))) (h0 : 0 ≤ i) (h1 : i < m) : Loc P H ev o (.one (.ptr k (j + i.toNat) sz 0)) :=
  loc_run fun base a w ι own hw he hH => by
    have hx1 : (ev x).p ι base ⟨w, own⟩ (a.eval x) := he x (by rw [ho]; simp [Op.operands])
    have hi1 : (ev ix).p ι base ⟨w, own⟩ (a.eval ix) := he ix (by rw [ho]; simp [Op.operands])
    rw [hx] at hx1
    rw [hi] at hi1
    obtain ⟨oo, cap, arr, E', e1, e0, e2, _⟩ := hx1
    obtain rfl : oo = (ι k).2 + j * sz := e0.resolve_right (by omega)
    obtain ⟨hs1, hs2, hs3⟩ := slOf_spec hT
    have hat : At (some ⟨(ι k).1, (ι k).2 + j * sz, none⟩) (ι k).1 ((ι k).2 + j * sz) m := .inr rfl
    refine ⟨.pointer (some ⟨(ι k).1, (ι k).2 + j * sz + i.toNat * sz, none⟩), ?_, ?_⟩
    · unfold execOp
      rw [ho]
      have h3 : a.eval x = .slice (some ⟨(ι k).1, (ι k).2 + j * sz, none⟩) m cap := e1
      simp only [h3, hi1.1, Sem.run_bind, hat.ixN (c := cap) sz hs1 hs3 i w h0 (by omega), Result.andThen_ok, Sem.run_pure]
    · show _ = Value.pointer (some ⟨(ι k).1, (ι k).2 + ((j + i.toNat) * sz + 0), none⟩)
      rw [Nat.add_mul, Nat.add_zero, Nat.add_assoc]
theorem run_len {t e : TypeId} {sz : Nat} (hT : slOf P t = some (e, sz)) {ty : TypeId} {cs : Array Bool} (ao : Option Addr) (n c : Nat) (w : World) : (invoke (.builtin .len #[t] ty cs) #[.slice ao n c]).run P w = .ok (.value (.int .i64 n)) w := by
  unfold invoke builtin Builtin.len_
  simp [underlying, (slOf_spec hT).1, goInt]
theorem loc_len_row {n nil : Bool} {sz sz' : Nat} {els : List P0} {E : TypeId} (t : TypeId) (x : Operand) (ho : o.op = .call { callee := .builtin .len, args := #[x], argTypes := #[t] }) (hT : slOf P t = some (E, sz')) (hx : ev x = .one (.r n (row nil sz els))) : Loc P H ev o (.one (.r true (int els.length))) :=
  loc_run fun base a w ι own hw he hH => by
    have hx1 : (ev x).p ι base ⟨w, own⟩ (a.eval x) := he x (by rw [ho]; simp [Op.operands, Call.operands])
    rw [hx] at hx1
    obtain ⟨ao, cap, e1, _⟩ := row_p.1 hx1
    refine ⟨_, ?_, rfl, rfl⟩
    unfold execOp
    rw [ho]
    have h3 : a.eval x = .slice ao els.length cap := e1
    simp only [resolve, Sem.run_bind, Sem.run_pure, Result.andThen_ok, List.map_toArray, List.map_cons, List.map_nil, h3, run_len hT]
theorem loc_len_own {k j m sz sz' : Nat} {E : TypeId} (t : TypeId) (x : Operand) (ho : o.op = .call { callee := .builtin .len, args := #[x], argTypes := #[t] }) (hT : slOf P t = some (E, sz')) (hx : ev x = .one (.own k j m sz)) : Loc P H ev o (.one (.r true (int m))) :=
  loc_run fun base a w ι own hw he hH => by
    have hx1 : (ev x).p ι base ⟨w, own⟩ (a.eval x) := he x (by rw [ho]; simp [Op.operands, Call.operands])
    rw [hx] at hx1
    obtain ⟨oo, cap, arr, E', e1, _⟩ := hx1
    refine ⟨_, ?_, rfl, rfl⟩
    unfold execOp
    rw [ho]
    have h3 : a.eval x = .slice (some ⟨(ι k).1, oo, none⟩) m cap := e1
    simp only [resolve, Sem.run_bind, Sem.run_pure, Result.andThen_ok, List.map_toArray, List.map_cons, List.map_nil, h3, run_len hT]
theorem loc_extractC {xs : List (Bool × List Cell)} {y : Bool × List Cell} {d : D} (x : Operand) (i : Nat) (ho : o.op = .extract x i) (hx : ev x = .tups xs) (hy : xs[i]? = some y) (hd : y.1 = true ∧ d = .agg y.2 ∨ ∃ c, y = (false, [c]) ∧ d = .one c) : Loc P H ev o d :=
  loc_run fun base a w ι own hw he hH => by
    have hx1 : (ev x).p ι base ⟨w, own⟩ (a.eval x) := he x (by rw [ho]; simp [Op.operands])
    rw [hx] at hx1
    obtain ⟨vs, e1, e2, e3⟩ := hx1
    obtain ⟨u, g1, g2⟩ := e3 i y hy
    refine ⟨u, ?_, ?_⟩
    · unfold execOp
      rw [ho]
      simp [e1, Instr.extract, g1]
    · obtain ⟨b, cs⟩ := y
      rcases hd with ⟨h1, h2⟩ | ⟨c, h1, h2⟩
      · dsimp only at h1 h2
        subst h1; subst h2; exact g2
      · cases h1; subst h2; exact g2
theorem loc_extract {n : Bool} {xs : List P0} {y : P0} (x : Operand) (i : Nat) (ho : o.op = .extract x i) (hx : ev x = .tup n xs) (hy : xs[i]? = some y) : Loc P H ev o (y.d n) :=
  loc_run fun base a w ι own hw he hH => by
    have hx1 : (ev x).p ι base ⟨w, own⟩ (a.eval x) := he x (by rw [ho]; simp [Op.operands])
    rw [hx] at hx1
    obtain ⟨vs, e1, e2, e3⟩ := hx1
    obtain ⟨u, g1, g2⟩ := e3 i y hy
    refine ⟨u, ?_, P0.d_p.2 g2⟩
    unfold execOp
    rw [ho]
    simp [e1, Instr.extract, g1]
end

/-! ### calls -/
inductive Res where
  | v (x : P0)
  | tup (xs : List P0)
def Res.p (c : Cx) (v : Value) : Res → Prop
  | .v x => x.p c v
  | .tup xs => ∃ vs : List Value, v = .tuple vs.toArray ∧ vs.length = xs.length ∧ ∀ (j : Nat) (x : P0), xs[j]? = some x → ∃ u, vs[j]? = some u ∧ x.p c u
def Res.d : Res → D
  | .v x => x.d true
  | .tup xs => .tup true xs
theorem Res.d_p {ι : Nat → Nat × Nat} {base : Nat} {c : Cx} {v : Value} : ∀ {x : Res}, x.p (c.young base true) v → x.d.p ι base c v
  | .v x, h => P0.d_p.2 h
  | .tup xs, h => h
theorem Res.mono {c c' : Cx} {v : Value} (h : c.Ext c') : ∀ {x : Res}, x.p c v → x.p c' v
  | .v x, hx => P0.mono h hx
  | .tup xs, ⟨vs, h1, h2, h3⟩ => ⟨vs, h1, h2, fun j x hj => let ⟨u, hu, hx⟩ := h3 j x hj; ⟨u, hu, P0.mono h hx⟩⟩

/-- Values that read so. -/
def Args (c : Cx) : List Value → List P0 → Prop
  | [], [] => True
  | v :: vs, x :: xs => x.p c v ∧ Args c vs xs
  | _, _ => False

/-- Called on these data function f hands back these, in new memory, and turns nothing that was there. -/
def Ent (P : Program) (f : FuncId) : Prop := ∀ args w, (callFunc f args).run P w = .ok (.enter f args) w
theorem ent_of {P : Program} {f : FuncId} {fn : Func} {c : Code} (hf : P.funcs[f]? = some fn) (hname : (fn.name == "runtime.NumGoroutine") = false) (hb : fn.body = some c) : Ent P f := fun args w => by
  have hn : ¬ fn.name = "runtime.NumGoroutine" := fun e => by rw [e] at hname; exact absurd hname (by decide)
  unfold callFunc
  simp [hf, hn, hb]
def Fn (P : Program) (f : FuncId) (args : List P0) (res : Res) : Prop :=
  Ent P f ∧ ∀ (w : World) (vs : List Value), Args ⟨w, fun _ => False⟩ vs args → Calls P f vs.toArray w (fun e w' => ∃ v, e = .returned v ∧ res.p ⟨w', fun b => b < w.heap.size⟩ v ∧ Below w.heap.size w w')

/-- What a slot holds may be handed to a call as this datum. -/
def AsArg (H : Nat → Option Ob) (d : D) (x : P0) : Prop :=
  ∀ (ι : Nat → Nat × Nat) (base : Nat) (w : World) (own : Nat → Prop) (v : Value), (∀ k ob, H k = some ob → own (ι k).1 ∧ ob.p ι base ⟨w, own⟩ (ι k)) → d.p ι base ⟨w, own⟩ v → x.p ⟨w, fun _ => False⟩ v

theorem asArg_r {H : Nat → Option Ob} {n : Bool} {r : R} : AsArg H (.one (.r n r)) (.one r) := fun ι base w own v hH h =>
  r.mono (Cx.Ext.sub (by rw [Cx.young_w]) (fun b (hb : False) => hb.elim)) h
theorem asArg_p {H : Nat → Option Ob} {n : Bool} {x : P0} : AsArg H (x.d n) x := fun ι base w own v hH h =>
  P0.mono (Cx.Ext.sub (by rw [Cx.young_w]) (fun b (hb : False) => hb.elim)) (P0.d_p.1 h)

def AsArgs (H : Nat → Option Ob) (ev : Operand → D) : List Operand → List P0 → Prop
  | [], [] => True
  | x :: xs, y :: ys => AsArg H (ev x) y ∧ AsArgs H ev xs ys
  | _, _ => False

theorem args_of {H : Nat → Option Ob} {ev : Operand → D} {ι : Nat → Nat × Nat} {base : Nat} {w : World} {own : Nat → Prop} {e : Operand → Value} (hH : ∀ k ob, H k = some ob → own (ι k).1 ∧ ob.p ι base ⟨w, own⟩ (ι k)) :
    ∀ (xs : List Operand) (ys : List P0), (∀ x ∈ xs, (ev x).p ι base ⟨w, own⟩ (e x)) → AsArgs H ev xs ys → Args ⟨w, fun _ => False⟩ (xs.map e) ys
  | [], [], _, _ => trivial
  | x :: xs, y :: ys, h, ⟨h1, h2⟩ => ⟨h1 ι base w own _ hH (h x (by simp)), args_of hH xs ys (fun x hx => h x (by simp [hx])) h2⟩
  | [], _ :: _, _, h => h.elim
  | _ :: _, [], _, h => h.elim

theorem loc_call {P : Program} {H : Nat → Option Ob} {ev : Operand → D} {o : Oper} {f : FuncId} {res : Res} {ys : List P0} (xs : List Operand) (tys : Array TypeId) (ho : o.op = .call { callee := .value (.func f), args := xs.toArray, argTypes := tys }) (ha : AsArgs H ev xs ys) (hf : Fn P f ys res) : Loc P H ev o res.d := by
  intro base a w ι own hown hbase hev hH _ K Q hK
  have hm : ∀ x ∈ xs, (ev x).p ι base ⟨w, own⟩ (a.eval x) := fun x hx => hev x (by rw [ho]; simp [Op.operands, Call.operands, hx])
  have hA := args_of hH xs ys hm ha
  have hrun : (execOp a.eval o).run P w = .ok (.enter f (xs.map a.eval).toArray) w := by
    unfold execOp
    rw [ho]
    simp [resolve, Act.eval, Deferred.ofValue, invoke, hf.1 _ _]
  unfold Oper.wp
  rw [hrun, Oper.upon_enter]
  refine (hf.2 w _ hA).mono ?_
  rintro e w' ⟨v, rfl, hp, hb⟩
  have hx : Cx.Ext ⟨w', fun b => b < w.heap.size⟩ (Cx.young ⟨w', own⟩ base true) := Cx.Ext.sub rfl (by
    intro b hb'
    rcases hb' with h | h
    · exact (hown b h).2
    · exact Nat.lt_of_lt_of_le h hbase)
  exact hK v w' ι own (Chg.quiet hown hb (Res.d_p (Res.mono hx hp)))
end Go.Proofs.Ytjjeihcmiofkmaa.Abs
