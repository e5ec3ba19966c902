/- The rules in the form in which a walk takes them. No statement of the seat is proved here. -/
import Derived.Test.YtjjeihcmiofkmaaAbsF
set_option linter.unusedSimpArgs false
set_option linter.unusedVariables false
namespace Go.Proofs.Ytjjeihcmiofkmaa.Abs
open Go.RowKit
open R (val row ref)

section
variable {K : St → Prop} {Q : Exit → St → Prop} {s : St}
theorem thn_normal (h : K s) : Thn K Q .normal s := h
theorem thn_ret (h : Q .ret s) : Thn K Q .ret s := h
theorem thn_exit {i : Nat} (h : Q (.exit i) s) : Thn K Q (.exit i) s := h
theorem blk_normal {i : Nat} (h : Q .normal s) : Blk i Q .normal s := h
theorem blk_ret {i : Nat} (h : Q .ret s) : Blk i Q .ret s := h
theorem blk_hit {i : Nat} (h : Q .normal s) : Blk i Q (.exit i) s := by simp only [Blk, if_true]; exact h
theorem blk_miss {i j : Nat} (hne : Nat.beq j i = false) (h : Q (.exit j) s) : Blk i Q (.exit j) s := by
  have : j ≠ i := fun e => by subst e; simp at hne
  simp only [Blk, if_neg this]; exact h
end

section
variable {P : Program} {n : Nat} {l : List (Nat × D)} {h : List (Nat × Ob)} {H : Nat → Option Ob}
theorem ret_tmp {t : Nat} {d : D} {x : P0} (he : lookO l t = some d) (hd : DRes (lookH h) d x) : (Exit.ret = Exit.ret ∨ Exit.ret = Exit.normal) ∧ RetOk P (mkS n l h) [.tmp t] (.v x) := ⟨.inl rfl, by
  show DRes (lookH h) (look l t) x
  rw [lookO_spec he]; exact hd⟩
theorem rv_tmp {t : Nat} {d : D} {x : P0} (he : lookO l t = some d) (hd : DRes (lookH h) d x) : RvOk P (mkS n l h) (.tmp t) x := by
  show DRes (lookH h) (look l t) x
  rw [lookO_spec he]; exact hd
theorem rv_cell {t ty k off m : Nat} {E : TypeId} {cells : List Cell} {ag : Bool} {d : D} {x : P0} (he : lookO l t = some (.one (.ptr k 0 0 off))) (hk : lookHO h k = some (.var E cells)) (hT : tyOf P ty = some (ag, m)) (hn : Nat.ble (off + m) cells.length = true) (h1 : (ag || Nat.beq m 1) = true) (hc : cutO ag m off cells = some d) (hd : DRes (lookH h) d x) : RvOk P (mkS n l h) (.cell t ty) x :=
  ⟨k, off, E, cells, ag, m, lookO_spec he, lookHO_spec hk, hT, hn, h1, by rw [cutO_spec hc]; exact hd⟩
theorem ret_v {s : St} {a : ResultVar} {x : P0} (h1 : RvOk P s a x) : (Exit.ret = Exit.ret ∨ Exit.ret = Exit.normal) ∧ RetOk P s [a] (.v x) := ⟨.inl rfl, h1⟩
theorem ret_2 {s : St} {a b : ResultVar} {x y : P0} (h1 : RvOk P s a x) (h2 : RvOk P s b y) : (Exit.ret = Exit.ret ∨ Exit.ret = Exit.normal) ∧ RetOk P s [a, b] (.tup [x, y]) := ⟨.inl rfl, rfl, h1, h2, trivial⟩
theorem ret_3 {s : St} {a b c : ResultVar} {x y z : P0} (h1 : RvOk P s a x) (h2 : RvOk P s b y) (h3 : RvOk P s c z) : (Exit.ret = Exit.ret ∨ Exit.ret = Exit.normal) ∧ RetOk P s [a, b, c] (.tup [x, y, z]) := ⟨.inl rfl, rfl, h1, h2, h3, trivial⟩
theorem dres_bool {m a b : Bool} (h : a = b) : DRes H (.one (.r m (val (.bool a)))) (.one (bool b)) := by subst h; exact dres_one cres_val
theorem dres_int {m : Bool} {k : IntKind} {a b : Int} (h : a = b) : DRes H (.one (.r m (val (.int k a)))) (.one (val (.int k b))) := by subst h; exact dres_one cres_val
theorem dres_val {m : Bool} {u : Value} : DRes H (.one (.r m (val u))) (.one (val u)) := dres_one cres_val
theorem cres_int {m : Bool} {k : IntKind} {a b : Int} (h : a = b) : CRes H (.r m (val (.int k a))) (val (.int k b)) := by subst h; exact cres_val
theorem cres_bool {m a b : Bool} (h : a = b) : CRes H (.r m (val (.bool a))) (bool b) := by subst h; exact cres_val

/-! ### arguments of calls -/
theorem asA_r {m : Bool} {r : R} {ev : Operand → D} {x : Operand} (h : ev x = .one (.r m r)) : AsArg H (ev x) (.one r) := by rw [h]; exact asArg_r
theorem asA_int {m : Bool} {k : IntKind} {a b : Int} {ev : Operand → D} {x : Operand} (h : ev x = .one (.r m (val (.int k a)))) (hab : a = b) : AsArg H (ev x) (.one (val (.int k b))) := by rw [h]; subst hab; exact asArg_r
theorem asArg_nil {m nil : Bool} {sz sz' : Nat} : AsArg H (.one (.r m (row nil sz []))) (.one (row nil sz' [])) := fun ι base w own v hH h => let ⟨ao, cap, h1, h2, h3, h4, h5⟩ := row_p.1 h; row_p.2 ⟨ao, cap, h1, h2, h3, h4, fun h => by simp at h⟩
theorem asA_nil {m nil : Bool} {sz sz' : Nat} {ev : Operand → D} {x : Operand} (h : ev x = .one (.r m (row nil sz []))) : AsArg H (ev x) (.one (row nil sz' [])) := by rw [h]; exact asArg_nil
theorem asA_own {k j n sz : Nat} {E : TypeId} {els : List P0} {new : Bool} {ev : Operand → D} {x : Operand} (h : ev x = .one (.own k j n sz)) (hk : H k = some (.sl E sz new els)) (hn : j + n ≤ els.length) : AsArg H (ev x) (.one (row false sz ((els.drop j).take n))) := by
  rw [h]
  intro ι base w own v hH hv
  exact row_of_own (hH k _ hk) hn hv (fun h => h) (Cx.Ext.sub (c := Cx.young ⟨w, own⟩ base new) (c' := ⟨w, fun _ => False⟩) (by rw [Cx.young_w]) (fun b (hb : False) => hb.elim))
def CAr (H : Nat → Option Ob) (x : Cell) (r : R) : Prop := AsArg H (.one x) (.one r)
def CsAr (H : Nat → Option Ob) : List Cell → List R → Prop
  | [], [] => True
  | x :: xs, r :: rs => CAr H x r ∧ CsAr H xs rs
  | _, _ => False
theorem CsAr.get : ∀ {xs : List Cell} {rs : List R}, CsAr H xs rs → xs.length = rs.length ∧ ∀ (j : Nat) (r : R), rs[j]? = some r → ∃ x, xs[j]? = some x ∧ CAr H x r
  | [], [], _ => ⟨rfl, fun j r hj => by simp at hj⟩
  | x :: xs, r :: rs, ⟨h1, h2⟩ => by
    obtain ⟨g1, g2⟩ := CsAr.get h2
    refine ⟨by simp [g1], fun j r' hj => ?_⟩
    cases j with
    | zero => simp at hj; subst hj; exact ⟨x, rfl, h1⟩
    | succ j => exact g2 j r' (by simpa using hj)
  | [], _ :: _, h => h.elim
  | _ :: _, [], h => h.elim
theorem asA_agg {xs : List Cell} {rs : List R} {ev : Operand → D} {x : Operand} (h : ev x = .agg xs) (hc : CsAr H xs rs) : AsArg H (ev x) (.agg rs) := by
  rw [h]
  intro ι base w own v hH ⟨vs, h1, h2, h3⟩
  obtain ⟨g1, g2⟩ := hc.get
  refine ⟨vs, h1, by omega, fun j r hj => ?_⟩
  obtain ⟨y, hy, hc⟩ := g2 j r hj
  obtain ⟨u, hu, hp⟩ := h3 j y hy
  exact ⟨u, hu, hc ι base w own u hH hp⟩
theorem cAr_r {m : Bool} {r : R} : CAr H (.r m r) r := asArg_r
theorem cAr_int {m : Bool} {k : IntKind} {a b : Int} (hab : a = b) : CAr H (.r m (val (.int k a))) (val (.int k b)) := by subst hab; exact asArg_r
theorem cAr_nil {m nil : Bool} {sz sz' : Nat} : CAr H (.r m (row nil sz [])) (row nil sz' []) := asArg_nil
theorem cAr_own {k j n sz : Nat} {E : TypeId} {els : List P0} {new : Bool} (hk : H k = some (.sl E sz new els)) (hn : j + n ≤ els.length) : CAr H (.own k j n sz) (row false sz ((els.drop j).take n)) := by
  intro ι base w own v hH hv
  exact row_of_own (hH k _ hk) hn hv (fun h => h) (Cx.Ext.sub (c := Cx.young ⟨w, own⟩ base new) (c' := ⟨w, fun _ => False⟩) (by rw [Cx.young_w]) (fun b (hb : False) => hb.elim))
theorem k_call {ev : Operand → D} {o : Oper} {f : FuncId} {res : Res} {xs : List Operand} {ys : List P0} {tys : Array TypeId} (hf : Fn P f ys res) (ho : o.op = .call { callee := .value (.func f), args := xs.toArray, argTypes := tys }) (ha : AsArgs H ev xs ys) : Loc P H ev o res.d := loc_call xs tys ho ha hf

/-! ### variables -/
def zcOf (P : Program) (t : TypeId) : Option (List Cell) := (zOf P t).map (List.map cellOf)
theorem k_alloc {ev : Operand → D} {o : Oper} {t : Nat} {cs : List Cell} (E : TypeId) (ho : o.op = .alloc E) (hz : zcOf P E = some cs) : Eff P H ev o (.one (.ptr t 0 0 0)) [] [t] [(t, some (.var E cs))] := by
  unfold zcOf at hz
  cases hzz : zOf P E with
  | none => simp [hzz] at hz
  | some zs => simp only [hzz, Option.map_some, Option.some.injEq] at hz; subst hz; exact eff_alloc E ho hzz
theorem splice_all {xs cells : List Cell} (h : cells.length ≤ xs.length) : splice 0 xs cells = xs := by unfold splice; rw [List.take_zero, List.nil_append, List.drop_of_length_le (by omega), List.append_nil]
theorem splice_one {off : Nat} {c : Cell} {cells : List Cell} (hlt : off < cells.length) : splice off [c] cells = cells.set off c := by
  unfold splice
  apply List.ext_getElem?
  intro j
  rw [List.getElem?_set]
  by_cases h1 : j < off
  · rw [List.append_assoc, List.getElem?_append_left (by simp; omega), List.getElem?_take, if_pos h1, if_neg (by omega)]
  · by_cases h2 : off = j
    · subst h2
      have h0 : off - (cells.take off).length = 0 := by rw [List.length_take]; omega
      rw [List.append_assoc, List.getElem?_append_right (by rw [List.length_take]; omega), h0]
      simp [hlt]
    · rw [if_neg h2, List.getElem?_append_right (by simp; omega), List.getElem?_drop]
      congr 1
      simp
      omega
end
end Go.Proofs.Ytjjeihcmiofkmaa.Abs
