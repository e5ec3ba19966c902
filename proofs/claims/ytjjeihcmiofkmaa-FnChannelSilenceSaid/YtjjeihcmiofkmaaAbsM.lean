/- Slices of the call's own: make, literals, stores and loads of elements. No statement of the seat is proved here. -/
import Derived.Test.YtjjeihcmiofkmaaAbsL
set_option linter.unusedSimpArgs false
set_option linter.unusedVariables false
namespace Go.Proofs.Ytjjeihcmiofkmaa.Abs
open Go.RowKit
open R (val row ref)

/-! ### zero values -/
def rOf : Value → R
  | .slice none 0 0 => row true 0 []
  | v => val v
theorem rOf_p {c : Cx} {v : Value} (h : v.oneCell' = true) : (rOf v).p c v := by
  unfold rOf
  split
  · exact row_p.2 ⟨none, 0, rfl, by simp [maxLen], by simp, by simp, fun h => by simp at h⟩
  · exact val_p.2 ⟨rfl, h⟩
def p0Of : Value → P0
  | .agg cs => .agg (cs.toList.map rOf)
  | v => .one (rOf v)
theorem p0Of_rs (v : Value) : (p0Of v).rs = v.cells.toList.map rOf := by
  cases v <;> simp [p0Of, P0.rs, Value.cells]
def zpOf (P : Program) (E : TypeId) : Option P0 :=
  match P.info? E with
  | some i => match i.zero with
    | some z => if z.cells.toList.all Value.oneCell' then some (p0Of z) else none
    | none => none
  | none => none

theorem eff_make {P : Program} {H : Nat → Option Ob} {ev : Operand → D} {o : Oper} {t sz by_ c : Nat} {E : TypeId} {zp : P0} {m1 m2 : Bool} {i j : Int} (T : TypeId) (x y : Operand) (ho : o.op = .makeSlice T x y) (hT : elOf P T = some (E, sz, by_)) (hz : zpOf P E = some zp)
    (hx : ev x = .one (.r m1 (int i))) (hy : ev y = .one (.r m2 (int j))) (hi : i = c) (hj : j = c) (hb : by_ * c ≤ 281474976710656) (h63 : c ≤ maxLen) :
    Eff P H ev o (.one (.own t 0 c sz)) [] [t] [(t, some (.sl E sz true (List.replicate c zp)))] := by
  intro base a w ι own hown hbase hev hH _ K Q hK
  subst hi hj
  have hx1 := hev x (by rw [ho]; simp [Op.operands])
  rw [hx] at hx1
  have hy1 := hev y (by rw [ho]; simp [Op.operands])
  rw [hy] at hy1
  have hx2 : a.eval x = .int .i64 (c : Int) := ((val_p (c := Cx.young ⟨w, own⟩ base m1)).1 hx1).1
  have hy2 : a.eval y = .int .i64 (c : Int) := ((val_p (c := Cx.young ⟨w, own⟩ base m2)).1 hy1).1
  obtain ⟨z, hE⟩ := elOf_spec hT
  obtain ⟨inf, hi, hzz, hsz, hby⟩ := hE.info
  have hbi : (inf.bytes : Int) * (c : Int) ≤ 281474976710656 := by
    have : ((by_ * c : Nat) : Int) ≤ 281474976710656 := by omega
    rw [hby]; rwa [Int.natCast_mul] at this
  have hr := run_make (P := P) w T E inf z hE.sl hi hzz .i64 .i64 c c (by omega) (Int.le_refl _) hbi (by simp only [maxLen] at h63; omega)
  simp only [Int.toNat_natCast] at hr
  have hrun : (execOp a.eval o).run P w = .ok (.value (.slice (some ⟨w.heap.size, 0, none⟩) c c)) (w.alloc (.cells (madeCells z.cells (c * inf.size)) E)) := by
    unfold execOp
    rw [ho]
    simp only [hx2, hy2, Sem.run_bind, hr, Result.andThen_ok, Sem.run_pure]
  unfold Oper.wp
  rw [hrun, Oper.upon_value]
  have hzp : z.cells.toList.all Value.oneCell' = true ∧ zp = p0Of z := by
    unfold zpOf at hz
    rw [hi] at hz
    simp only [hzz, Option.ite_none_right_eq_some, Option.some.injEq] at hz
    exact ⟨hz.1, hz.2.symm⟩
  refine hK _ _ _ _ (Chg.fresh (g := (w.heap.size, 0)) hown (below_alloc _ _) (Nat.le_refl _) (by rw [size_new]; omega) ?_ ?_)
  · refine ⟨_, heap_new _ _, by rw [List.length_replicate, size_madeCells, hsz, Nat.zero_add]; exact Nat.le_refl _, fun i e he => ?_⟩
    rw [List.getElem?_replicate] at he
    split at he
    · rename_i hic
      injection he with he
      subst he
      rw [hzp.2]
      have hn : (p0Of z).rs.length = sz := by rw [p0Of_rs, List.length_map, Array.length_toList]; exact hE.cells
      refine ⟨hn, fun j r hj => ?_⟩
      rw [p0Of_rs, List.getElem?_map, Option.map_eq_some_iff] at hj
      obtain ⟨u, hu, rfl⟩ := hj
      have hjs : j < sz := by
        rw [← hE.cells]
        rcases Nat.lt_or_ge j z.cells.toList.length with h | h
        · simpa using h
        · rw [List.getElem?_eq_none h] at hu; cases hu
      refine ⟨u, ?_, rOf_p (List.all_eq_true.1 hzp.1 u (List.mem_of_getElem? hu))⟩
      rw [Nat.zero_add]
      have hlt : i * sz + j < c * inf.size := by
        rw [hsz]
        have : (i + 1) * sz ≤ c * sz := Nat.mul_le_mul_right _ hic
        rw [Nat.add_mul] at this
        omega
      simp only [madeCells, Array.getElem?_map, Array.getElem?_range, hlt, if_true, Option.map_some, Option.some.injEq]
      rw [hE.cells, Nat.add_comm, Nat.add_mul_mod_self_right, Nat.mod_eq_of_lt hjs]
      have hzj : z.cells[j]? = some u := by simpa using hu
      have hjz : j < z.cells.size := by rw [hE.cells]; exact hjs
      rw [getElem!_pos z.cells j hjz]
      rw [Array.getElem?_eq_getElem hjz] at hzj
      injection hzj
    · cases he
  · refine ⟨0, c, _, E, by rw [upd_same], .inl (by rw [upd_same, Nat.zero_mul]), Nat.le_refl _, h63, by rw [upd_same]; exact heap_new _ _, by rw [upd_same, size_madeCells, hsz, Nat.zero_add, Nat.zero_add]; exact Nat.le_refl _⟩

/-! ### what a slot holds, as a plain datum -/
def nb (m : Bool) : R → Bool
  | .val _ => true
  | .row true _ [] => true
  | _ => m
theorem nb_p {c : Cx} {base : Nat} {m : Bool} {v : Value} : ∀ {r : R}, r.p (c.young base m) v → r.p (c.young base (nb m r)) v
  | .val u, h => by have := val_p.1 h; exact val_p.2 this
  | .row nil sz els, h => by
    cases nil with
    | false => exact h
    | true =>
      cases els with
      | nil =>
        obtain ⟨ao, cap, h1, h2, h3, h4, h5⟩ := row_p.1 h
        exact row_p.2 ⟨ao, cap, h1, h2, h3, h4, fun h => by simp at h⟩
      | cons _ _ => exact h
  | .ref x, h => h
def rsO : List Cell → Option (Bool × List R)
  | [] => some (true, [])
  | .r m r :: cs => match rsO cs with
    | some (m', rs) => some (nb m r && m', r :: rs)
    | none => none
  | _ :: _ => none
def dP : D → Option (Bool × P0)
  | .one (.r m r) => some (nb m r, .one r)
  | .agg cs => match rsO cs with
    | some (m, rs) => some (m, .agg rs)
    | none => none
  | _ => none
theorem young_le {c : Cx} {base : Nat} {m m' : Bool} (h : m' = true → m = true) : (c.young base m).Ext (c.young base m') := by
  cases m' with
  | true => rw [h rfl]; exact Cx.Ext.refl _
  | false => exact Cx.young_out c base m
theorem rsO_ok {ι : Nat → Nat × Nat} {base : Nat} {c : Cx} : ∀ {cs : List Cell} {m : Bool} {rs : List R}, rsO cs = some (m, rs) → cs.length = rs.length ∧ ∀ (j : Nat) (r : R), rs[j]? = some r → ∃ x, cs[j]? = some x ∧ ∀ v, x.p ι base c v → r.p (c.young base m) v
  | [], m, rs, h => by
    simp only [rsO, Option.some.injEq, Prod.mk.injEq] at h
    obtain ⟨rfl, rfl⟩ := h
    exact ⟨rfl, fun j r hj => by simp at hj⟩
  | .r m0 r0 :: cs, m, rs, h => by
    simp only [rsO] at h
    split at h
    · rename_i m' rs' he
      simp only [Option.some.injEq, Prod.mk.injEq] at h
      obtain ⟨rfl, rfl⟩ := h
      obtain ⟨g1, g2⟩ := rsO_ok (ι := ι) (base := base) (c := c) he
      refine ⟨by simp [g1], fun j r hj => ?_⟩
      cases j with
      | zero =>
        simp at hj; subst hj
        exact ⟨_, rfl, fun v hv => r0.mono (young_le (fun e => by simp at e; exact e.1)) (nb_p hv)⟩
      | succ j =>
        obtain ⟨x, hx, hp⟩ := g2 j r (by simpa using hj)
        exact ⟨x, by simpa using hx, fun v hv => r.mono (young_le (fun e => by simp at e; exact e.2)) (hp v hv)⟩
    · cases h
  | .own .. :: _, _, _, h => by cases h
  | .ptr .. :: _, _, _, h => by cases h
  | .any :: _, _, _, h => by cases h
theorem dP_ok {ι : Nat → Nat × Nat} {base : Nat} {c : Cx} {v : Value} : ∀ {d : D} {m : Bool} {e : P0}, dP d = some (m, e) → d.p ι base c v → v.cells.size = e.n ∧ ∀ (j : Nat) (r : R), e.rs[j]? = some r → ∃ u, v.cells[j]? = some u ∧ r.p (c.young base m) u
  | .one x, m, e, h, hv => by
    cases x with
    | r m0 r0 =>
      simp only [dP, Option.some.injEq, Prod.mk.injEq] at h
      obtain ⟨rfl, rfl⟩ := h
      have h1 : v.cells = #[v] := by have := r0.one hv; cases v <;> first | rfl | (simp [Value.oneCell'] at this)
      rw [h1]
      refine ⟨rfl, fun j r hj => ?_⟩
      cases j with
      | zero => simp [P0.rs] at hj; subst hj; exact ⟨v, rfl, nb_p hv⟩
      | succ j => simp [P0.rs] at hj
    | _ => cases h
  | .agg cs, m, e, h, ⟨vs, h1, h2, h3⟩ => by
    simp only [dP] at h
    split at h
    · rename_i m' rs he
      simp only [Option.some.injEq, Prod.mk.injEq] at h
      obtain ⟨rfl, rfl⟩ := h
      obtain ⟨g1, g2⟩ := rsO_ok (ι := ι) (base := base) (c := c) he
      subst h1
      refine ⟨by simp [Value.cells, P0.n, P0.rs]; omega, fun j r hj => ?_⟩
      obtain ⟨x, hx, hp⟩ := g2 j r hj
      obtain ⟨u, hu, hq⟩ := h3 j x hx
      exact ⟨u, by simpa [Value.cells] using hu, hp u hq⟩
    · cases h
  | .tup _ _, _, _, h, _ => by cases h
  | .tups _, _, _, h, _ => by cases h
  | .any, _, _, h, _ => by cases h

/-- A store of an element. -/
theorem eff_storeS {P : Program} {H : Nat → Option Ob} {ev : Operand → D} {o : Oper} {k sz i : Nat} {ag : Bool} {d : D} {E : TypeId} {new m : Bool} {els : List P0} {e : P0} (t : TypeId) (x y : Operand) (ho : o.op = .store t x y) (hd : o.dst = none) (hx : ev x = .one (.ptr k i sz 0)) (hk : H k = some (.sl E sz new els)) (hT : tyOf P t = some (ag, sz)) (hi : i < els.length) (hy : ev y = d) (he : dP d = some (m, e)) (hen : e.n = sz) :
    Eff P H ev o .any [k] [] [(k, some (.sl E sz (new && m) (els.set i e)))] := by
  intro base a w ι own hown hbase hev hH _ K Q hK
  have hx1 := hev x (by rw [ho]; simp [Op.operands])
  rw [hx] at hx1
  have hx2 : a.eval x = .pointer (some ⟨(ι k).1, (ι k).2 + i * sz, none⟩) := hx1
  have hv := hev y (by rw [ho]; simp [Op.operands])
  rw [hy] at hv
  obtain ⟨g1, g2⟩ := dP_ok he hv
  obtain ⟨hko, arr, e1, e2, e3⟩ := hH k _ hk
  have hle : (ι k).2 + i * sz + sz ≤ arr.size := by
    have : (i + 1) * sz ≤ els.length * sz := Nat.mul_le_mul_right _ hi
    rw [Nat.add_mul] at this
    omega
  obtain ⟨w', arr', f1, f2, f3, f4, f5, f6⟩ := storeVar_run (P := P) (o := (ι k).2 + i * sz) hT w arr (by rw [g1, hen]) (fun j u hj => by
    have hjl : j < e.rs.length := by
      have : (a.eval y).cells.size = e.rs.length := g1
      rw [← this]
      rcases Nat.lt_or_ge j (a.eval y).cells.size with h | h
      · exact h
      · rw [Array.getElem?_eq_none h] at hj; cases hj
    obtain ⟨u', h1, h2⟩ := g2 j _ (List.getElem?_eq_getElem hjl)
    rw [h1] at hj; injection hj with hj; subst hj; exact R.one _ h2) e1 hle
  have hrun : (execOp a.eval o).run P w = .ok .skip w' := by
    unfold execOp
    rw [ho]
    simp [hx2, Instr.storeAt, Instr.sureAddr, f1]
  unfold Oper.wp
  rw [hrun, Oper.upon_skip, hd]
  have hsz : Sized w w' := fun b ar T hb => by
    by_cases hbk : b = (ι k).1
    · subst hbk
      have e1' : w.heap[(ι k).1]? = some (.cells arr E (0, 0)) := e1
      rw [e1'] at hb
      injection hb with hb
      injection hb with hb1 hb2
      subst hb1 hb2
      exact ⟨arr', f2, f3⟩
    · exact ⟨ar, by rw [f5.block b (lt_of_heap hb) (fun e => by injection e with e; exact hbk e)]; exact hb, rfl⟩
  have hK' := hK undef
  rw [hd] at hK'
  have hxx := ext_write (own := own) hko f5 f6
  refine hK' _ _ _ (Chg.write hown hko f5 f6 hsz ⟨arr', f2, by rw [f3, List.length_set]; exact e2, fun q ee hq => ?_⟩)
  rw [List.getElem?_set] at hq
  by_cases hiq : i = q
  · subst hiq
    rw [if_pos rfl, if_pos hi] at hq
    injection hq with hq
    subst hq
    refine ⟨hen, fun j r hj => ?_⟩
    obtain ⟨u, hu, hr⟩ := g2 j r hj
    have hjs : j < sz := by
      rw [← hen]
      rcases Nat.lt_or_ge j e.rs.length with h | h
      · exact h
      · rw [List.getElem?_eq_none h] at hj; cases hj
    refine ⟨u, by rw [f4, if_pos ⟨by omega, by omega⟩, show (ι k).2 + (i * sz + j) - ((ι k).2 + i * sz) = j by omega]; exact hu, ?_⟩
    exact r.mono ((young_le (fun e => by simp at e; exact e.2)).trans (hxx.young _ _)) hr
  · rw [if_neg hiq] at hq
    obtain ⟨p1, p2⟩ := e3 q ee hq
    refine ⟨p1, fun j r hj => ?_⟩
    obtain ⟨u, hu, hr⟩ := p2 j r hj
    have hjs : j < sz := by
      rw [← p1]
      rcases Nat.lt_or_ge j ee.rs.length with h | h
      · exact h
      · rw [List.getElem?_eq_none h] at hj; cases hj
    refine ⟨u, ?_, r.mono ((young_le (fun e => by simp at e; exact e.1)).trans (hxx.young _ _)) hr⟩
    rw [f4, if_neg ?_]
    · exact hu
    · intro hh
      rcases Nat.lt_or_ge q i with h | h
      · have : (q + 1) * sz ≤ i * sz := Nat.mul_le_mul_right _ h
        rw [Nat.add_mul] at this
        omega
      · have : (i + 1) * sz ≤ q * sz := Nat.mul_le_mul_right _ (by omega)
        rw [Nat.add_mul] at this
        omega

/-- A load of an element, or of a part of it. -/
theorem loc_loadS {P : Program} {H : Nat → Option Ob} {ev : Operand → D} {o : Oper} {k i sz off m : Nat} {ag : Bool} {E : TypeId} {new : Bool} {els : List P0} {e y : P0} (t : TypeId) (x : Operand) (ho : o.op = .load t x) (hx : ev x = .one (.ptr k i sz off)) (hk : H k = some (.sl E sz new els)) (he : els[i]? = some e) (hT : tyOf P t = some (ag, m)) (hy : y = mk ag ((e.rs.drop off).take m)) (hm : off + m ≤ e.rs.length) (h1 : ag = true ∨ m = 1) : Loc P H ev o (y.d new) :=
  loc_run fun base a w ι own hw hev hH => by
    have hx1 := hev x (by rw [ho]; simp [Op.operands])
    rw [hx] at hx1
    have hx2 : a.eval x = .pointer (some ⟨(ι k).1, (ι k).2 + (i * sz + off), none⟩) := hx1
    obtain ⟨hown, arr, g1, g2, g3⟩ := hH k _ hk
    obtain ⟨p1, p2⟩ := g3 i e he
    have hC : CellsAt (Cx.young ⟨w, own⟩ base new) (ι k).1 ((ι k).2 + (i * sz + off)) ((e.rs.drop off).take m) := fun j r hj => by
      rw [List.getElem?_take] at hj
      split at hj
      · rw [List.getElem?_drop] at hj
        obtain ⟨u, hu, hr⟩ := p2 _ r hj
        refine ⟨u, ?_, hr⟩
        rw [Cx.young_w, cell_of_arr g1, ← hu]
        congr 1
        omega
      · cases hj
    obtain ⟨v, h2, h3⟩ := load_cells hC hT (by rw [List.length_take, List.length_drop]; omega) hy h1
    rw [Cx.young_w] at h2
    refine ⟨v, ?_, P0.d_p.2 h3⟩
    unfold execOp
    rw [ho]
    simp only [hx2, Sem.run_bind, Instr.loadAt, Instr.sureAddr, Sem.run_pure, Result.andThen_ok, h2]
end Go.Proofs.Ytjjeihcmiofkmaa.Abs
