/- Operations that make or write variables of the call's own. No statement of the seat is proved here. -/
import Derived.Test.YtjjeihcmiofkmaaAbsR
set_option linter.unusedSimpArgs false
set_option linter.unusedVariables false
namespace Go.Proofs.Ytjjeihcmiofkmaa.Abs
open Go.RowKit
open R (val row ref)

def look : List (Nat × D) → Nat → D
  | [] => fun _ => .any
  | (t, d) :: l => upd (look l) t d
def lookH : List (Nat × Ob) → Nat → Option Ob
  | [] => fun _ => none
  | (k, o) :: l => upd (lookH l) k (some o)
/-- The state with these slots and these variables. -/
def mkS (n : Nat) (l : List (Nat × D)) (h : List (Nat × Ob)) : St := ⟨n, look l, lookH h⟩

def noM (t : Nat) (l : List (Nat × D)) (h : List (Nat × Ob)) : Bool := l.all (fun p => Nat.beq p.1 t || !p.2.men t) && h.all (fun p => Nat.beq p.1 t || !p.2.men t)

theorem look_men {t : Nat} : ∀ {l : List (Nat × D)}, (l.all fun p => Nat.beq p.1 t || !p.2.men t) = true → ∀ u, u ≠ t → (look l u).men t = false
  | [], _, u, _ => rfl
  | (v, d) :: l, h, u, hu => by
    simp only [List.all_cons, Bool.and_eq_true] at h
    simp only [look, upd]
    split
    · rename_i e
      subst e
      have := h.1
      simp only [Bool.or_eq_true, Nat.beq_eq, Bool.not_eq_true'] at this
      exact this.resolve_left hu
    · exact look_men h.2 u hu
theorem lookH_men {t : Nat} : ∀ {l : List (Nat × Ob)}, (l.all fun p => Nat.beq p.1 t || !p.2.men t) = true → ∀ u ob, u ≠ t → lookH l u = some ob → ob.men t = false
  | [], _, u, ob, _, h => by cases h
  | (v, d) :: l, h, u, ob, hu, ho => by
    simp only [List.all_cons, Bool.and_eq_true] at h
    simp only [lookH, upd] at ho
    split at ho
    · rename_i e
      subst e
      injection ho with ho
      subst ho
      have := h.1
      simp only [Bool.or_eq_true, Nat.beq_eq, Bool.not_eq_true'] at this
      exact this.resolve_left hu
    · exact lookH_men h.2 u ob hu ho

/-- A new block: the name t stands for it. -/
theorem Chg.fresh {base : Nat} {w w' : World} {ι : Nat → Nat × Nat} {own : Nat → Prop} {t : Nat} {g : Nat × Nat} {ob : Ob} {d : D} {v : Value} (hown : ∀ b, own b → base ≤ b ∧ b < w.heap.size) (hb : Below w.heap.size w w') (hg : w.heap.size ≤ g.1) (hg' : g.1 < w'.heap.size) (ho : ob.p (upd ι t g) base ⟨w', fun b => own b ∨ b = g.1⟩ g) (hd : d.p (upd ι t g) base ⟨w', fun b => own b ∨ b = g.1⟩ v) :
    Chg base w w' ι (upd ι t g) own (fun b => own b ∨ b = g.1) v d [] [t] [(t, some ob)] :=
  ⟨hb.os, hb.tape, hb.output, hb.size, fun b h _ => hb.block b h, .of_below hb, fun _ h => .inl h, fun b h => by
      rcases h with h | h
      · exact .inl h
      · exact .inr (by rw [h]; exact hg), fun b h => by
      rcases h with h | h
      · exact Nat.lt_of_lt_of_le (hown b h).2 hb.size
      · rw [h]; exact hg',
    fun k hk => upd_ne _ _ (fun e => hk (by simp [e])), hd, fun k ob' h => by
      obtain ⟨rfl, rfl⟩ : k = t ∧ ob' = ob := by simpa using h
      rw [upd_same]; exact ⟨.inr rfl, ho, .inl hg⟩, fun k ob1 k' ob2 h h' _ => by
      obtain ⟨rfl, rfl⟩ : k = t ∧ ob1 = ob := by simpa using h
      obtain ⟨rfl, rfl⟩ : k' = k ∧ ob2 = ob1 := by simpa using h'
      rfl⟩
theorem ext_write {w w' : World} {ι : Nat → Nat × Nat} {own : Nat → Prop} {k : Nat} (hko : own (ι k).1) (hg : w.grownBy w' (some (ι k).1)) (hz : w'.heap.size = w.heap.size) : Cx.Ext ⟨w, own⟩ ⟨w', own⟩ := ⟨by simp [hz], fun _ _ h => h, fun b h1 h2 => hg.block b h1 (fun e => by injection e with e; subst e; exact h2 hko)⟩
/-- A write into the block of the variable k. -/
theorem Chg.write {base : Nat} {w w' : World} {ι : Nat → Nat × Nat} {own : Nat → Prop} {k : Nat} {ob' : Ob} {v : Value} (hown : ∀ b, own b → base ≤ b ∧ b < w.heap.size) (hko : own (ι k).1) (hg : w.grownBy w' (some (ι k).1)) (hz : w'.heap.size = w.heap.size) (hsz : Sized w w') (ho : ob'.p ι base ⟨w', own⟩ (ι k)) :
    Chg base w w' ι ι own own v .any [k] [] [(k, some ob')] :=
  ⟨hg.os, hg.tape, hg.output, hg.size, fun b h hn => hg.block b h (fun e => by injection e with e; exact hn k (by simp) e), hsz, fun _ h => h, fun _ h => .inl h, fun b h => by rw [hz]; exact (hown b h).2,
    fun _ _ => rfl, trivial, fun k1 ob1 h => by
      obtain ⟨rfl, rfl⟩ : k1 = k ∧ ob1 = ob' := by simpa using h
      exact ⟨hko, ho, .inr ⟨k1, by simp, rfl⟩⟩, fun k1 ob1 k' ob2 h h' _ => by
      obtain ⟨rfl, rfl⟩ : k1 = k ∧ ob1 = ob' := by simpa using h
      obtain ⟨rfl, rfl⟩ : k' = k1 ∧ ob2 = ob1 := by simpa using h'
      rfl⟩
theorem cells_agree {t : Nat} {g : Nat × Nat} {ι : Nat → Nat × Nat} : Agree [t] ι (upd ι t g) := fun k hk => upd_ne _ _ (fun e => hk (by simp [e]))

/-! ### new variables -/
def zOf (P : Program) (t : TypeId) : Option (List Value) := match P.info? t with | some i => (match i.zero with | some v => if v.cells.toList.all Value.oneCell' then some v.cells.toList else none | none => none) | none => none
theorem newVar_run {P : Program} (t : TypeId) (v : Value) (w : World) : (newVar t v).run P w = .ok ⟨w.heap.size, 0, none⟩ (w.alloc (.cells v.cells t)) := by
  unfold newVar newRow
  simp
theorem below_alloc (w : World) (o : Obj) : Below w.heap.size w (w.alloc o) := (Below.refl _ _).alloc (Nat.le_refl _) o
theorem heap_new (w : World) (o : Obj) : (w.alloc o).heap[w.heap.size]? = some o := by
  show (w.heap.push o)[w.heap.size]? = some o
  simp
theorem size_new (w : World) (o : Obj) : (w.alloc o).heap.size = w.heap.size + 1 := by
  show (w.heap.push o).size = _
  simp

theorem eff_alloc {P : Program} {o : Oper} {t : Nat} {H : Nat → Option Ob} {ev : Operand → D} {zs : List Value} (E : TypeId) (ho : o.op = .alloc E) (hz : zOf P E = some zs) :
    Eff P H ev o (.one (.ptr t 0 0 0)) [] [t] [(t, some (.var E (zs.map cellOf)))] := by
  intro base a w ι own hown hbase hev hH _ K Q hK
  unfold zOf at hz
  cases hi : P.info? E with
  | none => simp [hi] at hz
  | some i =>
    cases hv : i.zero with
    | none => simp [hi, hv] at hz
    | some v =>
      simp only [hi, hv, Option.ite_none_right_eq_some, Option.some.injEq] at hz
      obtain ⟨hall, rfl⟩ := hz
      have hrun : (execOp a.eval o).run P w = .ok (.value (.pointer (some ⟨w.heap.size, 0, none⟩))) (w.alloc (.cells v.cells E)) := by
        unfold execOp
        rw [ho]
        simp [Instr.alloc, zeroValue, typeInfo, hi, hv, newVar_run]
      unfold Oper.wp
      rw [hrun, Oper.upon_value]
      refine hK _ _ _ _ (Chg.fresh (g := (w.heap.size, 0)) hown (below_alloc _ _) (Nat.le_refl _) (by rw [size_new]; omega) ?_ ?_)
      · refine ⟨v.cells, heap_new _ _, by simp, fun j x hj => ?_⟩
        simp only [List.getElem?_map, Option.map_eq_some_iff] at hj
        obtain ⟨u, hu, rfl⟩ := hj
        refine ⟨u, by simpa using hu, cellOf_p ?_⟩
        exact List.all_eq_true.1 hall u (List.mem_of_getElem? hu)
      · show _ = Value.pointer _
        rw [upd_same]

/-- The cells of what a slot holds. -/
def D.cells : D → Option (List Cell)
  | .one x => some [x]
  | .agg xs => some xs
  | _ => none
theorem D.cells_p {ι : Nat → Nat × Nat} {base : Nat} {c : Cx} {v : Value} : ∀ {d : D} {xs : List Cell}, d.cells = some xs → d.p ι base c v → v.cells.size = xs.length ∧ ∀ (j : Nat) (x : Cell), xs[j]? = some x → ∃ u, v.cells[j]? = some u ∧ x.p ι base c u
  | .one x, xs, hc, h => by
    injection hc with hc
    subst hc
    have h1 : v.cells = #[v] := by have := Cell.one h; cases v <;> first | rfl | (simp [Value.oneCell'] at this)
    rw [h1]
    refine ⟨rfl, fun j y hj => ?_⟩
    cases j with
    | zero => simp at hj; subst hj; exact ⟨v, rfl, h⟩
    | succ j => simp at hj
  | .agg xs, _, hc, ⟨vs, h1, h2, h3⟩ => by
    injection hc with hc
    subst hc
    subst h1
    exact ⟨by simpa [Value.cells] using h2, fun j x hj => let ⟨u, hu, hx⟩ := h3 j x hj; ⟨u, by simpa [Value.cells] using hu, hx⟩⟩
  | .tup _ _, _, hc, _ => by cases hc
  | .tups _, _, hc, _ => by cases hc
  | .any, _, hc, _ => by cases hc
theorem D.cells_men {t : Nat} : ∀ {d : D} {xs : List Cell}, d.cells = some xs → d.men t = xs.any (Cell.men t)
  | .one x, _, h => by injection h with h; subst h; simp [D.men]
  | .agg xs, _, h => by injection h with h; subst h; rfl
  | .tup _ _, _, h => by cases h
  | .tups _, _, h => by cases h
  | .any, _, h => by cases h

theorem eff_box {P : Program} {o : Oper} {t : Nat} {H : Nat → Option Ob} {ev : Operand → D} {d : D} {cs : List Cell} (E : TypeId) (x : Operand) (ho : o.op = .box E x) (hx : ev x = d) (hc : d.cells = some cs) (hdm : d.men t = false) :
    Eff P H ev o (.one (.ptr t 0 0 0)) [] [t] [(t, some (.var E cs))] := by
  intro base a w ι own hown hbase hev hH _ K Q hK
  have hrun : (execOp a.eval o).run P w = .ok (.value (.pointer (some ⟨w.heap.size, 0, none⟩))) (w.alloc (.cells (a.eval x).cells E)) := by
    unfold execOp
    rw [ho]
    simp [Instr.box, newVar_run]
  unfold Oper.wp
  rw [hrun, Oper.upon_value]
  have hv := hev x (by rw [ho]; simp [Op.operands])
  rw [hx] at hv
  obtain ⟨h1, h2⟩ := D.cells_p hc hv
  refine hK _ _ _ _ (Chg.fresh (g := (w.heap.size, 0)) hown (below_alloc _ _) (Nat.le_refl _) (by rw [size_new]; omega) ?_ ?_)
  · refine ⟨(a.eval x).cells, heap_new _ _, by rw [h1]; simp, fun j y hj => ?_⟩
    obtain ⟨u, hu, hy⟩ := h2 j y hj
    refine ⟨u, by simpa using hu, Cell.p_agree cells_agree (fun t' ht' => ?_) (Cell.mono (c := ⟨w, own⟩) (c' := ⟨w.alloc (.cells (a.eval x).cells E), fun b => own b ∨ b = w.heap.size⟩) ?_ (.of_below (below_alloc w _)) hy)⟩
    · obtain rfl : t' = t := by simpa using ht'
      rw [D.cells_men hc] at hdm
      simp only [List.any_eq_false] at hdm
      simpa using hdm y (List.mem_of_getElem? hj)
    · exact ⟨(below_alloc w _).size, fun b hb' h => by
        rcases h with h | h
        · exact h
        · have h1 : b < w.heap.size := hb'
          have h2 : b = w.heap.size := h
          omega, fun b h1 _ => (below_alloc w _).block b h1⟩
  · show _ = Value.pointer _
    rw [upd_same]

/-! ### stores -/
theorem storeCells_run {P : Program} {b : Nat} {E : TypeId} : ∀ (vs : List Value) (o i : Nat) (w : World) (arr : Array Value), (∀ v ∈ vs, v.oneCell' = true) → w.heap[b]? = some (.cells arr E (0, 0)) → o + i + vs.length ≤ arr.size →
    ∃ (w' : World) (arr' : Array Value), (storeCells ⟨b, o, none⟩ vs i).run P w = .ok () w' ∧ w'.heap[b]? = some (.cells arr' E (0, 0)) ∧ arr'.size = arr.size ∧ (∀ j, arr'[j]? = if o + i ≤ j ∧ j < o + i + vs.length then vs[j - (o + i)]? else arr[j]?) ∧ w.grownBy w' (some b) ∧ w'.heap.size = w.heap.size
  | [], o, i, w, arr, _, hb, hl => ⟨w, arr, rfl, hb, rfl, fun j => by rw [if_neg (by simp only [List.length_nil]; omega)], World.grownBy.refl w _, rfl⟩
  | v :: vs, o, i, w, arr, h1, hb, hl => by
    simp only [List.length_cons] at hl
    have ha : Addr.add ⟨b, o, none⟩ i = ⟨b, o + i, none⟩ := Addr.add_lit b o i
    have hc : w.cell? ⟨b, o + i, none⟩ = some arr[o + i] := by rw [cell_of_arr hb]; exact Array.getElem?_eq_getElem (by omega)
    have hf : w.frozen? ⟨b, o + i, none⟩ = false := by simp [World.frozen?, hb]
    have hb1 : (w.setCell ⟨b, o + i, none⟩ v).heap[b]? = some (.cells (arr.setIfInBounds (o + i) v) E (0, 0)) := by
      show (w.heap.modify b _)[b]? = _
      have hlt := lt_of_heap hb
      rw [Array.getElem?_eq_getElem (by simpa using hlt), Array.getElem_modify_self]
      have : w.heap[b] = .cells arr E (0, 0) := by simpa [Array.getElem?_eq_getElem hlt] using hb
      rw [this]
      rfl
    obtain ⟨w', arr', g1, g2, g3, g4, g5, g6⟩ := storeCells_run (P := P) vs o (i + 1) (w.setCell ⟨b, o + i, none⟩ v) (arr.setIfInBounds (o + i) v) (fun u hu => h1 u (by simp [hu])) hb1 (by simp; omega)
    refine ⟨w', arr', ?_, g2, by rw [g3]; simp, ?_, gb_trans ?_ g5, by rw [g6]; simp [World.setCell]⟩
    · simp only [storeCells, Sem.run_bind, ha, run_store P w _ v .plain (h1 v (by simp)), hc, hf]
      exact g1
    · intro j
      rw [g4 j]
      by_cases hj : j = o + i
      · subst hj
        rw [if_neg (by omega), if_pos (by simp only [List.length_cons]; omega)]
        have : o + i < arr.size := by omega
        simp [this]
      · by_cases h2 : o + (i + 1) ≤ j ∧ j < o + (i + 1) + vs.length
        · rw [if_pos h2, if_pos (by simp only [List.length_cons]; omega), show j - (o + i) = (j - (o + (i + 1))) + 1 by omega, List.getElem?_cons_succ]
        · rw [if_neg h2, if_neg (by simp only [List.length_cons]; omega), Array.getElem?_setIfInBounds_ne (by omega)]
    · exact gb_set (gb_refl w (some b)) (.inl rfl) v

theorem storeVar_run {P : Program} {t : TypeId} {ag : Bool} {n b o : Nat} {E : TypeId} {v : Value} (hT : tyOf P t = some (ag, n)) (w : World) (arr : Array Value) (hn : v.cells.size = n) (h1 : ∀ (j : Nat) (u : Value), v.cells[j]? = some u → u.oneCell' = true) (hb : w.heap[b]? = some (.cells arr E (0, 0))) (hl : o + n ≤ arr.size) :
    ∃ (w' : World) (arr' : Array Value), (storeVar t ⟨b, o, none⟩ v).run P w = .ok () w' ∧ w'.heap[b]? = some (.cells arr' E (0, 0)) ∧ arr'.size = arr.size ∧ (∀ j, arr'[j]? = if o ≤ j ∧ j < o + n then v.cells[j - o]? else arr[j]?) ∧ w.grownBy w' (some b) ∧ w'.heap.size = w.heap.size := by
  obtain ⟨w', arr', g1, g2, g3, g4, g5, g6⟩ := storeCells_run (P := P) v.cells.toList o 0 w arr (fun u hu => by obtain ⟨j, hj⟩ := List.getElem?_of_mem hu; exact h1 j u (by simpa using hj)) hb (by simp; omega)
  refine ⟨w', arr', ?_, g2, g3, fun j => ?_, g5, g6⟩
  · unfold storeVar
    simp only [Sem.run_bind, (tyOf_run hT w).2, Result.andThen_ok, hn, ne_eq, not_true_eq_false, if_false, g1]
  · rw [g4 j]
    simp [hn]

/-- Cells put in the place of others. -/
def splice (off : Nat) (xs cs : List Cell) : List Cell := cs.take off ++ xs ++ cs.drop (off + xs.length)
theorem splice_get {off : Nat} {xs cs : List Cell} (h : off + xs.length ≤ cs.length) (j : Nat) : (splice off xs cs)[j]? = if off ≤ j ∧ j < off + xs.length then xs[j - off]? else cs[j]? := by
  unfold splice
  have hl : (cs.take off).length = off := by rw [List.length_take]; omega
  by_cases h1 : j < off
  · rw [List.append_assoc, List.getElem?_append_left (by omega), List.getElem?_take, if_pos h1, if_neg (by omega)]
  · by_cases h2 : j < off + xs.length
    · rw [if_pos ⟨by omega, h2⟩, List.getElem?_append_left (by simp; omega), List.getElem?_append_right (by omega), hl]
    · rw [if_neg (by omega), List.getElem?_append_right (by simp; omega), List.getElem?_drop]
      congr 1
      simp
      omega
theorem splice_len {off : Nat} {xs cs : List Cell} (h : off + xs.length ≤ cs.length) : (splice off xs cs).length = cs.length := by
  unfold splice
  simp
  omega

theorem eff_store {P : Program} {o : Oper} {k off m : Nat} {ag : Bool} {H : Nat → Option Ob} {ev : Operand → D} {d : D} {E : TypeId} {xs cells : List Cell} (t : TypeId) (x y : Operand) (ho : o.op = .store t x y) (hd : o.dst = none) (hx : ev x = .one (.ptr k 0 0 off)) (hT : tyOf P t = some (ag, m)) (hk : H k = some (.var E cells)) (hy : ev y = d) (hc : d.cells = some xs) (hl : xs.length = m) (hn : Nat.ble (off + m) cells.length = true) :
    Eff P H ev o .any [k] [] [(k, some (.var E (splice off xs cells)))] := by
  intro base a w ι own hown hbase hev hH _ K Q hK
  have hx1 := hev x (by rw [ho]; simp [Op.operands])
  rw [hx] at hx1
  have hx2 : a.eval x = .pointer (some ⟨(ι k).1, (ι k).2 + off, none⟩) := by have : a.eval x = .pointer (some ⟨(ι k).1, (ι k).2 + (0 * 0 + off), none⟩) := hx1; simpa using this
  have hv := hev y (by rw [ho]; simp [Op.operands])
  rw [hy] at hv
  obtain ⟨g1, g2⟩ := D.cells_p hc hv
  obtain ⟨hko, arr, e1, e2, e3⟩ := hH k _ hk
  have hnn : off + m ≤ cells.length := by simpa using hn
  obtain ⟨w', arr', f1, f2, f3, f4, f5, f6⟩ := storeVar_run (P := P) (o := (ι k).2 + off) hT w arr (by rw [g1, hl]) (fun j u hj => by
    have hjl : j < xs.length := by rw [← g1]; rcases Nat.lt_or_ge j (a.eval y).cells.size with h | h; exact h; rw [Array.getElem?_eq_none h] at hj; cases hj
    obtain ⟨u', h1, h2⟩ := g2 j _ (List.getElem?_eq_getElem hjl)
    rw [h1] at hj; injection hj with hj; subst hj; exact Cell.one h2) e1 (by omega)
  have hrun : (execOp a.eval o).run P w = .ok .skip w' := by
    unfold execOp
    rw [ho]
    simp [hx2, Instr.storeAt, Instr.sureAddr, f1]
  unfold Oper.wp
  rw [hrun, Oper.upon_skip, hd]
  have hsz : Sized w w' := fun b ar T hb => by
    by_cases hbk : b = (ι k).1
    · subst hbk
      have e1' : w.heap[(ι k).1]? = some (.cells arr E (0, 0)) := e1
      rw [e1'] at hb
      injection hb with hb
      injection hb with hb1 hb2
      subst hb1 hb2
      exact ⟨arr', f2, f3⟩
    · exact ⟨ar, by rw [f5.block b (lt_of_heap hb) (fun e => by injection e with e; exact hbk e)]; exact hb, rfl⟩
  have hK' := hK undef
  rw [hd] at hK'
  have hxx := ext_write (own := own) hko f5 f6
  refine hK' _ _ _ (Chg.write hown hko f5 f6 hsz ⟨arr', f2, by rw [f3, splice_len (by omega)]; exact e2, fun j z hj => ?_⟩)
  rw [splice_get (by omega)] at hj
  rw [f4]
  rw [hl] at hj
  by_cases hjj : off ≤ j ∧ j < off + m
  · rw [if_pos hjj] at hj
    rw [if_pos (by omega)]
    obtain ⟨u, hu, hz⟩ := g2 _ z hj
    exact ⟨u, by rw [show (ι k).2 + j - ((ι k).2 + off) = j - off by omega]; exact hu, Cell.mono hxx hsz hz⟩
  · rw [if_neg hjj] at hj
    rw [if_neg (by omega)]
    obtain ⟨u, hu, hz⟩ := e3 j z hj
    exact ⟨u, hu, Cell.mono hxx hsz hz⟩
/-- Words for the table of types. -/
def tyN (P : Program) : Nat := P.types.size
def isBo (P : Program) (t : TypeId) : Bool := match P.underlying t with | some .bool => true | _ => false
end Go.Proofs.Ytjjeihcmiofkmaa.Abs
