/- Operations that make or write variables of the call's own. No statement of the seat is proved here. -/
import Derived.Test.YtknbeakmnkjkhaaAbsR
set_option linter.unusedSimpArgs false
set_option linter.unusedVariables false
namespace Go.Proofs.Ytknbeakmnkjkhaa.Abs
open Go.RowKit
open R (val row ref)

def look : List (Nat × D) → Nat → D
  | [] => fun _ => .any
  | (t, d) :: l => upd (look l) t d
def lookH : List (Nat × Ob) → Nat → Option Ob
  | [] => fun _ => none
  | (k, o) :: l => upd (lookH l) k (some o)
/-- The state with these slots and these variables. -/
def mkS (n : Nat) (l : List (Nat × D)) (h : List (Nat × Ob)) : St := ⟨n, look l, lookH h⟩

def Cell.men (t : Nat) : Cell → Bool
  | .own k _ _ _ => Nat.beq k t
  | .ptr k _ _ _ => Nat.beq k t
  | _ => false
def D.men (t : Nat) : D → Bool
  | .one x => x.men t
  | .agg xs => xs.any (Cell.men t)
  | _ => false
def Ob.men (t : Nat) : Ob → Bool
  | .var _ xs => xs.any (Cell.men t)
  | .sl .. => false
def noM (t : Nat) (l : List (Nat × D)) (h : List (Nat × Ob)) : Bool := l.all (fun p => Nat.beq p.1 t || !p.2.men t) && h.all (fun p => Nat.beq p.1 t || !p.2.men t)

theorem look_men {t : Nat} : ∀ {l : List (Nat × D)}, (l.all fun p => Nat.beq p.1 t || !p.2.men t) = true → ∀ u, u ≠ t → (look l u).men t = false
  | [], _, u, _ => rfl
  | (v, d) :: l, h, u, hu => by
    simp only [List.all_cons, Bool.and_eq_true] at h
    simp only [look, upd]
    split
    · rename_i e
      subst e
      have := h.1
      simp only [Bool.or_eq_true, Nat.beq_eq, Bool.not_eq_true'] at this
      exact this.resolve_left hu
    · exact look_men h.2 u hu
theorem lookH_men {t : Nat} : ∀ {l : List (Nat × Ob)}, (l.all fun p => Nat.beq p.1 t || !p.2.men t) = true → ∀ u ob, u ≠ t → lookH l u = some ob → ob.men t = false
  | [], _, u, ob, _, h => by cases h
  | (v, d) :: l, h, u, ob, hu, ho => by
    simp only [List.all_cons, Bool.and_eq_true] at h
    simp only [lookH, upd] at ho
    split at ho
    · rename_i e
      subst e
      injection ho with ho
      subst ho
      have := h.1
      simp only [Bool.or_eq_true, Nat.beq_eq, Bool.not_eq_true'] at this
      exact this.resolve_left hu
    · exact lookH_men h.2 u ob hu ho

theorem Cell.p_upd {ι : Nat → Nat} {base : Nat} {c : Cx} {v : Value} {t b : Nat} : ∀ {x : Cell}, x.men t = false → x.p ι base c v → x.p (upd ι t b) base c v
  | .r n x, _, h => h
  | .own k j n sz, hm, h => by
    have : k ≠ t := fun e => by subst e; simp [Cell.men] at hm
    simpa only [Cell.p, upd_ne _ _ this] using h
  | .ptr k i sz off, hm, h => by
    have : k ≠ t := fun e => by subst e; simp [Cell.men] at hm
    simpa only [Cell.p, upd_ne _ _ this] using h
  | .any, _, h => h
theorem D.p_upd {ι : Nat → Nat} {base : Nat} {c : Cx} {v : Value} {t b : Nat} : ∀ {x : D}, x.men t = false → x.p ι base c v → x.p (upd ι t b) base c v
  | .one x, hm, h => Cell.p_upd hm h
  | .agg xs, hm, ⟨vs, h1, h2, h3⟩ => ⟨vs, h1, h2, fun j x hj => by
      obtain ⟨u, hu, hx⟩ := h3 j x hj
      refine ⟨u, hu, Cell.p_upd ?_ hx⟩
      simp only [D.men, List.any_eq_false] at hm
      simpa using hm x (List.mem_of_getElem? hj)⟩
  | .tup n xs, _, h => h
  | .any, _, _ => trivial
theorem Ob.p_upd {ι : Nat → Nat} {base : Nat} {c : Cx} {b' : Nat} {t b : Nat} : ∀ {x : Ob}, x.men t = false → x.p ι base c b' → x.p (upd ι t b) base c b'
  | .var E xs, hm, ⟨arr, h1, h2, h3⟩ => ⟨arr, h1, h2, fun j x hj => by
      obtain ⟨u, hu, hx⟩ := h3 j x hj
      refine ⟨u, hu, Cell.p_upd ?_ hx⟩
      simp only [Ob.men, List.any_eq_false] at hm
      simpa using hm x (List.mem_of_getElem? hj)⟩
  | .sl .., _, h => h

theorem Ob.mono {ι : Nat → Nat} {base : Nat} {c c' : Cx} {b : Nat} (hx : c.Ext c') (hs : Sized c.w c'.w) (hb : c'.w.heap[b]? = c.w.heap[b]?) : ∀ {ob : Ob}, ob.p ι base c b → ob.p ι base c' b
  | .var E cells, ⟨arr, e1, e2, e3⟩ => ⟨arr, by rw [hb]; exact e1, e2, fun j x hj => let ⟨u, hu, hx'⟩ := e3 j x hj; ⟨u, hu, Cell.mono hx hs hx'⟩⟩
  | .sl E sz n els, ⟨arr, e1, e2, e3⟩ => ⟨arr, by rw [hb]; exact e1, e2, fun i e he => ⟨(e3 i e he).1, fun j r hj => let ⟨u, hu, hr⟩ := (e3 i e he).2 j r hj; ⟨u, hu, r.mono (hx.young base n) hr⟩⟩⟩

/-- A new block: the name t stands for it. -/
theorem Sim'.fresh {w0 : World} {n : Nat} {l : List (Nat × D)} {h : List (Nat × Ob)} {a : Act} {w w' : World} {ι : Nat → Nat} {own : Nat → Prop} {t g : Nat} {ob : Ob} {d : D} {v : Value} (hs : Sim' w0 (mkS n l h) a w ι own) (hm : noM t l h = true) (ht : t < n)
    (hb : Below w.heap.size w w') (hg : w.heap.size ≤ g) (hg' : g < w'.heap.size) (ho : ob.p (upd ι t g) w0.heap.size ⟨w', fun b => own b ∨ b = g⟩ g) (hd : d.p (upd ι t g) w0.heap.size ⟨w', fun b => own b ∨ b = g⟩ v) :
    Sim' w0 (mkS n ((t, d) :: l) ((t, ob) :: h)) (a.put (some t) v) w' (upd ι t g) (fun b => own b ∨ b = g) := by
  simp only [noM, Bool.and_eq_true] at hm
  have hx : Cx.Ext ⟨w, own⟩ ⟨w', fun b => own b ∨ b = g⟩ := ⟨hb.size, fun b hb' h => by
    rcases h with h | h
    · exact h
    · have : b < w.heap.size := hb'
      omega, fun b h1 _ => hb.block b h1⟩
  have hz : Sized w w' := .of_below hb
  refine ⟨hs.below.trans (hb.mono hs.below.size), ?_, by rw [put_size]; exact hs.size, ?_, ?_, ?_, by rw [put_defers]; exact hs.defers⟩
  · intro b hb'
    rcases hb' with h1 | rfl
    · exact ⟨(hs.own_ b h1).1, Nat.lt_of_lt_of_le (hs.own_ b h1).2 hb.size⟩
    · exact ⟨Nat.le_trans hs.below.size hg, hg'⟩
  · intro u
    have hu : t < a.tmps.size := by rw [hs.size]; exact ht
    simp only [mkS, look, Act.put]
    by_cases htu : u = t
    · subst htu
      rw [upd_same]
      simpa [hu] using hd
    · rw [upd_ne _ _ htu]
      have h1 := D.mono (ι := ι) (base := w0.heap.size) hx hz (hs.env u)
      have h2 := D.p_upd (t := t) (b := g) (look_men hm.1 u htu) h1
      simpa [Array.getElem?_setIfInBounds_ne (Ne.symm htu)] using h2
  · intro k ob' hk
    simp only [mkS, lookH] at hk
    by_cases hkt : k = t
    · subst hkt
      rw [upd_same] at hk
      injection hk with hk
      subst hk
      rw [upd_same]
      exact ⟨.inr rfl, ho⟩
    · rw [upd_ne _ _ hkt] at hk
      rw [upd_ne _ _ hkt]
      obtain ⟨h1, h2⟩ := hs.heap k ob' hk
      exact ⟨.inl h1, Ob.p_upd (lookH_men hm.2 k ob' hkt hk) (Ob.mono hx hz (hb.block _ (hs.own_ _ h1).2) h2)⟩
  · intro k k' ob1 ob2 hk hk' he
    have old : ∀ k o1, k ≠ t → (mkS n ((t, d) :: l) ((t, ob) :: h)).heap k = some o1 → own (ι k) ∧ upd ι t g k = ι k := fun k o1 hkt hk => by
      simp only [mkS, lookH] at hk
      rw [upd_ne _ _ hkt] at hk
      exact ⟨(hs.heap k o1 hk).1, upd_ne _ _ hkt⟩
    by_cases h1 : k = t
    · by_cases h2 : k' = t
      · rw [h1, h2]
      · exfalso
        obtain ⟨g1, g2⟩ := old k' ob2 h2 (by simpa [mkS, lookH, upd_ne _ _ h2] using hk')
        subst h1
        rw [upd_same, g2] at he
        have := (hs.own_ _ g1).2
        omega
    · by_cases h2 : k' = t
      · exfalso
        obtain ⟨g1, g2⟩ := old k ob1 h1 (by simpa [mkS, lookH, upd_ne _ _ h1] using hk)
        subst h2
        rw [upd_same, g2] at he
        have := (hs.own_ _ g1).2
        omega
      · simp only [mkS, lookH] at hk hk'
        rw [upd_ne _ _ h1] at hk
        rw [upd_ne _ _ h2] at hk'
        rw [upd_ne _ _ h1, upd_ne _ _ h2] at he
        exact hs.inj k k' ob1 ob2 hk hk' he

/-- A write into the block of the variable k. -/
theorem Sim'.write {w0 : World} {n : Nat} {l : List (Nat × D)} {h : List (Nat × Ob)} {a : Act} {w w' : World} {ι : Nat → Nat} {own : Nat → Prop} {k : Nat} {ob ob' : Ob} (hs : Sim' w0 (mkS n l h) a w ι own) (hk : lookH h k = some ob)
    (hg : w.grownBy w' (some (ι k))) (hz : w'.heap.size = w.heap.size) (hsz : Sized w w') (ho : Cx.Ext ⟨w, own⟩ ⟨w', own⟩ → ob'.p ι w0.heap.size ⟨w', own⟩ (ι k)) : Sim' w0 (mkS n l ((k, ob') :: h)) a w' ι own := by
  have hko := (hs.heap k ob hk).1
  have hx : Cx.Ext ⟨w, own⟩ ⟨w', own⟩ := ⟨by simp [hz], fun _ _ h => h, fun b h1 h2 => hg.block b h1 (fun e => by injection e with e; subst e; exact h2 hko)⟩
  have hb : Below w0.heap.size w0 w' := hs.below.trans ⟨hg.os, hg.tape, hg.output, hg.size, fun b hb => hg.block b (Nat.lt_of_lt_of_le hb hs.below.size) (fun e => by injection e with e; subst e; have := (hs.own_ _ hko).1; omega)⟩
  refine ⟨hb, fun b hb' => by rw [hz]; exact hs.own_ b hb', hs.size, fun u => D.mono hx hsz (hs.env u), ?_, ?_, hs.defers⟩
  · intro u ob2 hu
    simp only [mkS, lookH] at hu
    by_cases huk : u = k
    · subst huk
      rw [upd_same] at hu
      injection hu with hu
      subst hu
      exact ⟨hko, ho hx⟩
    · rw [upd_ne _ _ huk] at hu
      obtain ⟨h1, h2⟩ := hs.heap u ob2 hu
      refine ⟨h1, Ob.mono hx hsz (hg.block _ (hs.own_ _ h1).2 (fun e => ?_)) h2⟩
      injection e with e
      exact huk (hs.inj u k ob2 ob hu hk e)
  · intro u u' o1 o2 hu hu' he
    have conv : ∀ u o, (mkS n l ((k, ob') :: h)).heap u = some o → ∃ o', (mkS n l h).heap u = some o' := fun u o hu => by
      simp only [mkS, lookH] at hu ⊢
      by_cases huk : u = k
      · subst huk; exact ⟨ob, hk⟩
      · rw [upd_ne _ _ huk] at hu; exact ⟨o, hu⟩
    obtain ⟨p1, q1⟩ := conv u o1 hu
    obtain ⟨p2, q2⟩ := conv u' o2 hu'
    exact hs.inj u u' p1 p2 q1 q2 he

/-- An operation that leads from one state to another. -/
def EOp (P : Program) (o : Oper) (s s' : St) : Prop :=
  ∀ (w0 : World) (a : Act) (w : World), Sim w0 s a w → ∀ (K : Act → World → Prop) (Q : Exit → Act → World → Prop), (∀ a' w', Sim w0 s' a' w' → K a' w') → o.wp P a w K Q

theorem eop_loc {P : Program} {o : Oper} {s : St} {d : D} (ht : ∀ t, o.dst = some t → t < s.n) (h : Loc P s.heap s.ev o d) : EOp P o s (s.put o.dst d) := by
  intro w0 a w ⟨ι, own, hs⟩ K Q hK
  exact h w0 s a w ι own rfl (fun _ _ => rfl) hs K Q (fun v w' hb hd => hK _ _ ⟨ι, own, hs.quiet hb hd ht⟩)

/-! ### new variables -/
def zOf (P : Program) (t : TypeId) : Option (List Value) := match P.info? t with | some i => (match i.zero with | some v => if v.cells.toList.all Value.oneCell' then some v.cells.toList else none | none => none) | none => none
theorem newVar_run {P : Program} (t : TypeId) (v : Value) (w : World) : (newVar t v).run P w = .ok ⟨w.heap.size, 0, none⟩ (w.alloc (.cells v.cells t)) := by
  unfold newVar newRow
  simp
theorem below_alloc (w : World) (o : Obj) : Below w.heap.size w (w.alloc o) := (Below.refl _ _).alloc (Nat.le_refl _) o
theorem heap_new (w : World) (o : Obj) : (w.alloc o).heap[w.heap.size]? = some o := by
  show (w.heap.push o)[w.heap.size]? = some o
  simp
theorem size_new (w : World) (o : Obj) : (w.alloc o).heap.size = w.heap.size + 1 := by
  show (w.heap.push o).size = _
  simp

theorem eop_alloc {P : Program} {o : Oper} {n t : Nat} {l : List (Nat × D)} {h : List (Nat × Ob)} {zs : List Value} (E : TypeId) (ho : o.op = .alloc E) (hd : o.dst = some t) (hz : zOf P E = some zs) (hm : noM t l h = true) (ht : Nat.blt t n = true) :
    EOp P o (mkS n l h) (mkS n ((t, .one (.ptr t 0 0 0)) :: l) ((t, .var E (zs.map cellOf)) :: h)) := by
  intro w0 a w ⟨ι, own, hs⟩ K Q hK
  unfold zOf at hz
  cases hi : P.info? E with
  | none => simp [hi] at hz
  | some i =>
    cases hv : i.zero with
    | none => simp [hi, hv] at hz
    | some v =>
      simp only [hi, hv, Option.ite_none_right_eq_some, Option.some.injEq] at hz
      obtain ⟨hall, rfl⟩ := hz
      have hrun : (execOp a.eval o).run P w = .ok (.value (.pointer (some ⟨w.heap.size, 0, none⟩))) (w.alloc (.cells v.cells E)) := by
        unfold execOp
        rw [ho]
        simp [Instr.alloc, zeroValue, typeInfo, hi, hv, newVar_run]
      unfold Oper.wp
      rw [hrun, Oper.upon_value, hd]
      refine hK _ _ ⟨_, _, hs.fresh (g := w.heap.size) hm (by simpa using ht) (below_alloc _ _) (Nat.le_refl _) (by rw [size_new]; omega) ?_ ?_⟩
      · refine ⟨v.cells, heap_new _ _, by simp, fun j x hj => ?_⟩
        simp only [List.getElem?_map, Option.map_eq_some_iff] at hj
        obtain ⟨u, hu, rfl⟩ := hj
        refine ⟨u, by simpa using hu, cellOf_p ?_⟩
        exact List.all_eq_true.1 hall u (List.mem_of_getElem? hu)
      · show _ = Value.pointer _
        rw [upd_same]

/-- The cells of what a slot holds. -/
def D.cells : D → Option (List Cell)
  | .one x => some [x]
  | .agg xs => some xs
  | _ => none
theorem D.cells_p {ι : Nat → Nat} {base : Nat} {c : Cx} {v : Value} : ∀ {d : D} {xs : List Cell}, d.cells = some xs → d.p ι base c v → v.cells.size = xs.length ∧ ∀ (j : Nat) (x : Cell), xs[j]? = some x → ∃ u, v.cells[j]? = some u ∧ x.p ι base c u
  | .one x, xs, hc, h => by
    injection hc with hc
    subst hc
    have h1 : v.cells = #[v] := by have := Cell.one h; cases v <;> first | rfl | (simp [Value.oneCell'] at this)
    rw [h1]
    refine ⟨rfl, fun j y hj => ?_⟩
    cases j with
    | zero => simp at hj; subst hj; exact ⟨v, rfl, h⟩
    | succ j => simp at hj
  | .agg xs, _, hc, ⟨vs, h1, h2, h3⟩ => by
    injection hc with hc
    subst hc
    subst h1
    exact ⟨by simpa [Value.cells] using h2, fun j x hj => let ⟨u, hu, hx⟩ := h3 j x hj; ⟨u, by simpa [Value.cells] using hu, hx⟩⟩
  | .tup _ _, _, hc, _ => by cases hc
  | .any, _, hc, _ => by cases hc
theorem D.cells_men {t : Nat} : ∀ {d : D} {xs : List Cell}, d.cells = some xs → d.men t = xs.any (Cell.men t)
  | .one x, _, h => by injection h with h; subst h; simp [D.men]
  | .agg xs, _, h => by injection h with h; subst h; rfl
  | .tup _ _, _, h => by cases h
  | .any, _, h => by cases h

theorem eop_box {P : Program} {o : Oper} {n t : Nat} {l : List (Nat × D)} {h : List (Nat × Ob)} {d : D} {cs : List Cell} (E : TypeId) (x : Operand) (ho : o.op = .box E x) (hd : o.dst = some t) (hx : (mkS n l h).ev x = d) (hc : d.cells = some cs) (hdm : d.men t = false) (hm : noM t l h = true) (ht : Nat.blt t n = true) :
    EOp P o (mkS n l h) (mkS n ((t, .one (.ptr t 0 0 0)) :: l) ((t, .var E cs) :: h)) := by
  intro w0 a w ⟨ι, own, hs⟩ K Q hK
  have hrun : (execOp a.eval o).run P w = .ok (.value (.pointer (some ⟨w.heap.size, 0, none⟩))) (w.alloc (.cells (a.eval x).cells E)) := by
    unfold execOp
    rw [ho]
    simp [Instr.box, newVar_run]
  unfold Oper.wp
  rw [hrun, Oper.upon_value, hd]
  have hv := hs.ev x
  rw [hx] at hv
  obtain ⟨h1, h2⟩ := D.cells_p hc hv
  refine hK _ _ ⟨_, _, hs.fresh (g := w.heap.size) hm (by simpa using ht) (below_alloc _ _) (Nat.le_refl _) (by rw [size_new]; omega) ?_ ?_⟩
  · refine ⟨(a.eval x).cells, heap_new _ _, h1, fun j y hj => ?_⟩
    obtain ⟨u, hu, hy⟩ := h2 j y hj
    refine ⟨u, hu, Cell.p_upd ?_ (Cell.mono ?_ (.of_below (below_alloc w _)) hy)⟩
    · rw [D.cells_men hc] at hdm
      simp only [List.any_eq_false] at hdm
      simpa using hdm y (List.mem_of_getElem? hj)
    · exact ⟨(below_alloc w _).size, fun b hb' h => by
        rcases h with h | h
        · exact h
        · have : b < w.heap.size := hb'
          omega, fun b h1 _ => (below_alloc w _).block b h1⟩
  · show _ = Value.pointer _
    rw [upd_same]

/-! ### stores -/
theorem storeCells_run {P : Program} {b : Nat} {E : TypeId} : ∀ (vs : List Value) (o i : Nat) (w : World) (arr : Array Value), (∀ v ∈ vs, v.oneCell' = true) → w.heap[b]? = some (.cells arr E (0, 0)) → o + i + vs.length ≤ arr.size →
    ∃ (w' : World) (arr' : Array Value), (storeCells ⟨b, o, none⟩ vs i).run P w = .ok () w' ∧ w'.heap[b]? = some (.cells arr' E (0, 0)) ∧ arr'.size = arr.size ∧ (∀ j, arr'[j]? = if o + i ≤ j ∧ j < o + i + vs.length then vs[j - (o + i)]? else arr[j]?) ∧ w.grownBy w' (some b) ∧ w'.heap.size = w.heap.size
  | [], o, i, w, arr, _, hb, hl => ⟨w, arr, rfl, hb, rfl, fun j => by rw [if_neg (by simp only [List.length_nil]; omega)], World.grownBy.refl w _, rfl⟩
  | v :: vs, o, i, w, arr, h1, hb, hl => by
    simp only [List.length_cons] at hl
    have ha : Addr.add ⟨b, o, none⟩ i = ⟨b, o + i, none⟩ := Addr.add_lit b o i
    have hc : w.cell? ⟨b, o + i, none⟩ = some arr[o + i] := by rw [cell_of_arr hb]; exact Array.getElem?_eq_getElem (by omega)
    have hf : w.frozen? ⟨b, o + i, none⟩ = false := by simp [World.frozen?, hb]
    have hb1 : (w.setCell ⟨b, o + i, none⟩ v).heap[b]? = some (.cells (arr.setIfInBounds (o + i) v) E (0, 0)) := by
      show (w.heap.modify b _)[b]? = _
      have hlt := lt_of_heap hb
      rw [Array.getElem?_eq_getElem (by simpa using hlt), Array.getElem_modify_self]
      have : w.heap[b] = .cells arr E (0, 0) := by simpa [Array.getElem?_eq_getElem hlt] using hb
      rw [this]
      rfl
    obtain ⟨w', arr', g1, g2, g3, g4, g5, g6⟩ := storeCells_run (P := P) vs o (i + 1) (w.setCell ⟨b, o + i, none⟩ v) (arr.setIfInBounds (o + i) v) (fun u hu => h1 u (by simp [hu])) hb1 (by simp; omega)
    refine ⟨w', arr', ?_, g2, by rw [g3]; simp, ?_, gb_trans ?_ g5, by rw [g6]; simp [World.setCell]⟩
    · simp only [storeCells, Sem.run_bind, ha, run_store P w _ v .plain (h1 v (by simp)), hc, hf]
      exact g1
    · intro j
      rw [g4 j]
      by_cases hj : j = o + i
      · subst hj
        rw [if_neg (by omega), if_pos (by simp only [List.length_cons]; omega)]
        have : o + i < arr.size := by omega
        simp [this]
      · by_cases h2 : o + (i + 1) ≤ j ∧ j < o + (i + 1) + vs.length
        · rw [if_pos h2, if_pos (by simp only [List.length_cons]; omega), show j - (o + i) = (j - (o + (i + 1))) + 1 by omega, List.getElem?_cons_succ]
        · rw [if_neg h2, if_neg (by simp only [List.length_cons]; omega), Array.getElem?_setIfInBounds_ne (by omega)]
    · exact gb_set (gb_refl w (some b)) (.inl rfl) v

theorem storeVar_run {P : Program} {t : TypeId} {ag : Bool} {n b o : Nat} {E : TypeId} {v : Value} (hT : tyOf P t = some (ag, n)) (w : World) (arr : Array Value) (hn : v.cells.size = n) (h1 : ∀ (j : Nat) (u : Value), v.cells[j]? = some u → u.oneCell' = true) (hb : w.heap[b]? = some (.cells arr E (0, 0))) (hl : o + n ≤ arr.size) :
    ∃ (w' : World) (arr' : Array Value), (storeVar t ⟨b, o, none⟩ v).run P w = .ok () w' ∧ w'.heap[b]? = some (.cells arr' E (0, 0)) ∧ arr'.size = arr.size ∧ (∀ j, arr'[j]? = if o ≤ j ∧ j < o + n then v.cells[j - o]? else arr[j]?) ∧ w.grownBy w' (some b) ∧ w'.heap.size = w.heap.size := by
  obtain ⟨w', arr', g1, g2, g3, g4, g5, g6⟩ := storeCells_run (P := P) v.cells.toList o 0 w arr (fun u hu => by obtain ⟨j, hj⟩ := List.getElem?_of_mem hu; exact h1 j u (by simpa using hj)) hb (by simp; omega)
  refine ⟨w', arr', ?_, g2, g3, fun j => ?_, g5, g6⟩
  · unfold storeVar
    simp only [Sem.run_bind, (tyOf_run hT w).2, Result.andThen_ok, hn, ne_eq, not_true_eq_false, if_false, g1]
  · rw [g4 j]
    simp [hn]

/-- Cells put in the place of others. -/
def splice (off : Nat) (xs cs : List Cell) : List Cell := cs.take off ++ xs ++ cs.drop (off + xs.length)
theorem splice_get {off : Nat} {xs cs : List Cell} (h : off + xs.length ≤ cs.length) (j : Nat) : (splice off xs cs)[j]? = if off ≤ j ∧ j < off + xs.length then xs[j - off]? else cs[j]? := by
  unfold splice
  have hl : (cs.take off).length = off := by rw [List.length_take]; omega
  by_cases h1 : j < off
  · rw [List.append_assoc, List.getElem?_append_left (by omega), List.getElem?_take, if_pos h1, if_neg (by omega)]
  · by_cases h2 : j < off + xs.length
    · rw [if_pos ⟨by omega, h2⟩, List.getElem?_append_left (by simp; omega), List.getElem?_append_right (by omega), hl]
    · rw [if_neg (by omega), List.getElem?_append_right (by simp; omega), List.getElem?_drop]
      congr 1
      simp
      omega
theorem splice_len {off : Nat} {xs cs : List Cell} (h : off + xs.length ≤ cs.length) : (splice off xs cs).length = cs.length := by
  unfold splice
  simp
  omega

theorem eop_store {P : Program} {o : Oper} {n k off m : Nat} {ag : Bool} {l : List (Nat × D)} {h : List (Nat × Ob)} {d : D} {E : TypeId} {xs cells : List Cell} (t : TypeId) (x y : Operand) (ho : o.op = .store t x y) (hd : o.dst = none) (hx : (mkS n l h).ev x = .one (.ptr k 0 0 off)) (hT : tyOf P t = some (ag, m)) (hk : lookH h k = some (.var E cells)) (hy : (mkS n l h).ev y = d) (hc : d.cells = some xs) (hl : xs.length = m) (hn : Nat.ble (off + m) cells.length = true) :
    EOp P o (mkS n l h) (mkS n l ((k, .var E (splice off xs cells)) :: h)) := by
  intro w0 a w ⟨ι, own, hs⟩ K Q hK
  have hx1 := hs.ev x
  rw [hx] at hx1
  have hx2 : a.eval x = .pointer (some ⟨ι k, off, none⟩) := by have : a.eval x = .pointer (some ⟨ι k, 0 * 0 + off, none⟩) := hx1; simpa using this
  have hv := hs.ev y
  rw [hy] at hv
  obtain ⟨g1, g2⟩ := D.cells_p hc hv
  obtain ⟨hown, arr, e1, e2, e3⟩ := hs.heap k _ hk
  have hnn : off + m ≤ cells.length := by simpa using hn
  obtain ⟨w', arr', f1, f2, f3, f4, f5, f6⟩ := storeVar_run (P := P) (o := off) hT w arr (by rw [g1, hl]) (fun j u hj => by
    have hjl : j < xs.length := by rw [← g1]; rcases Nat.lt_or_ge j (a.eval y).cells.size with h | h; exact h; rw [Array.getElem?_eq_none h] at hj; cases hj
    obtain ⟨u', h1, h2⟩ := g2 j _ (List.getElem?_eq_getElem hjl)
    rw [h1] at hj; injection hj with hj; subst hj; exact Cell.one h2) e1 (by rw [e2]; exact hnn)
  have hrun : (execOp a.eval o).run P w = .ok .skip w' := by
    unfold execOp
    rw [ho]
    simp [hx2, Instr.storeAt, Instr.sureAddr, f1]
  unfold Oper.wp
  rw [hrun, Oper.upon_skip, hd]
  have hsz : Sized w w' := fun b ar T hb => by
    by_cases hbk : b = ι k
    · subst hbk
      rw [e1] at hb
      injection hb with hb
      injection hb with hb1 hb2
      subst hb1 hb2
      exact ⟨arr', f2, f3⟩
    · exact ⟨ar, by rw [f5.block b (lt_of_heap hb) (fun e => by injection e with e; exact hbk e)]; exact hb, rfl⟩
  refine hK _ _ ⟨ι, own, hs.write hk f5 f6 hsz (fun hx => ⟨arr', f2, by rw [f3, e2, splice_len (by omega)], fun j z hj => ?_⟩)⟩
  rw [splice_get (by omega)] at hj
  rw [f4 j]
  rw [hl] at hj
  by_cases hjj : off ≤ j ∧ j < off + m
  · rw [if_pos hjj] at hj ⊢
    obtain ⟨u, hu, hz⟩ := g2 _ z hj
    exact ⟨u, hu, Cell.mono hx hsz hz⟩
  · rw [if_neg hjj] at hj ⊢
    obtain ⟨u, hu, hz⟩ := e3 j z hj
    exact ⟨u, hu, Cell.mono hx hsz hz⟩
/-- Words for the table of types. -/
def tyN (P : Program) : Nat := P.types.size
def isBo (P : Program) (t : TypeId) : Bool := match P.underlying t with | some .bool => true | _ => false
end Go.Proofs.Ytknbeakmnkjkhaa.Abs
