/- Slices of the call's own: make, append, stores, loads. No statement of the seat is proved here. -/
import Derived.Test.YtjjeihcmiofkmaaAbsO
set_option linter.unusedSimpArgs false
set_option linter.unusedVariables false
namespace Go.Proofs.Ytjjeihcmiofkmaa.Abs
open Go.RowKit
open R (val row ref)

def flat (els : List P0) : List R := els.flatMap P0.rs
def AllN (sz : Nat) (els : List P0) : Prop := ∀ (i : Nat) (e : P0), els[i]? = some e → e.n = sz
theorem AllN.tail {sz : Nat} {e : P0} {els : List P0} (h : AllN sz (e :: els)) : e.n = sz ∧ AllN sz els := ⟨h 0 e rfl, fun i x hi => h (i + 1) x (by simpa using hi)⟩
theorem flat_len {sz : Nat} : ∀ {els : List P0}, AllN sz els → (flat els).length = els.length * sz
  | [], _ => by simp [flat]
  | e :: els, h => by
    have := flat_len h.tail.2
    simp only [flat, List.flatMap_cons, List.length_append] at this ⊢
    rw [this, List.length_cons, Nat.add_mul]
    have := h.tail.1
    unfold P0.n at this
    omega
theorem flat_get {sz : Nat} : ∀ {els : List P0}, AllN sz els → ∀ (i j : Nat) (e : P0), j < sz → els[i]? = some e → (flat els)[i * sz + j]? = e.rs[j]?
  | [], _, i, j, e, _, hi => by simp at hi
  | x :: els, h, i, j, e, hj, hi => by
    have hx := h.tail.1
    unfold P0.n at hx
    simp only [flat, List.flatMap_cons]
    cases i with
    | zero =>
      simp at hi; subst hi
      rw [Nat.zero_mul, Nat.zero_add, List.getElem?_append_left (by omega)]
    | succ i =>
      rw [List.getElem?_append_right (by rw [hx, Nat.add_mul]; omega)]
      have := flat_get h.tail.2 i j e hj (by simpa using hi)
      rw [show (i + 1) * sz + j - x.rs.length = i * sz + j by rw [hx, Nat.add_mul]; omega]
      exact this
theorem flat_app (a b : List P0) : flat (a ++ b) = flat a ++ flat b := by simp [flat]
theorem AllN.app {sz : Nat} {a b : List P0} (ha : AllN sz a) (hb : AllN sz b) : AllN sz (a ++ b) := fun i e hi => by
  rcases Nat.lt_or_ge i a.length with h | h
  · rw [List.getElem?_append_left h] at hi; exact ha i e hi
  · rw [List.getElem?_append_right h] at hi; exact hb _ e hi
/-- From the cells of the elements to all cells in a row. -/
theorem flat_of {sz : Nat} {els : List P0} {q : Nat → R → Prop} (h : ∀ (i : Nat) (e : P0), els[i]? = some e → e.n = sz ∧ ∀ (j : Nat) (r : R), e.rs[j]? = some r → q (i * sz + j) r) : AllN sz els ∧ ∀ (p : Nat) (r : R), (flat els)[p]? = some r → q p r := by
  have hn : AllN sz els := fun i e hi => (h i e hi).1
  refine ⟨hn, fun p r hp => ?_⟩
  have hlt : p < (flat els).length := by
    rcases Nat.lt_or_ge p (flat els).length with h | h
    · exact h
    · rw [List.getElem?_eq_none h] at hp; cases hp
  rw [flat_len hn] at hlt
  have hsz : 0 < sz := by
    rcases Nat.eq_zero_or_pos sz with h0 | h0
    · subst h0; simp at hlt
    · exact h0
  have hi : p / sz < els.length := (Nat.div_lt_iff_lt_mul hsz).2 hlt
  have hj : p % sz < sz := Nat.mod_lt _ hsz
  have hpe : p / sz * sz + p % sz = p := by rw [Nat.mul_comm]; exact Nat.div_add_mod p sz
  have hg := flat_get hn (p / sz) (p % sz) els[p / sz] hj (List.getElem?_eq_getElem hi)
  rw [hpe] at hg
  have := (h (p / sz) els[p / sz] (List.getElem?_eq_getElem hi)).2 (p % sz) r (hg ▸ hp)
  rwa [hpe] at this
theorem of_flat {sz : Nat} {els : List P0} {q : Nat → R → Prop} (hn : AllN sz els) (h : ∀ (p : Nat) (r : R), (flat els)[p]? = some r → q p r) : ∀ (i : Nat) (e : P0), els[i]? = some e → e.n = sz ∧ ∀ (j : Nat) (r : R), e.rs[j]? = some r → q (i * sz + j) r := fun i e hi => by
  refine ⟨hn i e hi, fun j r hj => h _ r ?_⟩
  have hjs : j < sz := by
    rw [← hn i e hi]
    rcases Nat.lt_or_ge j e.rs.length with h | h
    · exact h
    · rw [List.getElem?_eq_none h] at hj; cases hj
  rw [flat_get hn i j e hjs hi, hj]

/-- An element type: its cells, its bytes, its zero value. -/
def elOf (P : Program) (T : TypeId) : Option (TypeId × Nat × Nat) :=
  match P.underlying T with
  | some (.slice E) => match P.info? E with
    | some i => match i.zero with
      | some z => if z.cells.size = i.size ∧ 0 < i.size then some (E, i.size, i.bytes) else none
      | none => none
    | none => none
  | _ => none
theorem elOf_spec {P : Program} {T E sz by_ : Nat} (h : elOf P T = some (E, sz, by_)) : ∃ z, El P T E sz by_ z := by
  unfold elOf at h
  cases hu : P.underlying T with
  | none => simp [hu] at h
  | some d =>
    cases d <;> simp only [hu] at h <;> try (cases h; done)
    rename_i E'
    cases hi : P.info? E' with
    | none => simp [hi] at h
    | some i =>
      cases hz : i.zero with
      | none => simp [hi, hz] at h
      | some z =>
        simp only [hi, hz, Option.ite_none_right_eq_some, Option.some.injEq, Prod.mk.injEq] at h
        obtain ⟨⟨h1, h2⟩, rfl, rfl, rfl⟩ := h
        exact ⟨z, hu, ⟨i, hi, hz, rfl, rfl⟩, h1, h2⟩

theorem sized_refl (w : World) : Sized w w := fun b arr E h => ⟨arr, h, rfl⟩

/-- append on a row of the call's own, from a place in its block on. -/
theorem app_run {P : Program} {T ty E sz by_ : Nat} {z : Value} (hE : El P T E sz by_ z) {w : World} {g o n cap : Nat} {cur : Array Value} (hg : w.heap[g]? = some (.cells cur E (0, 0))) (hcs : cap = 0 ∨ o + cap * sz ≤ cur.size) (hn : n ≤ cap) (hcm : cap ≤ maxLen)
    {bo : Option Addr} {m d : Nat} {news : List Value} (hl : news.length = m * sz) (hnews : 0 < m → ∃ b o, bo = some ⟨b, o, none⟩ ∧ ∀ (j : Nat) (u : Value), news[j]? = some u → w.cell? ⟨b, o + j, none⟩ = some u) (h1 : ∀ u ∈ news, u.oneCell' = true)
    (h63 : n + m ≤ maxLen) (hbytes : (n + m) * by_ ≤ 140737488355328) :
    ∃ (w' : World) (g' o' c' : Nat) (cur' : Array Value), (Builtin.append_ #[T, T] ty #[.slice (some ⟨g, o, none⟩) n cap, .slice bo m d]).run P w = .ok (.slice (some ⟨g', o', none⟩) (n + m) c') w' ∧ w'.heap[g']? = some (.cells cur' E (0, 0)) ∧ (c' = 0 ∨ o' + c' * sz ≤ cur'.size) ∧ n + m ≤ c' ∧ c' ≤ maxLen ∧
      (∀ p, p < (n + m) * sz → cur'[o' + p]? = ((cur.toList.drop o).take (n * sz) ++ news)[p]?) ∧ Sized w w' ∧ w.grownBy w' (some g) ∧ (g' = g ∨ g' = w.heap.size) := by
  obtain ⟨i, hi, hz, hsz, hby⟩ := hE.info
  subst hsz hby
  have hnm : n * i.size ≤ cap * i.size := Nat.mul_le_mul_right i.size hn
  have hlen : ((cur.toList.drop o).take (n * i.size)).length = n * i.size := by
    rcases hcs with h0 | hcs
    · have : n = 0 := by omega
      subst this
      simp
    · rw [List.length_take, List.length_drop, Array.length_toList]
      omega
  have hold : ∀ p, p < n * i.size → ((cur.toList.drop o).take (n * i.size) ++ news)[p]? = cur[o + p]? := fun p hp => by
    rw [List.getElem?_append_left (by omega), List.getElem?_take, if_pos hp, List.getElem?_drop, Array.getElem?_toList]
  rcases Nat.eq_zero_or_pos m with h0 | h0
  · subst h0
    have hnil : news = [] := List.eq_nil_of_length_eq_zero (by simpa using hl)
    subst hnil
    refine ⟨w, g, o, cap, cur, ?_, hg, hcs, by omega, hcm, fun p hp => (hold p (by simpa using hp)).symm, sized_refl w, gb_refl w _, .inl rfl⟩
    have hroom : n + 0 ≤ cap := by omega
    cases bo with
    | none => simp [Builtin.append_, run_underlying hE.sl, sizeOf, typeInfo, hi, Builtin.lenOf, Builtin.firstCells, storeCells, hn]
    | some a => simp [Builtin.append_, run_underlying hE.sl, sizeOf, typeInfo, hi, Builtin.lenOf, Builtin.firstCells, storeCells, hn, loadCells, loadCellsFrom]
  · obtain ⟨b, ob, rfl, hc⟩ := hnews h0
    have hnews' : ∀ j u, news[j]? = some u → w.cell? ((⟨b, ob, none⟩ : Addr).add j) = some u := fun j u hj => by rw [Addr.add_lit]; exact hc j u hj
    by_cases hroom : n + m ≤ cap
    · have hrm : (n + m) * i.size ≤ cap * i.size := Nat.mul_le_mul_right _ hroom
      rw [Nat.add_mul] at hrm
      obtain ⟨w', arr', g1, g2, g3, g4, g5, g6⟩ := storeCells_run (P := P) news (o + n * i.size) 0 w cur h1 hg (by rcases hcs with h0 | hcs <;> omega)
      have hfc := run_firstCells_some (P := P) w i.size m ⟨b, ob, none⟩ m d news hl hnews'
      refine ⟨w', g, o, cap, arr', ?_, g2, by rw [g3]; exact hcs, hroom, hcm, fun p hp => ?_, fun k arr T' hk => ?_, g5, .inl rfl⟩
      · simp [Builtin.append_, run_underlying hE.sl, sizeOf, typeInfo, hi, Builtin.lenOf, hroom, hfc, Addr.add_lit, g1]
      · rw [g4]
        rw [Nat.add_mul] at hp
        by_cases hp1 : p < n * i.size
        · rw [if_neg (by omega), hold p hp1]
        · rw [if_pos (by omega), List.getElem?_append_right (by omega), hlen]
          congr 1
          omega
      · by_cases hkg : k = g
        · subst hkg
          rw [hg] at hk
          injection hk with hk
          injection hk with hk1 hk2
          subst hk1 hk2
          exact ⟨_, g2, g3⟩
        · exact ⟨arr, by rw [g5.block k (lt_of_heap hk) (fun e => by injection e with e; exact hkg e)]; exact hk, rfl⟩
    · have holds : ∀ j u, ((cur.toList.drop o).take (n * i.size))[j]? = some u → w.cell? ((⟨g, o, none⟩ : Addr).add j) = some u := fun j u hj => by
        rw [Addr.add_lit, cell_of_arr hg]
        rw [List.getElem?_take] at hj
        split at hj
        · rw [List.getElem?_drop] at hj
          simpa using hj
        · cases hj
      have h63' : ((n + m : Nat) : Int) ≤ 9223372036854775807 := by simp only [maxLen] at h63; omega
      have hr := run_append_grow (P := P) w T ty E i z hE.sl hi hz ⟨g, o, none⟩ n cap ((cur.toList.drop o).take (n * i.size)) hlen holds ⟨b, ob, none⟩ m d news hl hnews' (by omega) h63' (growslice_fits (by omega) hbytes)
      have hge := grownCap_ge w (n + m) cap E
      have hcm' : grownCap w (n + m) cap E ≤ maxLen := grownCap_le_maxLen w (n + m) cap E h63
      refine ⟨_, w.heap.size, 0, _, _, hr, heap_alloc_new w.drew _, ?_, hge, hcm', fun p hp => ?_, ?_, ⟨rfl, rfl, rfl, by simp, fun k hk _ => Below.heap_alloc w.drew _ k hk⟩, .inr rfl⟩
      · right
        simp only [Array.size_append, List.size_toArray, size_zeroCells, hE.cells, hlen, hl, ← Nat.add_mul, Nat.zero_add]
        refine Nat.mul_le_mul_right _ ?_
        omega
      · rw [Nat.zero_add, ← Array.getElem?_toList]
        simp only [Array.toList_append, List.append_assoc]
        rw [← List.append_assoc, List.getElem?_append_left (by rw [List.length_append, hlen, hl, ← Nat.add_mul]; exact hp)]
      · intro k arr T' hk
        exact ⟨arr, by rw [Below.heap_alloc w.drew _ k (lt_of_heap hk)]; exact hk, rfl⟩

/-! ### what can be appended -/
/-- A slot reads as a slice with these elements ('new': their memory is younger than the call). -/
def SlD (H : Nat → Option Ob) (d : D) (sz : Nat) (new : Bool) (els : List P0) : Prop :=
  ∀ (ι : Nat → Nat × Nat) (base : Nat) (w : World) (own : Nat → Prop) (v : Value), (∀ k ob, H k = some ob → own (ι k).1 ∧ ob.p ι base ⟨w, own⟩ (ι k)) → d.p ι base ⟨w, own⟩ v →
    ∃ (bo : Option Addr) (c : Nat) (news : List Value), v = .slice bo els.length c ∧ news.length = els.length * sz ∧ (0 < els.length → ∃ b o, bo = some ⟨b, o, none⟩ ∧ ∀ (j : Nat) (u : Value), news[j]? = some u → w.cell? ⟨b, o + j, none⟩ = some u) ∧ (∀ u ∈ news, u.oneCell' = true) ∧
      AllN sz els ∧ ∀ (p : Nat) (r : R), (flat els)[p]? = some r → ∃ u, news[p]? = some u ∧ r.p (Cx.young ⟨w, own⟩ base new) u
theorem news_of {c : Cx} {w : World} {b o sz : Nat} {els : List P0} (hn : AllN sz els) (h : ∀ (p : Nat) (r : R), (flat els)[p]? = some r → ∃ u, w.cell? ⟨b, o + p, none⟩ = some u ∧ r.p c u) :
    ∃ news : List Value, news.length = els.length * sz ∧ (∀ (j : Nat) (u : Value), news[j]? = some u → w.cell? ⟨b, o + j, none⟩ = some u) ∧ (∀ u ∈ news, u.oneCell' = true) ∧ ∀ (p : Nat) (r : R), (flat els)[p]? = some r → ∃ u, news[p]? = some u ∧ r.p c u := by
  obtain ⟨vs, hl, hv⟩ := pick_vals (p := fun (r : R) u => r.p c u) (g := fun p => w.cell? ⟨b, o + p, none⟩) (flat els) h
  have get : ∀ (j : Nat) (u : Value), vs[j]? = some u → ∃ r, (flat els)[j]? = some r ∧ w.cell? ⟨b, o + j, none⟩ = some u ∧ r.p c u := fun j u hj => by
    have hjl : j < vs.length := by
      rcases Nat.lt_or_ge j vs.length with h | h
      · exact h
      · rw [List.getElem?_eq_none h] at hj; cases hj
    obtain ⟨u', e1, e2, e3⟩ := hv j _ (List.getElem?_eq_getElem (by omega))
    rw [e1] at hj; injection hj with hj; subst hj
    exact ⟨_, List.getElem?_eq_getElem (by omega), e2, e3⟩
  refine ⟨vs, by rw [hl, flat_len hn], fun j u hj => (get j u hj).choose_spec.2.1, fun u hu => ?_, fun p r hp => let ⟨u, e1, _, e3⟩ := hv p r hp; ⟨u, e1, e3⟩⟩
  obtain ⟨j, hj⟩ := List.getElem?_of_mem hu
  obtain ⟨r, _, _, h3⟩ := get j u hj
  exact r.one h3
theorem slD_row {H : Nat → Option Ob} {m nil : Bool} {sz : Nat} {els : List P0} : SlD H (.one (.r m (row nil sz els))) sz m els := by
  intro ι base w own v hH hv
  obtain ⟨ao, cap, h1, h2, h3, h4, h5⟩ := row_p.1 hv
  by_cases hn : 0 < els.length
  · obtain ⟨b, o, e1, e2, e3, e4⟩ := h5 hn
    obtain ⟨f1, f2⟩ := flat_of (q := fun p r => ∃ u, w.cell? ⟨b, o + p, none⟩ = some u ∧ r.p (Cx.young ⟨w, own⟩ base m) u) (fun i e hi => ⟨(e4 i e hi).1, fun j r hj => by
      obtain ⟨u, hu, hr⟩ := (e4 i e hi).2 j r hj
      refine ⟨u, ?_, hr⟩
      rw [Cx.young_w] at hu
      rwa [← Nat.add_assoc]⟩)
    obtain ⟨news, g1, g2, g3, g4⟩ := news_of f1 f2
    exact ⟨ao, cap, news, h1, g1, fun _ => ⟨b, o, e1, g2⟩, g3, f1, g4⟩
  · have : els = [] := List.eq_nil_of_length_eq_zero (by omega)
    subst this
    exact ⟨ao, cap, [], h1, by simp, fun h => by simp at h, fun u hu => by simp at hu, fun i e hi => by simp at hi, fun p r hp => by simp [flat] at hp⟩
theorem slD_ownJ {H : Nat → Option Ob} {k j n sz : Nat} {E : TypeId} {new : Bool} {els : List P0} (hk : H k = some (.sl E sz new els)) (hn : j + n ≤ els.length) : SlD H (.one (.own k j n sz)) sz new ((els.drop j).take n) := by
  intro ι base w own v hH hv
  obtain ⟨oo, cap, arr, E', h1, h0, h2, h3, h4, h5⟩ := hv
  obtain ⟨ho, arr', e1, e2, e3⟩ := hH k _ hk
  have hl : ((els.drop j).take n).length = n := by rw [List.length_take, List.length_drop]; omega
  obtain ⟨f1, f2⟩ := flat_of (els := (els.drop j).take n) (q := fun p r => ∃ u, w.cell? ⟨(ι k).1, (ι k).2 + j * sz + p, none⟩ = some u ∧ r.p (Cx.young ⟨w, own⟩ base new) u) (fun i e hi => by
    rw [List.getElem?_take] at hi
    split at hi
    · rw [List.getElem?_drop] at hi
      refine ⟨(e3 (j + i) e hi).1, fun jj r hj => ?_⟩
      obtain ⟨u, hu, hr⟩ := (e3 (j + i) e hi).2 jj r hj
      refine ⟨u, ?_, hr⟩
      rw [cell_of_arr e1, ← hu, Nat.add_mul]
      congr 1
      omega
    · cases hi)
  obtain ⟨news, g1, g2, g3, g4⟩ := news_of f1 f2
  refine ⟨some ⟨(ι k).1, oo, none⟩, cap, news, by rw [hl]; exact h1, g1, fun hp => ⟨(ι k).1, (ι k).2 + j * sz, ?_, g2⟩, g3, f1, g4⟩
  rw [hl] at hp
  rw [h0.resolve_right (by omega)]
theorem slD_own {H : Nat → Option Ob} {k n sz : Nat} {E : TypeId} {new : Bool} {els : List P0} (hk : H k = some (.sl E sz new els)) (hn : n = els.length) : SlD H (.one (.own k 0 n sz)) sz new els := by
  have := slD_ownJ (j := 0) (n := n) hk (by omega)
  rwa [List.drop_zero, List.take_of_length_le (by omega)] at this

theorem Cx.Ext.trans {a b c : Cx} (h : a.Ext b) (k : b.Ext c) : a.Ext c :=
  ⟨Nat.le_trans h.size k.size, fun x hx ho => h.own x hx (k.own x (Nat.lt_of_lt_of_le hx h.size) ho), fun x hx ho => (k.block x (Nat.lt_of_lt_of_le hx h.size) (fun hb => ho (h.own x hx hb))).trans (h.block x hx ho)⟩

theorem eff_append {P : Program} {H : Nat → Option Ob} {ev : Operand → D} {o : Oper} {t k j c sz by_ : Nat} {E : TypeId} {new new2 : Bool} {els els2 : List P0} {d : D} (T : TypeId) (x y : Operand) (ho : o.op = .call { callee := .builtin .append, args := #[x, y], argTypes := #[T, T] }) (hT : elOf P T = some (E, sz, by_))
    (hx : ev x = .one (.own k j c sz)) (hk : H k = some (.sl E sz new els)) (hc : j + c = els.length) (hy : ev y = d) (hs : SlD H d sz new2 els2) (h63 : c + els2.length ≤ maxLen) (hb : (c + els2.length) * by_ ≤ 140737488355328) :
    Eff P H ev o (.one (.own t 0 (c + els2.length) sz)) [k] [t] [(t, some (.sl E sz (new && new2) (els.drop j ++ els2))), (k, none)] := by
  intro base a w ι own hown hbase hev hH _ K Q hK
  obtain ⟨z, hE⟩ := elOf_spec hT
  have hx1 := hev x (by rw [ho]; simp [Op.operands, Call.operands])
  rw [hx] at hx1
  obtain ⟨oo, cap, arr, E', e1, e0, e2, e3, e4, e5⟩ := hx1
  obtain ⟨hko, arr', g1, g2, g3⟩ := hH k _ hk
  have hae : arr' = arr ∧ E = E' := by
    have e4' : w.heap[(ι k).1]? = some (.cells arr E' (0, 0)) := e4
    have g1' : w.heap[(ι k).1]? = some (.cells arr' E (0, 0)) := g1
    rw [e4'] at g1'
    injection g1' with g1'
    injection g1' with q1 q2
    exact ⟨q1.symm, q2.symm⟩
  obtain ⟨rfl, rfl⟩ := hae
  have hy1 := hev y (by rw [ho]; simp [Op.operands, Call.operands])
  rw [hy] at hy1
  obtain ⟨bo, c2, news, f1, f2, f3, f4, f5, f6⟩ := hs ι base w own _ hH hy1
  have hdl : (els.drop j).length = c := by rw [List.length_drop]; omega
  obtain ⟨w', g', o', c', cur', r1, r2, r3, r4, r5, r6, r7, r8, r9⟩ := app_run (P := P) (ty := o.type) hE (w := w) (g := (ι k).1) (o := oo) (n := c) (cap := cap) (cur := arr') g1 (e0.symm.imp id (fun e => by rw [Nat.add_mul] at e5; omega)) e2 e3 (bo := bo) (m := els2.length) (d := c2) f2 f3 f4 h63 hb
  have hrun : (execOp a.eval o).run P w = .ok (.value (.slice (some ⟨g', o', none⟩) (c + els2.length) c')) w' := by
    unfold execOp
    rw [ho]
    have e1' : a.eval x = .slice (some ⟨(ι k).1, oo, none⟩) c cap := e1
    simp only [resolve, invoke, builtin, Sem.run_bind, Sem.run_pure, Result.andThen_ok, List.map_toArray, List.map_cons, List.map_nil, e1', f1, r1]
  unfold Oper.wp
  rw [hrun, Oper.upon_value]
  have hx' : Cx.Ext ⟨w, own⟩ ⟨w', fun b => own b ∨ b = g'⟩ := ⟨r8.size, fun b hb h => by
    rcases h with h | h
    · exact h
    · rcases r9 with r9 | r9
      · rw [h, r9]; exact hko
      · have : b < w.heap.size := hb
        omega, fun b hb hno => r8.block b hb (fun e => by injection e with e; subst e; exact hno hko)⟩
  obtain ⟨o2, ho2, hb2⟩ : ∃ o2, (o' = o2 ∨ c' = 0) ∧ o2 + (c + els2.length) * sz ≤ cur'.size ∧ (c' ≠ 0 → o2 + c' * sz ≤ cur'.size) ∧ (0 < c' → o2 = o') := by
    rcases Nat.eq_zero_or_pos c' with h0 | h0
    · exact ⟨0, .inr h0, by rw [show c + els2.length = 0 by omega]; simp, fun h => absurd h0 h, fun h => by omega⟩
    · have h1 := r3.resolve_left (by omega)
      have h2 := Nat.mul_le_mul_right sz r4
      exact ⟨o', .inl rfl, by omega, fun _ => h1, fun _ => rfl⟩
  have hg1 : own g' ∨ w.heap.size ≤ g' := by rcases r9 with r9 | r9 <;> rw [r9]; exact .inl hko; exact .inr (Nat.le_refl _)
  refine hK _ _ (upd ι t (g', o2)) (fun b => own b ∨ b = g') ⟨r8.os, r8.tape, r8.output, r8.size, fun b hb hn => r8.block b hb (fun e => by injection e with e; exact hn k (by simp) e), r7, fun _ h => .inl h, fun b h => ?_, fun b h => ?_, fun u hu => upd_ne _ _ (fun e => hu (by simp [e])), ?_, fun k1 ob1 h => ?_, fun k1 ob1 k2 ob2 h h' _ => ?_⟩
  · rcases h with h | h
    · exact .inl h
    · rw [h]; exact hg1
  · rcases h with h | h
    · exact Nat.lt_of_lt_of_le (hown b h).2 r8.size
    · rw [h]; exact lt_of_heap r2
  · refine ⟨o', c', cur', E, by rw [upd_same], ?_, r4, r5, by rw [upd_same]; exact r2, ?_⟩
    · rw [upd_same, Nat.zero_mul]; exact ho2
    · rw [upd_same, Nat.zero_add]
      show o2 + c' * sz ≤ cur'.size
      by_cases h0 : c' = 0
      · rw [h0]; have := hb2.1; omega
      · exact hb2.2.1 h0
  · obtain ⟨rfl, rfl⟩ : k1 = t ∧ ob1 = .sl E sz (new && new2) (els.drop j ++ els2) := by simpa using h
    rw [upd_same]
    refine ⟨.inr rfl, ⟨cur', r2, ?_, of_flat (q := fun p r => ∃ u, cur'[o2 + p]? = some u ∧ r.p (Cx.young ⟨w', fun b => own b ∨ b = g'⟩ base (new && new2)) u) ?_ (fun p r hp => ?_)⟩, ?_⟩
    · rw [List.length_append, hdl]
      exact hb2.1
    · refine AllN.app (fun i e hi => ?_) f5
      rw [List.getElem?_drop] at hi
      exact (g3 _ e hi).1
    · have hf1 := flat_of (els := els.drop j) (q := fun p r => ∃ u, arr'[(ι k).2 + j * sz + p]? = some u ∧ r.p (Cx.young ⟨w, own⟩ base new) u) (fun i e hi => by
        rw [List.getElem?_drop] at hi
        refine ⟨(g3 (j + i) e hi).1, fun jj r hj => ?_⟩
        obtain ⟨u, hu, hr⟩ := (g3 (j + i) e hi).2 jj r hj
        refine ⟨u, ?_, hr⟩
        rw [← hu, Nat.add_mul]
        congr 1
        omega)
      rw [flat_app] at hp
      have hplt : p < (flat (els.drop j) ++ flat els2).length := by
        rcases Nat.lt_or_ge p (flat (els.drop j) ++ flat els2).length with h | h
        · exact h
        · rw [List.getElem?_eq_none h] at hp; cases hp
      have hfl : (flat (els.drop j)).length = c * sz := by rw [flat_len hf1.1, hdl]
      have hpl : p < (c + els2.length) * sz := by
        rw [List.length_append, hfl, flat_len f5, ← Nat.add_mul] at hplt; exact hplt
      have hlen1 : ((arr'.toList.drop ((ι k).2 + j * sz)).take (c * sz)).length = c * sz := by
        have := Nat.mul_le_mul_right sz e2
        rw [Nat.add_mul] at e5
        rw [List.length_take, List.length_drop, Array.length_toList]; omega
      have hc0 : 0 < c' := by
        rcases Nat.eq_zero_or_pos c' with h0 | h0
        · rw [show c + els2.length = 0 by omega] at hpl; simp at hpl
        · exact h0
      have hol : (arr'.toList.drop oo).take (c * sz) = (arr'.toList.drop ((ι k).2 + j * sz)).take (c * sz) := by
        rcases e0 with e0 | e0
        · rw [e0]
        · have : c = 0 := by omega
          subst this; simp
      rw [hb2.2.2 hc0, r6 p hpl, hol]
      by_cases hp1 : p < c * sz
      · rw [List.getElem?_append_left (by rw [hfl]; exact hp1)] at hp
        rw [List.getElem?_append_left (by rw [hlen1]; exact hp1), List.getElem?_take, if_pos hp1, List.getElem?_drop, Array.getElem?_toList]
        obtain ⟨u, hu, hr⟩ := hf1.2 p r hp
        refine ⟨u, hu, r.mono ?_ hr⟩
        cases new with
        | false => exact hx'
        | true => cases new2 with
          | true => exact hx'.young _ true
          | false => exact (Cx.young_out _ _ true).trans hx'
      · rw [List.getElem?_append_right (by rw [hfl]; omega), hfl] at hp
        rw [List.getElem?_append_right (by rw [hlen1]; omega), hlen1]
        obtain ⟨u, hu, hr⟩ := f6 _ r hp
        refine ⟨u, hu, r.mono ?_ hr⟩
        cases new2 with
        | false => cases new <;> exact hx'
        | true => cases new with
          | true => exact hx'.young _ true
          | false => exact (Cx.young_out _ _ true).trans hx'
    · rcases r9 with r9 | r9
      · exact .inr ⟨k, by simp, r9⟩
      · exact .inl (by rw [r9]; exact Nat.le_refl _)
  · obtain ⟨rfl, rfl⟩ : k1 = t ∧ ob1 = .sl E sz (new && new2) (els.drop j ++ els2) := by simpa using h
    obtain ⟨rfl, rfl⟩ : k2 = k1 ∧ ob2 = .sl E sz (new && new2) (els.drop j ++ els2) := by simpa using h'
    rfl
end Go.Proofs.Ytjjeihcmiofkmaa.Abs
