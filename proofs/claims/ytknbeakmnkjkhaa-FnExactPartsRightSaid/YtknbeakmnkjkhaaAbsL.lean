/- Slices of the call's own: make, append, stores, loads. No statement of the seat is proved here. -/
import Derived.Test.YtknbeakmnkjkhaaAbsO
set_option linter.unusedSimpArgs false
set_option linter.unusedVariables false
namespace Go.Proofs.Ytknbeakmnkjkhaa.Abs
open Go.RowKit
open R (val row ref)

def flat (els : List P0) : List R := els.flatMap P0.rs
def AllN (sz : Nat) (els : List P0) : Prop := ∀ (i : Nat) (e : P0), els[i]? = some e → e.n = sz
theorem AllN.tail {sz : Nat} {e : P0} {els : List P0} (h : AllN sz (e :: els)) : e.n = sz ∧ AllN sz els := ⟨h 0 e rfl, fun i x hi => h (i + 1) x (by simpa using hi)⟩
theorem flat_len {sz : Nat} : ∀ {els : List P0}, AllN sz els → (flat els).length = els.length * sz
  | [], _ => by simp [flat]
  | e :: els, h => by
    have := flat_len h.tail.2
    simp only [flat, List.flatMap_cons, List.length_append] at this ⊢
    rw [this, List.length_cons, Nat.add_mul]
    have := h.tail.1
    unfold P0.n at this
    omega
theorem flat_get {sz : Nat} : ∀ {els : List P0}, AllN sz els → ∀ (i j : Nat) (e : P0), j < sz → els[i]? = some e → (flat els)[i * sz + j]? = e.rs[j]?
  | [], _, i, j, e, _, hi => by simp at hi
  | x :: els, h, i, j, e, hj, hi => by
    have hx := h.tail.1
    unfold P0.n at hx
    simp only [flat, List.flatMap_cons]
    cases i with
    | zero =>
      simp at hi; subst hi
      rw [Nat.zero_mul, Nat.zero_add, List.getElem?_append_left (by omega)]
    | succ i =>
      rw [List.getElem?_append_right (by rw [hx, Nat.add_mul]; omega)]
      have := flat_get h.tail.2 i j e hj (by simpa using hi)
      rw [show (i + 1) * sz + j - x.rs.length = i * sz + j by rw [hx, Nat.add_mul]; omega]
      exact this
theorem flat_app (a b : List P0) : flat (a ++ b) = flat a ++ flat b := by simp [flat]
theorem AllN.app {sz : Nat} {a b : List P0} (ha : AllN sz a) (hb : AllN sz b) : AllN sz (a ++ b) := fun i e hi => by
  rcases Nat.lt_or_ge i a.length with h | h
  · rw [List.getElem?_append_left h] at hi; exact ha i e hi
  · rw [List.getElem?_append_right h] at hi; exact hb _ e hi
/-- From the cells of the elements to all cells in a row. -/
theorem flat_of {sz : Nat} {els : List P0} {q : Nat → R → Prop} (h : ∀ (i : Nat) (e : P0), els[i]? = some e → e.n = sz ∧ ∀ (j : Nat) (r : R), e.rs[j]? = some r → q (i * sz + j) r) : AllN sz els ∧ ∀ (p : Nat) (r : R), (flat els)[p]? = some r → q p r := by
  have hn : AllN sz els := fun i e hi => (h i e hi).1
  refine ⟨hn, fun p r hp => ?_⟩
  have hlt : p < (flat els).length := by
    rcases Nat.lt_or_ge p (flat els).length with h | h
    · exact h
    · rw [List.getElem?_eq_none h] at hp; cases hp
  rw [flat_len hn] at hlt
  have hsz : 0 < sz := by
    rcases Nat.eq_zero_or_pos sz with h0 | h0
    · subst h0; simp at hlt
    · exact h0
  have hi : p / sz < els.length := (Nat.div_lt_iff_lt_mul hsz).2 hlt
  have hj : p % sz < sz := Nat.mod_lt _ hsz
  have hpe : p / sz * sz + p % sz = p := by rw [Nat.mul_comm]; exact Nat.div_add_mod p sz
  have hg := flat_get hn (p / sz) (p % sz) els[p / sz] hj (List.getElem?_eq_getElem hi)
  rw [hpe] at hg
  have := (h (p / sz) els[p / sz] (List.getElem?_eq_getElem hi)).2 (p % sz) r (hg ▸ hp)
  rwa [hpe] at this
theorem of_flat {sz : Nat} {els : List P0} {q : Nat → R → Prop} (hn : AllN sz els) (h : ∀ (p : Nat) (r : R), (flat els)[p]? = some r → q p r) : ∀ (i : Nat) (e : P0), els[i]? = some e → e.n = sz ∧ ∀ (j : Nat) (r : R), e.rs[j]? = some r → q (i * sz + j) r := fun i e hi => by
  refine ⟨hn i e hi, fun j r hj => h _ r ?_⟩
  have hjs : j < sz := by
    rw [← hn i e hi]
    rcases Nat.lt_or_ge j e.rs.length with h | h
    · exact h
    · rw [List.getElem?_eq_none h] at hj; cases hj
  rw [flat_get hn i j e hjs hi, hj]

/-- An element type: its cells, its bytes, its zero value. -/
def elOf (P : Program) (T : TypeId) : Option (TypeId × Nat × Nat) :=
  match P.underlying T with
  | some (.slice E) => match P.info? E with
    | some i => match i.zero with
      | some z => if z.cells.size = i.size ∧ 0 < i.size then some (E, i.size, i.bytes) else none
      | none => none
    | none => none
  | _ => none
theorem elOf_spec {P : Program} {T E sz by_ : Nat} (h : elOf P T = some (E, sz, by_)) : ∃ z, El P T E sz by_ z := by
  unfold elOf at h
  cases hu : P.underlying T with
  | none => simp [hu] at h
  | some d =>
    cases d <;> simp only [hu] at h <;> try (cases h; done)
    rename_i E'
    cases hi : P.info? E' with
    | none => simp [hi] at h
    | some i =>
      cases hz : i.zero with
      | none => simp [hi, hz] at h
      | some z =>
        simp only [hi, hz, Option.ite_none_right_eq_some, Option.some.injEq, Prod.mk.injEq] at h
        obtain ⟨⟨h1, h2⟩, rfl, rfl, rfl⟩ := h
        exact ⟨z, hu, ⟨i, hi, hz, rfl, rfl⟩, h1, h2⟩

theorem sized_refl (w : World) : Sized w w := fun b arr E h => ⟨arr, h, rfl⟩

/-- append on a row of the call's own. -/
theorem app_run {P : Program} {T ty E sz by_ : Nat} {z : Value} (hE : El P T E sz by_ z) {w : World} {g n cap : Nat} {cur : Array Value} (hg : w.heap[g]? = some (.cells cur E (0, 0))) (hcs : cur.size = cap * sz) (hn : n ≤ cap) (hcm : cap ≤ maxLen)
    {bo : Option Addr} {m d : Nat} {news : List Value} (hl : news.length = m * sz) (hnews : 0 < m → ∃ b o, bo = some ⟨b, o, none⟩ ∧ ∀ (j : Nat) (u : Value), news[j]? = some u → w.cell? ⟨b, o + j, none⟩ = some u) (h1 : ∀ u ∈ news, u.oneCell' = true)
    (h63 : n + m ≤ maxLen) (hbytes : (n + m) * by_ ≤ 140737488355328) :
    ∃ (w' : World) (g' c' : Nat) (cur' : Array Value), (Builtin.append_ #[T, T] ty #[.slice (some ⟨g, 0, none⟩) n cap, .slice bo m d]).run P w = .ok (.slice (some ⟨g', 0, none⟩) (n + m) c') w' ∧ w'.heap[g']? = some (.cells cur' E (0, 0)) ∧ cur'.size = c' * sz ∧ n + m ≤ c' ∧ c' ≤ maxLen ∧
      cur'.toList.take ((n + m) * sz) = cur.toList.take (n * sz) ++ news ∧ Sized w w' ∧ w.grownBy w' (some g) ∧ (g' = g ∨ g' = w.heap.size) := by
  obtain ⟨i, hi, hz, hsz, hby⟩ := hE.info
  subst hsz hby
  have hlen : (cur.toList.take (n * i.size)).length = n * i.size := by
    rw [List.length_take, Array.length_toList, hcs]
    have := Nat.mul_le_mul_right i.size hn
    omega
  rcases Nat.eq_zero_or_pos m with h0 | h0
  · subst h0
    have hnil : news = [] := List.eq_nil_of_length_eq_zero (by simpa using hl)
    subst hnil
    refine ⟨w, g, cap, cur, ?_, hg, hcs, by omega, hcm, by simp, sized_refl w, gb_refl w _, .inl rfl⟩
    have hroom : n + 0 ≤ cap := by omega
    cases bo with
    | none => simp [Builtin.append_, run_underlying hE.sl, sizeOf, typeInfo, hi, Builtin.lenOf, Builtin.firstCells, storeCells, hn]
    | some a => simp [Builtin.append_, run_underlying hE.sl, sizeOf, typeInfo, hi, Builtin.lenOf, Builtin.firstCells, storeCells, hn, loadCells, loadCellsFrom]
  · obtain ⟨b, o, rfl, hc⟩ := hnews h0
    have hnews' : ∀ j u, news[j]? = some u → w.cell? ((⟨b, o, none⟩ : Addr).add j) = some u := fun j u hj => by rw [Addr.add_lit]; exact hc j u hj
    by_cases hroom : n + m ≤ cap
    · have hfit : n * i.size + news.length ≤ cur.size := by rw [hl, hcs, ← Nat.add_mul]; exact Nat.mul_le_mul_right _ hroom
      have hr := run_append_room (P := P) w T ty E i hE.sl hi g n cap cur hg ⟨b, o, none⟩ m d news hl hnews' h1 hroom hfit
      have hb' := setRow_heap w g cur (cur.toList.take (n * i.size) ++ news ++ cur.toList.drop (n * i.size + news.length)).toArray E _ hg
      have hlen2 : (cur.toList.take (n * i.size) ++ news ++ cur.toList.drop (n * i.size + news.length)).toArray.size = cur.size := by
        simp only [List.size_toArray, List.length_append, hlen, List.length_drop, Array.length_toList]
        omega
      refine ⟨_, g, cap, _, hr, hb', by rw [hlen2, hcs], hroom, hcm, ?_, ?_, ⟨rfl, rfl, rfl, by simp, fun k _ hk => setRow_other w g k _ (fun e => hk (by rw [e]))⟩, .inl rfl⟩
      · have : (n + m) * i.size = (cur.toList.take (n * i.size) ++ news).length := by rw [List.length_append, hlen, hl, Nat.add_mul]
        rw [this]
        exact List.take_left
      · intro k arr T' hk
        by_cases hkg : k = g
        · subst hkg
          rw [hg] at hk
          injection hk with hk
          injection hk with hk1 hk2
          subst hk1 hk2
          exact ⟨_, hb', hlen2⟩
        · exact ⟨arr, by rw [setRow_other w g k _ hkg]; exact hk, rfl⟩
    · have holds : ∀ j u, (cur.toList.take (n * i.size))[j]? = some u → w.cell? ((⟨g, 0, none⟩ : Addr).add j) = some u := fun j u hj => by
        rw [Addr.add_lit, Nat.zero_add, cell_of_arr hg]
        rw [List.getElem?_take] at hj
        split at hj
        · simpa using hj
        · cases hj
      have h63' : ((n + m : Nat) : Int) ≤ 9223372036854775807 := by simp only [maxLen] at h63; omega
      have hr := run_append_grow (P := P) w T ty E i z hE.sl hi hz ⟨g, 0, none⟩ n cap (cur.toList.take (n * i.size)) hlen holds ⟨b, o, none⟩ m d news hl hnews' (by omega) h63' (growslice_fits (by omega) hbytes)
      have hge := grownCap_ge w (n + m) cap E
      have hcm' : grownCap w (n + m) cap E ≤ maxLen := grownCap_le_maxLen w (n + m) cap E h63
      refine ⟨_, w.heap.size, _, _, hr, heap_alloc_new w.drew _, ?_, hge, hcm', ?_, ?_, ⟨rfl, rfl, rfl, by simp, fun k hk _ => Below.heap_alloc w.drew _ k hk⟩, .inr rfl⟩
      · simp only [Array.size_append, List.size_toArray, size_zeroCells, hE.cells, hlen, hl, ← Nat.add_mul]
        congr 1
        omega
      · have : (n + m) * i.size = (cur.toList.take (n * i.size) ++ news).length := by rw [List.length_append, hlen, hl, Nat.add_mul]
        rw [this]
        simp only [Array.toList_append, List.append_assoc]
        rw [← List.append_assoc]
        exact List.take_left
      · intro k arr T' hk
        exact ⟨arr, by rw [Below.heap_alloc w.drew _ k (lt_of_heap hk)]; exact hk, rfl⟩

/-! ### what can be appended -/
/-- A slot reads as a slice with these elements ('new': their memory is younger than the call). -/
def SlD (H : Nat → Option Ob) (d : D) (sz : Nat) (new : Bool) (els : List P0) : Prop :=
  ∀ (ι : Nat → Nat) (base : Nat) (w : World) (own : Nat → Prop) (v : Value), (∀ k ob, H k = some ob → own (ι k) ∧ ob.p ι base ⟨w, own⟩ (ι k)) → d.p ι base ⟨w, own⟩ v →
    ∃ (bo : Option Addr) (c : Nat) (news : List Value), v = .slice bo els.length c ∧ news.length = els.length * sz ∧ (0 < els.length → ∃ b o, bo = some ⟨b, o, none⟩ ∧ ∀ (j : Nat) (u : Value), news[j]? = some u → w.cell? ⟨b, o + j, none⟩ = some u) ∧ (∀ u ∈ news, u.oneCell' = true) ∧
      AllN sz els ∧ ∀ (p : Nat) (r : R), (flat els)[p]? = some r → ∃ u, news[p]? = some u ∧ r.p (Cx.young ⟨w, own⟩ base new) u
theorem news_of {c : Cx} {w : World} {b o sz : Nat} {els : List P0} (hn : AllN sz els) (h : ∀ (p : Nat) (r : R), (flat els)[p]? = some r → ∃ u, w.cell? ⟨b, o + p, none⟩ = some u ∧ r.p c u) :
    ∃ news : List Value, news.length = els.length * sz ∧ (∀ (j : Nat) (u : Value), news[j]? = some u → w.cell? ⟨b, o + j, none⟩ = some u) ∧ (∀ u ∈ news, u.oneCell' = true) ∧ ∀ (p : Nat) (r : R), (flat els)[p]? = some r → ∃ u, news[p]? = some u ∧ r.p c u := by
  obtain ⟨vs, hl, hv⟩ := pick_vals (p := fun (r : R) u => r.p c u) (g := fun p => w.cell? ⟨b, o + p, none⟩) (flat els) h
  have get : ∀ (j : Nat) (u : Value), vs[j]? = some u → ∃ r, (flat els)[j]? = some r ∧ w.cell? ⟨b, o + j, none⟩ = some u ∧ r.p c u := fun j u hj => by
    have hjl : j < vs.length := by
      rcases Nat.lt_or_ge j vs.length with h | h
      · exact h
      · rw [List.getElem?_eq_none h] at hj; cases hj
    obtain ⟨u', e1, e2, e3⟩ := hv j _ (List.getElem?_eq_getElem (by omega))
    rw [e1] at hj; injection hj with hj; subst hj
    exact ⟨_, List.getElem?_eq_getElem (by omega), e2, e3⟩
  refine ⟨vs, by rw [hl, flat_len hn], fun j u hj => (get j u hj).choose_spec.2.1, fun u hu => ?_, fun p r hp => let ⟨u, e1, _, e3⟩ := hv p r hp; ⟨u, e1, e3⟩⟩
  obtain ⟨j, hj⟩ := List.getElem?_of_mem hu
  obtain ⟨r, _, _, h3⟩ := get j u hj
  exact r.one h3
theorem slD_row {H : Nat → Option Ob} {m nil : Bool} {sz : Nat} {els : List P0} : SlD H (.one (.r m (row nil sz els))) sz m els := by
  intro ι base w own v hH hv
  obtain ⟨ao, cap, h1, h2, h3, h4, h5⟩ := row_p.1 hv
  by_cases hn : 0 < els.length
  · obtain ⟨b, o, e1, e2, e3, e4⟩ := h5 hn
    obtain ⟨f1, f2⟩ := flat_of (q := fun p r => ∃ u, w.cell? ⟨b, o + p, none⟩ = some u ∧ r.p (Cx.young ⟨w, own⟩ base m) u) (fun i e hi => ⟨(e4 i e hi).1, fun j r hj => by
      obtain ⟨u, hu, hr⟩ := (e4 i e hi).2 j r hj
      refine ⟨u, ?_, hr⟩
      rw [Cx.young_w] at hu
      rwa [← Nat.add_assoc]⟩)
    obtain ⟨news, g1, g2, g3, g4⟩ := news_of f1 f2
    exact ⟨ao, cap, news, h1, g1, fun _ => ⟨b, o, e1, g2⟩, g3, f1, g4⟩
  · have : els = [] := List.eq_nil_of_length_eq_zero (by omega)
    subst this
    exact ⟨ao, cap, [], h1, by simp, fun h => by simp at h, fun u hu => by simp at hu, fun i e hi => by simp at hi, fun p r hp => by simp [flat] at hp⟩
theorem slD_own {H : Nat → Option Ob} {k n sz : Nat} {E : TypeId} {new : Bool} {els : List P0} (hk : H k = some (.sl E sz new els)) (hn : n = els.length) : SlD H (.one (.own k 0 n sz)) sz new els := by
  intro ι base w own v hH hv
  obtain ⟨cap, arr, E', h1, h2, h3, h4, h5⟩ := hv
  obtain ⟨ho, arr', e1, e2, e3⟩ := hH k _ hk
  subst hn
  obtain ⟨f1, f2⟩ := flat_of (q := fun p r => ∃ u, w.cell? ⟨ι k, 0 + p, none⟩ = some u ∧ r.p (Cx.young ⟨w, own⟩ base new) u) (fun i e hi => ⟨(e3 i e hi).1, fun j r hj => by
    obtain ⟨u, hu, hr⟩ := (e3 i e hi).2 j r hj
    exact ⟨u, by rw [Nat.zero_add, cell_of_arr e1]; exact hu, hr⟩⟩)
  obtain ⟨news, g1, g2, g3, g4⟩ := news_of f1 f2
  refine ⟨some ⟨ι k, 0 * sz, none⟩, cap, news, h1, g1, fun _ => ⟨ι k, 0, by rw [Nat.zero_mul], g2⟩, g3, f1, g4⟩

/-- The variables but for one. -/
def eraseH (k : Nat) : List (Nat × Ob) → List (Nat × Ob)
  | [] => []
  | (u, ob) :: h => bif Nat.beq u k then eraseH k h else (u, ob) :: eraseH k h
theorem eraseH_get (k : Nat) : ∀ (h : List (Nat × Ob)) (u : Nat), lookH (eraseH k h) u = if u = k then none else lookH h u
  | [], u => by simp [eraseH, lookH]
  | (v, ob) :: h, u => by
    simp only [eraseH]
    cases hb : Nat.beq v k with
    | true =>
      simp at hb
      subst hb
      simp only [cond_true, eraseH_get v h u, lookH, upd]
      by_cases h1 : u = v
      · rw [if_pos h1, if_pos h1]
      · rw [if_neg h1, if_neg h1, if_neg h1]
    | false =>
      have hne : v ≠ k := fun e => by subst e; simp at hb
      simp only [cond_false, lookH, upd, eraseH_get k h u]
      by_cases h1 : u = v
      · subst h1; rw [if_pos rfl, if_neg hne, if_pos rfl]
      · rw [if_neg h1, if_neg h1]

theorem Cx.Ext.trans {a b c : Cx} (h : a.Ext b) (k : b.Ext c) : a.Ext c :=
  ⟨Nat.le_trans h.size k.size, fun x hx ho => h.own x hx (k.own x (Nat.lt_of_lt_of_le hx h.size) ho), fun x hx ho => (k.block x (Nat.lt_of_lt_of_le hx h.size) (fun hb => ho (h.own x hx hb))).trans (h.block x hx ho)⟩
/-- A step into a new world in which the name t stands for a block (a new one, or one that was the call's own and has no name left). -/
theorem Sim'.turn {w0 : World} {n : Nat} {l : List (Nat × D)} {h h2 : List (Nat × Ob)} {a : Act} {w w' : World} {ι : Nat → Nat} {own : Nat → Prop} {t g : Nat} {ob : Ob} {d : D} {v : Value} (hs : Sim' w0 (mkS n l h) a w ι own) (hm : noM t l h2 = true) (hsub : ∀ u ob, lookH h2 u = some ob → lookH h u = some ob) (ht : t < n)
    (hx : Cx.Ext ⟨w, own⟩ ⟨w', fun b => own b ∨ b = g⟩) (hz : Sized w w') (hb : Below w0.heap.size w w') (hg : w0.heap.size ≤ g) (hg' : g < w'.heap.size) (hoth : ∀ u ob, lookH h2 u = some ob → ι u ≠ g ∧ w'.heap[ι u]? = w.heap[ι u]?)
    (ho : ob.p (upd ι t g) w0.heap.size ⟨w', fun b => own b ∨ b = g⟩ g) (hd : d.p (upd ι t g) w0.heap.size ⟨w', fun b => own b ∨ b = g⟩ v) :
    Sim' w0 (mkS n ((t, d) :: l) ((t, ob) :: h2)) (a.put (some t) v) w' (upd ι t g) (fun b => own b ∨ b = g) := by
  simp only [noM, Bool.and_eq_true] at hm
  refine ⟨hs.below.trans hb, ?_, by rw [put_size]; exact hs.size, ?_, ?_, ?_, by rw [put_defers]; exact hs.defers⟩
  · intro b hb'
    rcases hb' with h1 | rfl
    · exact ⟨(hs.own_ b h1).1, Nat.lt_of_lt_of_le (hs.own_ b h1).2 hx.size⟩
    · exact ⟨hg, hg'⟩
  · intro u
    have hu : t < a.tmps.size := by rw [hs.size]; exact ht
    simp only [mkS, look, Act.put]
    by_cases htu : u = t
    · subst htu
      rw [upd_same]
      simpa [hu] using hd
    · rw [upd_ne _ _ htu]
      have h1 := D.mono (ι := ι) (base := w0.heap.size) hx hz (hs.env u)
      have h2 := D.p_upd (t := t) (b := g) (look_men hm.1 u htu) h1
      simpa [Array.getElem?_setIfInBounds_ne (Ne.symm htu)] using h2
  · intro k ob' hk
    simp only [mkS, lookH] at hk
    by_cases hkt : k = t
    · subst hkt
      rw [upd_same] at hk
      injection hk with hk
      subst hk
      rw [upd_same]
      exact ⟨.inr rfl, ho⟩
    · rw [upd_ne _ _ hkt] at hk
      rw [upd_ne _ _ hkt]
      obtain ⟨h1, h2⟩ := hs.heap k ob' (hsub k ob' hk)
      exact ⟨.inl h1, Ob.p_upd (lookH_men hm.2 k ob' hkt hk) (Ob.mono hx hz (hoth k ob' hk).2 h2)⟩
  · intro k k' ob1 ob2 hk hk' he
    by_cases h1 : k = t
    · by_cases h2 : k' = t
      · rw [h1, h2]
      · exfalso
        simp only [mkS, lookH] at hk'
        rw [upd_ne _ _ h2] at hk'
        subst h1
        rw [upd_same, upd_ne _ _ h2] at he
        exact (hoth k' ob2 hk').1 he.symm
    · by_cases h2 : k' = t
      · exfalso
        simp only [mkS, lookH] at hk
        rw [upd_ne _ _ h1] at hk
        subst h2
        rw [upd_same, upd_ne _ _ h1] at he
        exact (hoth k ob1 hk).1 he
      · simp only [mkS, lookH] at hk hk'
        rw [upd_ne _ _ h1] at hk
        rw [upd_ne _ _ h2] at hk'
        rw [upd_ne _ _ h1, upd_ne _ _ h2] at he
        exact hs.inj k k' ob1 ob2 (hsub _ _ hk) (hsub _ _ hk') he

theorem eop_append {P : Program} {o : Oper} {n t k c sz by_ : Nat} {l : List (Nat × D)} {h : List (Nat × Ob)} {E : TypeId} {new new2 : Bool} {els els2 : List P0} {d : D} (T : TypeId) (x y : Operand) (ho : o.op = .call { callee := .builtin .append, args := #[x, y], argTypes := #[T, T] }) (hd : o.dst = some t) (hT : elOf P T = some (E, sz, by_))
    (hx : evO l x = some (.one (.own k 0 c sz))) (hk : lookHO h k = some (.sl E sz new els)) (hc : c = els.length) (hy : evO l y = some d) (hs : SlD (lookH h) d sz new2 els2) (hm : noM t l (eraseH k h) = true) (ht : Nat.blt t n = true) (h63 : els.length + els2.length ≤ maxLen) (hb : (els.length + els2.length) * by_ ≤ 140737488355328) :
    EOp P o (mkS n l h) (mkS n ((t, .one (.own t 0 (els.length + els2.length) sz)) :: l) ((t, .sl E sz (new && new2) (els ++ els2)) :: eraseH k h)) := by
  intro w0 a w ⟨ι, own, hs'⟩ K Q hK
  subst hc
  obtain ⟨z, hE⟩ := elOf_spec hT
  have hx1 := hs'.ev x
  rw [evO_spec hx] at hx1
  obtain ⟨cap, arr, E', e1, e2, e3, e4, e5⟩ := hx1
  have hkk := hs'.heap k _ (lookHO_spec hk)
  obtain ⟨hown, arr', g1, g2, g3⟩ := hkk
  have hae : arr' = arr ∧ E = E' := by
    have e4' : w.heap[ι k]? = some (.cells arr E' (0, 0)) := e4
    have g1' : w.heap[ι k]? = some (.cells arr' E (0, 0)) := g1
    rw [e4'] at g1'
    injection g1' with g1'
    injection g1' with q1 q2
    exact ⟨q1.symm, q2.symm⟩
  obtain ⟨rfl, rfl⟩ := hae
  have hy1 := hs'.ev y
  rw [evO_spec hy] at hy1
  obtain ⟨bo, c2, news, f1, f2, f3, f4, f5, f6⟩ := hs ι w0.heap.size w own _ hs'.heap hy1
  obtain ⟨w', g', c', cur', r1, r2, r3, r4, r5, r6, r7, r8, r9⟩ := app_run (P := P) (ty := o.type) hE (w := w) (g := ι k) (n := els.length) (cap := cap) (cur := arr') g1 (by simpa using e5) e2 e3 (bo := bo) (m := els2.length) (d := c2) f2 f3 f4 h63 hb
  have hrun : (execOp a.eval o).run P w = .ok (.value (.slice (some ⟨g', 0, none⟩) (els.length + els2.length) c')) w' := by
    unfold execOp
    rw [ho]
    have e1' : a.eval x = .slice (some ⟨ι k, 0, none⟩) els.length cap := by have : a.eval x = .slice (some ⟨ι k, 0 * sz, none⟩) els.length cap := e1; simpa using this
    simp only [resolve, invoke, builtin, Sem.run_bind, Sem.run_pure, Result.andThen_ok, List.map_toArray, List.map_cons, List.map_nil, e1', f1, r1]
  unfold Oper.wp
  rw [hrun, Oper.upon_value, hd]
  have hbase := (hs'.own_ _ hown).1
  have hx' : Cx.Ext ⟨w, own⟩ ⟨w', fun b => own b ∨ b = g'⟩ := ⟨r8.size, fun b hb h => by
    rcases h with h | h
    · exact h
    · rcases r9 with r9 | r9
      · rw [h, r9]; exact hown
      · have : b < w.heap.size := hb
        omega, fun b hb hno => r8.block b hb (fun e => by injection e with e; subst e; exact hno hown)⟩
  have hg1 : w0.heap.size ≤ g' := by rcases r9 with r9 | r9 <;> rw [r9]; exact hbase; exact hs'.below.size
  have hsub : ∀ u ob, lookH (eraseH k h) u = some ob → lookH h u = some ob ∧ u ≠ k := fun u ob hu => by
    rw [eraseH_get] at hu
    split at hu
    · cases hu
    · rename_i hne; exact ⟨hu, hne⟩
  refine hK _ _ ⟨_, _, hs'.turn (g := g') hm (fun u ob hu => (hsub u ob hu).1) (by simpa using ht) hx' r7 ⟨r8.os, r8.tape, r8.output, r8.size, fun b hb => r8.block b (Nat.lt_of_lt_of_le hb hs'.below.size) (fun e => by injection e with e; subst e; omega)⟩ hg1 (lt_of_heap r2) (fun u ob hu => ?_) ?_ ?_⟩
  · obtain ⟨q1, q2⟩ := hsub u ob hu
    have p1 := (hs'.heap u ob q1).1
    have hne : ι u ≠ ι k := fun e => q2 (hs'.inj u k ob _ q1 (lookHO_spec hk) e)
    refine ⟨?_, r8.block _ (hs'.own_ _ p1).2 (fun e => by injection e with e; exact hne e)⟩
    rcases r9 with r9 | r9
    · rw [r9]; exact hne
    · have := (hs'.own_ _ p1).2; omega
  · have hf1 := flat_of (q := fun p r => ∃ u, arr'[p]? = some u ∧ r.p (Cx.young ⟨w, own⟩ w0.heap.size new) u) g3
    have hlen1 : (arr'.toList.take (els.length * sz)).length = els.length * sz := by rw [List.length_take, Array.length_toList]; exact Nat.min_eq_left g2
    refine ⟨cur', r2, ?_, of_flat (q := fun p r => ∃ u, cur'[p]? = some u ∧ r.p (Cx.young ⟨w', fun b => own b ∨ b = g'⟩ w0.heap.size (new && new2)) u) (hf1.1.app f5) (fun p r hp => ?_)⟩
    · rw [List.length_append, r3]; exact Nat.mul_le_mul_right _ r4
    · rw [flat_app] at hp
      have hplt : p < (flat els ++ flat els2).length := by
        rcases Nat.lt_or_ge p (flat els ++ flat els2).length with h | h
        · exact h
        · rw [List.getElem?_eq_none h] at hp; cases hp
      have hpl : p < (els.length + els2.length) * sz := by
        rw [List.length_append, flat_len hf1.1, flat_len f5, ← Nat.add_mul] at hplt; exact hplt
      have hcur : cur'[p]? = (arr'.toList.take (els.length * sz) ++ news)[p]? := by
        rw [← r6, List.getElem?_take, if_pos hpl, Array.getElem?_toList]
      rw [hcur]
      by_cases hp1 : p < els.length * sz
      · rw [List.getElem?_append_left (by rw [flat_len hf1.1]; exact hp1)] at hp
        rw [List.getElem?_append_left (by omega), List.getElem?_take, if_pos hp1, Array.getElem?_toList]
        obtain ⟨u, hu, hr⟩ := hf1.2 p r hp
        refine ⟨u, hu, r.mono ?_ hr⟩
        cases new with
        | false => exact hx'
        | true => cases new2 with
          | true => exact hx'.young _ true
          | false => exact (Cx.young_out _ _ true).trans hx'
      · rw [List.getElem?_append_right (by rw [flat_len hf1.1]; omega), flat_len hf1.1] at hp
        rw [List.getElem?_append_right (by omega), hlen1]
        obtain ⟨u, hu, hr⟩ := f6 _ r hp
        refine ⟨u, hu, r.mono ?_ hr⟩
        cases new2 with
        | false => cases new <;> exact hx'
        | true => cases new with
          | true => exact hx'.young _ true
          | false => exact (Cx.young_out _ _ true).trans hx'
  · refine ⟨c', cur', E, by rw [upd_same, Nat.zero_mul], r4, r5, by rw [upd_same]; exact r2, by rw [Nat.zero_add]; exact r3⟩
end Go.Proofs.Ytknbeakmnkjkhaa.Abs
