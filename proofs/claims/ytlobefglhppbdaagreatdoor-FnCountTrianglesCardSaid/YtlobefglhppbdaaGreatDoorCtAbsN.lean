/- Reading a frame and memory as plain data: slots, variables and rows of the call's own; a call as a function on data. No statement of the seat is proved here. -/
import Derived.WalkKit
import Derived.WalkSpells
import Derived.Lib.Hide
import Derived.Handy
import Derived.Orders
import Derived.Deep.Quiet
import Derived.Test.YtlobefglhppbdaaGreatDoorCtLib
import Derived.Test.YtlobefglhppbdaaGreatDoorCtOwn
set_option linter.unusedSimpArgs false
set_option linter.unusedVariables false
namespace Go.Proofs.YtlobefglhppbdaaGreatDoor.Abs
open Go.RowKit
structure Cx where
  w : World
  own : Nat → Prop
structure Cx.Ext (c c' : Cx) : Prop where
  size : c.w.heap.size ≤ c'.w.heap.size
  own : ∀ b, b < c.w.heap.size → c'.own b → c.own b
  block : ∀ b, b < c.w.heap.size → ¬ c.own b → c'.w.heap[b]? = c.w.heap[b]? ∨ ∃ o : Obj, c.w.heap[b]? = some o ∧ ∀ arr E F, o ≠ .cells arr E F
theorem Cx.Ext.refl (c : Cx) : c.Ext c := ⟨Nat.le_refl _, fun _ _ h => h, fun _ _ _ => .inl rfl⟩
theorem Cx.Ext.sub {c c' : Cx} (hw : c'.w = c.w) (ho : ∀ b, c'.own b → c.own b) : c.Ext c' := ⟨by rw [hw]; exact Nat.le_refl _, fun b _ h => ho b h, fun b _ _ => .inl (by rw [hw])⟩
mutual
inductive R where
  | val (u : Value)
  | row (nil : Bool) (sz : Nat) (els : List P0)
  | ref (x : P0)
inductive P0 where
  | one (r : R)
  | agg (rs : List R)
end
open R (val row ref)
def P0.rs : P0 → List R
  | .one r => [r]
  | .agg rs => rs
def P0.n (x : P0) : Nat := x.rs.length
abbrev int (n : Int) : R := .val (.int .i64 n)
abbrev bool (b : Bool) : R := .val (.bool b)
mutual
def R.p' (c : Cx) (v : Value) : R → Prop
  | .val u => v = u ∧ u.oneCell' = true
  | .row nil sz els => ∃ ao cap, v = .slice ao els.length cap ∧ (els.length ≤ cap ∧ cap ≤ maxLen) ∧ (nil = true ↔ ao = none) ∧ (ao = none → cap = 0) ∧ (0 < els.length → ∃ b o, ao = some ⟨b, o, none⟩ ∧ b < c.w.heap.size ∧ ¬ c.own b ∧ Rows c b sz o els)
  | .ref x => ∃ b o, v = .pointer (some ⟨b, o, none⟩) ∧ b < c.w.heap.size ∧ ¬ c.own b ∧ P0.at c b o x
def P0.at (c : Cx) (b o : Nat) : P0 → Prop
  | .one r => ∃ u, c.w.cell? ⟨b, o, none⟩ = some u ∧ R.p' c u r
  | .agg rs => Rs c b o rs
def Rs (c : Cx) (b o : Nat) : List R → Prop
  | [] => True
  | r :: rs => (∃ u, c.w.cell? ⟨b, o, none⟩ = some u ∧ R.p' c u r) ∧ Rs c b (o + 1) rs
def Rows (c : Cx) (b sz o : Nat) : List P0 → Prop
  | [] => True
  | e :: es => e.rs.length = sz ∧ P0.at c b o e ∧ Rows c b sz (o + sz) es
end
def R.p (r : R) (c : Cx) (v : Value) : Prop := R.p' c v r
theorem not_cells_none {w : World} {b o : Nat} {x : Obj} (h : w.heap[b]? = some x) (hn : ∀ arr E F, x ≠ .cells arr E F) : w.cell? ⟨b, o, none⟩ = none := by
  simp only [World.cell?, h]
  cases x <;> first|rfl|exact absurd rfl (hn _ _ _)
theorem cell_ext {c c' : Cx} (h : c.Ext c') {b o : Nat} {u : Value} (hb : b < c.w.heap.size) (ho : ¬ c.own b) (hu : c.w.cell? ⟨b, o, none⟩ = some u) : c'.w.cell? ⟨b, o, none⟩ = some u := by
  rcases h.block b hb ho with h1 | ⟨x, h1, h2⟩
  · rw [World.cell?_of_block (a := ⟨b, o, none⟩) h1]; exact hu
  · rw [not_cells_none h1 h2] at hu; cases hu
mutual
theorem R.mono' {c c' : Cx} (h : c.Ext c') : ∀ (r : R) (v : Value), R.p' c v r → R.p' c' v r
  | .val u, v, hp => by simpa only [R.p'] using hp
  | .row nil sz els, v, hp => by
    simp only [R.p'] at hp ⊢
    obtain ⟨ao, cap, h1, h2, h3, h4, h5⟩ := hp
    refine ⟨ao, cap, h1, h2, h3, h4, fun hn => ?_⟩
    obtain ⟨b, o, e1, e2, e3, e5⟩ := h5 hn
    exact ⟨b, o, e1, Nat.lt_of_lt_of_le e2 h.size, fun hw => e3 (h.own b e2 hw), Rows.mono' h b sz e2 e3 els o e5⟩
  | .ref x, v, hp => by
    simp only [R.p'] at hp ⊢
    obtain ⟨b, o, h1, h2, h3, h4⟩ := hp
    exact ⟨b, o, h1, Nat.lt_of_lt_of_le h2 h.size, fun hw => h3 (h.own b h2 hw), P0.at_mono' h b h2 h3 x o h4⟩
theorem P0.at_mono' {c c' : Cx} (h : c.Ext c') (b : Nat) (hb : b < c.w.heap.size) (ho : ¬ c.own b) : ∀ (x : P0) (o : Nat), P0.at c b o x → P0.at c' b o x
  | .one r, o, hp => by
    simp only [P0.at] at hp ⊢
    obtain ⟨u, h1, h2⟩ := hp
    exact ⟨u, cell_ext h hb ho h1, R.mono' h r u h2⟩
  | .agg rs, o, hp => by
    simp only [P0.at] at hp ⊢
    exact Rs.mono' h b hb ho rs o hp
theorem Rs.mono' {c c' : Cx} (h : c.Ext c') (b : Nat) (hb : b < c.w.heap.size) (ho : ¬ c.own b) : ∀ (rs : List R) (o : Nat), Rs c b o rs → Rs c' b o rs
  | [], o, hp => by simp only [Rs]
  | r :: rs, o, hp => by
    simp only [Rs] at hp ⊢
    obtain ⟨⟨u, h1, h2⟩, h3⟩ := hp
    exact ⟨⟨u, cell_ext h hb ho h1, R.mono' h r u h2⟩, Rs.mono' h b hb ho rs (o + 1) h3⟩
theorem Rows.mono' {c c' : Cx} (h : c.Ext c') (b sz : Nat) (hb : b < c.w.heap.size) (ho : ¬ c.own b) : ∀ (es : List P0) (o : Nat), Rows c b sz o es → Rows c' b sz o es
  | [], o, hp => by simp only [Rows]
  | e :: es, o, hp => by
    simp only [Rows] at hp ⊢
    exact ⟨hp.1, P0.at_mono' h b hb ho e o hp.2.1, Rows.mono' h b sz hb ho es (o + sz) hp.2.2⟩
end
theorem R.mono (r : R) {c c' : Cx} {v : Value} (h : c.Ext c') (hp : r.p c v) : r.p c' v := R.mono' h r v hp
theorem R.one (r : R) {c : Cx} {v : Value} (hp : r.p c v) : v.oneCell' = true := by
  unfold R.p at hp
  cases r <;> simp only [R.p'] at hp
  · exact hp.1 ▸ hp.2
  · obtain ⟨ao, cap, h1, _⟩ := hp; subst h1; rfl
  · obtain ⟨b, o, h1, _⟩ := hp; subst h1; rfl
def CellsAt (c : Cx) (b o : Nat) (rs : List R) : Prop := ∀ (j : Nat) (r : R), rs[j]? = some r → ∃ u, c.w.cell? ⟨b, o + j, none⟩ = some u ∧ r.p c u
theorem Rs_iff {c : Cx} {b : Nat} : ∀ {rs : List R} {o : Nat}, Rs c b o rs ↔ CellsAt c b o rs
  | [], o => by
    simp only [Rs, true_iff]
    intro j r hj; simp at hj
  | r :: rs, o => by
    simp only [Rs]
    rw [Rs_iff]
    constructor
    · rintro ⟨h1, h2⟩ j x hj
      cases j with
      | zero => simp at hj; subst hj; exact h1
      | succ j => have := h2 j x (by simpa using hj); rwa [show o + 1 + j = o + (j + 1) by omega] at this
    · intro h
      refine ⟨h 0 r rfl, fun j x hj => ?_⟩
      have := h (j + 1) x (by simpa using hj)
      rwa [show o + (j + 1) = o + 1 + j by omega] at this
theorem P0.at_iff {c : Cx} {b o : Nat} : ∀ {x : P0}, P0.at c b o x ↔ CellsAt c b o x.rs
  | .one r => by
    simp only [P0.at, P0.rs]
    constructor
    · intro h j x hj
      cases j with
      | zero => simp at hj; subst hj; exact h
      | succ j => simp at hj
    · intro h; exact h 0 r rfl
  | .agg rs => by simp only [P0.at, P0.rs]; exact Rs_iff
theorem Rows_iff {c : Cx} {b sz : Nat} : ∀ {els : List P0} {o : Nat}, Rows c b sz o els ↔ ∀ (i : Nat) (e : P0), els[i]? = some e → e.n = sz ∧ CellsAt c b (o + i * sz) e.rs
  | [], o => by
    simp only [Rows, true_iff]
    intro i e hi; simp at hi
  | e :: es, o => by
    simp only [Rows]
    rw [Rows_iff, P0.at_iff]
    constructor
    · rintro ⟨h1, h2, h3⟩ i x hi
      cases i with
      | zero => simp at hi; subst hi; exact ⟨h1, by simpa using h2⟩
      | succ i => have := h3 i x (by simpa using hi); rwa [show o + sz + i * sz = o + (i + 1) * sz by rw [Nat.add_mul]; omega] at this
    · intro h
      refine ⟨(h 0 e rfl).1, by simpa using (h 0 e rfl).2, fun i x hi => ?_⟩
      have := h (i + 1) x (by simpa using hi)
      rwa [show o + (i + 1) * sz = o + sz + i * sz by rw [Nat.add_mul]; omega] at this
theorem row_p {c : Cx} {v : Value} {nil : Bool} {sz : Nat} {els : List P0} : (row nil sz els).p c v ↔ ∃ ao cap, v = .slice ao els.length cap ∧ (els.length ≤ cap ∧ cap ≤ maxLen) ∧ (nil = true ↔ ao = none) ∧ (ao = none → cap = 0) ∧ (0 < els.length → ∃ b o, ao = some ⟨b, o, none⟩ ∧ b < c.w.heap.size ∧ ¬ c.own b ∧ ∀ (i : Nat) (e : P0), els[i]? = some e → e.n = sz ∧ CellsAt c b (o + i * sz) e.rs) := by
  unfold R.p
  simp only [R.p', Rows_iff]
theorem ref_p {c : Cx} {v : Value} {x : P0} : (ref x).p c v ↔ ∃ b o, v = .pointer (some ⟨b, o, none⟩) ∧ b < c.w.heap.size ∧ ¬ c.own b ∧ CellsAt c b o x.rs := by
  unfold R.p
  simp only [R.p', P0.at_iff]
theorem val_p {c : Cx} {v u : Value} : (val u).p c v ↔ v = u ∧ u.oneCell' = true := by
  unfold R.p
  simp only [R.p']
inductive Cell where
  | r (new : Bool) (x : R)
  | own (k j n sz : Nat)
  | ptr (k i sz off : Nat)
  | any
  | clo (f : List Value → Value) (ps : List (Nat × Nat))
def ptrsV (ι : Nat → Nat × Nat) : List (Nat × Nat) → List Value
  | [] => []
  | p :: ps => .pointer (some ⟨(ι p.1).1, (ι p.1).2 + p.2, none⟩) :: ptrsV ι ps
theorem ptrsV_eq {ι ι' : Nat → Nat × Nat} : ∀ {ps : List (Nat × Nat)}, (∀ p ∈ ps, ι' p.1 = ι p.1) → ptrsV ι' ps = ptrsV ι ps
  | [], _ => rfl
  | p :: ps, h => by rw [ptrsV, ptrsV, h p (by simp), ptrsV_eq (fun q hq => h q (by simp [hq]))]
def Cx.young (c : Cx) (base : Nat) : Bool → Cx
  | true => ⟨c.w, fun b => c.own b ∨ b < base⟩
  | false => c
theorem Cx.young_w (c : Cx) (base : Nat) (n : Bool) : (c.young base n).w = c.w := by cases n <;> rfl
theorem Cx.Ext.young {c c' : Cx} (h : c.Ext c') (base : Nat) : ∀ n, (c.young base n).Ext (c'.young base n)
  | true => ⟨h.size, fun b hb ho => ho.imp (h.own b hb) id, fun b hb ho => h.block b hb (fun hw => ho (.inl hw))⟩
  | false => h
theorem Cx.young_out (c : Cx) (base : Nat) (n : Bool) : (c.young base n).Ext c := .sub (c.young_w base n).symm (fun b hb => by cases n <;> first|exact hb|exact .inl hb)
def Cell.p (ι : Nat → Nat × Nat) (base : Nat) (c : Cx) (v : Value) : Cell → Prop
  | .r n x => x.p (c.young base n) v
  | .own k j n sz => ∃ o cap arr E, v = .slice (some ⟨(ι k).1, o, none⟩) n cap ∧ (o = (ι k).2 + j * sz ∨ cap = 0) ∧ n ≤ cap ∧ cap ≤ maxLen ∧ c.w.heap[(ι k).1]? = some (.cells arr E (0, 0)) ∧ (ι k).2 + (j + cap) * sz ≤ arr.size
  | .ptr k i sz off => v = .pointer (some ⟨(ι k).1, (ι k).2 + (i * sz + off), none⟩)
  | .any => v.oneCell' = true
  | .clo f ps => v = f (ptrsV ι ps) ∧ v.oneCell' = true
theorem Cell.one {ι : Nat → Nat × Nat} {base : Nat} {c : Cx} {v : Value} : ∀ {x : Cell}, x.p ι base c v → v.oneCell' = true
  | .r n x, h => x.one h
  | .own .., ⟨_, _, _, _, h, _⟩ => by subst h; rfl
  | .ptr .., h => by cases h; rfl
  | .any, h => h
  | .clo .., h => h.2
inductive D where
  | one (x : Cell)
  | agg (xs : List Cell)
  | tup (n : Bool) (xs : List P0)
  | any
  | tups (xs : List (Bool × List Cell))
def P0.p (c : Cx) (v : Value) : P0 → Prop
  | .one r => r.p c v
  | .agg rs => ∃ vs : List Value, v = .agg vs.toArray ∧ vs.length = rs.length ∧ ∀ (j : Nat) (r : R), rs[j]? = some r → ∃ u, vs[j]? = some u ∧ r.p c u
theorem P0.mono {c c' : Cx} {v : Value} (h : c.Ext c') : ∀ {x : P0}, x.p c v → x.p c' v
  | .one r, hx => r.mono h hx
  | .agg rs, ⟨us, e1, e2, e3⟩ => ⟨us, e1, e2, fun i r hi => let ⟨z, hz, hr⟩ := e3 i r hi; ⟨z, hz, r.mono h hr⟩⟩
def Co.p (ι : Nat → Nat × Nat) (base : Nat) (c : Cx) (v : Value) : Bool × List Cell → Prop
  | (true, xs) => ∃ vs : List Value, v = .agg vs.toArray ∧ vs.length = xs.length ∧ ∀ (j : Nat) (x : Cell), xs[j]? = some x → ∃ u, vs[j]? = some u ∧ x.p ι base c u
  | (false, [x]) => x.p ι base c v
  | (false, _) => True
def D.p (ι : Nat → Nat × Nat) (base : Nat) (c : Cx) (v : Value) : D → Prop
  | .one x => x.p ι base c v
  | .agg xs => ∃ vs : List Value, v = .agg vs.toArray ∧ vs.length = xs.length ∧ ∀ (j : Nat) (x : Cell), xs[j]? = some x → ∃ u, vs[j]? = some u ∧ x.p ι base c u
  | .tup n xs => ∃ vs : List Value, v = .tuple vs.toArray ∧ vs.length = xs.length ∧ ∀ (j : Nat) (x : P0), xs[j]? = some x → ∃ u, vs[j]? = some u ∧ x.p (c.young base n) u
  | .any => True
  | .tups xs => ∃ vs : List Value, v = .tuple vs.toArray ∧ vs.length = xs.length ∧ ∀ (j : Nat) (x : Bool × List Cell), xs[j]? = some x → ∃ u, vs[j]? = some u ∧ Co.p ι base c u x
theorem Co.map {ι ι' : Nat → Nat × Nat} {base base' : Nat} {c c' : Cx} {v : Value} (g : Cell → Cell) : ∀ {x : Bool × List Cell}, (∀ y ∈ x.2, ∀ u, y.p ι base c u → (g y).p ι' base' c' u) → Co.p ι base c v x → Co.p ι' base' c' v (x.1, x.2.map g)
  | (true, xs), h, ⟨vs, h1, h2, h3⟩ => ⟨vs, h1, by simpa using h2, fun j x hj => by
      simp only [List.getElem?_map, Option.map_eq_some_iff] at hj
      obtain ⟨y, hy, rfl⟩ := hj
      obtain ⟨u, hu, hx⟩ := h3 j y hy
      exact ⟨u, hu, h y (List.mem_of_getElem? hy) u hx⟩⟩
  | (false, [x]), h, hx => h x (by simp) v hx
  | (false, []), _, _ => trivial
  | (false, _ :: _ :: _), _, _ => trivial
theorem D.tups_map {ι ι' : Nat → Nat × Nat} {base base' : Nat} {c c' : Cx} {v : Value} (g : Cell → Cell) {xs : List (Bool × List Cell)} (h : ∀ x ∈ xs, ∀ y ∈ x.2, ∀ u, y.p ι base c u → (g y).p ι' base' c' u) : D.p ι base c v (.tups xs) → D.p ι' base' c' v (.tups (xs.map fun x => (x.1, x.2.map g)))
  | ⟨vs, h1, h2, h3⟩ => ⟨vs, h1, by simpa using h2, fun j x hj => by
      simp only [List.getElem?_map, Option.map_eq_some_iff] at hj
      obtain ⟨y, hy, rfl⟩ := hj
      obtain ⟨u, hu, hx⟩ := h3 j y hy
      exact ⟨u, hu, Co.map g (h y (List.mem_of_getElem? hy)) hx⟩⟩
theorem Co.unmap {ι ι' : Nat → Nat × Nat} {base base' : Nat} {c c' : Cx} {v : Value} (g : Cell → Cell) : ∀ {x : Bool × List Cell}, (∀ y ∈ x.2, ∀ u, (g y).p ι base c u → y.p ι' base' c' u) → Co.p ι base c v (x.1, x.2.map g) → Co.p ι' base' c' v x
  | (true, xs), h, ⟨vs, h1, h2, h3⟩ => ⟨vs, h1, by simpa using h2, fun j y hj => by
      obtain ⟨u, hu, hx⟩ := h3 j (g y) (by simp [hj])
      exact ⟨u, hu, h y (List.mem_of_getElem? hj) u hx⟩⟩
  | (false, [x]), h, hx => h x (by simp) v hx
  | (false, []), _, _ => trivial
  | (false, _ :: _ :: _), _, _ => trivial
theorem D.tups_unmap {ι ι' : Nat → Nat × Nat} {base base' : Nat} {c c' : Cx} {v : Value} (g : Cell → Cell) {xs : List (Bool × List Cell)} (h : ∀ x ∈ xs, ∀ y ∈ x.2, ∀ u, (g y).p ι base c u → y.p ι' base' c' u) : D.p ι base c v (.tups (xs.map fun x => (x.1, x.2.map g))) → D.p ι' base' c' v (.tups xs)
  | ⟨vs, h1, h2, h3⟩ => ⟨vs, h1, by simpa using h2, fun j y hj => by
      obtain ⟨u, hu, hx⟩ := h3 j (y.1, y.2.map g) (by simp [hj])
      exact ⟨u, hu, Co.unmap g (h y (List.mem_of_getElem? hj)) hx⟩⟩
theorem D.tups_imp {ι ι' : Nat → Nat × Nat} {base base' : Nat} {c c' : Cx} {v : Value} {xs : List (Bool × List Cell)} (h : ∀ x ∈ xs, ∀ y ∈ x.2, ∀ u, y.p ι base c u → y.p ι' base' c' u) (hp : D.p ι base c v (.tups xs)) : D.p ι' base' c' v (.tups xs) := by
  have := D.tups_map (fun y => y) h hp
  simpa using this
def P0.d (n : Bool) : P0 → D
  | .one r => .one (.r n r)
  | .agg rs => .agg (rs.map (.r n))
theorem P0.d_p {ι : Nat → Nat × Nat} {base : Nat} {c : Cx} {v : Value} {n : Bool} : ∀ {x : P0}, (x.d n).p ι base c v ↔ x.p (c.young base n) v
  | .one r => by simp only [P0.d, D.p, P0.p, Cell.p]
  | .agg rs => by
    simp only [P0.d, D.p, P0.p, List.length_map]
    refine exists_congr fun vs => and_congr_right fun _ => and_congr_right fun _ => ?_
    constructor
    · intro h j r hj
      exact h j (.r n r) (by simp [hj])
    · intro h j x hj
      simp only [List.getElem?_map, Option.map_eq_some_iff] at hj
      obtain ⟨r, hr, rfl⟩ := hj
      exact h j r hr
inductive Ob where
  | var (E : TypeId) (cells : List Cell)
  | sl (E : TypeId) (sz : Nat) (new : Bool) (els : List P0)
def Ob.p (ι : Nat → Nat × Nat) (base : Nat) (c : Cx) (b : Nat × Nat) : Ob → Prop
  | .var E cells => ∃ arr, c.w.heap[b.1]? = some (.cells arr E (0, 0)) ∧ b.2 + cells.length ≤ arr.size ∧ ∀ (j : Nat) (x : Cell), cells[j]? = some x → ∃ u, arr[b.2 + j]? = some u ∧ x.p ι base c u
  | .sl E sz n els => ∃ arr, c.w.heap[b.1]? = some (.cells arr E (0, 0)) ∧ b.2 + els.length * sz ≤ arr.size ∧ ∀ (i : Nat) (e : P0), els[i]? = some e → e.n = sz ∧ ∀ (j : Nat) (r : R), e.rs[j]? = some r → ∃ u, arr[b.2 + (i * sz + j)]? = some u ∧ r.p (c.young base n) u
def Sized (w w' : World) : Prop := ∀ (b : Nat) (arr : Array Value) (E : TypeId), w.heap[b]? = some (.cells arr E (0, 0)) → ∃ arr' : Array Value, w'.heap[b]? = some (.cells arr' E (0, 0)) ∧ arr'.size = arr.size
theorem lt_of_heap {w : World} {b : Nat} {o : Obj} (h : w.heap[b]? = some o) : b < w.heap.size := by
  rcases Nat.lt_or_ge b w.heap.size with h' | h'
  · exact h'
  · simp [Array.getElem?_eq_none h'] at h
theorem Sized.of_below {w w' : World} (h : Below w.heap.size w w') : Sized w w' := fun b arr E hb => ⟨arr, by rw [h.block b (lt_of_heap hb)]; exact hb, rfl⟩
theorem Cell.mono {ι : Nat → Nat × Nat} {base : Nat} {c c' : Cx} {v : Value} (h : c.Ext c') (hb : Sized c.w c'.w) : ∀ {x : Cell}, x.p ι base c v → x.p ι base c' v
  | .r n x, hx => x.mono (h.young base n) hx
  | .own .., ⟨o, cap, arr, E, h1, h0, h2, h3, h4, h5⟩ => by
    obtain ⟨arr', g1, g2⟩ := hb _ _ _ h4
    exact ⟨o, cap, arr', E, h1, h0, h2, h3, g1, by rw [g2]; exact h5⟩
  | .ptr .., hx => hx
  | .any, hx => hx
  | .clo .., hx => hx
theorem D.mono {ι : Nat → Nat × Nat} {base : Nat} {c c' : Cx} {v : Value} (h : c.Ext c') (hb : Sized c.w c'.w) : ∀ {d : D}, d.p ι base c v → d.p ι base c' v
  | .one x, hx => Cell.mono h hb hx
  | .agg xs, ⟨vs, h1, h2, h3⟩ => ⟨vs, h1, h2, fun j x hj => let ⟨u, hu, hx⟩ := h3 j x hj; ⟨u, hu, Cell.mono h hb hx⟩⟩
  | .tup n xs, ⟨vs, h1, h2, h3⟩ => ⟨vs, h1, h2, fun j x hj => let ⟨u, hu, hx⟩ := h3 j x hj; ⟨u, hu, P0.mono (h.young base n) hx⟩⟩
  | .any, _ => trivial
  | .tups xs, hx => D.tups_imp (fun _ _ _ _ _ h1 => Cell.mono h hb h1) hx
structure St where
  n : Nat
  env : Nat → D
  heap : Nat → Option Ob
structure Bs extends World where
  base : Nat
  M : Nat → Prop
  own0 : Nat → Prop
  pin : Nat → Option (Nat × Nat)
  dfs : List Deferred
def pinned : Nat := 1000000000
structure Low (w0 : Bs) (w : World) : Prop where
  os : w.os = w0.os
  tape : w.tape = w0.tape
  output : w.output = w0.output
  size : w0.heap.size ≤ w.heap.size
  block : ∀ b, b < w0.heap.size → ¬ w0.M b → w.heap[b]? = w0.heap[b]?
  sized : Sized w0.toWorld w
def debTab : List Int := [0, 1, 28, 2, 29, 14, 24, 3, 30, 22, 20, 15, 25, 17, 4, 8, 31, 27, 13, 23, 21, 19, 16, 7, 26, 12, 18, 6, 11, 5, 10, 9]
def Glob (b : Nat) (w : World) : Prop := 0 < b ∧ ∀ i : Nat, i < 32 → w.cell? ⟨0, i, none⟩ = some (.int .u8 (debTab.getD i 0))
theorem Glob.mono {b b' : Nat} {w : World} (h : b ≤ b') (g : Glob b w) : Glob b' w := ⟨Nat.lt_of_lt_of_le g.1 h, g.2⟩
theorem Glob.keep {b : Nat} {w w' : World} (h : ∀ k, k < b → w'.heap[k]? = w.heap[k]?) (g : Glob b w) : Glob b w' := ⟨g.1, fun i hi => by rw [World.cell?_of_block (a := ⟨0, i, none⟩) (h _ g.1)]; exact g.2 i hi⟩
structure Sim' (w0 : Bs) (s : St) (a : Act) (w : World) (ι : Nat → Nat × Nat) (own : Nat → Prop) : Prop where
  below : Low w0 w
  base_ : w0.base ≤ w0.heap.size ∧ Glob w0.base w
  own_ : ∀ b, own b → w0.base ≤ b ∧ b < w.heap.size
  keep : ∀ b, b < w0.heap.size → w0.own0 b → ¬ w0.M b → own b
  frm : ∀ b, own b → w0.own0 b ∨ w0.heap.size ≤ b
  size : a.tmps.size = s.n
  env : ∀ t, (s.env t).p ι w0.base ⟨w, own⟩ (a.tmps.getD t undef)
  heap : ∀ k ob, s.heap k = some ob → own (ι k).1 ∧ ob.p ι w0.base ⟨w, own⟩ (ι k)
  place : ∀ k ob, s.heap k = some ob → w0.heap.size ≤ (ι k).1 ∨ w0.M (ι k).1
  inj : ∀ k k' ob ob', s.heap k = some ob → s.heap k' = some ob' → (ι k).1 = (ι k').1 → k = k'
  defers : a.defers = w0.dfs
  pin : ∀ k p, w0.pin k = some p → ι k = p ∧ pinned ≤ k
def Sim (w0 : Bs) (s : St) (a : Act) (w : World) : Prop := ∃ ι own, Sim' w0 s a w ι own
def upd {α : Type} (f : Nat → α) (t : Nat) (x : α) : Nat → α := fun u => if u = t then x else f u
theorem upd_same {α : Type} (f : Nat → α) (t : Nat) (x : α) : upd f t x t = x := if_pos rfl
theorem upd_ne {α : Type} (f : Nat → α) {t u : Nat} (x : α) (h : u ≠ t) : upd f t x u = f u := if_neg h
def putE (e : Nat → D) (dst : Option Nat) (d : D) : Nat → D :=
  match dst with
  | some t => upd e t d
  | none => e
def cellOf : Value → Cell
  | .slice none 0 0 => .r true (row true 0 [])
  | v => .r true (val v)
theorem cellOf_p {ι : Nat → Nat × Nat} {base : Nat} {c : Cx} {v : Value} (h : v.oneCell' = true) : (cellOf v).p ι base c v := by
  unfold cellOf
  split
  · exact row_p.2 ⟨none, 0, rfl, by simp [maxLen], by simp, by simp, fun h => by simp at h⟩
  · exact val_p.2 ⟨rfl, h⟩
def evD (e : Nat → D) : Operand → D
  | .tmp t => e t
  | .const v => match v with
    | .agg _ | .tuple _ => .any
    | v => .one (cellOf v)
  | .func f => .one (.r true (val (.func (.func f) #[] #[])))
  | .global _ => .any
theorem Sim'.ev {w0 : Bs} {s : St} {a : Act} {w : World} {ι : Nat → Nat × Nat} {own : Nat → Prop} (h : Sim' w0 s a w ι own) (x : Operand) : (evD s.env x).p ι w0.base ⟨w, own⟩ (a.eval x) := by
  cases x with
  | tmp t => exact h.env t
  | const v => cases v <;> first|trivial|exact cellOf_p rfl
  | func f => exact (val_p (c := Cx.young ⟨w, own⟩ w0.base true)).2 ⟨rfl, rfl⟩
  | global g => trivial
theorem put_size (a : Act) (dst : Option Tmp) (v : Value) : (a.put dst v).tmps.size = a.tmps.size := by cases dst <;> simp [Act.put]
theorem put_defers (a : Act) (dst : Option Tmp) (v : Value) : (a.put dst v).defers = a.defers := by cases dst <;> simp [Act.put]
def dstOk (n : Nat) (o : Oper) : Bool := match o.dst with | some t => Nat.blt t n | none => true
def Cell.men (t : Nat) : Cell → Bool
  | .own k _ _ _ => Nat.beq k t
  | .ptr k _ _ _ => Nat.beq k t
  | .clo _ ps => ps.any fun p => Nat.beq p.1 t
  | _ => false
def D.men (t : Nat) : D → Bool
  | .one x => x.men t
  | .agg xs => xs.any (Cell.men t)
  | .tups xs => xs.any fun x => x.2.any (Cell.men t)
  | _ => false
def Ob.men (t : Nat) : Ob → Bool
  | .var _ xs => xs.any (Cell.men t)
  | .sl .. => false
def Agree (new : List Nat) (ι ι' : Nat → Nat × Nat) : Prop := ∀ k, k ∉ new → ι' k = ι k
theorem Cell.p_agree {new : List Nat} {ι ι' : Nat → Nat × Nat} {base : Nat} {c : Cx} {v : Value} (ha : Agree new ι ι') : ∀ {x : Cell}, (∀ t ∈ new, x.men t = false) → x.p ι base c v → x.p ι' base c v
  | .r n x, _, h => h
  | .own k j n sz, hm, h => by
    have : ι' k = ι k := ha k (fun hk => by have := hm k hk; simp [Cell.men] at this)
    simpa only [Cell.p, this] using h
  | .ptr k i sz off, hm, h => by
    have : ι' k = ι k := ha k (fun hk => by have := hm k hk; simp [Cell.men] at this)
    simpa only [Cell.p, this] using h
  | .any, _, h => h
  | .clo f ps, hm, h => by
    have : ptrsV ι' ps = ptrsV ι ps := ptrsV_eq fun p hp => ha p.1 (fun hk => by
      have := hm p.1 hk
      simp only [Cell.men, List.any_eq_false] at this
      exact this p hp (by simp))
    simpa only [Cell.p, this] using h
theorem D.p_agree {new : List Nat} {ι ι' : Nat → Nat × Nat} {base : Nat} {c : Cx} {v : Value} (ha : Agree new ι ι') : ∀ {x : D}, (∀ t ∈ new, x.men t = false) → x.p ι base c v → x.p ι' base c v
  | .one x, hm, h => Cell.p_agree ha hm h
  | .agg xs, hm, ⟨vs, h1, h2, h3⟩ => ⟨vs, h1, h2, fun j x hj => by
      obtain ⟨u, hu, hx⟩ := h3 j x hj
      refine ⟨u, hu, Cell.p_agree ha (fun t ht => ?_) hx⟩
      have := hm t ht
      simp only [D.men, List.any_eq_false] at this
      simpa using this x (List.mem_of_getElem? hj)⟩
  | .tup n xs, _, h => h
  | .any, _, _ => trivial
  | .tups xs, hm, h => D.tups_imp (fun x hx y hy _ h1 => Cell.p_agree ha (fun t ht => by
      have := hm t ht
      simp only [D.men, List.any_eq_false] at this
      have := this x hx
      simp only [Bool.not_eq_true, List.any_eq_false] at this
      simpa using this y hy) h1) h
theorem Ob.p_agree {new : List Nat} {ι ι' : Nat → Nat × Nat} {base : Nat} {c : Cx} {b : Nat × Nat} (ha : Agree new ι ι') : ∀ {x : Ob}, (∀ t ∈ new, x.men t = false) → x.p ι base c b → x.p ι' base c b
  | .var E xs, hm, ⟨arr, h1, h2, h3⟩ => ⟨arr, h1, h2, fun j x hj => by
      obtain ⟨u, hu, hx⟩ := h3 j x hj
      refine ⟨u, hu, Cell.p_agree ha (fun t ht => ?_) hx⟩
      have := hm t ht
      simp only [Ob.men, List.any_eq_false] at this
      simpa using this x (List.mem_of_getElem? hj)⟩
  | .sl .., _, h => h
theorem Ob.mono {ι : Nat → Nat × Nat} {base : Nat} {c c' : Cx} {b : Nat × Nat} (hx : c.Ext c') (hs : Sized c.w c'.w) (hb : c'.w.heap[b.1]? = c.w.heap[b.1]?) : ∀ {ob : Ob}, ob.p ι base c b → ob.p ι base c' b
  | .var E cells, ⟨arr, e1, e2, e3⟩ => ⟨arr, by rw [hb]; exact e1, e2, fun j x hj => let ⟨u, hu, hx'⟩ := e3 j x hj; ⟨u, hu, Cell.mono hx hs hx'⟩⟩
  | .sl E sz n els, ⟨arr, e1, e2, e3⟩ => ⟨arr, by rw [hb]; exact e1, e2, fun i e he => ⟨(e3 i e he).1, fun j r hj => let ⟨u, hu, hr⟩ := (e3 i e he).2 j r hj; ⟨u, hu, r.mono (hx.young base n) hr⟩⟩⟩
structure Sg where
  d : D
  fp : List Nat
  τ : List Nat
  new : List Nat
  U : List (Nat × Option Ob)
def findU : List (Nat × Option Ob) → Nat → Option (Option Ob)
  | [], _ => none
  | (k, x) :: r, u => if u = k then some x else findU r u
def appU (U : List (Nat × Option Ob)) (H : Nat → Option Ob) : Nat → Option Ob := fun k => (findU U k).getD (H k)
theorem findU_mem : ∀ {U : List (Nat × Option Ob)} {k : Nat} {x : Option Ob}, findU U k = some x → (k, x) ∈ U
  | (k0, x0) :: r, k, x, h => by
    simp only [findU] at h
    split at h
    · rename_i e; subst e; injection h with h; subst h; simp
    · exact List.mem_cons_of_mem _ (findU_mem h)
theorem findU_none : ∀ {U : List (Nat × Option Ob)} {k : Nat}, findU U k = none ↔ k ∉ U.map (·.1)
  | [], k => by simp [findU]
  | (k0, x0) :: r, k => by
    simp only [findU, List.map_cons, List.mem_cons, not_or]
    split
    · rename_i e; subst e; simp
    · rename_i e; rw [findU_none]; exact ⟨fun h => ⟨e, h⟩, fun h => h.2⟩
def resH (fp : List Nat) (H : Nat → Option Ob) : Nat → Option Ob := fun k => if k ∈ fp then H k else none
structure Chg (base : Nat) (w w' : World) (ι ι' : Nat → Nat × Nat) (own own' : Nat → Prop) (v : Value) (d : D) (τ new : List Nat) (U : List (Nat × Option Ob)) : Prop where
  os : w'.os = w.os
  tape : w'.tape = w.tape
  output : w'.output = w.output
  size : w.heap.size ≤ w'.heap.size
  block : ∀ b, b < w.heap.size → (∀ k ∈ τ, b ≠ (ι k).1) → w'.heap[b]? = w.heap[b]?
  sized : Sized w w'
  own1 : ∀ b, own b → (∀ k ∈ τ, b ≠ (ι k).1) → own' b
  own2 : ∀ b, own' b → own b ∨ w.heap.size ≤ b
  own3 : ∀ b, own' b → b < w'.heap.size
  same : Agree new ι ι'
  val : d.p ι' base ⟨w', own'⟩ v
  named : ∀ k ob, (k, some ob) ∈ U → own' (ι' k).1 ∧ ob.p ι' base ⟨w', own'⟩ (ι' k) ∧ (w.heap.size ≤ (ι' k).1 ∨ ∃ k0 ∈ τ, (ι' k).1 = (ι k0).1)
  inj : ∀ k ob k' ob', (k, some ob) ∈ U → (k', some ob') ∈ U → (ι' k).1 = (ι' k').1 → k = k'
def Eff (P : Program) (H : Nat → Option Ob) (ev : Operand → D) (o : Oper) (d : D) (τ new : List Nat) (U : List (Nat × Option Ob)) : Prop :=
  ∀ (base : Nat) (a : Act) (w : World) (ι : Nat → Nat × Nat) (own : Nat → Prop), (∀ b, own b → base ≤ b ∧ b < w.heap.size) → (base ≤ w.heap.size ∧ Glob base w) → (∀ x ∈ o.op.operands, (ev x).p ι base ⟨w, own⟩ (a.eval x)) →
    (∀ k ob, H k = some ob → own (ι k).1 ∧ ob.p ι base ⟨w, own⟩ (ι k)) → (∀ k k' ob ob', H k = some ob → H k' = some ob' → (ι k).1 = (ι k').1 → k = k') →
    ∀ (K : Act → World → Prop) (Q : Exit → Act → World → Prop), (∀ v w' ι' own', Chg base w w' ι ι' own own' v d τ new U → K (a.put o.dst v) w') → o.wp P a w K Q
def Sg.fine (σ : Sg) (H : Nat → Option Ob) : Prop :=
  (∀ k ∈ σ.τ, k ∈ σ.fp ∧ (∃ ob, H k = some ob) ∧ k ∈ σ.U.map (·.1)) ∧ (∀ k ∈ σ.new, k ∈ σ.U.map (·.1) ∧ k < pinned)
def Sg.fresh (σ : Sg) (dst : Option Nat) (s : St) : Prop :=
  ∀ t ∈ σ.new, (∀ u, dst ≠ some u → (s.env u).men t = false) ∧ ∀ k ob, k ∉ σ.U.map (·.1) → s.heap k = some ob → ob.men t = false
def St.app (s : St) (dst : Option Nat) (σ : Sg) : St := ⟨s.n, putE s.env dst σ.d, appU σ.U s.heap⟩
theorem Sim'.eff {w0 : Bs} {s : St} {a : Act} {w w' : World} {ι ι' : Nat → Nat × Nat} {own own' : Nat → Prop} {v : Value} {σ : Sg} {dst : Option Nat} (hs : Sim' w0 s a w ι own) (h : Chg w0.base w w' ι ι' own own' v σ.d σ.τ σ.new σ.U) (hf : σ.fine s.heap) (hm : σ.fresh dst s) (ht : ∀ t, dst = some t → t < s.n) :
    Sim' w0 (s.app dst σ) (a.put dst v) w' ι' own' := by
  have hτ : ∀ k ∈ σ.τ, own (ι k).1 := fun k hk => let ⟨_, ⟨ob, ho⟩, _⟩ := hf.1 k hk; (hs.heap k ob ho).1
  have hx : Cx.Ext ⟨w, own⟩ ⟨w', own'⟩ := ⟨h.size, fun b hb ho => (h.own2 b ho).resolve_right (fun h => by have : b < w.heap.size := hb; omega), fun b hb ho => .inl (h.block b hb (fun k hk e => ho (e ▸ hτ k hk)))⟩
  have hold : ∀ k ob, k ∉ σ.U.map (·.1) → s.heap k = some ob → ι' k = ι k ∧ (∀ k0 ∈ σ.τ, (ι k).1 ≠ (ι k0).1) := fun k ob hk hh => by
    refine ⟨h.same k (fun hn => hk (hf.2 k hn).1), fun k0 hk0 e => ?_⟩
    obtain ⟨_, ⟨ob0, ho0⟩, hU⟩ := hf.1 k0 hk0
    exact hk (hs.inj k k0 ob ob0 hh ho0 e ▸ hU)
  have happ : ∀ k ob, appU σ.U s.heap k = some ob → (k, some ob) ∈ σ.U ∨ (k ∉ σ.U.map (·.1) ∧ s.heap k = some ob) := fun k ob hk => by
    unfold appU at hk
    cases hU : findU σ.U k with
    | none => rw [hU] at hk; exact .inr ⟨findU_none.1 hU, hk⟩
    | some x => rw [hU] at hk; simp only [Option.getD_some] at hk; subst hk; exact .inl (findU_mem hU)
  have hbs := Nat.le_trans hs.base_.1 hs.below.size
  refine ⟨⟨h.os.trans hs.below.os, h.tape.trans hs.below.tape, h.output.trans hs.below.output, Nat.le_trans hs.below.size h.size, fun b hb hM => ?_, fun b arr E hb => ?_⟩, ⟨hs.base_.1, hs.base_.2.keep (fun b hb => h.block b (Nat.lt_of_lt_of_le hb hbs) (fun k hk e => by have := (hs.own_ _ (hτ k hk)).1; omega))⟩, fun b hb => ?_, fun b hl hb hM => h.own1 b (hs.keep b hl hb hM) (fun k hk e => ?_), fun b hb => ?_, by rw [put_size]; exact hs.size, fun u => ?_, fun k ob hk => ?_, fun k ob hk => ?_, fun k k' ob ob' hk hk' e => ?_, by rw [put_defers]; exact hs.defers, fun k p hp => ?_⟩
  · rw [h.block b (Nat.lt_of_lt_of_le hb hs.below.size) (fun k hk e => ?_), hs.below.block b hb hM]
    obtain ⟨_, ⟨ob, ho⟩, _⟩ := hf.1 k hk
    rcases hs.place k ob ho with h1 | h1
    · omega
    · exact hM (e ▸ h1)
  · obtain ⟨a1, e1, e2⟩ := hs.below.sized b arr E hb
    obtain ⟨a2, e3, e4⟩ := h.sized b a1 E e1
    exact ⟨a2, e3, e4.trans e2⟩
  · refine ⟨?_, h.own3 b hb⟩
    rcases h.own2 b hb with h1 | h1
    · exact (hs.own_ b h1).1
    · omega
  · obtain ⟨_, ⟨ob, ho⟩, _⟩ := hf.1 k hk
    rcases hs.place k ob ho with h1 | h1
    · omega
    · exact hM (e ▸ h1)
  · rcases h.own2 b hb with h1 | h1
    · exact hs.frm b h1
    · exact .inr (Nat.le_trans hs.below.size h1)
  · have hold' : dst ≠ some u → ((putE s.env dst σ.d) u).p ι' w0.base ⟨w', own'⟩ ((a.put dst v).tmps.getD u undef) := fun hne => by
      have h1 := D.p_agree h.same (fun t ht => (hm t ht).1 u hne) (D.mono hx h.sized (hs.env u))
      cases dst with
      | none => exact h1
      | some t =>
        have htu : t ≠ u := fun e => hne (by rw [e])
        simp only [putE, Act.put]
        rw [upd_ne _ _ (Ne.symm htu)]
        simpa [Array.getElem?_setIfInBounds_ne htu] using h1
    by_cases hu : dst = some u
    · subst hu
      have hlt : u < a.tmps.size := by rw [hs.size]; exact ht u rfl
      simp only [St.app, putE, Act.put]
      rw [upd_same]
      simpa [hlt] using h.val
    · exact hold' hu
  · rcases happ k ob hk with hU | ⟨hn, hh⟩
    · exact ⟨(h.named k ob hU).1, (h.named k ob hU).2.1⟩
    · obtain ⟨h1, h2⟩ := hs.heap k ob hh
      obtain ⟨e1, e2⟩ := hold k ob hn hh
      rw [e1]
      exact ⟨h.own1 _ h1 e2, Ob.p_agree h.same (fun t ht => (hm t ht).2 k ob hn hh) (Ob.mono hx h.sized (h.block _ (hs.own_ _ h1).2 e2) h2)⟩
  · rcases happ k ob hk with hU | ⟨hn, hh⟩
    · rcases (h.named k ob hU).2.2 with h1 | ⟨k0, hk0, h1⟩
      · exact .inl (Nat.le_trans hs.below.size h1)
      · obtain ⟨_, ⟨ob0, ho0⟩, _⟩ := hf.1 k0 hk0
        rw [h1]
        exact hs.place k0 ob0 ho0
    · rw [(hold k ob hn hh).1]
      exact hs.place k ob hh
  · rcases happ k ob hk with hU | ⟨hn, hh⟩
    · rcases happ k' ob' hk' with hU' | ⟨hn', hh'⟩
      · exact h.inj k ob k' ob' hU hU' e
      · exfalso
        obtain ⟨e1, e2⟩ := hold k' ob' hn' hh'
        rw [e1] at e
        rcases (h.named k ob hU).2.2 with h1 | ⟨k0, hk0, h1⟩
        · have := (hs.own_ _ (hs.heap k' ob' hh').1).2; omega
        · exact e2 k0 hk0 (e.symm.trans h1)
    · obtain ⟨e1, e2⟩ := hold k ob hn hh
      rcases happ k' ob' hk' with hU' | ⟨hn', hh'⟩
      · exfalso
        rw [e1] at e
        rcases (h.named k' ob' hU').2.2 with h1 | ⟨k0, hk0, h1⟩
        · have := (hs.own_ _ (hs.heap k ob hh).1).2; omega
        · exact e2 k0 hk0 (e.trans h1)
      · rw [e1, (hold k' ob' hn' hh').1] at e
        exact hs.inj k k' ob ob' hh hh' e
  · obtain ⟨h1, h2⟩ := hs.pin k p hp
    exact ⟨by rw [h.same k (fun hn => by have := (hf.2 k hn).2; omega)]; exact h1, h2⟩
def Loc (P : Program) (H : Nat → Option Ob) (ev : Operand → D) (o : Oper) (d : D) : Prop := Eff P H ev o d [] [] []
theorem Chg.quiet {base : Nat} {w w' : World} {ι : Nat → Nat × Nat} {own : Nat → Prop} {v : Value} {d : D} (ho : ∀ b, own b → base ≤ b ∧ b < w.heap.size) (hb : Below w.heap.size w w') (hd : d.p ι base ⟨w', own⟩ v) : Chg base w w' ι ι own own v d [] [] [] :=
  ⟨hb.os, hb.tape, hb.output, hb.size, fun b h _ => hb.block b h, .of_below hb, fun _ h _ => h, fun _ h => .inl h, fun b h => Nat.lt_of_lt_of_le (ho b h).2 hb.size, fun _ _ => rfl, hd, fun k ob h => by simp at h, fun k ob k' ob' h => by simp at h⟩
theorem loc_run {P : Program} {H : Nat → Option Ob} {ev : Operand → D} {o : Oper} {d : D}
    (h : ∀ (base : Nat) (a : Act) (w : World) (ι : Nat → Nat × Nat) (own : Nat → Prop), (∀ b, own b → base ≤ b ∧ b < w.heap.size) → (∀ x ∈ o.op.operands, (ev x).p ι base ⟨w, own⟩ (a.eval x)) → (∀ k ob, H k = some ob → own (ι k).1 ∧ ob.p ι base ⟨w, own⟩ (ι k)) →
      ∃ v, (execOp a.eval o).run P w = .ok (.value v) w ∧ d.p ι base ⟨w, own⟩ v) : Loc P H ev o d := by
  intro base a w ι own ho hbase hev hH _ K Q hK
  obtain ⟨v, hr, hd⟩ := h base a w ι own ho hev hH
  unfold Oper.wp
  rw [hr]
  exact hK v w ι own (Chg.quiet ho (Below.refl _ _) hd)
def tyOf (P : Program) (t : TypeId) : Option (Bool × Nat) :=
  match P.info? t, P.underlying t with
  | some i, some (.struct _) | some i, some (.array _ _) => some (true, i.size)
  | some i, some _ => some (false, i.size)
  | _, _ => none
theorem tyOf_run {P : Program} {t : TypeId} {ag : Bool} {n : Nat} (h : tyOf P t = some (ag, n)) (w : World) : (isAgg t).run P w = .ok ag w ∧ (sizeOf t).run P w = .ok n w := by
  unfold tyOf at h
  unfold isAgg sizeOf underlying typeInfo
  cases hi : P.info? t with
  | none => simp [hi] at h
  | some i =>
    cases hu : P.underlying t with
    | none => simp [hi, hu] at h
    | some d => cases d <;> simp [hi, hu] at h ⊢ <;> simp [h]
def fldOf (P : Program) (t : TypeId) (f : Nat) : Option (Nat × TypeId) :=
  match P.underlying t with
  | some (.struct fs) => match fs[f]? with
    | some x => match P.info? x.type with
      | some i => if i.size = 0 then none else some (x.offset, x.type)
      | none => none
    | none => none
  | _ => none
def slOf (P : Program) (t : TypeId) : Option (TypeId × Nat) :=
  match P.underlying t with
  | some (.slice e) => match P.info? e with
    | some i => some (e, i.size)
    | none => none
  | _ => none
theorem slOf_spec {P : Program} {t e : TypeId} {n : Nat} (h : slOf P t = some (e, n)) : P.underlying t = some (.slice e) ∧ P.elem t = e ∧ ∀ w, (sizeOf e).run P w = .ok n w := by
  unfold slOf at h
  cases hu : P.underlying t with
  | none => simp [hu] at h
  | some d =>
    cases d <;> simp [hu] at h
    rename_i e'
    cases hi : P.info? e' with
    | none => simp [hi] at h
    | some i =>
      simp [hi] at h
      obtain ⟨rfl, rfl⟩ := h
      exact ⟨rfl, by simp [Program.elem, hu], fun w => by simp [sizeOf, typeInfo, hi]⟩
section
variable {P : Program} {H : Nat → Option Ob} {ev : Operand → D} {o : Oper}
theorem loc_move {d : D} (x : Operand) (ho : o.op = .move x) (hx : ev x = d) : Loc P H ev o d :=
  loc_run fun base a w ι own hw he hH => ⟨a.eval x, BigFrame.run_move x ho w, hx ▸ he x (by rw [ho]; simp [Op.operands])⟩
theorem loc_assign {d : D} (x : Operand) (ho : o.op = .assign x) (hx : ev x = d) : Loc P H ev o d :=
  loc_run fun base a w ι own hw he hH => ⟨a.eval x, BigFrame.run_assign x ho w, hx ▸ he x (by rw [ho]; simp [Op.operands])⟩
theorem loc_pick_true {n : Bool} {d : D} (c x y : Operand) (ho : o.op = .pick c x y) (hc : ev c = .one (.r n (bool true))) (hx : ev x = d) : Loc P H ev o d :=
  loc_run fun base a w ι own hw he hH => by
    have h1 : (ev c).p ι base ⟨w, own⟩ (a.eval c) := he c (by rw [ho]; simp [Op.operands])
    rw [hc] at h1
    refine ⟨a.eval x, ?_, hx ▸ he x (by rw [ho]; simp [Op.operands])⟩
    unfold execOp; simp [ho, h1.1, asBool]
theorem loc_pick_false {n : Bool} {d : D} (c x y : Operand) (ho : o.op = .pick c x y) (hc : ev c = .one (.r n (bool false))) (hy : ev y = d) : Loc P H ev o d :=
  loc_run fun base a w ι own hw he hH => by
    have h1 : (ev c).p ι base ⟨w, own⟩ (a.eval c) := he c (by rw [ho]; simp [Op.operands])
    rw [hc] at h1
    refine ⟨a.eval y, ?_, hy ▸ he y (by rw [ho]; simp [Op.operands])⟩
    unfold execOp; simp [ho, h1.1, asBool]
def binR (op : BinOp) (k : IntKind) (a b : Int) : Option Value :=
  match op with
  | .add => some (.int k (k.wrap (a + b)))
  | .sub => some (.int k (k.wrap (a - b)))
  | .mul => some (.int k (k.wrap (a * b)))
  | .eql => some (.bool (a == b))
  | .neq => some (.bool (a != b))
  | .lss => some (.bool (decide (a < b)))
  | .leq => some (.bool (decide (a ≤ b)))
  | .gtr => some (.bool (decide (b < a)))
  | .geq => some (.bool (decide (b ≤ a)))
  | _ => none
theorem binR_one {op : BinOp} {k : IntKind} {a b : Int} {z : Value} (h : binR op k a b = some z) : z.oneCell' = true := by
  cases op <;> simp [binR] at h <;> subst h <;> rfl
theorem loc_bin {n n' : Bool} {k : IntKind} {p q : Int} {z : Value} (op : BinOp) (t t' : TypeId) (x y : Operand) (ho : o.op = .binOp op t x y t') (hx : ev x = .one (.r n (val (.int k p)))) (hy : ev y = .one (.r n' (val (.int k q)))) (hz : binR op k p q = some z) : Loc P H ev o (.one (.r true (val z))) :=
  loc_run fun base a w ι own hw he hH => by
    have h1 : (ev x).p ι base ⟨w, own⟩ (a.eval x) := he x (by rw [ho]; simp [Op.operands])
    have h2 : (ev y).p ι base ⟨w, own⟩ (a.eval y) := he y (by rw [ho]; simp [Op.operands])
    rw [hx] at h1
    rw [hy] at h2
    refine ⟨z, ?_, rfl, binR_one hz⟩
    unfold execOp
    rw [ho]
    simp only [h1.1, h2.1]
    cases op <;> simp [binR] at hz <;> subst hz <;> simp [eqGuard, binOp, Op.intArith, Op.intCmp, go_sem]
theorem loc_div {n n' : Bool} {k : IntKind} {p q : Int} (t t' : TypeId) (x y : Operand) (ho : o.op = .binOp .quo t x y t') (hx : ev x = .one (.r n (val (.int k p)))) (hy : ev y = .one (.r n' (val (.int k q)))) (hq : q ≠ 0) : Loc P H ev o (.one (.r true (val (.int k (k.wrap (p.tdiv q)))))) :=
  loc_run fun base a w ι own hw he hH => by
    have h1 : (ev x).p ι base ⟨w, own⟩ (a.eval x) := he x (by rw [ho]; simp [Op.operands])
    have h2 : (ev y).p ι base ⟨w, own⟩ (a.eval y) := he y (by rw [ho]; simp [Op.operands])
    rw [hx] at h1
    rw [hy] at h2
    refine ⟨_, ?_, rfl, rfl⟩
    unfold execOp
    rw [ho]
    simp [h1.1, h2.1, eqGuard, binOp, Op.intDiv, hq]
theorem loc_rem {n n' : Bool} {k : IntKind} {p q : Int} (t t' : TypeId) (x y : Operand) (ho : o.op = .binOp .rem t x y t') (hx : ev x = .one (.r n (val (.int k p)))) (hy : ev y = .one (.r n' (val (.int k q)))) (hq : q ≠ 0) : Loc P H ev o (.one (.r true (val (.int k (p.tmod q))))) :=
  loc_run fun base a w ι own hw he hH => by
    have h1 : (ev x).p ι base ⟨w, own⟩ (a.eval x) := he x (by rw [ho]; simp [Op.operands])
    have h2 : (ev y).p ι base ⟨w, own⟩ (a.eval y) := he y (by rw [ho]; simp [Op.operands])
    rw [hx] at h1
    rw [hy] at h2
    refine ⟨_, ?_, rfl, rfl⟩
    unfold execOp
    rw [ho]
    simp [h1.1, h2.1, eqGuard, binOp, Op.intDiv, hq]
theorem loc_not {n p : Bool} (t : TypeId) (x : Operand) (ho : o.op = .unOp .not t x) (hx : ev x = .one (.r n (bool p))) : Loc P H ev o (.one (.r true (bool (!p)))) :=
  loc_run fun base a w ι own hw he hH => by
    have h1 : (ev x).p ι base ⟨w, own⟩ (a.eval x) := he x (by rw [ho]; simp [Op.operands])
    rw [hx] at h1
    refine ⟨_, ?_, rfl, rfl⟩
    unfold execOp
    rw [ho]
    simp [h1.1, Op.unary]
theorem equal_bool {P : Program} {t : TypeId} (hT : P.underlying t = some .bool) (p q : Bool) (w : World) : (Op.equal t (.bool p) (.bool q)).run P w = .ok (p == q) w := by
  unfold Op.equal Op.maxDepth Op.equalIn
  simp [underlying, hT]
theorem loc_eqB {n n' p q : Bool} (t t' : TypeId) (x y : Operand) (hT : P.underlying t = some .bool) (ho : o.op = .binOp .eql t x y t') (hx : ev x = .one (.r n (bool p))) (hy : ev y = .one (.r n' (bool q))) : Loc P H ev o (.one (.r true (bool (p == q)))) :=
  loc_run fun base a w ι own hw he hH => by
    have h1 : (ev x).p ι base ⟨w, own⟩ (a.eval x) := he x (by rw [ho]; simp [Op.operands])
    have h2 : (ev y).p ι base ⟨w, own⟩ (a.eval y) := he y (by rw [ho]; simp [Op.operands])
    rw [hx] at h1
    rw [hy] at h2
    refine ⟨_, ?_, rfl, rfl⟩
    unfold execOp
    rw [ho]
    simp only [h1.1, h2.1]
    simp [eqGuard, binOp, equal_bool hT]
theorem fldOf_spec {t : TypeId} {f off : Nat} {ft : TypeId} (h : fldOf P t f = some (off, ft)) : ∃ fs x, P.underlying t = some (.struct fs) ∧ fs[f]? = some x ∧ x.offset = off ∧ x.type = ft ∧ ∃ n, n ≠ 0 ∧ ∀ w, (sizeOf ft).run P w = .ok n w := by
  unfold fldOf at h
  cases hu : P.underlying t with
  | none => simp [hu] at h
  | some d =>
    cases d <;> simp [hu] at h
    rename_i fs
    cases hf : fs[f]? with
    | none => simp [hf] at h
    | some x =>
      cases hi : P.info? x.type with
      | none => simp [hf, hi] at h
      | some i =>
        simp only [hf, hi, Option.ite_none_left_eq_some, Option.some.injEq, Prod.mk.injEq] at h
        obtain ⟨h0, h1, h2⟩ := h
        exact ⟨fs, x, rfl, hf, h1, h2, i.size, h0, fun w => by rw [← h2]; simp [sizeOf, typeInfo, hi]⟩
theorem run_fieldAt {t : TypeId} {f off : Nat} {ft : TypeId} (h : fldOf P t f = some (off, ft)) (b o : Nat) (w : World) : (Instr.fieldAt t (.pointer (some ⟨b, o, none⟩)) f).run P w = .ok (.pointer (some ⟨b, o + off, none⟩)) w := by
  obtain ⟨fs, x, h1, h2, h3, h4, n, h5, h6⟩ := fldOf_spec h
  unfold Instr.fieldAt
  simp only [Sem.run_bind, underlying, run_program, Result.andThen_ok, h1, Sem.run_pure, h2, Instr.sureAddr, fieldPlace, h4, h6, if_neg h5, h3]
  unfold Addr.add
  by_cases h0 : off = 0
  · simp [h0]
  · simp [h0]
theorem loc_field_ptr {k i sz off fo : Nat} {ft : TypeId} (t : TypeId) (x : Operand) (f : Nat) (ho : o.op = .fieldAddr t x f) (hx : ev x = .one (.ptr k i sz off)) (hf : fldOf P t f = some (fo, ft)) : Loc P H ev o (.one (.ptr k i sz (off + fo))) :=
  loc_run fun base a w ι own hw he hH => by
    have h1 : (ev x).p ι base ⟨w, own⟩ (a.eval x) := he x (by rw [ho]; simp [Op.operands])
    rw [hx] at h1
    refine ⟨.pointer (some ⟨(ι k).1, (ι k).2 + (i * sz + (off + fo)), none⟩), ?_, rfl⟩
    unfold execOp
    rw [ho]
    have h2 : a.eval x = .pointer (some ⟨(ι k).1, (ι k).2 + (i * sz + off), none⟩) := h1
    simp [h2, run_fieldAt hf, Nat.add_assoc]
def cut (ag : Bool) (n off : Nat) (cs : List Cell) : D := if ag then .agg ((cs.drop off).take n) else match cs[off]? with | some x => .one x | none => .any
def cutP (ag : Bool) (n off : Nat) (rs : List R) : P0 := if ag then .agg ((rs.drop off).take n) else match rs[off]? with | some x => .one x | none => .agg []
theorem loc_field_ref {n : Bool} {y : P0} {fo fn : Nat} {ag : Bool} {ft : TypeId} (t : TypeId) (x : Operand) (f : Nat) (ho : o.op = .fieldAddr t x f) (hx : ev x = .one (.r n (ref y))) (hf : fldOf P t f = some (fo, ft)) (hT : tyOf P ft = some (ag, fn)) (hn : fo + fn ≤ y.rs.length) (h1 : ag = true ∨ fn = 1) : Loc P H ev o (.one (.r n (ref (cutP ag fn fo y.rs)))) :=
  loc_run fun base a w ι own hw he hH => by
    have hx1 : (ev x).p ι base ⟨w, own⟩ (a.eval x) := he x (by rw [ho]; simp [Op.operands])
    rw [hx] at hx1
    obtain ⟨b, o', e1, e2, e3, e4⟩ := ref_p.1 hx1
    refine ⟨.pointer (some ⟨b, o' + fo, none⟩), ?_, ref_p.2 ⟨b, o' + fo, rfl, e2, e3, ?_⟩⟩
    · unfold execOp
      rw [ho]
      simp [e1, run_fieldAt hf]
    · intro j r hj
      have : y.rs[fo + j]? = some r := by
        unfold cutP at hj
        cases ag with
        | true =>
          simp only [if_true, P0.rs, List.getElem?_take, List.getElem?_drop] at hj
          split at hj
          · exact hj
          · cases hj
        | false =>
          have hf1 : fn = 1 := by simpa using h1
          have hlt : fo < y.rs.length := by omega
          have hg : y.rs[fo]? = some y.rs[fo] := List.getElem?_eq_getElem hlt
          simp only [Bool.false_eq_true, if_false, hg] at hj
          have hj' : [y.rs[fo]][j]? = some r := hj
          cases j with
          | zero => simp only [List.getElem?_cons_zero, Option.some.injEq] at hj'; rw [Nat.add_zero, hg, hj']
          | succ j => simp at hj'
      have := e4 (fo + j) r this
      rwa [← Nat.add_assoc] at this
theorem loadCells_run {w : World} {b : Nat} : ∀ (n o i : Nat) (acc : Array Value) (vs : List Value), vs.length = n → (∀ j u, vs[j]? = some u → w.cell? ⟨b, o + (i + j), none⟩ = some u) → (loadCellsFrom ⟨b, o, none⟩ i n acc).run P w = .ok (acc ++ vs.toArray) w
  | 0, o, i, acc, vs, hl, _ => by
    have : vs = [] := List.eq_nil_of_length_eq_zero hl
    subst this
    simp [loadCellsFrom]
  | n + 1, o, i, acc, vs, hl, h => by
    cases vs with
    | nil => simp at hl
    | cons v vs =>
      have h0 := h 0 v rfl
      have ha : Addr.add ⟨b, o, none⟩ i = ⟨b, o + i, none⟩ := Addr.add_lit b o i
      simp only [loadCellsFrom, Sem.run_bind, ha, run_load]
      rw [show o + (i + 0) = o + i from rfl] at h0
      rw [h0]
      simp only [Result.andThen_ok]
      rw [loadCells_run n o (i + 1) (acc.push v) vs (by simpa using hl) (fun j u hj => by have := h (j + 1) u (by simpa using hj); rwa [show i + 1 + j = i + (j + 1) by omega])]
      simp
theorem loadVar_one {t : TypeId} {n : Nat} (hT : tyOf P t = some (false, n)) {w : World} {b o : Nat} {u : Value} (h : w.cell? ⟨b, o, none⟩ = some u) : (loadVar t ⟨b, o, none⟩).run P w = .ok u w := by
  unfold loadVar
  simp [(tyOf_run hT w).1, h]
theorem loadVar_agg {t : TypeId} {n : Nat} (hT : tyOf P t = some (true, n)) {w : World} {b o : Nat} {vs : List Value} (hl : vs.length = n) (h : ∀ j u, vs[j]? = some u → w.cell? ⟨b, o + j, none⟩ = some u) : (loadVar t ⟨b, o, none⟩).run P w = .ok (.agg vs.toArray) w := by
  unfold loadVar loadCells
  simp only [Sem.run_bind, (tyOf_run hT w).1, Result.andThen_ok, if_true, (tyOf_run hT w).2]
  rw [loadCells_run n o 0 #[] vs hl (fun j u hj => by rw [Nat.zero_add]; exact h j u hj)]
  simp
theorem cell_of_arr {w : World} {b o : Nat} {arr : Array Value} {E : TypeId} {f : Nat × Nat} (h : w.heap[b]? = some (.cells arr E f)) : w.cell? ⟨b, o, none⟩ = arr[o]? := by simp [World.cell?, h]
theorem pick_vals {α : Type} {p : α → Value → Prop} {g : Nat → Option Value} : ∀ (xs : List α), (∀ (j : Nat) (x : α), xs[j]? = some x → ∃ u, g j = some u ∧ p x u) → ∃ vs : List Value, vs.length = xs.length ∧ ∀ (j : Nat) (x : α), xs[j]? = some x → ∃ u, vs[j]? = some u ∧ g j = some u ∧ p x u := by
  intro xs
  induction xs generalizing g with
  | nil => intro _; exact ⟨[], rfl, fun j x hj => by simp at hj⟩
  | cons x xs ih =>
    intro h
    obtain ⟨u, hu, hp⟩ := h 0 x rfl
    obtain ⟨vs, hl, hv⟩ := ih (g := fun j => g (j + 1)) (fun j y hj => h (j + 1) y (by simpa using hj))
    refine ⟨u :: vs, by simp [hl], fun j y hj => ?_⟩
    cases j with
    | zero => simp at hj; subst hj; exact ⟨u, rfl, hu, hp⟩
    | succ j => exact hv j y (by simpa using hj)
theorem load_var_run {ι : Nat → Nat × Nat} {base : Nat} {b : Nat × Nat} {w : World} {own : Nat → Prop} {off n : Nat} {ag : Bool} {E : TypeId} {cells : List Cell} {t : TypeId} (hob : (Ob.var E cells).p ι base ⟨w, own⟩ b) (hT : tyOf P t = some (ag, n)) (hn : off + n ≤ cells.length) (h1 : ag = true ∨ n = 1) :
    ∃ v, (loadVar t ⟨b.1, b.2 + off, none⟩).run P w = .ok v w ∧ (cut ag n off cells).p ι base ⟨w, own⟩ v := by
  obtain ⟨arr, g1, g2, g3⟩ := hob
  cases ag with
  | false =>
    have hn1 : n = 1 := by simpa using h1
    obtain ⟨u, hu, hp⟩ := g3 off cells[off] (List.getElem?_eq_getElem (by omega))
    refine ⟨u, loadVar_one hT (by rw [cell_of_arr g1]; exact hu), ?_⟩
    simp only [cut, Bool.false_eq_true, if_false]
    rw [List.getElem?_eq_getElem (by omega)]
    exact hp
  | true =>
    obtain ⟨vs, hl, hv⟩ := pick_vals (p := fun (x : Cell) u => x.p ι base ⟨w, own⟩ u) (g := fun j => arr[b.2 + (off + j)]?) ((cells.drop off).take n) (fun j x hj => by
      rw [List.getElem?_take] at hj
      split at hj
      · rw [List.getElem?_drop] at hj
        exact g3 _ _ hj
      · cases hj)
    have hlen : vs.length = n := by rw [hl, List.length_take, List.length_drop]; omega
    refine ⟨.agg vs.toArray, loadVar_agg hT hlen (fun j u hj => ?_), ?_⟩
    · rw [cell_of_arr g1]
      have hjl : j < vs.length := by
        rcases Nat.lt_or_ge j vs.length with h | h
        · exact h
        · rw [List.getElem?_eq_none h] at hj; cases hj
      obtain ⟨u', e1, e2, _⟩ := hv j _ (List.getElem?_eq_getElem (by omega))
      rw [e1] at hj; injection hj with hj; subst hj; rw [Nat.add_assoc]; exact e2
    · simp only [cut, if_true]
      exact ⟨vs, rfl, hl, fun j x hj => let ⟨u, e1, _, e3⟩ := hv j x hj; ⟨u, e1, e3⟩⟩
theorem loc_load_var {k off n : Nat} {ag : Bool} {E : TypeId} {cells : List Cell} {d : D} (t : TypeId) (x : Operand) (ho : o.op = .load t x) (hx : ev x = .one (.ptr k 0 0 off)) (hT : tyOf P t = some (ag, n)) (hk : H k = some (.var E cells)) (hn : Nat.ble (off + n) cells.length = true) (h1 : (ag || Nat.beq n 1) = true) (hd : cut ag n off cells = d) : Loc P H ev o d :=
  loc_run fun base a w ι own hw he hH => by
    have hx1 : (ev x).p ι base ⟨w, own⟩ (a.eval x) := he x (by rw [ho]; simp [Op.operands])
    rw [hx] at hx1
    have hx2 : a.eval x = .pointer (some ⟨(ι k).1, (ι k).2 + off, none⟩) := by have : a.eval x = .pointer (some ⟨(ι k).1, (ι k).2 + (0 * 0 + off), none⟩) := hx1; simpa using this
    obtain ⟨v, g1, g2⟩ := load_var_run (hH k _ hk).2 hT (by simpa using hn) (by simpa using h1)
    refine ⟨v, ?_, hd ▸ g2⟩
    unfold execOp
    rw [ho]
    simp only [hx2, Sem.run_bind, Instr.loadAt, Instr.sureAddr, Sem.run_pure, Result.andThen_ok, g1]
def mk : Bool → List R → P0
  | false, [r] => .one r
  | _, rs => .agg rs
theorem load_cells {c : Cx} {b o n : Nat} {rs : List R} (h : CellsAt c b o rs) {t : TypeId} {ag : Bool} (hT : tyOf P t = some (ag, n)) (hn : rs.length = n) {y : P0} (hy : y = mk ag rs) (h1 : ag = true ∨ n = 1) :
    ∃ v, (loadVar t ⟨b, o, none⟩).run P c.w = .ok v c.w ∧ y.p c v := by
  cases ag with
  | false =>
    have hn1 : n = 1 := by simpa using h1
    subst hn1
    match rs, hn with
    | [r], _ =>
      obtain ⟨u, hu, hp⟩ := h 0 r rfl
      exact ⟨u, loadVar_one hT (by simpa using hu), by subst hy; exact hp⟩
  | true =>
    obtain ⟨vs, hl, hv⟩ := pick_vals (p := fun (x : R) u => x.p c u) (g := fun j => c.w.cell? ⟨b, o + j, none⟩) rs h
    refine ⟨.agg vs.toArray, loadVar_agg hT (by omega) (fun j u hj => ?_), ?_⟩
    · have hjl : j < vs.length := by
        rcases Nat.lt_or_ge j vs.length with h | h
        · exact h
        · rw [List.getElem?_eq_none h] at hj; cases hj
      obtain ⟨u', e1, e2, _⟩ := hv j _ (List.getElem?_eq_getElem (by omega))
      rw [e1] at hj; injection hj with hj; subst hj; exact e2
    · subst hy
      exact ⟨vs, rfl, hl, fun j x hj => let ⟨u, e1, _, e3⟩ := hv j x hj; ⟨u, e1, e3⟩⟩
theorem loc_load_ref {n : Bool} {m : Nat} {ag : Bool} {y : P0} (t : TypeId) (x : Operand) (ho : o.op = .load t x) (hx : ev x = .one (.r n (ref y))) (hT : tyOf P t = some (ag, m)) (hn : y.rs.length = m) (hy : y = mk ag y.rs) (h1 : ag = true ∨ m = 1) : Loc P H ev o (y.d n) :=
  loc_run fun base a w ι own hw he hH => by
    have hx1 : (ev x).p ι base ⟨w, own⟩ (a.eval x) := he x (by rw [ho]; simp [Op.operands])
    rw [hx] at hx1
    obtain ⟨b, o', e1, e2, e3, e4⟩ := ref_p.1 hx1
    obtain ⟨v, h2, h3⟩ := load_cells e4 hT hn hy h1
    rw [Cx.young_w] at h2
    refine ⟨v, ?_, P0.d_p.2 h3⟩
    unfold execOp
    rw [ho]
    simp only [e1, Sem.run_bind, Instr.loadAt, Instr.sureAddr, Sem.run_pure, Result.andThen_ok, h2]
theorem loc_index_row {n n' nil : Bool} {sz : Nat} {els : List P0} {i : Int} {e : P0} {E : TypeId} (t : TypeId) (x ix : Operand) (ho : o.op = .indexAddr t x ix) (hT : slOf P t = some (E, sz)) (hx : ev x = .one (.r n (row nil sz els))) (hi : ev ix = .one (.r n' (int i))) (h0 : 0 ≤ i) (h1 : els[i.toNat]? = some e) : Loc P H ev o (.one (.r n (ref e))) :=
  loc_run fun base a w ι own hw he hH => by
    have hx1 : (ev x).p ι base ⟨w, own⟩ (a.eval x) := he x (by rw [ho]; simp [Op.operands])
    have hi1 : (ev ix).p ι base ⟨w, own⟩ (a.eval ix) := he ix (by rw [ho]; simp [Op.operands])
    rw [hx] at hx1
    rw [hi] at hi1
    obtain ⟨ao, cap, e1, e2, e3, e4, e5⟩ := row_p.1 hx1
    have hlt : i.toNat < els.length := by
      rcases Nat.lt_or_ge i.toNat els.length with h | h
      · exact h
      · rw [List.getElem?_eq_none h] at h1; cases h1
    obtain ⟨b, o', g1, g2, g3, g4⟩ := e5 (by omega)
    obtain ⟨hs1, hs2, hs3⟩ := slOf_spec hT
    have hat : At ao b o' els.length := .inr g1
    refine ⟨.pointer (some ⟨b, o' + i.toNat * sz, none⟩), ?_, ref_p.2 ⟨b, o' + i.toNat * sz, rfl, g2, g3, (g4 _ e h1).2⟩⟩
    unfold execOp
    rw [ho]
    have h3 : a.eval x = .slice ao els.length cap := e1
    simp only [h3, hi1.1, Sem.run_bind, hat.ixN (c := cap) sz hs1 hs3 i w h0 (by omega), Result.andThen_ok, Sem.run_pure]
theorem loc_index_own {n' : Bool} {k j m sz : Nat} {i : Int} {E : TypeId} (t : TypeId) (x ix : Operand) (ho : o.op = .indexAddr t x ix) (hT : slOf P t = some (E, sz)) (hx : ev x = .one (.own k j m sz)) (hi : ev ix = .one (.r n' (int i))) (h0 : 0 ≤ i) (h1 : i < m) : Loc P H ev o (.one (.ptr k (j + i.toNat) sz 0)) :=
  loc_run fun base a w ι own hw he hH => by
    have hx1 : (ev x).p ι base ⟨w, own⟩ (a.eval x) := he x (by rw [ho]; simp [Op.operands])
    have hi1 : (ev ix).p ι base ⟨w, own⟩ (a.eval ix) := he ix (by rw [ho]; simp [Op.operands])
    rw [hx] at hx1
    rw [hi] at hi1
    obtain ⟨oo, cap, arr, E', e1, e0, e2, _⟩ := hx1
    obtain rfl : oo = (ι k).2 + j * sz := e0.resolve_right (by omega)
    obtain ⟨hs1, hs2, hs3⟩ := slOf_spec hT
    have hat : At (some ⟨(ι k).1, (ι k).2 + j * sz, none⟩) (ι k).1 ((ι k).2 + j * sz) m := .inr rfl
    refine ⟨.pointer (some ⟨(ι k).1, (ι k).2 + j * sz + i.toNat * sz, none⟩), ?_, ?_⟩
    · unfold execOp
      rw [ho]
      have h3 : a.eval x = .slice (some ⟨(ι k).1, (ι k).2 + j * sz, none⟩) m cap := e1
      simp only [h3, hi1.1, Sem.run_bind, hat.ixN (c := cap) sz hs1 hs3 i w h0 (by omega), Result.andThen_ok, Sem.run_pure]
    · show _ = Value.pointer (some ⟨(ι k).1, (ι k).2 + ((j + i.toNat) * sz + 0), none⟩)
      rw [Nat.add_mul, Nat.add_zero, Nat.add_assoc]
theorem run_len {t e : TypeId} {sz : Nat} (hT : slOf P t = some (e, sz)) {ty : TypeId} {cs : Array Bool} (ao : Option Addr) (n c : Nat) (w : World) : (invoke (.builtin .len #[t] ty cs) #[.slice ao n c]).run P w = .ok (.value (.int .i64 n)) w := by
  unfold invoke builtin Builtin.len_
  simp [underlying, (slOf_spec hT).1, goInt]
theorem loc_len_row {n nil : Bool} {sz sz' : Nat} {els : List P0} {E : TypeId} (t : TypeId) (x : Operand) (ho : o.op = .call { callee := .builtin .len, args := #[x], argTypes := #[t] }) (hT : slOf P t = some (E, sz')) (hx : ev x = .one (.r n (row nil sz els))) : Loc P H ev o (.one (.r true (int els.length))) :=
  loc_run fun base a w ι own hw he hH => by
    have hx1 : (ev x).p ι base ⟨w, own⟩ (a.eval x) := he x (by rw [ho]; simp [Op.operands, Call.operands])
    rw [hx] at hx1
    obtain ⟨ao, cap, e1, _⟩ := row_p.1 hx1
    refine ⟨_, ?_, rfl, rfl⟩
    unfold execOp
    rw [ho]
    have h3 : a.eval x = .slice ao els.length cap := e1
    simp only [resolve, Sem.run_bind, Sem.run_pure, Result.andThen_ok, List.map_toArray, List.map_cons, List.map_nil, h3, run_len hT]
theorem loc_len_own {k j m sz sz' : Nat} {E : TypeId} (t : TypeId) (x : Operand) (ho : o.op = .call { callee := .builtin .len, args := #[x], argTypes := #[t] }) (hT : slOf P t = some (E, sz')) (hx : ev x = .one (.own k j m sz)) : Loc P H ev o (.one (.r true (int m))) :=
  loc_run fun base a w ι own hw he hH => by
    have hx1 : (ev x).p ι base ⟨w, own⟩ (a.eval x) := he x (by rw [ho]; simp [Op.operands, Call.operands])
    rw [hx] at hx1
    obtain ⟨oo, cap, arr, E', e1, _⟩ := hx1
    refine ⟨_, ?_, rfl, rfl⟩
    unfold execOp
    rw [ho]
    have h3 : a.eval x = .slice (some ⟨(ι k).1, oo, none⟩) m cap := e1
    simp only [resolve, Sem.run_bind, Sem.run_pure, Result.andThen_ok, List.map_toArray, List.map_cons, List.map_nil, h3, run_len hT]
theorem loc_extractC {xs : List (Bool × List Cell)} {y : Bool × List Cell} {d : D} (x : Operand) (i : Nat) (ho : o.op = .extract x i) (hx : ev x = .tups xs) (hy : xs[i]? = some y) (hd : y.1 = true ∧ d = .agg y.2 ∨ ∃ c, y = (false, [c]) ∧ d = .one c) : Loc P H ev o d :=
  loc_run fun base a w ι own hw he hH => by
    have hx1 : (ev x).p ι base ⟨w, own⟩ (a.eval x) := he x (by rw [ho]; simp [Op.operands])
    rw [hx] at hx1
    obtain ⟨vs, e1, e2, e3⟩ := hx1
    obtain ⟨u, g1, g2⟩ := e3 i y hy
    refine ⟨u, ?_, ?_⟩
    · unfold execOp
      rw [ho]
      simp [e1, Instr.extract, g1]
    · obtain ⟨b, cs⟩ := y
      rcases hd with ⟨h1, h2⟩ | ⟨c, h1, h2⟩
      · dsimp only at h1 h2
        subst h1; subst h2; exact g2
      · cases h1; subst h2; exact g2
theorem loc_extract {n : Bool} {xs : List P0} {y : P0} (x : Operand) (i : Nat) (ho : o.op = .extract x i) (hx : ev x = .tup n xs) (hy : xs[i]? = some y) : Loc P H ev o (y.d n) :=
  loc_run fun base a w ι own hw he hH => by
    have hx1 : (ev x).p ι base ⟨w, own⟩ (a.eval x) := he x (by rw [ho]; simp [Op.operands])
    rw [hx] at hx1
    obtain ⟨vs, e1, e2, e3⟩ := hx1
    obtain ⟨u, g1, g2⟩ := e3 i y hy
    refine ⟨u, ?_, P0.d_p.2 g2⟩
    unfold execOp
    rw [ho]
    simp [e1, Instr.extract, g1]
end
inductive Res where
  | v (x : P0)
  | tup (xs : List P0)
def Res.p (c : Cx) (v : Value) : Res → Prop
  | .v x => x.p c v
  | .tup xs => ∃ vs : List Value, v = .tuple vs.toArray ∧ vs.length = xs.length ∧ ∀ (j : Nat) (x : P0), xs[j]? = some x → ∃ u, vs[j]? = some u ∧ x.p c u
def Res.d : Res → D
  | .v x => x.d true
  | .tup xs => .tup true xs
theorem Res.d_p {ι : Nat → Nat × Nat} {base : Nat} {c : Cx} {v : Value} : ∀ {x : Res}, x.p (c.young base true) v → x.d.p ι base c v
  | .v x, h => P0.d_p.2 h
  | .tup xs, h => h
theorem Res.mono {c c' : Cx} {v : Value} (h : c.Ext c') : ∀ {x : Res}, x.p c v → x.p c' v
  | .v x, hx => P0.mono h hx
  | .tup xs, ⟨vs, h1, h2, h3⟩ => ⟨vs, h1, h2, fun j x hj => let ⟨u, hu, hx⟩ := h3 j x hj; ⟨u, hu, P0.mono h hx⟩⟩
def Args (c : Cx) : List Value → List P0 → Prop
  | [], [] => True
  | v :: vs, x :: xs => x.p c v ∧ Args c vs xs
  | _, _ => False
def Ent (P : Program) (f : FuncId) : Prop := ∀ args w, (callFunc f args).run P w = .ok (.enter f args) w
theorem ent_of {P : Program} {f : FuncId} {fn : Func} {c : Code} (hf : P.funcs[f]? = some fn) (hname : (fn.name == "runtime.NumGoroutine") = false) (hb : fn.body = some c) : Ent P f := fun args w => by
  have hn : ¬ fn.name = "runtime.NumGoroutine" := fun e => by rw [e] at hname; exact absurd hname (by decide)
  unfold callFunc
  simp [hf, hn, hb]
def Fn (P : Program) (f : FuncId) (args : List P0) (res : Res) : Prop :=
  Ent P f ∧ ∀ (w : World) (vs : List Value), Glob w.heap.size w → Args ⟨w, fun _ => False⟩ vs args → Calls P f vs.toArray w (fun e w' => ∃ v, e = .returned v ∧ res.p ⟨w', fun b => b < w.heap.size⟩ v ∧ Below w.heap.size w w')
def AsArg (H : Nat → Option Ob) (d : D) (x : P0) : Prop :=
  ∀ (ι : Nat → Nat × Nat) (base : Nat) (w : World) (own : Nat → Prop) (v : Value), (∀ k ob, H k = some ob → own (ι k).1 ∧ ob.p ι base ⟨w, own⟩ (ι k)) → d.p ι base ⟨w, own⟩ v → x.p ⟨w, fun _ => False⟩ v
theorem asArg_r {H : Nat → Option Ob} {n : Bool} {r : R} : AsArg H (.one (.r n r)) (.one r) := fun ι base w own v hH h =>
  r.mono (Cx.Ext.sub (by rw [Cx.young_w]) (fun b (hb : False) => hb.elim)) h
def AsArgs (H : Nat → Option Ob) (ev : Operand → D) : List Operand → List P0 → Prop
  | [], [] => True
  | x :: xs, y :: ys => AsArg H (ev x) y ∧ AsArgs H ev xs ys
  | _, _ => False
theorem args_of {H : Nat → Option Ob} {ev : Operand → D} {ι : Nat → Nat × Nat} {base : Nat} {w : World} {own : Nat → Prop} {e : Operand → Value} (hH : ∀ k ob, H k = some ob → own (ι k).1 ∧ ob.p ι base ⟨w, own⟩ (ι k)) :
    ∀ (xs : List Operand) (ys : List P0), (∀ x ∈ xs, (ev x).p ι base ⟨w, own⟩ (e x)) → AsArgs H ev xs ys → Args ⟨w, fun _ => False⟩ (xs.map e) ys
  | [], [], _, _ => trivial
  | x :: xs, y :: ys, h, ⟨h1, h2⟩ => ⟨h1 ι base w own _ hH (h x (by simp)), args_of hH xs ys (fun x hx => h x (by simp [hx])) h2⟩
  | [], _ :: _, _, h => h.elim
  | _ :: _, [], _, h => h.elim
theorem loc_call {P : Program} {H : Nat → Option Ob} {ev : Operand → D} {o : Oper} {f : FuncId} {res : Res} {ys : List P0} (xs : List Operand) (tys : Array TypeId) (ho : o.op = .call { callee := .value (.func f), args := xs.toArray, argTypes := tys }) (ha : AsArgs H ev xs ys) (hf : Fn P f ys res) : Loc P H ev o res.d := by
  intro base a w ι own hown hbase hev hH _ K Q hK
  have hm : ∀ x ∈ xs, (ev x).p ι base ⟨w, own⟩ (a.eval x) := fun x hx => hev x (by rw [ho]; simp [Op.operands, Call.operands, hx])
  have hA := args_of hH xs ys hm ha
  have hrun : (execOp a.eval o).run P w = .ok (.enter f (xs.map a.eval).toArray) w := by
    unfold execOp
    rw [ho]
    simp [resolve, Act.eval, Deferred.ofValue, invoke, hf.1 _ _]
  unfold Oper.wp
  rw [hrun, Oper.upon_enter]
  refine (hf.2 w _ (hbase.2.mono hbase.1) hA).mono ?_
  rintro e w' ⟨v, rfl, hp, hb⟩
  have hx : Cx.Ext ⟨w', fun b => b < w.heap.size⟩ (Cx.young ⟨w', own⟩ base true) := Cx.Ext.sub rfl (by
    intro b hb'
    rcases hb' with h | h
    · exact (hown b h).2
    · exact Nat.lt_of_lt_of_le h hbase.1)
  exact hK v w' ι own (Chg.quiet hown hb (Res.d_p (Res.mono hx hp)))
def look : List (Nat × D) → Nat → D
  | [] => fun _ => .any
  | (t, d) :: l => upd (look l) t d
def lookH : List (Nat × Ob) → Nat → Option Ob
  | [] => fun _ => none
  | (k, o) :: l => upd (lookH l) k (some o)
def mkS (n : Nat) (l : List (Nat × D)) (h : List (Nat × Ob)) : St := ⟨n, look l, lookH h⟩
theorem Chg.fresh {base : Nat} {w w' : World} {ι : Nat → Nat × Nat} {own : Nat → Prop} {t : Nat} {g : Nat × Nat} {ob : Ob} {d : D} {v : Value} (hown : ∀ b, own b → base ≤ b ∧ b < w.heap.size) (hb : Below w.heap.size w w') (hg : w.heap.size ≤ g.1) (hg' : g.1 < w'.heap.size) (ho : ob.p (upd ι t g) base ⟨w', fun b => own b ∨ b = g.1⟩ g) (hd : d.p (upd ι t g) base ⟨w', fun b => own b ∨ b = g.1⟩ v) :
    Chg base w w' ι (upd ι t g) own (fun b => own b ∨ b = g.1) v d [] [t] [(t, some ob)] :=
  ⟨hb.os, hb.tape, hb.output, hb.size, fun b h _ => hb.block b h, .of_below hb, fun _ h _ => .inl h, fun b h => by
      rcases h with h | h
      · exact .inl h
      · exact .inr (by rw [h]; exact hg), fun b h => by
      rcases h with h | h
      · exact Nat.lt_of_lt_of_le (hown b h).2 hb.size
      · rw [h]; exact hg',
    fun k hk => upd_ne _ _ (fun e => hk (by simp [e])), hd, fun k ob' h => by
      obtain ⟨rfl, rfl⟩ : k = t ∧ ob' = ob := by simpa using h
      rw [upd_same]; exact ⟨.inr rfl, ho, .inl hg⟩, fun k ob1 k' ob2 h h' _ => by
      obtain ⟨rfl, rfl⟩ : k = t ∧ ob1 = ob := by simpa using h
      obtain ⟨rfl, rfl⟩ : k' = k ∧ ob2 = ob1 := by simpa using h'
      rfl⟩
theorem ext_write {w w' : World} {ι : Nat → Nat × Nat} {own : Nat → Prop} {k : Nat} (hko : own (ι k).1) (hg : w.grownBy w' (some (ι k).1)) (hz : w'.heap.size = w.heap.size) : Cx.Ext ⟨w, own⟩ ⟨w', own⟩ := ⟨by simp [hz], fun _ _ h => h, fun b h1 h2 => .inl (hg.block b h1 (fun e => by injection e with e; subst e; exact h2 hko))⟩
theorem Chg.write {base : Nat} {w w' : World} {ι : Nat → Nat × Nat} {own : Nat → Prop} {k : Nat} {ob' : Ob} {v : Value} (hown : ∀ b, own b → base ≤ b ∧ b < w.heap.size) (hko : own (ι k).1) (hg : w.grownBy w' (some (ι k).1)) (hz : w'.heap.size = w.heap.size) (hsz : Sized w w') (ho : ob'.p ι base ⟨w', own⟩ (ι k)) :
    Chg base w w' ι ι own own v .any [k] [] [(k, some ob')] :=
  ⟨hg.os, hg.tape, hg.output, hg.size, fun b h hn => hg.block b h (fun e => by injection e with e; exact hn k (by simp) e), hsz, fun _ h _ => h, fun _ h => .inl h, fun b h => by rw [hz]; exact (hown b h).2,
    fun _ _ => rfl, trivial, fun k1 ob1 h => by
      obtain ⟨rfl, rfl⟩ : k1 = k ∧ ob1 = ob' := by simpa using h
      exact ⟨hko, ho, .inr ⟨k1, by simp, rfl⟩⟩, fun k1 ob1 k' ob2 h h' _ => by
      obtain ⟨rfl, rfl⟩ : k1 = k ∧ ob1 = ob' := by simpa using h
      obtain ⟨rfl, rfl⟩ : k' = k1 ∧ ob2 = ob1 := by simpa using h'
      rfl⟩
theorem cells_agree {t : Nat} {g : Nat × Nat} {ι : Nat → Nat × Nat} : Agree [t] ι (upd ι t g) := fun k hk => upd_ne _ _ (fun e => hk (by simp [e]))
def zOf (P : Program) (t : TypeId) : Option (List Value) := match P.info? t with | some i => (match i.zero with | some v => if v.cells.toList.all Value.oneCell' then some v.cells.toList else none | none => none) | none => none
theorem newVar_run {P : Program} (t : TypeId) (v : Value) (w : World) : (newVar t v).run P w = .ok ⟨w.heap.size, 0, none⟩ (w.alloc (.cells v.cells t)) := by
  unfold newVar newRow
  simp
theorem below_alloc (w : World) (o : Obj) : Below w.heap.size w (w.alloc o) := (Below.refl _ _).alloc (Nat.le_refl _) o
theorem heap_new (w : World) (o : Obj) : (w.alloc o).heap[w.heap.size]? = some o := by
  show (w.heap.push o)[w.heap.size]? = some o
  simp
theorem size_new (w : World) (o : Obj) : (w.alloc o).heap.size = w.heap.size + 1 := by
  show (w.heap.push o).size = _
  simp
theorem eff_alloc {P : Program} {o : Oper} {t : Nat} {H : Nat → Option Ob} {ev : Operand → D} {zs : List Value} (E : TypeId) (ho : o.op = .alloc E) (hz : zOf P E = some zs) :
    Eff P H ev o (.one (.ptr t 0 0 0)) [] [t] [(t, some (.var E (zs.map cellOf)))] := by
  intro base a w ι own hown hbase hev hH _ K Q hK
  unfold zOf at hz
  cases hi : P.info? E with
  | none => simp [hi] at hz
  | some i =>
    cases hv : i.zero with
    | none => simp [hi, hv] at hz
    | some v =>
      simp only [hi, hv, Option.ite_none_right_eq_some, Option.some.injEq] at hz
      obtain ⟨hall, rfl⟩ := hz
      have hrun : (execOp a.eval o).run P w = .ok (.value (.pointer (some ⟨w.heap.size, 0, none⟩))) (w.alloc (.cells v.cells E)) := by
        unfold execOp
        rw [ho]
        simp [Instr.alloc, zeroValue, typeInfo, hi, hv, newVar_run]
      unfold Oper.wp
      rw [hrun, Oper.upon_value]
      refine hK _ _ _ _ (Chg.fresh (g := (w.heap.size, 0)) hown (below_alloc _ _) (Nat.le_refl _) (by rw [size_new]; omega) ?_ ?_)
      · refine ⟨v.cells, heap_new _ _, by simp, fun j x hj => ?_⟩
        simp only [List.getElem?_map, Option.map_eq_some_iff] at hj
        obtain ⟨u, hu, rfl⟩ := hj
        refine ⟨u, by simpa using hu, cellOf_p ?_⟩
        exact List.all_eq_true.1 hall u (List.mem_of_getElem? hu)
      · show _ = Value.pointer _
        rw [upd_same]
def D.cells : D → Option (List Cell)
  | .one x => some [x]
  | .agg xs => some xs
  | _ => none
theorem D.cells_p {ι : Nat → Nat × Nat} {base : Nat} {c : Cx} {v : Value} : ∀ {d : D} {xs : List Cell}, d.cells = some xs → d.p ι base c v → v.cells.size = xs.length ∧ ∀ (j : Nat) (x : Cell), xs[j]? = some x → ∃ u, v.cells[j]? = some u ∧ x.p ι base c u
  | .one x, xs, hc, h => by
    injection hc with hc
    subst hc
    have h1 : v.cells = #[v] := by have := Cell.one h;cases v <;> first|rfl|(simp [Value.oneCell'] at this)
    rw [h1]
    refine ⟨rfl, fun j y hj => ?_⟩
    cases j with
    | zero => simp at hj; subst hj; exact ⟨v, rfl, h⟩
    | succ j => simp at hj
  | .agg xs, _, hc, ⟨vs, h1, h2, h3⟩ => by
    injection hc with hc
    subst hc
    subst h1
    exact ⟨by simpa [Value.cells] using h2, fun j x hj => let ⟨u, hu, hx⟩ := h3 j x hj; ⟨u, by simpa [Value.cells] using hu, hx⟩⟩
  | .tup _ _, _, hc, _ => by cases hc
  | .tups _, _, hc, _ => by cases hc
  | .any, _, hc, _ => by cases hc
theorem D.cells_men {t : Nat} : ∀ {d : D} {xs : List Cell}, d.cells = some xs → d.men t = xs.any (Cell.men t)
  | .one x, _, h => by injection h with h; subst h; simp [D.men]
  | .agg xs, _, h => by injection h with h; subst h; rfl
  | .tup _ _, _, h => by cases h
  | .tups _, _, h => by cases h
  | .any, _, h => by cases h
theorem eff_box {P : Program} {o : Oper} {t : Nat} {H : Nat → Option Ob} {ev : Operand → D} {d : D} {cs : List Cell} (E : TypeId) (x : Operand) (ho : o.op = .box E x) (hx : ev x = d) (hc : d.cells = some cs) (hdm : d.men t = false) :
    Eff P H ev o (.one (.ptr t 0 0 0)) [] [t] [(t, some (.var E cs))] := by
  intro base a w ι own hown hbase hev hH _ K Q hK
  have hrun : (execOp a.eval o).run P w = .ok (.value (.pointer (some ⟨w.heap.size, 0, none⟩))) (w.alloc (.cells (a.eval x).cells E)) := by
    unfold execOp
    rw [ho]
    simp [Instr.box, newVar_run]
  unfold Oper.wp
  rw [hrun, Oper.upon_value]
  have hv := hev x (by rw [ho]; simp [Op.operands])
  rw [hx] at hv
  obtain ⟨h1, h2⟩ := D.cells_p hc hv
  refine hK _ _ _ _ (Chg.fresh (g := (w.heap.size, 0)) hown (below_alloc _ _) (Nat.le_refl _) (by rw [size_new]; omega) ?_ ?_)
  · refine ⟨(a.eval x).cells, heap_new _ _, by rw [h1]; simp, fun j y hj => ?_⟩
    obtain ⟨u, hu, hy⟩ := h2 j y hj
    refine ⟨u, by simpa using hu, Cell.p_agree cells_agree (fun t' ht' => ?_) (Cell.mono (c := ⟨w, own⟩) (c' := ⟨w.alloc (.cells (a.eval x).cells E), fun b => own b ∨ b = w.heap.size⟩) ?_ (.of_below (below_alloc w _)) hy)⟩
    · obtain rfl : t' = t := by simpa using ht'
      rw [D.cells_men hc] at hdm
      simp only [List.any_eq_false] at hdm
      simpa using hdm y (List.mem_of_getElem? hj)
    · exact ⟨(below_alloc w _).size, fun b hb' h => by
        rcases h with h | h
        · exact h
        · have h1 : b < w.heap.size := hb'
          have h2 : b = w.heap.size := h
          omega, fun b h1 _ => .inl ((below_alloc w _).block b h1)⟩
  · show _ = Value.pointer _
    rw [upd_same]
theorem storeCells_run {P : Program} {b : Nat} {E : TypeId} : ∀ (vs : List Value) (o i : Nat) (w : World) (arr : Array Value), (∀ v ∈ vs, v.oneCell' = true) → w.heap[b]? = some (.cells arr E (0, 0)) → o + i + vs.length ≤ arr.size →
    ∃ (w' : World) (arr' : Array Value), (storeCells ⟨b, o, none⟩ vs i).run P w = .ok () w' ∧ w'.heap[b]? = some (.cells arr' E (0, 0)) ∧ arr'.size = arr.size ∧ (∀ j, arr'[j]? = if o + i ≤ j ∧ j < o + i + vs.length then vs[j - (o + i)]? else arr[j]?) ∧ w.grownBy w' (some b) ∧ w'.heap.size = w.heap.size
  | [], o, i, w, arr, _, hb, hl => ⟨w, arr, rfl, hb, rfl, fun j => by rw [if_neg (by simp only [List.length_nil]; omega)], World.grownBy.refl w _, rfl⟩
  | v :: vs, o, i, w, arr, h1, hb, hl => by
    simp only [List.length_cons] at hl
    have ha : Addr.add ⟨b, o, none⟩ i = ⟨b, o + i, none⟩ := Addr.add_lit b o i
    have hc : w.cell? ⟨b, o + i, none⟩ = some arr[o + i] := by rw [cell_of_arr hb]; exact Array.getElem?_eq_getElem (by omega)
    have hf : w.frozen? ⟨b, o + i, none⟩ = false := by simp [World.frozen?, hb]
    have hb1 : (w.setCell ⟨b, o + i, none⟩ v).heap[b]? = some (.cells (arr.setIfInBounds (o + i) v) E (0, 0)) := by
      show (w.heap.modify b _)[b]? = _
      have hlt := lt_of_heap hb
      rw [Array.getElem?_eq_getElem (by simpa using hlt), Array.getElem_modify_self]
      have : w.heap[b] = .cells arr E (0, 0) := by simpa [Array.getElem?_eq_getElem hlt] using hb
      rw [this]
      rfl
    obtain ⟨w', arr', g1, g2, g3, g4, g5, g6⟩ := storeCells_run (P := P) vs o (i + 1) (w.setCell ⟨b, o + i, none⟩ v) (arr.setIfInBounds (o + i) v) (fun u hu => h1 u (by simp [hu])) hb1 (by simp; omega)
    refine ⟨w', arr', ?_, g2, by rw [g3]; simp, ?_, gb_trans ?_ g5, by rw [g6]; simp [World.setCell]⟩
    · simp only [storeCells, Sem.run_bind, ha, run_store P w _ v .plain (h1 v (by simp)), hc, hf]
      exact g1
    · intro j
      rw [g4 j]
      by_cases hj : j = o + i
      · subst hj
        rw [if_neg (by omega), if_pos (by simp only [List.length_cons]; omega)]
        have : o + i < arr.size := by omega
        simp [this]
      · by_cases h2 : o + (i + 1) ≤ j ∧ j < o + (i + 1) + vs.length
        · rw [if_pos h2, if_pos (by simp only [List.length_cons]; omega), show j - (o + i) = (j - (o + (i + 1))) + 1 by omega, List.getElem?_cons_succ]
        · rw [if_neg h2, if_neg (by simp only [List.length_cons]; omega), Array.getElem?_setIfInBounds_ne (by omega)]
    · exact gb_set (gb_refl w (some b)) (.inl rfl) v
theorem storeVar_run {P : Program} {t : TypeId} {ag : Bool} {n b o : Nat} {E : TypeId} {v : Value} (hT : tyOf P t = some (ag, n)) (w : World) (arr : Array Value) (hn : v.cells.size = n) (h1 : ∀ (j : Nat) (u : Value), v.cells[j]? = some u → u.oneCell' = true) (hb : w.heap[b]? = some (.cells arr E (0, 0))) (hl : o + n ≤ arr.size) :
    ∃ (w' : World) (arr' : Array Value), (storeVar t ⟨b, o, none⟩ v).run P w = .ok () w' ∧ w'.heap[b]? = some (.cells arr' E (0, 0)) ∧ arr'.size = arr.size ∧ (∀ j, arr'[j]? = if o ≤ j ∧ j < o + n then v.cells[j - o]? else arr[j]?) ∧ w.grownBy w' (some b) ∧ w'.heap.size = w.heap.size := by
  obtain ⟨w', arr', g1, g2, g3, g4, g5, g6⟩ := storeCells_run (P := P) v.cells.toList o 0 w arr (fun u hu => by obtain ⟨j, hj⟩ := List.getElem?_of_mem hu; exact h1 j u (by simpa using hj)) hb (by simp; omega)
  refine ⟨w', arr', ?_, g2, g3, fun j => ?_, g5, g6⟩
  · unfold storeVar
    simp only [Sem.run_bind, (tyOf_run hT w).2, Result.andThen_ok, hn, ne_eq, not_true_eq_false, if_false, g1]
  · rw [g4 j]
    simp [hn]
def splice (off : Nat) (xs cs : List Cell) : List Cell := cs.take off ++ xs ++ cs.drop (off + xs.length)
theorem splice_get {off : Nat} {xs cs : List Cell} (h : off + xs.length ≤ cs.length) (j : Nat) : (splice off xs cs)[j]? = if off ≤ j ∧ j < off + xs.length then xs[j - off]? else cs[j]? := by
  unfold splice
  have hl : (cs.take off).length = off := by rw [List.length_take]; omega
  by_cases h1 : j < off
  · rw [List.append_assoc, List.getElem?_append_left (by omega), List.getElem?_take, if_pos h1, if_neg (by omega)]
  · by_cases h2 : j < off + xs.length
    · rw [if_pos ⟨by omega, h2⟩, List.getElem?_append_left (by simp; omega), List.getElem?_append_right (by omega), hl]
    · rw [if_neg (by omega), List.getElem?_append_right (by simp; omega), List.getElem?_drop]
      congr 1
      simp
      omega
theorem splice_len {off : Nat} {xs cs : List Cell} (h : off + xs.length ≤ cs.length) : (splice off xs cs).length = cs.length := by
  unfold splice
  simp
  omega
theorem eff_store {P : Program} {o : Oper} {k off m : Nat} {ag : Bool} {H : Nat → Option Ob} {ev : Operand → D} {d : D} {E : TypeId} {xs cells : List Cell} (t : TypeId) (x y : Operand) (ho : o.op = .store t x y) (hd : o.dst = none) (hx : ev x = .one (.ptr k 0 0 off)) (hT : tyOf P t = some (ag, m)) (hk : H k = some (.var E cells)) (hy : ev y = d) (hc : d.cells = some xs) (hl : xs.length = m) (hn : Nat.ble (off + m) cells.length = true) :
    Eff P H ev o .any [k] [] [(k, some (.var E (splice off xs cells)))] := by
  intro base a w ι own hown hbase hev hH _ K Q hK
  have hx1 := hev x (by rw [ho]; simp [Op.operands])
  rw [hx] at hx1
  have hx2 : a.eval x = .pointer (some ⟨(ι k).1, (ι k).2 + off, none⟩) := by have : a.eval x = .pointer (some ⟨(ι k).1, (ι k).2 + (0 * 0 + off), none⟩) := hx1; simpa using this
  have hv := hev y (by rw [ho]; simp [Op.operands])
  rw [hy] at hv
  obtain ⟨g1, g2⟩ := D.cells_p hc hv
  obtain ⟨hko, arr, e1, e2, e3⟩ := hH k _ hk
  have hnn : off + m ≤ cells.length := by simpa using hn
  obtain ⟨w', arr', f1, f2, f3, f4, f5, f6⟩ := storeVar_run (P := P) (o := (ι k).2 + off) hT w arr (by rw [g1, hl]) (fun j u hj => by
    have hjl : j < xs.length := by rw [← g1]; rcases Nat.lt_or_ge j (a.eval y).cells.size with h | h; exact h; rw [Array.getElem?_eq_none h] at hj; cases hj
    obtain ⟨u', h1, h2⟩ := g2 j _ (List.getElem?_eq_getElem hjl)
    rw [h1] at hj; injection hj with hj; subst hj; exact Cell.one h2) e1 (by omega)
  have hrun : (execOp a.eval o).run P w = .ok .skip w' := by
    unfold execOp
    rw [ho]
    simp [hx2, Instr.storeAt, Instr.sureAddr, f1]
  unfold Oper.wp
  rw [hrun, Oper.upon_skip, hd]
  have hsz : Sized w w' := fun b ar T hb => by
    by_cases hbk : b = (ι k).1
    · subst hbk
      have e1' : w.heap[(ι k).1]? = some (.cells arr E (0, 0)) := e1
      rw [e1'] at hb
      injection hb with hb
      injection hb with hb1 hb2
      subst hb1 hb2
      exact ⟨arr', f2, f3⟩
    · exact ⟨ar, by rw [f5.block b (lt_of_heap hb) (fun e => by injection e with e; exact hbk e)]; exact hb, rfl⟩
  have hK' := hK undef
  rw [hd] at hK'
  have hxx := ext_write (own := own) hko f5 f6
  refine hK' _ _ _ (Chg.write hown hko f5 f6 hsz ⟨arr', f2, by rw [f3, splice_len (by omega)]; exact e2, fun j z hj => ?_⟩)
  rw [splice_get (by omega)] at hj
  rw [f4]
  rw [hl] at hj
  by_cases hjj : off ≤ j ∧ j < off + m
  · rw [if_pos hjj] at hj
    rw [if_pos (by omega)]
    obtain ⟨u, hu, hz⟩ := g2 _ z hj
    exact ⟨u, by rw [show (ι k).2 + j - ((ι k).2 + off) = j - off by omega]; exact hu, Cell.mono hxx hsz hz⟩
  · rw [if_neg hjj] at hj
    rw [if_neg (by omega)]
    obtain ⟨u, hu, hz⟩ := e3 j z hj
    exact ⟨u, hu, Cell.mono hxx hsz hz⟩
end Go.Proofs.YtlobefglhppbdaaGreatDoor.Abs
set_option linter.unusedSimpArgs false
set_option linter.unusedVariables false
namespace Go.Proofs.YtlobefglhppbdaaGreatDoor.Abs
open Go.RowKit
open R (val row ref)
def Grd (ops : Array Oper) (o : Oper) (s : St) (g : Bool) : Prop :=
  match o.guard with
  | none => g = true
  | some (j, want) => ∃ t m, (ops[j]?).bind (·.dst) = some t ∧ ((∃ b, s.env t = .one (.r m (bool b)) ∧ g = (b == want)) ∨ s.env t = .tup m [] ∧ g = false)
theorem dstOk_spec {n : Nat} {o : Oper} (h : dstOk n o = true) : ∀ t, o.dst = some t → t < n := by
  intro t ht
  simpa [dstOk, ht] using h
def skipS : Sg := ⟨.tup true [], [], [], [], []⟩
def psh (σ : Sg) : Option (List Sg) → Option (List Sg)
  | none => none
  | some l => some (σ :: l)
def W (P : Program) (ops : Array Oper) (Z : List Sg → Bool) : List Oper → St → Option (List Sg) → (St → Prop) → Prop
  | [], s, q, K => (∀ acc, q = some acc → Z acc = true) ∧ K s
  | o :: rest, s, q, K => ∃ g σ, Grd ops o s g ∧ dstOk s.n o = true ∧ (g = true → Eff P (resH σ.fp s.heap) (evD s.env) o σ.d σ.τ σ.new σ.U ∧ σ.fine s.heap ∧ σ.fresh o.dst s) ∧ (g = false → σ = skipS) ∧ W P ops Z rest (s.app o.dst σ) (psh σ q) K
theorem Grd.wanted {ops : Array Oper} {o : Oper} {w0 : Bs} {s : St} {g : Bool} {a : Act} {w : World} (h : Grd ops o s g) (hs : Sim w0 s a w) : Region.wanted o (yielded ops a.tmps) = g := by
  obtain ⟨ι, own, hs⟩ := hs
  unfold Grd at h
  unfold Region.wanted
  cases hg : o.guard with
  | none => simp [hg] at h ⊢; exact h
  | some p =>
    obtain ⟨j, want⟩ := p
    simp only [hg] at h ⊢
    obtain ⟨t, m, h1, ⟨b, h2, rfl⟩ | ⟨h2, rfl⟩⟩ := h
    case inr =>
      have h3 := hs.env t
      rw [h2] at h3
      obtain ⟨vs, h4, h5, _⟩ := h3
      unfold yielded
      rw [h1]
      simp only [Option.bind_some]
      have h6 : ∀ b, a.tmps[t]? ≠ some (.bool b) := fun b hb => by
        rw [Array.getD_eq_getD_getElem?, hb] at h4
        cases h4
      cases ht : a.tmps[t]? with
      | none => simp
      | some v =>
        cases v with
        | bool b => exact absurd ht (h6 b)
        | _ => simp
    have h3 := hs.env t
    rw [h2] at h3
    have h4 : a.tmps.getD t undef = .bool b := h3.1
    have h5 : a.tmps[t]? = some (.bool b) := by
      rcases Nat.lt_or_ge t a.tmps.size with hlt | hge
      · rw [Array.getD_eq_getD_getElem?, Array.getElem?_eq_getElem hlt] at h4
        rw [Array.getElem?_eq_getElem hlt]
        simpa using h4
      · rw [Array.getD_eq_getD_getElem?, Array.getElem?_eq_none hge] at h4
        cases h4
    unfold yielded
    rw [h1]
    simp only [Option.bind_some, h5]
    cases b <;> cases want <;> rfl
theorem skip_fine (H : Nat → Option Ob) : skipS.fine H := ⟨fun k h => by simp [skipS] at h, fun k h => by simp [skipS] at h⟩
theorem skip_fresh (dst : Option Nat) (s : St) : skipS.fresh dst s := fun t h => by simp [skipS] at h
theorem Sim.skip {w0 : Bs} {s : St} {a : Act} {w : World} (hs : Sim w0 s a w) (dst : Option Nat) (ht : ∀ t, dst = some t → t < s.n) : Sim w0 (s.app dst skipS) (a.put dst undef) w := by
  obtain ⟨ι, own, hs⟩ := hs
  exact ⟨ι, own, hs.eff (σ := skipS) (Chg.quiet hs.own_ (Below.refl _ _) ⟨[], rfl, rfl, fun j x hj => by simp at hj⟩) (skip_fine _) (skip_fresh _ _) ht⟩
theorem resH_some {fp : List Nat} {H : Nat → Option Ob} {k : Nat} {ob : Ob} (h : resH fp H k = some ob) : H k = some ob := by
  unfold resH at h
  split at h
  · exact h
  · cases h
theorem Sim.step {P : Program} {w0 : Bs} {s : St} {a : Act} {w : World} {o : Oper} {σ : Sg} (hs : Sim w0 s a w) (he : Eff P (resH σ.fp s.heap) (evD s.env) o σ.d σ.τ σ.new σ.U) (hf : σ.fine s.heap) (hm : σ.fresh o.dst s) (ht : ∀ t, o.dst = some t → t < s.n) {K : Act → World → Prop} {Q : Exit → Act → World → Prop} (hK : ∀ a' w', Sim w0 (s.app o.dst σ) a' w' → K a' w') : o.wp P a w K Q := by
  obtain ⟨ι, own, hs⟩ := hs
  refine he w0.base a w ι own hs.own_ ⟨Nat.le_trans hs.base_.1 hs.below.size, hs.base_.2⟩ (fun x _ => hs.ev x) (fun k ob hk => hs.heap k ob (resH_some hk)) (fun k k' ob ob' hk hk' => hs.inj k k' ob ob' (resH_some hk) (resH_some hk')) K Q ?_
  intro v w' ι' own' hc
  exact hK _ _ ⟨ι', own', hs.eff hc hf hm ht⟩
def Post (w0 : Bs) (Q : Exit → St → Prop) : Exit → Act → World → Prop := fun e a w => ∃ s, Q e s ∧ Sim w0 s a w
theorem wpList_of_W {P : Program} {ops : Array Oper} {Z : List Sg → Bool} {w0 : Bs} {Q : Exit → St → Prop} : ∀ (l : List Oper) (s : St), W P ops Z l s none (fun s' => Q .normal s') → ∀ a w, Sim w0 s a w → wpList P ops (Post w0 Q) l a w
  | [], s, h, a, w, hs => wpList_nil ⟨s, h.2, hs⟩
  | o :: rest, s, h, a, w, hs => by
    obtain ⟨g, σ, hg, hd, h1, h2, hW⟩ := h
    refine wpList_step fun K hK => ?_
    rw [hg.wanted hs]
    cases g with
    | true =>
      obtain ⟨he, hf, hm⟩ := h1 rfl
      simp only [if_true]
      exact hs.step he hf hm (dstOk_spec hd) (fun a' w' hs' => hK _ _ (wpList_of_W rest _ hW a' w' hs'))
    | false =>
      simp only [Bool.false_eq_true, if_false]
      have := h2 rfl
      subst this
      exact hK _ _ (wpList_of_W rest _ hW _ _ (hs.skip o.dst (dstOk_spec hd)))
theorem Eff.congr {P : Program} {H H' : Nat → Option Ob} {ev ev' : Operand → D} {o : Oper} {d : D} {τ new : List Nat} {U : List (Nat × Option Ob)} (h : Eff P H ev o d τ new U) (hH : H' = H) (he : ∀ x ∈ o.op.operands, ev' x = ev x) : Eff P H' ev' o d τ new U := by
  subst hH
  intro base a w ι own h1 h2 h3
  exact h base a w ι own h1 h2 (fun x hx => he x hx ▸ h3 x hx)
def QS (P : Program) (ops : Array Oper) (o : Oper) (σ : Sg) (s s' : St) : Prop :=
  ∃ g, Grd ops o s g ∧ dstOk s.n o = true ∧ (g = true → Eff P (resH σ.fp s.heap) (evD s.env) o σ.d σ.τ σ.new σ.U ∧ σ.fine s.heap) ∧ (g = false → σ = skipS) ∧ s' = s.app o.dst σ
theorem putE_ne {e : Nat → D} {dst : Option Nat} {d : D} {t : Nat} (h : dst ≠ some t) : putE e dst d t = e t := by
  cases dst with
  | none => rfl
  | some u => exact upd_ne _ _ (fun e => h (by rw [e]))
theorem Grd.app {ops : Array Oper} {o : Oper} {s : St} {g : Bool} {dst : Option Nat} {σ : Sg} (h : ∀ t, dst = some t → t ∉ o.looksAt ops) : Grd ops o (s.app dst σ) g ↔ Grd ops o s g := by
  unfold Grd
  cases hg : o.guard with
  | none => rfl
  | some p =>
    obtain ⟨j, want⟩ := p
    constructor
    all_goals
      rintro ⟨t, m, h1, h2⟩
      refine ⟨t, m, h1, ?_⟩
    · have e : (s.app dst σ).env t = s.env t := putE_ne (fun hd => h t hd (by simp [Oper.looksAt, hg, h1]))
      rw [e] at h2
      exact h2
    · have e : (s.app dst σ).env t = s.env t := putE_ne (fun hd => h t hd (by simp [Oper.looksAt, hg, h1]))
      rw [e]
      exact h2
theorem ev_put {ops : Array Oper} {o : Oper} {e : Nat → D} {dst : Option Nat} {d : D} (h : ∀ t, dst = some t → t ∉ o.looksAt ops) : ∀ x ∈ o.op.operands, evD (putE e dst d) x = evD e x := by
  intro x hx
  cases x with
  | tmp t =>
    refine putE_ne (fun hd => h t hd ?_)
    simp only [Oper.looksAt, List.mem_append, List.mem_filterMap]
    exact .inl ⟨.tmp t, by simpa using hx, rfl⟩
  | const v => rfl
  | func f => rfl
  | global g => rfl
theorem appU_ne {U : List (Nat × Option Ob)} {H : Nat → Option Ob} {k : Nat} (h : k ∉ U.map (·.1)) : appU U H k = H k := by
  unfold appU
  rw [findU_none.2 h]; rfl
def Sg.dom (σ : Sg) : List Nat := σ.U.map (·.1)
def Disj (a b : List Nat) : Prop := ∀ k ∈ a, k ∉ b
theorem resH_app {σ : Sg} {fp : List Nat} {H : Nat → Option Ob} (h : Disj σ.dom fp) : resH fp (appU σ.U H) = resH fp H := by
  funext k
  unfold resH
  split
  · rename_i hk; exact appU_ne (fun hn => h k hn hk)
  · rfl
theorem fine_congr {σ : Sg} {H H' : Nat → Option Ob} (h : ∀ k ∈ σ.fp, H' k = H k) (hf : σ.fine H) : σ.fine H' := ⟨fun k hk => ⟨(hf.1 k hk).1, by rw [h k (hf.1 k hk).1]; exact (hf.1 k hk).2.1, (hf.1 k hk).2.2⟩, hf.2⟩
theorem QS.swap {P : Program} {ops : Array Oper} {oi oj : Oper} {σi σj : Sg} {s s1 s2 : St} (hap : oi.apart ops oj = true) (d1 : Disj σi.dom σj.fp) (d2 : Disj σj.dom σi.fp) (d3 : Disj σi.dom σj.dom) (hi : QS P ops oi σi s s1) (hj : QS P ops oj σj s1 s2) : ∃ s1', QS P ops oj σj s s1' ∧ QS P ops oi σi s1' s2 := by
  obtain ⟨a1, a2, a3⟩ := Oper.apart_spec hap
  obtain ⟨gi, hgi, hdi, li1, li2, rfl⟩ := hi
  obtain ⟨gj, hgj, hdj, lj1, lj2, rfl⟩ := hj
  refine ⟨s.app oj.dst σj, ⟨gj, (Grd.app a1).1 hgj, hdj, fun h => ?_, lj2, rfl⟩, ⟨gi, (Grd.app a3).2 hgi, hdi, fun h => ?_, li2, ?_⟩⟩
  · obtain ⟨e1, e2⟩ := lj1 h
    exact ⟨e1.congr (resH_app d1).symm (fun x hx => (ev_put a1 x hx).symm), fine_congr (fun k hk => (appU_ne (fun hn => d1 k hn hk)).symm) e2⟩
  · obtain ⟨e1, e2⟩ := li1 h
    exact ⟨e1.congr (resH_app d2) (fun x hx => ev_put a3 x hx), fine_congr (fun k hk => appU_ne (fun hn => d2 k hn hk)) e2⟩
  · have he : putE (putE s.env oi.dst σi.d) oj.dst σj.d = putE (putE s.env oj.dst σj.d) oi.dst σi.d := by
      cases hi : oi.dst with
      | none => rfl
      | some t =>
        cases hj : oj.dst with
        | none => rfl
        | some u =>
          have hne : t ≠ u := fun e => a2 t hi (by rw [hj, e])
          funext v
          simp only [putE, upd]
          by_cases h1 : v = u
          · subst h1; rw [if_pos rfl, if_neg (Ne.symm hne), if_pos rfl]
          · rw [if_neg h1]; by_cases h2 : v = t
            · rw [if_pos h2, if_pos h2]
            · rw [if_neg h2, if_neg h2, if_neg h1]
    have hh : appU σj.U (appU σi.U s.heap) = appU σi.U (appU σj.U s.heap) := by
      funext k
      by_cases h1 : k ∈ σi.dom
      · rw [appU_ne (U := σj.U) (d3 k h1)]
        unfold appU
        cases hf : findU σi.U k with
        | none => exact absurd h1 (findU_none.1 hf)
        | some x => rfl
      · rw [appU_ne (U := σi.U) (k := k) h1]
        unfold appU
        cases hf : findU σj.U k with
        | none => simp only [Option.getD_none]; rw [findU_none.2 h1]; rfl
        | some x => rfl
    show (⟨s.n, _, _⟩ : St) = ⟨s.n, _, _⟩
    exact congr (congrArg _ he) hh
def DC (ops : Array Oper) (listed : Array Bool) : Prop := ∀ j o, ops[j]? = some o → listed.getD j false = true → ∀ x ∈ o.after, Region.binds .any x = true → listed.getD x.on false = true
theorem DC.set {ops : Array Oper} {listed : Array Bool} {j : Nat} (h : DC ops listed) (hj : j ∈ Region.ready .any ops listed) : DC ops (listed.setIfInBounds j true) := by
  intro i o hi hl x hx hb
  by_cases hij : j = i
  · subst hij
    obtain ⟨_, o', ho', hall⟩ := mem_ready.1 hj
    rw [hi] at ho'; injection ho' with ho'; subst ho'
    exact getD_set_true (hall x hx hb)
  · rw [getD_set_ne false hij] at hl
    exact getD_set_true (h i o hi hl x hx hb)
def maskO (tab : List Nat) (o : Oper) : Nat := o.after.toList.foldl (fun m x => bif Region.binds .any x then (m ||| (1 <<< x.on)) ||| tab.getD x.on 0 else m) 0
def TabOk (ops : Array Oper) (tab : List Nat) : Prop := ∀ (j m : Nat), tab[j]? = some m → ∀ i, m.testBit i = true → ∀ listed, DC ops listed → (∀ o, ops[j]? = some o → ∀ x ∈ o.after, Region.binds .any x = true → listed.getD x.on false = true) → listed.getD i false = true
theorem maskO_bit {tab : List Nat} {o : Oper} {i : Nat} (h : (maskO tab o).testBit i = true) : ∃ x ∈ o.after, Region.binds .any x = true ∧ (i = x.on ∨ (tab.getD x.on 0).testBit i = true) := by
  have key : ∀ (l : List Edge) (m : Nat), (l.foldl (fun m (x : Edge) => bif Region.binds .any x then (m ||| (1 <<< x.on)) ||| tab.getD x.on 0 else m) m).testBit i = true → m.testBit i = true ∨ ∃ x ∈ l, Region.binds .any x = true ∧ (i = x.on ∨ (tab.getD x.on 0).testBit i = true) := by
    intro l
    induction l with
    | nil => intro m h; exact .inl h
    | cons x l ih =>
      intro m h
      rw [List.foldl_cons] at h
      rcases ih _ h with h1 | ⟨y, hy, h1⟩
      · cases hb : Region.binds .any x with
        | false => rw [hb] at h1; exact .inl h1
        | true =>
          rw [hb] at h1
          simp only [cond_true, Nat.testBit_or, Bool.or_eq_true, Nat.one_shiftLeft, Nat.testBit_two_pow, decide_eq_true_eq] at h1
          rcases h1 with (h1 | h1) | h1
          · exact .inl h1
          · exact .inr ⟨x, by simp, hb, .inl h1.symm⟩
          · exact .inr ⟨x, by simp, hb, .inr h1⟩
      · exact .inr ⟨y, by simp [hy], h1⟩
  rcases key _ _ h with h1 | ⟨x, hx, h1⟩
  · simp at h1
  · exact ⟨x, by simpa using hx, h1⟩
theorem TabOk.snoc {ops : Array Oper} {tab : List Nat} {o : Oper} (h : TabOk ops tab) (ho : ops[tab.length]? = some o) : TabOk ops (tab ++ [maskO tab o]) := by
  intro j m hj i hi listed hd hall
  rcases Nat.lt_or_ge j tab.length with hlt | hge
  · rw [List.getElem?_append_left hlt] at hj
    exact h j m hj i hi listed hd hall
  · rw [List.getElem?_append_right hge] at hj
    have hj0 : j = tab.length := by
      rcases Nat.eq_or_lt_of_le hge with e | e
      · exact e.symm
      · rw [List.getElem?_eq_none (by simp; omega)] at hj; cases hj
    subst hj0
    simp at hj
    subst hj
    obtain ⟨x, hx, hb, h1⟩ := maskO_bit hi
    have hl := hall o ho x hx hb
    rcases h1 with rfl | h1
    · exact hl
    · cases ht : tab[x.on]? with
      | none => rw [List.getD_eq_getElem?_getD, ht] at h1; simp at h1
      | some m' =>
        rw [List.getD_eq_getElem?_getD, ht] at h1
        exact h x.on m' ht i h1 listed hd (fun o' ho' y hy hyb => hd x.on o' ho' hl y hy hyb)
def ancT : List Nat → List Oper → List Nat
  | tab, [] => tab
  | tab, o :: l => ancT (tab ++ [maskO tab o]) l
theorem ancT_ok {ops : Array Oper} : ∀ (l : List Oper) (tab : List Nat), (∀ j, l[j]? = ops[tab.length + j]?) → TabOk ops tab → TabOk ops (ancT tab l)
  | [], tab, _, h => h
  | o :: l, tab, hl, h => ancT_ok l _ (fun j => by have := hl (j + 1); simpa [Nat.add_assoc, Nat.add_comm 1 j] using this) (h.snoc (by simpa using (hl 0).symm))
def cleanB (σ σ' : Sg) : Bool := σ'.new.all fun t => !σ.d.men t && σ.U.all fun p => match p.2 with | some ob => !ob.men t | none => true
def disjB (a b : List Nat) : Bool := a.all fun k => !(b.any (Nat.beq k))
def pairB (ops : Array Oper) (oi oj : Oper) (σi σj : Sg) : Bool := oi.apart ops oj && disjB σi.dom σj.fp && disjB σj.dom σi.fp && disjB σi.dom σj.dom && cleanB σj σi
theorem disjB_spec {a b : List Nat} (h : disjB a b = true) : Disj a b := fun k hk hb => by
  unfold disjB at h
  have := List.all_eq_true.1 h k hk
  simp only [Bool.not_eq_true', List.any_eq_false] at this
  exact this k hb (by simp)
def Clean (σ σ' : Sg) : Prop := ∀ t ∈ σ'.new, σ.d.men t = false ∧ ∀ k ob, (k, some ob) ∈ σ.U → ob.men t = false
theorem cleanB_spec {σ σ' : Sg} (h : cleanB σ σ' = true) : Clean σ σ' := fun t ht => by
  have := List.all_eq_true.1 h t ht
  simp only [Bool.and_eq_true, Bool.not_eq_true', List.all_eq_true] at this
  exact ⟨this.1, fun k ob hk => by simpa using this.2 _ hk⟩
def rowB (ops : Array Oper) (oj : Oper) (σj : Sg) (m : Nat) : Nat → List (Oper × Sg) → Bool
  | _, [] => true
  | i, (oi, σi) :: r => cleanB σi σj && (m.testBit i || pairB ops oi oj σi σj) && rowB ops oj σj m (i + 1) r
def allRows (ops : Array Oper) : List (Oper × Sg) → List (Oper × Sg) → List Nat → Bool
  | pre, (o, σ) :: r, m :: ms => (m >>> pre.length == 0) && rowB ops o σ m 0 pre && allRows ops (pre ++ [(o, σ)]) r ms
  | _, [], _ => true
  | _, _ :: _, [] => false
structure Pair (ops : Array Oper) (Sf : Nat → Sg) (tab : Nat → Nat) (i j : Nat) : Prop where
  c1 : Clean (Sf i) (Sf j)
  c2 : (tab j).testBit i = true ∨ (∀ oi oj, ops[i]? = some oi → ops[j]? = some oj → oi.apart ops oj = true) ∧ Disj (Sf i).dom (Sf j).fp ∧ Disj (Sf j).dom (Sf i).fp ∧ Disj (Sf i).dom (Sf j).dom ∧ Clean (Sf j) (Sf i)
theorem rowB_spec {ops : Array Oper} {oj : Oper} {σj : Sg} {m : Nat} : ∀ (l : List (Oper × Sg)) (i0 : Nat), rowB ops oj σj m i0 l = true → ∀ (i : Nat) (p : Oper × Sg), l[i]? = some p → Clean p.2 σj ∧ (m.testBit (i0 + i) = true ∨ pairB ops p.1 oj p.2 σj = true)
  | [], _, _, i, p, hp => by simp at hp
  | (oi, σi) :: r, i0, h, i, p, hp => by
    simp only [rowB, Bool.and_eq_true, Bool.or_eq_true] at h
    cases i with
    | zero => simp at hp; subst hp; exact ⟨cleanB_spec h.1.1, h.1.2⟩
    | succ i => have := rowB_spec r (i0 + 1) h.2 i p (by simpa using hp); rwa [show i0 + 1 + i = i0 + (i + 1) by omega] at this
theorem allRows_spec {ops : Array Oper} : ∀ (l pre : List (Oper × Sg)) (ms : List Nat), allRows ops pre l ms = true → ∀ (j : Nat) (p : Oper × Sg), l[j]? = some p → ∃ m, ms[j]? = some m ∧ m >>> (pre.length + j) = 0 ∧ ∀ (i : Nat) (q : Oper × Sg), i < pre.length + j → (pre ++ l)[i]? = some q → Clean q.2 p.2 ∧ (m.testBit i = true ∨ pairB ops q.1 p.1 q.2 p.2 = true)
  | [], _, _, _, j, p, hp => by simp at hp
  | (o, σ) :: r, pre, [], h, j, p, hp => by simp [allRows] at h
  | (o, σ) :: r, pre, m :: ms, h, j, p, hp => by
    simp only [allRows, Bool.and_eq_true, beq_iff_eq] at h
    cases j with
    | zero =>
      simp at hp; subst hp
      refine ⟨m, rfl, by simpa using h.1.1, fun i q hi hq => ?_⟩
      rw [List.getElem?_append_left (by simpa using hi)] at hq
      have := rowB_spec pre 0 h.1.2 i q hq
      simpa using this
    | succ j =>
      obtain ⟨m', e1, e2, e3⟩ := allRows_spec r (pre ++ [(o, σ)]) ms h.2 j p (by simpa using hp)
      refine ⟨m', by simpa using e1, by simpa [Nat.add_assoc, Nat.add_comm 1 j] using e2, fun i q hi hq => e3 i q (by simp; omega) (by simpa using hq)⟩
def SFresh (t : Nat) (s : St) : Prop := (∀ u, (s.env u).men t = false) ∧ ∀ k ob, s.heap k = some ob → ob.men t = false
def AnyQ (P : Program) (ops : Array Oper) (Sf : Nat → Sg) (K : St → Prop) : Nat → Array Bool → St → Prop
  | 0, listed, s => Region.ready .any ops listed = [] ∧ K s
  | fuel + 1, listed, s => (Region.ready .any ops listed = [] → K s) ∧ ∀ i ∈ Region.ready .any ops listed, ∃ o s', ops[i]? = some o ∧ QS P ops o (Sf i) s s' ∧ AnyQ P ops Sf K fuel (listed.setIfInBounds i true) s'
section
variable {P : Program} {ops : Array Oper} {Sf : Nat → Sg} {tab : Nat → Nat}
def Fr (ops : Array Oper) (Sf : Nat → Sg) (listed : Array Bool) (s : St) : Prop := ∀ k, k < ops.size → listed.getD k true = false → ∀ t ∈ (Sf k).new, SFresh t s
def TabOk' (ops : Array Oper) (tab : Nat → Nat) : Prop := ∀ j, j < ops.size → ∀ i, (tab j).testBit i = true → ∀ listed, DC ops listed → (∀ o, ops[j]? = some o → ∀ x ∈ o.after, Region.binds .any x = true → listed.getD x.on false = true) → listed.getD i false = true
theorem bit_no (ht : TabOk' ops tab) {listed : Array Bool} (hd : DC ops listed) {i j : Nat} (hj : j ∈ Region.ready .any ops listed) (hi : listed.getD i true = false) : (tab j).testBit i = false := by
  obtain ⟨_, o, ho, hall⟩ := mem_ready.1 hj
  cases hb : (tab j).testBit i with
  | false => rfl
  | true =>
    have h1 := ht j (Array.getElem?_eq_some_iff.1 ho).1 i hb listed hd (fun o' ho' x hx hxb => by
      rw [ho] at ho'; injection ho' with ho'; subst ho'
      exact hall x hx hxb)
    rcases Nat.lt_or_ge i listed.size with h' | h'
    · simp [h'] at h1 hi; rw [h1] at hi; cases hi
    · simp [Array.getElem?_eq_none h'] at h1
theorem ready_lt {listed : Array Bool} {j : Nat} (hj : j ∈ Region.ready .any ops listed) : j < ops.size := by
  obtain ⟨_, o, ho, _⟩ := mem_ready.1 hj
  exact (Array.getElem?_eq_some_iff.1 ho).1
theorem clean_of (ht : TabOk' ops tab) (hp : ∀ i j, i < j → j < ops.size → Pair ops Sf tab i j) {listed : Array Bool} (hd : DC ops listed) {i k : Nat} (hi : i ∈ Region.ready .any ops listed) (hk : k < ops.size) (hku : listed.getD k true = false) (hne : k ≠ i) : Clean (Sf i) (Sf k) := by
  rcases Nat.lt_or_ge i k with h | h
  · exact (hp i k h hk).c1
  · have hlt : k < i := by omega
    rcases (hp k i hlt (ready_lt hi)).c2 with h1 | h1
    · rw [bit_no ht hd hi hku] at h1; cases h1
    · exact h1.2.2.2.2
theorem SFresh.app {t : Nat} {s : St} {dst : Option Nat} {σ : Sg} (h : SFresh t s) (h1 : σ.d.men t = false) (h2 : ∀ k ob, (k, some ob) ∈ σ.U → ob.men t = false) : SFresh t (s.app dst σ) := by
  refine ⟨fun u => ?_, fun k ob hk => ?_⟩
  · by_cases hu : dst = some u
    · subst hu
      show (upd s.env u σ.d u).men t = false
      rw [upd_same]; exact h1
    · show (putE s.env dst σ.d u).men t = false
      rw [putE_ne hu]; exact h.1 u
  · have hk' : appU σ.U s.heap k = some ob := hk
    unfold appU at hk'
    cases hU : findU σ.U k with
    | none => rw [hU] at hk'; exact h.2 k ob hk'
    | some x => rw [hU] at hk'; simp only [Option.getD_some] at hk'; subst hk'; exact h2 k ob (findU_mem hU)
theorem Fr.step (ht : TabOk' ops tab) (hp : ∀ i j, i < j → j < ops.size → Pair ops Sf tab i j) {listed : Array Bool} (hd : DC ops listed) {s : St} {i : Nat} {dst : Option Nat} (hi : i ∈ Region.ready .any ops listed) (h : Fr ops Sf listed s) : Fr ops Sf (listed.setIfInBounds i true) (s.app dst (Sf i)) := by
  intro k hk hku t htk
  have hne : k ≠ i := fun e => by
    subst e
    have h0 := (mem_ready.1 hi).1
    rcases Nat.lt_or_ge k listed.size with h' | h'
    · simp [h'] at hku
    · simp [Array.getElem?_eq_none h'] at h0
  rw [getD_set_ne true (Ne.symm hne)] at hku
  obtain ⟨c1, c2⟩ := clean_of ht hp hd hi hk hku hne t htk
  exact (h k hk hku t htk).app c1 c2
theorem AnyQ.wp (ht : TabOk' ops tab) (hp : ∀ i j, i < j → j < ops.size → Pair ops Sf tab i j) {w0 : Bs} {Q : Exit → St → Prop} : ∀ (fuel : Nat) (listed : Array Bool) (s : St) (a : Act) (w : World), DC ops listed → Fr ops Sf listed s → Sim w0 s a w → AnyQ P ops Sf (fun s => Q .normal s) fuel listed s → wpAny P .any ops (Post w0 Q) fuel listed a w
  | 0, listed, s, a, w, hd, hfr, hs, h => ⟨h.1, _, h.2, hs⟩
  | fuel + 1, listed, s, a, w, hd, hfr, hs, h => by
    refine ⟨fun h0 => ⟨_, h.1 h0, hs⟩, fun i hi => ?_⟩
    obtain ⟨o, s', ho, ⟨g, hg, hdk, l1, l2, rfl⟩, hnext⟩ := h.2 i hi
    have hfr' := Fr.step (dst := o.dst) ht hp hd hi hfr
    unfold wpOp
    simp only [ho]
    rw [hg.wanted hs]
    cases g with
    | true =>
      simp only [if_true]
      refine .inl ?_
      obtain ⟨he, hf⟩ := l1 rfl
      refine hs.step he hf (fun t htn => ?_) (dstOk_spec hdk) (fun a' w' hs' => AnyQ.wp ht hp fuel _ _ _ _ (hd.set hi) hfr' hs' hnext)
      have h1 := hfr i (ready_lt hi) (mem_ready.1 hi).1 t htn
      exact ⟨fun u _ => h1.1 u, fun k ob _ => h1.2 k ob⟩
    | false =>
      simp only [Bool.false_eq_true, if_false]
      rw [l2 rfl] at hnext hfr'
      exact AnyQ.wp ht hp fuel _ _ _ _ (hd.set hi) hfr' (hs.skip o.dst (dstOk_spec hdk)) hnext
theorem AnyQ.first (ht : TabOk' ops tab) (hp : ∀ i j, i < j → j < ops.size → Pair ops Sf tab i j) {K : St → Prop} {i : Nat} {oi : Oper} (hi : ops[i]? = some oi) :
    ∀ (fuel : Nat) (listed : Array Bool) (s s1 : St), DC ops listed → (∀ j, j < i → listed.getD j true = true) →
      i ∈ Region.ready .any ops listed → QS P ops oi (Sf i) s s1 → AnyQ P ops Sf K fuel (listed.setIfInBounds i true) s1 → AnyQ P ops Sf K (fuel + 1) listed s := by
  intro fuel
  induction fuel with
  | zero =>
    intro listed s s1 _ _ hr hy h
    refine ⟨fun h0 => (by rw [h0] at hr; cases hr), fun j hj => ?_⟩
    by_cases hji : j = i
    · subst hji; exact ⟨oi, s1, hi, hy, h⟩
    · have := ready_mono hj hji
      rw [h.1] at this
      cases this
  | succ fuel ih =>
    intro listed s s1 hd hlow hr hy h
    refine ⟨fun h0 => (by rw [h0] at hr; cases hr), fun j hj => ?_⟩
    by_cases hji : j = i
    · subst hji; exact ⟨oi, s1, hi, hy, h⟩
    · obtain ⟨oj, s2, hoj, hq, hn⟩ := h.2 j (ready_mono hj hji)
      have hij : i < j := by
        rcases Nat.lt_or_ge j i with h' | h'
        · have h1 := hlow j h'
          rw [(mem_ready.1 hj).1] at h1; cases h1
        · omega
      have hpair := hp i j hij (ready_lt hj)
      rcases hpair.c2 with hb | ⟨p1, p2, p3, p4, _⟩
      · rw [bit_no ht hd hj (mem_ready.1 hr).1] at hb; cases hb
      obtain ⟨s1', q1, q2⟩ := QS.swap (p1 oi oj hi hoj) p2 p3 p4 hy hq
      refine ⟨oj, s1', hoj, q1, ih (listed.setIfInBounds j true) s1' s2 (hd.set hj) (fun k hk => ?_) (ready_mono hr (Ne.symm hji)) q2 ?_⟩
      · by_cases hjk : j = k
        · omega
        · rw [getD_set_ne true hjk]; exact hlow k hk
      · rw [Array.setIfInBounds_comm _ _ hji]
        exact hn
def Lst (N k : Nat) (listed : Array Bool) : Prop := listed.size = N ∧ ∀ j, j < N → listed[j]? = some (decide (j < k))
theorem Lst.next {N k : Nat} {listed : Array Bool} (h : Lst N k listed) : Lst N (k + 1) (listed.setIfInBounds k true) := by
  refine ⟨by simp [h.1], fun j hj => ?_⟩
  by_cases hjk : k = j
  · subst hjk
    rw [Array.getElem?_setIfInBounds_self_of_lt (by rw [h.1]; exact hj)]
    simp
  · rw [Array.getElem?_setIfInBounds_ne hjk, h.2 j hj]
    congr 1
    rw [Bool.eq_iff_iff]; simp; omega
def lowB : Nat → List Oper → Bool
  | _, [] => true
  | k, o :: l => o.after.toList.all (fun x => !(Region.binds .any x) || Nat.blt x.on k) && lowB (k + 1) l
def Chain (P : Program) (ops : Array Oper) : List Oper → List Sg → St → St → Prop
  | [], [], s, e => e = s
  | o :: l, σ :: σs, s, e => QS P ops o σ s (s.app o.dst σ) ∧ Chain P ops l σs (s.app o.dst σ) e
  | _, _, _, _ => False
theorem W.list {Z : List Sg → Bool} {K : St → Prop} : ∀ {l : List Oper} {s : St} {acc : List Sg}, W P ops Z l s (some acc) K → ∃ σs e, σs.length = l.length ∧ Chain P ops l σs s e ∧ Z (σs.reverse ++ acc) = true ∧ K e
  | [], s, acc, h => ⟨[], s, rfl, rfl, h.1 acc rfl, h.2⟩
  | o :: l, s, acc, ⟨g, σ, hg, hd, h1, h2, hW⟩ => by
    obtain ⟨σs, e, e1, e2, e3, e4⟩ := W.list (acc := σ :: acc) hW
    refine ⟨σ :: σs, e, by simp [e1], ⟨⟨g, hg, hd, fun h => ⟨(h1 h).1, (h1 h).2.1⟩, h2, rfl⟩, e2⟩, by simpa using e3, e4⟩
theorem AnyQ.lex (ht : TabOk' ops tab) (hp : ∀ i j, i < j → j < ops.size → Pair ops Sf tab i j) {K : St → Prop} : ∀ (l : List Oper) (σs : List Sg) (k : Nat) (listed : Array Bool) (s e : St), (∀ j, l[j]? = ops[k + j]?) → (∀ j σ, σs[j]? = some σ → Sf (k + j) = σ) → k + l.length = ops.size → Lst ops.size k listed → DC ops listed → lowB k l = true → Chain P ops l σs s e → K e → AnyQ P ops Sf K l.length listed s
  | [], [], k, listed, s, e, hl, hσ, hn, hL, hd, hB, hc, hK => by
    have : e = s := hc
    subst this
    refine ⟨?_, hK⟩
    cases hr : Region.ready .any ops listed with
    | nil => rfl
    | cons j r =>
      exfalso
      have hj : j ∈ Region.ready .any ops listed := by rw [hr]; simp
      have h1 := (mem_ready.1 hj).1
      have h2 := hL.2 j (ready_lt hj)
      have : j < k := by have := ready_lt hj; simp at hn; omega
      rw [Array.getD_eq_getD_getElem?, h2] at h1
      simp at h1
      omega
  | o :: l, σ :: σs, k, listed, s, e, hl, hσ, hn, hL, hd, hB, hc, hK => by
    have h0 : ops[k]? = some o := by simpa using (hl 0).symm
    have hkn : k < ops.size := by simp at hn; omega
    have hS : Sf k = σ := by simpa using hσ 0 σ rfl
    simp only [lowB, Bool.and_eq_true, List.all_eq_true, Bool.or_eq_true, Bool.not_eq_true', Nat.blt_eq] at hB
    have hr : k ∈ Region.ready .any ops listed := by
      refine mem_ready.2 ⟨?_, o, h0, fun x hx hb => ?_⟩
      · rw [Array.getD_eq_getD_getElem?, hL.2 k hkn]; simp
      · rcases hB.1 x (by simpa using hx) with h1 | h1
        · rw [hb] at h1; cases h1
        · rw [Array.getD_eq_getD_getElem?, hL.2 x.on (by omega)]; simp [h1]
    refine AnyQ.first ht hp h0 l.length listed s (s.app o.dst σ) hd (fun j hj => ?_) hr (by rw [hS]; exact hc.1) ?_
    · rw [Array.getD_eq_getD_getElem?, hL.2 j (by omega)]; simp [hj]
    · exact AnyQ.lex ht hp l σs (k + 1) _ _ e (fun j => by have := hl (j + 1); simpa [Nat.add_assoc, Nat.add_comm 1 j] using this) (fun j σ' hj => by have := hσ (j + 1) σ' (by simpa using hj); rwa [show k + 1 + j = k + (j + 1) by omega]) (by simp at hn; omega) hL.next (hd.set hr) hB.2 hc.2 hK
  | [], _ :: _, _, _, _, _, _, _, _, _, _, _, h, _ => h.elim
  | _ :: _, [], _, _, _, _, _, _, _, _, _, _, h, _ => h.elim
end
def newsFresh (l : List (Nat × D)) (h : List (Nat × Ob)) (acc : List Sg) : Bool := acc.all fun σ => σ.new.all fun t => l.all (fun p => !p.2.men t) && h.all (fun p => !p.2.men t)
def regB (ops : List Oper) (l : List (Nat × D)) (h : List (Nat × Ob)) (acc : List Sg) : Bool :=
  lowB 0 ops && allRows ops.toArray [] (ops.zip acc.reverse) (ancT [] ops) && newsFresh l h acc
theorem look_fresh {t : Nat} : ∀ {l : List (Nat × D)}, (l.all fun p => !p.2.men t) = true → ∀ u, (look l u).men t = false
  | [], _, u => rfl
  | (v, d) :: l, h, u => by
    simp only [List.all_cons, Bool.and_eq_true, Bool.not_eq_true'] at h
    simp only [look, upd]
    split
    · exact h.1
    · exact look_fresh (by simpa using h.2) u
theorem lookH_fresh {t : Nat} : ∀ {l : List (Nat × Ob)}, (l.all fun p => !p.2.men t) = true → ∀ u ob, lookH l u = some ob → ob.men t = false
  | [], _, u, ob, h => by cases h
  | (v, d) :: l, h, u, ob, ho => by
    simp only [List.all_cons, Bool.and_eq_true, Bool.not_eq_true'] at h
    simp only [lookH, upd] at ho
    split at ho
    · injection ho with ho; subst ho; exact h.1
    · exact lookH_fresh (by simpa using h.2) u ob ho
theorem draw_any {P : Program} {ops : List Oper} {n : Nat} {l : List (Nat × D)} {h : List (Nat × Ob)} {Q : Exit → St → Prop} (hW : W P ops.toArray (regB ops l h) ops (mkS n l h) (some []) (fun s' => Q .normal s')) :
    ∃ (Sf : Nat → Sg) (tab : Nat → Nat), TabOk' ops.toArray tab ∧ (∀ i j, i < j → j < ops.toArray.size → Pair ops.toArray Sf tab i j) ∧ DC ops.toArray (Array.replicate ops.length false) ∧ Fr ops.toArray Sf (Array.replicate ops.length false) (mkS n l h) ∧ AnyQ P ops.toArray Sf (fun s' => Q .normal s') ops.length (Array.replicate ops.length false) (mkS n l h) := by
  obtain ⟨σs, e, e1, e2, e3, e4⟩ := hW.list
  rw [List.append_nil] at e3
  unfold regB at e3
  simp only [Bool.and_eq_true, List.reverse_reverse] at e3
  obtain ⟨⟨b1, b2⟩, b3⟩ := e3
  have hz : ∀ j, j < ops.length → ∃ o σ, ops[j]? = some o ∧ σs[j]? = some σ ∧ (ops.zip σs)[j]? = some (o, σ) := fun j hj => by
    refine ⟨ops[j], σs[j], List.getElem?_eq_getElem hj, List.getElem?_eq_getElem (by omega), ?_⟩
    rw [List.getElem?_eq_getElem (by simp; omega)]
    simp
  have ht : TabOk ops.toArray (ancT [] ops) := ancT_ok ops [] (by simp) (fun j m hj => by simp at hj)
  have ht' : TabOk' ops.toArray (fun j => (ancT [] ops).getD j 0) := fun j hj i hi listed hd hall => by
    have hi : ((ancT [] ops).getD j 0).testBit i = true := hi
    cases hm : (ancT [] ops)[j]? with
    | none => rw [List.getD_eq_getElem?_getD, hm] at hi; simp at hi
    | some m => rw [List.getD_eq_getElem?_getD, hm] at hi; exact ht j m hm i hi listed hd hall
  have hp : ∀ i j, i < j → j < ops.toArray.size → Pair ops.toArray (fun i => σs.getD i skipS) (fun j => (ancT [] ops).getD j 0) i j := fun i j hij hj => by
    have hj' : j < ops.length := by simpa using hj
    obtain ⟨oj, σj, j1, j2, j3⟩ := hz j hj'
    obtain ⟨oi, σi, i1, i2, i3⟩ := hz i (by omega)
    obtain ⟨m, m1, _, m3⟩ := allRows_spec (ops.zip σs) [] (ancT [] ops) b2 j (oj, σj) j3
    obtain ⟨q1, q2⟩ := m3 i (oi, σi) (by simpa using hij) (by simpa using i3)
    have ei : σs.getD i skipS = σi := by rw [List.getD_eq_getElem?_getD, i2]; rfl
    have ej : σs.getD j skipS = σj := by rw [List.getD_eq_getElem?_getD, j2]; rfl
    have em : (ancT [] ops).getD j 0 = m := by rw [List.getD_eq_getElem?_getD, m1]; rfl
    refine ⟨?_, ?_⟩
    · show Clean (σs.getD i skipS) (σs.getD j skipS)
      rw [ei, ej]; exact q1
    · show ((ancT [] ops).getD j 0).testBit i = true ∨ _
      rw [em]
      rcases q2 with q2 | q2
      · exact .inl q2
      · right
        show _ ∧ Disj (σs.getD i skipS).dom (σs.getD j skipS).fp ∧ Disj (σs.getD j skipS).dom (σs.getD i skipS).fp ∧ Disj (σs.getD i skipS).dom (σs.getD j skipS).dom ∧ Clean (σs.getD j skipS) (σs.getD i skipS)
        rw [ei, ej]
        unfold pairB at q2
        simp only [Bool.and_eq_true] at q2
        obtain ⟨⟨⟨⟨r1, r2⟩, r3⟩, r4⟩, r5⟩ := q2
        refine ⟨fun oi' oj' hi' hj' => ?_, disjB_spec r2, disjB_spec r3, disjB_spec r4, cleanB_spec r5⟩
        have f1 : oi' = oi := by simpa [i1] using hi'.symm
        have f2 : oj' = oj := by simpa [j1] using hj'.symm
        rw [f1, f2]; exact r1
  have hd0 : DC ops.toArray (Array.replicate ops.length false) := fun j o hj hl => by
    rw [Array.getD_eq_getD_getElem?] at hl
    rw [Array.getElem?_replicate] at hl
    split at hl <;> simp at hl
  have hfr : Fr ops.toArray (fun i => σs.getD i skipS) (Array.replicate ops.length false) (mkS n l h) := fun k hk _ t htk => by
    have hk' : k < ops.length := by simpa using hk
    obtain ⟨o, σ, k1, k2, k3⟩ := hz k hk'
    have ek : σs.getD k skipS = σ := by rw [List.getD_eq_getElem?_getD, k2]; rfl
    have htk' : t ∈ (σs.getD k skipS).new := htk
    rw [ek] at htk'
    unfold newsFresh at b3
    have := List.all_eq_true.1 b3 σ (by rw [List.mem_reverse]; exact List.mem_of_getElem? k2)
    have := List.all_eq_true.1 this t htk'
    simp only [Bool.and_eq_true] at this
    exact ⟨look_fresh this.1, lookH_fresh this.2⟩
  refine ⟨_, _, ht', hp, hd0, hfr, ?_⟩
  refine AnyQ.lex ht' hp ops σs 0 _ _ e (by simp) (fun j σ hj => by rw [Nat.zero_add, List.getD_eq_getElem?_getD, hj]; rfl) (by simp) ⟨by simp, fun j hj => ?_⟩ hd0 b1 e2 e4
  rw [Array.getElem?_replicate, if_pos (by simpa using hj)]
  simp
theorem draw_wp {P : Program} {ops : List Oper} {n : Nat} {l : List (Nat × D)} {h : List (Nat × Ob)} {w0 : Bs} {Q : Exit → St → Prop} (hW : W P ops.toArray (regB ops l h) ops (mkS n l h) (some []) (fun s' => Q .normal s')) (a : Act) (w : World) (hs : Sim w0 (mkS n l h) a w) : wpAny P .any ops.toArray (Post w0 Q) ops.length (Array.replicate ops.length false) a w := by
  obtain ⟨Sf, tab, ht', hp, hd0, hfr, hq⟩ := draw_any hW
  exact AnyQ.wp ht' hp _ _ _ _ _ hd0 hfr hs hq
def AW (P : Program) (c : Code) (s : St) (Q : Exit → St → Prop) : Prop := ∀ w0 a w, Sim w0 s a w → c.wp P (Post w0 Q) a w
def Thn (K : St → Prop) (Q : Exit → St → Prop) : Exit → St → Prop
  | .normal, s => K s
  | e, s => Q e s
def Blk (id : Nat) (Q : Exit → St → Prop) : Exit → St → Prop
  | .exit id', s => if id' = id then Q .normal s else Q (.exit id') s
  | e, s => Q e s
section
variable {P : Program} {s : St} {Q : Exit → St → Prop}
theorem aw_seq {x y : Code} (h : AW P x s (Thn (fun s' => AW P y s' Q) Q)) : AW P (.seq x y) s Q := fun w0 a w hs =>
  wp_seq (wp_mono (h w0 a w hs) fun e a w ⟨s', hq, hs'⟩ => by
    cases e <;> first|exact hq w0 a w hs'|exact ⟨s', hq, hs'⟩)
theorem aw_block {id : Nat} {c : Code} (h : AW P c s (Blk id Q)) : AW P (.block id c) s Q := fun w0 a w hs =>
  wp_block (wp_mono (h w0 a w hs) fun e a w ⟨s', hq, hs'⟩ => by
    cases e <;> first
      | exact ⟨s', hq, hs'⟩
      | (rename_i i
         simp only [Blk] at hq
         simp only [Exit.inBlock]
         split at hq <;> rename_i he
         · rw [if_pos he]; exact ⟨s', hq, hs'⟩
         · rw [if_neg he]; exact ⟨s', hq, hs'⟩))
theorem aw_skip (h : Q .normal s) : AW P .skip s Q := fun w0 a w hs => wp_skip ⟨s, h, hs⟩
theorem aw_ret (h : Q .ret s) : AW P .ret s Q := fun w0 a w hs => wp_ret ⟨s, h, hs⟩
theorem aw_exit {id : Nat} (h : Q (.exit id) s) : AW P (.exit id) s Q := fun w0 a w hs => wp_exit ⟨s, h, hs⟩
theorem aw_cond {c : Operand} {x y : Code} {m b : Bool} (hc : evD s.env c = .one (.r m (bool b))) (h1 : b = true → AW P x s Q) (h2 : b = false → AW P y s Q) : AW P (.cond c x y) s Q := fun w0 a w hs => by
  obtain ⟨ι, own, hs'⟩ := hs
  have := hs'.ev c
  rw [hc] at this
  exact wp_cond_split this.1 (fun hb => h1 hb w0 a w ⟨ι, own, hs'⟩) (fun hb => h2 hb w0 a w ⟨ι, own, hs'⟩)
theorem aw_region {id : Nat} {l : List Oper} (h : W P l.toArray (fun _ => true) l s none (fun s' => Q .normal s')) : AW P (.region id l.toArray false) s Q := fun w0 a w hs =>
  wp_region_lit (wpList_of_W l s h a w hs)
theorem Sim.drew {w0 : Bs} {a : Act} {w : World} (h : Sim w0 s a w) : Sim w0 s a { w with drawn := w.drawn + 1 } := by
  obtain ⟨ι, own, hs⟩ := h
  have hb : Below w.heap.size w { w with drawn := w.drawn + 1 } := ⟨rfl, rfl, rfl, Nat.le_refl _, fun _ _ => rfl⟩
  have := hs.eff (dst := none) (σ := skipS) (v := .tuple #[]) (Chg.quiet hs.own_ hb ⟨[], rfl, rfl, fun j x hj => by simp at hj⟩) (skip_fine _) (skip_fresh _ _) (fun t ht => by cases ht)
  exact ⟨ι, own, this⟩
theorem aw_region_draw {id : Nat} {ops : List Oper} {n : Nat} {l : List (Nat × D)} {h : List (Nat × Ob)} (hm : P.follows .mixedOrders = true) (hW : W P ops.toArray (regB ops l h) ops (mkS n l h) (some []) (fun s' => Q .normal s')) : AW P (.region id ops.toArray true) (mkS n l h) Q := fun w0 a w hs => by
  refine wp_region_any hm ?_
  have := draw_wp hW a _ hs.drew
  simpa using this
def Weak (s s' : St) : Prop := ∀ w0 a w, Sim w0 s a w → Sim w0 s' a w
theorem aw_loop {α : Type} (f : α → St) (μ : α → Nat) (x0 : α) {c : Code} (h0 : Weak s (f x0)) (round : ∀ x, AW P c (f x) (Thn (fun s' => ∃ x', Weak s' (f x') ∧ μ x' < μ x) Q)) : AW P (.loop c) s Q := fun w0 a w hs => by
  intro b k cs
  have key : ∀ n x, μ x = n → ∀ a w, Sim w0 (f x) a w → ∃ e a' w', Post w0 Q e a' w' ∧ Arrives P (lone (b.at a (.code c :: .inLoop c :: k)) cs w) b k cs e a' w' := by
    intro n
    induction n using Nat.strongRecOn with
    | _ n ih =>
      intro x hx a w hs
      obtain ⟨e, a₁, w₁, ⟨s', hq, hs'⟩, harr⟩ := round x w0 a w hs b (.inLoop c :: k) cs
      cases e with
      | normal =>
        obtain ⟨x', hw, hlt⟩ := hq
        obtain ⟨e₂, a₂, w₂, hq₂, harr₂⟩ := ih (μ x') (hx ▸ hlt) x' rfl a₁ w₁ (hw w0 a₁ w₁ hs')
        exact ⟨e₂, a₂, w₂, hq₂, .of_steps (Steps.trans harr (.one step_inLoop)) harr₂⟩
      | exit id => exact ⟨_, a₁, w₁, ⟨s', hq, hs'⟩, .pass (x := .inLoop c) rfl (fun _ _ => .inl (by simp)) harr⟩
      | goto l => exact ⟨_, a₁, w₁, ⟨s', hq, hs'⟩, .pass (x := .inLoop c) rfl (fun _ _ => .inl (by simp)) harr⟩
      | ret => exact ⟨_, a₁, w₁, ⟨s', hq, hs'⟩, .pass (x := .inLoop c) rfl (fun _ _ => .inl (by simp)) harr⟩
      | panic ch => exact ⟨_, a₁, w₁, ⟨s', hq, hs'⟩, .pass (x := .inLoop c) rfl (fun _ _ => .inl (by simp)) harr⟩
      | outgrown => exact ⟨_, a₁, w₁, ⟨s', hq, hs'⟩, .pass (x := .inLoop c) rfl (fun _ _ => .inl (by simp)) harr⟩
  obtain ⟨e, a', w', hq, harr⟩ := key _ x0 rfl a w (h0 w0 a w hs)
  exact ⟨e, a', w', hq, .of_steps (.one step_loop) harr⟩
end
def CRes (H : Nat → Option Ob) (x : Cell) (r : R) : Prop :=
  ∀ (ι : Nat → Nat × Nat) (base : Nat) (w : World) (own : Nat → Prop) (v : Value), (∀ k ob, H k = some ob → own (ι k).1 ∧ ob.p ι base ⟨w, own⟩ (ι k)) → (∀ b, own b → base ≤ b) → x.p ι base ⟨w, own⟩ v → r.p ⟨w, fun b => b < base⟩ v
def DRes (H : Nat → Option Ob) (d : D) (x : P0) : Prop :=
  ∀ (ι : Nat → Nat × Nat) (base : Nat) (w : World) (own : Nat → Prop) (v : Value), (∀ k ob, H k = some ob → own (ι k).1 ∧ ob.p ι base ⟨w, own⟩ (ι k)) → (∀ b, own b → base ≤ b) → d.p ι base ⟨w, own⟩ v → x.p ⟨w, fun b => b < base⟩ v
section
variable {H : Nat → Option Ob}
theorem cres_new {r : R} : CRes H (.r true r) r := fun ι base w own v hH ho h =>
  r.mono (c := Cx.young ⟨w, own⟩ base true) (Cx.Ext.sub rfl (fun b hb => .inr hb)) h
theorem cres_val {m : Bool} {u : Value} : CRes H (.r m (val u)) (val u) := fun ι base w own v hH ho h => h
theorem cres_nil {m nil : Bool} {sz sz' : Nat} : CRes H (.r m (row nil sz [])) (row nil sz' []) := fun ι base w own v hH ho h => let ⟨ao, cap, h1, h2, h3, h4, h5⟩ := row_p.1 h; row_p.2 ⟨ao, cap, h1, h2, h3, h4, fun h => by simp at h⟩
theorem row_of_own {ι : Nat → Nat × Nat} {base : Nat} {w : World} {own : Nat → Prop} {k j n sz : Nat} {E : TypeId} {els : List P0} {new : Bool} {v : Value} {own' : Nat → Prop} (hk : own (ι k).1 ∧ (Ob.sl E sz new els).p ι base ⟨w, own⟩ (ι k)) (hn : j + n ≤ els.length) (h : (Cell.own k j n sz).p ι base ⟨w, own⟩ v)
    (ho : ¬ own' (ι k).1) (he : Cx.Ext (Cx.young ⟨w, own⟩ base new) ⟨w, own'⟩) : (row false sz ((els.drop j).take n)).p ⟨w, own'⟩ v := by
  obtain ⟨oo, cap, arr, E', h1, h0, h2, h3, h4, h5⟩ := h
  obtain ⟨hown, arr', g1, g2, g3⟩ := hk
  have hl : ((els.drop j).take n).length = n := by rw [List.length_take, List.length_drop]; omega
  refine row_p.2 ⟨_, cap, by rw [hl]; exact h1, by rw [hl]; exact ⟨h2, h3⟩, by simp, by simp, fun hpos => ⟨(ι k).1, (ι k).2 + j * sz, by rw [h0.resolve_right (by omega)], lt_of_heap g1, ho, fun i e hi => ?_⟩⟩
  rw [List.getElem?_take] at hi
  split at hi
  · rw [List.getElem?_drop] at hi
    obtain ⟨e1, e2⟩ := g3 (j + i) e hi
    refine ⟨e1, fun m r hm => ?_⟩
    obtain ⟨u, hu, hr⟩ := e2 m r hm
    refine ⟨u, ?_, r.mono he hr⟩
    show w.cell? _ = some u
    rw [cell_of_arr g1, ← hu, Nat.add_mul]
    congr 1
    omega
  · cases hi
theorem cres_own {k j n sz : Nat} {E : TypeId} {els : List P0} (hk : H k = some (.sl E sz true els)) (hn : j + n ≤ els.length) : CRes H (.own k j n sz) (row false sz ((els.drop j).take n)) := fun ι base w own v hH ho h =>
  row_of_own (hH k _ hk) hn h (fun hb => by
    have h1 := ho _ (hH k _ hk).1
    have h2 : (ι k).1 < base := hb
    omega) (Cx.Ext.sub (c := Cx.young ⟨w, own⟩ base true) (c' := ⟨w, fun b => b < base⟩) rfl (fun b hb => .inr hb))
theorem cres_own0 {k n sz : Nat} {E : TypeId} {els : List P0} (hk : H k = some (.sl E sz true els)) (hn : n = els.length) : CRes H (.own k 0 n sz) (row false sz els) := by
  have := cres_own (H := H) (j := 0) (n := n) hk (by omega)
  rwa [List.drop_zero, List.take_of_length_le (by omega)] at this
theorem dres_one {x : Cell} {r : R} (h : CRes H x r) : DRes H (.one x) (.one r) := h
def CsRes (H : Nat → Option Ob) : List Cell → List R → Prop
  | [], [] => True
  | x :: xs, r :: rs => CRes H x r ∧ CsRes H xs rs
  | _, _ => False
theorem CsRes.get : ∀ {xs : List Cell} {rs : List R}, CsRes H xs rs → xs.length = rs.length ∧ ∀ (j : Nat) (r : R), rs[j]? = some r → ∃ x, xs[j]? = some x ∧ CRes H x r
  | [], [], _ => ⟨rfl, fun j r hj => by simp at hj⟩
  | x :: xs, r :: rs, ⟨h1, h2⟩ => by
    obtain ⟨g1, g2⟩ := h2.get
    refine ⟨by simp [g1], fun j r' hj => ?_⟩
    cases j with
    | zero => simp at hj; subst hj; exact ⟨x, rfl, h1⟩
    | succ j => exact g2 j r' (by simpa using hj)
  | [], _ :: _, h => h.elim
  | _ :: _, [], h => h.elim
theorem dres_agg {xs : List Cell} {rs : List R} (h : CsRes H xs rs) : DRes H (.agg xs) (.agg rs) := fun ι base w own v hH ho ⟨vs, h1, h2, h3⟩ => by
  obtain ⟨g1, g2⟩ := h.get
  refine ⟨vs, h1, by omega, fun j r hj => ?_⟩
  obtain ⟨x, hx, hc⟩ := g2 j r hj
  obtain ⟨u, hu, hp⟩ := h3 j x hx
  exact ⟨u, hu, hc ι base w own u hH ho hp⟩
end
def RvOk (P : Program) (s : St) : ResultVar → P0 → Prop
  | .tmp t, x => DRes s.heap (s.env t) x
  | .cell t ty, x => ∃ k off E cells ag m, s.env t = .one (.ptr k 0 0 off) ∧ s.heap k = some (.var E cells) ∧ tyOf P ty = some (ag, m) ∧ Nat.ble (off + m) cells.length = true ∧ (ag || Nat.beq m 1) = true ∧ DRes s.heap (cut ag m off cells) x
def RvsOk (P : Program) (s : St) : List ResultVar → List P0 → Prop
  | [], [] => True
  | a :: l, x :: xs => RvOk P s a x ∧ RvsOk P s l xs
  | _, _ => False
def RetOk (P : Program) (s : St) (l : List ResultVar) : Res → Prop
  | .v x => match l with | [a] => RvOk P s a x | _ => False
  | .tup xs => Nat.beq l.length 1 = false ∧ RvsOk P s l xs
def rvRun (tmps : Array Value) : ResultVar → Sem Value
  | .tmp t => pure (tmps.getD t undef)
  | .cell a t => do loadVar t (← asAddr (tmps.getD a undef))
def RvsRun (P : Program) (w : World) (tmps : Array Value) : List ResultVar → List Value → Prop
  | [], [] => True
  | a :: l, v :: vs => (rvRun tmps a).run P w = .ok v w ∧ RvsRun P w tmps l vs
  | _, _ => False
theorem results_run {P : Program} {fn : Func} {tmps : Array Value} {w : World} {l : List ResultVar} {vs : List Value} (h : fn.results = l.toArray) (hr : RvsRun P w tmps l vs) : (results fn tmps).run P w = .ok (if h : vs.toArray.size = 1 then vs.toArray[0] else .tuple vs.toArray) w := by
  have key : ∀ (l : List ResultVar) (vs : List Value), RvsRun P w tmps l vs → ((l.mapM (rvRun tmps) : Sem (List Value))).run P w = .ok vs w := by
    intro l
    induction l with
    | nil => intro vs h; cases vs with
      | nil => rfl
      | cons v vs => exact h.elim
    | cons a l ih =>
      intro vs h
      cases vs with
      | nil => exact h.elim
      | cons v vs =>
        rw [List.mapM_cons]
        simp only [Sem.run_bind, h.1, Result.andThen_ok, ih vs h.2, Sem.run_pure]
  have hm : (results fn tmps) = (do let vs ← l.mapM (rvRun tmps); pure (if h : vs.toArray.size = 1 then vs.toArray[0] else .tuple vs.toArray)) := by
    unfold results
    rw [h, List.mapM_toArray]
    simp only [bind_map_left]
    rfl
  rw [hm]
  simp only [Sem.run_bind, key l vs hr, Result.andThen_ok, Sem.run_pure]
theorem rv_run {P : Program} {w0 : Bs} {s : St} {a : Act} {w : World} {ι : Nat → Nat × Nat} {own : Nat → Prop} (hs : Sim' w0 s a w ι own) : ∀ {rv : ResultVar} {x : P0}, RvOk P s rv x → ∃ v, (rvRun a.tmps rv).run P w = .ok v w ∧ x.p ⟨w, fun b => b < w0.base⟩ v
  | .tmp t, x, h => ⟨_, rfl, h ι _ w own _ hs.heap (fun b hb => (hs.own_ b hb).1) (hs.env t)⟩
  | .cell t ty, x, ⟨k, off, E, cells, ag, m, h1, h2, h3, h4, h5, h6⟩ => by
    have hx := hs.env t
    rw [h1] at hx
    have hx2 : a.tmps.getD t undef = .pointer (some ⟨(ι k).1, (ι k).2 + off, none⟩) := by have : a.tmps.getD t undef = .pointer (some ⟨(ι k).1, (ι k).2 + (0 * 0 + off), none⟩) := hx; simpa using this
    obtain ⟨v, g1, g2⟩ := load_var_run (P := P) (t := ty) (hs.heap k _ h2).2 h3 (by simpa using h4) (by simpa using h5)
    refine ⟨v, ?_, h6 ι _ w own _ hs.heap (fun b hb => (hs.own_ b hb).1) g2⟩
    simp only [rvRun, hx2, Sem.run_bind, asAddr, Sem.run_pure, Result.andThen_ok, g1]
theorem rvs_run {P : Program} {w0 : Bs} {s : St} {a : Act} {w : World} {ι : Nat → Nat × Nat} {own : Nat → Prop} (hs : Sim' w0 s a w ι own) : ∀ {l : List ResultVar} {xs : List P0}, RvsOk P s l xs → ∃ vs, RvsRun P w a.tmps l vs ∧ l.length = vs.length ∧ vs.length = xs.length ∧ ∀ (j : Nat) (x : P0), xs[j]? = some x → ∃ u, vs[j]? = some u ∧ x.p ⟨w, fun b => b < w0.base⟩ u
  | [], [], _ => ⟨[], trivial, rfl, rfl, fun j x hj => by simp at hj⟩
  | rv :: l, x :: xs, ⟨h1, h2⟩ => by
    obtain ⟨v, g1, g2⟩ := rv_run hs h1
    obtain ⟨vs, e1, e0, e2, e3⟩ := rvs_run hs h2
    refine ⟨v :: vs, ⟨g1, e1⟩, by simp [e0], by simp [e2], fun j y hj => ?_⟩
    cases j with
    | zero => simp at hj; subst hj; exact ⟨v, rfl, g2⟩
    | succ j => exact e3 j y (by simpa using hj)
  | [], _ :: _, h => h.elim
  | _ :: _, [], h => h.elim
theorem ret_run {P : Program} {fn : Func} {w0 : Bs} {s : St} {a : Act} {w : World} (hs : Sim w0 s a w) {l : List ResultVar} {res : Res} (hf : fn.results = l.toArray) (h : RetOk P s l res) : ∃ v, (results fn a.tmps).run P w = .ok v w ∧ res.p ⟨w, fun b => b < w0.base⟩ v := by
  obtain ⟨ι, own, hs⟩ := hs
  cases res with
  | v x =>
    match l, h with
    | [rv], h =>
      obtain ⟨v, g1, g2⟩ := rv_run hs h
      exact ⟨v, results_run (vs := [v]) hf ⟨g1, trivial⟩, g2⟩
  | tup xs =>
    have h' : Nat.beq l.length 1 = false ∧ RvsOk P s l xs := h
    obtain ⟨vs, e1, e0, e2, e3⟩ := rvs_run hs h'.2
    have h1 : l.length ≠ 1 := fun e => by have := h'.1; rw [e] at this; cases this
    refine ⟨.tuple vs.toArray, ?_, vs, rfl, e2, e3⟩
    rw [results_run hf e1, dif_neg (by simp; omega)]
def argEnv : Nat → List P0 → List (Nat × D)
  | _, [] => []
  | i, x :: xs => (i, x.d false) :: argEnv (i + 1) xs
theorem argEnv_sim {c : Cx} {ι : Nat → Nat × Nat} {base : Nat} : ∀ (i : Nat) (vs : List Value) (xs : List P0) (n : Nat), Args c vs xs → ∀ (pre : List Value), pre.length = i → ∀ t, i ≤ t → (look (argEnv i xs) t).p ι base c ((pre ++ vs ++ List.replicate n undef).getD t undef)
  | i, [], [], n, _, pre, hp, t, ht => by simp only [argEnv, look, D.p]
  | i, v :: vs, x :: xs, n, ⟨h1, h2⟩, pre, hp, t, ht => by
    simp only [argEnv, look]
    by_cases e : t = i
    · subst e
      rw [upd_same, P0.d_p]
      simp only [List.getD_eq_getElem?_getD, List.append_assoc]
      rw [List.getElem?_append_right (by omega), hp]
      simpa [Cx.young] using h1
    · rw [upd_ne _ _ e]
      have := argEnv_sim (ι := ι) (base := base) (i + 1) vs xs n h2 (pre ++ [v]) (by simp [hp]) t (by omega)
      simpa using this
  | i, [], _ :: _, n, h, _, _, _, _ => h.elim
  | i, _ :: _, [], n, h, _, _, _, _ => h.elim
theorem Args.length {c : Cx} : ∀ {vs : List Value} {xs : List P0}, Args c vs xs → vs.length = xs.length
  | [], [], _ => rfl
  | _ :: _, _ :: _, ⟨_, h⟩ => by simp [h.length]
  | [], _ :: _, h => h.elim
  | _ :: _, [], h => h.elim
def bs0 (w : World) : Bs := { toWorld := w, base := w.heap.size, M := fun _ => False, own0 := fun _ => False, pin := fun _ => none, dfs := [] }
theorem Low.below0 {w w' : World} (h : Low (bs0 w) w') : Below w.heap.size w w' := ⟨h.os, h.tape, h.output, h.size, fun b hb => h.block b hb (fun h => h)⟩
theorem sim_start {fn : Func} {n : Nat} {args : List P0} {w : World} {vs : List Value} (hn : fn.ntmps = n) (hl : Nat.ble args.length n = true) (hG : Glob w.heap.size w) (hA : Args ⟨w, fun _ => False⟩ vs args) : Sim (bs0 w) (mkS n (argEnv 0 args) []) { tmps := vs.toArray ++ Array.replicate (fn.ntmps - vs.toArray.size) undef, defers := [] } w := by
  have hlen := hA.length
  have hl' : args.length ≤ n := by simpa using hl
  refine ⟨fun _ => (0, 0), fun _ => False, ⟨rfl, rfl, rfl, Nat.le_refl _, fun _ _ _ => rfl, fun b arr E h => ⟨arr, h, rfl⟩⟩, ⟨Nat.le_refl _, hG⟩, fun b hb => hb.elim, fun b _ hb _ => hb.elim, fun b hb => hb.elim, ?_, ?_, ?_, (fun k ob hk => by cases hk), ?_, rfl, fun k p hp => by cases hp⟩
  · simp [hn, mkS]; omega
  · intro t
    have := argEnv_sim (ι := fun _ => (0, 0)) (base := w.heap.size) 0 vs args (fn.ntmps - vs.toArray.size) hA [] rfl t (Nat.zero_le _)
    simpa [mkS, bs0, List.getD_eq_getElem?_getD, ← Array.getElem?_toList] using this
  · intro k ob hk; cases hk
  · intro k k' ob ob' hk; cases hk
theorem fn_of {P : Program} {f : FuncId} {fn : Func} {c : Code} {n : Nat} {args : List P0} {res : Res} {l : List ResultVar} (hf : P.funcs[f]? = some fn) (hname : (fn.name == "runtime.NumGoroutine") = false) (hb : fn.body = some c) (hn : fn.ntmps = n) (hr : fn.results = l.toArray) (hl : Nat.ble args.length n = true)
    (h : AW P c (mkS n (argEnv 0 args) []) (fun e s => (e = .ret ∨ e = .normal) ∧ RetOk P s l res)) : Fn P f args res := by
  refine ⟨ent_of hf hname hb, ?_⟩
  intro w vs hG hA
  refine calls_of_wp hf hb ?_
  refine wp_mono (h (bs0 w) _ w (sim_start hn hl hG hA)) ?_
  rintro e a' w' ⟨s', ⟨he, hret⟩, hs'⟩
  obtain ⟨v, g1, g2⟩ := ret_run hs' hr hret
  have hd : a'.defers = [] := by obtain ⟨ι, own, h⟩ := hs'; exact h.defers
  have hb' : Below w.heap.size w w' := by obtain ⟨ι, own, h⟩ := hs'; exact h.below.below0
  rcases he with rfl | rfl
  · exact ⟨hd, v, g1, v, rfl, g2, hb'⟩
  · exact ⟨hd, v, g1, v, rfl, g2, hb'⟩
def SubH (e : Nat → Option Ob) : List (Nat × Ob) → Prop
  | [] => True
  | (t, d) :: l => e t = some d ∧ SubH e l
def lookO : List (Nat × D) → Nat → Option D
  | [], _ => none
  | (u, d) :: l, t => bif Nat.beq t u then some d else lookO l t
theorem lookO_spec : ∀ {l : List (Nat × D)} {t : Nat} {d : D}, lookO l t = some d → look l t = d
  | (u, e) :: l, t, d, h => by
    simp only [lookO] at h
    simp only [look, upd]
    cases hb : Nat.beq t u with
    | true => rw [hb] at h; simp at hb; subst hb; rw [if_pos rfl]; simpa using h
    | false => rw [hb] at h; have hne : t ≠ u := fun e => by subst e; simp at hb
               rw [if_neg hne]; exact lookO_spec (by simpa using h)
def evO (l : List (Nat × D)) : Operand → Option D
  | .tmp t => lookO l t
  | .const (.bool b) => some (.one (.r true (val (.bool b))))
  | .const (.int k n) => some (.one (.r true (val (.int k n))))
  | .const (.string s) => some (.one (.r true (val (.string s))))
  | .const (.slice none 0 0) => some (.one (.r true (row true 0 [])))
  | .const (.pointer none) => some (.one (.r true (val (.pointer none))))
  | .const (.map none) => some (.one (.r true (val (.map none))))
  | .const .nilFunc => some (.one (.r true (val .nilFunc)))
  | .const .nilIface => some (.one (.r true (val .nilIface)))
  | .func f => some (.one (.r true (val (.func (.func f) #[] #[]))))
  | _ => none
theorem evO_spec {l : List (Nat × D)} {x : Operand} {d : D} (he : evO l x = some d) : evD (look l) x = d := by
  unfold evO at he
  split at he
  case h_1 => exact lookO_spec he
  all_goals first
    | (simp only [Option.some.injEq] at he; rw [← he]; rfl)
    | cases he
def lookHO : List (Nat × Ob) → Nat → Option Ob
  | [], _ => none
  | (u, d) :: l, t => bif Nat.beq t u then some d else lookHO l t
theorem lookHO_eq : ∀ (l : List (Nat × Ob)) (t : Nat), lookHO l t = lookH l t
  | [], t => rfl
  | (u, e) :: l, t => by
    simp only [lookHO, lookH, upd]
    cases hb : Nat.beq t u with
    | true => simp at hb; subst hb; rw [if_pos rfl]; rfl
    | false => have hne : t ≠ u := fun e => by subst e; simp at hb
               rw [if_neg hne]; exact lookHO_eq l t
theorem lookHO_spec {h : List (Nat × Ob)} {k : Nat} {ob : Ob} (he : lookHO h k = some ob) : lookH h k = some ob := by rw [← lookHO_eq]; exact he
def cutO (ag : Bool) (n off : Nat) (cs : List Cell) : Option D :=
  match ag with
  | false => match cs[off]? with
    | some x => some (.one x)
    | none => none
  | true => bif Nat.beq off 0 && Nat.beq n cs.length then some (.agg cs) else some (.agg ((cs.drop off).take n))
theorem cutO_spec {ag : Bool} {n off : Nat} {cs : List Cell} {d : D} (h : cutO ag n off cs = some d) : cut ag n off cs = d := by
  unfold cutO at h
  unfold cut
  cases ag with
  | false =>
    simp only [Bool.false_eq_true, if_false]
    cases hc : cs[off]? with
    | none => rw [hc] at h; cases h
    | some x => rw [hc] at h; injection h
  | true =>
    simp only [if_true]
    cases hb : Nat.beq off 0 && Nat.beq n cs.length with
    | true =>
      rw [hb] at h
      simp only [Bool.and_eq_true, Nat.beq_eq] at hb
      injection h with h
      subst h
      rw [hb.1, hb.2, List.drop_zero, List.take_of_length_le (Nat.le_refl _)]
    | false => rw [hb] at h; injection h
def eraseH (k : Nat) : List (Nat × Ob) → List (Nat × Ob)
  | [] => []
  | (u, ob) :: h => bif Nat.beq u k then eraseH k h else (u, ob) :: eraseH k h
theorem eraseH_get (k : Nat) : ∀ (h : List (Nat × Ob)) (u : Nat), lookH (eraseH k h) u = if u = k then none else lookH h u
  | [], u => by simp [eraseH, lookH]
  | (v, ob) :: h, u => by
    simp only [eraseH]
    cases hb : Nat.beq v k with
    | true =>
      simp at hb
      subst hb
      simp only [cond_true, eraseH_get v h u, lookH, upd]
      by_cases h1 : u = v
      · rw [if_pos h1, if_pos h1]
      · rw [if_neg h1, if_neg h1, if_neg h1]
    | false =>
      have hne : v ≠ k := fun e => by subst e; simp at hb
      simp only [cond_false, lookH, upd, eraseH_get k h u]
      by_cases h1 : u = v
      · subst h1; rw [if_pos rfl, if_neg hne, if_pos rfl]
      · rw [if_neg h1, if_neg h1]
def appL : List (Nat × Option Ob) → List (Nat × Ob) → List (Nat × Ob)
  | [], h => h
  | (k, none) :: U, h => eraseH k (appL U h)
  | (k, some ob) :: U, h => (k, ob) :: eraseH k (appL U h)
theorem appL_ok : ∀ (U : List (Nat × Option Ob)) (h : List (Nat × Ob)), lookH (appL U h) = appU U (lookH h)
  | [], h => rfl
  | (k, none) :: U, h => by
    funext u
    simp only [appL, eraseH_get, appL_ok U h, appU, findU]
    split <;> rfl
  | (k, some ob) :: U, h => by
    funext u
    simp only [appL, lookH, upd, eraseH_get, appL_ok U h, appU, findU]
    split <;> rfl
def putL (dst : Option Nat) (d : D) (l : List (Nat × D)) : List (Nat × D) := match dst with | some t => (t, d) :: l | none => l
theorem putL_ok (dst : Option Nat) (d : D) (l : List (Nat × D)) : look (putL dst d l) = putE (look l) dst d := by cases dst <;> rfl
def putLO (dst : Option Nat) (d : D) (l : List (Nat × D)) : Option (List (Nat × D)) := match dst with | some t => some ((t, d) :: l) | none => some l
theorem putLO_ok {dst : Option Nat} {d : D} {l l' : List (Nat × D)} (h : putLO dst d l = some l') : putL dst d l = l' := by cases dst <;> (unfold putLO at h; injection h)
def eraseHO (k : Nat) : List (Nat × Ob) → Option (List (Nat × Ob))
  | [] => some []
  | (u, ob) :: h => match eraseHO k h with
    | some r => bif Nat.beq u k then some r else some ((u, ob) :: r)
    | none => none
theorem eraseHO_ok {k : Nat} : ∀ {h h' : List (Nat × Ob)}, eraseHO k h = some h' → eraseH k h = h'
  | [], h', e => by injection e
  | (u, ob) :: h, h', e => by
    simp only [eraseHO] at e
    split at e
    · rename_i r hr
      have := eraseHO_ok hr
      simp only [eraseH, this]
      cases hb : Nat.beq u k <;> rw [hb] at e <;> simpa using e
    · cases e
def appLO : List (Nat × Option Ob) → List (Nat × Ob) → Option (List (Nat × Ob))
  | [], h => some h
  | (k, x) :: U, h => match appLO U h with
    | some r => (match eraseHO k r with
      | some r' => (match x with | some ob => some ((k, ob) :: r') | none => some r')
      | none => none)
    | none => none
theorem appLO_ok : ∀ {U : List (Nat × Option Ob)} {h h' : List (Nat × Ob)}, appLO U h = some h' → appL U h = h'
  | [], h, h', e => by injection e
  | (k, x) :: U, h, h', e => by
    simp only [appLO] at e
    split at e
    · rename_i r hr
      split at e
      · rename_i r' hr'
        have h1 := appLO_ok hr
        have h2 := eraseHO_ok hr'
        cases x with
        | none => injection e with e; subst e; simp only [appL, h1, h2]
        | some ob => injection e with e; subst e; simp only [appL, h1, h2]
      · cases e
    · cases e
def keys : List (Nat × Ob) → List Nat
  | [] => []
  | (k, _) :: h => k :: keys h
theorem lookH_none : ∀ {h : List (Nat × Ob)} {k : Nat}, k ∉ keys h → lookH h k = none
  | [], _, _ => rfl
  | (u, ob) :: h, k, hk => by
    simp only [keys, List.mem_cons, not_or] at hk
    simp only [lookH, upd, if_neg hk.1]
    exact lookH_none hk.2
theorem resH_keys (h : List (Nat × Ob)) : resH (keys h) (lookH h) = lookH h := by
  funext k
  unfold resH
  split
  · rfl
  · rename_i hk; exact (lookH_none hk).symm
def memB (k : Nat) : List Nat → Bool
  | [] => false
  | u :: l => Nat.beq k u || memB k l
theorem memB_spec {k : Nat} : ∀ {l : List Nat}, memB k l = true ↔ k ∈ l
  | [] => by simp [memB]
  | u :: l => by simp [memB, memB_spec (l := l)]
def filtH (fp : List Nat) : List (Nat × Ob) → List (Nat × Ob)
  | [] => []
  | (k, ob) :: h => bif memB k fp then (k, ob) :: filtH fp h else filtH fp h
theorem filtH_ok (fp : List Nat) : ∀ h : List (Nat × Ob), lookH (filtH fp h) = resH fp (lookH h)
  | [] => by funext k; simp [filtH, lookH, resH]
  | (k, ob) :: h => by
    funext u
    simp only [filtH]
    cases hb : memB k fp with
    | true =>
      have hk := memB_spec.1 hb
      simp only [cond_true, lookH, upd, filtH_ok fp h, resH]
      by_cases h1 : u = k
      · subst h1; simp [hk]
      · simp [h1]
    | false =>
      have hk : k ∉ fp := fun h => by rw [memB_spec.2 h] at hb; cases hb
      simp only [cond_false, filtH_ok fp h, resH, lookH, upd]
      by_cases h1 : u = k
      · subst h1; simp [hk]
      · simp [h1]
def isS : Option Ob → Bool
  | some _ => true
  | none => false
def domU : List (Nat × Option Ob) → List Nat
  | [] => []
  | (k, _) :: U => k :: domU U
theorem domU_eq : ∀ U : List (Nat × Option Ob), domU U = U.map (·.1)
  | [] => rfl
  | (k, x) :: U => by simp [domU, domU_eq U]
def fineB (fp τ new : List Nat) (U : List (Nat × Option Ob)) (h : List (Nat × Ob)) : Bool := τ.all (fun k => memB k fp && isS (lookHO h k) && memB k (domU U)) && new.all (fun k => memB k (domU U) && Nat.blt k pinned)
theorem fineB_spec {d : D} {fp τ new : List Nat} {U : List (Nat × Option Ob)} {h : List (Nat × Ob)} (hb : fineB fp τ new U h = true) : (Sg.mk d fp τ new U).fine (lookH h) := by
  unfold fineB at hb
  simp only [Bool.and_eq_true, List.all_eq_true, memB_spec, domU_eq, Nat.blt_eq] at hb
  refine ⟨fun k hk => ?_, fun k hk => hb.2 k hk⟩
  obtain ⟨⟨h1, h2⟩, h3⟩ := hb.1 k hk
  refine ⟨h1, ?_, h3⟩
  rw [lookHO_eq] at h2
  cases hl : lookH h k with
  | none => rw [hl] at h2; cases h2
  | some ob => exact ⟨ob, rfl⟩
def isD (dst : Option Nat) (u : Nat) : Bool := match dst with | some t => Nat.beq t u | none => false
def freshB (dst : Option Nat) (new : List Nat) (U : List (Nat × Option Ob)) (l : List (Nat × D)) (h : List (Nat × Ob)) : Bool :=
  new.all fun t => l.all (fun p => isD dst p.1 || !p.2.men t) && h.all (fun p => memB p.1 (domU U) || !p.2.men t)
theorem look_fresh' {dst : Option Nat} {t : Nat} : ∀ {l : List (Nat × D)}, (l.all fun p => isD dst p.1 || !p.2.men t) = true → ∀ u, dst ≠ some u → (look l u).men t = false
  | [], _, u, _ => rfl
  | (v, d) :: l, h, u, hu => by
    simp only [List.all_cons, Bool.and_eq_true, Bool.or_eq_true, Bool.not_eq_true'] at h
    simp only [look, upd]
    split
    · rename_i e
      subst e
      refine h.1.resolve_left (fun h' => hu ?_)
      unfold isD at h'
      cases dst with
      | none => cases h'
      | some t => simp at h'; rw [h']
    · exact look_fresh' (by simpa using h.2) u hu
theorem lookH_fresh' {dom : List Nat} {t : Nat} : ∀ {l : List (Nat × Ob)}, (l.all fun p => memB p.1 dom || !p.2.men t) = true → ∀ u ob, u ∉ dom → lookH l u = some ob → ob.men t = false
  | [], _, u, ob, _, h => by cases h
  | (v, d) :: l, h, u, ob, hu, ho => by
    simp only [List.all_cons, Bool.and_eq_true, Bool.or_eq_true, Bool.not_eq_true'] at h
    simp only [lookH, upd] at ho
    split at ho
    · rename_i e
      subst e
      injection ho with ho
      subst ho
      exact h.1.resolve_left (fun h' => hu (memB_spec.1 h'))
    · exact lookH_fresh' (by simpa using h.2) u ob hu ho
theorem freshB_spec {d : D} {fp τ new : List Nat} {U : List (Nat × Option Ob)} {dst : Option Nat} {n : Nat} {l : List (Nat × D)} {h : List (Nat × Ob)} (hb : freshB dst new U l h = true) : (Sg.mk d fp τ new U).fresh dst (mkS n l h) := fun t ht => by
  have := List.all_eq_true.1 hb t ht
  simp only [Bool.and_eq_true] at this
  exact ⟨look_fresh' this.1, fun k ob hk => lookH_fresh' this.2 k ob (by rw [domU_eq]; exact hk)⟩
def okB (n : Nat) (dst : Option Nat) (fp τ new : List Nat) (U : List (Nat × Option Ob)) (l : List (Nat × D)) (h : List (Nat × Ob)) : Bool :=
  (match dst with | some t => Nat.blt t n | none => true) && fineB fp τ new U h && freshB dst new U l h
section
variable {P : Program} {Z : List Sg → Bool} {q : Option (List Sg)} {acc : List Sg} {ops : Array Oper} {o : Oper} {rest : List Oper} {n : Nat} {l l' : List (Nat × D)} {h h' hF : List (Nat × Ob)} {K : St → Prop} {d : D} {fp τ new : List Nat} {U : List (Nat × Option Ob)}
theorem w_core {g : Bool} (hg : Grd ops o (mkS n l h) g) (hgt : g = true) (hF' : lookH hF = resH fp (lookH h)) (hE : Eff P (lookH hF) (evD (look l)) o d τ new U) (hok : okB n o.dst fp τ new U l h = true) (hl : putL o.dst d l = l') (hh : appL U h = h') (hk : W P ops Z rest (mkS n l' h') (psh ⟨d, fp, τ, new, U⟩ q) K) : W P ops Z (o :: rest) (mkS n l h) q K := by
  subst hgt hl hh
  unfold okB at hok
  simp only [Bool.and_eq_true] at hok
  have hk' : W P ops Z rest ((mkS n l h).app o.dst ⟨d, fp, τ, new, U⟩) (psh ⟨d, fp, τ, new, U⟩ q) K := by
    have e : (mkS n l h).app o.dst ⟨d, fp, τ, new, U⟩ = mkS n (putL o.dst d l) (appL U h) := by
      unfold St.app mkS
      rw [putL_ok, appL_ok]
    rw [e]; exact hk
  refine ⟨true, ⟨d, fp, τ, new, U⟩, hg, ?_, fun _ => ⟨hF' ▸ hE, fineB_spec hok.1.2, freshB_spec hok.2⟩, (fun h => by cases h), hk'⟩
  have := hok.1.1
  unfold dstOk
  exact this
theorem grd_none (hg : o.guard = none) : Grd ops o (mkS n l h) true := by unfold Grd; rw [hg]
theorem grd_yes {j t : Nat} {want m : Bool} (hg : o.guard = some (j, want)) (hj : (ops[j]?).bind (·.dst) = some t) (hb : look l t = .one (.r m (bool want))) : Grd ops o (mkS n l h) true := by
  unfold Grd; rw [hg]; exact ⟨t, m, hj, .inl ⟨want, hb, by simp⟩⟩
theorem grd_no {j t : Nat} {want b m : Bool} (hg : o.guard = some (j, want)) (hj : (ops[j]?).bind (·.dst) = some t) (hb : look l t = .one (.r m (bool b))) (hw : (b == want) = false) : Grd ops o (mkS n l h) false := by
  unfold Grd; rw [hg]; exact ⟨t, m, hj, .inl ⟨b, hb, hw.symm⟩⟩
theorem grd_un {j t : Nat} {want m : Bool} (hg : o.guard = some (j, want)) (hj : (ops[j]?).bind (·.dst) = some t) (hb : look l t = .tup m []) : Grd ops o (mkS n l h) false := by
  unfold Grd; rw [hg]; exact ⟨t, m, hj, .inr ⟨hb, rfl⟩⟩
theorem w_off {u : Nat} (hg : Grd ops o (mkS n l h) false) (hd : o.dst = some u) (ht : Nat.blt u n = true) (hk : W P ops Z rest (mkS n ((u, .tup true []) :: l) h) (psh skipS q) K) : W P ops Z (o :: rest) (mkS n l h) q K := by
  have hk' : W P ops Z rest ((mkS n l h).app o.dst skipS) (psh skipS q) K := by
    have e : (mkS n l h).app o.dst skipS = mkS n ((u, .tup true []) :: l) h := by rw [hd]; rfl
    rw [e]; exact hk
  exact ⟨false, skipS, hg, by unfold dstOk; rw [hd]; exact ht, (fun h => by cases h), fun _ => rfl, hk'⟩
theorem w_nil (hk : K (mkS n l h)) : W P ops Z [] (mkS n l h) none K := ⟨fun _ h => (by cases h), hk⟩
theorem x_nil (hz : Z acc = true) (hk : K (mkS n l h)) : W P ops Z [] (mkS n l h) (some acc) K := ⟨fun _ h => by injection h with h; rw [← h]; exact hz, hk⟩
theorem okB_pure {t : Nat} (hd : o.dst = some t) (ht : Nat.blt t n = true) : okB n o.dst fp [] [] [] l h = true := by
  unfold okB
  rw [hd]
  simp only [Bool.and_eq_true]
  exact ⟨⟨ht, rfl⟩, rfl⟩
theorem w_seq {l : List Oper} {s : St} (h : W P ops Z l s none K) : W P ops Z l s none K := h
theorem w_drw {l : List Oper} {s : St} (h : W P ops Z l s (some acc) K) : W P ops Z l s (some acc) K := h
theorem w_q {t : Nat} (hg : o.guard = none) (hd : o.dst = some t) (hL : Loc P (lookH h) (evD (look l)) o d) (ht : Nat.blt t n = true) (hk : W P ops Z rest (mkS n ((t, d) :: l) h) none K) : W P ops Z (o :: rest) (mkS n l h) none K :=
  w_core (grd_none hg) rfl (fp := keys h) (resH_keys h).symm hL (okB_pure hd ht) (by rw [hd]; rfl) rfl hk
theorem w_yes {j t u : Nat} {want m : Bool} (hg : o.guard = some (j, want)) (hj : (ops[j]?).bind (·.dst) = some t) (hb : look l t = .one (.r m (bool want))) (hd : o.dst = some u) (hL : Loc P (lookH h) (evD (look l)) o d) (ht : Nat.blt u n = true) (hk : W P ops Z rest (mkS n ((u, d) :: l) h) none K) : W P ops Z (o :: rest) (mkS n l h) none K :=
  w_core (grd_yes hg hj hb) rfl (fp := keys h) (resH_keys h).symm hL (okB_pure hd ht) (by rw [hd]; rfl) rfl hk
theorem w_e (hg : o.guard = none) (hE : Eff P (lookH h) (evD (look l)) o d τ new U) (hok : okB n o.dst (keys h) τ new U l h = true) (hl : putLO o.dst d l = some l') (hh : appLO U h = some h') (hk : W P ops Z rest (mkS n l' h') none K) : W P ops Z (o :: rest) (mkS n l h) none K :=
  w_core (grd_none hg) rfl (fp := keys h) (resH_keys h).symm hE hok (putLO_ok hl) (appLO_ok hh) hk
theorem w_ey {j t : Nat} {want m : Bool} (hg : o.guard = some (j, want)) (hj : (ops[j]?).bind (·.dst) = some t) (hb : look l t = .one (.r m (bool want))) (hE : Eff P (lookH h) (evD (look l)) o d τ new U) (hok : okB n o.dst (keys h) τ new U l h = true) (hl : putLO o.dst d l = some l') (hh : appLO U h = some h') (hk : W P ops Z rest (mkS n l' h') none K) : W P ops Z (o :: rest) (mkS n l h) none K :=
  w_core (grd_yes hg hj hb) rfl (fp := keys h) (resH_keys h).symm hE hok (putLO_ok hl) (appLO_ok hh) hk
theorem w_no {j t u : Nat} {want b m : Bool} (hg : o.guard = some (j, want)) (hj : (ops[j]?).bind (·.dst) = some t) (hb : look l t = .one (.r m (bool b))) (hw : (b == want) = false) (hd : o.dst = some u) (ht : Nat.blt u n = true) (hk : W P ops Z rest (mkS n ((u, .tup true []) :: l) h) none K) : W P ops Z (o :: rest) (mkS n l h) none K := w_off (grd_no hg hj hb hw) hd ht hk
theorem w_un {j t u : Nat} {want m : Bool} (hg : o.guard = some (j, want)) (hj : (ops[j]?).bind (·.dst) = some t) (hb : look l t = .tup m []) (hd : o.dst = some u) (ht : Nat.blt u n = true) (hk : W P ops Z rest (mkS n ((u, .tup true []) :: l) h) none K) : W P ops Z (o :: rest) (mkS n l h) none K := w_off (grd_un hg hj hb) hd ht hk
theorem x_q {t : Nat} (hg : o.guard = none) (hd : o.dst = some t) (hL : Loc P (lookH (filtH fp h)) (evD (look l)) o d) (ht : Nat.blt t n = true) (hk : W P ops Z rest (mkS n ((t, d) :: l) h) (some (⟨d, fp, [], [], []⟩ :: acc)) K) : W P ops Z (o :: rest) (mkS n l h) (some acc) K :=
  w_core (grd_none hg) rfl (fp := fp) (filtH_ok fp h) hL (okB_pure hd ht) (by rw [hd]; rfl) rfl hk
theorem x_yes {j t u : Nat} {want m : Bool} (hg : o.guard = some (j, want)) (hj : (ops[j]?).bind (·.dst) = some t) (hb : look l t = .one (.r m (bool want))) (hd : o.dst = some u) (hL : Loc P (lookH (filtH fp h)) (evD (look l)) o d) (ht : Nat.blt u n = true) (hk : W P ops Z rest (mkS n ((u, d) :: l) h) (some (⟨d, fp, [], [], []⟩ :: acc)) K) : W P ops Z (o :: rest) (mkS n l h) (some acc) K :=
  w_core (grd_yes hg hj hb) rfl (fp := fp) (filtH_ok fp h) hL (okB_pure hd ht) (by rw [hd]; rfl) rfl hk
theorem x_e (hg : o.guard = none) (hE : Eff P (lookH (filtH fp h)) (evD (look l)) o d τ new U) (hok : okB n o.dst fp τ new U l h = true) (hl : putLO o.dst d l = some l') (hh : appLO U h = some h') (hk : W P ops Z rest (mkS n l' h') (some (⟨d, fp, τ, new, U⟩ :: acc)) K) : W P ops Z (o :: rest) (mkS n l h) (some acc) K :=
  w_core (grd_none hg) rfl (fp := fp) (filtH_ok fp h) hE hok (putLO_ok hl) (appLO_ok hh) hk
theorem x_no {j t u : Nat} {want b m : Bool} (hg : o.guard = some (j, want)) (hj : (ops[j]?).bind (·.dst) = some t) (hb : look l t = .one (.r m (bool b))) (hw : (b == want) = false) (hd : o.dst = some u) (ht : Nat.blt u n = true) (hk : W P ops Z rest (mkS n ((u, .tup true []) :: l) h) (some (skipS :: acc)) K) : W P ops Z (o :: rest) (mkS n l h) (some acc) K := w_off (grd_no hg hj hb hw) hd ht hk
theorem x_un {j t u : Nat} {want m : Bool} (hg : o.guard = some (j, want)) (hj : (ops[j]?).bind (·.dst) = some t) (hb : look l t = .tup m []) (hd : o.dst = some u) (ht : Nat.blt u n = true) (hk : W P ops Z rest (mkS n ((u, .tup true []) :: l) h) (some (skipS :: acc)) K) : W P ops Z (o :: rest) (mkS n l h) (some acc) K := w_off (grd_un hg hj hb) hd ht hk
theorem look_true {t : Nat} {d : D} (hd : look l t = d) : look ((t, d) :: l) = look l := by
  funext u
  simp only [look, upd]
  split
  · rename_i e; subst e; exact hd.symm
  · rfl
theorem w_split {j t : Nat} {want b m : Bool} (hg : o.guard = some (j, want)) (hj : (ops[j]?).bind (·.dst) = some t) (hb : look l t = .one (.r m (bool b))) (h1 : b = true → W P ops Z (o :: rest) (mkS n ((t, .one (.r m (bool true))) :: l) h) q K) (h2 : b = false → W P ops Z (o :: rest) (mkS n ((t, .one (.r m (bool false))) :: l) h) q K) : W P ops Z (o :: rest) (mkS n l h) q K := by
  cases b with
  | true => have := h1 rfl; rwa [mkS, look_true hb] at this
  | false => have := h2 rfl; rwa [mkS, look_true hb] at this
end
section
variable {K : St → Prop} {Q : Exit → St → Prop} {s : St}
theorem thn_normal (h : K s) : Thn K Q .normal s := h
theorem thn_ret (h : Q .ret s) : Thn K Q .ret s := h
theorem thn_exit {i : Nat} (h : Q (.exit i) s) : Thn K Q (.exit i) s := h
theorem blk_normal {i : Nat} (h : Q .normal s) : Blk i Q .normal s := h
theorem blk_ret {i : Nat} (h : Q .ret s) : Blk i Q .ret s := h
theorem blk_hit {i : Nat} (h : Q .normal s) : Blk i Q (.exit i) s := by simp only [Blk, if_true]; exact h
end
section
variable {P : Program} {n : Nat} {l : List (Nat × D)} {h : List (Nat × Ob)} {H : Nat → Option Ob}
theorem ret_tmp {t : Nat} {d : D} {x : P0} (he : lookO l t = some d) (hd : DRes (lookH h) d x) : (Exit.ret = Exit.ret ∨ Exit.ret = Exit.normal) ∧ RetOk P (mkS n l h) [.tmp t] (.v x) := ⟨.inl rfl, by
  show DRes (lookH h) (look l t) x
  rw [lookO_spec he]; exact hd⟩
theorem rv_tmp {t : Nat} {d : D} {x : P0} (he : lookO l t = some d) (hd : DRes (lookH h) d x) : RvOk P (mkS n l h) (.tmp t) x := by
  show DRes (lookH h) (look l t) x
  rw [lookO_spec he]; exact hd
theorem rv_cell {t ty k off m : Nat} {E : TypeId} {cells : List Cell} {ag : Bool} {d : D} {x : P0} (he : lookO l t = some (.one (.ptr k 0 0 off))) (hk : lookHO h k = some (.var E cells)) (hT : tyOf P ty = some (ag, m)) (hn : Nat.ble (off + m) cells.length = true) (h1 : (ag || Nat.beq m 1) = true) (hc : cutO ag m off cells = some d) (hd : DRes (lookH h) d x) : RvOk P (mkS n l h) (.cell t ty) x :=
  ⟨k, off, E, cells, ag, m, lookO_spec he, lookHO_spec hk, hT, hn, h1, by rw [cutO_spec hc]; exact hd⟩
theorem ret_v {s : St} {a : ResultVar} {x : P0} (h1 : RvOk P s a x) : (Exit.ret = Exit.ret ∨ Exit.ret = Exit.normal) ∧ RetOk P s [a] (.v x) := ⟨.inl rfl, h1⟩
theorem ret_2 {s : St} {a b : ResultVar} {x y : P0} (h1 : RvOk P s a x) (h2 : RvOk P s b y) : (Exit.ret = Exit.ret ∨ Exit.ret = Exit.normal) ∧ RetOk P s [a, b] (.tup [x, y]) := ⟨.inl rfl, rfl, h1, h2, trivial⟩
theorem dres_bool {m a b : Bool} (h : a = b) : DRes H (.one (.r m (val (.bool a)))) (.one (bool b)) := by subst h; exact dres_one cres_val
theorem dres_int {m : Bool} {k : IntKind} {a b : Int} (h : a = b) : DRes H (.one (.r m (val (.int k a)))) (.one (val (.int k b))) := by subst h; exact dres_one cres_val
theorem asA_r {m : Bool} {r : R} {ev : Operand → D} {x : Operand} (h : ev x = .one (.r m r)) : AsArg H (ev x) (.one r) := by rw [h]; exact asArg_r
theorem asArg_nil {m nil : Bool} {sz sz' : Nat} : AsArg H (.one (.r m (row nil sz []))) (.one (row nil sz' [])) := fun ι base w own v hH h => let ⟨ao, cap, h1, h2, h3, h4, h5⟩ := row_p.1 h; row_p.2 ⟨ao, cap, h1, h2, h3, h4, fun h => by simp at h⟩
theorem asA_nil {m nil : Bool} {sz sz' : Nat} {ev : Operand → D} {x : Operand} (h : ev x = .one (.r m (row nil sz []))) : AsArg H (ev x) (.one (row nil sz' [])) := by rw [h]; exact asArg_nil
theorem asA_own {k j n sz : Nat} {E : TypeId} {els : List P0} {new : Bool} {ev : Operand → D} {x : Operand} (h : ev x = .one (.own k j n sz)) (hk : H k = some (.sl E sz new els)) (hn : j + n ≤ els.length) : AsArg H (ev x) (.one (row false sz ((els.drop j).take n))) := by
  rw [h]
  intro ι base w own v hH hv
  exact row_of_own (hH k _ hk) hn hv (fun h => h) (Cx.Ext.sub (c := Cx.young ⟨w, own⟩ base new) (c' := ⟨w, fun _ => False⟩) (by rw [Cx.young_w]) (fun b (hb : False) => hb.elim))
def CAr (H : Nat → Option Ob) (x : Cell) (r : R) : Prop := AsArg H (.one x) (.one r)
def CsAr (H : Nat → Option Ob) : List Cell → List R → Prop
  | [], [] => True
  | x :: xs, r :: rs => CAr H x r ∧ CsAr H xs rs
  | _, _ => False
theorem CsAr.get : ∀ {xs : List Cell} {rs : List R}, CsAr H xs rs → xs.length = rs.length ∧ ∀ (j : Nat) (r : R), rs[j]? = some r → ∃ x, xs[j]? = some x ∧ CAr H x r
  | [], [], _ => ⟨rfl, fun j r hj => by simp at hj⟩
  | x :: xs, r :: rs, ⟨h1, h2⟩ => by
    obtain ⟨g1, g2⟩ := CsAr.get h2
    refine ⟨by simp [g1], fun j r' hj => ?_⟩
    cases j with
    | zero => simp at hj; subst hj; exact ⟨x, rfl, h1⟩
    | succ j => exact g2 j r' (by simpa using hj)
  | [], _ :: _, h => h.elim
  | _ :: _, [], h => h.elim
theorem asA_agg {xs : List Cell} {rs : List R} {ev : Operand → D} {x : Operand} (h : ev x = .agg xs) (hc : CsAr H xs rs) : AsArg H (ev x) (.agg rs) := by
  rw [h]
  intro ι base w own v hH ⟨vs, h1, h2, h3⟩
  obtain ⟨g1, g2⟩ := hc.get
  refine ⟨vs, h1, by omega, fun j r hj => ?_⟩
  obtain ⟨y, hy, hc⟩ := g2 j r hj
  obtain ⟨u, hu, hp⟩ := h3 j y hy
  exact ⟨u, hu, hc ι base w own u hH hp⟩
theorem cAr_r {m : Bool} {r : R} : CAr H (.r m r) r := asArg_r
theorem cAr_nil {m nil : Bool} {sz sz' : Nat} : CAr H (.r m (row nil sz [])) (row nil sz' []) := asArg_nil
theorem cAr_own {k j n sz : Nat} {E : TypeId} {els : List P0} {new : Bool} (hk : H k = some (.sl E sz new els)) (hn : j + n ≤ els.length) : CAr H (.own k j n sz) (row false sz ((els.drop j).take n)) := by
  intro ι base w own v hH hv
  exact row_of_own (hH k _ hk) hn hv (fun h => h) (Cx.Ext.sub (c := Cx.young ⟨w, own⟩ base new) (c' := ⟨w, fun _ => False⟩) (by rw [Cx.young_w]) (fun b (hb : False) => hb.elim))
theorem k_call {ev : Operand → D} {o : Oper} {f : FuncId} {res : Res} {xs : List Operand} {ys : List P0} {tys : Array TypeId} (hf : Fn P f ys res) (ho : o.op = .call { callee := .value (.func f), args := xs.toArray, argTypes := tys }) (ha : AsArgs H ev xs ys) : Loc P H ev o res.d := loc_call xs tys ho ha hf
def zcOf (P : Program) (t : TypeId) : Option (List Cell) := (zOf P t).map (List.map cellOf)
theorem k_alloc {ev : Operand → D} {o : Oper} {t : Nat} {cs : List Cell} (E : TypeId) (ho : o.op = .alloc E) (hz : zcOf P E = some cs) : Eff P H ev o (.one (.ptr t 0 0 0)) [] [t] [(t, some (.var E cs))] := by
  unfold zcOf at hz
  cases hzz : zOf P E with
  | none => simp [hzz] at hz
  | some zs => simp only [hzz, Option.map_some, Option.some.injEq] at hz; subst hz; exact eff_alloc E ho hzz
end
end Go.Proofs.YtlobefglhppbdaaGreatDoor.Abs
set_option linter.unusedSimpArgs false
set_option linter.unusedVariables false
namespace Go.Proofs.YtlobefglhppbdaaGreatDoor.Abs
open Go.RowKit
open R (val row ref)
theorem foldl_set (off : Nat) : ∀ (vs : List Value) (k : Nat) (cells : Array Value), off + k + vs.length ≤ cells.size →
    ((vs.zipIdx k).foldl (fun cs (x : Value × Nat) => cs.setIfInBounds (off + x.2) x.1) cells).toList = cells.toList.take (off + k) ++ vs ++ cells.toList.drop (off + k + vs.length)
  | [], k, cells, _ => by simp
  | v :: vs, k, cells, h => by
    simp only [List.length_cons] at h
    rw [List.zipIdx_cons, List.foldl_cons, foldl_set off vs (k + 1) _ (by simp; omega)]
    apply List.ext_getElem?
    intro j
    have hl : (cells.toList.take (off + k)).length = off + k := by rw [List.length_take, Array.length_toList]; omega
    have hl2 : ((cells.setIfInBounds (off + k) v).toList.take (off + (k + 1))).length = off + (k + 1) := by rw [List.length_take, Array.length_toList, Array.size_setIfInBounds]; omega
    simp only [Array.toList_setIfInBounds]
    by_cases h1 : j < off + k
    · rw [List.append_assoc, List.getElem?_append_left (by simp; omega), List.append_assoc, List.getElem?_append_left (by omega), List.getElem?_take, if_pos (by omega), List.getElem?_take, if_pos h1, List.getElem?_set_ne (by omega)]
    · by_cases h2 : j = off + k
      · subst h2
        rw [List.append_assoc, List.getElem?_append_left (by simp; omega), List.getElem?_take, if_pos (by omega), List.getElem?_set_self (by simp; omega), List.append_assoc, List.getElem?_append_right (by omega), hl, Nat.sub_self]
        simp
      · have hr : (cells.toList.take (off + k) ++ v :: vs ++ cells.toList.drop (off + k + (v :: vs).length))[j]? = (vs ++ cells.toList.drop (off + k + (vs.length + 1)))[j - (off + k + 1)]? := by
          rw [List.append_assoc, List.getElem?_append_right (by omega), hl, List.cons_append, show j - (off + k) = (j - (off + k + 1)) + 1 by omega, List.getElem?_cons_succ, List.length_cons]
        rw [hr, List.append_assoc, List.getElem?_append_right (by simp; omega)]
        have hl3 : ((cells.toList.set (off + k) v).take (off + (k + 1))).length = off + (k + 1) := by rw [List.length_take, List.length_set, Array.length_toList]; omega
        rw [hl3, show j - (off + (k + 1)) = j - (off + k + 1) by omega]
        congr 2
        rw [List.drop_set_of_lt (by omega)]
        congr 1
        omega
def putC : Nat → List Cell → List Cell → Option (List Cell)
  | 0, [], cs => some cs
  | 0, x :: xs, _ :: cs => match putC 0 xs cs with | some r => some (x :: r) | none => none
  | 0, _ :: _, [] => none
  | n + 1, xs, c :: cs => match putC n xs cs with | some r => some (c :: r) | none => none
  | _ + 1, _, [] => none
theorem putC_ok : ∀ {n : Nat} {xs cs r : List Cell}, putC n xs cs = some r → n + xs.length ≤ cs.length ∧ r = splice n xs cs
  | 0, [], cs, r, h => by simp only [putC, Option.some.injEq] at h; subst h; simp [splice]
  | 0, x :: xs, c :: cs, r, h => by
    simp only [putC] at h
    split at h
    · rename_i r' hr
      injection h with h; subst h
      obtain ⟨h1, h2⟩ := putC_ok hr
      refine ⟨by simp; omega, ?_⟩
      rw [h2]; simp [splice]
    · cases h
  | 0, _ :: _, [], r, h => by cases h
  | n + 1, xs, c :: cs, r, h => by
    simp only [putC] at h
    split at h
    · rename_i r' hr
      injection h with h; subst h
      obtain ⟨h1, h2⟩ := putC_ok hr
      refine ⟨by simp; omega, ?_⟩
      rw [h2]; simp [splice, show n + 1 + xs.length = (n + xs.length) + 1 by omega]
    · cases h
  | _ + 1, _, [], r, h => by cases h
def plc (P : Program) : List Field → Option (List (Nat × Nat))
  | [] => some []
  | f :: fs => match P.info? f.type with
    | some i => (match plc P fs with | some r => some ((f.offset, i.size) :: r) | none => none)
    | none => none
def bldOf (P : Program) (t : TypeId) : Option (List (Nat × Nat)) := match P.underlying t with | some (.struct fs) => plc P fs.toList | _ => none
theorem plc_run {P : Program} {w : World} : ∀ {fs : List Field} {pl : List (Nat × Nat)}, plc P fs = some pl → ((fs.mapM fun f => do pure (f.offset, ← sizeOf f.type) : Sem (List (Nat × Nat)))).run P w = .ok pl w
  | [], pl, h => by injection h with h; subst h; rfl
  | f :: fs, pl, h => by
    simp only [plc] at h
    split at h
    · rename_i i hi
      split at h
      · rename_i r hr
        injection h with h; subst h
        have := plc_run (w := w) hr
        rw [List.mapM_cons]
        simp only [Sem.run_bind, sizeOf, typeInfo, run_program, Result.andThen_ok, hi, Sem.run_pure, Option.map_some] at this ⊢
        rw [this]
        rfl
      · cases h
    · cases h
def CellsLike (ι : Nat → Nat × Nat) (base : Nat) (c : Cx) (arr : Array Value) (cs : List Cell) : Prop := arr.size = cs.length ∧ ∀ (j : Nat) (x : Cell), cs[j]? = some x → ∃ u, arr[j]? = some u ∧ x.p ι base c u
def buildC (pl : List (Nat × Nat)) : List Cell → List (Nat × List Cell) → Option (List Cell)
  | cs, [] => some cs
  | cs, (i, xs) :: r => match pl[i]? with
    | some (off, n) => bif Nat.beq xs.length n then (match putC off xs cs with | some cs' => buildC pl cs' r | none => none) else none
    | none => none
def PartsLike (ι : Nat → Nat × Nat) (base : Nat) (c : Cx) : List (Nat × Value) → List (Nat × List Cell) → Prop
  | [], [] => True
  | (i, v) :: ps, (j, xs) :: qs => i = j ∧ CellsLike ι base c v.cells xs ∧ PartsLike ι base c ps qs
  | _, _ => False
theorem fill_ok {ι : Nat → Nat × Nat} {base : Nat} {c : Cx} {pl : List (Nat × Nat)} : ∀ {ps : List (Nat × Value)} {qs : List (Nat × List Cell)} {arr : Array Value} {cs r : List Cell}, PartsLike ι base c ps qs → CellsLike ι base c arr cs → buildC pl cs qs = some r → ∃ out, Instr.fill (fun i => pl.toArray[i]?) arr ps = some out ∧ CellsLike ι base c out r
  | [], [], arr, cs, r, _, ha, h => by injection h with h; subst h; exact ⟨arr, rfl, ha⟩
  | (i, v) :: ps, (j, xs) :: qs, arr, cs, r, ⟨hij, hv, hps⟩, ha, h => by
    subst hij
    simp only [buildC] at h
    split at h
    · rename_i off n hp
      cases hb : Nat.beq xs.length n with
      | false => rw [hb] at h; cases h
      | true =>
        rw [hb] at h
        simp only [cond_true] at h
        split at h
        · rename_i cs' hc
          have hn : xs.length = n := by simpa using hb
          obtain ⟨hle, rfl⟩ := putC_ok hc
          have hf := foldl_set off v.cells.toList 0 arr (by rw [Array.length_toList, hv.1, ha.1]; omega)
          simp only [Nat.add_zero, Array.length_toList] at hf
          have hfold : (v.cells.zipIdx.foldl (fun cs (x : Value × Nat) => cs.setIfInBounds (off + x.2) x.1) arr).toList = arr.toList.take off ++ v.cells.toList ++ arr.toList.drop (off + v.cells.size) := by
            rw [← hf, ← Array.foldl_toList, Array.toList_zipIdx]
          have hsz : (v.cells.zipIdx.foldl (fun cs (x : Value × Nat) => cs.setIfInBounds (off + x.2) x.1) arr).size = arr.size := by
            rw [← Array.length_toList, hfold]
            simp [ha.1, hv.1]
            omega
          obtain ⟨out, o1, o2⟩ := fill_ok (arr := v.cells.zipIdx.foldl (fun cs (x : Value × Nat) => cs.setIfInBounds (off + x.2) x.1) arr) hps ⟨by rw [hsz, ha.1, splice_len hle], fun q x hq => by
            rw [splice_get hle] at hq
            rw [← Array.getElem?_toList, hfold]
            have hl1 : (arr.toList.take off).length = off := by rw [List.length_take, Array.length_toList, ha.1]; omega
            by_cases h1 : q < off
            · rw [if_neg (by omega)] at hq
              rw [List.append_assoc, List.getElem?_append_left (by omega), List.getElem?_take, if_pos h1, Array.getElem?_toList]
              exact ha.2 q x hq
            · by_cases h2 : q < off + xs.length
              · rw [if_pos ⟨by omega, h2⟩] at hq
                rw [List.getElem?_append_left (by rw [List.length_append, hl1, Array.length_toList, hv.1]; omega), List.getElem?_append_right (by omega), hl1, Array.getElem?_toList]
                exact hv.2 _ x hq
              · rw [if_neg (by omega)] at hq
                rw [List.getElem?_append_right (by rw [List.length_append, hl1, Array.length_toList, hv.1]; omega), List.getElem?_drop, List.length_append, hl1, Array.length_toList, hv.1, Array.getElem?_toList]
                rw [show off + xs.length + (q - (off + xs.length)) = q by omega]
                exact ha.2 q x hq⟩ h
          refine ⟨out, ?_, o2⟩
          simp only [Instr.fill, List.getElem?_toArray, hp]
          rw [if_neg (by
            simp only [Bool.or_eq_true, decide_eq_true_eq, not_or, ne_eq, Decidable.not_not]
            exact ⟨by rw [hv.1]; exact hn, by rw [hv.1, ha.1]; omega⟩)]
          simpa only [List.getElem?_toArray] using o1
        · cases h
    · cases h
  | [], _ :: _, _, _, _, h, _, _ => h.elim
  | _ :: _, [], _, _, _, h, _, _ => h.elim
def partsC (l : List (Nat × D)) : List (Nat × Operand) → Option (List (Nat × List Cell))
  | [] => some []
  | (i, x) :: ps => match evO l x with
    | some d => (match d.cells with
      | some xs => (match partsC l ps with | some r => some ((i, xs) :: r) | none => none)
      | none => none)
    | none => none
theorem partsC_ok {l : List (Nat × D)} {ι : Nat → Nat × Nat} {base : Nat} {c : Cx} {e : Operand → Value} : ∀ {ps : List (Nat × Operand)} {qs : List (Nat × List Cell)}, partsC l ps = some qs → (∀ p ∈ ps, (evD (look l) p.2).p ι base c (e p.2)) → PartsLike ι base c (ps.map fun p => (p.1, e p.2)) qs
  | [], qs, h, _ => by injection h with h; subst h; trivial
  | (i, x) :: ps, qs, h, he => by
    simp only [partsC] at h
    split at h
    · rename_i d hd
      split at h
      · rename_i xs hx
        split at h
        · rename_i r hr
          injection h with h; subst h
          have h1 := he (i, x) (by simp)
          simp only [evO_spec hd] at h1
          obtain ⟨g1, g2⟩ := D.cells_p hx h1
          exact ⟨rfl, ⟨g1, g2⟩, partsC_ok hr (fun p hp => he p (by simp [hp]))⟩
        · cases h
      · cases h
    · cases h
section
variable {P : Program} {H : Nat → Option Ob} {o : Oper} {l : List (Nat × D)}
theorem loc_build {pl : List (Nat × Nat)} {cs r : List Cell} {qs : List (Nat × List Cell)} (t : TypeId) (ps : Array (Nat × Operand)) (ho : o.op = .build t ps) (hb : bldOf P t = some pl) (hz : zcOf P t = some cs) (hq : partsC l ps.toList = some qs) (hr : buildC pl cs qs = some r) : Loc P H (evD (look l)) o (.agg r) :=
  loc_run fun base a w ι own hw he hH => by
    unfold bldOf at hb
    split at hb
    · rename_i fs hu
      unfold zcOf at hz
      cases hzz : zOf P t with
      | none => simp [hzz] at hz
      | some zs =>
        simp only [hzz, Option.map_some, Option.some.injEq] at hz
        subst hz
        unfold zOf at hzz
        cases hi : P.info? t with
        | none => simp [hi] at hzz
        | some i =>
          cases hv : i.zero with
          | none => simp [hi, hv] at hzz
          | some v =>
            simp only [hi, hv, Option.ite_none_right_eq_some, Option.some.injEq] at hzz
            obtain ⟨hall, rfl⟩ := hzz
            have hp := partsC_ok (ι := ι) (base := base) (c := ⟨w, own⟩) (e := a.eval) hq (fun p hp => he p.2 (by
              rw [ho]; simp only [Op.operands, List.mem_toArray, List.mem_map]; exact ⟨p, hp, rfl⟩))
            obtain ⟨out, o1, o2⟩ := fill_ok (arr := v.cells) (cs := v.cells.toList.map cellOf) hp ⟨by simp, fun j x hj => by
              simp only [List.getElem?_map, Option.map_eq_some_iff] at hj
              obtain ⟨u, hu, rfl⟩ := hj
              exact ⟨u, by simpa using hu, cellOf_p (List.all_eq_true.1 hall u (List.mem_of_getElem? hu))⟩⟩ hr
            refine ⟨.agg out, ?_, out.toList, by simp, by rw [Array.length_toList]; exact o2.1, fun j x hj => by rw [Array.getElem?_toList]; exact o2.2 j x hj⟩
            unfold execOp
            rw [ho]
            have hm : (fs.mapM fun f => do pure (f.offset, ← sizeOf f.type) : Sem (Array (Nat × Nat))).run P w = .ok pl.toArray w := by
              have h1 := plc_run (w := w) hb
              have h2 : (fs.mapM fun f => do pure (f.offset, ← sizeOf f.type) : Sem (Array (Nat × Nat))) = List.toArray <$> (fs.toList.mapM fun f => do pure (f.offset, ← sizeOf f.type)) := by
                rw [← List.mapM_toArray]
              rw [h2, map_eq_pure_bind]
              simp only [Sem.run_bind, h1, Result.andThen_ok, Sem.run_pure]
            have hpm : ((ps.map fun (x : Nat × Operand) => (x.1, a.eval x.2)).toList) = ps.toList.map fun p => (p.1, a.eval p.2) := by rw [Array.toList_map]
            simp only [Instr.build, zeroValue, typeInfo, Sem.run_bind, run_program, Result.andThen_ok, hi, hv, Sem.run_pure, underlying, hu, hm, hpm]
            rw [o1]
            rfl
    · cases hb
theorem loc_nilCheck {d : D} (x : Operand) (ho : o.op = .nilCheck x) {ev : Operand → D} (hx : ev x = d) (hd : ∀ (ι : Nat → Nat × Nat) (base : Nat) (c : Cx) (v : Value), d.p ι base c v → ∃ z, v = .pointer (some z)) : Loc P H ev o d :=
  loc_run fun base a w ι own hw he hH => by
    have h1 : (ev x).p ι base ⟨w, own⟩ (a.eval x) := he x (by rw [ho]; simp [Op.operands])
    rw [hx] at h1
    refine ⟨a.eval x, ?_, h1⟩
    unfold execOp
    rw [ho]
    obtain ⟨z, hz⟩ := hd _ _ _ _ h1
    simp only [hz, Sem.run_pure]
theorem ptr_nn {k i sz off : Nat} : ∀ (ι : Nat → Nat × Nat) (base : Nat) (c : Cx) (v : Value), (D.one (.ptr k i sz off)).p ι base c v → ∃ z, v = .pointer (some z) := fun ι base c v h => ⟨_, h⟩
theorem ref_nn {n : Bool} {y : P0} : ∀ (ι : Nat → Nat × Nat) (base : Nat) (c : Cx) (v : Value), (D.one (.r n (ref y))).p ι base c v → ∃ z, v = .pointer (some z) := fun ι base c v h => by
  obtain ⟨b, oo, e1, _⟩ := ref_p.1 h
  exact ⟨_, e1⟩
theorem loc_field {fo fn : Nat} {ag : Bool} {ft : TypeId} {xs : List Cell} {ev : Operand → D} (t : TypeId) (x : Operand) (f : Nat) (ho : o.op = .field t x f) (hx : ev x = .agg xs) (hf : fldOf P t f = some (fo, ft)) (hT : tyOf P ft = some (ag, fn)) (hn : fo + fn ≤ xs.length) (h1 : ag = true ∨ fn = 1) : Loc P H ev o (cut ag fn fo xs) :=
  loc_run fun base a w ι own hw he hH => by
    have hx1 : (ev x).p ι base ⟨w, own⟩ (a.eval x) := he x (by rw [ho]; simp [Op.operands])
    rw [hx] at hx1
    obtain ⟨vs, e1, e2, e3⟩ := hx1
    obtain ⟨fs, y, g1, g2, g3, g4, _⟩ := fldOf_spec hf
    have hrun : ∀ v, (part ft vs.toArray fo).run P w = .ok v w → (execOp a.eval o).run P w = .ok (.value v) w := fun v hv => by
      unfold execOp
      rw [ho]
      simp only [Instr.field, e1, Sem.run_bind, underlying, run_program, Result.andThen_ok, g1, Sem.run_pure, g2, asAgg, g3, g4, hv]
    cases ag with
    | false =>
      have hfn : fn = 1 := by simpa using h1
      obtain ⟨u, hu, hp⟩ := e3 fo xs[fo] (List.getElem?_eq_getElem (by omega))
      refine ⟨u, hrun u ?_, ?_⟩
      · unfold part
        simp only [Sem.run_bind, (tyOf_run hT w).1, Result.andThen_ok]
        simp [hu]
      · simp only [cut, Bool.false_eq_true, if_false]
        rw [List.getElem?_eq_getElem (by omega)]
        exact hp
    | true =>
      refine ⟨.agg (vs.toArray.extract fo (fo + fn)), hrun _ ?_, ?_⟩
      · unfold part
        simp only [Sem.run_bind, (tyOf_run hT w).1, (tyOf_run hT w).2, Result.andThen_ok, if_true, Sem.run_pure]
      · simp only [cut, if_true]
        refine ⟨(vs.drop fo).take fn, by simp [List.extract_eq_take_drop], by simp [e2], fun j z hj => ?_⟩
        rw [List.getElem?_take] at hj ⊢
        split at hj
        · rename_i hlt
          rw [if_pos hlt]
          rw [List.getElem?_drop] at hj ⊢
          exact e3 _ z hj
        · cases hj
theorem loc_min {m m' : Bool} {k : IntKind} {p q : Int} {ev : Operand → D} (x y : Operand) (tys : Array TypeId) (ho : o.op = .call { callee := .builtin .min, args := #[x, y], argTypes := tys }) (hx : ev x = .one (.r m (val (.int k p)))) (hy : ev y = .one (.r m' (val (.int k q)))) : Loc P H ev o (.one (.r true (val (.int k (if q < p then q else p))))) :=
  loc_run fun base a w ι own hw he hH => by
    have h1 := he x (by rw [ho]; simp [Op.operands, Call.operands])
    have h2 := he y (by rw [ho]; simp [Op.operands, Call.operands])
    rw [hx] at h1
    rw [hy] at h2
    have e1 : a.eval x = .int k p := ((val_p (c := Cx.young ⟨w, own⟩ base m)).1 h1).1
    have e2 : a.eval y = .int k q := ((val_p (c := Cx.young ⟨w, own⟩ base m')).1 h2).1
    refine ⟨_, ?_, (val_p (c := Cx.young ⟨w, own⟩ base true)).2 ⟨rfl, rfl⟩⟩
    unfold execOp
    rw [ho]
    simp [resolve, invoke, builtin, e1, e2, Builtin.min_, Builtin.min2]
theorem loc_max {m m' : Bool} {k : IntKind} {p q : Int} {ev : Operand → D} (x y : Operand) (tys : Array TypeId) (ho : o.op = .call { callee := .builtin .max, args := #[x, y], argTypes := tys }) (hx : ev x = .one (.r m (val (.int k p)))) (hy : ev y = .one (.r m' (val (.int k q)))) : Loc P H ev o (.one (.r true (val (.int k (if p < q then q else p))))) :=
  loc_run fun base a w ι own hw he hH => by
    have h1 := he x (by rw [ho]; simp [Op.operands, Call.operands])
    have h2 := he y (by rw [ho]; simp [Op.operands, Call.operands])
    rw [hx] at h1
    rw [hy] at h2
    have e1 : a.eval x = .int k p := ((val_p (c := Cx.young ⟨w, own⟩ base m)).1 h1).1
    have e2 : a.eval y = .int k q := ((val_p (c := Cx.young ⟨w, own⟩ base m')).1 h2).1
    refine ⟨_, ?_, (val_p (c := Cx.young ⟨w, own⟩ base true)).2 ⟨rfl, rfl⟩⟩
    unfold execOp
    rw [ho]
    simp [resolve, invoke, builtin, e1, e2, Builtin.max_, Builtin.max2]
end
structure TB where
  tys : List (Nat × Bool × Nat)
  fls : List (Nat × Nat × Nat × Nat)
  sls : List (Nat × Nat × Nat)
  zs : List (Nat × List Cell)
  bos : List Nat
  bls : List (Nat × List (Nat × Nat))
def AllTy (P : Program) : List (Nat × Bool × Nat) → Prop
  | [] => True
  | (t, b, n) :: r => tyOf P t = some (b, n) ∧ AllTy P r
def AllFl (P : Program) : List (Nat × Nat × Nat × Nat) → Prop
  | [] => True
  | (t, f, o, ft) :: r => fldOf P t f = some (o, ft) ∧ AllFl P r
def AllSl (P : Program) : List (Nat × Nat × Nat) → Prop
  | [] => True
  | (t, e, n) :: r => slOf P t = some (e, n) ∧ AllSl P r
def AllZ (P : Program) : List (Nat × List Cell) → Prop
  | [] => True
  | (t, cs) :: r => zcOf P t = some cs ∧ AllZ P r
def AllBo (P : Program) : List Nat → Prop
  | [] => True
  | t :: r => P.underlying t = some .bool ∧ AllBo P r
def AllBl (P : Program) : List (Nat × List (Nat × Nat)) → Prop
  | [] => True
  | (t, pl) :: r => bldOf P t = some pl ∧ AllBl P r
def blL : List (Nat × List (Nat × Nat)) → Nat → Option (List (Nat × Nat))
  | [], _ => none
  | (t, pl) :: r, u => bif Nat.beq u t then some pl else blL r u
theorem blL_ok {P : Program} : ∀ {l : List (Nat × List (Nat × Nat))} {u : Nat} {x : List (Nat × Nat)}, AllBl P l → blL l u = some x → bldOf P u = some x
  | (t, pl) :: r, u, x, ⟨h1, h2⟩, h => by
    simp only [blL] at h
    cases hb : Nat.beq u t with
    | true => rw [hb] at h; simp at hb; subst hb; rw [h1]; simpa using h
    | false => rw [hb] at h; exact blL_ok h2 h
structure TbOk (P : Program) (tb : TB) : Prop where
  ty : AllTy P tb.tys
  fl : AllFl P tb.fls
  sl : AllSl P tb.sls
  z : AllZ P tb.zs
  bo : AllBo P tb.bos
  bl : AllBl P tb.bls
def tyL : List (Nat × Bool × Nat) → Nat → Option (Bool × Nat)
  | [], _ => none
  | (t, b, n) :: r, u => bif Nat.beq u t then some (b, n) else tyL r u
theorem tyL_ok {P : Program} : ∀ {l : List (Nat × Bool × Nat)} {u : Nat} {x : Bool × Nat}, AllTy P l → tyL l u = some x → tyOf P u = some x
  | (t, b, n) :: r, u, x, ⟨h1, h2⟩, h => by
    simp only [tyL] at h
    cases hb : Nat.beq u t with
    | true => rw [hb] at h; simp at hb; subst hb; rw [h1]; simpa using h
    | false => rw [hb] at h; exact tyL_ok h2 h
def flL : List (Nat × Nat × Nat × Nat) → Nat → Nat → Option (Nat × Nat)
  | [], _, _ => none
  | (t, f, o, ft) :: r, u, g => bif Nat.beq u t && Nat.beq g f then some (o, ft) else flL r u g
theorem flL_ok {P : Program} : ∀ {l : List (Nat × Nat × Nat × Nat)} {u g : Nat} {x : Nat × Nat}, AllFl P l → flL l u g = some x → fldOf P u g = some x
  | (t, f, o, ft) :: r, u, g, x, ⟨h1, h2⟩, h => by
    simp only [flL] at h
    cases hb : Nat.beq u t && Nat.beq g f with
    | true => rw [hb] at h; simp at hb; obtain ⟨rfl, rfl⟩ := hb; rw [h1]; simpa using h
    | false => rw [hb] at h; exact flL_ok h2 h
def slL : List (Nat × Nat × Nat) → Nat → Option (Nat × Nat)
  | [], _ => none
  | (t, e, n) :: r, u => bif Nat.beq u t then some (e, n) else slL r u
theorem slL_ok {P : Program} : ∀ {l : List (Nat × Nat × Nat)} {u : Nat} {x : Nat × Nat}, AllSl P l → slL l u = some x → slOf P u = some x
  | (t, b, n) :: r, u, x, ⟨h1, h2⟩, h => by
    simp only [slL] at h
    cases hb : Nat.beq u t with
    | true => rw [hb] at h; simp at hb; subst hb; rw [h1]; simpa using h
    | false => rw [hb] at h; exact slL_ok h2 h
def zL : List (Nat × List Cell) → Nat → Option (List Cell)
  | [], _ => none
  | (t, cs) :: r, u => bif Nat.beq u t then some cs else zL r u
theorem zL_ok {P : Program} : ∀ {l : List (Nat × List Cell)} {u : Nat} {x : List Cell}, AllZ P l → zL l u = some x → zcOf P u = some x
  | (t, cs) :: r, u, x, ⟨h1, h2⟩, h => by
    simp only [zL] at h
    cases hb : Nat.beq u t with
    | true => rw [hb] at h; simp at hb; subst hb; rw [h1]; simpa using h
    | false => rw [hb] at h; exact zL_ok h2 h
def kEq : IntKind → IntKind → Bool
  | .i8, .i8 | .i16, .i16 | .i32, .i32 | .i64, .i64 | .u8, .u8 | .u16, .u16 | .u32, .u32 | .u64, .u64 => true
  | _, _ => false
theorem kEq_ok {a b : IntKind} (h : kEq a b = true) : a = b := by cases a <;> cases b <;> first|rfl|cases h
def mapR (n : Bool) : List R → List Cell
  | [] => []
  | r :: rs => .r n r :: mapR n rs
theorem mapR_eq (n : Bool) : ∀ rs : List R, mapR n rs = rs.map (.r n)
  | [] => rfl
  | r :: rs => by simp [mapR, mapR_eq n rs]
def dO (n : Bool) : P0 → Option D
  | .one r => some (.one (.r n r))
  | .agg rs => some (.agg (mapR n rs))
theorem dO_ok {n : Bool} {x : P0} {d : D} (h : dO n x = some d) : x.d n = d := by
  cases x with
  | one r => injection h
  | agg rs => simp only [dO, mapR_eq, Option.some.injEq] at h; exact h
def isAg : P0 → Bool
  | .one _ => false
  | .agg _ => true
theorem mk_isAg {x : P0} {ag : Bool} (h : (ag == isAg x) = true) : x = mk ag x.rs := by
  cases x <;> cases ag <;> first|rfl|cases h
def pureO (tb : TB) (l : List (Nat × D)) (h : List (Nat × Ob)) : Op → Option D
  | .move x => evO l x
  | .assign x => evO l x
  | .pick c x y => match evO l c with
    | some (.one (.r _ (.val (.bool true)))) => evO l x
    | some (.one (.r _ (.val (.bool false)))) => evO l y
    | _ => none
  | .binOp op _ x y _ => match evO l x with
    | some (.one (.r _ (.val (.int k a)))) => (match evO l y with
      | some (.one (.r _ (.val (.int k' b)))) => bif kEq k k' then (match binR op k a b with | some z => some (.one (.r true (.val z))) | none => none) else none
      | _ => none)
    | _ => none
  | .unOp .not _ x => match evO l x with
    | some (.one (.r _ (.val (.bool p)))) => some (.one (.r true (.val (.bool (!p)))))
    | _ => none
  | .fieldAddr t x f => match evO l x with
    | some (.one (.ptr k i sz off)) => (match flL tb.fls t f with
      | some (fo, _) => some (.one (.ptr k i sz (off + fo)))
      | none => none)
    | some (.one (.r n (.ref y))) => (match flL tb.fls t f with
      | some (fo, ft) => (match tyL tb.tys ft with
        | some (ag, fn) => bif Nat.ble (fo + fn) y.rs.length && (ag || Nat.beq fn 1) then some (.one (.r n (.ref (cutP ag fn fo y.rs)))) else none
        | none => none)
      | none => none)
    | _ => none
  | .load t x => match evO l x with
    | some (.one (.ptr k 0 0 off)) => (match lookHO h k with
      | some (.var _ cells) => (match tyL tb.tys t with
        | some (ag, n) => bif Nat.ble (off + n) cells.length && (ag || Nat.beq n 1) then cutO ag n off cells else none
        | none => none)
      | _ => none)
    | some (.one (.r n (.ref y))) => (match tyL tb.tys t with
      | some (ag, m) => bif Nat.beq y.rs.length m && (ag == isAg y) && (ag || Nat.beq m 1) then dO n y else none
      | none => none)
    | _ => none
  | .nilCheck x => match evO l x with
    | some (.one (.ptr k i sz off)) => some (.one (.ptr k i sz off))
    | some (.one (.r n (.ref y))) => some (.one (.r n (.ref y)))
    | _ => none
  | .build t ps => match blL tb.bls t, zL tb.zs t, partsC l ps.toList with
    | some pl, some cs, some qs => (match buildC pl cs qs with | some r => some (.agg r) | none => none)
    | _, _, _ => none
  | .field t x f => match evO l x with
    | some (.agg xs) => (match flL tb.fls t f with
      | some (fo, ft) => (match tyL tb.tys ft with
        | some (ag, fn) => bif Nat.ble (fo + fn) xs.length && (ag || Nat.beq fn 1) then cutO ag fn fo xs else none
        | none => none)
      | none => none)
    | _ => none
  | .extract x i => match evO l x with
    | some (.tup n xs) => (match xs[i]? with
      | some y => dO n y
      | none => none)
    | some (.tups xs) => (match xs[i]? with
      | some (true, cs) => some (.agg cs)
      | some (false, [c]) => some (.one c)
      | _ => none)
    | _ => none
  | .call c => match c.callee, c.args.toList, c.argTypes.toList with
    | .builtin .len, [x], [t] => (match evO l x with
      | some (.one (.r _ (.row _ _ els))) => (match slL tb.sls t with | some _ => some (.one (.r true (int els.length))) | none => none)
      | some (.one (.own _ _ m _)) => (match slL tb.sls t with | some _ => some (.one (.r true (int m))) | none => none)
      | _ => none)
    | .builtin .min, [x, y], _ => (match evO l x, evO l y with
      | some (.one (.r _ (.val (.int k p)))), some (.one (.r _ (.val (.int k' q)))) => bif kEq k k' then some (.one (.r true (.val (.int k (if q < p then q else p))))) else none
      | _, _ => none)
    | .builtin .max, [x, y], _ => (match evO l x, evO l y with
      | some (.one (.r _ (.val (.int k p)))), some (.one (.r _ (.val (.int k' q)))) => bif kEq k k' then some (.one (.r true (.val (.int k (if p < q then q else p))))) else none
      | _, _ => none)
    | _, _, _ => none
  | _ => none
theorem pureO_ok {P : Program} {tb : TB} (hT : TbOk P tb) {l : List (Nat × D)} {h : List (Nat × Ob)} {o : Oper} {d : D} (he : pureO tb l h o.op = some d) : Loc P (lookH h) (evD (look l)) o d := by
  cases hop : o.op with
  | move x => rw [hop] at he; exact loc_move x hop (evO_spec he)
  | assign x => rw [hop] at he; exact loc_assign x hop (evO_spec he)
  | pick c x y =>
    rw [hop] at he
    simp only [pureO] at he
    split at he
    · rename_i hc; exact loc_pick_true c x y hop (evO_spec hc) (evO_spec he)
    · rename_i hc; exact loc_pick_false c x y hop (evO_spec hc) (evO_spec he)
    · cases he
  | binOp op t x y t' =>
    rw [hop] at he
    simp only [pureO] at he
    split at he
    · rename_i k a hx
      split at he
      · rename_i k' b hy
        cases hk : kEq k k' with
        | false => rw [hk] at he; cases he
        | true =>
          have := kEq_ok hk
          subst this
          rw [hk] at he
          simp only [cond_true] at he
          split at he
          · rename_i z hz
            injection he with he
            subst he
            exact loc_bin op t t' x y hop (evO_spec hx) (evO_spec hy) hz
          · cases he
      · cases he
    · cases he
  | unOp op t x =>
    rw [hop] at he
    cases op <;> simp only [pureO] at he <;> try (cases he; done)
    split at he
    · rename_i p hx
      injection he with he
      subst he
      exact loc_not t x hop (evO_spec hx)
    · cases he
  | fieldAddr t x f =>
    rw [hop] at he
    simp only [pureO] at he
    split at he
    · rename_i hx
      split at he
      · rename_i fo ft hf
        injection he with he
        subst he
        exact loc_field_ptr t x f hop (evO_spec hx) (flL_ok hT.fl hf)
      · cases he
    · rename_i m y hx
      split at he
      · rename_i fo ft hf
        split at he
        · rename_i ag fn hty
          cases hb : Nat.ble (fo + fn) y.rs.length && (ag || Nat.beq fn 1) with
          | false => rw [hb] at he; cases he
          | true =>
            rw [hb] at he
            simp only [cond_true, Option.some.injEq] at he
            subst he
            simp only [Bool.and_eq_true, Bool.or_eq_true, Nat.ble_eq, Nat.beq_eq] at hb
            exact loc_field_ref t x f hop (evO_spec hx) (flL_ok hT.fl hf) (tyL_ok hT.ty hty) hb.1 hb.2
        · cases he
      · cases he
    · cases he
  | load t x =>
    rw [hop] at he
    simp only [pureO] at he
    split at he
    · rename_i k off hx
      split at he
      · rename_i E cells hk
        split at he
        · rename_i ag m hty
          cases hb : Nat.ble (off + m) cells.length && (ag || Nat.beq m 1) with
          | false => rw [hb] at he; cases he
          | true =>
            rw [hb] at he
            simp only [cond_true] at he
            simp only [Bool.and_eq_true] at hb
            exact loc_load_var t x hop (evO_spec hx) (tyL_ok hT.ty hty) (lookHO_spec hk) hb.1 hb.2 (cutO_spec he)
        · cases he
      · cases he
    · rename_i m y hx
      split at he
      · rename_i ag c hty
        cases hb : Nat.beq y.rs.length c && (ag == isAg y) && (ag || Nat.beq c 1) with
        | false => rw [hb] at he; cases he
        | true =>
          rw [hb] at he
          simp only [cond_true] at he
          simp only [Bool.and_eq_true, Bool.or_eq_true, Nat.beq_eq] at hb
          rw [← dO_ok he]
          exact loc_load_ref t x hop (evO_spec hx) (tyL_ok hT.ty hty) hb.1.1 (mk_isAg hb.1.2) hb.2
      · cases he
    · cases he
  | nilCheck x =>
    rw [hop] at he
    simp only [pureO] at he
    split at he
    · rename_i hx; injection he with he; subst he; exact loc_nilCheck x hop (evO_spec hx) ptr_nn
    · rename_i hx; injection he with he; subst he; exact loc_nilCheck x hop (evO_spec hx) ref_nn
    · cases he
  | build t ps =>
    rw [hop] at he
    simp only [pureO] at he
    split at he
    · rename_i pl cs qs h1 h2 h3
      split at he
      · rename_i r hr
        injection he with he; subst he
        exact loc_build t ps hop (blL_ok hT.bl h1) (zL_ok hT.z h2) h3 hr
      · cases he
    · cases he
  | field t x f =>
    rw [hop] at he
    simp only [pureO] at he
    split at he
    · rename_i xs hx
      split at he
      · rename_i fo ft hf
        split at he
        · rename_i ag fn hty
          cases hb : Nat.ble (fo + fn) xs.length && (ag || Nat.beq fn 1) with
          | false => rw [hb] at he; cases he
          | true =>
            rw [hb] at he
            simp only [cond_true] at he
            simp only [Bool.and_eq_true, Bool.or_eq_true, Nat.ble_eq, Nat.beq_eq] at hb
            rw [← cutO_spec he]
            exact loc_field t x f hop (evO_spec hx) (flL_ok hT.fl hf) (tyL_ok hT.ty hty) hb.1 hb.2
        · cases he
      · cases he
    · cases he
  | extract x i =>
    rw [hop] at he
    simp only [pureO] at he
    split at he
    · rename_i m xs hx
      split at he
      · rename_i y hy
        rw [← dO_ok he]
        exact loc_extract x i hop (evO_spec hx) hy
      · cases he
    · rename_i xs hx
      split at he
      · rename_i cs hy
        injection he with he
        exact loc_extractC x i hop (evO_spec hx) hy (.inl ⟨rfl, he.symm⟩)
      · rename_i c hy
        injection he with he
        exact loc_extractC x i hop (evO_spec hx) hy (.inr ⟨c, rfl, he.symm⟩)
      · cases he
    · cases he
  | call c =>
    obtain ⟨callee, args, tys⟩ := c
    rw [hop] at he
    simp only [pureO] at he
    split at he
    · rename_i x t e2 e3
      have ha : args = #[x] := by rw [← Array.toList_inj]; simpa using e2
      have ht : tys = #[t] := by rw [← Array.toList_inj]; simpa using e3
      subst ha ht
      split at he
      · rename_i hx
        split at he
        · rename_i s hs
          injection he with he
          subst he
          exact loc_len_row t x hop (slL_ok hT.sl hs) (evO_spec hx)
        · cases he
      · rename_i hx
        split at he
        · rename_i s hs
          injection he with he
          subst he
          exact loc_len_own t x hop (slL_ok hT.sl hs) (evO_spec hx)
        · cases he
      · cases he
    · rename_i x y e2
      have ha : args = #[x, y] := by rw [← Array.toList_inj]; simpa using e2
      subst ha
      split at he
      · rename_i m1 k p m2 k' q hx hy
        cases hk : kEq k k' with
        | false => rw [hk] at he; cases he
        | true =>
          have := kEq_ok hk
          subst this
          rw [hk] at he
          injection he with he
          subst he
          exact loc_min x y tys hop (evO_spec hx) (evO_spec hy)
      · cases he
    · rename_i x y e2
      have ha : args = #[x, y] := by rw [← Array.toList_inj]; simpa using e2
      subst ha
      split at he
      · rename_i m1 k p m2 k' q hx hy
        cases hk : kEq k k' with
        | false => rw [hk] at he; cases he
        | true =>
          have := kEq_ok hk
          subst this
          rw [hk] at he
          injection he with he
          subst he
          exact loc_max x y tys hop (evO_spec hx) (evO_spec hy)
      · cases he
    · cases he
  | _ => rw [hop] at he; simp only [pureO] at he; cases he
def effO (tb : TB) (l : List (Nat × D)) (h : List (Nat × Ob)) (o : Oper) : Option (D × List Nat × List Nat × List (Nat × Option Ob)) :=
  match o.op with
  | .alloc E => match o.dst with
    | some t => (match zL tb.zs E with
      | some cs => some (.one (.ptr t 0 0 0), [], [t], [(t, some (.var E cs))])
      | none => none)
    | none => none
  | .box E x => match o.dst with
    | some t => (match evO l x with
      | some d => (match d.cells with
        | some cs => bif !d.men t then some (.one (.ptr t 0 0 0), [], [t], [(t, some (.var E cs))]) else none
        | none => none)
      | none => none)
    | none => none
  | .store t x y => match o.dst with
    | none => (match evO l x with
      | some (.one (.ptr k 0 0 off)) => (match lookHO h k with
        | some (.var E cells) => (match evO l y with
          | some d => (match d.cells with
            | some xs => (match tyL tb.tys t with
              | some (_, m) => bif Nat.beq xs.length m then (match putC off xs cells with | some cs => some (.any, [k], [], [(k, some (.var E cs))]) | none => none) else none
              | none => none)
            | none => none)
          | none => none)
        | _ => none)
      | _ => none)
    | some _ => none
  | _ => none
theorem effO_ok {P : Program} {tb : TB} (hT : TbOk P tb) {l : List (Nat × D)} {h : List (Nat × Ob)} {o : Oper} {d : D} {τ new : List Nat} {U : List (Nat × Option Ob)} (he : effO tb l h o = some (d, τ, new, U)) : Eff P (lookH h) (evD (look l)) o d τ new U := by
  unfold effO at he
  split at he
  · rename_i E hop
    split at he
    · rename_i t hd
      split at he
      · rename_i cs hz
        simp only [Option.some.injEq, Prod.mk.injEq] at he
        obtain ⟨rfl, rfl, rfl, rfl⟩ := he
        exact k_alloc E hop (zL_ok hT.z hz)
      · cases he
    · cases he
  · rename_i E x hop
    split at he
    · rename_i t hd
      split at he
      · rename_i d' hx
        split at he
        · rename_i cs hc
          cases hb : !d'.men t with
          | false => rw [hb] at he; cases he
          | true =>
            rw [hb] at he
            simp only [cond_true, Option.some.injEq, Prod.mk.injEq] at he
            obtain ⟨rfl, rfl, rfl, rfl⟩ := he
            simp only [Bool.not_eq_true'] at hb
            exact eff_box E x hop (evO_spec hx) hc hb
        · cases he
      · cases he
    · cases he
  · rename_i t x y hop
    split at he
    · rename_i hd
      split at he
      · rename_i k off hx
        split at he
        · rename_i E cells hk
          split at he
          · rename_i d' hy
            split at he
            · rename_i xs hc
              split at he
              · rename_i ag m hty
                cases hb : Nat.beq xs.length m with
                | false => rw [hb] at he; cases he
                | true =>
                  rw [hb] at he
                  simp only [cond_true] at he
                  split at he
                  · rename_i cs hcs
                    simp only [Option.some.injEq, Prod.mk.injEq] at he
                    obtain ⟨rfl, rfl, rfl, rfl⟩ := he
                    obtain ⟨hle, rfl⟩ := putC_ok hcs
                    have hm : xs.length = m := by simpa using hb
                    exact eff_store t x y hop hd (evO_spec hx) (tyL_ok hT.ty hty) (lookHO_spec hk) (evO_spec hy) hc hm (by simp; omega)
                  · cases he
              · cases he
            · cases he
          · cases he
        · cases he
      · cases he
    · cases he
  · cases he
def Cell.names : Cell → List Nat
  | .own k _ _ _ => [k]
  | .ptr k _ _ _ => [k]
  | .clo _ ps => ps.map (·.1)
  | _ => []
def namesL : List Cell → List Nat
  | [] => []
  | c :: cs => c.names ++ namesL cs
def namesT : List (Bool × List Cell) → List Nat
  | [] => []
  | x :: xs => namesL x.2 ++ namesT xs
def D.names : D → List Nat
  | .one x => x.names
  | .agg xs => namesL xs
  | .tups xs => namesT xs
  | _ => []
def Ob.names : Ob → List Nat
  | .var _ xs => namesL xs
  | .sl .. => []
def namesO (l : List (Nat × D)) : List Operand → List Nat
  | [] => []
  | x :: xs => (match evO l x with | some d => d.names | none => []) ++ namesO l xs
def deepN (h : List (Nat × Ob)) : List Nat → List Nat
  | [] => []
  | k :: ks => k :: ((match lookHO h k with | some ob => ob.names | none => []) ++ deepN h ks)
def fpO (l : List (Nat × D)) (h : List (Nat × Ob)) : Op → List Nat
  | .load _ x => namesO l [x]
  | .store _ x _ => namesO l [x]
  | .buildSlice _ _ ps => namesO l (ps.toList.map (·.2))
  | .call c => match c.callee with
    | .builtin .len => []
    | _ => deepN h (namesO l c.args.toList)
  | _ => []
section
variable {P : Program} {tb : TB} {Z : List Sg → Bool} {acc : List Sg} {ops : Array Oper} {o : Oper} {rest : List Oper} {n : Nat} {l l' : List (Nat × D)} {h h' : List (Nat × Ob)} {K : St → Prop} {d : D} {τ new : List Nat} {U : List (Nat × Option Ob)}
theorem r_q {t : Nat} (hT : TbOk P tb) (hL : pureO tb l h o.op = some d) (hg : o.guard = none) (hd : o.dst = some t) (ht : Nat.blt t n = true) (hk : W P ops Z rest (mkS n ((t, d) :: l) h) none K) : W P ops Z (o :: rest) (mkS n l h) none K := w_q hg hd (pureO_ok hT hL) ht hk
theorem r_e (hT : TbOk P tb) (hE : effO tb l h o = some (d, τ, new, U)) (hg : o.guard = none) (hok : okB n o.dst (keys h) τ new U l h = true) (hl : putLO o.dst d l = some l') (hh : appLO U h = some h') (hk : W P ops Z rest (mkS n l' h') none K) : W P ops Z (o :: rest) (mkS n l h) none K := w_e hg (effO_ok hT hE) hok hl hh hk
theorem r_yes {j t u : Nat} {want m : Bool} (hT : TbOk P tb) (hL : pureO tb l h o.op = some d) (hg : o.guard = some (j, want)) (hj : (ops[j]?).bind (·.dst) = some t) (hb : lookO l t = some (.one (.r m (bool want)))) (hd : o.dst = some u) (ht : Nat.blt u n = true) (hk : W P ops Z rest (mkS n ((u, d) :: l) h) none K) : W P ops Z (o :: rest) (mkS n l h) none K := w_yes hg hj (lookO_spec hb) hd (pureO_ok hT hL) ht hk
theorem rx_q {t : Nat} (hT : TbOk P tb) (hL : pureO tb l (filtH (fpO l h o.op) h) o.op = some d) (hg : o.guard = none) (hd : o.dst = some t) (ht : Nat.blt t n = true) (hk : W P ops Z rest (mkS n ((t, d) :: l) h) (some (⟨d, fpO l h o.op, [], [], []⟩ :: acc)) K) : W P ops Z (o :: rest) (mkS n l h) (some acc) K := x_q hg hd (pureO_ok hT hL) ht hk
theorem rx_e (hT : TbOk P tb) (hE : effO tb l (filtH (fpO l h o.op) h) o = some (d, τ, new, U)) (hg : o.guard = none) (hok : okB n o.dst (fpO l h o.op) τ new U l h = true) (hl : putLO o.dst d l = some l') (hh : appLO U h = some h') (hk : W P ops Z rest (mkS n l' h') (some (⟨d, fpO l h o.op, τ, new, U⟩ :: acc)) K) : W P ops Z (o :: rest) (mkS n l h) (some acc) K := x_e hg (effO_ok hT hE) hok hl hh hk
theorem rx_yes {j t u : Nat} {want m : Bool} (hT : TbOk P tb) (hL : pureO tb l (filtH (fpO l h o.op) h) o.op = some d) (hg : o.guard = some (j, want)) (hj : (ops[j]?).bind (·.dst) = some t) (hb : lookO l t = some (.one (.r m (bool want)))) (hd : o.dst = some u) (ht : Nat.blt u n = true) (hk : W P ops Z rest (mkS n ((u, d) :: l) h) (some (⟨d, fpO l h o.op, [], [], []⟩ :: acc)) K) : W P ops Z (o :: rest) (mkS n l h) (some acc) K := x_yes hg hj (lookO_spec hb) hd (pureO_ok hT hL) ht hk
theorem v_q {t : Nat} (hg : o.guard = none) (hd : o.dst = some t) (hL : Loc P (lookH (filtH (fpO l h o.op) h)) (evD (look l)) o d) (ht : Nat.blt t n = true) (hk : W P ops Z rest (mkS n ((t, d) :: l) h) (some (⟨d, fpO l h o.op, [], [], []⟩ :: acc)) K) : W P ops Z (o :: rest) (mkS n l h) (some acc) K := x_q hg hd hL ht hk
theorem v_yes {j t u : Nat} {want m : Bool} (hg : o.guard = some (j, want)) (hj : (ops[j]?).bind (·.dst) = some t) (hb : look l t = .one (.r m (bool want))) (hd : o.dst = some u) (hL : Loc P (lookH (filtH (fpO l h o.op) h)) (evD (look l)) o d) (ht : Nat.blt u n = true) (hk : W P ops Z rest (mkS n ((u, d) :: l) h) (some (⟨d, fpO l h o.op, [], [], []⟩ :: acc)) K) : W P ops Z (o :: rest) (mkS n l h) (some acc) K := x_yes hg hj hb hd hL ht hk
theorem v_e (hg : o.guard = none) (hE : Eff P (lookH (filtH (fpO l h o.op) h)) (evD (look l)) o d τ new U) (hok : okB n o.dst (fpO l h o.op) τ new U l h = true) (hl : putLO o.dst d l = some l') (hh : appLO U h = some h') (hk : W P ops Z rest (mkS n l' h') (some (⟨d, fpO l h o.op, τ, new, U⟩ :: acc)) K) : W P ops Z (o :: rest) (mkS n l h) (some acc) K := x_e hg hE hok hl hh hk
end
theorem aw_loopI {P : Program} {s : St} {Q : Exit → St → Prop} {α : Type} (I : α → Prop) (f : α → St) (μ : α → Nat) (x0 : α) {c : Code} (hi : I x0) (h0 : Weak s (f x0)) (round : ∀ x, I x → AW P c (f x) (Thn (fun s' => ∃ x', I x' ∧ Weak s' (f x') ∧ μ x' < μ x) Q)) : AW P (.loop c) s Q := by
  refine aw_loop (α := {x // I x}) (fun x => f x.1) (fun x => μ x.1) ⟨x0, hi⟩ h0 (fun x => ?_)
  intro w0 a w hs
  refine wp_mono (round x.1 x.2 w0 a w hs) ?_
  rintro e a' w' ⟨s', hq, hs'⟩
  refine ⟨s', ?_, hs'⟩
  cases e <;> first
    | exact hq
    | (obtain ⟨x', h1, h2, h3⟩ := hq
       exact ⟨⟨x', h1⟩, h2, h3⟩)
theorem d_int {m : Bool} {k : IntKind} {a b : Int} (h : a = b) : D.one (.r m (.val (.int k a))) = .one (.r m (.val (.int k b))) := by rw [h]
theorem d_bool {m a b : Bool} (h : a = b) : D.one (.r m (.val (.bool a))) = .one (.r m (.val (.bool b))) := by rw [h]
theorem k_index {P : Program} {tb : TB} {l : List (Nat × D)} {h : List (Nat × Ob)} {o : Oper} {m m' nil : Bool} {sz : Nat} {els : List P0} {i : Int} {e : P0} {E : TypeId} {t : TypeId} {x ix : Operand} (hT : TbOk P tb) (ho : o.op = .indexAddr t x ix) (hx : evO l x = some (.one (.r m (row nil sz els)))) (hi : evO l ix = some (.one (.r m' (int i)))) (hS : slL tb.sls t = some (E, sz)) (h0 : 0 ≤ i) (h1 : els[i.toNat]? = some e) : Loc P (lookH h) (evD (look l)) o (.one (.r m (ref e))) :=
  loc_index_row t x ix ho (slL_ok hT.sl hS) (evO_spec hx) (evO_spec hi) h0 h1
theorem k_indexO {P : Program} {tb : TB} {l : List (Nat × D)} {h : List (Nat × Ob)} {o : Oper} {m' : Bool} {k j c sz : Nat} {i : Int} {E : TypeId} {t : TypeId} {x ix : Operand} (hT : TbOk P tb) (ho : o.op = .indexAddr t x ix) (hx : evO l x = some (.one (.own k j c sz))) (hi : evO l ix = some (.one (.r m' (int i)))) (hS : slL tb.sls t = some (E, sz)) (h0 : 0 ≤ i) (h1 : i < c) : Loc P (lookH h) (evD (look l)) o (.one (.ptr k (j + i.toNat) sz 0)) :=
  loc_index_own t x ix ho (slL_ok hT.sl hS) (evO_spec hx) (evO_spec hi) h0 h1
theorem aw_yes {P : Program} {n : Nat} {l : List (Nat × D)} {h : List (Nat × Ob)} {Q : Exit → St → Prop} {c : Operand} {x y : Code} {m : Bool} (hc : evO l c = some (.one (.r m (.val (.bool true))))) (h1 : AW P x (mkS n l h) Q) : AW P (.cond c x y) (mkS n l h) Q := aw_cond (evO_spec hc) (fun _ => h1) (fun e => by cases e)
theorem aw_no {P : Program} {n : Nat} {l : List (Nat × D)} {h : List (Nat × Ob)} {Q : Exit → St → Prop} {c : Operand} {x y : Code} {m : Bool} (hc : evO l c = some (.one (.r m (.val (.bool false))))) (h1 : AW P y (mkS n l h) Q) : AW P (.cond c x y) (mkS n l h) Q := aw_cond (evO_spec hc) (fun e => by cases e) (fun _ => h1)
theorem aw_ways {P : Program} {n : Nat} {l : List (Nat × D)} {h : List (Nat × Ob)} {Q : Exit → St → Prop} {c : Operand} {x y : Code} {m b : Bool} (hc : evO l c = some (.one (.r m (.val (.bool b))))) (h1 : b = true → AW P x (mkS n l h) Q) (h2 : b = false → AW P y (mkS n l h) Q) : AW P (.cond c x y) (mkS n l h) Q := aw_cond (evO_spec hc) h1 h2
theorem r_split {P : Program} {Z : List Sg → Bool} {q : Option (List Sg)} {ops : Array Oper} {o : Oper} {rest : List Oper} {n : Nat} {l : List (Nat × D)} {h : List (Nat × Ob)} {K : St → Prop} {j t : Nat} {want b m : Bool} (hg : o.guard = some (j, want)) (hj : (ops[j]?).bind (·.dst) = some t) (hb : lookO l t = some (.one (.r m (.val (.bool b))))) (h1 : b = true → W P ops Z (o :: rest) (mkS n ((t, .one (.r m (bool true))) :: l) h) q K) (h2 : b = false → W P ops Z (o :: rest) (mkS n ((t, .one (.r m (bool false))) :: l) h) q K) : W P ops Z (o :: rest) (mkS n l h) q K := w_split hg hj (lookO_spec hb) h1 h2
def flat (els : List P0) : List R := els.flatMap P0.rs
def AllN (sz : Nat) (els : List P0) : Prop := ∀ (i : Nat) (e : P0), els[i]? = some e → e.n = sz
theorem AllN.tail {sz : Nat} {e : P0} {els : List P0} (h : AllN sz (e :: els)) : e.n = sz ∧ AllN sz els := ⟨h 0 e rfl, fun i x hi => h (i + 1) x (by simpa using hi)⟩
theorem flat_len {sz : Nat} : ∀ {els : List P0}, AllN sz els → (flat els).length = els.length * sz
  | [], _ => by simp [flat]
  | e :: els, h => by
    have := flat_len h.tail.2
    simp only [flat, List.flatMap_cons, List.length_append] at this ⊢
    rw [this, List.length_cons, Nat.add_mul]
    have := h.tail.1
    unfold P0.n at this
    omega
theorem flat_get {sz : Nat} : ∀ {els : List P0}, AllN sz els → ∀ (i j : Nat) (e : P0), j < sz → els[i]? = some e → (flat els)[i * sz + j]? = e.rs[j]?
  | [], _, i, j, e, _, hi => by simp at hi
  | x :: els, h, i, j, e, hj, hi => by
    have hx := h.tail.1
    unfold P0.n at hx
    simp only [flat, List.flatMap_cons]
    cases i with
    | zero =>
      simp at hi; subst hi
      rw [Nat.zero_mul, Nat.zero_add, List.getElem?_append_left (by omega)]
    | succ i =>
      rw [List.getElem?_append_right (by rw [hx, Nat.add_mul]; omega)]
      have := flat_get h.tail.2 i j e hj (by simpa using hi)
      rw [show (i + 1) * sz + j - x.rs.length = i * sz + j by rw [hx, Nat.add_mul]; omega]
      exact this
theorem flat_app (a b : List P0) : flat (a ++ b) = flat a ++ flat b := by simp [flat]
theorem AllN.app {sz : Nat} {a b : List P0} (ha : AllN sz a) (hb : AllN sz b) : AllN sz (a ++ b) := fun i e hi => by
  rcases Nat.lt_or_ge i a.length with h | h
  · rw [List.getElem?_append_left h] at hi; exact ha i e hi
  · rw [List.getElem?_append_right h] at hi; exact hb _ e hi
theorem flat_of {sz : Nat} {els : List P0} {q : Nat → R → Prop} (h : ∀ (i : Nat) (e : P0), els[i]? = some e → e.n = sz ∧ ∀ (j : Nat) (r : R), e.rs[j]? = some r → q (i * sz + j) r) : AllN sz els ∧ ∀ (p : Nat) (r : R), (flat els)[p]? = some r → q p r := by
  have hn : AllN sz els := fun i e hi => (h i e hi).1
  refine ⟨hn, fun p r hp => ?_⟩
  have hlt : p < (flat els).length := by
    rcases Nat.lt_or_ge p (flat els).length with h | h
    · exact h
    · rw [List.getElem?_eq_none h] at hp; cases hp
  rw [flat_len hn] at hlt
  have hsz : 0 < sz := by
    rcases Nat.eq_zero_or_pos sz with h0 | h0
    · subst h0; simp at hlt
    · exact h0
  have hi : p / sz < els.length := (Nat.div_lt_iff_lt_mul hsz).2 hlt
  have hj : p % sz < sz := Nat.mod_lt _ hsz
  have hpe : p / sz * sz + p % sz = p := by rw [Nat.mul_comm]; exact Nat.div_add_mod p sz
  have hg := flat_get hn (p / sz) (p % sz) els[p / sz] hj (List.getElem?_eq_getElem hi)
  rw [hpe] at hg
  have := (h (p / sz) els[p / sz] (List.getElem?_eq_getElem hi)).2 (p % sz) r (hg ▸ hp)
  rwa [hpe] at this
theorem of_flat {sz : Nat} {els : List P0} {q : Nat → R → Prop} (hn : AllN sz els) (h : ∀ (p : Nat) (r : R), (flat els)[p]? = some r → q p r) : ∀ (i : Nat) (e : P0), els[i]? = some e → e.n = sz ∧ ∀ (j : Nat) (r : R), e.rs[j]? = some r → q (i * sz + j) r := fun i e hi => by
  refine ⟨hn i e hi, fun j r hj => h _ r ?_⟩
  have hjs : j < sz := by
    rw [← hn i e hi]
    rcases Nat.lt_or_ge j e.rs.length with h | h
    · exact h
    · rw [List.getElem?_eq_none h] at hj; cases hj
  rw [flat_get hn i j e hjs hi, hj]
def elOf (P : Program) (T : TypeId) : Option (TypeId × Nat × Nat) :=
  match P.underlying T with
  | some (.slice E) => match P.info? E with
    | some i => match i.zero with
      | some z => if z.cells.size = i.size ∧ 0 < i.size then some (E, i.size, i.bytes) else none
      | none => none
    | none => none
  | _ => none
theorem elOf_spec {P : Program} {T E sz by_ : Nat} (h : elOf P T = some (E, sz, by_)) : ∃ z, El P T E sz by_ z := by
  unfold elOf at h
  cases hu : P.underlying T with
  | none => simp [hu] at h
  | some d =>
    cases d <;> simp only [hu] at h <;> try (cases h; done)
    rename_i E'
    cases hi : P.info? E' with
    | none => simp [hi] at h
    | some i =>
      cases hz : i.zero with
      | none => simp [hi, hz] at h
      | some z =>
        simp only [hi, hz, Option.ite_none_right_eq_some, Option.some.injEq, Prod.mk.injEq] at h
        obtain ⟨⟨h1, h2⟩, rfl, rfl, rfl⟩ := h
        exact ⟨z, hu, ⟨i, hi, hz, rfl, rfl⟩, h1, h2⟩
theorem sized_refl (w : World) : Sized w w := fun b arr E h => ⟨arr, h, rfl⟩
theorem app_run {P : Program} {T ty E sz by_ : Nat} {z : Value} (hE : El P T E sz by_ z) {w : World} {g o n cap : Nat} {cur : Array Value} (hg : w.heap[g]? = some (.cells cur E (0, 0))) (hcs : cap = 0 ∨ o + cap * sz ≤ cur.size) (hn : n ≤ cap) (hcm : cap ≤ maxLen)
    {bo : Option Addr} {m d : Nat} {news : List Value} (hl : news.length = m * sz) (hnews : 0 < m → ∃ b o, bo = some ⟨b, o, none⟩ ∧ ∀ (j : Nat) (u : Value), news[j]? = some u → w.cell? ⟨b, o + j, none⟩ = some u) (h1 : ∀ u ∈ news, u.oneCell' = true)
    (h63 : n + m ≤ maxLen) (hbytes : (n + m) * by_ ≤ 140737488355328) :
    ∃ (w' : World) (g' o' c' : Nat) (cur' : Array Value), (Builtin.append_ #[T, T] ty #[.slice (some ⟨g, o, none⟩) n cap, .slice bo m d]).run P w = .ok (.slice (some ⟨g', o', none⟩) (n + m) c') w' ∧ w'.heap[g']? = some (.cells cur' E (0, 0)) ∧ (c' = 0 ∨ o' + c' * sz ≤ cur'.size) ∧ n + m ≤ c' ∧ c' ≤ maxLen ∧
      (∀ p, p < (n + m) * sz → cur'[o' + p]? = ((cur.toList.drop o).take (n * sz) ++ news)[p]?) ∧ Sized w w' ∧ w.grownBy w' (some g) ∧ (g' = g ∨ g' = w.heap.size) := by
  obtain ⟨i, hi, hz, hsz, hby⟩ := hE.info
  subst hsz hby
  have hnm : n * i.size ≤ cap * i.size := Nat.mul_le_mul_right i.size hn
  have hlen : ((cur.toList.drop o).take (n * i.size)).length = n * i.size := by
    rcases hcs with h0 | hcs
    · have : n = 0 := by omega
      subst this
      simp
    · rw [List.length_take, List.length_drop, Array.length_toList]
      omega
  have hold : ∀ p, p < n * i.size → ((cur.toList.drop o).take (n * i.size) ++ news)[p]? = cur[o + p]? := fun p hp => by
    rw [List.getElem?_append_left (by omega), List.getElem?_take, if_pos hp, List.getElem?_drop, Array.getElem?_toList]
  rcases Nat.eq_zero_or_pos m with h0 | h0
  · subst h0
    have hnil : news = [] := List.eq_nil_of_length_eq_zero (by simpa using hl)
    subst hnil
    refine ⟨w, g, o, cap, cur, ?_, hg, hcs, by omega, hcm, fun p hp => (hold p (by simpa using hp)).symm, sized_refl w, gb_refl w _, .inl rfl⟩
    have hroom : n + 0 ≤ cap := by omega
    cases bo with
    | none => simp [Builtin.append_, run_underlying hE.sl, sizeOf, typeInfo, hi, Builtin.lenOf, Builtin.firstCells, storeCells, hn]
    | some a => simp [Builtin.append_, run_underlying hE.sl, sizeOf, typeInfo, hi, Builtin.lenOf, Builtin.firstCells, storeCells, hn, loadCells, loadCellsFrom]
  · obtain ⟨b, ob, rfl, hc⟩ := hnews h0
    have hnews' : ∀ j u, news[j]? = some u → w.cell? ((⟨b, ob, none⟩ : Addr).add j) = some u := fun j u hj => by rw [Addr.add_lit]; exact hc j u hj
    by_cases hroom : n + m ≤ cap
    · have hrm : (n + m) * i.size ≤ cap * i.size := Nat.mul_le_mul_right _ hroom
      rw [Nat.add_mul] at hrm
      obtain ⟨w', arr', g1, g2, g3, g4, g5, g6⟩ := storeCells_run (P := P) news (o + n * i.size) 0 w cur h1 hg (by rcases hcs with h0 | hcs <;> omega)
      have hfc := run_firstCells_some (P := P) w i.size m ⟨b, ob, none⟩ m d news hl hnews'
      refine ⟨w', g, o, cap, arr', ?_, g2, by rw [g3]; exact hcs, hroom, hcm, fun p hp => ?_, fun k arr T' hk => ?_, g5, .inl rfl⟩
      · simp [Builtin.append_, run_underlying hE.sl, sizeOf, typeInfo, hi, Builtin.lenOf, hroom, hfc, Addr.add_lit, g1]
      · rw [g4]
        rw [Nat.add_mul] at hp
        by_cases hp1 : p < n * i.size
        · rw [if_neg (by omega), hold p hp1]
        · rw [if_pos (by omega), List.getElem?_append_right (by omega), hlen]
          congr 1
          omega
      · by_cases hkg : k = g
        · subst hkg
          rw [hg] at hk
          injection hk with hk
          injection hk with hk1 hk2
          subst hk1 hk2
          exact ⟨_, g2, g3⟩
        · exact ⟨arr, by rw [g5.block k (lt_of_heap hk) (fun e => by injection e with e; exact hkg e)]; exact hk, rfl⟩
    · have holds : ∀ j u, ((cur.toList.drop o).take (n * i.size))[j]? = some u → w.cell? ((⟨g, o, none⟩ : Addr).add j) = some u := fun j u hj => by
        rw [Addr.add_lit, cell_of_arr hg]
        rw [List.getElem?_take] at hj
        split at hj
        · rw [List.getElem?_drop] at hj
          simpa using hj
        · cases hj
      have h63' : ((n + m : Nat) : Int) ≤ 9223372036854775807 := by simp only [maxLen] at h63; omega
      have hr := run_append_grow (P := P) w T ty E i z hE.sl hi hz ⟨g, o, none⟩ n cap ((cur.toList.drop o).take (n * i.size)) hlen holds ⟨b, ob, none⟩ m d news hl hnews' (by omega) h63' (growslice_fits (by omega) hbytes)
      have hge := grownCap_ge w (n + m) cap E
      have hcm' : grownCap w (n + m) cap E ≤ maxLen := grownCap_le_maxLen w (n + m) cap E h63
      refine ⟨_, w.heap.size, 0, _, _, hr, heap_alloc_new w.drew _, ?_, hge, hcm', fun p hp => ?_, ?_, ⟨rfl, rfl, rfl, by simp, fun k hk _ => Below.heap_alloc w.drew _ k hk⟩, .inr rfl⟩
      · right
        simp only [Array.size_append, List.size_toArray, size_zeroCells, hE.cells, hlen, hl, ← Nat.add_mul, Nat.zero_add]
        refine Nat.mul_le_mul_right _ ?_
        omega
      · rw [Nat.zero_add, ← Array.getElem?_toList]
        simp only [Array.toList_append, List.append_assoc]
        rw [← List.append_assoc, List.getElem?_append_left (by rw [List.length_append, hlen, hl, ← Nat.add_mul]; exact hp)]
      · intro k arr T' hk
        exact ⟨arr, by rw [Below.heap_alloc w.drew _ k (lt_of_heap hk)]; exact hk, rfl⟩
def SlD (H : Nat → Option Ob) (d : D) (sz : Nat) (new : Bool) (els : List P0) : Prop :=
  ∀ (ι : Nat → Nat × Nat) (base : Nat) (w : World) (own : Nat → Prop) (v : Value), (∀ k ob, H k = some ob → own (ι k).1 ∧ ob.p ι base ⟨w, own⟩ (ι k)) → d.p ι base ⟨w, own⟩ v →
    ∃ (bo : Option Addr) (c : Nat) (news : List Value), v = .slice bo els.length c ∧ news.length = els.length * sz ∧ (0 < els.length → ∃ b o, bo = some ⟨b, o, none⟩ ∧ ∀ (j : Nat) (u : Value), news[j]? = some u → w.cell? ⟨b, o + j, none⟩ = some u) ∧ (∀ u ∈ news, u.oneCell' = true) ∧
      AllN sz els ∧ ∀ (p : Nat) (r : R), (flat els)[p]? = some r → ∃ u, news[p]? = some u ∧ r.p (Cx.young ⟨w, own⟩ base new) u
theorem news_of {c : Cx} {w : World} {b o sz : Nat} {els : List P0} (hn : AllN sz els) (h : ∀ (p : Nat) (r : R), (flat els)[p]? = some r → ∃ u, w.cell? ⟨b, o + p, none⟩ = some u ∧ r.p c u) :
    ∃ news : List Value, news.length = els.length * sz ∧ (∀ (j : Nat) (u : Value), news[j]? = some u → w.cell? ⟨b, o + j, none⟩ = some u) ∧ (∀ u ∈ news, u.oneCell' = true) ∧ ∀ (p : Nat) (r : R), (flat els)[p]? = some r → ∃ u, news[p]? = some u ∧ r.p c u := by
  obtain ⟨vs, hl, hv⟩ := pick_vals (p := fun (r : R) u => r.p c u) (g := fun p => w.cell? ⟨b, o + p, none⟩) (flat els) h
  have get : ∀ (j : Nat) (u : Value), vs[j]? = some u → ∃ r, (flat els)[j]? = some r ∧ w.cell? ⟨b, o + j, none⟩ = some u ∧ r.p c u := fun j u hj => by
    have hjl : j < vs.length := by
      rcases Nat.lt_or_ge j vs.length with h | h
      · exact h
      · rw [List.getElem?_eq_none h] at hj; cases hj
    obtain ⟨u', e1, e2, e3⟩ := hv j _ (List.getElem?_eq_getElem (by omega))
    rw [e1] at hj; injection hj with hj; subst hj
    exact ⟨_, List.getElem?_eq_getElem (by omega), e2, e3⟩
  refine ⟨vs, by rw [hl, flat_len hn], fun j u hj => (get j u hj).choose_spec.2.1, fun u hu => ?_, fun p r hp => let ⟨u, e1, _, e3⟩ := hv p r hp; ⟨u, e1, e3⟩⟩
  obtain ⟨j, hj⟩ := List.getElem?_of_mem hu
  obtain ⟨r, _, _, h3⟩ := get j u hj
  exact r.one h3
theorem slD_row {H : Nat → Option Ob} {m nil : Bool} {sz : Nat} {els : List P0} : SlD H (.one (.r m (row nil sz els))) sz m els := by
  intro ι base w own v hH hv
  obtain ⟨ao, cap, h1, h2, h3, h4, h5⟩ := row_p.1 hv
  by_cases hn : 0 < els.length
  · obtain ⟨b, o, e1, e2, e3, e4⟩ := h5 hn
    obtain ⟨f1, f2⟩ := flat_of (q := fun p r => ∃ u, w.cell? ⟨b, o + p, none⟩ = some u ∧ r.p (Cx.young ⟨w, own⟩ base m) u) (fun i e hi => ⟨(e4 i e hi).1, fun j r hj => by
      obtain ⟨u, hu, hr⟩ := (e4 i e hi).2 j r hj
      refine ⟨u, ?_, hr⟩
      rw [Cx.young_w] at hu
      rwa [← Nat.add_assoc]⟩)
    obtain ⟨news, g1, g2, g3, g4⟩ := news_of f1 f2
    exact ⟨ao, cap, news, h1, g1, fun _ => ⟨b, o, e1, g2⟩, g3, f1, g4⟩
  · have : els = [] := List.eq_nil_of_length_eq_zero (by omega)
    subst this
    exact ⟨ao, cap, [], h1, by simp, fun h => by simp at h, fun u hu => by simp at hu, fun i e hi => by simp at hi, fun p r hp => by simp [flat] at hp⟩
theorem slD_ownJ {H : Nat → Option Ob} {k j n sz : Nat} {E : TypeId} {new : Bool} {els : List P0} (hk : H k = some (.sl E sz new els)) (hn : j + n ≤ els.length) : SlD H (.one (.own k j n sz)) sz new ((els.drop j).take n) := by
  intro ι base w own v hH hv
  obtain ⟨oo, cap, arr, E', h1, h0, h2, h3, h4, h5⟩ := hv
  obtain ⟨ho, arr', e1, e2, e3⟩ := hH k _ hk
  have hl : ((els.drop j).take n).length = n := by rw [List.length_take, List.length_drop]; omega
  obtain ⟨f1, f2⟩ := flat_of (els := (els.drop j).take n) (q := fun p r => ∃ u, w.cell? ⟨(ι k).1, (ι k).2 + j * sz + p, none⟩ = some u ∧ r.p (Cx.young ⟨w, own⟩ base new) u) (fun i e hi => by
    rw [List.getElem?_take] at hi
    split at hi
    · rw [List.getElem?_drop] at hi
      refine ⟨(e3 (j + i) e hi).1, fun jj r hj => ?_⟩
      obtain ⟨u, hu, hr⟩ := (e3 (j + i) e hi).2 jj r hj
      refine ⟨u, ?_, hr⟩
      rw [cell_of_arr e1, ← hu, Nat.add_mul]
      congr 1
      omega
    · cases hi)
  obtain ⟨news, g1, g2, g3, g4⟩ := news_of f1 f2
  refine ⟨some ⟨(ι k).1, oo, none⟩, cap, news, by rw [hl]; exact h1, g1, fun hp => ⟨(ι k).1, (ι k).2 + j * sz, ?_, g2⟩, g3, f1, g4⟩
  rw [hl] at hp
  rw [h0.resolve_right (by omega)]
theorem slD_own {H : Nat → Option Ob} {k n sz : Nat} {E : TypeId} {new : Bool} {els : List P0} (hk : H k = some (.sl E sz new els)) (hn : n = els.length) : SlD H (.one (.own k 0 n sz)) sz new els := by
  have := slD_ownJ (j := 0) (n := n) hk (by omega)
  rwa [List.drop_zero, List.take_of_length_le (by omega)] at this
theorem Cx.Ext.trans {a b c : Cx} (h : a.Ext b) (k : b.Ext c) : a.Ext c :=
  ⟨Nat.le_trans h.size k.size, fun x hx ho => h.own x hx (k.own x (Nat.lt_of_lt_of_le hx h.size) ho), fun x hx ho => by
    rcases h.block x hx ho with h1 | h1
    · rcases k.block x (Nat.lt_of_lt_of_le hx h.size) (fun hb => ho (h.own x hx hb)) with h2 | ⟨o, h2, h3⟩
      · exact .inl (h2.trans h1)
      · exact .inr ⟨o, by rw [← h1]; exact h2, h3⟩
    · exact .inr h1⟩
theorem eff_append {P : Program} {H : Nat → Option Ob} {ev : Operand → D} {o : Oper} {t k j c sz by_ : Nat} {E : TypeId} {new new2 : Bool} {els els2 : List P0} {d : D} (T : TypeId) (x y : Operand) (ho : o.op = .call { callee := .builtin .append, args := #[x, y], argTypes := #[T, T] }) (hT : elOf P T = some (E, sz, by_))
    (hx : ev x = .one (.own k j c sz)) (hk : H k = some (.sl E sz new els)) (hc : j + c = els.length) (hy : ev y = d) (hs : SlD H d sz new2 els2) (h63 : c + els2.length ≤ maxLen) (hb : (c + els2.length) * by_ ≤ 140737488355328) :
    Eff P H ev o (.one (.own t 0 (c + els2.length) sz)) [k] [t] [(t, some (.sl E sz (new && new2) (els.drop j ++ els2))), (k, none)] := by
  intro base a w ι own hown hbase hev hH _ K Q hK
  obtain ⟨z, hE⟩ := elOf_spec hT
  have hx1 := hev x (by rw [ho]; simp [Op.operands, Call.operands])
  rw [hx] at hx1
  obtain ⟨oo, cap, arr, E', e1, e0, e2, e3, e4, e5⟩ := hx1
  obtain ⟨hko, arr', g1, g2, g3⟩ := hH k _ hk
  have hae : arr' = arr ∧ E = E' := by
    have e4' : w.heap[(ι k).1]? = some (.cells arr E' (0, 0)) := e4
    have g1' : w.heap[(ι k).1]? = some (.cells arr' E (0, 0)) := g1
    rw [e4'] at g1'
    injection g1' with g1'
    injection g1' with q1 q2
    exact ⟨q1.symm, q2.symm⟩
  obtain ⟨rfl, rfl⟩ := hae
  have hy1 := hev y (by rw [ho]; simp [Op.operands, Call.operands])
  rw [hy] at hy1
  obtain ⟨bo, c2, news, f1, f2, f3, f4, f5, f6⟩ := hs ι base w own _ hH hy1
  have hdl : (els.drop j).length = c := by rw [List.length_drop]; omega
  obtain ⟨w', g', o', c', cur', r1, r2, r3, r4, r5, r6, r7, r8, r9⟩ := app_run (P := P) (ty := o.type) hE (w := w) (g := (ι k).1) (o := oo) (n := c) (cap := cap) (cur := arr') g1 (e0.symm.imp id (fun e => by rw [Nat.add_mul] at e5; omega)) e2 e3 (bo := bo) (m := els2.length) (d := c2) f2 f3 f4 h63 hb
  have hrun : (execOp a.eval o).run P w = .ok (.value (.slice (some ⟨g', o', none⟩) (c + els2.length) c')) w' := by
    unfold execOp
    rw [ho]
    have e1' : a.eval x = .slice (some ⟨(ι k).1, oo, none⟩) c cap := e1
    simp only [resolve, invoke, builtin, Sem.run_bind, Sem.run_pure, Result.andThen_ok, List.map_toArray, List.map_cons, List.map_nil, e1', f1, r1]
  unfold Oper.wp
  rw [hrun, Oper.upon_value]
  have hx' : Cx.Ext ⟨w, own⟩ ⟨w', fun b => own b ∨ b = g'⟩ := ⟨r8.size, fun b hb h => by
    rcases h with h | h
    · exact h
    · rcases r9 with r9 | r9
      · rw [h, r9]; exact hko
      · have : b < w.heap.size := hb
        omega, fun b hb hno => .inl (r8.block b hb (fun e => by injection e with e; subst e; exact hno hko))⟩
  obtain ⟨o2, ho2, hb2⟩ : ∃ o2, (o' = o2 ∨ c' = 0) ∧ o2 + (c + els2.length) * sz ≤ cur'.size ∧ (c' ≠ 0 → o2 + c' * sz ≤ cur'.size) ∧ (0 < c' → o2 = o') := by
    rcases Nat.eq_zero_or_pos c' with h0 | h0
    · exact ⟨0, .inr h0, by rw [show c + els2.length = 0 by omega]; simp, fun h => absurd h0 h, fun h => by omega⟩
    · have h1 := r3.resolve_left (by omega)
      have h2 := Nat.mul_le_mul_right sz r4
      exact ⟨o', .inl rfl, by omega, fun _ => h1, fun _ => rfl⟩
  have hg1 : own g' ∨ w.heap.size ≤ g' := by rcases r9 with r9 | r9 <;> rw [r9]; exact .inl hko; exact .inr (Nat.le_refl _)
  refine hK _ _ (upd ι t (g', o2)) (fun b => own b ∨ b = g') ⟨r8.os, r8.tape, r8.output, r8.size, fun b hb hn => r8.block b hb (fun e => by injection e with e; exact hn k (by simp) e), r7, fun _ h _ => .inl h, fun b h => ?_, fun b h => ?_, fun u hu => upd_ne _ _ (fun e => hu (by simp [e])), ?_, fun k1 ob1 h => ?_, fun k1 ob1 k2 ob2 h h' _ => ?_⟩
  · rcases h with h | h
    · exact .inl h
    · rw [h]; exact hg1
  · rcases h with h | h
    · exact Nat.lt_of_lt_of_le (hown b h).2 r8.size
    · rw [h]; exact lt_of_heap r2
  · refine ⟨o', c', cur', E, by rw [upd_same], ?_, r4, r5, by rw [upd_same]; exact r2, ?_⟩
    · rw [upd_same, Nat.zero_mul]; exact ho2
    · rw [upd_same, Nat.zero_add]
      show o2 + c' * sz ≤ cur'.size
      by_cases h0 : c' = 0
      · rw [h0]; have := hb2.1; omega
      · exact hb2.2.1 h0
  · obtain ⟨rfl, rfl⟩ : k1 = t ∧ ob1 = .sl E sz (new && new2) (els.drop j ++ els2) := by simpa using h
    rw [upd_same]
    refine ⟨.inr rfl, ⟨cur', r2, ?_, of_flat (q := fun p r => ∃ u, cur'[o2 + p]? = some u ∧ r.p (Cx.young ⟨w', fun b => own b ∨ b = g'⟩ base (new && new2)) u) ?_ (fun p r hp => ?_)⟩, ?_⟩
    · rw [List.length_append, hdl]
      exact hb2.1
    · refine AllN.app (fun i e hi => ?_) f5
      rw [List.getElem?_drop] at hi
      exact (g3 _ e hi).1
    · have hf1 := flat_of (els := els.drop j) (q := fun p r => ∃ u, arr'[(ι k).2 + j * sz + p]? = some u ∧ r.p (Cx.young ⟨w, own⟩ base new) u) (fun i e hi => by
        rw [List.getElem?_drop] at hi
        refine ⟨(g3 (j + i) e hi).1, fun jj r hj => ?_⟩
        obtain ⟨u, hu, hr⟩ := (g3 (j + i) e hi).2 jj r hj
        refine ⟨u, ?_, hr⟩
        rw [← hu, Nat.add_mul]
        congr 1
        omega)
      rw [flat_app] at hp
      have hplt : p < (flat (els.drop j) ++ flat els2).length := by
        rcases Nat.lt_or_ge p (flat (els.drop j) ++ flat els2).length with h | h
        · exact h
        · rw [List.getElem?_eq_none h] at hp; cases hp
      have hfl : (flat (els.drop j)).length = c * sz := by rw [flat_len hf1.1, hdl]
      have hpl : p < (c + els2.length) * sz := by
        rw [List.length_append, hfl, flat_len f5, ← Nat.add_mul] at hplt; exact hplt
      have hlen1 : ((arr'.toList.drop ((ι k).2 + j * sz)).take (c * sz)).length = c * sz := by
        have := Nat.mul_le_mul_right sz e2
        rw [Nat.add_mul] at e5
        rw [List.length_take, List.length_drop, Array.length_toList]; omega
      have hc0 : 0 < c' := by
        rcases Nat.eq_zero_or_pos c' with h0 | h0
        · rw [show c + els2.length = 0 by omega] at hpl; simp at hpl
        · exact h0
      have hol : (arr'.toList.drop oo).take (c * sz) = (arr'.toList.drop ((ι k).2 + j * sz)).take (c * sz) := by
        rcases e0 with e0 | e0
        · rw [e0]
        · have : c = 0 := by omega
          subst this; simp
      rw [hb2.2.2 hc0, r6 p hpl, hol]
      by_cases hp1 : p < c * sz
      · rw [List.getElem?_append_left (by rw [hfl]; exact hp1)] at hp
        rw [List.getElem?_append_left (by rw [hlen1]; exact hp1), List.getElem?_take, if_pos hp1, List.getElem?_drop, Array.getElem?_toList]
        obtain ⟨u, hu, hr⟩ := hf1.2 p r hp
        refine ⟨u, hu, r.mono ?_ hr⟩
        cases new with
        | false => exact hx'
        | true => cases new2 with
          | true => exact hx'.young _ true
          | false => exact (Cx.young_out _ _ true).trans hx'
      · rw [List.getElem?_append_right (by rw [hfl]; omega), hfl] at hp
        rw [List.getElem?_append_right (by rw [hlen1]; omega), hlen1]
        obtain ⟨u, hu, hr⟩ := f6 _ r hp
        refine ⟨u, hu, r.mono ?_ hr⟩
        cases new2 with
        | false => cases new <;> exact hx'
        | true => cases new with
          | true => exact hx'.young _ true
          | false => exact (Cx.young_out _ _ true).trans hx'
    · rcases r9 with r9 | r9
      · exact .inr ⟨k, by simp, r9⟩
      · exact .inl (by rw [r9]; exact Nat.le_refl _)
  · obtain ⟨rfl, rfl⟩ : k1 = t ∧ ob1 = .sl E sz (new && new2) (els.drop j ++ els2) := by simpa using h
    obtain ⟨rfl, rfl⟩ : k2 = k1 ∧ ob2 = .sl E sz (new && new2) (els.drop j ++ els2) := by simpa using h'
    rfl
def rOf : Value → R
  | .slice none 0 0 => row true 0 []
  | v => val v
theorem rOf_p {c : Cx} {v : Value} (h : v.oneCell' = true) : (rOf v).p c v := by
  unfold rOf
  split
  · exact row_p.2 ⟨none, 0, rfl, by simp [maxLen], by simp, by simp, fun h => by simp at h⟩
  · exact val_p.2 ⟨rfl, h⟩
def p0Of : Value → P0
  | .agg cs => .agg (cs.toList.map rOf)
  | v => .one (rOf v)
theorem p0Of_rs (v : Value) : (p0Of v).rs = v.cells.toList.map rOf := by
  cases v <;> simp [p0Of, P0.rs, Value.cells]
def zpOf (P : Program) (E : TypeId) : Option P0 :=
  match P.info? E with
  | some i => match i.zero with
    | some z => if z.cells.toList.all Value.oneCell' then some (p0Of z) else none
    | none => none
  | none => none
theorem eff_make {P : Program} {H : Nat → Option Ob} {ev : Operand → D} {o : Oper} {t sz by_ c : Nat} {E : TypeId} {zp : P0} {m1 m2 : Bool} {i j : Int} (T : TypeId) (x y : Operand) (ho : o.op = .makeSlice T x y) (hT : elOf P T = some (E, sz, by_)) (hz : zpOf P E = some zp)
    (hx : ev x = .one (.r m1 (int i))) (hy : ev y = .one (.r m2 (int j))) (hi : i = c) (hj : j = c) (hb : by_ * c ≤ 281474976710656) (h63 : c ≤ maxLen) :
    Eff P H ev o (.one (.own t 0 c sz)) [] [t] [(t, some (.sl E sz true (List.replicate c zp)))] := by
  intro base a w ι own hown hbase hev hH _ K Q hK
  subst hi hj
  have hx1 := hev x (by rw [ho]; simp [Op.operands])
  rw [hx] at hx1
  have hy1 := hev y (by rw [ho]; simp [Op.operands])
  rw [hy] at hy1
  have hx2 : a.eval x = .int .i64 (c : Int) := ((val_p (c := Cx.young ⟨w, own⟩ base m1)).1 hx1).1
  have hy2 : a.eval y = .int .i64 (c : Int) := ((val_p (c := Cx.young ⟨w, own⟩ base m2)).1 hy1).1
  obtain ⟨z, hE⟩ := elOf_spec hT
  obtain ⟨inf, hi, hzz, hsz, hby⟩ := hE.info
  have hbi : (inf.bytes : Int) * (c : Int) ≤ 281474976710656 := by
    have : ((by_ * c : Nat) : Int) ≤ 281474976710656 := by omega
    rw [hby]; rwa [Int.natCast_mul] at this
  have hr := run_make (P := P) w T E inf z hE.sl hi hzz .i64 .i64 c c (by omega) (Int.le_refl _) hbi (by simp only [maxLen] at h63; omega)
  simp only [Int.toNat_natCast] at hr
  have hrun : (execOp a.eval o).run P w = .ok (.value (.slice (some ⟨w.heap.size, 0, none⟩) c c)) (w.alloc (.cells (madeCells z.cells (c * inf.size)) E)) := by
    unfold execOp
    rw [ho]
    simp only [hx2, hy2, Sem.run_bind, hr, Result.andThen_ok, Sem.run_pure]
  unfold Oper.wp
  rw [hrun, Oper.upon_value]
  have hzp : z.cells.toList.all Value.oneCell' = true ∧ zp = p0Of z := by
    unfold zpOf at hz
    rw [hi] at hz
    simp only [hzz, Option.ite_none_right_eq_some, Option.some.injEq] at hz
    exact ⟨hz.1, hz.2.symm⟩
  refine hK _ _ _ _ (Chg.fresh (g := (w.heap.size, 0)) hown (below_alloc _ _) (Nat.le_refl _) (by rw [size_new]; omega) ?_ ?_)
  · refine ⟨_, heap_new _ _, by rw [List.length_replicate, size_madeCells, hsz, Nat.zero_add]; exact Nat.le_refl _, fun i e he => ?_⟩
    rw [List.getElem?_replicate] at he
    split at he
    · rename_i hic
      injection he with he
      subst he
      rw [hzp.2]
      have hn : (p0Of z).rs.length = sz := by rw [p0Of_rs, List.length_map, Array.length_toList]; exact hE.cells
      refine ⟨hn, fun j r hj => ?_⟩
      rw [p0Of_rs, List.getElem?_map, Option.map_eq_some_iff] at hj
      obtain ⟨u, hu, rfl⟩ := hj
      have hjs : j < sz := by
        rw [← hE.cells]
        rcases Nat.lt_or_ge j z.cells.toList.length with h | h
        · simpa using h
        · rw [List.getElem?_eq_none h] at hu; cases hu
      refine ⟨u, ?_, rOf_p (List.all_eq_true.1 hzp.1 u (List.mem_of_getElem? hu))⟩
      rw [Nat.zero_add]
      have hlt : i * sz + j < c * inf.size := by
        rw [hsz]
        have : (i + 1) * sz ≤ c * sz := Nat.mul_le_mul_right _ hic
        rw [Nat.add_mul] at this
        omega
      simp only [madeCells, Array.getElem?_map, Array.getElem?_range, hlt, if_true, Option.map_some, Option.some.injEq]
      rw [hE.cells, Nat.add_comm, Nat.add_mul_mod_self_right, Nat.mod_eq_of_lt hjs]
      have hzj : z.cells[j]? = some u := by simpa using hu
      have hjz : j < z.cells.size := by rw [hE.cells]; exact hjs
      rw [getElem!_pos z.cells j hjz]
      rw [Array.getElem?_eq_getElem hjz] at hzj
      injection hzj
    · cases he
  · refine ⟨0, c, _, E, by rw [upd_same], .inl (by rw [upd_same, Nat.zero_mul]), Nat.le_refl _, h63, by rw [upd_same]; exact heap_new _ _, by rw [upd_same, size_madeCells, hsz, Nat.zero_add, Nat.zero_add]; exact Nat.le_refl _⟩
def nb (m : Bool) : R → Bool
  | .val _ => true
  | .row true _ [] => true
  | _ => m
theorem nb_p {c : Cx} {base : Nat} {m : Bool} {v : Value} : ∀ {r : R}, r.p (c.young base m) v → r.p (c.young base (nb m r)) v
  | .val u, h => by have := val_p.1 h; exact val_p.2 this
  | .row nil sz els, h => by
    cases nil with
    | false => exact h
    | true =>
      cases els with
      | nil =>
        obtain ⟨ao, cap, h1, h2, h3, h4, h5⟩ := row_p.1 h
        exact row_p.2 ⟨ao, cap, h1, h2, h3, h4, fun h => by simp at h⟩
      | cons _ _ => exact h
  | .ref x, h => h
def rsO : List Cell → Option (Bool × List R)
  | [] => some (true, [])
  | .r m r :: cs => match rsO cs with
    | some (m', rs) => some (nb m r && m', r :: rs)
    | none => none
  | _ :: _ => none
def dP : D → Option (Bool × P0)
  | .one (.r m r) => some (nb m r, .one r)
  | .agg cs => match rsO cs with
    | some (m, rs) => some (m, .agg rs)
    | none => none
  | _ => none
theorem young_le {c : Cx} {base : Nat} {m m' : Bool} (h : m' = true → m = true) : (c.young base m).Ext (c.young base m') := by
  cases m' with
  | true => rw [h rfl]; exact Cx.Ext.refl _
  | false => exact Cx.young_out c base m
theorem rsO_ok {ι : Nat → Nat × Nat} {base : Nat} {c : Cx} : ∀ {cs : List Cell} {m : Bool} {rs : List R}, rsO cs = some (m, rs) → cs.length = rs.length ∧ ∀ (j : Nat) (r : R), rs[j]? = some r → ∃ x, cs[j]? = some x ∧ ∀ v, x.p ι base c v → r.p (c.young base m) v
  | [], m, rs, h => by
    simp only [rsO, Option.some.injEq, Prod.mk.injEq] at h
    obtain ⟨rfl, rfl⟩ := h
    exact ⟨rfl, fun j r hj => by simp at hj⟩
  | .r m0 r0 :: cs, m, rs, h => by
    simp only [rsO] at h
    split at h
    · rename_i m' rs' he
      simp only [Option.some.injEq, Prod.mk.injEq] at h
      obtain ⟨rfl, rfl⟩ := h
      obtain ⟨g1, g2⟩ := rsO_ok (ι := ι) (base := base) (c := c) he
      refine ⟨by simp [g1], fun j r hj => ?_⟩
      cases j with
      | zero =>
        simp at hj; subst hj
        exact ⟨_, rfl, fun v hv => r0.mono (young_le (fun e => by simp at e; exact e.1)) (nb_p hv)⟩
      | succ j =>
        obtain ⟨x, hx, hp⟩ := g2 j r (by simpa using hj)
        exact ⟨x, by simpa using hx, fun v hv => r.mono (young_le (fun e => by simp at e; exact e.2)) (hp v hv)⟩
    · cases h
  | .own .. :: _, _, _, h => by cases h
  | .ptr .. :: _, _, _, h => by cases h
  | .any :: _, _, _, h => by cases h
  | .clo .. :: _, _, _, h => by cases h
theorem dP_ok {ι : Nat → Nat × Nat} {base : Nat} {c : Cx} {v : Value} : ∀ {d : D} {m : Bool} {e : P0}, dP d = some (m, e) → d.p ι base c v → v.cells.size = e.n ∧ ∀ (j : Nat) (r : R), e.rs[j]? = some r → ∃ u, v.cells[j]? = some u ∧ r.p (c.young base m) u
  | .one x, m, e, h, hv => by
    cases x with
    | r m0 r0 =>
      simp only [dP, Option.some.injEq, Prod.mk.injEq] at h
      obtain ⟨rfl, rfl⟩ := h
      have h1 : v.cells = #[v] := by have := r0.one hv;cases v <;> first|rfl|(simp [Value.oneCell'] at this)
      rw [h1]
      refine ⟨rfl, fun j r hj => ?_⟩
      cases j with
      | zero => simp [P0.rs] at hj; subst hj; exact ⟨v, rfl, nb_p hv⟩
      | succ j => simp [P0.rs] at hj
    | _ => cases h
  | .agg cs, m, e, h, ⟨vs, h1, h2, h3⟩ => by
    simp only [dP] at h
    split at h
    · rename_i m' rs he
      simp only [Option.some.injEq, Prod.mk.injEq] at h
      obtain ⟨rfl, rfl⟩ := h
      obtain ⟨g1, g2⟩ := rsO_ok (ι := ι) (base := base) (c := c) he
      subst h1
      refine ⟨by simp [Value.cells, P0.n, P0.rs]; omega, fun j r hj => ?_⟩
      obtain ⟨x, hx, hp⟩ := g2 j r hj
      obtain ⟨u, hu, hq⟩ := h3 j x hx
      exact ⟨u, by simpa [Value.cells] using hu, hp u hq⟩
    · cases h
  | .tup _ _, _, _, h, _ => by cases h
  | .tups _, _, _, h, _ => by cases h
  | .any, _, _, h, _ => by cases h
theorem eff_storeS {P : Program} {H : Nat → Option Ob} {ev : Operand → D} {o : Oper} {k sz i : Nat} {ag : Bool} {d : D} {E : TypeId} {new m : Bool} {els : List P0} {e : P0} (t : TypeId) (x y : Operand) (ho : o.op = .store t x y) (hd : o.dst = none) (hx : ev x = .one (.ptr k i sz 0)) (hk : H k = some (.sl E sz new els)) (hT : tyOf P t = some (ag, sz)) (hi : i < els.length) (hy : ev y = d) (he : dP d = some (m, e)) (hen : e.n = sz) :
    Eff P H ev o .any [k] [] [(k, some (.sl E sz (new && m) (els.set i e)))] := by
  intro base a w ι own hown hbase hev hH _ K Q hK
  have hx1 := hev x (by rw [ho]; simp [Op.operands])
  rw [hx] at hx1
  have hx2 : a.eval x = .pointer (some ⟨(ι k).1, (ι k).2 + i * sz, none⟩) := hx1
  have hv := hev y (by rw [ho]; simp [Op.operands])
  rw [hy] at hv
  obtain ⟨g1, g2⟩ := dP_ok he hv
  obtain ⟨hko, arr, e1, e2, e3⟩ := hH k _ hk
  have hle : (ι k).2 + i * sz + sz ≤ arr.size := by
    have : (i + 1) * sz ≤ els.length * sz := Nat.mul_le_mul_right _ hi
    rw [Nat.add_mul] at this
    omega
  obtain ⟨w', arr', f1, f2, f3, f4, f5, f6⟩ := storeVar_run (P := P) (o := (ι k).2 + i * sz) hT w arr (by rw [g1, hen]) (fun j u hj => by
    have hjl : j < e.rs.length := by
      have : (a.eval y).cells.size = e.rs.length := g1
      rw [← this]
      rcases Nat.lt_or_ge j (a.eval y).cells.size with h | h
      · exact h
      · rw [Array.getElem?_eq_none h] at hj; cases hj
    obtain ⟨u', h1, h2⟩ := g2 j _ (List.getElem?_eq_getElem hjl)
    rw [h1] at hj; injection hj with hj; subst hj; exact R.one _ h2) e1 hle
  have hrun : (execOp a.eval o).run P w = .ok .skip w' := by
    unfold execOp
    rw [ho]
    simp [hx2, Instr.storeAt, Instr.sureAddr, f1]
  unfold Oper.wp
  rw [hrun, Oper.upon_skip, hd]
  have hsz : Sized w w' := fun b ar T hb => by
    by_cases hbk : b = (ι k).1
    · subst hbk
      have e1' : w.heap[(ι k).1]? = some (.cells arr E (0, 0)) := e1
      rw [e1'] at hb
      injection hb with hb
      injection hb with hb1 hb2
      subst hb1 hb2
      exact ⟨arr', f2, f3⟩
    · exact ⟨ar, by rw [f5.block b (lt_of_heap hb) (fun e => by injection e with e; exact hbk e)]; exact hb, rfl⟩
  have hK' := hK undef
  rw [hd] at hK'
  have hxx := ext_write (own := own) hko f5 f6
  refine hK' _ _ _ (Chg.write hown hko f5 f6 hsz ⟨arr', f2, by rw [f3, List.length_set]; exact e2, fun q ee hq => ?_⟩)
  rw [List.getElem?_set] at hq
  by_cases hiq : i = q
  · subst hiq
    rw [if_pos rfl, if_pos hi] at hq
    injection hq with hq
    subst hq
    refine ⟨hen, fun j r hj => ?_⟩
    obtain ⟨u, hu, hr⟩ := g2 j r hj
    have hjs : j < sz := by
      rw [← hen]
      rcases Nat.lt_or_ge j e.rs.length with h | h
      · exact h
      · rw [List.getElem?_eq_none h] at hj; cases hj
    refine ⟨u, by rw [f4, if_pos ⟨by omega, by omega⟩, show (ι k).2 + (i * sz + j) - ((ι k).2 + i * sz) = j by omega]; exact hu, ?_⟩
    exact r.mono ((young_le (fun e => by simp at e; exact e.2)).trans (hxx.young _ _)) hr
  · rw [if_neg hiq] at hq
    obtain ⟨p1, p2⟩ := e3 q ee hq
    refine ⟨p1, fun j r hj => ?_⟩
    obtain ⟨u, hu, hr⟩ := p2 j r hj
    have hjs : j < sz := by
      rw [← p1]
      rcases Nat.lt_or_ge j ee.rs.length with h | h
      · exact h
      · rw [List.getElem?_eq_none h] at hj; cases hj
    refine ⟨u, ?_, r.mono ((young_le (fun e => by simp at e; exact e.1)).trans (hxx.young _ _)) hr⟩
    rw [f4, if_neg ?_]
    · exact hu
    · intro hh
      rcases Nat.lt_or_ge q i with h | h
      · have : (q + 1) * sz ≤ i * sz := Nat.mul_le_mul_right _ h
        rw [Nat.add_mul] at this
        omega
      · have : (i + 1) * sz ≤ q * sz := Nat.mul_le_mul_right _ (by omega)
        rw [Nat.add_mul] at this
        omega
theorem loc_loadS {P : Program} {H : Nat → Option Ob} {ev : Operand → D} {o : Oper} {k i sz off m : Nat} {ag : Bool} {E : TypeId} {new : Bool} {els : List P0} {e y : P0} (t : TypeId) (x : Operand) (ho : o.op = .load t x) (hx : ev x = .one (.ptr k i sz off)) (hk : H k = some (.sl E sz new els)) (he : els[i]? = some e) (hT : tyOf P t = some (ag, m)) (hy : y = mk ag ((e.rs.drop off).take m)) (hm : off + m ≤ e.rs.length) (h1 : ag = true ∨ m = 1) : Loc P H ev o (y.d new) :=
  loc_run fun base a w ι own hw hev hH => by
    have hx1 := hev x (by rw [ho]; simp [Op.operands])
    rw [hx] at hx1
    have hx2 : a.eval x = .pointer (some ⟨(ι k).1, (ι k).2 + (i * sz + off), none⟩) := hx1
    obtain ⟨hown, arr, g1, g2, g3⟩ := hH k _ hk
    obtain ⟨p1, p2⟩ := g3 i e he
    have hC : CellsAt (Cx.young ⟨w, own⟩ base new) (ι k).1 ((ι k).2 + (i * sz + off)) ((e.rs.drop off).take m) := fun j r hj => by
      rw [List.getElem?_take] at hj
      split at hj
      · rw [List.getElem?_drop] at hj
        obtain ⟨u, hu, hr⟩ := p2 _ r hj
        refine ⟨u, ?_, hr⟩
        rw [Cx.young_w, cell_of_arr g1, ← hu]
        congr 1
        omega
      · cases hj
    obtain ⟨v, h2, h3⟩ := load_cells hC hT (by rw [List.length_take, List.length_drop]; omega) hy h1
    rw [Cx.young_w] at h2
    refine ⟨v, ?_, P0.d_p.2 h3⟩
    unfold execOp
    rw [ho]
    simp only [hx2, Sem.run_bind, Instr.loadAt, Instr.sureAddr, Sem.run_pure, Result.andThen_ok, h2]
end Go.Proofs.YtlobefglhppbdaaGreatDoor.Abs
set_option linter.unusedSimpArgs false
set_option linter.unusedVariables false
namespace Go.Proofs.YtlobefglhppbdaaGreatDoor.Abs
open Go.RowKit
open R (val row ref)
def enumV : Nat → List Value → List (Nat × Value)
  | _, [] => []
  | k, v :: vs => (k, v) :: enumV (k + 1) vs
theorem fill_run (size : Nat) : ∀ (vs : List Value) (k : Nat) (cells : Array Value), (∀ v ∈ vs, v.cells.size = size) → cells.size = (k + vs.length) * size →
    ∃ out : Array Value, Instr.fill (fun i => some (i * size, size)) cells (enumV k vs) = some out ∧ out.toList = cells.toList.take (k * size) ++ vs.flatMap (fun v => v.cells.toList)
  | [], k, cells, _, hs => ⟨cells, rfl, by simp only [List.length_nil, Nat.add_zero] at hs; rw [List.flatMap_nil, List.append_nil, List.take_of_length_le (by simp [hs])]⟩
  | v :: vs, k, cells, hv, hs => by
    have h1 := hv v (by simp)
    simp only [List.length_cons] at hs
    have hfit : k * size + size ≤ cells.size := by rw [hs, Nat.add_mul, Nat.add_mul, Nat.one_mul]; omega
    have hf := foldl_set (k * size) v.cells.toList 0 cells (by simp [h1]; omega)
    simp only [Nat.add_zero, Array.length_toList, h1] at hf
    have hsz : (v.cells.zipIdx.foldl (fun cs (x : Value × Nat) => cs.setIfInBounds (k * size + x.2) x.1) cells).toList = cells.toList.take (k * size) ++ v.cells.toList ++ cells.toList.drop (k * size + size) := by
      rw [← hf, ← Array.foldl_toList, Array.toList_zipIdx]
    have hlen : (v.cells.zipIdx.foldl (fun cs (x : Value × Nat) => cs.setIfInBounds (k * size + x.2) x.1) cells).size = cells.size := by
      rw [← Array.length_toList, hsz]
      simp [h1]
      omega
    obtain ⟨out, ho, hl⟩ := fill_run size vs (k + 1) _ (fun u hu => hv u (by simp [hu])) (hlen.trans (by rw [hs]; congr 1; omega))
    refine ⟨out, ?_, ?_⟩
    · simp only [enumV, Instr.fill, h1, ne_eq, not_true_eq_false, decide_false, Bool.false_or]
      rw [if_neg (by simp; omega)]
      exact ho
    · rw [hl, hsz]
      have hk : (k + 1) * size = (cells.toList.take (k * size) ++ v.cells.toList).length := by
        rw [List.length_append, List.length_take, Array.length_toList, Array.length_toList, h1, Nat.add_mul]; omega
      rw [hk, List.take_left]
      simp
def enumO : Nat → List Operand → List (Nat × Operand)
  | _, [] => []
  | k, x :: xs => (k, x) :: enumO (k + 1) xs
theorem enumO_map (ρ : Operand → Value) : ∀ (k : Nat) (xs : List Operand), (enumO k xs).map (fun (p : Nat × Operand) => (p.1, ρ p.2)) = enumV k (xs.map ρ)
  | _, [] => rfl
  | k, x :: xs => by simp [enumO, enumV, enumO_map ρ (k + 1) xs]
def partsO (l : List (Nat × D)) : List Operand → Option (Bool × List P0)
  | [] => some (true, [])
  | x :: xs => match evO l x with
    | some d => (match dP d with
      | some (m, e) => (match partsO l xs with
        | some (m', es) => some (m && m', e :: es)
        | none => none)
      | none => none)
    | none => none
theorem partsO_ok {l : List (Nat × D)} {ι : Nat → Nat × Nat} {base : Nat} {c : Cx} {e : Operand → Value} {sz : Nat} : ∀ {xs : List Operand} {m : Bool} {els : List P0}, partsO l xs = some (m, els) → AllN sz els → (∀ x ∈ xs, (evD (look l) x).p ι base c (e x)) →
    xs.length = els.length ∧ (∀ v ∈ xs.map e, v.cells.size = sz) ∧ ∀ (p : Nat) (r : R), (flat els)[p]? = some r → ∃ u, ((xs.map e).flatMap (fun v => v.cells.toList))[p]? = some u ∧ r.p (c.young base m) u
  | [], m, els, hp, _, _ => by
    simp only [partsO, Option.some.injEq, Prod.mk.injEq] at hp
    obtain ⟨rfl, rfl⟩ := hp
    exact ⟨rfl, fun v hv => by simp at hv, fun p r hr => by simp [flat] at hr⟩
  | x :: xs, m, els, hp, hn, hx => by
    simp only [partsO] at hp
    split at hp
    · rename_i d hd
      split at hp
      · rename_i m1 e1 he
        split at hp
        · rename_i m2 es hps
          simp only [Option.some.injEq, Prod.mk.injEq] at hp
          obtain ⟨rfl, rfl⟩ := hp
          have hv := hx x (by simp)
          rw [evO_spec hd] at hv
          obtain ⟨g1, g2⟩ := dP_ok he hv
          obtain ⟨i1, i2, i3⟩ := partsO_ok hps hn.tail.2 (fun y hy => hx y (by simp [hy]))
          have hsz := hn.tail.1
          refine ⟨by simp [i1], fun v hv => ?_, fun p r hr => ?_⟩
          · simp only [List.map_cons, List.mem_cons] at hv
            rcases hv with rfl | hv
            · rw [g1, hsz]
            · exact i2 v hv
          · simp only [flat, List.flatMap_cons] at hr
            simp only [List.map_cons, List.flatMap_cons]
            have hl1 : e1.rs.length = sz := hsz
            have hl2 : (e x).cells.toList.length = sz := by rw [Array.length_toList, g1, hsz]
            by_cases hps' : p < sz
            · rw [List.getElem?_append_left (by omega)] at hr
              rw [List.getElem?_append_left (by omega)]
              obtain ⟨u, hu, hq⟩ := g2 p r hr
              exact ⟨u, by simpa using hu, r.mono (young_le (fun e => by simp at e; exact e.1)) hq⟩
            · rw [List.getElem?_append_right (by omega), hl1] at hr
              rw [List.getElem?_append_right (by omega), hl2]
              obtain ⟨u, hu, hq⟩ := i3 _ r hr
              exact ⟨u, hu, r.mono (young_le (fun e => by simp at e; exact e.2)) hq⟩
        · cases hp
      · cases hp
    · cases hp
theorem build_run {P : Program} {T E sz by_ : Nat} {z : Value} (hE : El P T E sz by_ z) (w : World) (vs : List Value) (hv : ∀ v ∈ vs, v.cells.size = sz) (hb : vs.length * sz ≤ 16777216) :
    ∃ out : Array Value, (Instr.buildSlice T vs.length (enumV 0 vs).toArray).run P w = .ok (.slice (some ⟨w.heap.size, 0, none⟩) vs.length vs.length) (w.alloc (.cells out E)) ∧ out.toList = vs.flatMap (fun v => v.cells.toList) := by
  obtain ⟨i, hi, hz, hsz, hby⟩ := hE.info
  have hnb : ¬ (2 ^ 24 < vs.length * sz) := by omega
  unfold Instr.buildSlice
  by_cases h0 : vs.length * sz = 0
  · obtain ⟨out, ho, hl⟩ := fill_run sz vs 0 ((Array.range 0).map (fun x => (default : Value))) hv (by simp [h0])
    refine ⟨out, ?_, by simpa using hl⟩
    simp only [Sem.run_bind, run_underlying hE.sl, Result.andThen_ok, hE.size_ w, h0]
    simp [ho, newRow]
  · obtain ⟨out, ho, hl⟩ := fill_run sz vs 0 ((Array.range (vs.length * sz)).map (z.cells[· % z.cells.size]!)) hv (by simp)
    refine ⟨out, ?_, by simpa using hl⟩
    simp only [Sem.run_bind, run_underlying hE.sl, Result.andThen_ok, hE.size_ w]
    simp [hnb, h0, zeroValue, typeInfo, hi, hz, ho, newRow]
theorem flatV_len {sz : Nat} : ∀ {vs : List Value}, (∀ v ∈ vs, v.cells.size = sz) → (vs.flatMap (fun v => v.cells.toList)).length = vs.length * sz
  | [], _ => by simp
  | v :: vs, h => by
    have h1 := h v (by simp)
    have h2 := flatV_len (vs := vs) (fun u hu => h u (by simp [hu]))
    rw [List.flatMap_cons, List.length_append, h2, Array.length_toList, h1, List.length_cons, Nat.add_mul]
    omega
theorem eff_build {P : Program} {H : Nat → Option Ob} {o : Oper} {t sz by_ : Nat} {l : List (Nat × D)} {E : TypeId} {m : Bool} {els : List P0} (T : TypeId) (c : Nat) (ps : Array (Nat × Operand)) (xs : List Operand) (ho : o.op = .buildSlice T c ps) (hps : ps = (enumO 0 xs).toArray) (hc : c = xs.length) (hT : elOf P T = some (E, sz, by_)) (hp : partsO l xs = some (m, els)) (hn : AllN sz els) (hb : els.length * sz ≤ 16777216) :
    Eff P H (evD (look l)) o (.one (.own t 0 els.length sz)) [] [t] [(t, some (.sl E sz m els))] := by
  intro base a w ι own hown hbase hev hH _ K Q hK
  subst hps hc
  obtain ⟨z, hE⟩ := elOf_spec hT
  obtain ⟨i1, i2, i3⟩ := partsO_ok (l := l) (ι := ι) (base := base) (c := ⟨w, own⟩) (e := a.eval) hp hn (fun x hx => hev x (by
    rw [ho]
    simp only [Op.operands]
    have : ∀ (k : Nat) (xs : List Operand), x ∈ xs → ∃ i, (i, x) ∈ enumO k xs := by
      intro k xs
      induction xs generalizing k with
      | nil => intro h; simp at h
      | cons y ys ih =>
        intro h
        simp only [List.mem_cons] at h
        rcases h with h | h
        · exact ⟨k, by simp [enumO, h]⟩
        · obtain ⟨i, hi⟩ := ih (k + 1) h
          exact ⟨i, by simp [enumO, hi]⟩
    obtain ⟨i, hi⟩ := this 0 xs hx
    simp only [List.map_toArray, List.mem_toArray, List.mem_map]
    exact ⟨(i, x), hi, rfl⟩))
  obtain ⟨out, hr, hl⟩ := build_run (P := P) hE w (xs.map a.eval) i2 (by rw [List.length_map, i1]; exact hb)
  have hrun : (execOp a.eval o).run P w = .ok (.value (.slice (some ⟨w.heap.size, 0, none⟩) els.length els.length)) (w.alloc (.cells out E)) := by
    unfold execOp
    rw [ho]
    have : ((enumO 0 xs).toArray.map fun (x : Nat × Operand) => (x.1, a.eval x.2)) = (enumV 0 (xs.map a.eval)).toArray := by
      rw [List.map_toArray, enumO_map]
    simp only [this]
    rw [List.length_map, i1] at hr
    simp only [i1, Sem.run_bind, hr, Result.andThen_ok, Sem.run_pure]
  have hox : Cx.Ext ⟨w, own⟩ ⟨w.alloc (.cells out E), fun b => own b ∨ b = w.heap.size⟩ := ⟨(below_alloc w _).size, fun b hb' h => by
    rcases h with h | h
    · exact h
    · have : b < w.heap.size := hb'
      omega, fun b h1 _ => .inl ((below_alloc w _).block b h1)⟩
  have hosz : out.size = els.length * sz := by
    rw [← Array.length_toList, hl, flatV_len i2, List.length_map, i1]
  unfold Oper.wp
  rw [hrun, Oper.upon_value]
  refine hK _ _ _ _ (Chg.fresh (g := (w.heap.size, 0)) hown (below_alloc _ _) (Nat.le_refl _) (by rw [size_new]; omega) ?_ ?_)
  · refine ⟨out, heap_new _ _, by rw [hosz, Nat.zero_add]; exact Nat.le_refl _, of_flat (q := fun p r => ∃ u, out[0 + p]? = some u ∧ r.p (Cx.young ⟨w.alloc (.cells out E), fun b => own b ∨ b = w.heap.size⟩ base m) u) hn (fun p r hp => ?_)⟩
    obtain ⟨u, hu, hq⟩ := i3 p r hp
    refine ⟨u, ?_, r.mono (hox.young _ _) hq⟩
    rw [Nat.zero_add, ← Array.getElem?_toList, hl]
    exact hu
  · refine ⟨0, els.length, out, E, by rw [upd_same], .inl (by rw [upd_same, Nat.zero_mul]), Nat.le_refl _, ?_, by rw [upd_same]; exact heap_new _ _, by rw [upd_same, Nat.zero_add, Nat.zero_add, hosz]; exact Nat.le_refl _⟩
    have hp := hE.pos
    have : els.length * 1 ≤ els.length * sz := Nat.mul_le_mul_left _ hp
    simp only [maxLen]
    omega
theorem eff_append_nil {P : Program} {H : Nat → Option Ob} {ev : Operand → D} {o : Oper} {t sz sz' by_ : Nat} {E : TypeId} {m new2 : Bool} {els2 : List P0} {d : D} (T : TypeId) (x y : Operand) (ho : o.op = .call { callee := .builtin .append, args := #[x, y], argTypes := #[T, T] }) (hT : elOf P T = some (E, sz, by_))
    (hx : ev x = .one (.r m (row true sz' []))) (hy : ev y = d) (hs : SlD H d sz new2 els2) (h0 : 0 < els2.length) (h63 : els2.length ≤ maxLen) (hb : els2.length * by_ ≤ 140737488355328) :
    Eff P H ev o (.one (.own t 0 els2.length sz)) [] [t] [(t, some (.sl E sz new2 els2))] := by
  intro base a w ι own hown hbase hev hH _ K Q hK
  obtain ⟨z, hE⟩ := elOf_spec hT
  obtain ⟨inf, hi, hz, hsz, hby⟩ := hE.info
  have hx1 := hev x (by rw [ho]; simp [Op.operands, Call.operands])
  rw [hx] at hx1
  obtain ⟨ao, cap, e1, e2, e3, e4, e5⟩ := row_p.1 hx1
  have hao : ao = none := e3.1 rfl
  subst hao
  have hcap := e4 rfl
  subst hcap
  have hy1 := hev y (by rw [ho]; simp [Op.operands, Call.operands])
  rw [hy] at hy1
  obtain ⟨bo, c2, news, f1, f2, f3, f4, f5, f6⟩ := hs ι base w own _ hH hy1
  obtain ⟨b, o', rfl, hc⟩ := f3 h0
  have hr := run_append_nil (P := P) w T o.type E inf z hE.sl hi hz ⟨b, o', none⟩ els2.length c2 news (by rw [hsz]; exact f2) (fun j u hj => by rw [Addr.add_lit]; exact hc j u hj) h0 (by simp only [maxLen] at h63; omega) (by rw [hby]; omega)
  have hge := grownCap_ge w els2.length 0 E
  have hcm' : grownCap w els2.length 0 E ≤ maxLen := grownCap_le_maxLen w els2.length 0 E h63
  have hrun : (execOp a.eval o).run P w = .ok (.value (.slice (some ⟨w.heap.size, 0, none⟩) els2.length (grownCap w els2.length 0 E))) (w.drew.alloc (.cells (news.toArray ++ Builtin.zeroCells z.cells (grownCap w els2.length 0 E - els2.length)) E)) := by
    unfold execOp
    rw [ho]
    have e1' : a.eval x = .slice none 0 0 := e1
    simp only [resolve, invoke, builtin, Sem.run_bind, Sem.run_pure, Result.andThen_ok, List.map_toArray, List.map_cons, List.map_nil, e1', f1, hr]
  unfold Oper.wp
  rw [hrun, Oper.upon_value]
  have hbel : Below w.heap.size w (w.drew.alloc (.cells (news.toArray ++ Builtin.zeroCells z.cells (grownCap w els2.length 0 E - els2.length)) E)) := ((Below.refl _ w).drew).alloc (Nat.le_refl _) _
  have hox : Cx.Ext ⟨w, own⟩ ⟨w.drew.alloc (.cells (news.toArray ++ Builtin.zeroCells z.cells (grownCap w els2.length 0 E - els2.length)) E), fun b => own b ∨ b = w.heap.size⟩ := ⟨hbel.size, fun b hb' h => by
    rcases h with h | h
    · exact h
    · have : b < w.heap.size := hb'
      omega, fun b h1 _ => .inl (hbel.block b h1)⟩
  have hnew : (w.drew.alloc (.cells (news.toArray ++ Builtin.zeroCells z.cells (grownCap w els2.length 0 E - els2.length)) E)).heap[w.heap.size]? = some (.cells (news.toArray ++ Builtin.zeroCells z.cells (grownCap w els2.length 0 E - els2.length)) E (0, 0)) := heap_new w.drew _
  have hsize : (news.toArray ++ Builtin.zeroCells z.cells (grownCap w els2.length 0 E - els2.length)).size = grownCap w els2.length 0 E * sz := by
    simp only [Array.size_append, List.size_toArray, size_zeroCells, hE.cells, f2, ← Nat.add_mul]
    congr 1
    omega
  refine hK _ _ _ _ (Chg.fresh (g := (w.heap.size, 0)) hown hbel (Nat.le_refl _) (lt_of_heap hnew) ?_ ?_)
  · refine ⟨_, hnew, by rw [hsize, Nat.zero_add]; exact Nat.mul_le_mul_right _ hge, of_flat (q := fun p r => ∃ u, (news.toArray ++ Builtin.zeroCells z.cells (grownCap w els2.length 0 E - els2.length))[0 + p]? = some u ∧ r.p (Cx.young _ base new2) u) f5 (fun p r hp => ?_)⟩
    obtain ⟨u, hu, hq⟩ := f6 p r hp
    refine ⟨u, ?_, r.mono (hox.young _ _) hq⟩
    have hpl : p < news.length := by
      rcases Nat.lt_or_ge p news.length with h | h
      · exact h
      · rw [List.getElem?_eq_none h] at hu; cases hu
    rw [Nat.zero_add, Array.getElem?_append_left (by simpa using hpl)]
    simpa using hu
  · exact ⟨0, _, _, E, by rw [upd_same], .inl (by rw [upd_same, Nat.zero_mul]), hge, hcm', by rw [upd_same]; exact hnew, by rw [upd_same, Nat.zero_add, Nat.zero_add, hsize]; exact Nat.le_refl _⟩
def ren : List (Nat × Nat) → Nat → Nat
  | [], k => k
  | (b, a) :: r, k => bif Nat.beq k b then a else ren r k
def Cell.ren (ρ : List (Nat × Nat)) : Cell → Cell
  | .own k j n sz => .own (Abs.ren ρ k) j n sz
  | .ptr k i sz off => .ptr (Abs.ren ρ k) i sz off
  | .clo f ps => .clo f (ps.map fun p => (Abs.ren ρ p.1, p.2))
  | x => x
theorem ptrsV_ren {ρ : List (Nat × Nat)} {ι : Nat → Nat × Nat} : ∀ {ps : List (Nat × Nat)}, ptrsV ι (ps.map fun p => (Abs.ren ρ p.1, p.2)) = ptrsV (fun k => ι (Abs.ren ρ k)) ps
  | [] => rfl
  | p :: ps => by rw [List.map_cons, ptrsV, ptrsV, ptrsV_ren]
def D.ren (ρ : List (Nat × Nat)) : D → D
  | .one x => .one (x.ren ρ)
  | .agg xs => .agg (xs.map (Cell.ren ρ))
  | .tups xs => .tups (xs.map fun x => (x.1, x.2.map (Cell.ren ρ)))
  | d => d
def Ob.ren (ρ : List (Nat × Nat)) : Ob → Ob
  | .var E cs => .var E (cs.map (Cell.ren ρ))
  | ob => ob
theorem Cell.ren_p {ρ : List (Nat × Nat)} {ι : Nat → Nat × Nat} {base : Nat} {c : Cx} {v : Value} : ∀ {x : Cell}, (x.ren ρ).p ι base c v → x.p (fun k => ι (Abs.ren ρ k)) base c v
  | .r _ _, h => h
  | .own .., h => h
  | .ptr .., h => h
  | .any, h => h
  | .clo .., h => ⟨by rw [h.1, ptrsV_ren], h.2⟩
theorem D.ren_p {ρ : List (Nat × Nat)} {ι : Nat → Nat × Nat} {base : Nat} {c : Cx} {v : Value} : ∀ {d : D}, (d.ren ρ).p ι base c v → d.p (fun k => ι (Abs.ren ρ k)) base c v
  | .one x, h => Cell.ren_p h
  | .agg xs, ⟨vs, h1, h2, h3⟩ => ⟨vs, h1, by simpa using h2, fun j x hj => by
      obtain ⟨u, hu, hx⟩ := h3 j (x.ren ρ) (by simp [hj])
      exact ⟨u, hu, Cell.ren_p hx⟩⟩
  | .tup _ _, h => h
  | .tups xs, h => D.tups_unmap (Cell.ren ρ) (fun _ _ _ _ _ h1 => Cell.ren_p h1) h
  | .any, h => h
theorem Ob.ren_p {ρ : List (Nat × Nat)} {ι : Nat → Nat × Nat} {base : Nat} {b : Nat × Nat} {c : Cx} : ∀ {ob : Ob}, (ob.ren ρ).p ι base c b → ob.p (fun k => ι (Abs.ren ρ k)) base c b
  | .var E cs, ⟨arr, h1, h2, h3⟩ => ⟨arr, h1, by simpa using h2, fun j x hj => by
      obtain ⟨u, hu, hx⟩ := h3 j (x.ren ρ) (by simp [hj])
      exact ⟨u, hu, Cell.ren_p hx⟩⟩
  | .sl .., h => h
def SubR (ρ : List (Nat × Nat)) (e : Nat → D) : List (Nat × D) → Prop
  | [] => True
  | (t, d) :: l => e t = d.ren ρ ∧ SubR ρ e l
def SubHR (ρ : List (Nat × Nat)) (e : Nat → Option Ob) : List (Nat × Ob) → Prop
  | [] => True
  | (t, d) :: l => e (ren ρ t) = some (d.ren ρ) ∧ SubHR ρ e l
theorem SubR.get {ρ : List (Nat × Nat)} {e : Nat → D} : ∀ {l : List (Nat × D)}, SubR ρ e l → ∀ t, look l t = .any ∨ (look l t).ren ρ = e t
  | [], _, t => .inl rfl
  | (u, d) :: l, ⟨h1, h2⟩, t => by
    simp only [look, upd]
    split
    · rename_i h; subst h; exact .inr h1.symm
    · exact h2.get t
theorem SubHR.get {ρ : List (Nat × Nat)} {e : Nat → Option Ob} : ∀ {l : List (Nat × Ob)}, SubHR ρ e l → ∀ t ob, lookH l t = some ob → e (ren ρ t) = some (ob.ren ρ) ∧ t ∈ l.map (·.1)
  | [], _, t, ob, h => by cases h
  | (u, d) :: l, ⟨h1, h2⟩, t, ob, h => by
    simp only [lookH, upd] at h
    split at h
    · rename_i h'; subst h'; injection h with h; subst h; exact ⟨h1, by simp⟩
    · have := h2.get t ob h
      exact ⟨this.1, by simp only [List.map_cons, List.mem_cons]; exact .inr this.2⟩
def injB (ρ : List (Nat × Nat)) (ks : List Nat) : Bool := (ρ.all fun p => Nat.blt p.1 pinned) && ks.all fun a => ks.all fun b => !(Nat.beq (ren ρ a) (ren ρ b)) || Nat.beq a b
theorem ren_pin {k : Nat} (hk : pinned ≤ k) : ∀ {ρ : List (Nat × Nat)}, (ρ.all fun p => Nat.blt p.1 pinned) = true → ren ρ k = k
  | [], _ => rfl
  | (b, a) :: ρ, h => by
    simp only [List.all_cons, Bool.and_eq_true, Nat.blt_eq] at h
    have hb : Nat.beq k b = false := by
      cases hb : Nat.beq k b with
      | false => rfl
      | true => simp at hb; omega
    simp only [ren, hb, cond_false]
    exact ren_pin hk h.2
theorem weak_ren {n : Nat} {l l' : List (Nat × D)} {h h' : List (Nat × Ob)} (ρ : List (Nat × Nat)) (hi : injB ρ (h'.map (·.1)) = true) (he : SubR ρ (look l) l') (hh : SubHR ρ (lookH h) h') : Weak (mkS n l h) (mkS n l' h') := by
  rintro w0 a w ⟨ι, own, hs⟩
  unfold injB at hi
  rw [Bool.and_eq_true] at hi
  obtain ⟨hpn, hi⟩ := hi
  refine ⟨fun k => ι (ren ρ k), own, hs.below, hs.base_, hs.own_, hs.keep, hs.frm, hs.size, fun t => ?_, fun k ob hk => ?_, fun k ob hk => hs.place _ _ (hh.get k ob hk).1, fun k k' o o' hk hk' heq => ?_, hs.defers, fun k p hp => ⟨by rw [ren_pin (hs.pin k p hp).2 hpn]; exact (hs.pin k p hp).1, (hs.pin k p hp).2⟩⟩
  · rcases he.get t with h1 | h1
    · show (look l' t).p _ _ _ _
      rw [h1]; trivial
    · show (look l' t).p _ _ _ _
      refine D.ren_p ?_
      rw [h1]; exact hs.env t
  · obtain ⟨h1, _⟩ := hh.get k ob hk
    obtain ⟨g1, g2⟩ := hs.heap _ _ h1
    exact ⟨g1, Ob.ren_p g2⟩
  · obtain ⟨h1, m1⟩ := hh.get k o hk
    obtain ⟨h2, m2⟩ := hh.get k' o' hk'
    have := hs.inj _ _ _ _ h1 h2 heq
    simp only [List.all_eq_true, Bool.or_eq_true, Bool.not_eq_true', Nat.beq_eq] at hi
    rcases hi k m1 k' m2 with h | h
    · rw [this] at h; simp at h
    · exact h
theorem subR_cons {ρ : List (Nat × Nat)} {l r : List (Nat × D)} {t : Nat} {d d' : D} (h : lookO l t = some d') (hd : d' = d.ren ρ) (hr : SubR ρ (look l) r) : SubR ρ (look l) ((t, d) :: r) := ⟨by rw [lookO_spec h, hd], hr⟩
theorem subHR_cons {ρ : List (Nat × Nat)} {h r : List (Nat × Ob)} {t : Nat} {d d' : Ob} (he : lookHO h (ren ρ t) = some d') (hd : d' = d.ren ρ) (hr : SubHR ρ (lookH h) r) : SubHR ρ (lookH h) ((t, d) :: r) := ⟨by rw [lookHO_spec he, hd], hr⟩
theorem d_own {k j n n' sz : Nat} (h : n = n') : D.one (.own k j n sz) = .one (.own k j n' sz) := by rw [h]
theorem ob_sl {E : TypeId} {sz : Nat} {b b' : Bool} {els els' : List P0} (hb : b = b') (h : els = els') : Ob.sl E sz b els = .sl E sz b' els' := by rw [hb, h]
theorem run_sliceAt {P : Program} {t E sz : Nat} (hT : slOf P t = some (E, sz)) {w : World} {ao : Option Addr} {n cap a b : Nat} {lo hi : Option Value} (hlo : lo = some (.int .i64 (a : Int)) ∨ lo = none ∧ a = 0) (hhi : hi = some (.int .i64 (b : Int)) ∨ hi = none ∧ b = n) (hab : a ≤ b) (hb : b ≤ cap) :
    (Instr.sliceAt t (.slice ao n cap) lo hi none).run P w = .ok (.slice (if cap = a then ao else ao.map (·.add (a * sz))) (b - a) (cap - a)) w := by
  have hb1 : ∀ code, (Instr.sliceBound (.int .i64 (b : Int)) cap code).run P w = .ok b w := fun code => by
    unfold Instr.sliceBound
    simp only [Sem.run_bind, asIntOf, Sem.run_pure, Result.andThen_ok]
    rw [if_pos ⟨by omega, by omega⟩]
    simp
  have hb2 : ∀ code, (Instr.sliceBound (.int .i64 (a : Int)) b code).run P w = .ok a w := fun code => by
    unfold Instr.sliceBound
    simp only [Sem.run_bind, asIntOf, Sem.run_pure, Result.andThen_ok]
    rw [if_pos ⟨by omega, by omega⟩]
    simp
  have hbd : (Instr.sliceBounds true n cap lo hi none).run P w = .ok (a, b, cap) w := by
    unfold Instr.sliceBounds
    rcases hlo with rfl | ⟨rfl, rfl⟩ <;> rcases hhi with rfl | ⟨rfl, rfl⟩ <;> simp [hb1, hb2]
  unfold Instr.sliceAt Instr.slice
  simp only [Sem.run_bind, run_underlying (slOf_spec hT).1, Result.andThen_ok, hbd, (slOf_spec hT).2.2 w, Sem.run_pure]
def optI (ev : Operand → D) (x : Option Operand) (a : Nat) (z : Nat) : Prop := match x with
  | some x => ∃ m, ev x = .one (.r m (int (a : Int)))
  | none => a = z
theorem loc_slice_row {P : Program} {H : Nat → Option Ob} {ev : Operand → D} {o : Oper} {m nil : Bool} {sz : Nat} {els : List P0} {E : TypeId} {a b : Nat} (t : TypeId) (x : Operand) (lo hi : Option Operand) (hT : slOf P t = some (E, sz)) (ho : o.op = .slice t x lo hi none) (hx : ev x = .one (.r m (row nil sz els))) (hlo : optI ev lo a 0) (hhi : optI ev hi b els.length) (hab : a ≤ b) (hb : b ≤ els.length) : Loc P H ev o (.one (.r m (row nil sz ((els.drop a).take (b - a))))) :=
  loc_run fun base ac w ι own hw he hH => by
    have hx1 : (ev x).p ι base ⟨w, own⟩ (ac.eval x) := he x (by rw [ho]; simp [Op.operands])
    rw [hx] at hx1
    obtain ⟨ao, cap, e1, e2, e3, e4, e5⟩ := row_p.1 hx1
    have hx2 : ac.eval x = .slice ao els.length cap := e1
    have hlo' : lo.map ac.eval = some (.int .i64 (a : Int)) ∨ lo.map ac.eval = none ∧ a = 0 := by
      cases lo with
      | none => exact .inr ⟨rfl, hlo⟩
      | some y =>
        obtain ⟨m1, h1⟩ := hlo
        have h2 : (ev y).p ι base ⟨w, own⟩ (ac.eval y) := he y (by rw [ho]; simp [Op.operands])
        rw [h1] at h2
        exact .inl (by rw [Option.map_some, ((val_p (c := Cx.young ⟨w, own⟩ base m1)).1 h2).1])
    have hhi' : hi.map ac.eval = some (.int .i64 (b : Int)) ∨ hi.map ac.eval = none ∧ b = els.length := by
      cases hi with
      | none => exact .inr ⟨rfl, hhi⟩
      | some y =>
        obtain ⟨m1, h1⟩ := hhi
        have h2 : (ev y).p ι base ⟨w, own⟩ (ac.eval y) := he y (by rw [ho]; simp [Op.operands])
        rw [h1] at h2
        exact .inl (by rw [Option.map_some, ((val_p (c := Cx.young ⟨w, own⟩ base m1)).1 h2).1])
    have hr := run_sliceAt (P := P) hT (w := w) (ao := ao) (n := els.length) (cap := cap) hlo' hhi' hab (Nat.le_trans hb e2.1)
    have hlen : ((els.drop a).take (b - a)).length = b - a := by rw [List.length_take, List.length_drop]; omega
    refine ⟨_, ?_, row_p.2 ⟨if cap = a then ao else ao.map (·.add (a * sz)), cap - a, by rw [hlen], by rw [hlen]; omega, ?_, ?_, fun hpos => ?_⟩⟩
    · unfold execOp
      rw [ho]
      simp only [hx2, Option.map_none, Sem.run_bind, hr, Result.andThen_ok, Sem.run_pure]
    · rw [e3]
      split
      · rfl
      · simp
    · intro h0
      have : ao = none := by
        split at h0
        · exact h0
        · simpa using h0
      rw [e4 this, Nat.zero_sub]
    · rw [hlen] at hpos
      obtain ⟨bl, oo, q1, q2, q3, q4⟩ := e5 (by omega)
      rw [if_neg (by omega), q1]
      refine ⟨bl, oo + a * sz, by rw [Option.map_some, Addr.add_lit], q2, q3, fun i e hi' => ?_⟩
      rw [List.getElem?_take] at hi'
      split at hi'
      · rw [List.getElem?_drop] at hi'
        have := q4 (a + i) e hi'
        rw [Nat.add_mul, ← Nat.add_assoc] at this
        exact this
      · cases hi'
def AllEl (P : Program) : List (Nat × Nat × Nat × Nat) → Prop
  | [] => True
  | (t, e, s, b) :: r => elOf P t = some (e, s, b) ∧ AllEl P r
def AllZp (P : Program) : List (Nat × P0) → Prop
  | [] => True
  | (t, z) :: r => zpOf P t = some z ∧ AllZp P r
def elL : List (Nat × Nat × Nat × Nat) → Nat → Option (Nat × Nat × Nat)
  | [], _ => none
  | (t, e, s, b) :: r, u => bif Nat.beq u t then some (e, s, b) else elL r u
theorem elL_ok {P : Program} : ∀ {l : List (Nat × Nat × Nat × Nat)} {u : Nat} {x : Nat × Nat × Nat}, AllEl P l → elL l u = some x → elOf P u = some x
  | (t, e, s, b) :: r, u, x, ⟨h1, h2⟩, h => by
    simp only [elL] at h
    cases hb : Nat.beq u t with
    | true => rw [hb] at h; simp at hb; subst hb; rw [h1]; simpa using h
    | false => rw [hb] at h; exact elL_ok h2 h
def zpL : List (Nat × P0) → Nat → Option P0
  | [], _ => none
  | (t, z) :: r, u => bif Nat.beq u t then some z else zpL r u
theorem zpL_ok {P : Program} : ∀ {l : List (Nat × P0)} {u : Nat} {x : P0}, AllZp P l → zpL l u = some x → zpOf P u = some x
  | (t, z) :: r, u, x, ⟨h1, h2⟩, h => by
    simp only [zpL] at h
    cases hb : Nat.beq u t with
    | true => rw [hb] at h; simp at hb; subst hb; rw [h1]; simpa using h
    | false => rw [hb] at h; exact zpL_ok h2 h
structure TL where
  els : List (Nat × Nat × Nat × Nat)
  zps : List (Nat × P0)
structure TLOk (P : Program) (tl : TL) : Prop where
  el : AllEl P tl.els
  zp : AllZp P tl.zps
section
variable {P : Program} {tb : TB} {tl : TL} {o : Oper} {t k sz by_ : Nat} {l : List (Nat × D)} {h : List (Nat × Ob)} {E T : TypeId} {x y : Operand}
theorem e_make {H : Nat → Option Ob} {c : Nat} {zp : P0} {m1 m2 : Bool} {i j : Int} (hT : TLOk P tl) (ho : o.op = .makeSlice T x y) (hd : o.dst = some t) (he : elL tl.els T = some (E, sz, by_)) (hz : zpL tl.zps E = some zp) (hx : evO l x = some (.one (.r m1 (int i)))) (hy : evO l y = some (.one (.r m2 (int j)))) (hi : i = c) (hj : j = c) (hb : by_ * c ≤ 281474976710656) (h63 : c ≤ maxLen) :
    Eff P H (evD (look l)) o (.one (.own t 0 c sz)) [] [t] [(t, some (.sl E sz true (List.replicate c zp)))] := eff_make T x y ho (elL_ok hT.el he) (zpL_ok hT.zp hz) (evO_spec hx) (evO_spec hy) hi hj hb h63
theorem e_append {c : Nat} {new new2 : Bool} {els els2 : List P0} {d : D} (hT : TLOk P tl) (ho : o.op = .call { callee := .builtin .append, args := #[x, y], argTypes := #[T, T] }) (hd : o.dst = some t) (he : elL tl.els T = some (E, sz, by_))
    (hx : evO l x = some (.one (.own k 0 c sz))) (hk : lookHO h k = some (.sl E sz new els)) (hy : evO l y = some d) (hs : SlD (lookH h) d sz new2 els2) (hc : c = els.length) (h63 : els.length + els2.length ≤ maxLen) (hb : (els.length + els2.length) * by_ ≤ 140737488355328) :
    Eff P (lookH h) (evD (look l)) o (.one (.own t 0 (els.length + els2.length) sz)) [k] [t] [(t, some (.sl E sz (new && new2) (els ++ els2))), (k, none)] := by
  subst hc
  exact eff_append T x y ho (elL_ok hT.el he) (evO_spec hx) (lookHO_spec hk) (Nat.zero_add _) (evO_spec hy) hs h63 hb
theorem e_append_nil {H : Nat → Option Ob} {sz' : Nat} {m new2 : Bool} {els2 : List P0} {d : D} (hT : TLOk P tl) (ho : o.op = .call { callee := .builtin .append, args := #[x, y], argTypes := #[T, T] }) (hd : o.dst = some t) (he : elL tl.els T = some (E, sz, by_))
    (hx : evO l x = some (.one (.r m (row true sz' [])))) (hy : evO l y = some d) (hs : SlD H d sz new2 els2) (h0 : 0 < els2.length) (h63 : els2.length ≤ maxLen) (hb : els2.length * by_ ≤ 140737488355328) :
    Eff P H (evD (look l)) o (.one (.own t 0 els2.length sz)) [] [t] [(t, some (.sl E sz new2 els2))] := eff_append_nil T x y ho (elL_ok hT.el he) (evO_spec hx) (evO_spec hy) hs h0 h63 hb
theorem e_build {H : Nat → Option Ob} {m : Bool} {els : List P0} {c : Nat} {ps : Array (Nat × Operand)} (xs : List Operand) (hT : TLOk P tl) (ho : o.op = .buildSlice T c ps) (hps : ps = (enumO 0 xs).toArray) (hc : c = xs.length) (hd : o.dst = some t) (he : elL tl.els T = some (E, sz, by_)) (hp : partsO l xs = some (m, els)) (hn : AllN sz els) (hb : els.length * sz ≤ 16777216) :
    Eff P H (evD (look l)) o (.one (.own t 0 els.length sz)) [] [t] [(t, some (.sl E sz m els))] := eff_build T c ps xs ho hps hc (elL_ok hT.el he) hp hn hb
theorem e_storeS {i : Nat} {ag : Bool} {d : D} {new m : Bool} {els : List P0} {e : P0} (hT : TbOk P tb) (ho : o.op = .store T x y) (hd : o.dst = none) (hx : evO l x = some (.one (.ptr k i sz 0))) (hk : lookHO h k = some (.sl E sz new els)) (hty : tyL tb.tys T = some (ag, sz)) (hy : evO l y = some d) (he : dP d = some (m, e)) (hen : e.n = sz) (hi : i < els.length) :
    Eff P (lookH h) (evD (look l)) o .any [k] [] [(k, some (.sl E sz (new && m) (els.set i e)))] := eff_storeS T x y ho hd (evO_spec hx) (lookHO_spec hk) (tyL_ok hT.ty hty) hi (evO_spec hy) he hen
theorem k_loadS {i off m : Nat} {ag : Bool} {new : Bool} {els : List P0} {e y : P0} (hT : TbOk P tb) (ho : o.op = .load T x) (hx : evO l x = some (.one (.ptr k i sz off))) (hk : lookHO h k = some (.sl E sz new els)) (hty : tyL tb.tys T = some (ag, m)) (he : els[i]? = some e) (hy : y = mk ag ((e.rs.drop off).take m)) (hm : off + m ≤ e.rs.length) (h1 : ag = true ∨ m = 1) : Loc P (lookH h) (evD (look l)) o (y.d new) := loc_loadS T x ho (evO_spec hx) (lookHO_spec hk) he (tyL_ok hT.ty hty) hy hm h1
theorem k_slice {H : Nat → Option Ob} {lo hi : Option Operand} {a b : Nat} {m nil : Bool} {els : List P0} (hT : TbOk P tb) (ho : o.op = .slice T x lo hi none) (hx : evO l x = some (.one (.r m (row nil sz els)))) (hs : slL tb.sls T = some (E, sz)) (hlo : optI (evD (look l)) lo a 0) (hhi : optI (evD (look l)) hi b els.length) (hab : a ≤ b) (hb : b ≤ els.length) : Loc P H (evD (look l)) o (.one (.r m (row nil sz ((els.drop a).take (b - a))))) := loc_slice_row T x lo hi (slL_ok hT.sl hs) ho (evO_spec hx) hlo hhi hab hb
theorem k_eqB {H : Nat → Option Ob} {m m' p q : Bool} {t' : TypeId} (hT : P.underlying T = some .bool) (ho : o.op = .binOp .eql T x y t') (hx : evO l x = some (.one (.r m (bool p)))) (hy : evO l y = some (.one (.r m' (bool q)))) : Loc P H (evD (look l)) o (.one (.r true (bool (p == q)))) := loc_eqB T t' x y hT ho (evO_spec hx) (evO_spec hy)
end
theorem prn : (∀ (p : Prop) [Decidable p], (decide p = true) = p) ∧ (∀ (p : Prop) [Decidable p], (decide p = false) = ¬ p) ∧ (∀ b : Bool, ((!b) = true) = (b = false)) ∧ (∀ b : Bool, ((!b) = false) = (b = true)) ∧ (∀ a b : Int, ((a == b) = true) = (a = b)) ∧ (∀ a b : Int, ((a != b) = true) = ¬ (a = b)) ∧ (∀ a b : Int, ((a == b) = false) = ¬ (a = b)) ∧ (∀ a b : Int, ((a != b) = false) = (a = b)) ∧ (∀ a b : Int, (¬ a < b) = (b ≤ a)) ∧ (∀ a b : Int, (¬ a ≤ b) = (b < a)) ∧ (∀ b : Bool, (¬ b = true) = (b = false)) ∧ (∀ b : Bool, (¬ b = false) = (b = true)) := by
  refine ⟨?_, ?_, ?_, ?_, ?_, ?_, ?_, ?_, ?_, ?_, ?_, ?_⟩ <;> intros <;> simp
end Go.Proofs.YtlobefglhppbdaaGreatDoor.Abs
