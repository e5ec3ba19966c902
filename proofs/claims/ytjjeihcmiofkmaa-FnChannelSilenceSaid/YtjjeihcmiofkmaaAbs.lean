/- Reading a frame and memory as plain data: slots, variables and rows of the call's own; a call as a function on data. No statement of the seat is proved here. -/
import Derived.WalkKit
import Derived.WalkSpells
import Derived.Lib.Hide
import Derived.Handy
import Derived.Orders
import Derived.Deep.Quiet
import Derived.Test.YtjjeihcmiofkmaaLib
import Derived.Test.YtjjeihcmiofkmaaOwn
set_option linter.unusedSimpArgs false
set_option linter.unusedVariables false
namespace Go.Proofs.Ytjjeihcmiofkmaa.Abs
open Go.RowKit

/-- Where values are read: a world, and the blocks that may still be written. -/
structure Cx where
  w : World
  own : Nat → Prop

structure Cx.Ext (c c' : Cx) : Prop where
  size : c.w.heap.size ≤ c'.w.heap.size
  own : ∀ b, b < c.w.heap.size → c'.own b → c.own b
  block : ∀ b, b < c.w.heap.size → ¬ c.own b → c'.w.heap[b]? = c.w.heap[b]?

theorem Cx.Ext.refl (c : Cx) : c.Ext c := ⟨Nat.le_refl _, fun _ _ h => h, fun _ _ _ => rfl⟩
theorem Cx.Ext.sub {c c' : Cx} (hw : c'.w = c.w) (ho : ∀ b, c'.own b → c.own b) : c.Ext c' := ⟨by rw [hw]; exact Nat.le_refl _, fun b _ h => ho b h, fun b _ _ => by rw [hw]⟩

mutual
/-- What one cell reads as, for good: a value of no address; a slice that nobody writes any more; a pointer to a variable that nobody writes any more. -/
inductive R where
  | val (u : Value)
  | row (nil : Bool) (sz : Nat) (els : List P0)
  | ref (x : P0)
/-- A plain datum: one cell, or the cells of a struct. -/
inductive P0 where
  | one (r : R)
  | agg (rs : List R)
end
open R (val row ref)
def P0.rs : P0 → List R
  | .one r => [r]
  | .agg rs => rs
def P0.n (x : P0) : Nat := x.rs.length
abbrev int (n : Int) : R := .val (.int .i64 n)
abbrev bool (b : Bool) : R := .val (.bool b)

mutual
def R.p' (c : Cx) (v : Value) : R → Prop
  | .val u => v = u ∧ u.oneCell' = true
  | .row nil sz els => ∃ ao cap, v = .slice ao els.length cap ∧ (els.length ≤ cap ∧ cap ≤ maxLen) ∧ (nil = true ↔ ao = none) ∧ (ao = none → cap = 0) ∧ (0 < els.length → ∃ b o, ao = some ⟨b, o, none⟩ ∧ b < c.w.heap.size ∧ ¬ c.own b ∧ Rows c b sz o els)
  | .ref x => ∃ b o, v = .pointer (some ⟨b, o, none⟩) ∧ b < c.w.heap.size ∧ ¬ c.own b ∧ P0.at c b o x
def P0.at (c : Cx) (b o : Nat) : P0 → Prop
  | .one r => ∃ u, c.w.cell? ⟨b, o, none⟩ = some u ∧ R.p' c u r
  | .agg rs => Rs c b o rs
def Rs (c : Cx) (b o : Nat) : List R → Prop
  | [] => True
  | r :: rs => (∃ u, c.w.cell? ⟨b, o, none⟩ = some u ∧ R.p' c u r) ∧ Rs c b (o + 1) rs
def Rows (c : Cx) (b sz o : Nat) : List P0 → Prop
  | [] => True
  | e :: es => e.rs.length = sz ∧ P0.at c b o e ∧ Rows c b sz (o + sz) es
end
def R.p (r : R) (c : Cx) (v : Value) : Prop := R.p' c v r

theorem cell_ext {c c' : Cx} (h : c.Ext c') {b o : Nat} (hb : b < c.w.heap.size) (ho : ¬ c.own b) : c'.w.cell? ⟨b, o, none⟩ = c.w.cell? ⟨b, o, none⟩ := World.cell?_of_block (a := ⟨b, o, none⟩) (h.block b hb ho)
mutual
theorem R.mono' {c c' : Cx} (h : c.Ext c') : ∀ (r : R) (v : Value), R.p' c v r → R.p' c' v r
  | .val u, v, hp => by simpa only [R.p'] using hp
  | .row nil sz els, v, hp => by
    simp only [R.p'] at hp ⊢
    obtain ⟨ao, cap, h1, h2, h3, h4, h5⟩ := hp
    refine ⟨ao, cap, h1, h2, h3, h4, fun hn => ?_⟩
    obtain ⟨b, o, e1, e2, e3, e5⟩ := h5 hn
    exact ⟨b, o, e1, Nat.lt_of_lt_of_le e2 h.size, fun hw => e3 (h.own b e2 hw), Rows.mono' h b sz e2 e3 els o e5⟩
  | .ref x, v, hp => by
    simp only [R.p'] at hp ⊢
    obtain ⟨b, o, h1, h2, h3, h4⟩ := hp
    exact ⟨b, o, h1, Nat.lt_of_lt_of_le h2 h.size, fun hw => h3 (h.own b h2 hw), P0.at_mono' h b h2 h3 x o h4⟩
theorem P0.at_mono' {c c' : Cx} (h : c.Ext c') (b : Nat) (hb : b < c.w.heap.size) (ho : ¬ c.own b) : ∀ (x : P0) (o : Nat), P0.at c b o x → P0.at c' b o x
  | .one r, o, hp => by
    simp only [P0.at] at hp ⊢
    obtain ⟨u, h1, h2⟩ := hp
    exact ⟨u, by rw [cell_ext h hb ho]; exact h1, R.mono' h r u h2⟩
  | .agg rs, o, hp => by
    simp only [P0.at] at hp ⊢
    exact Rs.mono' h b hb ho rs o hp
theorem Rs.mono' {c c' : Cx} (h : c.Ext c') (b : Nat) (hb : b < c.w.heap.size) (ho : ¬ c.own b) : ∀ (rs : List R) (o : Nat), Rs c b o rs → Rs c' b o rs
  | [], o, hp => by simp only [Rs]
  | r :: rs, o, hp => by
    simp only [Rs] at hp ⊢
    obtain ⟨⟨u, h1, h2⟩, h3⟩ := hp
    exact ⟨⟨u, by rw [cell_ext h hb ho]; exact h1, R.mono' h r u h2⟩, Rs.mono' h b hb ho rs (o + 1) h3⟩
theorem Rows.mono' {c c' : Cx} (h : c.Ext c') (b sz : Nat) (hb : b < c.w.heap.size) (ho : ¬ c.own b) : ∀ (es : List P0) (o : Nat), Rows c b sz o es → Rows c' b sz o es
  | [], o, hp => by simp only [Rows]
  | e :: es, o, hp => by
    simp only [Rows] at hp ⊢
    exact ⟨hp.1, P0.at_mono' h b hb ho e o hp.2.1, Rows.mono' h b sz hb ho es (o + sz) hp.2.2⟩
end
theorem R.mono (r : R) {c c' : Cx} {v : Value} (h : c.Ext c') (hp : r.p c v) : r.p c' v := R.mono' h r v hp
theorem R.one (r : R) {c : Cx} {v : Value} (hp : r.p c v) : v.oneCell' = true := by
  unfold R.p at hp
  cases r <;> simp only [R.p'] at hp
  · exact hp.1 ▸ hp.2
  · obtain ⟨ao, cap, h1, _⟩ := hp; subst h1; rfl
  · obtain ⟨b, o, h1, _⟩ := hp; subst h1; rfl

def CellsAt (c : Cx) (b o : Nat) (rs : List R) : Prop := ∀ (j : Nat) (r : R), rs[j]? = some r → ∃ u, c.w.cell? ⟨b, o + j, none⟩ = some u ∧ r.p c u
theorem Rs_iff {c : Cx} {b : Nat} : ∀ {rs : List R} {o : Nat}, Rs c b o rs ↔ CellsAt c b o rs
  | [], o => by
    simp only [Rs, true_iff]
    intro j r hj; simp at hj
  | r :: rs, o => by
    simp only [Rs]
    rw [Rs_iff]
    constructor
    · rintro ⟨h1, h2⟩ j x hj
      cases j with
      | zero => simp at hj; subst hj; exact h1
      | succ j => have := h2 j x (by simpa using hj); rwa [show o + 1 + j = o + (j + 1) by omega] at this
    · intro h
      refine ⟨h 0 r rfl, fun j x hj => ?_⟩
      have := h (j + 1) x (by simpa using hj)
      rwa [show o + (j + 1) = o + 1 + j by omega] at this
theorem P0.at_iff {c : Cx} {b o : Nat} : ∀ {x : P0}, P0.at c b o x ↔ CellsAt c b o x.rs
  | .one r => by
    simp only [P0.at, P0.rs]
    constructor
    · intro h j x hj
      cases j with
      | zero => simp at hj; subst hj; exact h
      | succ j => simp at hj
    · intro h; exact h 0 r rfl
  | .agg rs => by simp only [P0.at, P0.rs]; exact Rs_iff
theorem Rows_iff {c : Cx} {b sz : Nat} : ∀ {els : List P0} {o : Nat}, Rows c b sz o els ↔ ∀ (i : Nat) (e : P0), els[i]? = some e → e.n = sz ∧ CellsAt c b (o + i * sz) e.rs
  | [], o => by
    simp only [Rows, true_iff]
    intro i e hi; simp at hi
  | e :: es, o => by
    simp only [Rows]
    rw [Rows_iff, P0.at_iff]
    constructor
    · rintro ⟨h1, h2, h3⟩ i x hi
      cases i with
      | zero => simp at hi; subst hi; exact ⟨h1, by simpa using h2⟩
      | succ i => have := h3 i x (by simpa using hi); rwa [show o + sz + i * sz = o + (i + 1) * sz by rw [Nat.add_mul]; omega] at this
    · intro h
      refine ⟨(h 0 e rfl).1, by simpa using (h 0 e rfl).2, fun i x hi => ?_⟩
      have := h (i + 1) x (by simpa using hi)
      rwa [show o + (i + 1) * sz = o + sz + i * sz by rw [Nat.add_mul]; omega] at this
theorem row_p {c : Cx} {v : Value} {nil : Bool} {sz : Nat} {els : List P0} : (row nil sz els).p c v ↔ ∃ ao cap, v = .slice ao els.length cap ∧ (els.length ≤ cap ∧ cap ≤ maxLen) ∧ (nil = true ↔ ao = none) ∧ (ao = none → cap = 0) ∧ (0 < els.length → ∃ b o, ao = some ⟨b, o, none⟩ ∧ b < c.w.heap.size ∧ ¬ c.own b ∧ ∀ (i : Nat) (e : P0), els[i]? = some e → e.n = sz ∧ CellsAt c b (o + i * sz) e.rs) := by
  unfold R.p
  simp only [R.p', Rows_iff]
theorem ref_p {c : Cx} {v : Value} {x : P0} : (ref x).p c v ↔ ∃ b o, v = .pointer (some ⟨b, o, none⟩) ∧ b < c.w.heap.size ∧ ¬ c.own b ∧ CellsAt c b o x.rs := by
  unfold R.p
  simp only [R.p', P0.at_iff]
theorem val_p {c : Cx} {v u : Value} : (val u).p c v ↔ v = u ∧ u.oneCell' = true := by
  unfold R.p
  simp only [R.p']

/-- One cell of a slot or of a variable of the call's own. 'r true x': x, and all its memory is younger than the call. -/
inductive Cell where
  | r (new : Bool) (x : R)
  | own (k j n sz : Nat)
  | ptr (k i sz off : Nat)
  | any

/-- The context in which new data are read: what was there before the call counts as written. -/
def Cx.young (c : Cx) (base : Nat) : Bool → Cx
  | true => ⟨c.w, fun b => c.own b ∨ b < base⟩
  | false => c

theorem Cx.young_w (c : Cx) (base : Nat) (n : Bool) : (c.young base n).w = c.w := by cases n <;> rfl
theorem Cx.Ext.young {c c' : Cx} (h : c.Ext c') (base : Nat) : ∀ n, (c.young base n).Ext (c'.young base n)
  | true => ⟨h.size, fun b hb ho => ho.imp (h.own b hb) id, fun b hb ho => h.block b hb (fun hw => ho (.inl hw))⟩
  | false => h
theorem Cx.young_out (c : Cx) (base : Nat) (n : Bool) : (c.young base n).Ext c := .sub (c.young_w base n).symm (fun b hb => by cases n <;> first | exact hb | exact .inl hb)

def Cell.p (ι : Nat → Nat × Nat) (base : Nat) (c : Cx) (v : Value) : Cell → Prop
  | .r n x => x.p (c.young base n) v
  | .own k j n sz => ∃ o cap arr E, v = .slice (some ⟨(ι k).1, o, none⟩) n cap ∧ (o = (ι k).2 + j * sz ∨ cap = 0) ∧ n ≤ cap ∧ cap ≤ maxLen ∧ c.w.heap[(ι k).1]? = some (.cells arr E (0, 0)) ∧ (ι k).2 + (j + cap) * sz ≤ arr.size
  | .ptr k i sz off => v = .pointer (some ⟨(ι k).1, (ι k).2 + (i * sz + off), none⟩)
  | .any => v.oneCell' = true

theorem Cell.one {ι : Nat → Nat × Nat} {base : Nat} {c : Cx} {v : Value} : ∀ {x : Cell}, x.p ι base c v → v.oneCell' = true
  | .r n x, h => x.one h
  | .own .., ⟨_, _, _, _, h, _⟩ => by subst h; rfl
  | .ptr .., h => by cases h; rfl
  | .any, h => h

/-- What a slot holds. -/
inductive D where
  | one (x : Cell)
  | agg (xs : List Cell)
  | tup (n : Bool) (xs : List P0)
  | any
  | tups (xs : List (Bool × List Cell))

def P0.p (c : Cx) (v : Value) : P0 → Prop
  | .one r => r.p c v
  | .agg rs => ∃ vs : List Value, v = .agg vs.toArray ∧ vs.length = rs.length ∧ ∀ (j : Nat) (r : R), rs[j]? = some r → ∃ u, vs[j]? = some u ∧ r.p c u

theorem P0.mono {c c' : Cx} {v : Value} (h : c.Ext c') : ∀ {x : P0}, x.p c v → x.p c' v
  | .one r, hx => r.mono h hx
  | .agg rs, ⟨us, e1, e2, e3⟩ => ⟨us, e1, e2, fun i r hi => let ⟨z, hz, hr⟩ := e3 i r hi; ⟨z, hz, r.mono h hr⟩⟩

/-- A part of several results: one cell or an aggregate. -/
def Co.p (ι : Nat → Nat × Nat) (base : Nat) (c : Cx) (v : Value) : Bool × List Cell → Prop
  | (true, xs) => ∃ vs : List Value, v = .agg vs.toArray ∧ vs.length = xs.length ∧ ∀ (j : Nat) (x : Cell), xs[j]? = some x → ∃ u, vs[j]? = some u ∧ x.p ι base c u
  | (false, [x]) => x.p ι base c v
  | (false, _) => True
def D.p (ι : Nat → Nat × Nat) (base : Nat) (c : Cx) (v : Value) : D → Prop
  | .one x => x.p ι base c v
  | .agg xs => ∃ vs : List Value, v = .agg vs.toArray ∧ vs.length = xs.length ∧ ∀ (j : Nat) (x : Cell), xs[j]? = some x → ∃ u, vs[j]? = some u ∧ x.p ι base c u
  | .tup n xs => ∃ vs : List Value, v = .tuple vs.toArray ∧ vs.length = xs.length ∧ ∀ (j : Nat) (x : P0), xs[j]? = some x → ∃ u, vs[j]? = some u ∧ x.p (c.young base n) u
  | .any => True
  | .tups xs => ∃ vs : List Value, v = .tuple vs.toArray ∧ vs.length = xs.length ∧ ∀ (j : Nat) (x : Bool × List Cell), xs[j]? = some x → ∃ u, vs[j]? = some u ∧ Co.p ι base c u x
theorem Co.map {ι ι' : Nat → Nat × Nat} {base base' : Nat} {c c' : Cx} {v : Value} (g : Cell → Cell) : ∀ {x : Bool × List Cell}, (∀ y ∈ x.2, ∀ u, y.p ι base c u → (g y).p ι' base' c' u) → Co.p ι base c v x → Co.p ι' base' c' v (x.1, x.2.map g)
  | (true, xs), h, ⟨vs, h1, h2, h3⟩ => ⟨vs, h1, by simpa using h2, fun j x hj => by
      simp only [List.getElem?_map, Option.map_eq_some_iff] at hj
      obtain ⟨y, hy, rfl⟩ := hj
      obtain ⟨u, hu, hx⟩ := h3 j y hy
      exact ⟨u, hu, h y (List.mem_of_getElem? hy) u hx⟩⟩
  | (false, [x]), h, hx => h x (by simp) v hx
  | (false, []), _, _ => trivial
  | (false, _ :: _ :: _), _, _ => trivial
theorem D.tups_map {ι ι' : Nat → Nat × Nat} {base base' : Nat} {c c' : Cx} {v : Value} (g : Cell → Cell) {xs : List (Bool × List Cell)} (h : ∀ x ∈ xs, ∀ y ∈ x.2, ∀ u, y.p ι base c u → (g y).p ι' base' c' u) : D.p ι base c v (.tups xs) → D.p ι' base' c' v (.tups (xs.map fun x => (x.1, x.2.map g)))
  | ⟨vs, h1, h2, h3⟩ => ⟨vs, h1, by simpa using h2, fun j x hj => by
      simp only [List.getElem?_map, Option.map_eq_some_iff] at hj
      obtain ⟨y, hy, rfl⟩ := hj
      obtain ⟨u, hu, hx⟩ := h3 j y hy
      exact ⟨u, hu, Co.map g (h y (List.mem_of_getElem? hy)) hx⟩⟩
theorem Co.unmap {ι ι' : Nat → Nat × Nat} {base base' : Nat} {c c' : Cx} {v : Value} (g : Cell → Cell) : ∀ {x : Bool × List Cell}, (∀ y ∈ x.2, ∀ u, (g y).p ι base c u → y.p ι' base' c' u) → Co.p ι base c v (x.1, x.2.map g) → Co.p ι' base' c' v x
  | (true, xs), h, ⟨vs, h1, h2, h3⟩ => ⟨vs, h1, by simpa using h2, fun j y hj => by
      obtain ⟨u, hu, hx⟩ := h3 j (g y) (by simp [hj])
      exact ⟨u, hu, h y (List.mem_of_getElem? hj) u hx⟩⟩
  | (false, [x]), h, hx => h x (by simp) v hx
  | (false, []), _, _ => trivial
  | (false, _ :: _ :: _), _, _ => trivial
theorem D.tups_unmap {ι ι' : Nat → Nat × Nat} {base base' : Nat} {c c' : Cx} {v : Value} (g : Cell → Cell) {xs : List (Bool × List Cell)} (h : ∀ x ∈ xs, ∀ y ∈ x.2, ∀ u, (g y).p ι base c u → y.p ι' base' c' u) : D.p ι base c v (.tups (xs.map fun x => (x.1, x.2.map g))) → D.p ι' base' c' v (.tups xs)
  | ⟨vs, h1, h2, h3⟩ => ⟨vs, h1, by simpa using h2, fun j y hj => by
      obtain ⟨u, hu, hx⟩ := h3 j (y.1, y.2.map g) (by simp [hj])
      exact ⟨u, hu, Co.unmap g (h y (List.mem_of_getElem? hj)) hx⟩⟩
theorem D.tups_imp {ι ι' : Nat → Nat × Nat} {base base' : Nat} {c c' : Cx} {v : Value} {xs : List (Bool × List Cell)} (h : ∀ x ∈ xs, ∀ y ∈ x.2, ∀ u, y.p ι base c u → y.p ι' base' c' u) (hp : D.p ι base c v (.tups xs)) : D.p ι' base' c' v (.tups xs) := by
  have := D.tups_map (fun y => y) h hp
  simpa using this

def P0.d (n : Bool) : P0 → D
  | .one r => .one (.r n r)
  | .agg rs => .agg (rs.map (.r n))

theorem P0.d_p {ι : Nat → Nat × Nat} {base : Nat} {c : Cx} {v : Value} {n : Bool} : ∀ {x : P0}, (x.d n).p ι base c v ↔ x.p (c.young base n) v
  | .one r => by simp only [P0.d, D.p, P0.p, Cell.p]
  | .agg rs => by
    simp only [P0.d, D.p, P0.p, List.length_map]
    refine exists_congr fun vs => and_congr_right fun _ => and_congr_right fun _ => ?_
    constructor
    · intro h j r hj
      exact h j (.r n r) (by simp [hj])
    · intro h j x hj
      simp only [List.getElem?_map, Option.map_eq_some_iff] at hj
      obtain ⟨r, hr, rfl⟩ := hj
      exact h j r hr

/-- A variable of the call's own, or a row of plain elements. -/
inductive Ob where
  | var (E : TypeId) (cells : List Cell)
  | sl (E : TypeId) (sz : Nat) (new : Bool) (els : List P0)

def Ob.p (ι : Nat → Nat × Nat) (base : Nat) (c : Cx) (b : Nat × Nat) : Ob → Prop
  | .var E cells => ∃ arr, c.w.heap[b.1]? = some (.cells arr E (0, 0)) ∧ b.2 + cells.length ≤ arr.size ∧ ∀ (j : Nat) (x : Cell), cells[j]? = some x → ∃ u, arr[b.2 + j]? = some u ∧ x.p ι base c u
  | .sl E sz n els => ∃ arr, c.w.heap[b.1]? = some (.cells arr E (0, 0)) ∧ b.2 + els.length * sz ≤ arr.size ∧ ∀ (i : Nat) (e : P0), els[i]? = some e → e.n = sz ∧ ∀ (j : Nat) (r : R), e.rs[j]? = some r → ∃ u, arr[b.2 + (i * sz + j)]? = some u ∧ r.p (c.young base n) u

/-- The blocks of cells keep their sizes. -/
def Sized (w w' : World) : Prop := ∀ (b : Nat) (arr : Array Value) (E : TypeId), w.heap[b]? = some (.cells arr E (0, 0)) → ∃ arr' : Array Value, w'.heap[b]? = some (.cells arr' E (0, 0)) ∧ arr'.size = arr.size

theorem lt_of_heap {w : World} {b : Nat} {o : Obj} (h : w.heap[b]? = some o) : b < w.heap.size := by
  rcases Nat.lt_or_ge b w.heap.size with h' | h'
  · exact h'
  · simp [Array.getElem?_eq_none h'] at h
theorem Sized.of_below {w w' : World} (h : Below w.heap.size w w') : Sized w w' := fun b arr E hb => ⟨arr, by rw [h.block b (lt_of_heap hb)]; exact hb, rfl⟩

theorem Cell.mono {ι : Nat → Nat × Nat} {base : Nat} {c c' : Cx} {v : Value} (h : c.Ext c') (hb : Sized c.w c'.w) : ∀ {x : Cell}, x.p ι base c v → x.p ι base c' v
  | .r n x, hx => x.mono (h.young base n) hx
  | .own .., ⟨o, cap, arr, E, h1, h0, h2, h3, h4, h5⟩ => by
    obtain ⟨arr', g1, g2⟩ := hb _ _ _ h4
    exact ⟨o, cap, arr', E, h1, h0, h2, h3, g1, by rw [g2]; exact h5⟩
  | .ptr .., hx => hx
  | .any, hx => hx
theorem D.mono {ι : Nat → Nat × Nat} {base : Nat} {c c' : Cx} {v : Value} (h : c.Ext c') (hb : Sized c.w c'.w) : ∀ {d : D}, d.p ι base c v → d.p ι base c' v
  | .one x, hx => Cell.mono h hb hx
  | .agg xs, ⟨vs, h1, h2, h3⟩ => ⟨vs, h1, h2, fun j x hj => let ⟨u, hu, hx⟩ := h3 j x hj; ⟨u, hu, Cell.mono h hb hx⟩⟩
  | .tup n xs, ⟨vs, h1, h2, h3⟩ => ⟨vs, h1, h2, fun j x hj => let ⟨u, hu, hx⟩ := h3 j x hj; ⟨u, hu, P0.mono (h.young base n) hx⟩⟩
  | .any, _ => trivial
  | .tups xs, hx => D.tups_imp (fun _ _ _ _ _ h1 => Cell.mono h hb h1) hx

structure St where
  n : Nat
  env : Nat → D
  heap : Nat → Option Ob

/-- Where a call stands: the world in which it began; from which block on memory counts as young; the elder blocks that it was given to write; and where some names lie for good. -/
structure Bs extends World where
  base : Nat
  M : Nat → Prop
  own0 : Nat → Prop
  pin : Nat → Option (Nat × Nat)
/-- Names from here on are pinned. -/
def pinned : Nat := 1000000000
structure Low (w0 : Bs) (w : World) : Prop where
  os : w.os = w0.os
  tape : w.tape = w0.tape
  output : w.output = w0.output
  size : w0.heap.size ≤ w.heap.size
  block : ∀ b, b < w0.heap.size → ¬ w0.M b → w.heap[b]? = w0.heap[b]?
  sized : Sized w0.toWorld w

/-- A frame and a world read as a state. -/
structure Sim' (w0 : Bs) (s : St) (a : Act) (w : World) (ι : Nat → Nat × Nat) (own : Nat → Prop) : Prop where
  below : Low w0 w
  base_ : w0.base ≤ w0.heap.size
  own_ : ∀ b, own b → w0.base ≤ b ∧ b < w.heap.size
  keep : ∀ b, w0.own0 b → own b
  frm : ∀ b, own b → w0.own0 b ∨ w0.heap.size ≤ b
  size : a.tmps.size = s.n
  env : ∀ t, (s.env t).p ι w0.base ⟨w, own⟩ (a.tmps.getD t undef)
  heap : ∀ k ob, s.heap k = some ob → own (ι k).1 ∧ ob.p ι w0.base ⟨w, own⟩ (ι k)
  place : ∀ k ob, s.heap k = some ob → w0.heap.size ≤ (ι k).1 ∨ w0.M (ι k).1
  inj : ∀ k k' ob ob', s.heap k = some ob → s.heap k' = some ob' → (ι k).1 = (ι k').1 → k = k'
  defers : a.defers = []
  pin : ∀ k p, w0.pin k = some p → ι k = p ∧ pinned ≤ k

def Sim (w0 : Bs) (s : St) (a : Act) (w : World) : Prop := ∃ ι own, Sim' w0 s a w ι own

def upd {α : Type} (f : Nat → α) (t : Nat) (x : α) : Nat → α := fun u => if u = t then x else f u
theorem upd_same {α : Type} (f : Nat → α) (t : Nat) (x : α) : upd f t x t = x := if_pos rfl
theorem upd_ne {α : Type} (f : Nat → α) {t u : Nat} (x : α) (h : u ≠ t) : upd f t x u = f u := if_neg h
def putE (e : Nat → D) (dst : Option Nat) (d : D) : Nat → D :=
  match dst with
  | some t => upd e t d
  | none => e
def St.put (s : St) (dst : Option Nat) (d : D) : St := { s with env := putE s.env dst d }

/-- What a constant reads as. -/
def cellOf : Value → Cell
  | .slice none 0 0 => .r true (row true 0 [])
  | v => .r true (val v)
theorem cellOf_p {ι : Nat → Nat × Nat} {base : Nat} {c : Cx} {v : Value} (h : v.oneCell' = true) : (cellOf v).p ι base c v := by
  unfold cellOf
  split
  · exact row_p.2 ⟨none, 0, rfl, by simp [maxLen], by simp, by simp, fun h => by simp at h⟩
  · exact val_p.2 ⟨rfl, h⟩

/-- What an operand holds. -/
def evD (e : Nat → D) : Operand → D
  | .tmp t => e t
  | .const v => match v with
    | .agg _ | .tuple _ => .any
    | v => .one (cellOf v)
  | .func f => .one (.r true (val (.func (.func f) #[] #[])))
  | .global _ => .any

theorem Sim'.ev {w0 : Bs} {s : St} {a : Act} {w : World} {ι : Nat → Nat × Nat} {own : Nat → Prop} (h : Sim' w0 s a w ι own) (x : Operand) : (evD s.env x).p ι w0.base ⟨w, own⟩ (a.eval x) := by
  cases x with
  | tmp t => exact h.env t
  | const v => cases v <;> first | trivial | exact cellOf_p rfl
  | func f => exact (val_p (c := Cx.young ⟨w, own⟩ w0.base true)).2 ⟨rfl, rfl⟩
  | global g => trivial

theorem put_size (a : Act) (dst : Option Tmp) (v : Value) : (a.put dst v).tmps.size = a.tmps.size := by cases dst <;> simp [Act.put]
theorem put_defers (a : Act) (dst : Option Tmp) (v : Value) : (a.put dst v).defers = a.defers := by cases dst <;> simp [Act.put]

def dstOk (n : Nat) (o : Oper) : Bool := match o.dst with | some t => Nat.blt t n | none => true

/-! ### mention -/
def Cell.men (t : Nat) : Cell → Bool
  | .own k _ _ _ => Nat.beq k t
  | .ptr k _ _ _ => Nat.beq k t
  | _ => false
def D.men (t : Nat) : D → Bool
  | .one x => x.men t
  | .agg xs => xs.any (Cell.men t)
  | .tups xs => xs.any fun x => x.2.any (Cell.men t)
  | _ => false
def Ob.men (t : Nat) : Ob → Bool
  | .var _ xs => xs.any (Cell.men t)
  | .sl .. => false

/-- Two readings of names that part at these names alone. -/
def Agree (new : List Nat) (ι ι' : Nat → Nat × Nat) : Prop := ∀ k, k ∉ new → ι' k = ι k
theorem Cell.p_agree {new : List Nat} {ι ι' : Nat → Nat × Nat} {base : Nat} {c : Cx} {v : Value} (ha : Agree new ι ι') : ∀ {x : Cell}, (∀ t ∈ new, x.men t = false) → x.p ι base c v → x.p ι' base c v
  | .r n x, _, h => h
  | .own k j n sz, hm, h => by
    have : ι' k = ι k := ha k (fun hk => by have := hm k hk; simp [Cell.men] at this)
    simpa only [Cell.p, this] using h
  | .ptr k i sz off, hm, h => by
    have : ι' k = ι k := ha k (fun hk => by have := hm k hk; simp [Cell.men] at this)
    simpa only [Cell.p, this] using h
  | .any, _, h => h
theorem D.p_agree {new : List Nat} {ι ι' : Nat → Nat × Nat} {base : Nat} {c : Cx} {v : Value} (ha : Agree new ι ι') : ∀ {x : D}, (∀ t ∈ new, x.men t = false) → x.p ι base c v → x.p ι' base c v
  | .one x, hm, h => Cell.p_agree ha hm h
  | .agg xs, hm, ⟨vs, h1, h2, h3⟩ => ⟨vs, h1, h2, fun j x hj => by
      obtain ⟨u, hu, hx⟩ := h3 j x hj
      refine ⟨u, hu, Cell.p_agree ha (fun t ht => ?_) hx⟩
      have := hm t ht
      simp only [D.men, List.any_eq_false] at this
      simpa using this x (List.mem_of_getElem? hj)⟩
  | .tup n xs, _, h => h
  | .any, _, _ => trivial
  | .tups xs, hm, h => D.tups_imp (fun x hx y hy _ h1 => Cell.p_agree ha (fun t ht => by
      have := hm t ht
      simp only [D.men, List.any_eq_false] at this
      have := this x hx
      simp only [Bool.not_eq_true, List.any_eq_false] at this
      simpa using this y hy) h1) h
theorem Ob.p_agree {new : List Nat} {ι ι' : Nat → Nat × Nat} {base : Nat} {c : Cx} {b : Nat × Nat} (ha : Agree new ι ι') : ∀ {x : Ob}, (∀ t ∈ new, x.men t = false) → x.p ι base c b → x.p ι' base c b
  | .var E xs, hm, ⟨arr, h1, h2, h3⟩ => ⟨arr, h1, h2, fun j x hj => by
      obtain ⟨u, hu, hx⟩ := h3 j x hj
      refine ⟨u, hu, Cell.p_agree ha (fun t ht => ?_) hx⟩
      have := hm t ht
      simp only [Ob.men, List.any_eq_false] at this
      simpa using this x (List.mem_of_getElem? hj)⟩
  | .sl .., _, h => h
theorem Ob.mono {ι : Nat → Nat × Nat} {base : Nat} {c c' : Cx} {b : Nat × Nat} (hx : c.Ext c') (hs : Sized c.w c'.w) (hb : c'.w.heap[b.1]? = c.w.heap[b.1]?) : ∀ {ob : Ob}, ob.p ι base c b → ob.p ι base c' b
  | .var E cells, ⟨arr, e1, e2, e3⟩ => ⟨arr, by rw [hb]; exact e1, e2, fun j x hj => let ⟨u, hu, hx'⟩ := e3 j x hj; ⟨u, hu, Cell.mono hx hs hx'⟩⟩
  | .sl E sz n els, ⟨arr, e1, e2, e3⟩ => ⟨arr, by rw [hb]; exact e1, e2, fun i e he => ⟨(e3 i e he).1, fun j r hj => let ⟨u, hu, hr⟩ := (e3 i e he).2 j r hj; ⟨u, hu, r.mono (hx.young base n) hr⟩⟩⟩

/-! ### steps, by what they read and what they turn -/
/-- What a step gives: what its slot holds; the names that it reads; those whose blocks it writes or takes away; new names; what the names hold behind it. -/
structure Sg where
  d : D
  fp : List Nat
  τ : List Nat
  new : List Nat
  U : List (Nat × Option Ob)
def findU : List (Nat × Option Ob) → Nat → Option (Option Ob)
  | [], _ => none
  | (k, x) :: r, u => if u = k then some x else findU r u
def appU (U : List (Nat × Option Ob)) (H : Nat → Option Ob) : Nat → Option Ob := fun k => (findU U k).getD (H k)
theorem findU_mem : ∀ {U : List (Nat × Option Ob)} {k : Nat} {x : Option Ob}, findU U k = some x → (k, x) ∈ U
  | (k0, x0) :: r, k, x, h => by
    simp only [findU] at h
    split at h
    · rename_i e; subst e; injection h with h; subst h; simp
    · exact List.mem_cons_of_mem _ (findU_mem h)
theorem findU_none : ∀ {U : List (Nat × Option Ob)} {k : Nat}, findU U k = none ↔ k ∉ U.map (·.1)
  | [], k => by simp [findU]
  | (k0, x0) :: r, k => by
    simp only [findU, List.map_cons, List.mem_cons, not_or]
    split
    · rename_i e; subst e; simp
    · rename_i e; rw [findU_none]; exact ⟨fun h => ⟨e, h⟩, fun h => h.2⟩
/-- Only these names. -/
def resH (fp : List Nat) (H : Nat → Option Ob) : Nat → Option Ob := fun k => if k ∈ fp then H k else none

/-- What is turned by a step, seen from outside. -/
structure Chg (base : Nat) (w w' : World) (ι ι' : Nat → Nat × Nat) (own own' : Nat → Prop) (v : Value) (d : D) (τ new : List Nat) (U : List (Nat × Option Ob)) : Prop where
  os : w'.os = w.os
  tape : w'.tape = w.tape
  output : w'.output = w.output
  size : w.heap.size ≤ w'.heap.size
  block : ∀ b, b < w.heap.size → (∀ k ∈ τ, b ≠ (ι k).1) → w'.heap[b]? = w.heap[b]?
  sized : Sized w w'
  own1 : ∀ b, own b → own' b
  own2 : ∀ b, own' b → own b ∨ w.heap.size ≤ b
  own3 : ∀ b, own' b → b < w'.heap.size
  same : Agree new ι ι'
  val : d.p ι' base ⟨w', own'⟩ v
  named : ∀ k ob, (k, some ob) ∈ U → own' (ι' k).1 ∧ ob.p ι' base ⟨w', own'⟩ (ι' k) ∧ (w.heap.size ≤ (ι' k).1 ∨ ∃ k0 ∈ τ, (ι' k).1 = (ι k0).1)
  inj : ∀ k ob k' ob', (k, some ob) ∈ U → (k', some ob') ∈ U → (ι' k).1 = (ι' k').1 → k = k'

def Eff (P : Program) (H : Nat → Option Ob) (ev : Operand → D) (o : Oper) (d : D) (τ new : List Nat) (U : List (Nat × Option Ob)) : Prop :=
  ∀ (base : Nat) (a : Act) (w : World) (ι : Nat → Nat × Nat) (own : Nat → Prop), (∀ b, own b → base ≤ b ∧ b < w.heap.size) → base ≤ w.heap.size → (∀ x ∈ o.op.operands, (ev x).p ι base ⟨w, own⟩ (a.eval x)) →
    (∀ k ob, H k = some ob → own (ι k).1 ∧ ob.p ι base ⟨w, own⟩ (ι k)) → (∀ k k' ob ob', H k = some ob → H k' = some ob' → (ι k).1 = (ι k').1 → k = k') →
    ∀ (K : Act → World → Prop) (Q : Exit → Act → World → Prop), (∀ v w' ι' own', Chg base w w' ι ι' own own' v d τ new U → K (a.put o.dst v) w') → o.wp P a w K Q

/-- The names that a step turns are named in what it gives, and those that it gives are new or were turned. -/
def Sg.fine (σ : Sg) (H : Nat → Option Ob) : Prop :=
  (∀ k ∈ σ.τ, k ∈ σ.fp ∧ (∃ ob, H k = some ob) ∧ k ∈ σ.U.map (·.1)) ∧ (∀ k ∈ σ.new, k ∈ σ.U.map (·.1) ∧ k < pinned)
/-- Nothing of the state speaks of a name, but what is laid anew. -/
def Sg.fresh (σ : Sg) (dst : Option Nat) (s : St) : Prop :=
  ∀ t ∈ σ.new, (∀ u, dst ≠ some u → (s.env u).men t = false) ∧ ∀ k ob, k ∉ σ.U.map (·.1) → s.heap k = some ob → ob.men t = false
def St.app (s : St) (dst : Option Nat) (σ : Sg) : St := ⟨s.n, putE s.env dst σ.d, appU σ.U s.heap⟩

theorem Sim'.eff {w0 : Bs} {s : St} {a : Act} {w w' : World} {ι ι' : Nat → Nat × Nat} {own own' : Nat → Prop} {v : Value} {σ : Sg} {dst : Option Nat} (hs : Sim' w0 s a w ι own) (h : Chg w0.base w w' ι ι' own own' v σ.d σ.τ σ.new σ.U) (hf : σ.fine s.heap) (hm : σ.fresh dst s) (ht : ∀ t, dst = some t → t < s.n) :
    Sim' w0 (s.app dst σ) (a.put dst v) w' ι' own' := by
  have hτ : ∀ k ∈ σ.τ, own (ι k).1 := fun k hk => let ⟨_, ⟨ob, ho⟩, _⟩ := hf.1 k hk; (hs.heap k ob ho).1
  have hx : Cx.Ext ⟨w, own⟩ ⟨w', own'⟩ := ⟨h.size, fun b hb ho => (h.own2 b ho).resolve_right (fun h => by have : b < w.heap.size := hb; omega), fun b hb ho => h.block b hb (fun k hk e => ho (e ▸ hτ k hk))⟩
  have hold : ∀ k ob, k ∉ σ.U.map (·.1) → s.heap k = some ob → ι' k = ι k ∧ (∀ k0 ∈ σ.τ, (ι k).1 ≠ (ι k0).1) := fun k ob hk hh => by
    refine ⟨h.same k (fun hn => hk (hf.2 k hn).1), fun k0 hk0 e => ?_⟩
    obtain ⟨_, ⟨ob0, ho0⟩, hU⟩ := hf.1 k0 hk0
    exact hk (hs.inj k k0 ob ob0 hh ho0 e ▸ hU)
  have happ : ∀ k ob, appU σ.U s.heap k = some ob → (k, some ob) ∈ σ.U ∨ (k ∉ σ.U.map (·.1) ∧ s.heap k = some ob) := fun k ob hk => by
    unfold appU at hk
    cases hU : findU σ.U k with
    | none => rw [hU] at hk; exact .inr ⟨findU_none.1 hU, hk⟩
    | some x => rw [hU] at hk; simp only [Option.getD_some] at hk; subst hk; exact .inl (findU_mem hU)
  have hbs := Nat.le_trans hs.base_ hs.below.size
  refine ⟨⟨h.os.trans hs.below.os, h.tape.trans hs.below.tape, h.output.trans hs.below.output, Nat.le_trans hs.below.size h.size, fun b hb hM => ?_, fun b arr E hb => ?_⟩, hs.base_, fun b hb => ?_, fun b hb => h.own1 b (hs.keep b hb), fun b hb => ?_, by rw [put_size]; exact hs.size, fun u => ?_, fun k ob hk => ?_, fun k ob hk => ?_, fun k k' ob ob' hk hk' e => ?_, by rw [put_defers]; exact hs.defers, fun k p hp => ?_⟩
  · rw [h.block b (Nat.lt_of_lt_of_le hb hs.below.size) (fun k hk e => ?_), hs.below.block b hb hM]
    obtain ⟨_, ⟨ob, ho⟩, _⟩ := hf.1 k hk
    rcases hs.place k ob ho with h1 | h1
    · omega
    · exact hM (e ▸ h1)
  · obtain ⟨a1, e1, e2⟩ := hs.below.sized b arr E hb
    obtain ⟨a2, e3, e4⟩ := h.sized b a1 E e1
    exact ⟨a2, e3, e4.trans e2⟩
  · refine ⟨?_, h.own3 b hb⟩
    rcases h.own2 b hb with h1 | h1
    · exact (hs.own_ b h1).1
    · omega
  · rcases h.own2 b hb with h1 | h1
    · exact hs.frm b h1
    · exact .inr (Nat.le_trans hs.below.size h1)
  · have hold' : dst ≠ some u → ((putE s.env dst σ.d) u).p ι' w0.base ⟨w', own'⟩ ((a.put dst v).tmps.getD u undef) := fun hne => by
      have h1 := D.p_agree h.same (fun t ht => (hm t ht).1 u hne) (D.mono hx h.sized (hs.env u))
      cases dst with
      | none => exact h1
      | some t =>
        have htu : t ≠ u := fun e => hne (by rw [e])
        simp only [putE, Act.put]
        rw [upd_ne _ _ (Ne.symm htu)]
        simpa [Array.getElem?_setIfInBounds_ne htu] using h1
    by_cases hu : dst = some u
    · subst hu
      have hlt : u < a.tmps.size := by rw [hs.size]; exact ht u rfl
      simp only [St.app, putE, Act.put]
      rw [upd_same]
      simpa [hlt] using h.val
    · exact hold' hu
  · rcases happ k ob hk with hU | ⟨hn, hh⟩
    · exact ⟨(h.named k ob hU).1, (h.named k ob hU).2.1⟩
    · obtain ⟨h1, h2⟩ := hs.heap k ob hh
      obtain ⟨e1, e2⟩ := hold k ob hn hh
      rw [e1]
      exact ⟨h.own1 _ h1, Ob.p_agree h.same (fun t ht => (hm t ht).2 k ob hn hh) (Ob.mono hx h.sized (h.block _ (hs.own_ _ h1).2 e2) h2)⟩
  · rcases happ k ob hk with hU | ⟨hn, hh⟩
    · rcases (h.named k ob hU).2.2 with h1 | ⟨k0, hk0, h1⟩
      · exact .inl (Nat.le_trans hs.below.size h1)
      · obtain ⟨_, ⟨ob0, ho0⟩, _⟩ := hf.1 k0 hk0
        rw [h1]
        exact hs.place k0 ob0 ho0
    · rw [(hold k ob hn hh).1]
      exact hs.place k ob hh
  · rcases happ k ob hk with hU | ⟨hn, hh⟩
    · rcases happ k' ob' hk' with hU' | ⟨hn', hh'⟩
      · exact h.inj k ob k' ob' hU hU' e
      · exfalso
        obtain ⟨e1, e2⟩ := hold k' ob' hn' hh'
        rw [e1] at e
        rcases (h.named k ob hU).2.2 with h1 | ⟨k0, hk0, h1⟩
        · have := (hs.own_ _ (hs.heap k' ob' hh').1).2; omega
        · exact e2 k0 hk0 (e.symm.trans h1)
    · obtain ⟨e1, e2⟩ := hold k ob hn hh
      rcases happ k' ob' hk' with hU' | ⟨hn', hh'⟩
      · exfalso
        rw [e1] at e
        rcases (h.named k' ob' hU').2.2 with h1 | ⟨k0, hk0, h1⟩
        · have := (hs.own_ _ (hs.heap k ob hh).1).2; omega
        · exact e2 k0 hk0 (e.trans h1)
      · rw [e1, (hold k' ob' hn' hh').1] at e
        exact hs.inj k k' ob ob' hh hh' e
  · obtain ⟨h1, h2⟩ := hs.pin k p hp
    exact ⟨by rw [h.same k (fun hn => by have := (hf.2 k hn).2; omega)]; exact h1, h2⟩

/-- One operation that only yields a value. -/
def Loc (P : Program) (H : Nat → Option Ob) (ev : Operand → D) (o : Oper) (d : D) : Prop := Eff P H ev o d [] [] []
theorem Chg.quiet {base : Nat} {w w' : World} {ι : Nat → Nat × Nat} {own : Nat → Prop} {v : Value} {d : D} (ho : ∀ b, own b → base ≤ b ∧ b < w.heap.size) (hb : Below w.heap.size w w') (hd : d.p ι base ⟨w', own⟩ v) : Chg base w w' ι ι own own v d [] [] [] :=
  ⟨hb.os, hb.tape, hb.output, hb.size, fun b h _ => hb.block b h, .of_below hb, fun _ h => h, fun _ h => .inl h, fun b h => Nat.lt_of_lt_of_le (ho b h).2 hb.size, fun _ _ => rfl, hd, fun k ob h => by simp at h, fun k ob k' ob' h => by simp at h⟩
theorem loc_run {P : Program} {H : Nat → Option Ob} {ev : Operand → D} {o : Oper} {d : D}
    (h : ∀ (base : Nat) (a : Act) (w : World) (ι : Nat → Nat × Nat) (own : Nat → Prop), (∀ b, own b → base ≤ b ∧ b < w.heap.size) → (∀ x ∈ o.op.operands, (ev x).p ι base ⟨w, own⟩ (a.eval x)) → (∀ k ob, H k = some ob → own (ι k).1 ∧ ob.p ι base ⟨w, own⟩ (ι k)) →
      ∃ v, (execOp a.eval o).run P w = .ok (.value v) w ∧ d.p ι base ⟨w, own⟩ v) : Loc P H ev o d := by
  intro base a w ι own ho hbase hev hH _ K Q hK
  obtain ⟨v, hr, hd⟩ := h base a w ι own ho hev hH
  unfold Oper.wp
  rw [hr]
  exact hK v w ι own (Chg.quiet ho (Below.refl _ _) hd)
end Go.Proofs.Ytjjeihcmiofkmaa.Abs
