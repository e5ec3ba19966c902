/- Reading a frame and memory as plain data: slots, variables and rows of the call's own; a call as a function on data. No statement of the seat is proved here. -/
import Derived.WalkKit
import Derived.WalkSpells
import Derived.Lib.Hide
import Derived.Handy
import Derived.Orders
import Derived.Deep.Quiet
import Derived.Test.YtknbeakmnkjkhaaLib
import Derived.Test.YtknbeakmnkjkhaaOwn
set_option linter.unusedSimpArgs false
set_option linter.unusedVariables false
namespace Go.Proofs.Ytknbeakmnkjkhaa.Abs
open Go.RowKit

/-- Where values are read: a world, and the blocks that may still be written. -/
structure Cx where
  w : World
  own : Nat → Prop

structure Cx.Ext (c c' : Cx) : Prop where
  size : c.w.heap.size ≤ c'.w.heap.size
  own : ∀ b, b < c.w.heap.size → c'.own b → c.own b
  block : ∀ b, b < c.w.heap.size → ¬ c.own b → c'.w.heap[b]? = c.w.heap[b]?

theorem Cx.Ext.refl (c : Cx) : c.Ext c := ⟨Nat.le_refl _, fun _ _ h => h, fun _ _ _ => rfl⟩
theorem Cx.Ext.sub {c c' : Cx} (hw : c'.w = c.w) (ho : ∀ b, c'.own b → c.own b) : c.Ext c' := ⟨by rw [hw]; exact Nat.le_refl _, fun b _ h => ho b h, fun b _ _ => by rw [hw]⟩

mutual
/-- What one cell reads as, for good: a value of no address; a slice that nobody writes any more; a pointer to a variable that nobody writes any more. -/
inductive R where
  | val (u : Value)
  | row (nil : Bool) (sz : Nat) (els : List P0)
  | ref (x : P0)
/-- A plain datum: one cell, or the cells of a struct. -/
inductive P0 where
  | one (r : R)
  | agg (rs : List R)
end
open R (val row ref)
def P0.rs : P0 → List R
  | .one r => [r]
  | .agg rs => rs
def P0.n (x : P0) : Nat := x.rs.length
abbrev int (n : Int) : R := .val (.int .i64 n)
abbrev bool (b : Bool) : R := .val (.bool b)

mutual
def R.p' (c : Cx) (v : Value) : R → Prop
  | .val u => v = u ∧ u.oneCell' = true
  | .row nil sz els => ∃ ao cap, v = .slice ao els.length cap ∧ (els.length ≤ cap ∧ cap ≤ maxLen) ∧ (nil = true ↔ ao = none) ∧ (ao = none → cap = 0) ∧ (0 < els.length → ∃ b o, ao = some ⟨b, o, none⟩ ∧ b < c.w.heap.size ∧ ¬ c.own b ∧ Rows c b sz o els)
  | .ref x => ∃ b o, v = .pointer (some ⟨b, o, none⟩) ∧ b < c.w.heap.size ∧ ¬ c.own b ∧ P0.at c b o x
def P0.at (c : Cx) (b o : Nat) : P0 → Prop
  | .one r => ∃ u, c.w.cell? ⟨b, o, none⟩ = some u ∧ R.p' c u r
  | .agg rs => Rs c b o rs
def Rs (c : Cx) (b o : Nat) : List R → Prop
  | [] => True
  | r :: rs => (∃ u, c.w.cell? ⟨b, o, none⟩ = some u ∧ R.p' c u r) ∧ Rs c b (o + 1) rs
def Rows (c : Cx) (b sz o : Nat) : List P0 → Prop
  | [] => True
  | e :: es => e.rs.length = sz ∧ P0.at c b o e ∧ Rows c b sz (o + sz) es
end
def R.p (r : R) (c : Cx) (v : Value) : Prop := R.p' c v r

theorem cell_ext {c c' : Cx} (h : c.Ext c') {b o : Nat} (hb : b < c.w.heap.size) (ho : ¬ c.own b) : c'.w.cell? ⟨b, o, none⟩ = c.w.cell? ⟨b, o, none⟩ := World.cell?_of_block (a := ⟨b, o, none⟩) (h.block b hb ho)
mutual
theorem R.mono' {c c' : Cx} (h : c.Ext c') : ∀ (r : R) (v : Value), R.p' c v r → R.p' c' v r
  | .val u, v, hp => by simpa only [R.p'] using hp
  | .row nil sz els, v, hp => by
    simp only [R.p'] at hp ⊢
    obtain ⟨ao, cap, h1, h2, h3, h4, h5⟩ := hp
    refine ⟨ao, cap, h1, h2, h3, h4, fun hn => ?_⟩
    obtain ⟨b, o, e1, e2, e3, e5⟩ := h5 hn
    exact ⟨b, o, e1, Nat.lt_of_lt_of_le e2 h.size, fun hw => e3 (h.own b e2 hw), Rows.mono' h b sz e2 e3 els o e5⟩
  | .ref x, v, hp => by
    simp only [R.p'] at hp ⊢
    obtain ⟨b, o, h1, h2, h3, h4⟩ := hp
    exact ⟨b, o, h1, Nat.lt_of_lt_of_le h2 h.size, fun hw => h3 (h.own b h2 hw), P0.at_mono' h b h2 h3 x o h4⟩
theorem P0.at_mono' {c c' : Cx} (h : c.Ext c') (b : Nat) (hb : b < c.w.heap.size) (ho : ¬ c.own b) : ∀ (x : P0) (o : Nat), P0.at c b o x → P0.at c' b o x
  | .one r, o, hp => by
    simp only [P0.at] at hp ⊢
    obtain ⟨u, h1, h2⟩ := hp
    exact ⟨u, by rw [cell_ext h hb ho]; exact h1, R.mono' h r u h2⟩
  | .agg rs, o, hp => by
    simp only [P0.at] at hp ⊢
    exact Rs.mono' h b hb ho rs o hp
theorem Rs.mono' {c c' : Cx} (h : c.Ext c') (b : Nat) (hb : b < c.w.heap.size) (ho : ¬ c.own b) : ∀ (rs : List R) (o : Nat), Rs c b o rs → Rs c' b o rs
  | [], o, hp => by simp only [Rs]
  | r :: rs, o, hp => by
    simp only [Rs] at hp ⊢
    obtain ⟨⟨u, h1, h2⟩, h3⟩ := hp
    exact ⟨⟨u, by rw [cell_ext h hb ho]; exact h1, R.mono' h r u h2⟩, Rs.mono' h b hb ho rs (o + 1) h3⟩
theorem Rows.mono' {c c' : Cx} (h : c.Ext c') (b sz : Nat) (hb : b < c.w.heap.size) (ho : ¬ c.own b) : ∀ (es : List P0) (o : Nat), Rows c b sz o es → Rows c' b sz o es
  | [], o, hp => by simp only [Rows]
  | e :: es, o, hp => by
    simp only [Rows] at hp ⊢
    exact ⟨hp.1, P0.at_mono' h b hb ho e o hp.2.1, Rows.mono' h b sz hb ho es (o + sz) hp.2.2⟩
end
theorem R.mono (r : R) {c c' : Cx} {v : Value} (h : c.Ext c') (hp : r.p c v) : r.p c' v := R.mono' h r v hp
theorem R.one (r : R) {c : Cx} {v : Value} (hp : r.p c v) : v.oneCell' = true := by
  unfold R.p at hp
  cases r <;> simp only [R.p'] at hp
  · exact hp.1 ▸ hp.2
  · obtain ⟨ao, cap, h1, _⟩ := hp; subst h1; rfl
  · obtain ⟨b, o, h1, _⟩ := hp; subst h1; rfl

def CellsAt (c : Cx) (b o : Nat) (rs : List R) : Prop := ∀ (j : Nat) (r : R), rs[j]? = some r → ∃ u, c.w.cell? ⟨b, o + j, none⟩ = some u ∧ r.p c u
theorem Rs_iff {c : Cx} {b : Nat} : ∀ {rs : List R} {o : Nat}, Rs c b o rs ↔ CellsAt c b o rs
  | [], o => by
    simp only [Rs, true_iff]
    intro j r hj; simp at hj
  | r :: rs, o => by
    simp only [Rs]
    rw [Rs_iff]
    constructor
    · rintro ⟨h1, h2⟩ j x hj
      cases j with
      | zero => simp at hj; subst hj; exact h1
      | succ j => have := h2 j x (by simpa using hj); rwa [show o + 1 + j = o + (j + 1) by omega] at this
    · intro h
      refine ⟨h 0 r rfl, fun j x hj => ?_⟩
      have := h (j + 1) x (by simpa using hj)
      rwa [show o + (j + 1) = o + 1 + j by omega] at this
theorem P0.at_iff {c : Cx} {b o : Nat} : ∀ {x : P0}, P0.at c b o x ↔ CellsAt c b o x.rs
  | .one r => by
    simp only [P0.at, P0.rs]
    constructor
    · intro h j x hj
      cases j with
      | zero => simp at hj; subst hj; exact h
      | succ j => simp at hj
    · intro h; exact h 0 r rfl
  | .agg rs => by simp only [P0.at, P0.rs]; exact Rs_iff
theorem Rows_iff {c : Cx} {b sz : Nat} : ∀ {els : List P0} {o : Nat}, Rows c b sz o els ↔ ∀ (i : Nat) (e : P0), els[i]? = some e → e.n = sz ∧ CellsAt c b (o + i * sz) e.rs
  | [], o => by
    simp only [Rows, true_iff]
    intro i e hi; simp at hi
  | e :: es, o => by
    simp only [Rows]
    rw [Rows_iff, P0.at_iff]
    constructor
    · rintro ⟨h1, h2, h3⟩ i x hi
      cases i with
      | zero => simp at hi; subst hi; exact ⟨h1, by simpa using h2⟩
      | succ i => have := h3 i x (by simpa using hi); rwa [show o + sz + i * sz = o + (i + 1) * sz by rw [Nat.add_mul]; omega] at this
    · intro h
      refine ⟨(h 0 e rfl).1, by simpa using (h 0 e rfl).2, fun i x hi => ?_⟩
      have := h (i + 1) x (by simpa using hi)
      rwa [show o + (i + 1) * sz = o + sz + i * sz by rw [Nat.add_mul]; omega] at this
theorem row_p {c : Cx} {v : Value} {nil : Bool} {sz : Nat} {els : List P0} : (row nil sz els).p c v ↔ ∃ ao cap, v = .slice ao els.length cap ∧ (els.length ≤ cap ∧ cap ≤ maxLen) ∧ (nil = true ↔ ao = none) ∧ (ao = none → cap = 0) ∧ (0 < els.length → ∃ b o, ao = some ⟨b, o, none⟩ ∧ b < c.w.heap.size ∧ ¬ c.own b ∧ ∀ (i : Nat) (e : P0), els[i]? = some e → e.n = sz ∧ CellsAt c b (o + i * sz) e.rs) := by
  unfold R.p
  simp only [R.p', Rows_iff]
theorem ref_p {c : Cx} {v : Value} {x : P0} : (ref x).p c v ↔ ∃ b o, v = .pointer (some ⟨b, o, none⟩) ∧ b < c.w.heap.size ∧ ¬ c.own b ∧ CellsAt c b o x.rs := by
  unfold R.p
  simp only [R.p', P0.at_iff]
theorem val_p {c : Cx} {v u : Value} : (val u).p c v ↔ v = u ∧ u.oneCell' = true := by
  unfold R.p
  simp only [R.p']

/-- One cell of a slot or of a variable of the call's own. 'r true x': x, and all its memory is younger than the call. -/
inductive Cell where
  | r (new : Bool) (x : R)
  | own (k j n sz : Nat)
  | ptr (k i sz off : Nat)
  | any

/-- The context in which new data are read: what was there before the call counts as written. -/
def Cx.young (c : Cx) (base : Nat) : Bool → Cx
  | true => ⟨c.w, fun b => c.own b ∨ b < base⟩
  | false => c

theorem Cx.young_w (c : Cx) (base : Nat) (n : Bool) : (c.young base n).w = c.w := by cases n <;> rfl
theorem Cx.Ext.young {c c' : Cx} (h : c.Ext c') (base : Nat) : ∀ n, (c.young base n).Ext (c'.young base n)
  | true => ⟨h.size, fun b hb ho => ho.imp (h.own b hb) id, fun b hb ho => h.block b hb (fun hw => ho (.inl hw))⟩
  | false => h
theorem Cx.young_out (c : Cx) (base : Nat) (n : Bool) : (c.young base n).Ext c := .sub (c.young_w base n).symm (fun b hb => by cases n <;> first | exact hb | exact .inl hb)

def Cell.p (ι : Nat → Nat) (base : Nat) (c : Cx) (v : Value) : Cell → Prop
  | .r n x => x.p (c.young base n) v
  | .own k j n sz => ∃ cap arr E, v = .slice (some ⟨ι k, j * sz, none⟩) n cap ∧ n ≤ cap ∧ cap ≤ maxLen ∧ c.w.heap[ι k]? = some (.cells arr E (0, 0)) ∧ arr.size = (j + cap) * sz
  | .ptr k i sz off => v = .pointer (some ⟨ι k, i * sz + off, none⟩)
  | .any => v.oneCell' = true

theorem Cell.one {ι : Nat → Nat} {base : Nat} {c : Cx} {v : Value} : ∀ {x : Cell}, x.p ι base c v → v.oneCell' = true
  | .r n x, h => x.one h
  | .own .., ⟨_, _, _, h, _⟩ => by subst h; rfl
  | .ptr .., h => by cases h; rfl
  | .any, h => h

/-- What a slot holds. -/
inductive D where
  | one (x : Cell)
  | agg (xs : List Cell)
  | tup (n : Bool) (xs : List P0)
  | any

def P0.p (c : Cx) (v : Value) : P0 → Prop
  | .one r => r.p c v
  | .agg rs => ∃ vs : List Value, v = .agg vs.toArray ∧ vs.length = rs.length ∧ ∀ (j : Nat) (r : R), rs[j]? = some r → ∃ u, vs[j]? = some u ∧ r.p c u

theorem P0.mono {c c' : Cx} {v : Value} (h : c.Ext c') : ∀ {x : P0}, x.p c v → x.p c' v
  | .one r, hx => r.mono h hx
  | .agg rs, ⟨us, e1, e2, e3⟩ => ⟨us, e1, e2, fun i r hi => let ⟨z, hz, hr⟩ := e3 i r hi; ⟨z, hz, r.mono h hr⟩⟩

def D.p (ι : Nat → Nat) (base : Nat) (c : Cx) (v : Value) : D → Prop
  | .one x => x.p ι base c v
  | .agg xs => ∃ vs : List Value, v = .agg vs.toArray ∧ vs.length = xs.length ∧ ∀ (j : Nat) (x : Cell), xs[j]? = some x → ∃ u, vs[j]? = some u ∧ x.p ι base c u
  | .tup n xs => ∃ vs : List Value, v = .tuple vs.toArray ∧ vs.length = xs.length ∧ ∀ (j : Nat) (x : P0), xs[j]? = some x → ∃ u, vs[j]? = some u ∧ x.p (c.young base n) u
  | .any => True

def P0.d (n : Bool) : P0 → D
  | .one r => .one (.r n r)
  | .agg rs => .agg (rs.map (.r n))

theorem P0.d_p {ι : Nat → Nat} {base : Nat} {c : Cx} {v : Value} {n : Bool} : ∀ {x : P0}, (x.d n).p ι base c v ↔ x.p (c.young base n) v
  | .one r => by simp only [P0.d, D.p, P0.p, Cell.p]
  | .agg rs => by
    simp only [P0.d, D.p, P0.p, List.length_map]
    refine exists_congr fun vs => and_congr_right fun _ => and_congr_right fun _ => ?_
    constructor
    · intro h j r hj
      exact h j (.r n r) (by simp [hj])
    · intro h j x hj
      simp only [List.getElem?_map, Option.map_eq_some_iff] at hj
      obtain ⟨r, hr, rfl⟩ := hj
      exact h j r hr

/-- A variable of the call's own, or a row of plain elements. -/
inductive Ob where
  | var (E : TypeId) (cells : List Cell)
  | sl (E : TypeId) (sz : Nat) (new : Bool) (els : List P0)

def Ob.p (ι : Nat → Nat) (base : Nat) (c : Cx) (b : Nat) : Ob → Prop
  | .var E cells => ∃ arr, c.w.heap[b]? = some (.cells arr E (0, 0)) ∧ arr.size = cells.length ∧ ∀ (j : Nat) (x : Cell), cells[j]? = some x → ∃ u, arr[j]? = some u ∧ x.p ι base c u
  | .sl E sz n els => ∃ arr, c.w.heap[b]? = some (.cells arr E (0, 0)) ∧ els.length * sz ≤ arr.size ∧ ∀ (i : Nat) (e : P0), els[i]? = some e → e.n = sz ∧ ∀ (j : Nat) (r : R), e.rs[j]? = some r → ∃ u, arr[i * sz + j]? = some u ∧ r.p (c.young base n) u

/-- The blocks of cells keep their sizes. -/
def Sized (w w' : World) : Prop := ∀ (b : Nat) (arr : Array Value) (E : TypeId), w.heap[b]? = some (.cells arr E (0, 0)) → ∃ arr' : Array Value, w'.heap[b]? = some (.cells arr' E (0, 0)) ∧ arr'.size = arr.size

theorem lt_of_heap {w : World} {b : Nat} {o : Obj} (h : w.heap[b]? = some o) : b < w.heap.size := by
  rcases Nat.lt_or_ge b w.heap.size with h' | h'
  · exact h'
  · simp [Array.getElem?_eq_none h'] at h
theorem Sized.of_below {w w' : World} (h : Below w.heap.size w w') : Sized w w' := fun b arr E hb => ⟨arr, by rw [h.block b (lt_of_heap hb)]; exact hb, rfl⟩

theorem Cell.mono {ι : Nat → Nat} {base : Nat} {c c' : Cx} {v : Value} (h : c.Ext c') (hb : Sized c.w c'.w) : ∀ {x : Cell}, x.p ι base c v → x.p ι base c' v
  | .r n x, hx => x.mono (h.young base n) hx
  | .own .., ⟨cap, arr, E, h1, h2, h3, h4, h5⟩ => by
    obtain ⟨arr', g1, g2⟩ := hb _ _ _ h4
    exact ⟨cap, arr', E, h1, h2, h3, g1, by rw [g2]; exact h5⟩
  | .ptr .., hx => hx
  | .any, hx => hx
theorem D.mono {ι : Nat → Nat} {base : Nat} {c c' : Cx} {v : Value} (h : c.Ext c') (hb : Sized c.w c'.w) : ∀ {d : D}, d.p ι base c v → d.p ι base c' v
  | .one x, hx => Cell.mono h hb hx
  | .agg xs, ⟨vs, h1, h2, h3⟩ => ⟨vs, h1, h2, fun j x hj => let ⟨u, hu, hx⟩ := h3 j x hj; ⟨u, hu, Cell.mono h hb hx⟩⟩
  | .tup n xs, ⟨vs, h1, h2, h3⟩ => ⟨vs, h1, h2, fun j x hj => let ⟨u, hu, hx⟩ := h3 j x hj; ⟨u, hu, P0.mono (h.young base n) hx⟩⟩
  | .any, _ => trivial

structure St where
  n : Nat
  env : Nat → D
  heap : Nat → Option Ob

/-- A frame and a world read as a state. -/
structure Sim' (w0 : World) (s : St) (a : Act) (w : World) (ι : Nat → Nat) (own : Nat → Prop) : Prop where
  below : Below w0.heap.size w0 w
  own_ : ∀ b, own b → w0.heap.size ≤ b ∧ b < w.heap.size
  size : a.tmps.size = s.n
  env : ∀ t, (s.env t).p ι w0.heap.size ⟨w, own⟩ (a.tmps.getD t undef)
  heap : ∀ k ob, s.heap k = some ob → own (ι k) ∧ ob.p ι w0.heap.size ⟨w, own⟩ (ι k)
  inj : ∀ k k' ob ob', s.heap k = some ob → s.heap k' = some ob' → ι k = ι k' → k = k'
  defers : a.defers = []

def Sim (w0 : World) (s : St) (a : Act) (w : World) : Prop := ∃ ι own, Sim' w0 s a w ι own

def upd {α : Type} (f : Nat → α) (t : Nat) (x : α) : Nat → α := fun u => if u = t then x else f u
theorem upd_same {α : Type} (f : Nat → α) (t : Nat) (x : α) : upd f t x t = x := if_pos rfl
theorem upd_ne {α : Type} (f : Nat → α) {t u : Nat} (x : α) (h : u ≠ t) : upd f t x u = f u := if_neg h
def St.put (s : St) (dst : Option Nat) (d : D) : St :=
  match dst with
  | some t => { s with env := upd s.env t d }
  | none => s

/-- What a constant reads as. -/
def cellOf : Value → Cell
  | .slice none 0 0 => .r true (row true 0 [])
  | v => .r true (val v)
theorem cellOf_p {ι : Nat → Nat} {base : Nat} {c : Cx} {v : Value} (h : v.oneCell' = true) : (cellOf v).p ι base c v := by
  unfold cellOf
  split
  · exact row_p.2 ⟨none, 0, rfl, by simp [maxLen], by simp, by simp, fun h => by simp at h⟩
  · exact val_p.2 ⟨rfl, h⟩

/-- What an operand holds. -/
def St.ev (s : St) : Operand → D
  | .tmp t => s.env t
  | .const v => match v with
    | .agg _ | .tuple _ => .any
    | v => .one (cellOf v)
  | .func f => .one (.r true (val (.func (.func f) #[] #[])))
  | .global _ => .any

theorem Sim'.ev {w0 : World} {s : St} {a : Act} {w : World} {ι : Nat → Nat} {own : Nat → Prop} (h : Sim' w0 s a w ι own) (x : Operand) : (s.ev x).p ι w0.heap.size ⟨w, own⟩ (a.eval x) := by
  cases x with
  | tmp t => exact h.env t
  | const v => cases v <;> first | trivial | exact cellOf_p rfl
  | func f => exact (val_p (c := Cx.young ⟨w, own⟩ w0.heap.size true)).2 ⟨rfl, rfl⟩
  | global g => trivial

theorem put_size (a : Act) (dst : Option Tmp) (v : Value) : (a.put dst v).tmps.size = a.tmps.size := by cases dst <;> simp [Act.put]
theorem put_defers (a : Act) (dst : Option Tmp) (v : Value) : (a.put dst v).defers = a.defers := by cases dst <;> simp [Act.put]

def dstOk (n : Nat) (o : Oper) : Bool := match o.dst with | some t => Nat.blt t n | none => true

/-- A step that turns nothing of what was there: the frame gets one value. -/
theorem Sim'.quiet {w0 : World} {s : St} {a : Act} {w w' : World} {ι : Nat → Nat} {own : Nat → Prop} (h : Sim' w0 s a w ι own) (hb : Below w.heap.size w w') {dst : Option Nat} {d : D} {v : Value}
    (hd : d.p ι w0.heap.size ⟨w', own⟩ v) (ht : ∀ t, dst = some t → t < s.n) : Sim' w0 (s.put dst d) (a.put dst v) w' ι own := by
  have hx : Cx.Ext ⟨w, own⟩ ⟨w', own⟩ := ⟨hb.size, fun _ _ h => h, fun b h1 _ => hb.block b h1⟩
  have hs : Sized w w' := .of_below hb
  have hy : ∀ n, Cx.Ext (Cx.young ⟨w, own⟩ w0.heap.size n) (Cx.young ⟨w', own⟩ w0.heap.size n) := fun n => hx.young _ n
  refine ⟨h.below.trans (hb.mono h.below.size), fun b hb' => ⟨(h.own_ b hb').1, Nat.lt_of_lt_of_le (h.own_ b hb').2 hb.size⟩, ?_, ?_, ?_, ?_, by rw [put_defers]; exact h.defers⟩
  · rw [put_size, h.size]; cases dst <;> rfl
  · intro t
    cases dst with
    | none => exact D.mono hx hs (h.env t)
    | some u =>
      have hu : u < a.tmps.size := by rw [h.size]; exact ht u rfl
      simp only [St.put, Act.put]
      by_cases htu : t = u
      · subst htu
        rw [upd_same]
        simpa [hu] using hd
      · rw [upd_ne _ _ htu]
        have := D.mono (ι := ι) (base := w0.heap.size) hx hs (h.env t)
        simpa [Array.getElem?_setIfInBounds_ne (Ne.symm htu)] using this
  · intro k ob hk
    have hk' : s.heap k = some ob := by cases dst <;> exact hk
    obtain ⟨h1, h2⟩ := h.heap k ob hk'
    refine ⟨h1, ?_⟩
    have hlt := (h.own_ _ h1).2
    cases ob with
    | var E cells =>
      obtain ⟨arr, e1, e2, e3⟩ := h2
      exact ⟨arr, by rw [hb.block _ hlt]; exact e1, e2, fun j x hj => let ⟨u, hu, hx'⟩ := e3 j x hj; ⟨u, hu, Cell.mono hx hs hx'⟩⟩
    | sl E sz n els =>
      obtain ⟨arr, e1, e2, e3⟩ := h2
      exact ⟨arr, by rw [hb.block _ hlt]; exact e1, e2, fun i e he => ⟨(e3 i e he).1, fun j r hj => let ⟨u, hu, hr⟩ := (e3 i e he).2 j r hj; ⟨u, hu, r.mono (hy n) hr⟩⟩⟩
  · intro k k' ob ob' hk hk'
    exact h.inj k k' ob ob' (by cases dst <;> exact hk) (by cases dst <;> exact hk')

/-- One operation that only yields a value: what is asked, by what its operands hold and what the variables hold. -/
def Loc (P : Program) (H : Nat → Option Ob) (ev : Operand → D) (o : Oper) (d : D) : Prop :=
  ∀ (w0 : World) (s : St) (a : Act) (w : World) (ι : Nat → Nat) (own : Nat → Prop), s.heap = H → (∀ x ∈ o.op.operands, s.ev x = ev x) → Sim' w0 s a w ι own → ∀ (K : Act → World → Prop) (Q : Exit → Act → World → Prop),
    (∀ v w', Below w.heap.size w w' → d.p ι w0.heap.size ⟨w', own⟩ v → K (a.put o.dst v) w') → o.wp P a w K Q

theorem loc_run {P : Program} {H : Nat → Option Ob} {ev : Operand → D} {o : Oper} {d : D}
    (h : ∀ (w0 : World) (a : Act) (w : World) (ι : Nat → Nat) (own : Nat → Prop), (∀ b, own b → w0.heap.size ≤ b ∧ b < w.heap.size) → (∀ x ∈ o.op.operands, (ev x).p ι w0.heap.size ⟨w, own⟩ (a.eval x)) → (∀ k ob, H k = some ob → own (ι k) ∧ ob.p ι w0.heap.size ⟨w, own⟩ (ι k)) →
      ∃ v, (execOp a.eval o).run P w = .ok (.value v) w ∧ d.p ι w0.heap.size ⟨w, own⟩ v) : Loc P H ev o d := by
  intro w0 s a w ι own hH hev hs K Q hK
  obtain ⟨v, hr, hd⟩ := h w0 a w ι own hs.own_ (fun x hx => hev x hx ▸ hs.ev x) (fun k ob hk => hs.heap k ob (hH ▸ hk))
  unfold Oper.wp
  rw [hr]
  exact hK v w (Below.refl _ _) hd
end Go.Proofs.Ytknbeakmnkjkhaa.Abs
