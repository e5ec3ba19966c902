/- Reading a frame and memory as plain data: slots, variables and rows of the call's own; a call as a function on data. No statement of the seat is proved here. -/
import Derived.WalkKit
import Derived.WalkSpells
import Derived.Lib.Hide
import Derived.Handy
import Derived.Orders
import Derived.Deep.Quiet
import Derived.Test.YtmkijbfiilpccaaXlLib
import Derived.Test.YtmkijbfiilpccaaXlOwn
set_option linter.unusedSimpArgs false
set_option linter.unusedVariables false
namespace Go.Proofs.Ytmkijbfiilpccaa.Abs
open Go.RowKit
structure Cx where
 w : World
 own : Nat → Prop
structure Cx.Ext (c c' : Cx) : Prop where
 size : c.w.heap.size ≤ c'.w.heap.size
 own : ∀ b,b < c.w.heap.size → c'.own b → c.own b
 block : ∀ b,b < c.w.heap.size → ¬ c.own b → c'.w.heap[b]? = c.w.heap[b]? ∨ ∃ o : Obj,c.w.heap[b]? = some o ∧ ∀ arr E F,o ≠ .cells arr E F
theorem Cx.Ext.refl (c : Cx) : c.Ext c:=⟨Nat.le_refl _,fun _ _ h=>h,fun _ _ _=>.inl rfl⟩
theorem Cx.Ext.sub {c c' : Cx} (hw : c'.w = c.w) (ho : ∀ b,c'.own b → c.own b) : c.Ext c':=⟨by rw [hw]; exact Nat.le_refl _,fun b _ h=>ho b h,fun b _ _=>.inl (by rw [hw])⟩
mutual
inductive R where
 | val (u : Value)
 | row (nil : Bool) (sz : Nat) (els : List P0)
 | ref (x : P0)
inductive P0 where
 | one (r : R)
 | agg (rs : List R)
end
open R (val row ref)
def P0.rs : P0 → List R
 | .one r=>[r]
 | .agg rs=>rs
def P0.n (x : P0) : Nat:=x.rs.length
abbrev int (n : Int) : R:=.val (.int .i64 n)
abbrev bool (b : Bool) : R:=.val (.bool b)
mutual
def R.p' (c : Cx) (v : Value) : R → Prop
 | .val u=>v = u ∧ u.oneCell' = true
 | .row nil sz els=>∃ ao cap,v = .slice ao els.length cap ∧ (els.length ≤ cap ∧ cap ≤ maxLen) ∧ (nil = true ↔ ao = none) ∧ (ao = none → cap = 0) ∧ (0 < els.length → ∃ b o,ao = some ⟨b,o,none⟩ ∧ b < c.w.heap.size ∧ ¬ c.own b ∧ Rows c b sz o els)
 | .ref x=>∃ b o,v = .pointer (some ⟨b,o,none⟩) ∧ b < c.w.heap.size ∧ ¬ c.own b ∧ P0.at c b o x
def P0.at (c : Cx) (b o : Nat) : P0 → Prop
 | .one r=>∃ u,c.w.cell? ⟨b,o,none⟩ = some u ∧ R.p' c u r
 | .agg rs=>Rs c b o rs
def Rs (c : Cx) (b o : Nat) : List R → Prop
 | []=>True
 | r :: rs=>(∃ u,c.w.cell? ⟨b,o,none⟩ = some u ∧ R.p' c u r) ∧ Rs c b (o + 1) rs
def Rows (c : Cx) (b sz o : Nat) : List P0 → Prop
 | []=>True
 | e :: es=>e.rs.length = sz ∧ P0.at c b o e ∧ Rows c b sz (o + sz) es
end
def R.p (r : R) (c : Cx) (v : Value) : Prop:=R.p' c v r
theorem not_cells_none {w : World} {b o : Nat} {x : Obj} (h : w.heap[b]? = some x) (hn : ∀ arr E F,x ≠ .cells arr E F) : w.cell? ⟨b,o,none⟩ = none:=by
 simp only [World.cell?,h]
 cases x<;>first|rfl|exact absurd rfl (hn _ _ _)
theorem cell_ext {c c' : Cx} (h : c.Ext c') {b o : Nat} {u : Value} (hb : b < c.w.heap.size) (ho : ¬ c.own b) (hu : c.w.cell? ⟨b,o,none⟩ = some u) : c'.w.cell? ⟨b,o,none⟩ = some u:=by
 rcases h.block b hb ho with h1 | ⟨x,h1,h2⟩
 ·rw [World.cell?_of_block (a:=⟨b,o,none⟩) h1]; exact hu
 ·rw [not_cells_none h1 h2] at hu; cases hu
mutual
theorem R.mono' {c c' : Cx} (h : c.Ext c') : ∀ (r : R) (v : Value),R.p' c v r → R.p' c' v r
 | .val u,v,hp=>by simpa only [R.p'] using hp
 | .row nil sz els,v,hp=>by
  simp only [R.p'] at hp ⊢
  obtain ⟨ao,cap,h1,h2,h3,h4,h5⟩:=hp
  refine ⟨ao,cap,h1,h2,h3,h4,fun hn=>?_⟩
  obtain ⟨b,o,e1,e2,e3,e5⟩:=h5 hn
  exact ⟨b,o,e1,Nat.lt_of_lt_of_le e2 h.size,fun hw=>e3 (h.own b e2 hw),Rows.mono' h b sz e2 e3 els o e5⟩
 | .ref x,v,hp=>by
  simp only [R.p'] at hp ⊢
  obtain ⟨b,o,h1,h2,h3,h4⟩:=hp
  exact ⟨b,o,h1,Nat.lt_of_lt_of_le h2 h.size,fun hw=>h3 (h.own b h2 hw),P0.at_mono' h b h2 h3 x o h4⟩
theorem P0.at_mono' {c c' : Cx} (h : c.Ext c') (b : Nat) (hb : b < c.w.heap.size) (ho : ¬ c.own b) : ∀ (x : P0) (o : Nat),P0.at c b o x → P0.at c' b o x
 | .one r,o,hp=>by
  simp only [P0.at] at hp ⊢
  obtain ⟨u,h1,h2⟩:=hp
  exact ⟨u,cell_ext h hb ho h1,R.mono' h r u h2⟩
 | .agg rs,o,hp=>by
  simp only [P0.at] at hp ⊢
  exact Rs.mono' h b hb ho rs o hp
theorem Rs.mono' {c c' : Cx} (h : c.Ext c') (b : Nat) (hb : b < c.w.heap.size) (ho : ¬ c.own b) : ∀ (rs : List R) (o : Nat),Rs c b o rs → Rs c' b o rs
 | [],o,hp=>by simp only [Rs]
 | r :: rs,o,hp=>by
  simp only [Rs] at hp ⊢
  obtain ⟨⟨u,h1,h2⟩,h3⟩:=hp
  exact ⟨⟨u,cell_ext h hb ho h1,R.mono' h r u h2⟩,Rs.mono' h b hb ho rs (o + 1) h3⟩
theorem Rows.mono' {c c' : Cx} (h : c.Ext c') (b sz : Nat) (hb : b < c.w.heap.size) (ho : ¬ c.own b) : ∀ (es : List P0) (o : Nat),Rows c b sz o es → Rows c' b sz o es
 | [],o,hp=>by simp only [Rows]
 | e :: es,o,hp=>by
  simp only [Rows] at hp ⊢
  exact ⟨hp.1,P0.at_mono' h b hb ho e o hp.2.1,Rows.mono' h b sz hb ho es (o + sz) hp.2.2⟩
end
theorem R.mono (r : R) {c c' : Cx} {v : Value} (h : c.Ext c') (hp : r.p c v) : r.p c' v:=R.mono' h r v hp
theorem R.one (r : R) {c : Cx} {v : Value} (hp : r.p c v) : v.oneCell' = true:=by
 unfold R.p at hp
 cases r<;>simp only [R.p'] at hp
 ·exact hp.1 ▸ hp.2
 ·obtain ⟨ao,cap,h1,_⟩:=hp; subst h1; rfl
 ·obtain ⟨b,o,h1,_⟩:=hp; subst h1; rfl
def CellsAt (c : Cx) (b o : Nat) (rs : List R) : Prop:=∀ (j : Nat) (r : R),rs[j]? = some r → ∃ u,c.w.cell? ⟨b,o + j,none⟩ = some u ∧ r.p c u
theorem Rs_iff {c : Cx} {b : Nat} : ∀ {rs : List R} {o : Nat},Rs c b o rs ↔ CellsAt c b o rs
 | [],o=>by
  simp only [Rs,true_iff]
  intro j r hj; simp at hj
 | r :: rs,o=>by
  simp only [Rs]
  rw [Rs_iff]
  constructor
  ·rintro ⟨h1,h2⟩ j x hj
   cases j with
   | zero=>simp at hj; subst hj; exact h1
   | succ j=>have:=h2 j x (by simpa using hj); rwa [show o + 1 + j = o + (j + 1) by omega] at this
  ·intro h
   refine ⟨h 0 r rfl,fun j x hj=>?_⟩
   have:=h (j + 1) x (by simpa using hj)
   rwa [show o + (j + 1) = o + 1 + j by omega] at this
theorem P0.at_iff {c : Cx} {b o : Nat} : ∀ {x : P0},P0.at c b o x ↔ CellsAt c b o x.rs
 | .one r=>by
  simp only [P0.at,P0.rs]
  constructor
  ·intro h j x hj
   cases j with
   | zero=>simp at hj; subst hj; exact h
   | succ j=>simp at hj
  ·intro h; exact h 0 r rfl
 | .agg rs=>by simp only [P0.at,P0.rs]; exact Rs_iff
theorem Rows_iff {c : Cx} {b sz : Nat} : ∀ {els : List P0} {o : Nat},Rows c b sz o els ↔ ∀ (i : Nat) (e : P0),els[i]? = some e → e.n = sz ∧ CellsAt c b (o + i * sz) e.rs
 | [],o=>by
  simp only [Rows,true_iff]
  intro i e hi; simp at hi
 | e :: es,o=>by
  simp only [Rows]
  rw [Rows_iff,P0.at_iff]
  constructor
  ·rintro ⟨h1,h2,h3⟩ i x hi
   cases i with
   | zero=>simp at hi; subst hi; exact ⟨h1,by simpa using h2⟩
   | succ i=>have:=h3 i x (by simpa using hi); rwa [show o + sz + i * sz = o + (i + 1) * sz by rw [Nat.add_mul]; omega] at this
  ·intro h
   refine ⟨(h 0 e rfl).1,by simpa using (h 0 e rfl).2,fun i x hi=>?_⟩
   have:=h (i + 1) x (by simpa using hi)
   rwa [show o + (i + 1) * sz = o + sz + i * sz by rw [Nat.add_mul]; omega] at this
theorem Zas {c : Cx} {v : Value} {nil : Bool} {sz : Nat} {els : List P0} : (row nil sz els).p c v ↔ ∃ ao cap,v = .slice ao els.length cap ∧ (els.length ≤ cap ∧ cap ≤ maxLen) ∧ (nil = true ↔ ao = none) ∧ (ao = none → cap = 0) ∧ (0 < els.length → ∃ b o,ao = some ⟨b,o,none⟩ ∧ b < c.w.heap.size ∧ ¬ c.own b ∧ ∀ (i : Nat) (e : P0),els[i]? = some e → e.n = sz ∧ CellsAt c b (o + i * sz) e.rs):=by
 unfold R.p
 simp only [R.p',Rows_iff]
theorem ref_p {c : Cx} {v : Value} {x : P0} : (ref x).p c v ↔ ∃ b o,v = .pointer (some ⟨b,o,none⟩) ∧ b < c.w.heap.size ∧ ¬ c.own b ∧ CellsAt c b o x.rs:=by
 unfold R.p
 simp only [R.p',P0.at_iff]
theorem Zx {c : Cx} {v u : Value} : (val u).p c v ↔ v = u ∧ u.oneCell' = true:=by
 unfold R.p
 simp only [R.p']
inductive Cell where
 | r (new : Bool) (x : R)
 | own (k j n sz : Nat)
 | ptr (k i sz off : Nat)
 | any
 | clo (f : List Value → Value) (ps : List (Nat × Nat))
def ptrsV (ι : Nat → Nat × Nat) : List (Nat × Nat) → List Value
 | []=>[]
 | p :: ps=>.pointer (some ⟨(ι p.1).1,(ι p.1).2 + p.2,none⟩) :: ptrsV ι ps
theorem ptrsV_eq {ι ι' : Nat → Nat × Nat} : ∀ {ps : List (Nat × Nat)},(∀ p ∈ ps,ι' p.1 = ι p.1) → ptrsV ι' ps = ptrsV ι ps
 | [],_=>rfl
 | p :: ps,h=>by rw [ptrsV,ptrsV,h p (by simp),ptrsV_eq (fun q hq=>h q (by simp [hq]))]
def Cx.young (c : Cx) (base : Nat) : Bool → Cx
 | true=>⟨c.w,fun b=>c.own b ∨ b < base⟩
 | false=>c
theorem Cx.young_w (c : Cx) (base : Nat) (n : Bool) : (c.young base n).w = c.w:=by cases n<;>rfl
theorem Cx.Ext.young {c c' : Cx} (h : c.Ext c') (base : Nat) : ∀ n,(c.young base n).Ext (c'.young base n)
 | true=>⟨h.size,fun b hb ho=>ho.imp (h.own b hb) id,fun b hb ho=>h.block b hb (fun hw=>ho (.inl hw))⟩
 | false=>h
theorem Cx.young_out (c : Cx) (base : Nat) (n : Bool) : (c.young base n).Ext c:=.sub (c.young_w base n).symm (fun b hb=>by cases n<;>first|exact hb|exact .inl hb)
def Cell.p (ι : Nat → Nat × Nat) (base : Nat) (c : Cx) (v : Value) : Cell → Prop
 | .r n x=>x.p (c.young base n) v
 | .own k j n sz=>∃ o cap arr E,v = .slice (some ⟨(ι k).1,o,none⟩) n cap ∧ (o = (ι k).2 + j * sz ∨ cap = 0) ∧ n ≤ cap ∧ cap ≤ maxLen ∧ c.w.heap[(ι k).1]? = some (.cells arr E (0,0)) ∧ (ι k).2 + (j + cap) * sz ≤ arr.size
 | .ptr k i sz off=>v = .pointer (some ⟨(ι k).1,(ι k).2 + (i * sz + off),none⟩)
 | .any=>v.oneCell' = true
 | .clo f ps=>v = f (ptrsV ι ps) ∧ v.oneCell' = true
theorem Cell.one {ι : Nat → Nat × Nat} {base : Nat} {c : Cx} {v : Value} : ∀ {x : Cell},x.p ι base c v → v.oneCell' = true
 | .r n x,h=>x.one h
 | .own ..,⟨_,_,_,_,h,_⟩=>by subst h; rfl
 | .ptr ..,h=>by cases h; rfl
 | .any,h=>h
 | .clo ..,h=>h.2
inductive D where
 | one (x : Cell)
 | agg (xs : List Cell)
 | tup (n : Bool) (xs : List P0)
 | any
 | tups (xs : List (Bool × List Cell))
def P0.p (c : Cx) (v : Value) : P0 → Prop
 | .one r=>r.p c v
 | .agg rs=>∃ vs : List Value,v = .agg vs.toArray ∧ vs.length = rs.length ∧ ∀ (j : Nat) (r : R),rs[j]? = some r → ∃ u,vs[j]? = some u ∧ r.p c u
theorem P0.mono {c c' : Cx} {v : Value} (h : c.Ext c') : ∀ {x : P0},x.p c v → x.p c' v
 | .one r,hx=>r.mono h hx
 | .agg rs,⟨us,e1,e2,e3⟩=>⟨us,e1,e2,fun i r hi=>let ⟨z,hz,hr⟩:=e3 i r hi; ⟨z,hz,r.mono h hr⟩⟩
def Co.p (ι : Nat → Nat × Nat) (base : Nat) (c : Cx) (v : Value) : Bool × List Cell → Prop
 | (true,xs)=>∃ vs : List Value,v = .agg vs.toArray ∧ vs.length = xs.length ∧ ∀ (j : Nat) (x : Cell),xs[j]? = some x → ∃ u,vs[j]? = some u ∧ x.p ι base c u
 | (false,[x])=>x.p ι base c v
 | (false,_)=>True
def D.p (ι : Nat → Nat × Nat) (base : Nat) (c : Cx) (v : Value) : D → Prop
 | .one x=>x.p ι base c v
 | .agg xs=>∃ vs : List Value,v = .agg vs.toArray ∧ vs.length = xs.length ∧ ∀ (j : Nat) (x : Cell),xs[j]? = some x → ∃ u,vs[j]? = some u ∧ x.p ι base c u
 | .tup n xs=>∃ vs : List Value,v = .tuple vs.toArray ∧ vs.length = xs.length ∧ ∀ (j : Nat) (x : P0),xs[j]? = some x → ∃ u,vs[j]? = some u ∧ x.p (c.young base n) u
 | .any=>True
 | .tups xs=>∃ vs : List Value,v = .tuple vs.toArray ∧ vs.length = xs.length ∧ ∀ (j : Nat) (x : Bool × List Cell),xs[j]? = some x → ∃ u,vs[j]? = some u ∧ Co.p ι base c u x
theorem Co.map {ι ι' : Nat → Nat × Nat} {base base' : Nat} {c c' : Cx} {v : Value} (g : Cell → Cell) : ∀ {x : Bool × List Cell},(∀ y ∈ x.2,∀ u,y.p ι base c u → (g y).p ι' base' c' u) → Co.p ι base c v x → Co.p ι' base' c' v (x.1,x.2.map g)
 | (true,xs),h,⟨vs,h1,h2,h3⟩=>⟨vs,h1,by simpa using h2,fun j x hj=>by
   simp only [List.getElem?_map,Option.map_eq_some_iff] at hj
   obtain ⟨y,hy,rfl⟩:=hj
   obtain ⟨u,hu,hx⟩:=h3 j y hy
   exact ⟨u,hu,h y (List.mem_of_getElem? hy) u hx⟩⟩
 | (false,[x]),h,hx=>h x (by simp) v hx
 | (false,[]),_,_=>trivial
 | (false,_ :: _ :: _),_,_=>trivial
theorem D.tups_map {ι ι' : Nat → Nat × Nat} {base base' : Nat} {c c' : Cx} {v : Value} (g : Cell → Cell) {xs : List (Bool × List Cell)} (h : ∀ x ∈ xs,∀ y ∈ x.2,∀ u,y.p ι base c u → (g y).p ι' base' c' u) : D.p ι base c v (.tups xs) → D.p ι' base' c' v (.tups (xs.map fun x=>(x.1,x.2.map g)))
 | ⟨vs,h1,h2,h3⟩=>⟨vs,h1,by simpa using h2,fun j x hj=>by
   simp only [List.getElem?_map,Option.map_eq_some_iff] at hj
   obtain ⟨y,hy,rfl⟩:=hj
   obtain ⟨u,hu,hx⟩:=h3 j y hy
   exact ⟨u,hu,Co.map g (h y (List.mem_of_getElem? hy)) hx⟩⟩
theorem Co.unmap {ι ι' : Nat → Nat × Nat} {base base' : Nat} {c c' : Cx} {v : Value} (g : Cell → Cell) : ∀ {x : Bool × List Cell},(∀ y ∈ x.2,∀ u,(g y).p ι base c u → y.p ι' base' c' u) → Co.p ι base c v (x.1,x.2.map g) → Co.p ι' base' c' v x
 | (true,xs),h,⟨vs,h1,h2,h3⟩=>⟨vs,h1,by simpa using h2,fun j y hj=>by
   obtain ⟨u,hu,hx⟩:=h3 j (g y) (by simp [hj])
   exact ⟨u,hu,h y (List.mem_of_getElem? hj) u hx⟩⟩
 | (false,[x]),h,hx=>h x (by simp) v hx
 | (false,[]),_,_=>trivial
 | (false,_ :: _ :: _),_,_=>trivial
theorem D.tups_unmap {ι ι' : Nat → Nat × Nat} {base base' : Nat} {c c' : Cx} {v : Value} (g : Cell → Cell) {xs : List (Bool × List Cell)} (h : ∀ x ∈ xs,∀ y ∈ x.2,∀ u,(g y).p ι base c u → y.p ι' base' c' u) : D.p ι base c v (.tups (xs.map fun x=>(x.1,x.2.map g))) → D.p ι' base' c' v (.tups xs)
 | ⟨vs,h1,h2,h3⟩=>⟨vs,h1,by simpa using h2,fun j y hj=>by
   obtain ⟨u,hu,hx⟩:=h3 j (y.1,y.2.map g) (by simp [hj])
   exact ⟨u,hu,Co.unmap g (h y (List.mem_of_getElem? hj)) hx⟩⟩
theorem D.tups_imp {ι ι' : Nat → Nat × Nat} {base base' : Nat} {c c' : Cx} {v : Value} {xs : List (Bool × List Cell)} (h : ∀ x ∈ xs,∀ y ∈ x.2,∀ u,y.p ι base c u → y.p ι' base' c' u) (hp : D.p ι base c v (.tups xs)) : D.p ι' base' c' v (.tups xs):=by
 have:=D.tups_map (fun y=>y) h hp
 simpa using this
def P0.d (n : Bool) : P0 → D
 | .one r=>.one (.r n r)
 | .agg rs=>.agg (rs.map (.r n))
theorem P0.d_p {ι : Nat → Nat × Nat} {base : Nat} {c : Cx} {v : Value} {n : Bool} : ∀ {x : P0},(x.d n).p ι base c v ↔ x.p (c.young base n) v
 | .one r=>by simp only [P0.d,D.p,P0.p,Cell.p]
 | .agg rs=>by
  simp only [P0.d,D.p,P0.p,List.length_map]
  refine exists_congr fun vs=>and_congr_right fun _=>and_congr_right fun _=>?_
  constructor
  ·intro h j r hj
   exact h j (.r n r) (by simp [hj])
  ·intro h j x hj
   simp only [List.getElem?_map,Option.map_eq_some_iff] at hj
   obtain ⟨r,hr,rfl⟩:=hj
   exact h j r hr
inductive Ob where
 | var (E : TypeId) (cells : List Cell)
 | sl (E : TypeId) (sz : Nat) (new : Bool) (els : List P0)
def Ob.p (ι : Nat → Nat × Nat) (base : Nat) (c : Cx) (b : Nat × Nat) : Ob → Prop
 | .var E cells=>∃ arr,c.w.heap[b.1]? = some (.cells arr E (0,0)) ∧ b.2 + cells.length ≤ arr.size ∧ ∀ (j : Nat) (x : Cell),cells[j]? = some x → ∃ u,arr[b.2 + j]? = some u ∧ x.p ι base c u
 | .sl E sz n els=>∃ arr,c.w.heap[b.1]? = some (.cells arr E (0,0)) ∧ b.2 + els.length * sz ≤ arr.size ∧ ∀ (i : Nat) (e : P0),els[i]? = some e → e.n = sz ∧ ∀ (j : Nat) (r : R),e.rs[j]? = some r → ∃ u,arr[b.2 + (i * sz + j)]? = some u ∧ r.p (c.young base n) u
def Sized (w w' : World) : Prop:=∀ (b : Nat) (arr : Array Value) (E : TypeId),w.heap[b]? = some (.cells arr E (0,0)) → ∃ arr' : Array Value,w'.heap[b]? = some (.cells arr' E (0,0)) ∧ arr'.size = arr.size
theorem lt_of_heap {w : World} {b : Nat} {o : Obj} (h : w.heap[b]? = some o) : b < w.heap.size:=by
 rcases Nat.lt_or_ge b w.heap.size with h' | h'
 ·exact h'
 ·simp [Array.getElem?_eq_none h'] at h
theorem Sized.of_below {w w' : World} (h : Below w.heap.size w w') : Sized w w':=fun b arr E hb=>⟨arr,by rw [h.block b (lt_of_heap hb)]; exact hb,rfl⟩
theorem Cell.mono {ι : Nat → Nat × Nat} {base : Nat} {c c' : Cx} {v : Value} (h : c.Ext c') (hb : Sized c.w c'.w) : ∀ {x : Cell},x.p ι base c v → x.p ι base c' v
 | .r n x,hx=>x.mono (h.young base n) hx
 | .own ..,⟨o,cap,arr,E,h1,h0,h2,h3,h4,h5⟩=>by
  obtain ⟨arr',g1,g2⟩:=hb _ _ _ h4
  exact ⟨o,cap,arr',E,h1,h0,h2,h3,g1,by rw [g2]; exact h5⟩
 | .ptr ..,hx=>hx
 | .any,hx=>hx
 | .clo ..,hx=>hx
theorem D.mono {ι : Nat → Nat × Nat} {base : Nat} {c c' : Cx} {v : Value} (h : c.Ext c') (hb : Sized c.w c'.w) : ∀ {d : D},d.p ι base c v → d.p ι base c' v
 | .one x,hx=>Cell.mono h hb hx
 | .agg xs,⟨vs,h1,h2,h3⟩=>⟨vs,h1,h2,fun j x hj=>let ⟨u,hu,hx⟩:=h3 j x hj; ⟨u,hu,Cell.mono h hb hx⟩⟩
 | .tup n xs,⟨vs,h1,h2,h3⟩=>⟨vs,h1,h2,fun j x hj=>let ⟨u,hu,hx⟩:=h3 j x hj; ⟨u,hu,P0.mono (h.young base n) hx⟩⟩
 | .any,_=>trivial
 | .tups xs,hx=>D.tups_imp (fun _ _ _ _ _ h1=>Cell.mono h hb h1) hx
structure St where
 n : Nat
 env : Nat → D
 heap : Nat → Option Ob
structure Bs extends World where
 base : Nat
 M : Nat → Prop
 own0 : Nat → Prop
 pin : Nat → Option (Nat × Nat)
 dfs : List Deferred
def pinned : Nat:=1000000000
structure Low (w0 : Bs) (w : World) : Prop where
 os : w.os = w0.os
 tape : w.tape = w0.tape
 output : w.output = w0.output
 size : w0.heap.size ≤ w.heap.size
 block : ∀ b,b < w0.heap.size → ¬ w0.M b → w.heap[b]? = w0.heap[b]?
 sized : Sized w0.toWorld w
def Glob (_ : Nat) (_ : World) : Prop:=True
theorem Glob.mono {b b' : Nat} {w : World} (h : b ≤ b') (g : Glob b w) : Glob b' w:=trivial
theorem Glob.keep {b : Nat} {w w' : World} (h : ∀ k,k < b → w'.heap[k]? = w.heap[k]?) (g : Glob b w) : Glob b w':=trivial
theorem Glob.triv (b : Nat) (w : World) : Glob b w:=trivial
structure Sim' (w0 : Bs) (s : St) (a : Act) (w : World) (ι : Nat → Nat × Nat) (own : Nat → Prop) : Prop where
 below : Low w0 w
 base_ : w0.base ≤ w0.heap.size ∧ Glob w0.base w
 own_ : ∀ b,own b → w0.base ≤ b ∧ b < w.heap.size
 keep : ∀ b,b < w0.heap.size → w0.own0 b → ¬ w0.M b → own b
 frm : ∀ b,own b → w0.own0 b ∨ w0.heap.size ≤ b
 size : a.tmps.size = s.n
 env : ∀ t,(s.env t).p ι w0.base ⟨w,own⟩ (a.tmps.getD t undef)
 heap : ∀ k ob,s.heap k = some ob → own (ι k).1 ∧ ob.p ι w0.base ⟨w,own⟩ (ι k)
 place : ∀ k ob,s.heap k = some ob → w0.heap.size ≤ (ι k).1 ∨ w0.M (ι k).1
 inj : ∀ k k' ob ob',s.heap k = some ob → s.heap k' = some ob' → (ι k).1 = (ι k').1 → k = k'
 defers : a.defers = w0.dfs
 pin : ∀ k p,w0.pin k = some p → ι k = p ∧ pinned ≤ k
def Sim (w0 : Bs) (s : St) (a : Act) (w : World) : Prop:=∃ ι own,Sim' w0 s a w ι own
def upd {α : Type} (f : Nat → α) (t : Nat) (x : α) : Nat → α:=fun u=>if u = t then x else f u
theorem upd_same {α : Type} (f : Nat → α) (t : Nat) (x : α) : upd f t x t = x:=if_pos rfl
theorem upd_ne {α : Type} (f : Nat → α) {t u : Nat} (x : α) (h : u ≠ t) : upd f t x u = f u:=if_neg h
def putE (e : Nat → D) (dst : Option Nat) (d : D) : Nat → D :=
 match dst with
 | some t=>upd e t d
 | none=>e
def cellOf : Value → Cell
 | .slice none 0 0=>.r true (row true 0 [])
 | v=>.r true (val v)
theorem cellOf_p {ι : Nat → Nat × Nat} {base : Nat} {c : Cx} {v : Value} (h : v.oneCell' = true) : (cellOf v).p ι base c v:=by
 unfold cellOf
 split
 ·exact Zas.2 ⟨none,0,rfl,by simp [maxLen],by simp,by simp,fun h=>by simp at h⟩
 ·exact Zx.2 ⟨rfl,h⟩
def evD (e : Nat → D) : Operand → D
 | .tmp t=>e t
 | .const v=>match v with
  | .agg _ | .tuple _=>.any
  | v=>.one (cellOf v)
 | .func f=>.one (.r true (val (.func (.func f) #[] #[])))
 | .global _=>.any
theorem Sim'.ev {w0 : Bs} {s : St} {a : Act} {w : World} {ι : Nat → Nat × Nat} {own : Nat → Prop} (h : Sim' w0 s a w ι own) (x : Operand) : (evD s.env x).p ι w0.base ⟨w,own⟩ (a.eval x):=by
 cases x with
 | tmp t=>exact h.env t
 | const v=>cases v<;>first|trivial|exact cellOf_p rfl
 | func f=>exact (Zx (c:=Cx.young ⟨w,own⟩ w0.base true)).2 ⟨rfl,rfl⟩
 | global g=>trivial
theorem put_size (a : Act) (dst : Option Tmp) (v : Value) : (a.put dst v).tmps.size = a.tmps.size:=by cases dst<;>simp [Act.put]
theorem put_defers (a : Act) (dst : Option Tmp) (v : Value) : (a.put dst v).defers = a.defers:=by cases dst<;>simp [Act.put]
def dstOk (n : Nat) (o : Oper) : Bool:=match o.dst with | some t=>Nat.blt t n | none=>true
def Cell.men (t : Nat) : Cell → Bool
 | .own k _ _ _=>Nat.beq k t
 | .ptr k _ _ _=>Nat.beq k t
 | .clo _ ps=>ps.any fun p=>Nat.beq p.1 t
 | _=>false
def D.men (t : Nat) : D → Bool
 | .one x=>x.men t
 | .agg xs=>xs.any (Cell.men t)
 | .tups xs=>xs.any fun x=>x.2.any (Cell.men t)
 | _=>false
def Ob.men (t : Nat) : Ob → Bool
 | .var _ xs=>xs.any (Cell.men t)
 | .sl ..=>false
def Agree (new : List Nat) (ι ι' : Nat → Nat × Nat) : Prop:=∀ k,k ∉ new → ι' k = ι k
theorem Cell.p_agree {new : List Nat} {ι ι' : Nat → Nat × Nat} {base : Nat} {c : Cx} {v : Value} (ha : Agree new ι ι') : ∀ {x : Cell},(∀ t ∈ new,x.men t = false) → x.p ι base c v → x.p ι' base c v
 | .r n x,_,h=>h
 | .own k j n sz,hm,h=>by
  have : ι' k = ι k:=ha k (fun hk=>by have:=hm k hk; simp [Cell.men] at this)
  simpa only [Cell.p,this] using h
 | .ptr k i sz off,hm,h=>by
  have : ι' k = ι k:=ha k (fun hk=>by have:=hm k hk; simp [Cell.men] at this)
  simpa only [Cell.p,this] using h
 | .any,_,h=>h
 | .clo f ps,hm,h=>by
  have : ptrsV ι' ps = ptrsV ι ps:=ptrsV_eq fun p hp=>ha p.1 (fun hk=>by
   have:=hm p.1 hk
   simp only [Cell.men,List.any_eq_false] at this
   exact this p hp (by simp))
  simpa only [Cell.p,this] using h
theorem D.p_agree {new : List Nat} {ι ι' : Nat → Nat × Nat} {base : Nat} {c : Cx} {v : Value} (ha : Agree new ι ι') : ∀ {x : D},(∀ t ∈ new,x.men t = false) → x.p ι base c v → x.p ι' base c v
 | .one x,hm,h=>Cell.p_agree ha hm h
 | .agg xs,hm,⟨vs,h1,h2,h3⟩=>⟨vs,h1,h2,fun j x hj=>by
   obtain ⟨u,hu,hx⟩:=h3 j x hj
   refine ⟨u,hu,Cell.p_agree ha (fun t ht=>?_) hx⟩
   have:=hm t ht
   simp only [D.men,List.any_eq_false] at this
   simpa using this x (List.mem_of_getElem? hj)⟩
 | .tup n xs,_,h=>h
 | .any,_,_=>trivial
 | .tups xs,hm,h=>D.tups_imp (fun x hx y hy _ h1=>Cell.p_agree ha (fun t ht=>by
   have:=hm t ht
   simp only [D.men,List.any_eq_false] at this
   have:=this x hx
   simp only [Bool.not_eq_true,List.any_eq_false] at this
   simpa using this y hy) h1) h
theorem Ob.p_agree {new : List Nat} {ι ι' : Nat → Nat × Nat} {base : Nat} {c : Cx} {b : Nat × Nat} (ha : Agree new ι ι') : ∀ {x : Ob},(∀ t ∈ new,x.men t = false) → x.p ι base c b → x.p ι' base c b
 | .var E xs,hm,⟨arr,h1,h2,h3⟩=>⟨arr,h1,h2,fun j x hj=>by
   obtain ⟨u,hu,hx⟩:=h3 j x hj
   refine ⟨u,hu,Cell.p_agree ha (fun t ht=>?_) hx⟩
   have:=hm t ht
   simp only [Ob.men,List.any_eq_false] at this
   simpa using this x (List.mem_of_getElem? hj)⟩
 | .sl ..,_,h=>h
theorem Ob.mono {ι : Nat → Nat × Nat} {base : Nat} {c c' : Cx} {b : Nat × Nat} (hx : c.Ext c') (hs : Sized c.w c'.w) (hb : c'.w.heap[b.1]? = c.w.heap[b.1]?) : ∀ {ob : Ob},ob.p ι base c b → ob.p ι base c' b
 | .var E cells,⟨arr,e1,e2,e3⟩=>⟨arr,by rw [hb]; exact e1,e2,fun j x hj=>let ⟨u,hu,hx'⟩:=e3 j x hj; ⟨u,hu,Cell.mono hx hs hx'⟩⟩
 | .sl E sz n els,⟨arr,e1,e2,e3⟩=>⟨arr,by rw [hb]; exact e1,e2,fun i e he=>⟨(e3 i e he).1,fun j r hj=>let ⟨u,hu,hr⟩:=(e3 i e he).2 j r hj; ⟨u,hu,r.mono (hx.young base n) hr⟩⟩⟩
structure Sg where
 d : D
 fp : List Nat
 τ : List Nat
 new : List Nat
 U : List (Nat × Option Ob)
def findU : List (Nat × Option Ob) → Nat → Option (Option Ob)
 | [],_=>none
 | (k,x) :: r,u=>if u = k then some x else findU r u
def appU (U : List (Nat × Option Ob)) (H : Nat → Option Ob) : Nat → Option Ob:=fun k=>(findU U k).getD (H k)
theorem findU_mem : ∀ {U : List (Nat × Option Ob)} {k : Nat} {x : Option Ob},findU U k = some x → (k,x) ∈ U
 | (k0,x0) :: r,k,x,h=>by
  simp only [findU] at h
  split at h
  ·rename_i e; subst e; injection h with h; subst h; simp
  ·exact List.mem_cons_of_mem _ (findU_mem h)
theorem Zbv : ∀ {U : List (Nat × Option Ob)} {k : Nat},findU U k = none ↔ k ∉ U.map (·.1)
 | [],k=>by simp [findU]
 | (k0,x0) :: r,k=>by
  simp only [findU,List.map_cons,List.mem_cons,not_or]
  split
  ·rename_i e; subst e; simp
  ·rename_i e; rw [Zbv]; exact ⟨fun h=>⟨e,h⟩,fun h=>h.2⟩
def resH (fp : List Nat) (H : Nat → Option Ob) : Nat → Option Ob:=fun k=>if k ∈ fp then H k else none
structure Chg (base : Nat) (w w' : World) (ι ι' : Nat → Nat × Nat) (own own' : Nat → Prop) (v : Value) (d : D) (τ new : List Nat) (U : List (Nat × Option Ob)) : Prop where
 os : w'.os = w.os
 tape : w'.tape = w.tape
 output : w'.output = w.output
 size : w.heap.size ≤ w'.heap.size
 block : ∀ b,b < w.heap.size → (∀ k ∈ τ,b ≠ (ι k).1) → w'.heap[b]? = w.heap[b]?
 sized : Sized w w'
 own1 : ∀ b,own b → (∀ k ∈ τ,b ≠ (ι k).1) → own' b
 own2 : ∀ b,own' b → own b ∨ w.heap.size ≤ b
 own3 : ∀ b,own' b → b < w'.heap.size
 same : Agree new ι ι'
 val : d.p ι' base ⟨w',own'⟩ v
 named : ∀ k ob,(k,some ob) ∈ U → own' (ι' k).1 ∧ ob.p ι' base ⟨w',own'⟩ (ι' k) ∧ (w.heap.size ≤ (ι' k).1 ∨ ∃ k0 ∈ τ,(ι' k).1 = (ι k0).1)
 inj : ∀ k ob k' ob',(k,some ob) ∈ U → (k',some ob') ∈ U → (ι' k).1 = (ι' k').1 → k = k'
def Eff (P : Program) (H : Nat → Option Ob) (ev : Operand → D) (o : Oper) (d : D) (τ new : List Nat) (U : List (Nat × Option Ob)) : Prop :=
 ∀ (base : Nat) (a : Act) (w : World) (ι : Nat → Nat × Nat) (own : Nat → Prop),(∀ b,own b → base ≤ b ∧ b < w.heap.size) → (base ≤ w.heap.size ∧ Glob base w) → (∀ x ∈ o.op.operands,(ev x).p ι base ⟨w,own⟩ (a.eval x)) →
  (∀ k ob,H k = some ob → own (ι k).1 ∧ ob.p ι base ⟨w,own⟩ (ι k)) → (∀ k k' ob ob',H k = some ob → H k' = some ob' → (ι k).1 = (ι k').1 → k = k') →
  ∀ (K : Act → World → Prop) (Q : Exit → Act → World → Prop),(∀ v w' ι' own',Chg base w w' ι ι' own own' v d τ new U → K (a.put o.dst v) w') → o.wp P a w K Q
def Sg.fine (σ : Sg) (H : Nat → Option Ob) : Prop :=
 (∀ k ∈ σ.τ,k ∈ σ.fp ∧ (∃ ob,H k = some ob) ∧ k ∈ σ.U.map (·.1)) ∧ (∀ k ∈ σ.new,k ∈ σ.U.map (·.1) ∧ k < pinned)
def Sg.fresh (σ : Sg) (dst : Option Nat) (s : St) : Prop :=
 ∀ t ∈ σ.new,(∀ u,dst ≠ some u → (s.env u).men t = false) ∧ ∀ k ob,k ∉ σ.U.map (·.1) → s.heap k = some ob → ob.men t = false
def St.app (s : St) (dst : Option Nat) (σ : Sg) : St:=⟨s.n,putE s.env dst σ.d,appU σ.U s.heap⟩
theorem Sim'.eff {w0 : Bs} {s : St} {a : Act} {w w' : World} {ι ι' : Nat → Nat × Nat} {own own' : Nat → Prop} {v : Value} {σ : Sg} {dst : Option Nat} (hs : Sim' w0 s a w ι own) (h : Chg w0.base w w' ι ι' own own' v σ.d σ.τ σ.new σ.U) (hf : σ.fine s.heap) (hm : σ.fresh dst s) (ht : ∀ t,dst = some t → t < s.n) :
  Sim' w0 (s.app dst σ) (a.put dst v) w' ι' own':=by
 have hτ : ∀ k ∈ σ.τ,own (ι k).1:=fun k hk=>let ⟨_,⟨ob,ho⟩,_⟩:=hf.1 k hk; (hs.heap k ob ho).1
 have hx : Cx.Ext ⟨w,own⟩ ⟨w',own'⟩:=⟨h.size,fun b hb ho=>(h.own2 b ho).resolve_right (fun h=>by have : b < w.heap.size:=hb; omega),fun b hb ho=>.inl (h.block b hb (fun k hk e=>ho (e ▸ hτ k hk)))⟩
 have hold : ∀ k ob,k ∉ σ.U.map (·.1) → s.heap k = some ob → ι' k = ι k ∧ (∀ k0 ∈ σ.τ,(ι k).1 ≠ (ι k0).1):=fun k ob hk hh=>by
  refine ⟨h.same k (fun hn=>hk (hf.2 k hn).1),fun k0 hk0 e=>?_⟩
  obtain ⟨_,⟨ob0,ho0⟩,hU⟩:=hf.1 k0 hk0
  exact hk (hs.inj k k0 ob ob0 hh ho0 e ▸ hU)
 have happ : ∀ k ob,appU σ.U s.heap k = some ob → (k,some ob) ∈ σ.U ∨ (k ∉ σ.U.map (·.1) ∧ s.heap k = some ob):=fun k ob hk=>by
  unfold appU at hk
  cases hU : findU σ.U k with
  | none=>rw [hU] at hk; exact .inr ⟨Zbv.1 hU,hk⟩
  | some x=>rw [hU] at hk; simp only [Option.getD_some] at hk; subst hk; exact .inl (findU_mem hU)
 have hbs:=Nat.le_trans hs.base_.1 hs.below.size
 refine ⟨⟨h.os.trans hs.below.os,h.tape.trans hs.below.tape,h.output.trans hs.below.output,Nat.le_trans hs.below.size h.size,fun b hb hM=>?_,fun b arr E hb=>?_⟩,⟨hs.base_.1,hs.base_.2.keep (fun b hb=>h.block b (Nat.lt_of_lt_of_le hb hbs) (fun k hk e=>by have:=(hs.own_ _ (hτ k hk)).1; omega))⟩,fun b hb=>?_,fun b hl hb hM=>h.own1 b (hs.keep b hl hb hM) (fun k hk e=>?_),fun b hb=>?_,by rw [put_size]; exact hs.size,fun u=>?_,fun k ob hk=>?_,fun k ob hk=>?_,fun k k' ob ob' hk hk' e=>?_,by rw [put_defers]; exact hs.defers,fun k p hp=>?_⟩
 ·rw [h.block b (Nat.lt_of_lt_of_le hb hs.below.size) (fun k hk e=>?_),hs.below.block b hb hM]
  obtain ⟨_,⟨ob,ho⟩,_⟩:=hf.1 k hk
  rcases hs.place k ob ho with h1 | h1
  ·omega
  ·exact hM (e ▸ h1)
 ·obtain ⟨a1,e1,e2⟩:=hs.below.sized b arr E hb
  obtain ⟨a2,e3,e4⟩:=h.sized b a1 E e1
  exact ⟨a2,e3,e4.trans e2⟩
 ·refine ⟨?_,h.own3 b hb⟩
  rcases h.own2 b hb with h1 | h1
  ·exact (hs.own_ b h1).1
  ·omega
 ·obtain ⟨_,⟨ob,ho⟩,_⟩:=hf.1 k hk
  rcases hs.place k ob ho with h1 | h1
  ·omega
  ·exact hM (e ▸ h1)
 ·rcases h.own2 b hb with h1 | h1
  ·exact hs.frm b h1
  ·exact .inr (Nat.le_trans hs.below.size h1)
 ·have hold' : dst ≠ some u → ((putE s.env dst σ.d) u).p ι' w0.base ⟨w',own'⟩ ((a.put dst v).tmps.getD u undef):=fun hne=>by
   have h1:=D.p_agree h.same (fun t ht=>(hm t ht).1 u hne) (D.mono hx h.sized (hs.env u))
   cases dst with
   | none=>exact h1
   | some t =>
    have htu : t ≠ u:=fun e=>hne (by rw [e])
    simp only [putE,Act.put]
    rw [upd_ne _ _ (Ne.symm htu)]
    simpa [Array.getElem?_setIfInBounds_ne htu] using h1
  by_cases hu : dst = some u
  ·subst hu
   have hlt : u < a.tmps.size:=by rw [hs.size]; exact ht u rfl
   simp only [St.app,putE,Act.put]
   rw [upd_same]
   simpa [hlt] using h.val
  ·exact hold' hu
 ·rcases happ k ob hk with hU | ⟨hn,hh⟩
  ·exact ⟨(h.named k ob hU).1,(h.named k ob hU).2.1⟩
  ·obtain ⟨h1,h2⟩:=hs.heap k ob hh
   obtain ⟨e1,e2⟩:=hold k ob hn hh
   rw [e1]
   exact ⟨h.own1 _ h1 e2,Ob.p_agree h.same (fun t ht=>(hm t ht).2 k ob hn hh) (Ob.mono hx h.sized (h.block _ (hs.own_ _ h1).2 e2) h2)⟩
 ·rcases happ k ob hk with hU | ⟨hn,hh⟩
  ·rcases (h.named k ob hU).2.2 with h1 | ⟨k0,hk0,h1⟩
   ·exact .inl (Nat.le_trans hs.below.size h1)
   ·obtain ⟨_,⟨ob0,ho0⟩,_⟩:=hf.1 k0 hk0
    rw [h1]
    exact hs.place k0 ob0 ho0
  ·rw [(hold k ob hn hh).1]
   exact hs.place k ob hh
 ·rcases happ k ob hk with hU | ⟨hn,hh⟩
  ·rcases happ k' ob' hk' with hU' | ⟨hn',hh'⟩
   ·exact h.inj k ob k' ob' hU hU' e
   ·exfalso
    obtain ⟨e1,e2⟩:=hold k' ob' hn' hh'
    rw [e1] at e
    rcases (h.named k ob hU).2.2 with h1 | ⟨k0,hk0,h1⟩
    ·have:=(hs.own_ _ (hs.heap k' ob' hh').1).2; omega
    ·exact e2 k0 hk0 (e.symm.trans h1)
  ·obtain ⟨e1,e2⟩:=hold k ob hn hh
   rcases happ k' ob' hk' with hU' | ⟨hn',hh'⟩
   ·exfalso
    rw [e1] at e
    rcases (h.named k' ob' hU').2.2 with h1 | ⟨k0,hk0,h1⟩
    ·have:=(hs.own_ _ (hs.heap k ob hh).1).2; omega
    ·exact e2 k0 hk0 (e.trans h1)
   ·rw [e1,(hold k' ob' hn' hh').1] at e
    exact hs.inj k k' ob ob' hh hh' e
 ·obtain ⟨h1,h2⟩:=hs.pin k p hp
  exact ⟨by rw [h.same k (fun hn=>by have:=(hf.2 k hn).2; omega)]; exact h1,h2⟩
def Loc (P : Program) (H : Nat → Option Ob) (ev : Operand → D) (o : Oper) (d : D) : Prop:=Eff P H ev o d [] [] []
theorem Chg.quiet {base : Nat} {w w' : World} {ι : Nat → Nat × Nat} {own : Nat → Prop} {v : Value} {d : D} (ho : ∀ b,own b → base ≤ b ∧ b < w.heap.size) (hb : Below w.heap.size w w') (hd : d.p ι base ⟨w',own⟩ v) : Chg base w w' ι ι own own v d [] [] [] :=
 ⟨hb.os,hb.tape,hb.output,hb.size,fun b h _=>hb.block b h,.of_below hb,fun _ h _=>h,fun _ h=>.inl h,fun b h=>Nat.lt_of_lt_of_le (ho b h).2 hb.size,fun _ _=>rfl,hd,fun k ob h=>by simp at h,fun k ob k' ob' h=>by simp at h⟩
theorem Zal {P : Program} {H : Nat → Option Ob} {ev : Operand → D} {o : Oper} {d : D}
  (h : ∀ (base : Nat) (a : Act) (w : World) (ι : Nat → Nat × Nat) (own : Nat → Prop),(∀ b,own b → base ≤ b ∧ b < w.heap.size) → (∀ x ∈ o.op.operands,(ev x).p ι base ⟨w,own⟩ (a.eval x)) → (∀ k ob,H k = some ob → own (ι k).1 ∧ ob.p ι base ⟨w,own⟩ (ι k)) →
   ∃ v,(execOp a.eval o).run P w = .ok (.value v) w ∧ d.p ι base ⟨w,own⟩ v) : Loc P H ev o d:=by
 intro base a w ι own ho hbase hev hH _ K Q hK
 obtain ⟨v,hr,hd⟩:=h base a w ι own ho hev hH
 unfold Oper.wp
 rw [hr]
 exact hK v w ι own (Chg.quiet ho (Below.refl _ _) hd)
def tyOf (P : Program) (t : TypeId) : Option (Bool × Nat) :=
 match P.info? t,P.underlying t with
 | some i,some (.struct _) | some i,some (.array _ _)=>some (true,i.size)
 | some i,some _=>some (false,i.size)
 | _,_=>none
theorem Zbp {P : Program} {t : TypeId} {ag : Bool} {n : Nat} (h : tyOf P t = some (ag,n)) (w : World) : (isAgg t).run P w = .ok ag w ∧ (sizeOf t).run P w = .ok n w:=by
 unfold tyOf at h
 unfold isAgg sizeOf underlying typeInfo
 cases hi : P.info? t with
 | none=>simp [hi] at h
 | some i =>
  cases hu : P.underlying t with
  | none=>simp [hi,hu] at h
  | some d=>cases d<;>simp [hi,hu] at h ⊢<;>simp [h]
def fldOf (P : Program) (t : TypeId) (f : Nat) : Option (Nat × TypeId) :=
 match P.underlying t with
 | some (.struct fs)=>match fs[f]? with
  | some x=>match P.info? x.type with
   | some i=>if i.size = 0 then none else some (x.offset,x.type)
   | none=>none
  | none=>none
 | _=>none
def slOf (P : Program) (t : TypeId) : Option (TypeId × Nat) :=
 match P.underlying t with
 | some (.slice e)=>match P.info? e with
  | some i=>some (e,i.size)
  | none=>none
 | _=>none
theorem slOf_spec {P : Program} {t e : TypeId} {n : Nat} (h : slOf P t = some (e,n)) : P.underlying t = some (.slice e) ∧ P.elem t = e ∧ ∀ w,(sizeOf e).run P w = .ok n w:=by
 unfold slOf at h
 cases hu : P.underlying t with
 | none=>simp [hu] at h
 | some d =>
  cases d<;>simp [hu] at h
  rename_i e'
  cases hi : P.info? e' with
  | none=>simp [hi] at h
  | some i =>
   simp [hi] at h
   obtain ⟨rfl,rfl⟩:=h
   exact ⟨rfl,by simp [Program.elem,hu],fun w=>by simp [sizeOf,typeInfo,hi]⟩
section
variable {P : Program} {H : Nat → Option Ob} {ev : Operand → D} {o : Oper}
theorem loc_move {d : D} (x : Operand) (ho : o.op = .move x) (hx : ev x = d) : Loc P H ev o d :=
 Zal fun base a w ι own hw he hH=>⟨a.eval x,BigFrame.run_move x ho w,hx ▸ he x (by rw [ho]; simp [Op.operands])⟩
theorem loc_assign {d : D} (x : Operand) (ho : o.op = .assign x) (hx : ev x = d) : Loc P H ev o d :=
 Zal fun base a w ι own hw he hH=>⟨a.eval x,BigFrame.run_assign x ho w,hx ▸ he x (by rw [ho]; simp [Op.operands])⟩
theorem loc_pick_true {n : Bool} {d : D} (c x y : Operand) (ho : o.op = .pick c x y) (hc : ev c = .one (.r n (bool true))) (hx : ev x = d) : Loc P H ev o d :=
 Zal fun base a w ι own hw he hH=>by
  have h1 : (ev c).p ι base ⟨w,own⟩ (a.eval c):=he c (by rw [ho]; simp [Op.operands])
  rw [hc] at h1
  refine ⟨a.eval x,?_,hx ▸ he x (by rw [ho]; simp [Op.operands])⟩
  unfold execOp; simp [ho,h1.1,asBool]
theorem loc_pick_false {n : Bool} {d : D} (c x y : Operand) (ho : o.op = .pick c x y) (hc : ev c = .one (.r n (bool false))) (hy : ev y = d) : Loc P H ev o d :=
 Zal fun base a w ι own hw he hH=>by
  have h1 : (ev c).p ι base ⟨w,own⟩ (a.eval c):=he c (by rw [ho]; simp [Op.operands])
  rw [hc] at h1
  refine ⟨a.eval y,?_,hy ▸ he y (by rw [ho]; simp [Op.operands])⟩
  unfold execOp; simp [ho,h1.1,asBool]
def binR (op : BinOp) (k : IntKind) (a b : Int) : Option Value :=
 match op with
 | .add=>some (.int k (k.wrap (a + b)))
 | .sub=>some (.int k (k.wrap (a - b)))
 | .mul=>some (.int k (k.wrap (a * b)))
 | .eql=>some (.bool (a == b))
 | .neq=>some (.bool (a != b))
 | .lss=>some (.bool (decide (a < b)))
 | .leq=>some (.bool (decide (a ≤ b)))
 | .gtr=>some (.bool (decide (b < a)))
 | .geq=>some (.bool (decide (b ≤ a)))
 | _=>none
theorem binR_one {op : BinOp} {k : IntKind} {a b : Int} {z : Value} (h : binR op k a b = some z) : z.oneCell' = true:=by
 cases op<;>simp [binR] at h<;>subst h<;>rfl
theorem loc_bin {n n' : Bool} {k : IntKind} {p q : Int} {z : Value} (op : BinOp) (t t' : TypeId) (x y : Operand) (ho : o.op = .binOp op t x y t') (hx : ev x = .one (.r n (val (.int k p)))) (hy : ev y = .one (.r n' (val (.int k q)))) (hz : binR op k p q = some z) : Loc P H ev o (.one (.r true (val z))) :=
 Zal fun base a w ι own hw he hH=>by
  have h1 : (ev x).p ι base ⟨w,own⟩ (a.eval x):=he x (by rw [ho]; simp [Op.operands])
  have h2 : (ev y).p ι base ⟨w,own⟩ (a.eval y):=he y (by rw [ho]; simp [Op.operands])
  rw [hx] at h1
  rw [hy] at h2
  refine ⟨z,?_,rfl,binR_one hz⟩
  unfold execOp
  rw [ho]
  simp only [h1.1,h2.1]
  cases op<;>simp [binR] at hz<;>subst hz<;>simp [eqGuard,binOp,Op.intArith,Op.intCmp,go_sem]
theorem loc_div {n n' : Bool} {k : IntKind} {p q : Int} (t t' : TypeId) (x y : Operand) (ho : o.op = .binOp .quo t x y t') (hx : ev x = .one (.r n (val (.int k p)))) (hy : ev y = .one (.r n' (val (.int k q)))) (hq : q ≠ 0) : Loc P H ev o (.one (.r true (val (.int k (k.wrap (p.tdiv q)))))) :=
 Zal fun base a w ι own hw he hH=>by
  have h1 : (ev x).p ι base ⟨w,own⟩ (a.eval x):=he x (by rw [ho]; simp [Op.operands])
  have h2 : (ev y).p ι base ⟨w,own⟩ (a.eval y):=he y (by rw [ho]; simp [Op.operands])
  rw [hx] at h1
  rw [hy] at h2
  refine ⟨_,?_,rfl,rfl⟩
  unfold execOp
  rw [ho]
  simp [h1.1,h2.1,eqGuard,binOp,Op.intDiv,hq]
theorem loc_rem {n n' : Bool} {k : IntKind} {p q : Int} (t t' : TypeId) (x y : Operand) (ho : o.op = .binOp .rem t x y t') (hx : ev x = .one (.r n (val (.int k p)))) (hy : ev y = .one (.r n' (val (.int k q)))) (hq : q ≠ 0) : Loc P H ev o (.one (.r true (val (.int k (p.tmod q))))) :=
 Zal fun base a w ι own hw he hH=>by
  have h1 : (ev x).p ι base ⟨w,own⟩ (a.eval x):=he x (by rw [ho]; simp [Op.operands])
  have h2 : (ev y).p ι base ⟨w,own⟩ (a.eval y):=he y (by rw [ho]; simp [Op.operands])
  rw [hx] at h1
  rw [hy] at h2
  refine ⟨_,?_,rfl,rfl⟩
  unfold execOp
  rw [ho]
  simp [h1.1,h2.1,eqGuard,binOp,Op.intDiv,hq]
theorem loc_not {n p : Bool} (t : TypeId) (x : Operand) (ho : o.op = .unOp .not t x) (hx : ev x = .one (.r n (bool p))) : Loc P H ev o (.one (.r true (bool (!p)))) :=
 Zal fun base a w ι own hw he hH=>by
  have h1 : (ev x).p ι base ⟨w,own⟩ (a.eval x):=he x (by rw [ho]; simp [Op.operands])
  rw [hx] at h1
  refine ⟨_,?_,rfl,rfl⟩
  unfold execOp
  rw [ho]
  simp [h1.1,Op.unary]
theorem equal_bool {P : Program} {t : TypeId} (hT : P.underlying t = some .bool) (p q : Bool) (w : World) : (Op.equal t (.bool p) (.bool q)).run P w = .ok (p == q) w:=by
 unfold Op.equal Op.maxDepth Op.equalIn
 simp [underlying,hT]
theorem loc_neB {n n' p q : Bool} (t t' : TypeId) (x y : Operand) (hT : P.underlying t = some .bool) (ho : o.op = .binOp .neq t x y t') (hx : ev x = .one (.r n (bool p))) (hy : ev y = .one (.r n' (bool q))) : Loc P H ev o (.one (.r true (bool (p != q)))) :=
 Zal fun base a w ι own hw he hH=>by
  have h1 : (ev x).p ι base ⟨w,own⟩ (a.eval x):=he x (by rw [ho]; simp [Op.operands])
  have h2 : (ev y).p ι base ⟨w,own⟩ (a.eval y):=he y (by rw [ho]; simp [Op.operands])
  rw [hx] at h1
  rw [hy] at h2
  refine ⟨.bool (p != q),?_,rfl,rfl⟩
  unfold execOp
  rw [ho]
  simp only [h1.1,h2.1]
  simp [eqGuard,binOp,equal_bool hT]
  cases p<;>cases q<;>rfl
theorem fldOf_spec {t : TypeId} {f off : Nat} {ft : TypeId} (h : fldOf P t f = some (off,ft)) : ∃ fs x,P.underlying t = some (.struct fs) ∧ fs[f]? = some x ∧ x.offset = off ∧ x.type = ft ∧ ∃ n,n ≠ 0 ∧ ∀ w,(sizeOf ft).run P w = .ok n w:=by
 unfold fldOf at h
 cases hu : P.underlying t with
 | none=>simp [hu] at h
 | some d =>
  cases d<;>simp [hu] at h
  rename_i fs
  cases hf : fs[f]? with
  | none=>simp [hf] at h
  | some x =>
   cases hi : P.info? x.type with
   | none=>simp [hf,hi] at h
   | some i =>
    simp only [hf,hi,Option.ite_none_left_eq_some,Option.some.injEq,Prod.mk.injEq] at h
    obtain ⟨h0,h1,h2⟩:=h
    exact ⟨fs,x,rfl,hf,h1,h2,i.size,h0,fun w=>by rw [← h2]; simp [sizeOf,typeInfo,hi]⟩
theorem run_fieldAt {t : TypeId} {f off : Nat} {ft : TypeId} (h : fldOf P t f = some (off,ft)) (b o : Nat) (w : World) : (Instr.fieldAt t (.pointer (some ⟨b,o,none⟩)) f).run P w = .ok (.pointer (some ⟨b,o + off,none⟩)) w:=by
 obtain ⟨fs,x,h1,h2,h3,h4,n,h5,h6⟩:=fldOf_spec h
 unfold Instr.fieldAt
 simp only [Sem.run_bind,underlying,run_program,Result.andThen_ok,h1,Sem.run_pure,h2,Instr.sureAddr,fieldPlace,h4,h6,if_neg h5,h3]
 unfold Addr.add
 by_cases h0 : off = 0
 ·simp [h0]
 ·simp [h0]
theorem loc_field_ptr {k i sz off fo : Nat} {ft : TypeId} (t : TypeId) (x : Operand) (f : Nat) (ho : o.op = .fieldAddr t x f) (hx : ev x = .one (.ptr k i sz off)) (hf : fldOf P t f = some (fo,ft)) : Loc P H ev o (.one (.ptr k i sz (off + fo))) :=
 Zal fun base a w ι own hw he hH=>by
  have h1 : (ev x).p ι base ⟨w,own⟩ (a.eval x):=he x (by rw [ho]; simp [Op.operands])
  rw [hx] at h1
  refine ⟨.pointer (some ⟨(ι k).1,(ι k).2 + (i * sz + (off + fo)),none⟩),?_,rfl⟩
  unfold execOp
  rw [ho]
  have h2 : a.eval x = .pointer (some ⟨(ι k).1,(ι k).2 + (i * sz + off),none⟩):=h1
  simp [h2,run_fieldAt hf,Nat.add_assoc]
def cut (ag : Bool) (n off : Nat) (cs : List Cell) : D:=if ag then .agg ((cs.drop off).take n) else match cs[off]? with | some x=>.one x | none=>.any
def cutP (ag : Bool) (n off : Nat) (rs : List R) : P0:=if ag then .agg ((rs.drop off).take n) else match rs[off]? with | some x=>.one x | none=>.agg []
theorem loc_field_ref {n : Bool} {y : P0} {fo fn : Nat} {ag : Bool} {ft : TypeId} (t : TypeId) (x : Operand) (f : Nat) (ho : o.op = .fieldAddr t x f) (hx : ev x = .one (.r n (ref y))) (hf : fldOf P t f = some (fo,ft)) (hT : tyOf P ft = some (ag,fn)) (hn : fo + fn ≤ y.rs.length) (h1 : ag = true ∨ fn = 1) : Loc P H ev o (.one (.r n (ref (cutP ag fn fo y.rs)))) :=
 Zal fun base a w ι own hw he hH=>by
  have hx1 : (ev x).p ι base ⟨w,own⟩ (a.eval x):=he x (by rw [ho]; simp [Op.operands])
  rw [hx] at hx1
  obtain ⟨b,o',e1,e2,e3,e4⟩:=ref_p.1 hx1
  refine ⟨.pointer (some ⟨b,o' + fo,none⟩),?_,ref_p.2 ⟨b,o' + fo,rfl,e2,e3,?_⟩⟩
  ·unfold execOp
   rw [ho]
   simp [e1,run_fieldAt hf]
  ·intro j r hj
   have : y.rs[fo + j]? = some r:=by
    unfold cutP at hj
    cases ag with
    | true =>
     simp only [if_true,P0.rs,List.getElem?_take,List.getElem?_drop] at hj
     split at hj
     ·exact hj
     ·cases hj
    | false =>
     have hf1 : fn = 1:=by simpa using h1
     have hlt : fo < y.rs.length:=by omega
     have hg : y.rs[fo]? = some y.rs[fo]:=List.getElem?_eq_getElem hlt
     simp only [Bool.false_eq_true,if_false,hg] at hj
     have hj' : [y.rs[fo]][j]? = some r:=hj
     cases j with
     | zero=>simp only [List.getElem?_cons_zero,Option.some.injEq] at hj'; rw [Nat.add_zero,hg,hj']
     | succ j=>simp at hj'
   have:=e4 (fo + j) r this
   rwa [← Nat.add_assoc] at this
theorem loadCells_run {w : World} {b : Nat} : ∀ (n o i : Nat) (acc : Array Value) (vs : List Value),vs.length = n → (∀ j u,vs[j]? = some u → w.cell? ⟨b,o + (i + j),none⟩ = some u) → (loadCellsFrom ⟨b,o,none⟩ i n acc).run P w = .ok (acc ++ vs.toArray) w
 | 0,o,i,acc,vs,hl,_=>by
  have : vs = []:=List.eq_nil_of_length_eq_zero hl
  subst this
  simp [loadCellsFrom]
 | n + 1,o,i,acc,vs,hl,h=>by
  cases vs with
  | nil=>simp at hl
  | cons v vs =>
   have h0:=h 0 v rfl
   have ha : Addr.add ⟨b,o,none⟩ i = ⟨b,o + i,none⟩:=Addr.add_lit b o i
   simp only [loadCellsFrom,Sem.run_bind,ha,run_load]
   rw [show o + (i + 0) = o + i from rfl] at h0
   rw [h0]
   simp only [Result.andThen_ok]
   rw [loadCells_run n o (i + 1) (acc.push v) vs (by simpa using hl) (fun j u hj=>by have:=h (j + 1) u (by simpa using hj); rwa [show i + 1 + j = i + (j + 1) by omega])]
   simp
theorem loadVar_one {t : TypeId} {n : Nat} (hT : tyOf P t = some (false,n)) {w : World} {b o : Nat} {u : Value} (h : w.cell? ⟨b,o,none⟩ = some u) : (loadVar t ⟨b,o,none⟩).run P w = .ok u w:=by
 unfold loadVar
 simp [(Zbp hT w).1,h]
theorem loadVar_agg {t : TypeId} {n : Nat} (hT : tyOf P t = some (true,n)) {w : World} {b o : Nat} {vs : List Value} (hl : vs.length = n) (h : ∀ j u,vs[j]? = some u → w.cell? ⟨b,o + j,none⟩ = some u) : (loadVar t ⟨b,o,none⟩).run P w = .ok (.agg vs.toArray) w:=by
 unfold loadVar loadCells
 simp only [Sem.run_bind,(Zbp hT w).1,Result.andThen_ok,if_true,(Zbp hT w).2]
 rw [loadCells_run n o 0 #[] vs hl (fun j u hj=>by rw [Nat.zero_add]; exact h j u hj)]
 simp
theorem Zbi {w : World} {b o : Nat} {arr : Array Value} {E : TypeId} {f : Nat × Nat} (h : w.heap[b]? = some (.cells arr E f)) : w.cell? ⟨b,o,none⟩ = arr[o]?:=by simp [World.cell?,h]
theorem pick_vals {α : Type} {p : α → Value → Prop} {g : Nat → Option Value} : ∀ (xs : List α),(∀ (j : Nat) (x : α),xs[j]? = some x → ∃ u,g j = some u ∧ p x u) → ∃ vs : List Value,vs.length = xs.length ∧ ∀ (j : Nat) (x : α),xs[j]? = some x → ∃ u,vs[j]? = some u ∧ g j = some u ∧ p x u:=by
 intro xs
 induction xs generalizing g with
 | nil=>intro _; exact ⟨[],rfl,fun j x hj=>by simp at hj⟩
 | cons x xs ih =>
  intro h
  obtain ⟨u,hu,hp⟩:=h 0 x rfl
  obtain ⟨vs,hl,hv⟩:=ih (g:=fun j=>g (j + 1)) (fun j y hj=>h (j + 1) y (by simpa using hj))
  refine ⟨u :: vs,by simp [hl],fun j y hj=>?_⟩
  cases j with
  | zero=>simp at hj; subst hj; exact ⟨u,rfl,hu,hp⟩
  | succ j=>exact hv j y (by simpa using hj)
theorem Zb0 {ι : Nat → Nat × Nat} {base : Nat} {b : Nat × Nat} {w : World} {own : Nat → Prop} {off n : Nat} {ag : Bool} {E : TypeId} {cells : List Cell} {t : TypeId} (hob : (Ob.var E cells).p ι base ⟨w,own⟩ b) (hT : tyOf P t = some (ag,n)) (hn : off + n ≤ cells.length) (h1 : ag = true ∨ n = 1) :
  ∃ v,(loadVar t ⟨b.1,b.2 + off,none⟩).run P w = .ok v w ∧ (cut ag n off cells).p ι base ⟨w,own⟩ v:=by
 obtain ⟨arr,g1,g2,g3⟩:=hob
 cases ag with
 | false =>
  have hn1 : n = 1:=by simpa using h1
  obtain ⟨u,hu,hp⟩:=g3 off cells[off] (List.getElem?_eq_getElem (by omega))
  refine ⟨u,loadVar_one hT (by rw [Zbi g1]; exact hu),?_⟩
  simp only [cut,Bool.false_eq_true,if_false]
  rw [List.getElem?_eq_getElem (by omega)]
  exact hp
 | true =>
  obtain ⟨vs,hl,hv⟩:=pick_vals (p:=fun (x : Cell) u=>x.p ι base ⟨w,own⟩ u) (g:=fun j=>arr[b.2 + (off + j)]?) ((cells.drop off).take n) (fun j x hj=>by
   rw [List.getElem?_take] at hj
   split at hj
   ·rw [List.getElem?_drop] at hj
    exact g3 _ _ hj
   ·cases hj)
  have hlen : vs.length = n:=by rw [hl,List.length_take,List.length_drop]; omega
  refine ⟨.agg vs.toArray,loadVar_agg hT hlen (fun j u hj=>?_),?_⟩
  ·rw [Zbi g1]
   have hjl : j < vs.length:=by
    rcases Nat.lt_or_ge j vs.length with h | h
    ·exact h
    ·rw [List.getElem?_eq_none h] at hj; cases hj
   obtain ⟨u',e1,e2,_⟩:=hv j _ (List.getElem?_eq_getElem (by omega))
   rw [e1] at hj; injection hj with hj; subst hj; rw [Nat.add_assoc]; exact e2
  ·simp only [cut,if_true]
   exact ⟨vs,rfl,hl,fun j x hj=>let ⟨u,e1,_,e3⟩:=hv j x hj; ⟨u,e1,e3⟩⟩
theorem loc_load_var {k off n : Nat} {ag : Bool} {E : TypeId} {cells : List Cell} {d : D} (t : TypeId) (x : Operand) (ho : o.op = .load t x) (hx : ev x = .one (.ptr k 0 0 off)) (hT : tyOf P t = some (ag,n)) (hk : H k = some (.var E cells)) (hn : Nat.ble (off + n) cells.length = true) (h1 : (ag || Nat.beq n 1) = true) (hd : cut ag n off cells = d) : Loc P H ev o d :=
 Zal fun base a w ι own hw he hH=>by
  have hx1 : (ev x).p ι base ⟨w,own⟩ (a.eval x):=he x (by rw [ho]; simp [Op.operands])
  rw [hx] at hx1
  have hx2 : a.eval x = .pointer (some ⟨(ι k).1,(ι k).2 + off,none⟩):=by have : a.eval x = .pointer (some ⟨(ι k).1,(ι k).2 + (0 * 0 + off),none⟩):=hx1; simpa using this
  obtain ⟨v,g1,g2⟩:=Zb0 (hH k _ hk).2 hT (by simpa using hn) (by simpa using h1)
  refine ⟨v,?_,hd ▸ g2⟩
  unfold execOp
  rw [ho]
  simp only [hx2,Sem.run_bind,Instr.loadAt,Instr.sureAddr,Sem.run_pure,Result.andThen_ok,g1]
def mk : Bool → List R → P0
 | false,[r]=>.one r
 | _,rs=>.agg rs
theorem load_cells {c : Cx} {b o n : Nat} {rs : List R} (h : CellsAt c b o rs) {t : TypeId} {ag : Bool} (hT : tyOf P t = some (ag,n)) (hn : rs.length = n) {y : P0} (hy : y = mk ag rs) (h1 : ag = true ∨ n = 1) :
  ∃ v,(loadVar t ⟨b,o,none⟩).run P c.w = .ok v c.w ∧ y.p c v:=by
 cases ag with
 | false =>
  have hn1 : n = 1:=by simpa using h1
  subst hn1
  match rs,hn with
  | [r],_ =>
   obtain ⟨u,hu,hp⟩:=h 0 r rfl
   exact ⟨u,loadVar_one hT (by simpa using hu),by subst hy; exact hp⟩
 | true =>
  obtain ⟨vs,hl,hv⟩:=pick_vals (p:=fun (x : R) u=>x.p c u) (g:=fun j=>c.w.cell? ⟨b,o + j,none⟩) rs h
  refine ⟨.agg vs.toArray,loadVar_agg hT (by omega) (fun j u hj=>?_),?_⟩
  ·have hjl : j < vs.length:=by
    rcases Nat.lt_or_ge j vs.length with h | h
    ·exact h
    ·rw [List.getElem?_eq_none h] at hj; cases hj
   obtain ⟨u',e1,e2,_⟩:=hv j _ (List.getElem?_eq_getElem (by omega))
   rw [e1] at hj; injection hj with hj; subst hj; exact e2
  ·subst hy
   exact ⟨vs,rfl,hl,fun j x hj=>let ⟨u,e1,_,e3⟩:=hv j x hj; ⟨u,e1,e3⟩⟩
theorem loc_load_ref {n : Bool} {m : Nat} {ag : Bool} {y : P0} (t : TypeId) (x : Operand) (ho : o.op = .load t x) (hx : ev x = .one (.r n (ref y))) (hT : tyOf P t = some (ag,m)) (hn : y.rs.length = m) (hy : y = mk ag y.rs) (h1 : ag = true ∨ m = 1) : Loc P H ev o (y.d n) :=
 Zal fun base a w ι own hw he hH=>by
  have hx1 : (ev x).p ι base ⟨w,own⟩ (a.eval x):=he x (by rw [ho]; simp [Op.operands])
  rw [hx] at hx1
  obtain ⟨b,o',e1,e2,e3,e4⟩:=ref_p.1 hx1
  obtain ⟨v,h2,h3⟩:=load_cells e4 hT hn hy h1
  rw [Cx.young_w] at h2
  refine ⟨v,?_,P0.d_p.2 h3⟩
  unfold execOp
  rw [ho]
  simp only [e1,Sem.run_bind,Instr.loadAt,Instr.sureAddr,Sem.run_pure,Result.andThen_ok,h2]
theorem loc_index_row {n n' nil : Bool} {sz : Nat} {els : List P0} {i : Int} {e : P0} {E : TypeId} (t : TypeId) (x ix : Operand) (ho : o.op = .indexAddr t x ix) (hT : slOf P t = some (E,sz)) (hx : ev x = .one (.r n (row nil sz els))) (hi : ev ix = .one (.r n' (int i))) (h0 : 0 ≤ i) (h1 : els[i.toNat]? = some e) : Loc P H ev o (.one (.r n (ref e))) :=
 Zal fun base a w ι own hw he hH=>by
  have hx1 : (ev x).p ι base ⟨w,own⟩ (a.eval x):=he x (by rw [ho]; simp [Op.operands])
  have hi1 : (ev ix).p ι base ⟨w,own⟩ (a.eval ix):=he ix (by rw [ho]; simp [Op.operands])
  rw [hx] at hx1
  rw [hi] at hi1
  obtain ⟨ao,cap,e1,e2,e3,e4,e5⟩:=Zas.1 hx1
  have hlt : i.toNat < els.length:=by
   rcases Nat.lt_or_ge i.toNat els.length with h | h
   ·exact h
   ·rw [List.getElem?_eq_none h] at h1; cases h1
  obtain ⟨b,o',g1,g2,g3,g4⟩:=e5 (by omega)
  obtain ⟨hs1,hs2,hs3⟩:=slOf_spec hT
  have hat : At ao b o' els.length:=.inr g1
  refine ⟨.pointer (some ⟨b,o' + i.toNat * sz,none⟩),?_,ref_p.2 ⟨b,o' + i.toNat * sz,rfl,g2,g3,(g4 _ e h1).2⟩⟩
  unfold execOp
  rw [ho]
  have h3 : a.eval x = .slice ao els.length cap:=e1
  simp only [h3,hi1.1,Sem.run_bind,hat.ixN (c:=cap) sz hs1 hs3 i w h0 (by omega),Result.andThen_ok,Sem.run_pure]
theorem loc_index_own {n' : Bool} {k j m sz : Nat} {i : Int} {E : TypeId} (t : TypeId) (x ix : Operand) (ho : o.op = .indexAddr t x ix) (hT : slOf P t = some (E,sz)) (hx : ev x = .one (.own k j m sz)) (hi : ev ix = .one (.r n' (int i))) (h0 : 0 ≤ i) (h1 : i < m) : Loc P H ev o (.one (.ptr k (j + i.toNat) sz 0)) :=
 Zal fun base a w ι own hw he hH=>by
  have hx1 : (ev x).p ι base ⟨w,own⟩ (a.eval x):=he x (by rw [ho]; simp [Op.operands])
  have hi1 : (ev ix).p ι base ⟨w,own⟩ (a.eval ix):=he ix (by rw [ho]; simp [Op.operands])
  rw [hx] at hx1
  rw [hi] at hi1
  obtain ⟨oo,cap,arr,E',e1,e0,e2,_⟩:=hx1
  obtain rfl : oo = (ι k).2 + j * sz:=e0.resolve_right (by omega)
  obtain ⟨hs1,hs2,hs3⟩:=slOf_spec hT
  have hat : At (some ⟨(ι k).1,(ι k).2 + j * sz,none⟩) (ι k).1 ((ι k).2 + j * sz) m:=.inr rfl
  refine ⟨.pointer (some ⟨(ι k).1,(ι k).2 + j * sz + i.toNat * sz,none⟩),?_,?_⟩
  ·unfold execOp
   rw [ho]
   have h3 : a.eval x = .slice (some ⟨(ι k).1,(ι k).2 + j * sz,none⟩) m cap:=e1
   simp only [h3,hi1.1,Sem.run_bind,hat.ixN (c:=cap) sz hs1 hs3 i w h0 (by omega),Result.andThen_ok,Sem.run_pure]
  ·show _ = Value.pointer (some ⟨(ι k).1,(ι k).2 + ((j + i.toNat) * sz + 0),none⟩)
   rw [Nat.add_mul,Nat.add_zero,Nat.add_assoc]
theorem run_len {t e : TypeId} {sz : Nat} (hT : slOf P t = some (e,sz)) {ty : TypeId} {cs : Array Bool} (ao : Option Addr) (n c : Nat) (w : World) : (invoke (.builtin .len #[t] ty cs) #[.slice ao n c]).run P w = .ok (.value (.int .i64 n)) w:=by
 unfold invoke builtin Builtin.len_
 simp [underlying,(slOf_spec hT).1,goInt]
theorem loc_len_row {n nil : Bool} {sz sz' : Nat} {els : List P0} {E : TypeId} (t : TypeId) (x : Operand) (ho : o.op = .call { callee:=.builtin .len,args:=#[x],argTypes:=#[t] }) (hT : slOf P t = some (E,sz')) (hx : ev x = .one (.r n (row nil sz els))) : Loc P H ev o (.one (.r true (int els.length))) :=
 Zal fun base a w ι own hw he hH=>by
  have hx1 : (ev x).p ι base ⟨w,own⟩ (a.eval x):=he x (by rw [ho]; simp [Op.operands,Call.operands])
  rw [hx] at hx1
  obtain ⟨ao,cap,e1,_⟩:=Zas.1 hx1
  refine ⟨_,?_,rfl,rfl⟩
  unfold execOp
  rw [ho]
  have h3 : a.eval x = .slice ao els.length cap:=e1
  simp only [resolve,Sem.run_bind,Sem.run_pure,Result.andThen_ok,List.map_toArray,List.map_cons,List.map_nil,h3,run_len hT]
theorem loc_len_own {k j m sz sz' : Nat} {E : TypeId} (t : TypeId) (x : Operand) (ho : o.op = .call { callee:=.builtin .len,args:=#[x],argTypes:=#[t] }) (hT : slOf P t = some (E,sz')) (hx : ev x = .one (.own k j m sz)) : Loc P H ev o (.one (.r true (int m))) :=
 Zal fun base a w ι own hw he hH=>by
  have hx1 : (ev x).p ι base ⟨w,own⟩ (a.eval x):=he x (by rw [ho]; simp [Op.operands,Call.operands])
  rw [hx] at hx1
  obtain ⟨oo,cap,arr,E',e1,_⟩:=hx1
  refine ⟨_,?_,rfl,rfl⟩
  unfold execOp
  rw [ho]
  have h3 : a.eval x = .slice (some ⟨(ι k).1,oo,none⟩) m cap:=e1
  simp only [resolve,Sem.run_bind,Sem.run_pure,Result.andThen_ok,List.map_toArray,List.map_cons,List.map_nil,h3,run_len hT]
theorem loc_extractC {xs : List (Bool × List Cell)} {y : Bool × List Cell} {d : D} (x : Operand) (i : Nat) (ho : o.op = .extract x i) (hx : ev x = .tups xs) (hy : xs[i]? = some y) (hd : y.1 = true ∧ d = .agg y.2 ∨ ∃ c,y = (false,[c]) ∧ d = .one c) : Loc P H ev o d :=
 Zal fun base a w ι own hw he hH=>by
  have hx1 : (ev x).p ι base ⟨w,own⟩ (a.eval x):=he x (by rw [ho]; simp [Op.operands])
  rw [hx] at hx1
  obtain ⟨vs,e1,e2,e3⟩:=hx1
  obtain ⟨u,g1,g2⟩:=e3 i y hy
  refine ⟨u,?_,?_⟩
  ·unfold execOp
   rw [ho]
   simp [e1,Instr.extract,g1]
  ·obtain ⟨b,cs⟩:=y
   rcases hd with ⟨h1,h2⟩ | ⟨c,h1,h2⟩
   ·dsimp only at h1 h2
    subst h1; subst h2; exact g2
   ·cases h1; subst h2; exact g2
theorem loc_extract {n : Bool} {xs : List P0} {y : P0} (x : Operand) (i : Nat) (ho : o.op = .extract x i) (hx : ev x = .tup n xs) (hy : xs[i]? = some y) : Loc P H ev o (y.d n) :=
 Zal fun base a w ι own hw he hH=>by
  have hx1 : (ev x).p ι base ⟨w,own⟩ (a.eval x):=he x (by rw [ho]; simp [Op.operands])
  rw [hx] at hx1
  obtain ⟨vs,e1,e2,e3⟩:=hx1
  obtain ⟨u,g1,g2⟩:=e3 i y hy
  refine ⟨u,?_,P0.d_p.2 g2⟩
  unfold execOp
  rw [ho]
  simp [e1,Instr.extract,g1]
end
inductive Res where
 | v (x : P0)
 | tup (xs : List P0)
def Res.p (c : Cx) (v : Value) : Res → Prop
 | .v x=>x.p c v
 | .tup xs=>∃ vs : List Value,v = .tuple vs.toArray ∧ vs.length = xs.length ∧ ∀ (j : Nat) (x : P0),xs[j]? = some x → ∃ u,vs[j]? = some u ∧ x.p c u
def Res.d : Res → D
 | .v x=>x.d true
 | .tup xs=>.tup true xs
theorem Res.d_p {ι : Nat → Nat × Nat} {base : Nat} {c : Cx} {v : Value} : ∀ {x : Res},x.p (c.young base true) v → x.d.p ι base c v
 | .v x,h=>P0.d_p.2 h
 | .tup xs,h=>h
theorem Res.mono {c c' : Cx} {v : Value} (h : c.Ext c') : ∀ {x : Res},x.p c v → x.p c' v
 | .v x,hx=>P0.mono h hx
 | .tup xs,⟨vs,h1,h2,h3⟩=>⟨vs,h1,h2,fun j x hj=>let ⟨u,hu,hx⟩:=h3 j x hj; ⟨u,hu,P0.mono h hx⟩⟩
def Args (c : Cx) : List Value → List P0 → Prop
 | [],[]=>True
 | v :: vs,x :: xs=>x.p c v ∧ Args c vs xs
 | _,_=>False
def Ent (P : Program) (f : FuncId) : Prop:=∀ args w,(callFunc f args).run P w = .ok (.enter f args) w
theorem Za1 {P : Program} {f : FuncId} {fn : Func} {c : Code} (hf : P.funcs[f]? = some fn) (hname : (fn.name == "runtime.NumGoroutine") = false) (hb : fn.body = some c) : Ent P f:=fun args w=>by
 have hn : ¬ fn.name = "runtime.NumGoroutine":=fun e=>by rw [e] at hname; exact absurd hname (by decide)
 unfold callFunc
 simp [hf,hn,hb]
def Fn (P : Program) (f : FuncId) (args : List P0) (res : Res) : Prop :=
 Ent P f ∧ ∀ (w : World) (vs : List Value),Glob w.heap.size w → Args ⟨w,fun _=>False⟩ vs args → Calls P f vs.toArray w (fun e w'=>∃ v,e = .returned v ∧ res.p ⟨w',fun b=>b < w.heap.size⟩ v ∧ Below w.heap.size w w')
def AsArg (H : Nat → Option Ob) (d : D) (x : P0) : Prop :=
 ∀ (ι : Nat → Nat × Nat) (base : Nat) (w : World) (own : Nat → Prop) (v : Value),(∀ k ob,H k = some ob → own (ι k).1 ∧ ob.p ι base ⟨w,own⟩ (ι k)) → d.p ι base ⟨w,own⟩ v → x.p ⟨w,fun _=>False⟩ v
theorem asArg_r {H : Nat → Option Ob} {n : Bool} {r : R} : AsArg H (.one (.r n r)) (.one r):=fun ι base w own v hH h =>
 r.mono (Cx.Ext.sub (by rw [Cx.young_w]) (fun b (hb : False)=>hb.elim)) h
def AsArgs (H : Nat → Option Ob) (ev : Operand → D) : List Operand → List P0 → Prop
 | [],[]=>True
 | x :: xs,y :: ys=>AsArg H (ev x) y ∧ AsArgs H ev xs ys
 | _,_=>False
theorem args_of {H : Nat → Option Ob} {ev : Operand → D} {ι : Nat → Nat × Nat} {base : Nat} {w : World} {own : Nat → Prop} {e : Operand → Value} (hH : ∀ k ob,H k = some ob → own (ι k).1 ∧ ob.p ι base ⟨w,own⟩ (ι k)) :
  ∀ (xs : List Operand) (ys : List P0),(∀ x ∈ xs,(ev x).p ι base ⟨w,own⟩ (e x)) → AsArgs H ev xs ys → Args ⟨w,fun _=>False⟩ (xs.map e) ys
 | [],[],_,_=>trivial
 | x :: xs,y :: ys,h,⟨h1,h2⟩=>⟨h1 ι base w own _ hH (h x (by simp)),args_of hH xs ys (fun x hx=>h x (by simp [hx])) h2⟩
 | [],_ :: _,_,h=>h.elim
 | _ :: _,[],_,h=>h.elim
theorem loc_call {P : Program} {H : Nat → Option Ob} {ev : Operand → D} {o : Oper} {f : FuncId} {res : Res} {ys : List P0} (xs : List Operand) (tys : Array TypeId) (ho : o.op = .call { callee:=.value (.func f),args:=xs.toArray,argTypes:=tys }) (ha : AsArgs H ev xs ys) (hf : Fn P f ys res) : Loc P H ev o res.d:=by
 intro base a w ι own hown hbase hev hH _ K Q hK
 have hm : ∀ x ∈ xs,(ev x).p ι base ⟨w,own⟩ (a.eval x):=fun x hx=>hev x (by rw [ho]; simp [Op.operands,Call.operands,hx])
 have hA:=args_of hH xs ys hm ha
 have hrun : (execOp a.eval o).run P w = .ok (.enter f (xs.map a.eval).toArray) w:=by
  unfold execOp
  rw [ho]
  simp [resolve,Act.eval,Deferred.ofValue,invoke,hf.1 _ _]
 unfold Oper.wp
 rw [hrun,Oper.upon_enter]
 refine (hf.2 w _ (hbase.2.mono hbase.1) hA).mono ?_
 rintro e w' ⟨v,rfl,hp,hb⟩
 have hx : Cx.Ext ⟨w',fun b=>b < w.heap.size⟩ (Cx.young ⟨w',own⟩ base true):=Cx.Ext.sub rfl (by
  intro b hb'
  rcases hb' with h | h
  ·exact (hown b h).2
  ·exact Nat.lt_of_lt_of_le h hbase.1)
 exact hK v w' ι own (Chg.quiet hown hb (Res.d_p (Res.mono hx hp)))
def look : List (Nat × D) → Nat → D
 | []=>fun _=>.any
 | (t,d) :: l=>upd (look l) t d
def lookH : List (Nat × Ob) → Nat → Option Ob
 | []=>fun _=>none
 | (k,o) :: l=>upd (lookH l) k (some o)
def mkS (n : Nat) (l : List (Nat × D)) (h : List (Nat × Ob)) : St:=⟨n,look l,lookH h⟩
theorem Chg.fresh {base : Nat} {w w' : World} {ι : Nat → Nat × Nat} {own : Nat → Prop} {t : Nat} {g : Nat × Nat} {ob : Ob} {d : D} {v : Value} (hown : ∀ b,own b → base ≤ b ∧ b < w.heap.size) (hb : Below w.heap.size w w') (hg : w.heap.size ≤ g.1) (hg' : g.1 < w'.heap.size) (ho : ob.p (upd ι t g) base ⟨w',fun b=>own b ∨ b = g.1⟩ g) (hd : d.p (upd ι t g) base ⟨w',fun b=>own b ∨ b = g.1⟩ v) :
  Chg base w w' ι (upd ι t g) own (fun b=>own b ∨ b = g.1) v d [] [t] [(t,some ob)] :=
 ⟨hb.os,hb.tape,hb.output,hb.size,fun b h _=>hb.block b h,.of_below hb,fun _ h _=>.inl h,fun b h=>by
   rcases h with h | h
   ·exact .inl h
   ·exact .inr (by rw [h]; exact hg),fun b h=>by
   rcases h with h | h
   ·exact Nat.lt_of_lt_of_le (hown b h).2 hb.size
   ·rw [h]; exact hg',
  fun k hk=>upd_ne _ _ (fun e=>hk (by simp [e])),hd,fun k ob' h=>by
   obtain ⟨rfl,rfl⟩ : k = t ∧ ob' = ob:=by simpa using h
   rw [upd_same]; exact ⟨.inr rfl,ho,.inl hg⟩,fun k ob1 k' ob2 h h' _=>by
   obtain ⟨rfl,rfl⟩ : k = t ∧ ob1 = ob:=by simpa using h
   obtain ⟨rfl,rfl⟩ : k' = k ∧ ob2 = ob1:=by simpa using h'
   rfl⟩
theorem ext_write {w w' : World} {ι : Nat → Nat × Nat} {own : Nat → Prop} {k : Nat} (hko : own (ι k).1) (hg : w.grownBy w' (some (ι k).1)) (hz : w'.heap.size = w.heap.size) : Cx.Ext ⟨w,own⟩ ⟨w',own⟩:=⟨by simp [hz],fun _ _ h=>h,fun b h1 h2=>.inl (hg.block b h1 (fun e=>by injection e with e; subst e; exact h2 hko))⟩
theorem Chg.write {base : Nat} {w w' : World} {ι : Nat → Nat × Nat} {own : Nat → Prop} {k : Nat} {ob' : Ob} {v : Value} (hown : ∀ b,own b → base ≤ b ∧ b < w.heap.size) (hko : own (ι k).1) (hg : w.grownBy w' (some (ι k).1)) (hz : w'.heap.size = w.heap.size) (hsz : Sized w w') (ho : ob'.p ι base ⟨w',own⟩ (ι k)) :
  Chg base w w' ι ι own own v .any [k] [] [(k,some ob')] :=
 ⟨hg.os,hg.tape,hg.output,hg.size,fun b h hn=>hg.block b h (fun e=>by injection e with e; exact hn k (by simp) e),hsz,fun _ h _=>h,fun _ h=>.inl h,fun b h=>by rw [hz]; exact (hown b h).2,
  fun _ _=>rfl,trivial,fun k1 ob1 h=>by
   obtain ⟨rfl,rfl⟩ : k1 = k ∧ ob1 = ob':=by simpa using h
   exact ⟨hko,ho,.inr ⟨k1,by simp,rfl⟩⟩,fun k1 ob1 k' ob2 h h' _=>by
   obtain ⟨rfl,rfl⟩ : k1 = k ∧ ob1 = ob':=by simpa using h
   obtain ⟨rfl,rfl⟩ : k' = k1 ∧ ob2 = ob1:=by simpa using h'
   rfl⟩
theorem cells_agree {t : Nat} {g : Nat × Nat} {ι : Nat → Nat × Nat} : Agree [t] ι (upd ι t g):=fun k hk=>upd_ne _ _ (fun e=>hk (by simp [e]))
def zOf (P : Program) (t : TypeId) : Option (List Value):=match P.info? t with | some i=>(match i.zero with | some v=>if v.cells.toList.all Value.oneCell' then some v.cells.toList else none | none=>none) | none=>none
theorem newVar_run {P : Program} (t : TypeId) (v : Value) (w : World) : (newVar t v).run P w = .ok ⟨w.heap.size,0,none⟩ (w.alloc (.cells v.cells t)):=by
 unfold newVar newRow
 simp
theorem Zbd (w : World) (o : Obj) : Below w.heap.size w (w.alloc o):=(Below.refl _ _).alloc (Nat.le_refl _) o
theorem Zbk (w : World) (o : Obj) : (w.alloc o).heap[w.heap.size]? = some o:=by
 show (w.heap.push o)[w.heap.size]? = some o
 simp
theorem size_new (w : World) (o : Obj) : (w.alloc o).heap.size = w.heap.size + 1:=by
 show (w.heap.push o).size = _
 simp
theorem eff_alloc {P : Program} {o : Oper} {t : Nat} {H : Nat → Option Ob} {ev : Operand → D} {zs : List Value} (E : TypeId) (ho : o.op = .alloc E) (hz : zOf P E = some zs) :
  Eff P H ev o (.one (.ptr t 0 0 0)) [] [t] [(t,some (.var E (zs.map cellOf)))]:=by
 intro base a w ι own hown hbase hev hH _ K Q hK
 unfold zOf at hz
 cases hi : P.info? E with
 | none=>simp [hi] at hz
 | some i =>
  cases hv : i.zero with
  | none=>simp [hi,hv] at hz
  | some v =>
   simp only [hi,hv,Option.ite_none_right_eq_some,Option.some.injEq] at hz
   obtain ⟨hall,rfl⟩:=hz
   have hrun : (execOp a.eval o).run P w = .ok (.value (.pointer (some ⟨w.heap.size,0,none⟩))) (w.alloc (.cells v.cells E)):=by
    unfold execOp
    rw [ho]
    simp [Instr.alloc,zeroValue,typeInfo,hi,hv,newVar_run]
   unfold Oper.wp
   rw [hrun,Oper.upon_value]
   refine hK _ _ _ _ (Chg.fresh (g:=(w.heap.size,0)) hown (Zbd _ _) (Nat.le_refl _) (by rw [size_new]; omega) ?_ ?_)
   ·refine ⟨v.cells,Zbk _ _,by simp,fun j x hj=>?_⟩
    simp only [List.getElem?_map,Option.map_eq_some_iff] at hj
    obtain ⟨u,hu,rfl⟩:=hj
    refine ⟨u,by simpa using hu,cellOf_p ?_⟩
    exact List.all_eq_true.1 hall u (List.mem_of_getElem? hu)
   ·show _ = Value.pointer _
    rw [upd_same]
def D.cells : D → Option (List Cell)
 | .one x=>some [x]
 | .agg xs=>some xs
 | _=>none
theorem D.cells_p {ι : Nat → Nat × Nat} {base : Nat} {c : Cx} {v : Value} : ∀ {d : D} {xs : List Cell},d.cells = some xs → d.p ι base c v → v.cells.size = xs.length ∧ ∀ (j : Nat) (x : Cell),xs[j]? = some x → ∃ u,v.cells[j]? = some u ∧ x.p ι base c u
 | .one x,xs,hc,h=>by
  injection hc with hc
  subst hc
  have h1 : v.cells = #[v]:=by have:=Cell.one h;cases v<;>first|rfl|(simp [Value.oneCell'] at this)
  rw [h1]
  refine ⟨rfl,fun j y hj=>?_⟩
  cases j with
  | zero=>simp at hj; subst hj; exact ⟨v,rfl,h⟩
  | succ j=>simp at hj
 | .agg xs,_,hc,⟨vs,h1,h2,h3⟩=>by
  injection hc with hc
  subst hc
  subst h1
  exact ⟨by simpa [Value.cells] using h2,fun j x hj=>let ⟨u,hu,hx⟩:=h3 j x hj; ⟨u,by simpa [Value.cells] using hu,hx⟩⟩
 | .tup _ _,_,hc,_=>by cases hc
 | .tups _,_,hc,_=>by cases hc
 | .any,_,hc,_=>by cases hc
theorem D.cells_men {t : Nat} : ∀ {d : D} {xs : List Cell},d.cells = some xs → d.men t = xs.any (Cell.men t)
 | .one x,_,h=>by injection h with h; subst h; simp [D.men]
 | .agg xs,_,h=>by injection h with h; subst h; rfl
 | .tup _ _,_,h=>by cases h
 | .tups _,_,h=>by cases h
 | .any,_,h=>by cases h
theorem eff_box {P : Program} {o : Oper} {t : Nat} {H : Nat → Option Ob} {ev : Operand → D} {d : D} {cs : List Cell} (E : TypeId) (x : Operand) (ho : o.op = .box E x) (hx : ev x = d) (hc : d.cells = some cs) (hdm : d.men t = false) :
  Eff P H ev o (.one (.ptr t 0 0 0)) [] [t] [(t,some (.var E cs))]:=by
 intro base a w ι own hown hbase hev hH _ K Q hK
 have hrun : (execOp a.eval o).run P w = .ok (.value (.pointer (some ⟨w.heap.size,0,none⟩))) (w.alloc (.cells (a.eval x).cells E)):=by
  unfold execOp
  rw [ho]
  simp [Instr.box,newVar_run]
 unfold Oper.wp
 rw [hrun,Oper.upon_value]
 have hv:=hev x (by rw [ho]; simp [Op.operands])
 rw [hx] at hv
 obtain ⟨h1,h2⟩:=D.cells_p hc hv
 refine hK _ _ _ _ (Chg.fresh (g:=(w.heap.size,0)) hown (Zbd _ _) (Nat.le_refl _) (by rw [size_new]; omega) ?_ ?_)
 ·refine ⟨(a.eval x).cells,Zbk _ _,by rw [h1]; simp,fun j y hj=>?_⟩
  obtain ⟨u,hu,hy⟩:=h2 j y hj
  refine ⟨u,by simpa using hu,Cell.p_agree cells_agree (fun t' ht'=>?_) (Cell.mono (c:=⟨w,own⟩) (c':=⟨w.alloc (.cells (a.eval x).cells E),fun b=>own b ∨ b = w.heap.size⟩) ?_ (.of_below (Zbd w _)) hy)⟩
  ·obtain rfl : t' = t:=by simpa using ht'
   rw [D.cells_men hc] at hdm
   simp only [List.any_eq_false] at hdm
   simpa using hdm y (List.mem_of_getElem? hj)
  ·exact ⟨(Zbd w _).size,fun b hb' h=>by
    rcases h with h | h
    ·exact h
    ·have h1 : b < w.heap.size:=hb'
     have h2 : b = w.heap.size:=h
     omega,fun b h1 _=>.inl ((Zbd w _).block b h1)⟩
 ·show _ = Value.pointer _
  rw [upd_same]
theorem Zb3 {P : Program} {b : Nat} {E : TypeId} : ∀ (vs : List Value) (o i : Nat) (w : World) (arr : Array Value),(∀ v ∈ vs,v.oneCell' = true) → w.heap[b]? = some (.cells arr E (0,0)) → o + i + vs.length ≤ arr.size →
  ∃ (w' : World) (arr' : Array Value),(storeCells ⟨b,o,none⟩ vs i).run P w = .ok () w' ∧ w'.heap[b]? = some (.cells arr' E (0,0)) ∧ arr'.size = arr.size ∧ (∀ j,arr'[j]? = if o + i ≤ j ∧ j < o + i + vs.length then vs[j - (o + i)]? else arr[j]?) ∧ w.grownBy w' (some b) ∧ w'.heap.size = w.heap.size
 | [],o,i,w,arr,_,hb,hl=>⟨w,arr,rfl,hb,rfl,fun j=>by rw [if_neg (by simp only [List.length_nil]; omega)],World.grownBy.refl w _,rfl⟩
 | v :: vs,o,i,w,arr,h1,hb,hl=>by
  simp only [List.length_cons] at hl
  have ha : Addr.add ⟨b,o,none⟩ i = ⟨b,o + i,none⟩:=Addr.add_lit b o i
  have hc : w.cell? ⟨b,o + i,none⟩ = some arr[o + i]:=by rw [Zbi hb]; exact Array.getElem?_eq_getElem (by omega)
  have hf : w.frozen? ⟨b,o + i,none⟩ = false:=by simp [World.frozen?,hb]
  have hb1 : (w.setCell ⟨b,o + i,none⟩ v).heap[b]? = some (.cells (arr.setIfInBounds (o + i) v) E (0,0)):=by
   show (w.heap.modify b _)[b]? = _
   have hlt:=lt_of_heap hb
   rw [Array.getElem?_eq_getElem (by simpa using hlt),Array.getElem_modify_self]
   have : w.heap[b] = .cells arr E (0,0):=by simpa [Array.getElem?_eq_getElem hlt] using hb
   rw [this]
   rfl
  obtain ⟨w',arr',g1,g2,g3,g4,g5,g6⟩:=Zb3 (P:=P) vs o (i + 1) (w.setCell ⟨b,o + i,none⟩ v) (arr.setIfInBounds (o + i) v) (fun u hu=>h1 u (by simp [hu])) hb1 (by simp; omega)
  refine ⟨w',arr',?_,g2,by rw [g3]; simp,?_,gb_trans ?_ g5,by rw [g6]; simp [World.setCell]⟩
  ·simp only [storeCells,Sem.run_bind,ha,run_store P w _ v .plain (h1 v (by simp)),hc,hf]
   exact g1
  ·intro j
   rw [g4 j]
   by_cases hj : j = o + i
   ·subst hj
    rw [if_neg (by omega),if_pos (by simp only [List.length_cons]; omega)]
    have : o + i < arr.size:=by omega
    simp [this]
   ·by_cases h2 : o + (i + 1) ≤ j ∧ j < o + (i + 1) + vs.length
    ·rw [if_pos h2,if_pos (by simp only [List.length_cons]; omega),show j - (o + i) = (j - (o + (i + 1))) + 1 by omega,List.getElem?_cons_succ]
    ·rw [if_neg h2,if_neg (by simp only [List.length_cons]; omega),Array.getElem?_setIfInBounds_ne (by omega)]
  ·exact gb_set (gb_refl w (some b)) (.inl rfl) v
theorem storeVar_run {P : Program} {t : TypeId} {ag : Bool} {n b o : Nat} {E : TypeId} {v : Value} (hT : tyOf P t = some (ag,n)) (w : World) (arr : Array Value) (hn : v.cells.size = n) (h1 : ∀ (j : Nat) (u : Value),v.cells[j]? = some u → u.oneCell' = true) (hb : w.heap[b]? = some (.cells arr E (0,0))) (hl : o + n ≤ arr.size) :
  ∃ (w' : World) (arr' : Array Value),(storeVar t ⟨b,o,none⟩ v).run P w = .ok () w' ∧ w'.heap[b]? = some (.cells arr' E (0,0)) ∧ arr'.size = arr.size ∧ (∀ j,arr'[j]? = if o ≤ j ∧ j < o + n then v.cells[j - o]? else arr[j]?) ∧ w.grownBy w' (some b) ∧ w'.heap.size = w.heap.size:=by
 obtain ⟨w',arr',g1,g2,g3,g4,g5,g6⟩:=Zb3 (P:=P) v.cells.toList o 0 w arr (fun u hu=>by obtain ⟨j,hj⟩:=List.getElem?_of_mem hu; exact h1 j u (by simpa using hj)) hb (by simp; omega)
 refine ⟨w',arr',?_,g2,g3,fun j=>?_,g5,g6⟩
 ·unfold storeVar
  simp only [Sem.run_bind,(Zbp hT w).2,Result.andThen_ok,hn,ne_eq,not_true_eq_false,if_false,g1]
 ·rw [g4 j]
  simp [hn]
def splice (off : Nat) (xs cs : List Cell) : List Cell:=cs.take off ++ xs ++ cs.drop (off + xs.length)
theorem splice_get {off : Nat} {xs cs : List Cell} (h : off + xs.length ≤ cs.length) (j : Nat) : (splice off xs cs)[j]? = if off ≤ j ∧ j < off + xs.length then xs[j - off]? else cs[j]?:=by
 unfold splice
 have hl : (cs.take off).length = off:=by rw [List.length_take]; omega
 by_cases h1 : j < off
 ·rw [List.append_assoc,List.getElem?_append_left (by omega),List.getElem?_take,if_pos h1,if_neg (by omega)]
 ·by_cases h2 : j < off + xs.length
  ·rw [if_pos ⟨by omega,h2⟩,List.getElem?_append_left (by simp; omega),List.getElem?_append_right (by omega),hl]
  ·rw [if_neg (by omega),List.getElem?_append_right (by simp; omega),List.getElem?_drop]
   congr 1
   simp
   omega
theorem splice_len {off : Nat} {xs cs : List Cell} (h : off + xs.length ≤ cs.length) : (splice off xs cs).length = cs.length:=by
 unfold splice
 simp
 omega
theorem eff_store {P : Program} {o : Oper} {k off m : Nat} {ag : Bool} {H : Nat → Option Ob} {ev : Operand → D} {d : D} {E : TypeId} {xs cells : List Cell} (t : TypeId) (x y : Operand) (ho : o.op = .store t x y) (hd : o.dst = none) (hx : ev x = .one (.ptr k 0 0 off)) (hT : tyOf P t = some (ag,m)) (hk : H k = some (.var E cells)) (hy : ev y = d) (hc : d.cells = some xs) (hl : xs.length = m) (hn : Nat.ble (off + m) cells.length = true) :
  Eff P H ev o .any [k] [] [(k,some (.var E (splice off xs cells)))]:=by
 intro base a w ι own hown hbase hev hH _ K Q hK
 have hx1:=hev x (by rw [ho]; simp [Op.operands])
 rw [hx] at hx1
 have hx2 : a.eval x = .pointer (some ⟨(ι k).1,(ι k).2 + off,none⟩):=by have : a.eval x = .pointer (some ⟨(ι k).1,(ι k).2 + (0 * 0 + off),none⟩):=hx1; simpa using this
 have hv:=hev y (by rw [ho]; simp [Op.operands])
 rw [hy] at hv
 obtain ⟨g1,g2⟩:=D.cells_p hc hv
 obtain ⟨hko,arr,e1,e2,e3⟩:=hH k _ hk
 have hnn : off + m ≤ cells.length:=by simpa using hn
 obtain ⟨w',arr',f1,f2,f3,f4,f5,f6⟩:=storeVar_run (P:=P) (o:=(ι k).2 + off) hT w arr (by rw [g1,hl]) (fun j u hj=>by
  have hjl : j < xs.length:=by rw [← g1]; rcases Nat.lt_or_ge j (a.eval y).cells.size with h | h; exact h; rw [Array.getElem?_eq_none h] at hj; cases hj
  obtain ⟨u',h1,h2⟩:=g2 j _ (List.getElem?_eq_getElem hjl)
  rw [h1] at hj; injection hj with hj; subst hj; exact Cell.one h2) e1 (by omega)
 have hrun : (execOp a.eval o).run P w = .ok .skip w':=by
  unfold execOp
  rw [ho]
  simp [hx2,Instr.storeAt,Instr.sureAddr,f1]
 unfold Oper.wp
 rw [hrun,Oper.upon_skip,hd]
 have hsz : Sized w w':=fun b ar T hb=>by
  by_cases hbk : b = (ι k).1
  ·subst hbk
   have e1' : w.heap[(ι k).1]? = some (.cells arr E (0,0)):=e1
   rw [e1'] at hb
   injection hb with hb
   injection hb with hb1 hb2
   subst hb1 hb2
   exact ⟨arr',f2,f3⟩
  ·exact ⟨ar,by rw [f5.block b (lt_of_heap hb) (fun e=>by injection e with e; exact hbk e)]; exact hb,rfl⟩
 have hK':=hK undef
 rw [hd] at hK'
 have hxx:=ext_write (own:=own) hko f5 f6
 refine hK' _ _ _ (Chg.write hown hko f5 f6 hsz ⟨arr',f2,by rw [f3,splice_len (by omega)]; exact e2,fun j z hj=>?_⟩)
 rw [splice_get (by omega)] at hj
 rw [f4]
 rw [hl] at hj
 by_cases hjj : off ≤ j ∧ j < off + m
 ·rw [if_pos hjj] at hj
  rw [if_pos (by omega)]
  obtain ⟨u,hu,hz⟩:=g2 _ z hj
  exact ⟨u,by rw [show (ι k).2 + j - ((ι k).2 + off) = j - off by omega]; exact hu,Cell.mono hxx hsz hz⟩
 ·rw [if_neg hjj] at hj
  rw [if_neg (by omega)]
  obtain ⟨u,hu,hz⟩:=e3 j z hj
  exact ⟨u,hu,Cell.mono hxx hsz hz⟩
end Go.Proofs.Ytmkijbfiilpccaa.Abs
