/- Rows that the call owns: what they read as, how they stay, append and make on them. No statement of the seat is proved here. -/
import Derived.WalkKit
import Derived.WalkSpells
import Derived.Lib.Hide
import Derived.Handy
import Derived.Deep.Draws
import Derived.Maps.AppendAt
import Derived.Deep.AppendLies
import Derived.OneCell
import Derived.Test.YtmkijbfiilpccaaXlLib
set_option linter.unusedSimpArgs false
set_option linter.unusedVariables false
namespace Go.Proofs.Ytmkijbfiilpccaa
open Go.RowKit
def blk (ao : Option Addr) : Option Nat:=ao.map (·.block)
theorem ownBlock_slice (ao : Option Addr) (n c : Nat) : (Value.slice ao n c).ownBlock = blk ao:=by cases ao<;>rfl
def Own (w : World) (base E size : Nat) (ao : Option Addr) (n c : Nat) (cs : List Value) : Prop:=w.ownsRow base E size (.slice ao n c) n cs
structure El (P : Program) (T E size bytes : Nat) (z : Value) : Prop where
 sl : P.underlying T = some (.slice E)
 info : ∃ i,P.info? E = some i ∧ i.zero = some z ∧ i.size = size ∧ i.bytes = bytes
 cells : z.cells.size = size
 pos : 0 < size
theorem El.size_ {P : Program} {T E size bytes : Nat} {z : Value} (h : El P T E size bytes z) (w : World) : (sizeOf E).run P w = .ok size w:=by
 obtain ⟨i,hi,_,hs,_⟩:=h.info
 simp [sizeOf,typeInfo,hi,hs]
def Src (w : World) (bo : Option Addr) (m size : Nat) (ys : List Value) : Prop :=
 ys.length = m * size ∧ (0 < m → ∃ b o,bo = some ⟨b,o,none⟩ ∧ ∀ j u,ys[j]? = some u → w.cell? ⟨b,o + j,none⟩ = some u)
section
variable {w w' : World} {base E size n c : Nat} {ao : Option Addr} {cs : List Value}
theorem Own.nil_ (w : World) (base E size : Nat) : Own w base E size none 0 0 []:=⟨by simp,.inl ⟨rfl,rfl⟩⟩
theorem Own.cap_ (h : Own w base E size ao n c cs) : n ≤ c ∧ c ≤ maxLen:=by
 rcases h.2 with ⟨hv,hn⟩ | ⟨g,cap,cur,hv,_,_,hnc,hcm,_⟩
 ·simp at hv; obtain ⟨_,_,rfl⟩:=hv; subst hn; simp [maxLen]
 ·simp at hv; obtain ⟨_,rfl⟩:=hv; exact ⟨hnc,hcm⟩
theorem Own.form_ (h : Own w base E size ao n c cs) : (ao = none ∧ n = 0 ∧ c = 0) ∨ ∃ g,ao = some ⟨g,0,none⟩ ∧ base ≤ g ∧ g < w.heap.size:=by
 rcases h.2 with ⟨hv,hn⟩ | ⟨g,cap,cur,hv,hb,hh,_⟩
 ·simp at hv; exact .inl ⟨hv.1,hn,hv.2.2⟩
 ·simp at hv
  exact .inr ⟨g,hv.1,hb,(Array.getElem?_eq_some_iff.1 hh).1⟩
theorem Own.lt_ (h : Own w base E size ao n c cs) : ∀ g,blk ao = some g → base ≤ g ∧ g < w.heap.size:=by
 intro g hg
 rcases h.form_ with ⟨rfl,_⟩ | ⟨g',rfl,h1,h2⟩
 ·simp [blk] at hg
 ·simp [blk] at hg; subst hg; exact ⟨h1,h2⟩
theorem Own.kept_ {row : Option Nat} (h : Own w base E size ao n c cs) (hg : w.grownBy w' row) (hne : ∀ g,blk ao = some g → row ≠ some g) : Own w' base E size ao n c cs:=by
 refine World.ownsRow.kept h hg ?_
 rw [ownBlock_slice]
 cases hb : blk ao with
 | none=>exact .inl rfl
 | some g=>exact .inr (fun e=>hne g hb e.symm)
theorem Own.below_ {B : Nat} (h : Own w base E size ao n c cs) (hb : Below B w w') (hB : w.heap.size ≤ B) : Own w' base E size ao n c cs :=
 h.kept_ (row:=none) ⟨hb.os,hb.tape,hb.output,hb.size,fun k hk _=>hb.block k (by omega)⟩ (fun _ _=>by simp)
theorem Own.set_other (h : Own w base E size ao n c cs) {a : Addr} (ha : blk ao ≠ some a.block) (u : Value) : Own (w.setCell a u) base E size ao n c cs :=
 ownsRow_setCell_other h (by rw [ownBlock_slice]; exact ha) u
theorem Own.set_at {g : Nat} (h : Own w base E size (some ⟨g,0,none⟩) n c cs) (j : Nat) (u : Value) : Own (w.setCell ⟨g,j,none⟩ u) base E size (some ⟨g,0,none⟩) n c (cs.set j u):=(World.ownsRow.stored h j u).1
theorem Own.cell_at {g : Nat} (h : Own w base E size (some ⟨g,0,none⟩) n c cs) (j : Nat) (hj : j < n * size) : w.cell? ⟨g,j,none⟩ = cs[j]?:=World.ownsRow.cellAt h j hj
theorem Own.frozen_at {g : Nat} (h : Own w base E size (some ⟨g,0,none⟩) n c cs) (j : Nat) : w.frozen? ⟨g,j,none⟩ = false:=World.ownsRow.frozenAt h j
theorem Own.mono_ {base' : Nat} (h : Own w base E size ao n c cs) (hb : base' ≤ base) : Own w base' E size ao n c cs:=by
 refine ⟨h.1,?_⟩
 rcases h.2 with h0 | ⟨g,cap,cur,hv,hg,r⟩
 ·exact .inl h0
 ·exact .inr ⟨g,cap,cur,hv,by omega,r⟩
theorem Src.at_ {bo : Option Addr} {m : Nat} {ys : List Value} (h : Src w bo m size ys) : ∃ b o,At bo b o m ∧ (∀ j u,ys[j]? = some u → w.cell? ⟨b,o + j,none⟩ = some u):=by
 rcases Nat.eq_zero_or_pos m with h0 | h0
 ·subst h0
  have : ys = []:=List.eq_nil_of_length_eq_zero (by simpa using h.1)
  subst this
  exact ⟨0,0,.zero _ _ _,fun j u hu=>by simp at hu⟩
 ·obtain ⟨b,o,hb,hc⟩:=h.2 h0
  exact ⟨b,o,.inr hb,hc⟩
theorem keeps_alloc (w : World) (o : Obj) : Keeps w (w.alloc o):=fun a ha=>World.cell?_alloc_lt w o a ha
end
abbrev iv (xs : List Int) : List Value:=xs.map (Value.int .i64)
theorem ints_of {w : World} {b o : Nat} {xs : List Int} (hc : ∀ j u,(iv xs)[j]? = some u → w.cell? ⟨b,o + j,none⟩ = some u) : Ints w b o xs:=fun i hi=>by
 rw [hc i (.int .i64 (xs.getD i 0)) (by simp [List.getD,hi])]
theorem Src.ints {w : World} {bo : Option Addr} {xs : List Int} (h : Src w bo xs.length 1 (iv xs)) : ∃ b o,At bo b o xs.length ∧ Ints w b o xs :=
 let ⟨b,o,ha,hc⟩:=h.at_; ⟨b,o,ha,ints_of hc⟩
section
variable {P : Program} (w : World)
end
theorem gb_refl (w : World) (row : Option Nat) : w.grownBy w row:=World.grownBy.refl w row
theorem gb_trans {a b c : World} {row : Option Nat} (h : a.grownBy b row) (k : b.grownBy c row) : a.grownBy c row :=
 ⟨k.os.trans h.os,k.tape.trans h.tape,k.output.trans h.output,Nat.le_trans h.size k.size,fun i hi hne=>(k.block i (Nat.lt_of_lt_of_le hi h.size) hne).trans (h.block i hi hne)⟩
theorem gb_set {a w : World} {g : Nat} (h : a.grownBy w (some g)) {p : Addr} (hp : p.block = g ∨ a.heap.size ≤ p.block) (u : Value) : a.grownBy (w.setCell p u) (some g) :=
 ⟨h.os,h.tape,h.output,by simpa [World.setCell] using h.size,fun i hi hne=>(Below.heap_setCell w p u i (by
  rintro rfl
  rcases hp with hp | hp
  ·exact hne (by rw [hp])
  ·omega)).trans (h.block i hi hne)⟩
theorem madeCells_one (v : Value) (n : Nat) : (madeCells #[v] (n * 1)).toList = List.replicate n v:=by
 apply List.ext_getElem?
 intro i
 simp only [madeCells,Nat.mul_one,Array.toList_map,Array.toList_range,List.getElem?_map,List.getElem?_replicate]
 by_cases h : i < n
 ·simp [h,Nat.mod_one]
 ·simp [h]
theorem wp_make {P : Program} (w : World) {ops : Array Oper} {rest : List Oper} {o : Oper} {a : Act} {Q : Exit → Act → World → Prop} {T E size bytes : Nat} {z : Value} (hE : El P T E size bytes z) (hgd : o.guard = none)
  (l c : Operand) (ho : o.op = Op.makeSlice T l c) (base : Nat) {kl kc : IntKind} (n : Nat) (hl : a.eval l = .int kl (n : Int)) (hc : a.eval c = .int kc (n : Int))
  (hb2 : bytes * n ≤ 281474976710656) (h63 : n ≤ maxLen) (hbase : base ≤ w.heap.size)
  (h : ∀ w',Own w' base E size (some ⟨w.heap.size,0,none⟩) n n (madeCells z.cells (n * size)).toList → w.grownBy w' none → wpList P ops Q rest (a.put o.dst (.slice (some ⟨w.heap.size,0,none⟩) n n)) w') :
  wpList P ops Q (o :: rest) a w:=by
 obtain ⟨i,hi,hz,hsz,hby⟩:=hE.info
 exact wpList_make_full w hgd l c T ho base E i z size hE.sl hi hz hsz kl kc _ _ n hl hc rfl rfl (by rw [hby]; exact hb2) h63 hbase h
theorem fill_step {α : Type} (f : List α) (z : α) (k : Nat) (h : k < f.length) : (f.take k ++ List.replicate (f.length - k) z).set k f[k] = f.take (k + 1) ++ List.replicate (f.length - (k + 1)) z:=by
 have h1 : (f.take k).length = k:=by rw [List.length_take]; omega
 rw [List.set_append_right _ _ (by omega),h1,Nat.sub_self,show f.length - k = (f.length - (k + 1)) + 1 by omega,List.replicate_succ,List.set_cons_zero,
  List.take_succ_eq_append_getElem h,List.append_assoc]
 rfl
theorem fill_get {α : Type} (f : List α) (z : α) (k : Nat) (h : k < f.length) : (f.take k ++ List.replicate (f.length - k) z)[k]? = some z:=by
 have h1 : (f.take k).length = k:=by rw [List.length_take]; omega
 rw [List.getElem?_append_right (by omega),h1,Nat.sub_self,List.getElem?_replicate,if_pos (by omega)]
theorem fill_all {α : Type} (f : List α) (z : α) (k : Nat) (h : f.length ≤ k) : f.take k ++ List.replicate (f.length - k) z = f:=by
 rw [List.take_of_length_le h,show f.length - k = 0 by omega,List.replicate_zero,List.append_nil]
end Go.Proofs.Ytmkijbfiilpccaa
