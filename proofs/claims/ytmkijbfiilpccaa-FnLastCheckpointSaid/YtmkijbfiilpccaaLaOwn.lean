/- Rows that the call owns: what they read as, how they stay, append and make on them. No statement of the seat is proved here. -/
import Derived.WalkKit
import Derived.WalkSpells
import Derived.Lib.Hide
import Derived.Handy
import Derived.Deep.Draws
import Derived.Maps.AppendAt
import Derived.Deep.AppendLies
import Derived.OneCell
import Derived.Test.YtmkijbfiilpccaaLaLib
set_option linter.unusedSimpArgs false
set_option linter.unusedVariables false
namespace Go.Proofs.Ytmkijbfiilpccaa
open Go.RowKit
structure El (P : Program) (T E size bytes : Nat) (z : Value) : Prop where
 sl : P.underlying T = some (.slice E)
 info : ∃ i,P.info? E = some i ∧ i.zero = some z ∧ i.size = size ∧ i.bytes = bytes
 cells : z.cells.size = size
 pos : 0 < size
theorem El.size_ {P : Program} {T E size bytes : Nat} {z : Value} (h : El P T E size bytes z) (w : World) : (sizeOf E).run P w = .ok size w:=by
 obtain ⟨i,hi,_,hs,_⟩:=h.info
 simp [sizeOf,typeInfo,hi,hs]
def Src (w : World) (bo : Option Addr) (m size : Nat) (ys : List Value) : Prop :=
 ys.length = m * size ∧ (0 < m → ∃ b o,bo = some ⟨b,o,none⟩ ∧ ∀ j u,ys[j]? = some u → w.cell? ⟨b,o + j,none⟩ = some u)
section
variable {w w' : World} {base E size n c : Nat} {ao : Option Addr} {cs : List Value}
theorem frozen_new (w : World) (cs : Array Value) (E i : Nat) : (w.alloc (.cells cs E)).frozen? ⟨w.heap.size,i,none⟩ = false:=by
 have h:=heap_alloc_new w (.cells cs E)
 unfold World.frozen?
 rw [h]
 simp
theorem Src.at_ {bo : Option Addr} {m : Nat} {ys : List Value} (h : Src w bo m size ys) : ∃ b o,At bo b o m ∧ (∀ j u,ys[j]? = some u → w.cell? ⟨b,o + j,none⟩ = some u):=by
 rcases Nat.eq_zero_or_pos m with h0 | h0
 ·subst h0
  have : ys = []:=List.eq_nil_of_length_eq_zero (by simpa using h.1)
  subst this
  exact ⟨0,0,.zero _ _ _,fun j u hu=>by simp at hu⟩
 ·obtain ⟨b,o,hb,hc⟩:=h.2 h0
  exact ⟨b,o,.inr hb,hc⟩
theorem Src.new (w : World) (ys : Array Value) (T m : Nat) (hl : ys.size = m * size) : Src (w.alloc (.cells ys T)) (some ⟨w.heap.size,0,none⟩) m size ys.toList :=
 ⟨by simpa using hl,fun _=>⟨w.heap.size,0,rfl,fun j u hu=>by
  rw [Nat.zero_add,World.cell?_alloc_at _ _ _ _ rfl]
  simpa using hu⟩⟩
theorem keeps_alloc (w : World) (o : Obj) : Keeps w (w.alloc o):=fun a ha=>World.cell?_alloc_lt w o a ha
end
abbrev iv (xs : List Int) : List Value:=xs.map (Value.int .i64)
theorem ints_of {w : World} {b o : Nat} {xs : List Int} (hc : ∀ j u,(iv xs)[j]? = some u → w.cell? ⟨b,o + j,none⟩ = some u) : Ints w b o xs:=fun i hi=>by
 rw [hc i (.int .i64 (xs.getD i 0)) (by simp [List.getD,hi])]
theorem Src.ints {w : World} {bo : Option Addr} {xs : List Int} (h : Src w bo xs.length 1 (iv xs)) : ∃ b o,At bo b o xs.length ∧ Ints w b o xs :=
 let ⟨b,o,ha,hc⟩:=h.at_; ⟨b,o,ha,ints_of hc⟩
section
variable {P : Program} (w : World)
end
theorem gb_refl (w : World) (row : Option Nat) : w.grownBy w row:=World.grownBy.refl w row
theorem gb_trans {a b c : World} {row : Option Nat} (h : a.grownBy b row) (k : b.grownBy c row) : a.grownBy c row :=
 ⟨k.os.trans h.os,k.tape.trans h.tape,k.output.trans h.output,Nat.le_trans h.size k.size,fun i hi hne=>(k.block i (Nat.lt_of_lt_of_le hi h.size) hne).trans (h.block i hi hne)⟩
theorem gb_set {a w : World} {g : Nat} (h : a.grownBy w (some g)) {p : Addr} (hp : p.block = g ∨ a.heap.size ≤ p.block) (u : Value) : a.grownBy (w.setCell p u) (some g) :=
 ⟨h.os,h.tape,h.output,by simpa [World.setCell] using h.size,fun i hi hne=>(Below.heap_setCell w p u i (by
  rintro rfl
  rcases hp with hp | hp
  ·exact hne (by rw [hp])
  ·omega)).trans (h.block i hi hne)⟩
end Go.Proofs.Ytmkijbfiilpccaa
