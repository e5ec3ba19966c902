/- Draws by states: lists of bytes, frames, disks. No statement of the seat is proved here. -/
import Derived.Lib.Hide
import Derived.Test.YtmkijbfiilpccaaLaTy
import Derived.Test.YtmkijbfiilpccaaLaASpCD
set_option linter.unusedSimpArgs false
set_option linter.unusedVariables false
namespace Go.Proofs.Ytmkijbfiilpccaa.Abs
open Go.RowKit
open R (val row ref)
theorem ints_setQ (xs : List Int) (i : Nat) (x : Int) : (ints xs).set i (iP x) = ints (xs.set i x):=by unfold ints; rw [List.map_set]
def takeH (k m : Nat) : List (Nat × Ob) → List (Nat × Ob)
 | []=>[]
 | (u,ob) :: h=>(u,bif Nat.beq u k then (match ob with | .sl E sz new els=>.sl E sz new (els.take m) | x=>x) else ob) :: takeH k m h
theorem sl_take {ι : Nat → Nat × Nat} {base : Nat} {c : Cx} {b : Nat × Nat} {E : TypeId} {sz : Nat} {new : Bool} {els : List P0} (m : Nat) (h : (Ob.sl E sz new els).p ι base c b) : (Ob.sl E sz new (els.take m)).p ι base c b:=by
 obtain ⟨arr,h1,h2,h3⟩:=h
 refine ⟨arr,h1,?_,fun i e he=>h3 i e ?_⟩
 ·have : (els.take m).length * sz ≤ els.length * sz:=Nat.mul_le_mul_right _ (by rw [List.length_take]; omega)
  omega
 ·rw [List.getElem?_take] at he
  split at he
  ·exact he
  ·cases he
theorem takeH_get (k m : Nat) : ∀ (h : List (Nat × Ob)) (u : Nat) (ob : Ob),lookH (takeH k m h) u = some ob → ∃ ob0,lookH h u = some ob0 ∧ (ob = ob0 ∨ ∃ E sz new els,ob0 = .sl E sz new els ∧ ob = .sl E sz new (els.take m))
 | [],u,ob,h=>by cases h
 | (v,o) :: h,u,ob,hx=>by
  simp only [takeH,lookH] at hx ⊢
  by_cases e : u = v
  ·subst e
   rw [upd_same] at hx ⊢
   refine ⟨o,rfl,?_⟩
   injection hx with hx
   cases hk : Nat.beq u k with
   | false=>rw [hk] at hx; exact .inl hx.symm
   | true =>
    rw [hk] at hx
    cases o with
    | var E cs=>exact .inl hx.symm
    | sl E sz new els=>exact .inr ⟨E,sz,new,els,rfl,hx.symm⟩
  ·rw [upd_ne _ _ e] at hx ⊢
   exact takeH_get k m h u ob hx
theorem weak_take {n : Nat} {l : List (Nat × D)} {h : List (Nat × Ob)} (k m : Nat) : Weak (mkS n l h) (mkS n l (takeH k m h)):=by
 rintro w0 a w ⟨ι,own,hs⟩
 refine ⟨ι,own,hs.below,hs.base_,hs.own_,hs.keep,hs.frm,hs.size,hs.env,fun x ob hx=>?_,fun x ob hx=>?_,fun x x' ob ob' hx hx' e=>?_,hs.defers,hs.pin⟩
 ·obtain ⟨ob0,h0,h1⟩:=takeH_get k m h x ob hx
  obtain ⟨q1,q2⟩:=hs.heap x ob0 h0
  refine ⟨q1,?_⟩
  rcases h1 with rfl | ⟨E,sz,new,els,rfl,rfl⟩
  ·exact q2
  ·exact sl_take m q2
 ·obtain ⟨ob0,h0,_⟩:=takeH_get k m h x ob hx
  exact hs.place x ob0 h0
 ·obtain ⟨o,h0,_⟩:=takeH_get k m h x ob hx
  obtain ⟨o',h0',_⟩:=takeH_get k m h x' ob' hx'
  exact hs.inj x x' o o' h0 h0' e
end Go.Proofs.Ytmkijbfiilpccaa.Abs
