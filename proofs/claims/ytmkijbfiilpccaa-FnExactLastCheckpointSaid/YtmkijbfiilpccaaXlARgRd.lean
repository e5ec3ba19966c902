/- A range over a function whose iterator makes each element anew: the rule, and walks of such an iterator. No statement of the seat is proved here. -/
import Derived.RangeFuncFrom
import Derived.RangeFuncCalls
import Derived.RangeFuncLeaves
import Derived.RangeFuncBound
import Derived.LoopNIn
import Derived.Lib.Hide
import Derived.OrdersIn
import Derived.TacticsIn
import Derived.Test.YtmkijbfiilpccaaXlTy
import Derived.Test.YtmkijbfiilpccaaXlAbsX
import Derived.Test.YtmkijbfiilpccaaXlADat
set_option linter.unusedSimpArgs false
set_option linter.unusedVariables false
namespace Go.Proofs.Ytmkijbfiilpccaa.Abs
open Go.RowKit
open R (val row ref)
open Go.RowKit
def bsI (A : World) (O : Nat → Prop) (b0 : Nat) : Bs:={ toWorld:=A,base:=b0,M:=fun _=>False,own0:=O,pin:=fun _=>none,dfs:=[] }
section
variable {J : (Nat → Prop) → List (Value × List Int) → World → Prop} {b0 n N l : Nat} {P : Program}
theorem op_wide {o : Oper} {a : Act} {w : World} {K : Act → World → Prop} {Q : Exit → Act → World → Prop} (h : o.wp P a w K Q) : o.wpIn Fence.wide n P a w K Q:=by
 refine ⟨fun _ _=>trivial,?_⟩
 show o.uponIn Fence.wide n P a K Q ((execOp a.eval o).run P w)
 unfold Oper.wp at h
 revert h
 generalize (execOp a.eval o).run P w = r
 intro h
 cases r with
 | ok x w' =>
  cases x with
  | value v=>exact h
  | skip=>exact h
  | defer d=>exact h
  | enter f args =>
   refine ⟨fun hd=>(by cases hd),?_⟩
   have h' : Calls P f args w' _:=h
   refine (callsIn_wide.2 h').mono ?_
   intro e w'' he
   cases e<;>exact he
  | row row args=>exact ⟨fun hd=>(by cases hd),fun c cs _=>let ⟨v,w',r,s⟩:=h c cs; ⟨v,w',r,stepsIn_wide.2 s⟩⟩
  | _=>exact h.elim
 | halt e w' =>
  cases e<;>first|exact h|exact h.elim
theorem Zaj {ops : Array Oper} {Z : List Sg → Bool} {w0 : Bs} {Q : Exit → Act → World → Prop} {K : St → Prop} (l2 : List Oper) (hK : ∀ s' a w,K s' → Sim w0 s' a w → wpListIn Fence.wide n P ops Q l2 a w) : ∀ (l : List Oper) (s : St),W P ops Z l s none K → ∀ a w,Sim w0 s a w → wpListIn Fence.wide n P ops Q (l ++ l2) a w
 | [],s,h,a,w,hs=>hK s a w h.2 hs
 | o :: rest,s,h,a,w,hs=>by
  obtain ⟨g,σ,hg,hd,h1,h2,hW⟩:=h
  refine wpListIn_step fun K' hK'=>?_
  rw [hg.wanted hs]
  cases g with
  | true =>
   obtain ⟨he,hf,hm⟩:=h1 rfl
   simp only [if_true]
   exact op_wide (hs.step he hf hm (Zbs hd) (Q:=Q) (fun a' w' hs'=>hK' _ _ (Zaj l2 hK rest _ hW a' w' hs')))
  | false =>
   simp only [Bool.false_eq_true,if_false]
   have:=h2 rfl
   subst this
   exact ⟨fun _ _=>trivial,hK' _ _ (Zaj l2 hK rest _ hW _ _ (hs.skip o.dst (Zbs hd)))⟩
theorem look_none : ∀ {l : List (Nat × D)} {t : Nat},(∀ p ∈ l,p.1 ≠ t) → look l t = .any
 | [],t,_=>rfl
 | (u,d) :: l,t,h=>by
  show upd (look l) u d t = .any
  rw [upd_ne _ _ (fun e=>h (u,d) (by simp) e.symm)]
  exact look_none (fun p hp=>h p (by simp [hp]))
theorem put_getD {a : Act} {td t : Nat} {v : Value} (h : t ≠ td) : (a.put (some td) v).tmps.getD t undef = a.tmps.getD t undef:=by
 show (a.tmps.setIfInBounds td v).getD t undef = _
 simp [Array.getElem?_setIfInBounds,Ne.symm h]
theorem put_getD_same {a : Act} {td : Nat} {v : Value} (h : td < a.tmps.size) : (a.put (some td) v).tmps.getD td undef = v:=by
 show (a.tmps.setIfInBounds td v).getD td undef = _
 simp [h]
end
end Go.Proofs.Ytmkijbfiilpccaa.Abs
