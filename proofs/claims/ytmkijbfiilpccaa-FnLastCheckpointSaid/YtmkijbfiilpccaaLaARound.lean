/- Rounds of a range over a function, by states. No statement of the seat is proved here. -/
import Derived.RangeFuncFrom
import Derived.RangeFuncCalls
import Derived.OrdersIn
import Derived.TacticsIn
import Derived.Lib.Hide
import Derived.Test.YtmkijbfiilpccaaLaTy
import Derived.Test.YtmkijbfiilpccaaLaAbsX
set_option linter.unusedSimpArgs false
set_option linter.unusedVariables false
namespace Go.Proofs.Ytmkijbfiilpccaa.Abs
open Go.RowKit
open R (val row ref)
theorem rowsIn_of {l n : Nat} {P : Program} {row : String} {args : Array Value} {w : World} {R : Value → World → Prop} (h : Go.Rows P row args w R) : RowsIn (Fence.wide.inRound l) n P row args w R:=fun c cs _ =>
 let ⟨v,w',r,s⟩:=h c cs
 ⟨v,w',r,by rw [fenced_inRound]; exact stepsIn_wide.2 s⟩
theorem op_in {l n : Nat} {P : Program} {o : Oper} {a : Act} {w : World} {K : Act → World → Prop} {Q : Exit → Act → World → Prop} (hd : ∀ c,o.op ≠ .defer c) (h : o.wp P a w K Q) : o.wpIn (Fence.wide.inRound l) n P a w K Q:=by
 refine ⟨fun _ _=>trivial,?_⟩
 rw [show (Fence.wide.inRound l).round = some l from rfl,Oper.semAt_some l _ o hd]
 unfold Oper.wp at h
 revert h
 generalize (execOp a.eval o).run P w = r
 intro h
 cases r with
 | ok x w' =>
  cases x with
  | value v=>exact h
  | skip=>exact h
  | defer d=>exact h
  | enter f args =>
   refine ⟨fun hd=>(by cases hd),?_⟩
   have h' : Calls P f args w' _:=h
   refine (CallsIn.inRound l (callsIn_wide.2 h')).mono ?_
   intro e w'' he
   cases e<;>exact he
  | row row args=>exact ⟨fun hd=>(by cases hd),rowsIn_of h⟩
  | _=>exact h.elim
 | halt e w' =>
  cases e<;>first|exact h|exact h.elim
theorem nd_of {P : Program} {H : Nat → Option Ob} {ev : Operand → D} {o : Oper} {d : D} {τ new : List Nat} {U : List (Nat × Option Ob)} (he : Eff P H ev o d τ new U) {base : Nat} {a : Act} {w : World} {ι : Nat → Nat × Nat} {own : Nat → Prop}
  (h1 : ∀ b,own b → base ≤ b ∧ b < w.heap.size) (h2 : base ≤ w.heap.size ∧ Glob base w) (h3 : ∀ x ∈ o.op.operands,(ev x).p ι base ⟨w,own⟩ (a.eval x)) (h4 : ∀ k ob,H k = some ob → own (ι k).1 ∧ ob.p ι base ⟨w,own⟩ (ι k)) (h5 : ∀ k k' ob ob',H k = some ob → H k' = some ob' → (ι k).1 = (ι k').1 → k = k') :
  ∀ c,o.op ≠ .defer c:=by
 intro c hc
 have h:=he base a w ι own h1 h2 h3 h4 h5 (fun a' _=>a'.defers = a.defers) (fun _ _ _=>False) (fun v w' ι' own' _=>put_defers a o.dst v)
 unfold Oper.wp execOp at h
 rw [hc] at h
 simp only [Sem.run_bind] at h
 revert h
 generalize (resolve a.eval c o.type).run P w = r
 intro h
 cases r with
 | ok x w' =>
  simp only [Result.andThen_ok,Sem.run_pure,Oper.upon_defer] at h
  have h' : ({ a with defers:=x :: a.defers } : Act).defers = a.defers:=by rw [← put_defers _ o.dst undef]; exact h
  simp at h'
 | halt e w'=>cases e<;>exact h.elim
def AWi (l : Nat) (P : Program) (c : Code) (s : St) (Q : Exit → St → Prop) : Prop:=∀ (n : Nat) w0 a w,Sim w0 s a w → c.wpIn (Fence.wide.inRound l) n P (Post w0 Q) a w
theorem Sim.stepI {l n : Nat} {P : Program} {w0 : Bs} {s : St} {a : Act} {w : World} {o : Oper} {σ : Sg} (hs : Sim w0 s a w) (he : Eff P (resH σ.fp s.heap) (evD s.env) o σ.d σ.τ σ.new σ.U) (hf : σ.fine s.heap) (hm : σ.fresh o.dst s) (ht : ∀ t,o.dst = some t → t < s.n) {K : Act → World → Prop} {Q : Exit → Act → World → Prop} (hK : ∀ a' w',Sim w0 (s.app o.dst σ) a' w' → K a' w') : o.wpIn (Fence.wide.inRound l) n P a w K Q:=by
 have hw:=hs.step he hf hm ht (Q:=Q) hK
 obtain ⟨ι,own,hs⟩:=hs
 exact op_in (nd_of he hs.own_ ⟨Nat.le_trans hs.base_.1 hs.below.size,hs.base_.2⟩ (fun x _=>hs.ev x) (fun k ob hk=>hs.heap k ob (Zcy hk)) (fun k k' ob ob' hk hk'=>hs.inj k k' ob ob' (Zcy hk) (Zcy hk'))) hw
theorem Zdg {r m : Nat} {P : Program} {ops : Array Oper} {Z : List Sg → Bool} {w0 : Bs} {Q : Exit → St → Prop} : ∀ (l : List Oper) (s : St),W P ops Z l s none (fun s'=>Q .normal s') → ∀ a w,Sim w0 s a w → wpListIn (Fence.wide.inRound r) m P ops (Post w0 Q) l a w
 | [],s,h,a,w,hs=>wpListIn_nil ⟨s,h.2,hs⟩
 | o :: rest,s,h,a,w,hs=>by
  obtain ⟨g,σ,hg,hd,h1,h2,hW⟩:=h
  refine wpListIn_step fun K hK=>?_
  rw [hg.wanted hs]
  cases g with
  | true =>
   obtain ⟨he,hf,hm⟩:=h1 rfl
   simp only [if_true]
   exact hs.stepI he hf hm (Zch hd) (fun a' w' hs'=>hK _ _ (Zdg rest _ hW a' w' hs'))
  | false =>
   simp only [Bool.false_eq_true,if_false]
   have:=h2 rfl
   subst this
   exact ⟨fun _ _=>trivial,hK _ _ (Zdg rest _ hW _ _ (hs.skip o.dst (Zch hd)))⟩
section
variable {P : Program} {ops : Array Oper} {Sf : Nat → Sg} {tab : Nat → Nat}
end
section
variable {l : Nat} {P : Program} {s : St} {Q : Exit → St → Prop}
theorem awi_block {id : Nat} {c : Code} (h : AWi l P c s (Blk id Q)) : AWi l P (.block id c) s Q := fun n w0 a w hs =>
  wpIn_block (wpIn_mono (h n w0 a w hs) fun e a w ⟨s', hq, hs'⟩ => by
    cases e <;> first
      | exact ⟨s', hq, hs'⟩
      | (rename_i i
         simp only [Blk] at hq
         simp only [Exit.inBlock]
         split at hq <;> rename_i he
         · rw [if_pos he]; exact ⟨s', hq, hs'⟩
         · rw [if_neg he]; exact ⟨s', hq, hs'⟩))
theorem awi_region {id : Nat} {ops : List Oper} (h : W P ops.toArray (fun _=>true) ops s none (fun s'=>Q .normal s')) : AWi l P (.region id ops.toArray false) s Q:=fun n w0 a w hs =>
 wpIn_region_lit (Zdg ops s h a w hs)
end
theorem Sim.turn {w0 : Bs} {s : St} {a : Act} {w w' : World} {row : Option Nat} (hs : Sim w0 s a w) (hg : w.grownBy w' row) (hr : ∀ r,row = some r → w0.heap.size ≤ r ∧ ∃ o : Obj,w.heap[r]? = some o ∧ o.isCells = false) : Sim w0 s a w':=by
 obtain ⟨ι,own,hs⟩:=hs
 have nc : ∀ (b : Nat) (arr : Array Value) (E : TypeId) (F : Nat × Nat),w.heap[b]? = some (.cells arr E F) → w'.heap[b]? = w.heap[b]?:=fun b arr E F hb=>by
  refine hg.block b (lt_of_heap hb) (fun e=>?_)
  obtain ⟨_,o,h1,h2⟩:=hr b (by first|exact e|exact e.symm)
  rw [hb] at h1
  injection h1 with h1
  subst h1
  simp [Obj.isCells] at h2
 have hlow : ∀ b,b < w0.heap.size → w'.heap[b]? = w.heap[b]?:=fun b hb=>hg.block b (Nat.lt_of_lt_of_le hb hs.below.size) (fun e=>by
  have:=(hr b (by first|exact e|exact e.symm)).1
  omega)
 have hx : Cx.Ext ⟨w,own⟩ ⟨w',own⟩:=⟨hg.size,fun _ _ h=>h,fun b hb _=>by
  by_cases e : row = some b
  ·obtain ⟨_,o,h1,h2⟩:=hr b e
   exact .inr ⟨o,h1,fun arr E F e=>by subst e; simp [Obj.isCells] at h2⟩
  ·exact .inl (hg.block b hb (fun h=>e (by first|exact h|exact h.symm)))⟩
 have hz : Sized w w':=fun b arr E hb=>⟨arr,by rw [nc b arr E _ hb]; exact hb,rfl⟩
 refine ⟨ι,own,⟨hg.os.trans hs.below.os,hg.tape.trans hs.below.tape,hg.output.trans hs.below.output,Nat.le_trans hs.below.size hg.size,fun b hb hM=>(hlow b hb).trans (hs.below.block b hb hM),fun b arr E hb=>?_⟩,⟨hs.base_.1,hs.base_.2.keep (fun k hk=>hlow k (Nat.lt_of_lt_of_le hk hs.base_.1))⟩,fun b hb=>⟨(hs.own_ b hb).1,Nat.lt_of_lt_of_le (hs.own_ b hb).2 hg.size⟩,hs.keep,hs.frm,hs.size,fun t=>D.mono hx hz (hs.env t),fun k ob hk=>?_,hs.place,hs.inj,hs.defers,hs.pin⟩
 ·obtain ⟨arr',h1,h2⟩:=hs.below.sized b arr E hb
  exact ⟨arr',by rw [nc b arr' E _ h1]; exact h1,h2⟩
 ·obtain ⟨q1,q2⟩:=hs.heap k ob hk
  refine ⟨q1,Ob.mono hx hz ?_ q2⟩
  cases ob with
  | var E cs=>obtain ⟨arr,h1,_⟩:=q2; exact nc _ _ _ _ h1
  | sl E sz nw els=>obtain ⟨arr,h1,_⟩:=q2; exact nc _ _ _ _ h1
def ownC (w : World) (own : Nat → Prop) : Nat → Prop:=fun b=>own b ∧ ∃ o : Obj,w.heap[b]? = some o ∧ o.isCells = true
def reBs (w0 : Bs) (w : World) (own : Nat → Prop) (pn : Nat → Option (Nat × Nat)) (dfs : List Deferred) : Bs:={ toWorld:=w,base:=w0.base,M:=ownC w own,own0:=ownC w own,pin:=pn,dfs:=dfs }
theorem ob_cells {ι : Nat → Nat × Nat} {base : Nat} {c : Cx} {b : Nat × Nat} : ∀ {ob : Ob},ob.p ι base c b → ∃ o : Obj,c.w.heap[b.1]? = some o ∧ o.isCells = true
 | .var ..,⟨arr,h1,_⟩=>⟨_,h1,rfl⟩
 | .sl ..,⟨arr,h1,_⟩=>⟨_,h1,rfl⟩
theorem Sim'.rebase {w0 : Bs} {s : St} {a : Act} {w : World} {ι : Nat → Nat × Nat} {own : Nat → Prop} (hs : Sim' w0 s a w ι own) (pn : Nat → Option (Nat × Nat)) (hp : ∀ k p,pn k = some p → ι k = p ∧ pinned ≤ k) : Sim' (reBs w0 w own pn a.defers) s a w ι (ownC w own):=by
 have hx : Cx.Ext ⟨w,own⟩ ⟨w,ownC w own⟩:=Cx.Ext.sub (c:=⟨w,own⟩) (c':=⟨w,ownC w own⟩) rfl (fun b h=>h.1)
 have hz : Sized w w:=fun b arr E hb=>⟨arr,hb,rfl⟩
 exact ⟨⟨rfl,rfl,rfl,Nat.le_refl _,fun _ _ _=>rfl,hz⟩,⟨Nat.le_trans hs.base_.1 hs.below.size,hs.base_.2⟩,fun b hb=>hs.own_ b hb.1,fun b _ h0 hM=>absurd h0 hM,fun b h=>.inl h,hs.size,fun t=>D.mono hx hz (hs.env t),
  fun k ob hk=>⟨⟨(hs.heap k ob hk).1,ob_cells (hs.heap k ob hk).2⟩,Ob.mono hx hz rfl (hs.heap k ob hk).2⟩,fun k ob hk=>.inr ⟨(hs.heap k ob hk).1,ob_cells (hs.heap k ob hk).2⟩,hs.inj,rfl,hp⟩
theorem Sim'.back {w0 : Bs} {s s' : St} {a a' : Act} {w w' : World} {ι ι' : Nat → Nat × Nat} {own own' : Nat → Prop} {dfs : List Deferred} (h1 : Sim' w0 s a w ι own) (hM : ∀ b,w0.own0 b → w0.M b) (h2 : Sim' (reBs w0 w own w0.pin dfs) s' a' w' ι' own') (hd : a'.defers = w0.dfs) : Sim' w0 s' a' w' ι' own':=by
 refine ⟨⟨h2.below.os.trans h1.below.os,h2.below.tape.trans h1.below.tape,h2.below.output.trans h1.below.output,Nat.le_trans h1.below.size h2.below.size,fun b hb hn=>?_,fun b arr E hb=>?_⟩,⟨h1.base_.1,h2.base_.2⟩,h2.own_,fun b _ h0 hn=>absurd (hM b h0) hn,fun b hb=>?_,h2.size,h2.env,h2.heap,fun k ob hk=>?_,h2.inj,hd,h2.pin⟩
 ·refine (h2.below.block b (Nat.lt_of_lt_of_le hb h1.below.size) (fun h=>?_)).trans (h1.below.block b hb hn)
  have h' : own b:=h.1
  rcases h1.frm b h' with h | h
  ·exact hn (hM b h)
  ·omega
 ·obtain ⟨arr',g1,g2⟩:=h1.below.sized b arr E hb
  obtain ⟨arr'',g3,g4⟩:=h2.below.sized b arr' E g1
  exact ⟨arr'',g3,g4.trans g2⟩
 ·rcases h2.frm b hb with h | h
  ·exact h1.frm b h.1
  ·exact .inr (Nat.le_trans h1.below.size h)
 ·rcases h2.place k ob hk with h | h
  ·exact .inl (Nat.le_trans h1.below.size h)
  ·rcases h1.frm _ h.1 with h | h
   ·exact .inr (hM _ h)
   ·exact .inl h
theorem Sim'.keeps {w0 : Bs} {s' : St} {a' : Act} {w w' : World} {ι' : Nat → Nat × Nat} {own own' : Nat → Prop} {pn : Nat → Option (Nat × Nat)} {dfs : List Deferred} (h2 : Sim' (reBs w0 w own pn dfs) s' a' w' ι' own') : KeepsOthers w w' :=
 ⟨h2.below.size,fun k o hk ho=>(h2.below.block k (lt_of_heap hk) (fun h=>by
  obtain ⟨o',h1,h3⟩:=h.2
  have h1' : w.heap[k]? = some o':=h1
  rw [hk] at h1'
  injection h1' with h1'
  subst h1'
  rw [ho] at h3; cases h3)).trans hk⟩
end Go.Proofs.Ytmkijbfiilpccaa.Abs
