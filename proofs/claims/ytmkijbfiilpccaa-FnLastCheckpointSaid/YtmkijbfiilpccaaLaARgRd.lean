/- A range over a function whose iterator makes each element anew: the rule, and walks of such an iterator. No statement of the seat is proved here. -/
import Derived.RangeFuncFrom
import Derived.RangeFuncCalls
import Derived.RangeFuncLeaves
import Derived.RangeFuncBound
import Derived.LoopNIn
import Derived.Lib.Hide
import Derived.Test.YtmkijbfiilpccaaLaTy
import Derived.Test.YtmkijbfiilpccaaLaADat
import Derived.Test.YtmkijbfiilpccaaLaARound
set_option linter.unusedSimpArgs false
set_option linter.unusedVariables false
namespace Go.Proofs.Ytmkijbfiilpccaa.Abs
open Go.RowKit
open R (val row ref)
open Go.RowKit
def YieldsRd (n : Nat) (P : Program) (l b0 N : Nat) (J : (Nat → Prop) → List (Value × List Int) → World → Prop) : Prop :=
 ∀ O pre x A W1,J O pre A → (∀ b,O b → b0 ≤ b ∧ b < A.heap.size) → A.grownBy W1 none → R.p (row false 1 (ints x.2)) ⟨W1,fun b=>O b ∨ b < b0⟩ x.1 → pre.length < N →
  YieldAt Fence.wide (n - 1) P l #[x.1] W1 fun e W'=>e = .returned (.bool true) ∧ ∃ O',J O' (pre ++ [x]) W' ∧ Cx.Ext ⟨W1,O⟩ ⟨W',O'⟩ ∧ ∀ b,O' b → b0 ≤ b ∧ b < W'.heap.size
def SeqRd (n : Nat) (P : Program) (g : Nat) (lb : Array Value) (b0 N : Nat) (Pre : Cx → Prop) (S : List (List Int)) : Prop :=
 ∀ (l : Nat) (J : (Nat → Prop) → List (Value × List Int) → World → Prop) (W : World) (O : Nat → Prop),Pre ⟨W,O⟩ → b0 ≤ W.heap.size → (∀ b,O b → b0 ≤ b ∧ b < W.heap.size) → YieldsRd n P l b0 N J → J O [] W →
  CallsIn Fence.wide n P g (#[.func (.yield l) #[] #[]] ++ lb) W fun e W'=>(∃ v,e = .returned v) ∧ ∃ O xs A,xs.map (·.2) = S ∧ J O xs A ∧ A.grownBy W' none
theorem gb_trans {a b c : World} {row : Option Nat} (h1 : a.grownBy b none) (h2 : b.grownBy c row) : a.grownBy c row :=
 ⟨h2.os.trans h1.os,h2.tape.trans h1.tape,h2.output.trans h1.output,Nat.le_trans h1.size h2.size,fun k hk h=>(h2.block k (Nat.lt_of_lt_of_le hk h1.size) h).trans (h1.block k hk (by simp))⟩
theorem ext_putObj {W : World} {O : Nat → Prop} {l : Nat} {o o' : Obj} (h : W.heap[l]? = some o) (ho : o.isCells = false) : Cx.Ext ⟨W,O⟩ ⟨W.putObj l o',O⟩:=by
 have hg:=grownBy_putObj' W l o'
 refine ⟨hg.size,fun _ _ h=>h,fun b hb _=>?_⟩
 by_cases e : b = l
 ·subst e
  exact .inr ⟨o,h,fun arr E F e=>by subst e; simp [Obj.isCells] at ho⟩
 ·exact .inl (hg.block b hb (fun h=>e (by injection h)))
theorem ext_trans {a b c : Cx} (h1 : a.Ext b) (h2 : b.Ext c) : a.Ext c :=
 ⟨Nat.le_trans h1.size h2.size,fun k hk h=>h1.own k hk (h2.own k (Nat.lt_of_lt_of_le hk h1.size) h),fun k hk ho=>by
  rcases h1.block k hk ho with h | h
  ·rcases h2.block k (Nat.lt_of_lt_of_le hk h1.size) (fun h'=>ho (h1.own k hk h')) with h' | ⟨o,h',h''⟩
   ·exact .inl (h'.trans h)
   ·exact .inr ⟨o,h.symm.trans h',h''⟩
  ·exact .inr h⟩
def recO (fn : FuncId) (a : Act) (ps : Array Tmp) (assign body : Code) (D : Nat) (st : LoopState) : Obj:=.loop { state:=st,pending:=none,fn,tmps:=a.tmps,params:=ps,assign,body,defers:=D }
theorem wpIn_rangeRd {n : Nat} {P : Program} {g : Operand} {ps : Array Tmp} {assign body : Code} {Q : Exit → Act → World → Prop} {a : Act} {w : World}
  {gf : Nat} {lb : Array Value} {b0 N : Nat} {Pre : Cx → Prop} {S : List (List Int)} (I : (Nat → Prop) → List (Value × List Int) → World → Prop) (a₁ : Value × List Int → Act)
  (h1 : 1 ≤ n) (hg : a.eval g = .func (.func gf) #[] lb) (he : ∀ args w,(callFunc gf args).run P w = .ok (.enter gf args) w)
  (hseq : SeqRd (n - 1) P gf lb b0 N Pre S) (hps : ps.size = 1) (O0 : Nat → Prop) (hPre : ∀ W,w.grownBy W none → Pre ⟨W,O0⟩) (hb0 : b0 ≤ w.heap.size) (hO0 : ∀ b,O0 b → b0 ≤ b ∧ b < w.heap.size)
  (hI : ∀ O s A B row,I O s A → A.grownBy B row → (∀ r,row = some r → w.heap.size ≤ r ∧ ∃ o : Obj,A.heap[r]? = some o ∧ o.isCells = false) → I O s B) (h0 : I O0 [] w)
  (hassign : ∀ (l : Nat) (x : Value × List Int) (W : World) (K : Act → World → Prop),K (a₁ x) W → assign.wpIn (Fence.wide.inRound l) (n - 1 - 1) P (Exit.then K (fun _ _ _=>False)) { tmps:=(ps.zip #[x.1]).foldl (fun t (p,v)=>t.setIfInBounds p v) a.tmps,defers:=[] } W)
  (hbody : ∀ (l : Nat) (pre : List (Value × List Int)) (x : Value × List Int) (O : Nat → Prop) (B : World),I O pre B → R.p (row false 1 (ints x.2)) ⟨B,fun b=>O b ∨ b < b0⟩ x.1 → pre.length < N →
   body.wpIn (Fence.wide.inRound l) (n - 1 - 1) P (fun e _ W'=>e = .normal ∧ KeepsOthers B W' ∧ ∃ O',I O' (pre ++ [x]) W' ∧ Cx.Ext ⟨B,O⟩ ⟨W',O'⟩ ∧ ∀ b,O' b → b0 ≤ b ∧ b < W'.heap.size) (a₁ x) B)
  (hdone : ∀ (D : Nat) (O : Nat → Prop) (xs : List (Value × List Int)) (W : World),w.heap.size ≤ D → xs.map (·.2) = S → I O xs W → W.heap[D]? = some (.deferred (some [])) → Q .normal { a with defers:={ target:=.collected D,args:=#[] } :: a.defers } W) :
  (Code.rangeFunc g ps assign body).wpIn Fence.wide n P Q a w:=by
 refine wpIn_rangeFunc fun fn hfn=>?_
 -- where the record and the block for deferred calls lie
 obtain ⟨D,hD⟩ : ∃ D,D = w.heap.size:=⟨_,rfl⟩
 obtain ⟨V,hV⟩ : ∃ V : World,V = (w.alloc (.deferred (some []))).alloc (recO fn a ps assign body D .ready):=⟨_,rfl⟩
 have zV : V.heap.size = D + 2:=by rw [hV,hD]; simp
 have lV : V.heap[D + 1]? = some (recO fn a ps assign body D .ready):=by
  have:=World.alloc_heap_new (w.alloc (.deferred (some []))) (recO fn a ps assign body D .ready)
  rw [World.size_alloc,← hD] at this
  rw [hV]; exact this
 have dV : V.heap[D]? = some (.deferred (some [])):=by
  have h2:=World.alloc_heap_new w (.deferred (some []))
  rw [hV,hD]
  exact (Below.heap_alloc _ _ _ (by simp)).trans h2
 have gV : w.grownBy V none:=by
  rw [hV]
  exact gb_trans (World.grownBy_alloc w (.deferred (some [])) none) (World.grownBy_alloc _ _ none)
 -- the record may be turned: the caller's own abides
 have turn : ∀ (O : Nat → Prop) (s : List (Value × List Int)) (A : World) (st st' : LoopState),I O s A → A.heap[D + 1]? = some (recO fn a ps assign body D st) → I O s (A.putObj (D + 1) (recO fn a ps assign body D st')):=fun O s A st st' hs hl =>
  hI O s A _ (some (D + 1)) hs (grownBy_putObj' A _ _) (fun r e=>by cases e; exact ⟨by omega,_,hl,rfl⟩)
 refine ⟨D + 1,[{ target:=.collected D,args:=#[] }],V,{ target:=.fn (.func gf) lb,args:=#[.func (.yield (D + 1)) #[] #[]] },V,gf,#[.func (.yield (D + 1)) #[] #[]] ++ lb,V,?_,?_,?_,?_,fun _=>h1,?_⟩
 ·rw [hV,hD]; exact run_enterLoop_outer _ _ _ _ _
 ·simp only [resolve,hg]; simp [go_sem]
 ·intro f' hf'; trivial
 ·simp [invoke,go_sem,he]
 have kept : ∀ {A B : World} {k : Nat} {o : Obj},A.grownBy B none → A.heap[k]? = some o → B.heap[k]? = some o:=fun h hk=>(h.block _ (Array.getElem?_eq_some_iff.1 hk).1 (by simp)).trans hk
 refine (hseq (D + 1) (fun O pre W=>(I O pre W ∧ W.heap[D + 1]? = some (recO fn a ps assign body D .ready)) ∧ W.heap[D]? = some (.deferred (some []))) V O0 (hPre V gV) oM (fun b hb=>⟨(hO0 b hb).1,by have:=(hO0 b hb).2; omega⟩) ?_ ⟨⟨hI _ _ _ _ none h0 gV (fun r e=>by cases e),lV⟩,dV⟩).mono ?_
 ·rintro O pre x A0 A ⟨⟨q0,q2'⟩,q3'⟩ hOA gA hr hlen
  have q2:=kept gA q2'
  have q3:=kept gA q3'
  have hlt:=(Array.getElem?_eq_some_iff.1 q2).1
  refine ⟨fn,_,assign,body,run_yield (P:=P) (args:=#[x.1]) q2 (by simp [hps]),roundIn_of_wpIn hfn (hassign _ x A _ ⟨_,run_beginRound q2 rfl,?_⟩)⟩
  -- busy
  obtain ⟨B,hB⟩ : ∃ B : World,B = A.putObj (D + 1) (recO fn a ps assign body D .busy):=⟨_,rfl⟩
  have lB : B.heap[D + 1]? = some (recO fn a ps assign body D .busy):=by rw [hB]; exact World.putObj_heap_same hlt
  have dB : B.heap[D]? = some (.deferred (some [])):=by rw [hB]; exact (World.putObj_heap_other oM).trans q3
  have gB : A0.grownBy B (some (D + 1)):=by rw [hB]; exact gb_trans gA (grownBy_putObj' A _ _)
  have iB : I O pre B:=hI _ _ _ _ _ q0 gB (fun r e=>by cases e; exact ⟨by omega,_,q2',rfl⟩)
  have xB : Cx.Ext ⟨A,O⟩ ⟨B,O⟩:=by rw [hB]; exact ext_putObj q2 rfl
  have rB : R.p (row false 1 (ints x.2)) ⟨B,fun b=>O b ∨ b < b0⟩ x.1:=by rw [hB]; exact R.mono _ (ext_putObj q2 rfl) hr
  have hw:=hbody (D + 1) pre x O B iB rB hlen
  rw [hB] at hw
  refine wpIn_mono hw ?_
  rintro e a3 C ⟨rfl,hk,O',hi,hx,hO'⟩
  rw [← hB] at hk hx
  have lC:=hk.same _ _ lB rfl
  have dC:=hk.same _ _ dB rfl
  have hlC:=(Array.getElem?_eq_some_iff.1 lC).1
  have h3 : (C.putObj (D + 1) (recO fn a ps assign body D .ready)).heap.size = C.heap.size:=by simp [World.putObj]
  refine ⟨_,_,run_endRound (P:=P) none lC,rfl,O',⟨⟨turn _ _ _ _ .ready hi lC,World.putObj_heap_same hlC⟩,(World.putObj_heap_other oM).trans dC⟩,ext_trans xB (ext_trans hx (ext_putObj lC rfl)),fun b hb=>⟨(hO' b hb).1,?_⟩⟩
  show b < (C.putObj (D + 1) (recO fn a ps assign body D .ready)).heap.size
  rw [h3]; exact (hO' b hb).2
 ·rintro e A ⟨⟨v,rfl⟩,O,xs,A0,hS,⟨⟨q1,q2⟩,q3⟩,gA⟩
  have q2':=kept gA q2
  refine ⟨none,_,run_endLoop (P:=P) q2' (by simp),?_⟩
  exact hdone D O xs _ oM hS (turn _ _ _ _ .exhausted (hI _ _ _ _ none q1 gA (fun r e=>by cases e)) q2') ((World.putObj_heap_other oM).trans (kept gA q3))
def bsI (A : World) (O : Nat → Prop) (b0 : Nat) : Bs:={ toWorld:=A,base:=b0,M:=fun _=>False,own0:=O,pin:=fun _=>none,dfs:=[] }
section
variable {J : (Nat → Prop) → List (Value × List Int) → World → Prop} {b0 n N l : Nat} {P : Program}
def PostI (J : (Nat → Prop) → List (Value × List Int) → World → Prop) (b0 : Nat) (Q : Exit → St → List (List Int) → Prop) : Exit → Act → World → Prop:=fun e a w=>∃ s pre A O,Q e s (pre.map (·.2)) ∧ J O pre A ∧ (∀ b,O b → b0 ≤ b ∧ b < A.heap.size) ∧ Sim (bsI A O b0) s a w
def IW (J : (Nat → Prop) → List (Value × List Int) → World → Prop) (b0 n : Nat) (P : Program) (c : Code) (s : St) (pre : List (List Int)) (Q : Exit → St → List (List Int) → Prop) : Prop :=
 ∀ A O a w xs,xs.map (·.2) = pre → J O xs A → (∀ b,O b → b0 ≤ b ∧ b < A.heap.size) → Sim (bsI A O b0) s a w → c.wpIn Fence.wide n P (PostI J b0 Q) a w
def ThnI (K : St → List (List Int) → Prop) (Q : Exit → St → List (List Int) → Prop) : Exit → St → List (List Int) → Prop
 | .normal,s,pre=>K s pre
 | e,s,pre=>Q e s pre
def BlkI (id : Nat) (Q : Exit → St → List (List Int) → Prop) : Exit → St → List (List Int) → Prop
 | .exit id',s,pre=>if id' = id then Q .normal s pre else Q (.exit id') s pre
 | e,s,pre=>Q e s pre
theorem Zbi {c : Code} {s : St} {pre : List (List Int)} {Q : Exit → St → List (List Int) → Prop} (h : AW P c s (fun e s'=>Q e s' pre)) : IW J b0 n P c s pre Q:=fun A O a w xs hx hJ hO hs =>
 wpIn_mono (wpIn_wide.2 (h _ a w hs)) fun e a' w' ⟨s',hq,hs'⟩=>⟨s',xs,A,O,by rw [hx]; exact hq,hJ,hO,hs'⟩
theorem Zbc {x y : Code} {s : St} {pre : List (List Int)} {Q : Exit → St → List (List Int) → Prop} (h : IW J b0 n P x s pre (ThnI (fun s' pre'=>IW J b0 n P y s' pre' Q) Q)) : IW J b0 n P (.seq x y) s pre Q:=fun A O a w xs hx hJ hO hs =>
 wpIn_seq (wpIn_mono (h A O a w xs hx hJ hO hs) fun e a' w' ⟨s',ys,B,O',hq,hJ',hO',hs'⟩=>by
  cases e<;>first|exact hq B O' a' w' ys rfl hJ' hO' hs'|exact ⟨s',ys,B,O',hq,hJ',hO',hs'⟩)
theorem iw_block {id : Nat} {c : Code} {s : St} {pre : List (List Int)} {Q : Exit → St → List (List Int) → Prop} (h : IW J b0 n P c s pre (BlkI id Q)) : IW J b0 n P (.block id c) s pre Q := fun A O a w xs hx hJ hO hs =>
  wpIn_block (wpIn_mono (h A O a w xs hx hJ hO hs) fun e a' w' ⟨s', ys, B, O', hq, hJ', hO', hs'⟩ => by
    cases e <;> first
      | exact ⟨s', ys, B, O', hq, hJ', hO', hs'⟩
      | (rename_i i
         simp only [BlkI] at hq
         simp only [Exit.inBlock]
         split at hq <;> rename_i he
         · rw [if_pos he]; exact ⟨s', ys, B, O', hq, hJ', hO', hs'⟩
         · rw [if_neg he]; exact ⟨s', ys, B, O', hq, hJ', hO', hs'⟩))
theorem iw_loop {β : Type} (f : β → St) (r : β → List (List Int)) (μ : β → Nat) (x0 : β) {c : Code} {s : St} {pre : List (List Int)} {Q : Exit → St → List (List Int) → Prop} (h0 : Weak s (f x0)) (hp : pre = r x0)
  (round : ∀ x,IW J b0 n P c (f x) (r x) (ThnI (fun s' pre'=>∃ x',Weak s' (f x') ∧ pre' = r x' ∧ μ x' < μ x) Q)) : IW J b0 n P (.loop c) s pre Q:=fun A O a w xs hx hJ hO hs=>by
 have key : ∀ m x,μ x < m → ∀ A O a w xs,xs.map (·.2) = r x → J O xs A → (∀ b,O b → b0 ≤ b ∧ b < A.heap.size) → Sim (bsI A O b0) (f x) a w → Code.roundsIn Fence.wide n P c (PostI J b0 Q) m a w:=by
  intro m
  induction m with
  | zero=>intro x hx; omega
  | succ m ih =>
   intro x hm A O a w xs hx hJ hO hs
   refine wpIn_mono (round x A O a w xs hx hJ hO hs) ?_
   rintro e a' w' ⟨s',ys,B,O',hq,hJ',hO',hs'⟩
   cases e<;>first|exact ⟨s',ys,B,O',hq,hJ',hO',hs'⟩|skip
   obtain ⟨x',hw,hr,hlt⟩:=hq
   exact ih x' oM B O' a' w' ys hr hJ' hO' (hw _ _ _ hs')
 exact wpIn_loop_rounds (μ x0 + 1) (key _ x0 oM A O a w xs (by rw [hx,hp]) hJ hO (h0 _ _ _ hs))
theorem op_wide {o : Oper} {a : Act} {w : World} {K : Act → World → Prop} {Q : Exit → Act → World → Prop} (h : o.wp P a w K Q) : o.wpIn Fence.wide n P a w K Q:=by
 refine ⟨fun _ _=>trivial,?_⟩
 show o.uponIn Fence.wide n P a K Q ((execOp a.eval o).run P w)
 unfold Oper.wp at h
 revert h
 generalize (execOp a.eval o).run P w = r
 intro h
 cases r with
 | ok x w' =>
  cases x with
  | value v=>exact h
  | skip=>exact h
  | defer d=>exact h
  | enter f args =>
   refine ⟨fun hd=>(by cases hd),?_⟩
   have h' : Calls P f args w' _:=h
   refine (callsIn_wide.2 h').mono ?_
   intro e w'' he
   cases e<;>exact he
  | row row args=>exact ⟨fun hd=>(by cases hd),fun c cs _=>let ⟨v,w',r,s⟩:=h c cs; ⟨v,w',r,stepsIn_wide.2 s⟩⟩
  | _=>exact h.elim
 | halt e w' =>
  cases e<;>first|exact h|exact h.elim
theorem Zc3 {ops : Array Oper} {Z : List Sg → Bool} {w0 : Bs} {Q : Exit → Act → World → Prop} {K : St → Prop} (l2 : List Oper) (hK : ∀ s' a w,K s' → Sim w0 s' a w → wpListIn Fence.wide n P ops Q l2 a w) : ∀ (l : List Oper) (s : St),W P ops Z l s none K → ∀ a w,Sim w0 s a w → wpListIn Fence.wide n P ops Q (l ++ l2) a w
 | [],s,h,a,w,hs=>hK s a w h.2 hs
 | o :: rest,s,h,a,w,hs=>by
  obtain ⟨g,σ,hg,hd,h1,h2,hW⟩:=h
  refine wpListIn_step fun K' hK'=>?_
  rw [hg.wanted hs]
  cases g with
  | true =>
   obtain ⟨he,hf,hm⟩:=h1 rfl
   simp only [if_true]
   exact op_wide (hs.step he hf hm (Zch hd) (Q:=Q) (fun a' w' hs'=>hK' _ _ (Zc3 l2 hK rest _ hW a' w' hs')))
  | false =>
   simp only [Bool.false_eq_true,if_false]
   have:=h2 rfl
   subst this
   exact ⟨fun _ _=>trivial,hK' _ _ (Zc3 l2 hK rest _ hW _ _ (hs.skip o.dst (Zch hd)))⟩
def PlainE : List (Nat × D) → Prop
 | []=>True
 | (_,.one (.r _ _)) :: l=>PlainE l
 | _=>False
theorem look_none : ∀ {l : List (Nat × D)} {t : Nat},(∀ p ∈ l,p.1 ≠ t) → look l t = .any
 | [],t,_=>rfl
 | (u,d) :: l,t,h=>by
  show upd (look l) u d t = .any
  rw [upd_ne _ _ (fun e=>h (u,d) (by simp) e.symm)]
  exact look_none (fun p hp=>h p (by simp [hp]))
theorem plain_look {ι ι' : Nat → Nat × Nat} {b0 : Nat} {c c' : Cx} (hx : c.Ext c') {f : Nat → Value} : ∀ {l : List (Nat × D)},PlainE l → ∀ t,(look l t).p ι b0 c (f t) → (look l t).p ι' b0 c' (f t)
 | [],_,t,_=>trivial
 | (u,.one (.r nb x)) :: l,h,t,ht=>by
  by_cases e : t = u
  ·subst e
   have h1 : (upd (look l) t (.one (.r nb x)) t).p ι b0 c (f t):=ht
   show (upd (look l) t (.one (.r nb x)) t).p ι' b0 c' (f t)
   rw [upd_same] at h1 ⊢
   exact R.mono x (hx.young b0 nb) h1
  ·have h1 : (upd (look l) u (.one (.r nb x)) t).p ι b0 c (f t):=ht
   show (upd (look l) u (.one (.r nb x)) t).p ι' b0 c' (f t)
   rw [upd_ne _ _ e] at h1 ⊢
   exact plain_look (l:=l) hx h t h1
theorem yield_op {Q : Exit → Act → World → Prop} {a : Act} {w : World} {K : Act → World → Prop} {o : Oper} {x : Value} {t1 t2 : Nat} {tys : Array TypeId} {R : Ending → World → Prop} (ho : o.op = .call { callee:=.value (.tmp t1),args:=#[.tmp t2],argTypes:=tys }) (h1 : a.eval (.tmp t1) = .func (.yield l) #[] #[]) (h2 : a.eval (.tmp t2) = x)
  (hy : YieldAt Fence.wide (n - 1) P l #[x] w R) (hK : ∀ e w',R e w' → ∃ v,e = .returned v ∧ K (a.put o.dst v) w') : o.wpIn Fence.wide n P a w K Q:=by
 obtain ⟨fn,tmps,assign,body,hy,hR⟩:=hy
 refine ⟨fun _ _=>trivial,?_⟩
 show o.uponIn Fence.wide n P a K Q ((execOp a.eval o).run P w)
 have hrun : (execOp a.eval o).run P w = .ok (.round l fn tmps assign body) w:=by
  have hres : (resolve a.eval { callee:=.value (.tmp t1),args:=#[.tmp t2],argTypes:=tys } o.type).run P w = .ok { target:=.fn (.yield l) #[],args:=#[x] } w:=by
   unfold resolve
   simp only [h1]
   have e : (#[Operand.tmp t2].map a.eval) = #[x]:=by rw [← h2]; simp only [List.map_toArray,List.map_cons,List.map_nil]
   simp [e,Sem.run_pure,Deferred.ofValue]
  unfold execOp
  rw [ho]
  simp only [Sem.run_bind]
  rw [hres]
  simp [invoke,go_sem,hy]
 rw [hrun]
 refine ⟨fun hd=>(by cases hd),hR.mono ?_⟩
 intro e w' he
 obtain ⟨v,rfl,hk⟩:=hK e w' he
 exact hk
theorem put_getD {a : Act} {td t : Nat} {v : Value} (h : t ≠ td) : (a.put (some td) v).tmps.getD t undef = a.tmps.getD t undef:=by
 show (a.tmps.setIfInBounds td v).getD t undef = _
 simp [Array.getElem?_setIfInBounds,Ne.symm h]
theorem put_getD_same {a : Act} {td : Nat} {v : Value} (h : td < a.tmps.size) : (a.put (some td) v).tmps.getD td undef = v:=by
 show (a.tmps.setIfInBounds td v).getD td undef = _
 simp [h]
theorem iw_yield {id : Nat} {L l1 l2 : List Oper} {oy : Oper} {t1 t2 td nn : Nat} {nf : Bool} {tys : Array TypeId} {s : St} {pre : List (List Int)} {rec : List Int} {env : List (Nat × D)} {Q : Exit → St → List (List Int) → Prop}
  (hY : YieldsRd n P l b0 N J) (hL : L = l1 ++ oy :: l2) (ho : oy.op = .call { callee:=.value (.tmp t1),args:=#[.tmp t2],argTypes:=tys }) (hg : oy.guard = none) (hd : oy.dst = some td) (hpl : PlainE env) (hlen : pre.length < N) (htd : td < nn) (hne : t2 ≠ t1) (h1e : t1 ≠ td) (h2e : t2 ≠ td)
  (hW : W P L.toArray (fun _=>true) l1 s none (fun s'=>Weak s' (mkS nn ((t1,.one (.r nf (R.val (.func (.yield l) #[] #[])))) :: (t2,.one (.r true (row false 1 (ints rec)))) :: env) [])))
  (hW2 : W P L.toArray (fun _=>true) l2 (mkS nn ((td,.one (.r true (bool true))) :: env) []) none (fun s'=>Q .normal s' (pre ++ [rec])))
  (hfree : ∀ p ∈ env,p.1 ≠ t1 ∧ p.1 ≠ t2) : IW J b0 n P (.region id L.toArray false) s pre Q:=fun A O a w xs hx hJ hO hs=>by
 refine wpIn_region_lit ?_
 have hgo : wpListIn Fence.wide n P L.toArray (PostI J b0 Q) (l1 ++ oy :: l2) a w:=by
  refine Zc3 (oy :: l2) (fun s' a1 w1 hK hs1=>?_) l1 s hW a w hs
  obtain ⟨ι,own,h⟩:=hK _ _ _ hs1
  have e1:=h.env t1
  have e2:=h.env t2
  have f1 : (mkS nn ((t1,.one (.r nf (R.val (.func (.yield l) #[] #[])))) :: (t2,.one (.r true (row false 1 (ints rec)))) :: env) []).env t1 = .one (.r nf (R.val (.func (.yield l) #[] #[]))):=upd_same _ _ _
  have f2 : (mkS nn ((t1,.one (.r nf (R.val (.func (.yield l) #[] #[])))) :: (t2,.one (.r true (row false 1 (ints rec)))) :: env) []).env t2 = .one (.r true (row false 1 (ints rec))):=by
   show upd (upd (look env) t2 _) t1 _ t2 = _
   rw [upd_ne _ _ hne,upd_same]
  rw [f1] at e1
  rw [f2] at e2
  have e1' : a1.tmps.getD t1 undef = .func (.yield l) #[] #[]:=((Zai (c:=Cx.young ⟨w1,own⟩ b0 nf)).1 e1).1
  obtain ⟨u,hu⟩ : ∃ u,u = a1.tmps.getD t2 undef:=⟨_,rfl⟩
  rw [← hu] at e2
  have gW : A.grownBy w1 none:=⟨h.below.os,h.below.tape,h.below.output,h.below.size,fun k hk _=>h.below.block k hk (fun h=>h)⟩
  have hsub : ∀ b,O b → own b:=fun b hb=>h.keep b (hO b hb).2 hb (fun h=>h)
  have e2' : R.p (row false 1 (ints rec)) ⟨w1,fun b=>own b ∨ b < b0⟩ u:=e2
  have hrow : R.p (row false 1 (ints rec)) ⟨w1,fun b=>O b ∨ b < b0⟩ u:=R.mono _ (c:=⟨w1,fun b=>own b ∨ b < b0⟩) (c':=⟨w1,fun b=>O b ∨ b < b0⟩) (Cx.Ext.sub rfl (fun b hb=>hb.elim (fun h=>.inl (hsub b h)) .inr)) e2'
  have hxl : xs.length = pre.length:=by rw [← hx,List.length_map]
  refine wpListIn_plain hg fun K hK'=>yield_op (x:=u) ho (by rw [← e1']; rfl) (by rw [hu]; rfl) (hY O xs (u,rec) A w1 hJ hO gW hrow oM) ?_
  rintro e W' ⟨rfl,O',hJ',hxt,hO'⟩
  refine ⟨_,rfl,hK' _ _ ?_⟩
  have hsz : a1.tmps.size = nn:=h.size
  have hx2 : Cx.Ext ⟨w1,own⟩ ⟨W',O'⟩:=ext_trans (b:=⟨w1,O⟩) (Cx.Ext.sub (c:=⟨w1,own⟩) (c':=⟨w1,O⟩) rfl hsub) hxt
  have hzz : w1.heap.size ≤ W'.heap.size:=hxt.size
  have hbz : b0 ≤ A.heap.size:=h.base_.1
  have hAz : A.heap.size ≤ w1.heap.size:=h.below.size
  have hsim : Sim (bsI W' O' b0) (mkS nn ((td,.one (.r true (bool true))) :: env) []) (a1.put oy.dst (.bool true)) W':=by
   rw [hd]
   refine ⟨ι,O',⟨rfl,rfl,rfl,Nat.le_refl _,fun _ _ _=>rfl,fun b arr E h=>⟨arr,h,rfl⟩⟩,⟨by show b0 ≤ W'.heap.size; omega,Glob.triv _ _⟩,hO',fun b _ h _=>h,fun b h=>.inl h,?_,fun t=>?_,(fun k ob hk=>by cases hk),(fun k ob hk=>by cases hk),(fun k k' ob ob' hk=>by cases hk),h.defers,(fun k p hk=>by cases hk)⟩
   ·show (a1.tmps.setIfInBounds td _).size = nn
    rw [Array.size_setIfInBounds,hsz]
   ·by_cases e : t = td
    ·subst e
     show D.p ι b0 ⟨W',O'⟩ _ (upd (look env) t _ t)
     rw [upd_same,put_getD_same oM]
     exact (Zai (c:=Cx.young ⟨W',O'⟩ b0 true)).2 ⟨rfl,rfl⟩
    ·show D.p ι b0 ⟨W',O'⟩ _ (upd (look env) td _ t)
     rw [upd_ne _ _ e,put_getD e]
     have ht:=h.env t
     by_cases q1 : t = t1
     ·have : look env t = .any:=look_none (fun p hp he=>(hfree p hp).1 (he.trans q1))
      rw [this]; trivial
     ·by_cases q2 : t = t2
      ·have : look env t = .any:=look_none (fun p hp he=>(hfree p hp).2 (he.trans q2))
       rw [this]; trivial
      ·have ht' : D.p ι b0 ⟨w1,own⟩ (a1.tmps.getD t undef) (upd (upd (look env) t2 _) t1 _ t):=ht
       rw [upd_ne _ _ q1,upd_ne _ _ q2] at ht'
       exact plain_look hx2 (f:=fun t=>a1.tmps.getD t undef) hpl t ht'
  have:=Zc3 (n:=n) (ops:=L.toArray) (Q:=PostI J b0 Q) [] (fun s2 a2 w2 hq hs2=>⟨s2,xs ++ [(u,rec)],W',O',by rw [List.map_append,hx]; exact hq,hJ',hO',hs2⟩) l2 _ hW2 _ _ hsim
  rwa [List.append_nil] at this
 rw [hL] at hgo ⊢
 exact hgo
end
end Go.Proofs.Ytmkijbfiilpccaa.Abs
