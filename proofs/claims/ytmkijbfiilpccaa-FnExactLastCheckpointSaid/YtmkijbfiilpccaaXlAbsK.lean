/- Regions (of either kind), blocks, loops and whole calls, by states. No statement of the seat is proved here. -/
import Derived.Test.YtmkijbfiilpccaaXlAbsE
set_option linter.unusedSimpArgs false
set_option linter.unusedVariables false
namespace Go.Proofs.Ytmkijbfiilpccaa.Abs
open Go.RowKit
open R (val row ref)
def Grd (ops : Array Oper) (o : Oper) (s : St) (g : Bool) : Prop :=
 match o.guard with
 | none=>g = true
 | some (j,want)=>∃ t m,(ops[j]?).bind (·.dst) = some t ∧ ((∃ b,s.env t = .one (.r m (bool b)) ∧ g = (b == want)) ∨ s.env t = .tup m [] ∧ g = false)
theorem Zbs {n : Nat} {o : Oper} (h : dstOk n o = true) : ∀ t,o.dst = some t → t < n:=by
 intro t ht
 simpa [dstOk,ht] using h
def skipS : Sg:=⟨.tup true [],[],[],[],[]⟩
def psh (σ : Sg) : Option (List Sg) → Option (List Sg)
 | none=>none
 | some l=>some (σ :: l)
def W (P : Program) (ops : Array Oper) (Z : List Sg → Bool) : List Oper → St → Option (List Sg) → (St → Prop) → Prop
 | [],s,q,K=>(∀ acc,q = some acc → Z acc = true) ∧ K s
 | o :: rest,s,q,K=>∃ g σ,Grd ops o s g ∧ dstOk s.n o = true ∧ (g = true → Eff P (resH σ.fp s.heap) (evD s.env) o σ.d σ.τ σ.new σ.U ∧ σ.fine s.heap ∧ σ.fresh o.dst s) ∧ (g = false → σ = skipS) ∧ W P ops Z rest (s.app o.dst σ) (psh σ q) K
theorem Grd.wanted {ops : Array Oper} {o : Oper} {w0 : Bs} {s : St} {g : Bool} {a : Act} {w : World} (h : Grd ops o s g) (hs : Sim w0 s a w) : Region.wanted o (yielded ops a.tmps) = g:=by
 obtain ⟨ι,own,hs⟩:=hs
 unfold Grd at h
 unfold Region.wanted
 cases hg : o.guard with
 | none=>simp [hg] at h ⊢; exact h
 | some p =>
  obtain ⟨j,want⟩:=p
  simp only [hg] at h ⊢
  obtain ⟨t,m,h1,⟨b,h2,rfl⟩ | ⟨h2,rfl⟩⟩:=h
  case inr =>
   have h3:=hs.env t
   rw [h2] at h3
   obtain ⟨vs,h4,h5,_⟩:=h3
   unfold yielded
   rw [h1]
   simp only [Option.bind_some]
   have h6 : ∀ b,a.tmps[t]? ≠ some (.bool b):=fun b hb=>by
    rw [Array.getD_eq_getD_getElem?,hb] at h4
    cases h4
   cases ht : a.tmps[t]? with
   | none=>simp
   | some v =>
    cases v with
    | bool b=>exact absurd ht (h6 b)
    | _=>simp
  have h3:=hs.env t
  rw [h2] at h3
  have h4 : a.tmps.getD t undef = .bool b:=h3.1
  have h5 : a.tmps[t]? = some (.bool b):=by
   rcases Nat.lt_or_ge t a.tmps.size with hlt | hge
   ·rw [Array.getD_eq_getD_getElem?,Array.getElem?_eq_getElem hlt] at h4
    rw [Array.getElem?_eq_getElem hlt]
    simpa using h4
   ·rw [Array.getD_eq_getD_getElem?,Array.getElem?_eq_none hge] at h4
    cases h4
  unfold yielded
  rw [h1]
  simp only [Option.bind_some,h5]
  cases b<;>cases want<;>rfl
theorem skip_fine (H : Nat → Option Ob) : skipS.fine H:=⟨fun k h=>by simp [skipS] at h,fun k h=>by simp [skipS] at h⟩
theorem skip_fresh (dst : Option Nat) (s : St) : skipS.fresh dst s:=fun t h=>by simp [skipS] at h
theorem Sim.skip {w0 : Bs} {s : St} {a : Act} {w : World} (hs : Sim w0 s a w) (dst : Option Nat) (ht : ∀ t,dst = some t → t < s.n) : Sim w0 (s.app dst skipS) (a.put dst undef) w:=by
 obtain ⟨ι,own,hs⟩:=hs
 exact ⟨ι,own,hs.eff (σ:=skipS) (Chg.quiet hs.own_ (Below.refl _ _) ⟨[],rfl,rfl,fun j x hj=>by simp at hj⟩) (skip_fine _) (skip_fresh _ _) ht⟩
theorem resH_some {fp : List Nat} {H : Nat → Option Ob} {k : Nat} {ob : Ob} (h : resH fp H k = some ob) : H k = some ob:=by
 unfold resH at h
 split at h
 ·exact h
 ·cases h
theorem Sim.step {P : Program} {w0 : Bs} {s : St} {a : Act} {w : World} {o : Oper} {σ : Sg} (hs : Sim w0 s a w) (he : Eff P (resH σ.fp s.heap) (evD s.env) o σ.d σ.τ σ.new σ.U) (hf : σ.fine s.heap) (hm : σ.fresh o.dst s) (ht : ∀ t,o.dst = some t → t < s.n) {K : Act → World → Prop} {Q : Exit → Act → World → Prop} (hK : ∀ a' w',Sim w0 (s.app o.dst σ) a' w' → K a' w') : o.wp P a w K Q:=by
 obtain ⟨ι,own,hs⟩:=hs
 refine he w0.base a w ι own hs.own_ ⟨Nat.le_trans hs.base_.1 hs.below.size,hs.base_.2⟩ (fun x _=>hs.ev x) (fun k ob hk=>hs.heap k ob (resH_some hk)) (fun k k' ob ob' hk hk'=>hs.inj k k' ob ob' (resH_some hk) (resH_some hk')) K Q ?_
 intro v w' ι' own' hc
 exact hK _ _ ⟨ι',own',hs.eff hc hf hm ht⟩
def Post (w0 : Bs) (Q : Exit → St → Prop) : Exit → Act → World → Prop:=fun e a w=>∃ s,Q e s ∧ Sim w0 s a w
theorem wpList_of_W {P : Program} {ops : Array Oper} {Z : List Sg → Bool} {w0 : Bs} {Q : Exit → St → Prop} : ∀ (l : List Oper) (s : St),W P ops Z l s none (fun s'=>Q .normal s') → ∀ a w,Sim w0 s a w → wpList P ops (Post w0 Q) l a w
 | [],s,h,a,w,hs=>wpList_nil ⟨s,h.2,hs⟩
 | o :: rest,s,h,a,w,hs=>by
  obtain ⟨g,σ,hg,hd,h1,h2,hW⟩:=h
  refine wpList_step fun K hK=>?_
  rw [hg.wanted hs]
  cases g with
  | true =>
   obtain ⟨he,hf,hm⟩:=h1 rfl
   simp only [if_true]
   exact hs.step he hf hm (Zbs hd) (fun a' w' hs'=>hK _ _ (wpList_of_W rest _ hW a' w' hs'))
  | false =>
   simp only [Bool.false_eq_true,if_false]
   have:=h2 rfl
   subst this
   exact hK _ _ (wpList_of_W rest _ hW _ _ (hs.skip o.dst (Zbs hd)))
theorem Eff.congr {P : Program} {H H' : Nat → Option Ob} {ev ev' : Operand → D} {o : Oper} {d : D} {τ new : List Nat} {U : List (Nat × Option Ob)} (h : Eff P H ev o d τ new U) (hH : H' = H) (he : ∀ x ∈ o.op.operands,ev' x = ev x) : Eff P H' ev' o d τ new U:=by
 subst hH
 intro base a w ι own h1 h2 h3
 exact h base a w ι own h1 h2 (fun x hx=>he x hx ▸ h3 x hx)
def QS (P : Program) (ops : Array Oper) (o : Oper) (σ : Sg) (s s' : St) : Prop :=
 ∃ g,Grd ops o s g ∧ dstOk s.n o = true ∧ (g = true → Eff P (resH σ.fp s.heap) (evD s.env) o σ.d σ.τ σ.new σ.U ∧ σ.fine s.heap) ∧ (g = false → σ = skipS) ∧ s' = s.app o.dst σ
theorem putE_ne {e : Nat → D} {dst : Option Nat} {d : D} {t : Nat} (h : dst ≠ some t) : putE e dst d t = e t:=by
 cases dst with
 | none=>rfl
 | some u=>exact upd_ne _ _ (fun e=>h (by rw [e]))
theorem Grd.app {ops : Array Oper} {o : Oper} {s : St} {g : Bool} {dst : Option Nat} {σ : Sg} (h : ∀ t,dst = some t → t ∉ o.looksAt ops) : Grd ops o (s.app dst σ) g ↔ Grd ops o s g:=by
 unfold Grd
 cases hg : o.guard with
 | none=>rfl
 | some p =>
  obtain ⟨j,want⟩:=p
  constructor
  all_goals
   rintro ⟨t,m,h1,h2⟩
   refine ⟨t,m,h1,?_⟩
  ·have e : (s.app dst σ).env t = s.env t:=putE_ne (fun hd=>h t hd (by simp [Oper.looksAt,hg,h1]))
   rw [e] at h2
   exact h2
  ·have e : (s.app dst σ).env t = s.env t:=putE_ne (fun hd=>h t hd (by simp [Oper.looksAt,hg,h1]))
   rw [e]
   exact h2
theorem ev_put {ops : Array Oper} {o : Oper} {e : Nat → D} {dst : Option Nat} {d : D} (h : ∀ t,dst = some t → t ∉ o.looksAt ops) : ∀ x ∈ o.op.operands,evD (putE e dst d) x = evD e x:=by
 intro x hx
 cases x with
 | tmp t =>
  refine putE_ne (fun hd=>h t hd ?_)
  simp only [Oper.looksAt,List.mem_append,List.mem_filterMap]
  exact .inl ⟨.tmp t,by simpa using hx,rfl⟩
 | const v=>rfl
 | func f=>rfl
 | global g=>rfl
theorem appU_ne {U : List (Nat × Option Ob)} {H : Nat → Option Ob} {k : Nat} (h : k ∉ U.map (·.1)) : appU U H k = H k:=by
 unfold appU
 rw [Zbv.2 h]; rfl
def Sg.dom (σ : Sg) : List Nat:=σ.U.map (·.1)
def Disj (a b : List Nat) : Prop:=∀ k ∈ a,k ∉ b
theorem resH_app {σ : Sg} {fp : List Nat} {H : Nat → Option Ob} (h : Disj σ.dom fp) : resH fp (appU σ.U H) = resH fp H:=by
 funext k
 unfold resH
 split
 ·rename_i hk; exact appU_ne (fun hn=>h k hn hk)
 ·rfl
theorem fine_congr {σ : Sg} {H H' : Nat → Option Ob} (h : ∀ k ∈ σ.fp,H' k = H k) (hf : σ.fine H) : σ.fine H':=⟨fun k hk=>⟨(hf.1 k hk).1,by rw [h k (hf.1 k hk).1]; exact (hf.1 k hk).2.1,(hf.1 k hk).2.2⟩,hf.2⟩
theorem QS.swap {P : Program} {ops : Array Oper} {oi oj : Oper} {σi σj : Sg} {s s1 s2 : St} (hap : oi.apart ops oj = true) (d1 : Disj σi.dom σj.fp) (d2 : Disj σj.dom σi.fp) (d3 : Disj σi.dom σj.dom) (hi : QS P ops oi σi s s1) (hj : QS P ops oj σj s1 s2) : ∃ s1',QS P ops oj σj s s1' ∧ QS P ops oi σi s1' s2:=by
 obtain ⟨a1,a2,a3⟩:=Oper.apart_spec hap
 obtain ⟨gi,hgi,hdi,li1,li2,rfl⟩:=hi
 obtain ⟨gj,hgj,hdj,lj1,lj2,rfl⟩:=hj
 refine ⟨s.app oj.dst σj,⟨gj,(Grd.app a1).1 hgj,hdj,fun h=>?_,lj2,rfl⟩,⟨gi,(Grd.app a3).2 hgi,hdi,fun h=>?_,li2,?_⟩⟩
 ·obtain ⟨e1,e2⟩:=lj1 h
  exact ⟨e1.congr (resH_app d1).symm (fun x hx=>(ev_put a1 x hx).symm),fine_congr (fun k hk=>(appU_ne (fun hn=>d1 k hn hk)).symm) e2⟩
 ·obtain ⟨e1,e2⟩:=li1 h
  exact ⟨e1.congr (resH_app d2) (fun x hx=>ev_put a3 x hx),fine_congr (fun k hk=>appU_ne (fun hn=>d2 k hn hk)) e2⟩
 ·have he : putE (putE s.env oi.dst σi.d) oj.dst σj.d = putE (putE s.env oj.dst σj.d) oi.dst σi.d:=by
   cases hi : oi.dst with
   | none=>rfl
   | some t =>
    cases hj : oj.dst with
    | none=>rfl
    | some u =>
     have hne : t ≠ u:=fun e=>a2 t hi (by rw [hj,e])
     funext v
     simp only [putE,upd]
     by_cases h1 : v = u
     ·subst h1; rw [if_pos rfl,if_neg (Ne.symm hne),if_pos rfl]
     ·rw [if_neg h1]; by_cases h2 : v = t
      ·rw [if_pos h2,if_pos h2]
      ·rw [if_neg h2,if_neg h2,if_neg h1]
  have hh : appU σj.U (appU σi.U s.heap) = appU σi.U (appU σj.U s.heap):=by
   funext k
   by_cases h1 : k ∈ σi.dom
   ·rw [appU_ne (U:=σj.U) (d3 k h1)]
    unfold appU
    cases hf : findU σi.U k with
    | none=>exact absurd h1 (Zbv.1 hf)
    | some x=>rfl
   ·rw [appU_ne (U:=σi.U) (k:=k) h1]
    unfold appU
    cases hf : findU σj.U k with
    | none=>simp only [Option.getD_none]; rw [Zbv.2 h1]; rfl
    | some x=>rfl
  show (⟨s.n,_,_⟩ : St) = ⟨s.n,_,_⟩
  exact congr (congrArg _ he) hh
def DC (ops : Array Oper) (listed : Array Bool) : Prop:=∀ j o,ops[j]? = some o → listed.getD j false = true → ∀ x ∈ o.after,Region.binds .any x = true → listed.getD x.on false = true
theorem DC.set {ops : Array Oper} {listed : Array Bool} {j : Nat} (h : DC ops listed) (hj : j ∈ Region.ready .any ops listed) : DC ops (listed.setIfInBounds j true):=by
 intro i o hi hl x hx hb
 by_cases hij : j = i
 ·subst hij
  obtain ⟨_,o',ho',hall⟩:=mem_ready.1 hj
  rw [hi] at ho'; injection ho' with ho'; subst ho'
  exact getD_set_true (hall x hx hb)
 ·rw [getD_set_ne false hij] at hl
  exact getD_set_true (h i o hi hl x hx hb)
def maskO (tab : List Nat) (o : Oper) : Nat:=o.after.toList.foldl (fun m x=>bif Region.binds .any x then (m ||| (1 <<< x.on)) ||| tab.getD x.on 0 else m) 0
def TabOk (ops : Array Oper) (tab : List Nat) : Prop:=∀ (j m : Nat),tab[j]? = some m → ∀ i,m.testBit i = true → ∀ listed,DC ops listed → (∀ o,ops[j]? = some o → ∀ x ∈ o.after,Region.binds .any x = true → listed.getD x.on false = true) → listed.getD i false = true
theorem maskO_bit {tab : List Nat} {o : Oper} {i : Nat} (h : (maskO tab o).testBit i = true) : ∃ x ∈ o.after,Region.binds .any x = true ∧ (i = x.on ∨ (tab.getD x.on 0).testBit i = true):=by
 have key : ∀ (l : List Edge) (m : Nat),(l.foldl (fun m (x : Edge)=>bif Region.binds .any x then (m ||| (1 <<< x.on)) ||| tab.getD x.on 0 else m) m).testBit i = true → m.testBit i = true ∨ ∃ x ∈ l,Region.binds .any x = true ∧ (i = x.on ∨ (tab.getD x.on 0).testBit i = true):=by
  intro l
  induction l with
  | nil=>intro m h; exact .inl h
  | cons x l ih =>
   intro m h
   rw [List.foldl_cons] at h
   rcases ih _ h with h1 | ⟨y,hy,h1⟩
   ·cases hb : Region.binds .any x with
    | false=>rw [hb] at h1; exact .inl h1
    | true =>
     rw [hb] at h1
     simp only [cond_true,Nat.testBit_or,Bool.or_eq_true,Nat.one_shiftLeft,Nat.testBit_two_pow,decide_eq_true_eq] at h1
     rcases h1 with (h1 | h1) | h1
     ·exact .inl h1
     ·exact .inr ⟨x,by simp,hb,.inl h1.symm⟩
     ·exact .inr ⟨x,by simp,hb,.inr h1⟩
   ·exact .inr ⟨y,by simp [hy],h1⟩
 rcases key _ _ h with h1 | ⟨x,hx,h1⟩
 ·simp at h1
 ·exact ⟨x,by simpa using hx,h1⟩
theorem TabOk.snoc {ops : Array Oper} {tab : List Nat} {o : Oper} (h : TabOk ops tab) (ho : ops[tab.length]? = some o) : TabOk ops (tab ++ [maskO tab o]):=by
 intro j m hj i hi listed hd hall
 rcases Nat.lt_or_ge j tab.length with hlt | hge
 ·rw [List.getElem?_append_left hlt] at hj
  exact h j m hj i hi listed hd hall
 ·rw [List.getElem?_append_right hge] at hj
  have hj0 : j = tab.length:=by
   rcases Nat.eq_or_lt_of_le hge with e | e
   ·exact e.symm
   ·rw [List.getElem?_eq_none (by simp; omega)] at hj; cases hj
  subst hj0
  simp at hj
  subst hj
  obtain ⟨x,hx,hb,h1⟩:=maskO_bit hi
  have hl:=hall o ho x hx hb
  rcases h1 with rfl | h1
  ·exact hl
  ·cases ht : tab[x.on]? with
   | none=>rw [List.getD_eq_getElem?_getD,ht] at h1; simp at h1
   | some m' =>
    rw [List.getD_eq_getElem?_getD,ht] at h1
    exact h x.on m' ht i h1 listed hd (fun o' ho' y hy hyb=>hd x.on o' ho' hl y hy hyb)
def ancT : List Nat → List Oper → List Nat
 | tab,[]=>tab
 | tab,o :: l=>ancT (tab ++ [maskO tab o]) l
theorem ancT_ok {ops : Array Oper} : ∀ (l : List Oper) (tab : List Nat),(∀ j,l[j]? = ops[tab.length + j]?) → TabOk ops tab → TabOk ops (ancT tab l)
 | [],tab,_,h=>h
 | o :: l,tab,hl,h=>ancT_ok l _ (fun j=>by have:=hl (j + 1); simpa [Nat.add_assoc,Nat.add_comm 1 j] using this) (h.snoc (by simpa using (hl 0).symm))
def cleanB (σ σ' : Sg) : Bool:=σ'.new.all fun t=>!σ.d.men t && σ.U.all fun p=>match p.2 with | some ob=>!ob.men t | none=>true
def disjB (a b : List Nat) : Bool:=a.all fun k=>!(b.any (Nat.beq k))
def pairB (ops : Array Oper) (oi oj : Oper) (σi σj : Sg) : Bool:=oi.apart ops oj && disjB σi.dom σj.fp && disjB σj.dom σi.fp && disjB σi.dom σj.dom && cleanB σj σi
theorem disjB_spec {a b : List Nat} (h : disjB a b = true) : Disj a b:=fun k hk hb=>by
 unfold disjB at h
 have:=List.all_eq_true.1 h k hk
 simp only [Bool.not_eq_true',List.any_eq_false] at this
 exact this k hb (by simp)
def Clean (σ σ' : Sg) : Prop:=∀ t ∈ σ'.new,σ.d.men t = false ∧ ∀ k ob,(k,some ob) ∈ σ.U → ob.men t = false
theorem cleanB_spec {σ σ' : Sg} (h : cleanB σ σ' = true) : Clean σ σ':=fun t ht=>by
 have:=List.all_eq_true.1 h t ht
 simp only [Bool.and_eq_true,Bool.not_eq_true',List.all_eq_true] at this
 exact ⟨this.1,fun k ob hk=>by simpa using this.2 _ hk⟩
def rowB (ops : Array Oper) (oj : Oper) (σj : Sg) (m : Nat) : Nat → List (Oper × Sg) → Bool
 | _,[]=>true
 | i,(oi,σi) :: r=>cleanB σi σj && (m.testBit i || pairB ops oi oj σi σj) && rowB ops oj σj m (i + 1) r
def allRows (ops : Array Oper) : List (Oper × Sg) → List (Oper × Sg) → List Nat → Bool
 | pre,(o,σ) :: r,m :: ms=>(m >>> pre.length == 0) && rowB ops o σ m 0 pre && allRows ops (pre ++ [(o,σ)]) r ms
 | _,[],_=>true
 | _,_ :: _,[]=>false
structure Pair (ops : Array Oper) (Sf : Nat → Sg) (tab : Nat → Nat) (i j : Nat) : Prop where
 c1 : Clean (Sf i) (Sf j)
 c2 : (tab j).testBit i = true ∨ (∀ oi oj,ops[i]? = some oi → ops[j]? = some oj → oi.apart ops oj = true) ∧ Disj (Sf i).dom (Sf j).fp ∧ Disj (Sf j).dom (Sf i).fp ∧ Disj (Sf i).dom (Sf j).dom ∧ Clean (Sf j) (Sf i)
theorem rowB_spec {ops : Array Oper} {oj : Oper} {σj : Sg} {m : Nat} : ∀ (l : List (Oper × Sg)) (i0 : Nat),rowB ops oj σj m i0 l = true → ∀ (i : Nat) (p : Oper × Sg),l[i]? = some p → Clean p.2 σj ∧ (m.testBit (i0 + i) = true ∨ pairB ops p.1 oj p.2 σj = true)
 | [],_,_,i,p,hp=>by simp at hp
 | (oi,σi) :: r,i0,h,i,p,hp=>by
  simp only [rowB,Bool.and_eq_true,Bool.or_eq_true] at h
  cases i with
  | zero=>simp at hp; subst hp; exact ⟨cleanB_spec h.1.1,h.1.2⟩
  | succ i=>have:=rowB_spec r (i0 + 1) h.2 i p (by simpa using hp); rwa [show i0 + 1 + i = i0 + (i + 1) by omega] at this
theorem allRows_spec {ops : Array Oper} : ∀ (l pre : List (Oper × Sg)) (ms : List Nat),allRows ops pre l ms = true → ∀ (j : Nat) (p : Oper × Sg),l[j]? = some p → ∃ m,ms[j]? = some m ∧ m >>> (pre.length + j) = 0 ∧ ∀ (i : Nat) (q : Oper × Sg),i < pre.length + j → (pre ++ l)[i]? = some q → Clean q.2 p.2 ∧ (m.testBit i = true ∨ pairB ops q.1 p.1 q.2 p.2 = true)
 | [],_,_,_,j,p,hp=>by simp at hp
 | (o,σ) :: r,pre,[],h,j,p,hp=>by simp [allRows] at h
 | (o,σ) :: r,pre,m :: ms,h,j,p,hp=>by
  simp only [allRows,Bool.and_eq_true,beq_iff_eq] at h
  cases j with
  | zero =>
   simp at hp; subst hp
   refine ⟨m,rfl,by simpa using h.1.1,fun i q hi hq=>?_⟩
   rw [List.getElem?_append_left (by simpa using hi)] at hq
   have:=rowB_spec pre 0 h.1.2 i q hq
   simpa using this
  | succ j =>
   obtain ⟨m',e1,e2,e3⟩:=allRows_spec r (pre ++ [(o,σ)]) ms h.2 j p (by simpa using hp)
   refine ⟨m',by simpa using e1,by simpa [Nat.add_assoc,Nat.add_comm 1 j] using e2,fun i q hi hq=>e3 i q (by simp; omega) (by simpa using hq)⟩
def SFresh (t : Nat) (s : St) : Prop:=(∀ u,(s.env u).men t = false) ∧ ∀ k ob,s.heap k = some ob → ob.men t = false
def AnyQ (P : Program) (ops : Array Oper) (Sf : Nat → Sg) (K : St → Prop) : Nat → Array Bool → St → Prop
 | 0,listed,s=>Region.ready .any ops listed = [] ∧ K s
 | fuel + 1,listed,s=>(Region.ready .any ops listed = [] → K s) ∧ ∀ i ∈ Region.ready .any ops listed,∃ o s',ops[i]? = some o ∧ QS P ops o (Sf i) s s' ∧ AnyQ P ops Sf K fuel (listed.setIfInBounds i true) s'
section
variable {P : Program} {ops : Array Oper} {Sf : Nat → Sg} {tab : Nat → Nat}
def Fr (ops : Array Oper) (Sf : Nat → Sg) (listed : Array Bool) (s : St) : Prop:=∀ k,k < ops.size → listed.getD k true = false → ∀ t ∈ (Sf k).new,SFresh t s
def TabOk' (ops : Array Oper) (tab : Nat → Nat) : Prop:=∀ j,j < ops.size → ∀ i,(tab j).testBit i = true → ∀ listed,DC ops listed → (∀ o,ops[j]? = some o → ∀ x ∈ o.after,Region.binds .any x = true → listed.getD x.on false = true) → listed.getD i false = true
theorem bit_no (ht : TabOk' ops tab) {listed : Array Bool} (hd : DC ops listed) {i j : Nat} (hj : j ∈ Region.ready .any ops listed) (hi : listed.getD i true = false) : (tab j).testBit i = false:=by
 obtain ⟨_,o,ho,hall⟩:=mem_ready.1 hj
 cases hb : (tab j).testBit i with
 | false=>rfl
 | true =>
  have h1:=ht j (Array.getElem?_eq_some_iff.1 ho).1 i hb listed hd (fun o' ho' x hx hxb=>by
   rw [ho] at ho'; injection ho' with ho'; subst ho'
   exact hall x hx hxb)
  rcases Nat.lt_or_ge i listed.size with h' | h'
  ·simp [h'] at h1 hi; rw [h1] at hi; cases hi
  ·simp [Array.getElem?_eq_none h'] at h1
theorem ready_lt {listed : Array Bool} {j : Nat} (hj : j ∈ Region.ready .any ops listed) : j < ops.size:=by
 obtain ⟨_,o,ho,_⟩:=mem_ready.1 hj
 exact (Array.getElem?_eq_some_iff.1 ho).1
theorem clean_of (ht : TabOk' ops tab) (hp : ∀ i j,i < j → j < ops.size → Pair ops Sf tab i j) {listed : Array Bool} (hd : DC ops listed) {i k : Nat} (hi : i ∈ Region.ready .any ops listed) (hk : k < ops.size) (hku : listed.getD k true = false) (hne : k ≠ i) : Clean (Sf i) (Sf k):=by
 rcases Nat.lt_or_ge i k with h | h
 ·exact (hp i k h hk).c1
 ·have hlt : k < i:=by omega
  rcases (hp k i hlt (ready_lt hi)).c2 with h1 | h1
  ·rw [bit_no ht hd hi hku] at h1; cases h1
  ·exact h1.2.2.2.2
theorem SFresh.app {t : Nat} {s : St} {dst : Option Nat} {σ : Sg} (h : SFresh t s) (h1 : σ.d.men t = false) (h2 : ∀ k ob,(k,some ob) ∈ σ.U → ob.men t = false) : SFresh t (s.app dst σ):=by
 refine ⟨fun u=>?_,fun k ob hk=>?_⟩
 ·by_cases hu : dst = some u
  ·subst hu
   show (upd s.env u σ.d u).men t = false
   rw [upd_same]; exact h1
  ·show (putE s.env dst σ.d u).men t = false
   rw [putE_ne hu]; exact h.1 u
 ·have hk' : appU σ.U s.heap k = some ob:=hk
  unfold appU at hk'
  cases hU : findU σ.U k with
  | none=>rw [hU] at hk'; exact h.2 k ob hk'
  | some x=>rw [hU] at hk'; simp only [Option.getD_some] at hk'; subst hk'; exact h2 k ob (findU_mem hU)
theorem Fr.step (ht : TabOk' ops tab) (hp : ∀ i j,i < j → j < ops.size → Pair ops Sf tab i j) {listed : Array Bool} (hd : DC ops listed) {s : St} {i : Nat} {dst : Option Nat} (hi : i ∈ Region.ready .any ops listed) (h : Fr ops Sf listed s) : Fr ops Sf (listed.setIfInBounds i true) (s.app dst (Sf i)):=by
 intro k hk hku t htk
 have hne : k ≠ i:=fun e=>by
  subst e
  have h0:=(mem_ready.1 hi).1
  rcases Nat.lt_or_ge k listed.size with h' | h'
  ·simp [h'] at hku
  ·simp [Array.getElem?_eq_none h'] at h0
 rw [getD_set_ne true (Ne.symm hne)] at hku
 obtain ⟨c1,c2⟩:=clean_of ht hp hd hi hk hku hne t htk
 exact (h k hk hku t htk).app c1 c2
theorem AnyQ.wp (ht : TabOk' ops tab) (hp : ∀ i j,i < j → j < ops.size → Pair ops Sf tab i j) {w0 : Bs} {Q : Exit → St → Prop} : ∀ (fuel : Nat) (listed : Array Bool) (s : St) (a : Act) (w : World),DC ops listed → Fr ops Sf listed s → Sim w0 s a w → AnyQ P ops Sf (fun s=>Q .normal s) fuel listed s → wpAny P .any ops (Post w0 Q) fuel listed a w
 | 0,listed,s,a,w,hd,hfr,hs,h=>⟨h.1,_,h.2,hs⟩
 | fuel + 1,listed,s,a,w,hd,hfr,hs,h=>by
  refine ⟨fun h0=>⟨_,h.1 h0,hs⟩,fun i hi=>?_⟩
  obtain ⟨o,s',ho,⟨g,hg,hdk,l1,l2,rfl⟩,hnext⟩:=h.2 i hi
  have hfr':=Fr.step (dst:=o.dst) ht hp hd hi hfr
  unfold wpOp
  simp only [ho]
  rw [hg.wanted hs]
  cases g with
  | true =>
   simp only [if_true]
   refine .inl ?_
   obtain ⟨he,hf⟩:=l1 rfl
   refine hs.step he hf (fun t htn=>?_) (Zbs hdk) (fun a' w' hs'=>AnyQ.wp ht hp fuel _ _ _ _ (hd.set hi) hfr' hs' hnext)
   have h1:=hfr i (ready_lt hi) (mem_ready.1 hi).1 t htn
   exact ⟨fun u _=>h1.1 u,fun k ob _=>h1.2 k ob⟩
  | false =>
   simp only [Bool.false_eq_true,if_false]
   rw [l2 rfl] at hnext hfr'
   exact AnyQ.wp ht hp fuel _ _ _ _ (hd.set hi) hfr' (hs.skip o.dst (Zbs hdk)) hnext
theorem AnyQ.first (ht : TabOk' ops tab) (hp : ∀ i j,i < j → j < ops.size → Pair ops Sf tab i j) {K : St → Prop} {i : Nat} {oi : Oper} (hi : ops[i]? = some oi) :
  ∀ (fuel : Nat) (listed : Array Bool) (s s1 : St),DC ops listed → (∀ j,j < i → listed.getD j true = true) →
   i ∈ Region.ready .any ops listed → QS P ops oi (Sf i) s s1 → AnyQ P ops Sf K fuel (listed.setIfInBounds i true) s1 → AnyQ P ops Sf K (fuel + 1) listed s:=by
 intro fuel
 induction fuel with
 | zero =>
  intro listed s s1 _ _ hr hy h
  refine ⟨fun h0=>(by rw [h0] at hr; cases hr),fun j hj=>?_⟩
  by_cases hji : j = i
  ·subst hji; exact ⟨oi,s1,hi,hy,h⟩
  ·have:=ready_mono hj hji
   rw [h.1] at this
   cases this
 | succ fuel ih =>
  intro listed s s1 hd hlow hr hy h
  refine ⟨fun h0=>(by rw [h0] at hr; cases hr),fun j hj=>?_⟩
  by_cases hji : j = i
  ·subst hji; exact ⟨oi,s1,hi,hy,h⟩
  ·obtain ⟨oj,s2,hoj,hq,hn⟩:=h.2 j (ready_mono hj hji)
   have hij : i < j:=by
    rcases Nat.lt_or_ge j i with h' | h'
    ·have h1:=hlow j h'
     rw [(mem_ready.1 hj).1] at h1; cases h1
    ·omega
   have hpair:=hp i j hij (ready_lt hj)
   rcases hpair.c2 with hb | ⟨p1,p2,p3,p4,_⟩
   ·rw [bit_no ht hd hj (mem_ready.1 hr).1] at hb; cases hb
   obtain ⟨s1',q1,q2⟩:=QS.swap (p1 oi oj hi hoj) p2 p3 p4 hy hq
   refine ⟨oj,s1',hoj,q1,ih (listed.setIfInBounds j true) s1' s2 (hd.set hj) (fun k hk=>?_) (ready_mono hr (Ne.symm hji)) q2 ?_⟩
   ·by_cases hjk : j = k
    ·omega
    ·rw [getD_set_ne true hjk]; exact hlow k hk
   ·rw [Array.setIfInBounds_comm _ _ hji]
    exact hn
def Lst (N k : Nat) (listed : Array Bool) : Prop:=listed.size = N ∧ ∀ j,j < N → listed[j]? = some (decide (j < k))
theorem Lst.next {N k : Nat} {listed : Array Bool} (h : Lst N k listed) : Lst N (k + 1) (listed.setIfInBounds k true):=by
 refine ⟨by simp [h.1],fun j hj=>?_⟩
 by_cases hjk : k = j
 ·subst hjk
  rw [Array.getElem?_setIfInBounds_self_of_lt (by rw [h.1]; exact hj)]
  simp
 ·rw [Array.getElem?_setIfInBounds_ne hjk,h.2 j hj]
  congr 1
  rw [Bool.eq_iff_iff]; simp; omega
def lowB : Nat → List Oper → Bool
 | _,[]=>true
 | k,o :: l=>o.after.toList.all (fun x=>!(Region.binds .any x) || Nat.blt x.on k) && lowB (k + 1) l
def Chain (P : Program) (ops : Array Oper) : List Oper → List Sg → St → St → Prop
 | [],[],s,e=>e = s
 | o :: l,σ :: σs,s,e=>QS P ops o σ s (s.app o.dst σ) ∧ Chain P ops l σs (s.app o.dst σ) e
 | _,_,_,_=>False
theorem W.list {Z : List Sg → Bool} {K : St → Prop} : ∀ {l : List Oper} {s : St} {acc : List Sg},W P ops Z l s (some acc) K → ∃ σs e,σs.length = l.length ∧ Chain P ops l σs s e ∧ Z (σs.reverse ++ acc) = true ∧ K e
 | [],s,acc,h=>⟨[],s,rfl,rfl,h.1 acc rfl,h.2⟩
 | o :: l,s,acc,⟨g,σ,hg,hd,h1,h2,hW⟩=>by
  obtain ⟨σs,e,e1,e2,e3,e4⟩:=W.list (acc:=σ :: acc) hW
  refine ⟨σ :: σs,e,by simp [e1],⟨⟨g,hg,hd,fun h=>⟨(h1 h).1,(h1 h).2.1⟩,h2,rfl⟩,e2⟩,by simpa using e3,e4⟩
theorem AnyQ.lex (ht : TabOk' ops tab) (hp : ∀ i j,i < j → j < ops.size → Pair ops Sf tab i j) {K : St → Prop} : ∀ (l : List Oper) (σs : List Sg) (k : Nat) (listed : Array Bool) (s e : St),(∀ j,l[j]? = ops[k + j]?) → (∀ j σ,σs[j]? = some σ → Sf (k + j) = σ) → k + l.length = ops.size → Lst ops.size k listed → DC ops listed → lowB k l = true → Chain P ops l σs s e → K e → AnyQ P ops Sf K l.length listed s
 | [],[],k,listed,s,e,hl,hσ,hn,hL,hd,hB,hc,hK=>by
  have : e = s:=hc
  subst this
  refine ⟨?_,hK⟩
  cases hr : Region.ready .any ops listed with
  | nil=>rfl
  | cons j r =>
   exfalso
   have hj : j ∈ Region.ready .any ops listed:=by rw [hr]; simp
   have h1:=(mem_ready.1 hj).1
   have h2:=hL.2 j (ready_lt hj)
   have : j < k:=by have:=ready_lt hj; simp at hn; omega
   rw [Array.getD_eq_getD_getElem?,h2] at h1
   simp at h1
   omega
 | o :: l,σ :: σs,k,listed,s,e,hl,hσ,hn,hL,hd,hB,hc,hK=>by
  have h0 : ops[k]? = some o:=by simpa using (hl 0).symm
  have hkn : k < ops.size:=by simp at hn; omega
  have hS : Sf k = σ:=by simpa using hσ 0 σ rfl
  simp only [lowB,Bool.and_eq_true,List.all_eq_true,Bool.or_eq_true,Bool.not_eq_true',Nat.blt_eq] at hB
  have hr : k ∈ Region.ready .any ops listed:=by
   refine mem_ready.2 ⟨?_,o,h0,fun x hx hb=>?_⟩
   ·rw [Array.getD_eq_getD_getElem?,hL.2 k hkn]; simp
   ·rcases hB.1 x (by simpa using hx) with h1 | h1
    ·rw [hb] at h1; cases h1
    ·rw [Array.getD_eq_getD_getElem?,hL.2 x.on (by omega)]; simp [h1]
  refine AnyQ.first ht hp h0 l.length listed s (s.app o.dst σ) hd (fun j hj=>?_) hr (by rw [hS]; exact hc.1) ?_
  ·rw [Array.getD_eq_getD_getElem?,hL.2 j (by omega)]; simp [hj]
  ·exact AnyQ.lex ht hp l σs (k + 1) _ _ e (fun j=>by have:=hl (j + 1); simpa [Nat.add_assoc,Nat.add_comm 1 j] using this) (fun j σ' hj=>by have:=hσ (j + 1) σ' (by simpa using hj); rwa [show k + 1 + j = k + (j + 1) by omega]) (by simp at hn; omega) hL.next (hd.set hr) hB.2 hc.2 hK
 | [],_ :: _,_,_,_,_,_,_,_,_,_,_,h,_=>h.elim
 | _ :: _,[],_,_,_,_,_,_,_,_,_,_,h,_=>h.elim
end
def newsFresh (l : List (Nat × D)) (h : List (Nat × Ob)) (acc : List Sg) : Bool:=acc.all fun σ=>σ.new.all fun t=>l.all (fun p=>!p.2.men t) && h.all (fun p=>!p.2.men t)
def regB (ops : List Oper) (l : List (Nat × D)) (h : List (Nat × Ob)) (acc : List Sg) : Bool :=
 lowB 0 ops && allRows ops.toArray [] (ops.zip acc.reverse) (ancT [] ops) && newsFresh l h acc
theorem look_fresh {t : Nat} : ∀ {l : List (Nat × D)},(l.all fun p=>!p.2.men t) = true → ∀ u,(look l u).men t = false
 | [],_,u=>rfl
 | (v,d) :: l,h,u=>by
  simp only [List.all_cons,Bool.and_eq_true,Bool.not_eq_true'] at h
  simp only [look,upd]
  split
  ·exact h.1
  ·exact look_fresh (by simpa using h.2) u
theorem lookH_fresh {t : Nat} : ∀ {l : List (Nat × Ob)},(l.all fun p=>!p.2.men t) = true → ∀ u ob,lookH l u = some ob → ob.men t = false
 | [],_,u,ob,h=>by cases h
 | (v,d) :: l,h,u,ob,ho=>by
  simp only [List.all_cons,Bool.and_eq_true,Bool.not_eq_true'] at h
  simp only [lookH,upd] at ho
  split at ho
  ·injection ho with ho; subst ho; exact h.1
  ·exact lookH_fresh (by simpa using h.2) u ob ho
theorem draw_any {P : Program} {ops : List Oper} {n : Nat} {l : List (Nat × D)} {h : List (Nat × Ob)} {Q : Exit → St → Prop} (hW : W P ops.toArray (regB ops l h) ops (mkS n l h) (some []) (fun s'=>Q .normal s')) :
  ∃ (Sf : Nat → Sg) (tab : Nat → Nat),TabOk' ops.toArray tab ∧ (∀ i j,i < j → j < ops.toArray.size → Pair ops.toArray Sf tab i j) ∧ DC ops.toArray (Array.replicate ops.length false) ∧ Fr ops.toArray Sf (Array.replicate ops.length false) (mkS n l h) ∧ AnyQ P ops.toArray Sf (fun s'=>Q .normal s') ops.length (Array.replicate ops.length false) (mkS n l h):=by
 obtain ⟨σs,e,e1,e2,e3,e4⟩:=hW.list
 rw [List.append_nil] at e3
 unfold regB at e3
 simp only [Bool.and_eq_true,List.reverse_reverse] at e3
 obtain ⟨⟨b1,b2⟩,b3⟩:=e3
 have hz : ∀ j,j < ops.length → ∃ o σ,ops[j]? = some o ∧ σs[j]? = some σ ∧ (ops.zip σs)[j]? = some (o,σ):=fun j hj=>by
  refine ⟨ops[j],σs[j],List.getElem?_eq_getElem hj,List.getElem?_eq_getElem (by omega),?_⟩
  rw [List.getElem?_eq_getElem (by simp; omega)]
  simp
 have ht : TabOk ops.toArray (ancT [] ops):=ancT_ok ops [] (by simp) (fun j m hj=>by simp at hj)
 have ht' : TabOk' ops.toArray (fun j=>(ancT [] ops).getD j 0):=fun j hj i hi listed hd hall=>by
  have hi : ((ancT [] ops).getD j 0).testBit i = true:=hi
  cases hm : (ancT [] ops)[j]? with
  | none=>rw [List.getD_eq_getElem?_getD,hm] at hi; simp at hi
  | some m=>rw [List.getD_eq_getElem?_getD,hm] at hi; exact ht j m hm i hi listed hd hall
 have hp : ∀ i j,i < j → j < ops.toArray.size → Pair ops.toArray (fun i=>σs.getD i skipS) (fun j=>(ancT [] ops).getD j 0) i j:=fun i j hij hj=>by
  have hj' : j < ops.length:=by simpa using hj
  obtain ⟨oj,σj,j1,j2,j3⟩:=hz j hj'
  obtain ⟨oi,σi,i1,i2,i3⟩:=hz i (by omega)
  obtain ⟨m,m1,_,m3⟩:=allRows_spec (ops.zip σs) [] (ancT [] ops) b2 j (oj,σj) j3
  obtain ⟨q1,q2⟩:=m3 i (oi,σi) (by simpa using hij) (by simpa using i3)
  have ei : σs.getD i skipS = σi:=by rw [List.getD_eq_getElem?_getD,i2]; rfl
  have ej : σs.getD j skipS = σj:=by rw [List.getD_eq_getElem?_getD,j2]; rfl
  have em : (ancT [] ops).getD j 0 = m:=by rw [List.getD_eq_getElem?_getD,m1]; rfl
  refine ⟨?_,?_⟩
  ·show Clean (σs.getD i skipS) (σs.getD j skipS)
   rw [ei,ej]; exact q1
  ·show ((ancT [] ops).getD j 0).testBit i = true ∨ _
   rw [em]
   rcases q2 with q2 | q2
   ·exact .inl q2
   ·right
    show _ ∧ Disj (σs.getD i skipS).dom (σs.getD j skipS).fp ∧ Disj (σs.getD j skipS).dom (σs.getD i skipS).fp ∧ Disj (σs.getD i skipS).dom (σs.getD j skipS).dom ∧ Clean (σs.getD j skipS) (σs.getD i skipS)
    rw [ei,ej]
    unfold pairB at q2
    simp only [Bool.and_eq_true] at q2
    obtain ⟨⟨⟨⟨r1,r2⟩,r3⟩,r4⟩,r5⟩:=q2
    refine ⟨fun oi' oj' hi' hj'=>?_,disjB_spec r2,disjB_spec r3,disjB_spec r4,cleanB_spec r5⟩
    have f1 : oi' = oi:=by simpa [i1] using hi'.symm
    have f2 : oj' = oj:=by simpa [j1] using hj'.symm
    rw [f1,f2]; exact r1
 have hd0 : DC ops.toArray (Array.replicate ops.length false):=fun j o hj hl=>by
  rw [Array.getD_eq_getD_getElem?] at hl
  rw [Array.getElem?_replicate] at hl
  split at hl<;>simp at hl
 have hfr : Fr ops.toArray (fun i=>σs.getD i skipS) (Array.replicate ops.length false) (mkS n l h):=fun k hk _ t htk=>by
  have hk' : k < ops.length:=by simpa using hk
  obtain ⟨o,σ,k1,k2,k3⟩:=hz k hk'
  have ek : σs.getD k skipS = σ:=by rw [List.getD_eq_getElem?_getD,k2]; rfl
  have htk' : t ∈ (σs.getD k skipS).new:=htk
  rw [ek] at htk'
  unfold newsFresh at b3
  have:=List.all_eq_true.1 b3 σ (by rw [List.mem_reverse]; exact List.mem_of_getElem? k2)
  have:=List.all_eq_true.1 this t htk'
  simp only [Bool.and_eq_true] at this
  exact ⟨look_fresh this.1,lookH_fresh this.2⟩
 refine ⟨_,_,ht',hp,hd0,hfr,?_⟩
 refine AnyQ.lex ht' hp ops σs 0 _ _ e (by simp) (fun j σ hj=>by rw [Nat.zero_add,List.getD_eq_getElem?_getD,hj]; rfl) (by simp) ⟨by simp,fun j hj=>?_⟩ hd0 b1 e2 e4
 rw [Array.getElem?_replicate,if_pos (by simpa using hj)]
 simp
theorem draw_wp {P : Program} {ops : List Oper} {n : Nat} {l : List (Nat × D)} {h : List (Nat × Ob)} {w0 : Bs} {Q : Exit → St → Prop} (hW : W P ops.toArray (regB ops l h) ops (mkS n l h) (some []) (fun s'=>Q .normal s')) (a : Act) (w : World) (hs : Sim w0 (mkS n l h) a w) : wpAny P .any ops.toArray (Post w0 Q) ops.length (Array.replicate ops.length false) a w:=by
 obtain ⟨Sf,tab,ht',hp,hd0,hfr,hq⟩:=draw_any hW
 exact AnyQ.wp ht' hp _ _ _ _ _ hd0 hfr hs hq
def AW (P : Program) (c : Code) (s : St) (Q : Exit → St → Prop) : Prop:=∀ w0 a w,Sim w0 s a w → c.wp P (Post w0 Q) a w
def Thn (K : St → Prop) (Q : Exit → St → Prop) : Exit → St → Prop
 | .normal,s=>K s
 | e,s=>Q e s
def Blk (id : Nat) (Q : Exit → St → Prop) : Exit → St → Prop
 | .exit id',s=>if id' = id then Q .normal s else Q (.exit id') s
 | e,s=>Q e s
section
variable {P : Program} {s : St} {Q : Exit → St → Prop}
theorem aw_seq {x y : Code} (h : AW P x s (Thn (fun s'=>AW P y s' Q) Q)) : AW P (.seq x y) s Q:=fun w0 a w hs =>
 wp_seq (wp_mono (h w0 a w hs) fun e a w ⟨s',hq,hs'⟩=>by
  cases e<;>first|exact hq w0 a w hs'|exact ⟨s',hq,hs'⟩)
theorem aw_block {id : Nat} {c : Code} (h : AW P c s (Blk id Q)) : AW P (.block id c) s Q := fun w0 a w hs =>
  wp_block (wp_mono (h w0 a w hs) fun e a w ⟨s', hq, hs'⟩ => by
    cases e <;> first
      | exact ⟨s', hq, hs'⟩
      | (rename_i i
         simp only [Blk] at hq
         simp only [Exit.inBlock]
         split at hq <;> rename_i he
         · rw [if_pos he]; exact ⟨s', hq, hs'⟩
         · rw [if_neg he]; exact ⟨s', hq, hs'⟩))
theorem aw_skip (h : Q .normal s) : AW P .skip s Q:=fun w0 a w hs=>wp_skip ⟨s,h,hs⟩
theorem aw_ret (h : Q .ret s) : AW P .ret s Q:=fun w0 a w hs=>wp_ret ⟨s,h,hs⟩
theorem aw_exit {id : Nat} (h : Q (.exit id) s) : AW P (.exit id) s Q:=fun w0 a w hs=>wp_exit ⟨s,h,hs⟩
theorem aw_cond {c : Operand} {x y : Code} {m b : Bool} (hc : evD s.env c = .one (.r m (bool b))) (h1 : b = true → AW P x s Q) (h2 : b = false → AW P y s Q) : AW P (.cond c x y) s Q:=fun w0 a w hs=>by
 obtain ⟨ι,own,hs'⟩:=hs
 have:=hs'.ev c
 rw [hc] at this
 exact wp_cond_split this.1 (fun hb=>h1 hb w0 a w ⟨ι,own,hs'⟩) (fun hb=>h2 hb w0 a w ⟨ι,own,hs'⟩)
theorem aw_region {id : Nat} {l : List Oper} (h : W P l.toArray (fun _=>true) l s none (fun s'=>Q .normal s')) : AW P (.region id l.toArray false) s Q:=fun w0 a w hs =>
 wp_region_lit (wpList_of_W l s h a w hs)
theorem Sim.drew {w0 : Bs} {a : Act} {w : World} (h : Sim w0 s a w) : Sim w0 s a { w with drawn:=w.drawn + 1 }:=by
 obtain ⟨ι,own,hs⟩:=h
 have hb : Below w.heap.size w { w with drawn:=w.drawn + 1 }:=⟨rfl,rfl,rfl,Nat.le_refl _,fun _ _=>rfl⟩
 have:=hs.eff (dst:=none) (σ:=skipS) (v:=.tuple #[]) (Chg.quiet hs.own_ hb ⟨[],rfl,rfl,fun j x hj=>by simp at hj⟩) (skip_fine _) (skip_fresh _ _) (fun t ht=>by cases ht)
 exact ⟨ι,own,this⟩
theorem aw_region_draw {id : Nat} {ops : List Oper} {n : Nat} {l : List (Nat × D)} {h : List (Nat × Ob)} (hm : P.follows .mixedOrders = true) (hW : W P ops.toArray (regB ops l h) ops (mkS n l h) (some []) (fun s'=>Q .normal s')) : AW P (.region id ops.toArray true) (mkS n l h) Q:=fun w0 a w hs=>by
 refine wp_region_any hm ?_
 have:=draw_wp hW a _ hs.drew
 simpa using this
def Weak (s s' : St) : Prop:=∀ w0 a w,Sim w0 s a w → Sim w0 s' a w
theorem aw_loop {α : Type} (f : α → St) (μ : α → Nat) (x0 : α) {c : Code} (h0 : Weak s (f x0)) (round : ∀ x,AW P c (f x) (Thn (fun s'=>∃ x',Weak s' (f x') ∧ μ x' < μ x) Q)) : AW P (.loop c) s Q:=fun w0 a w hs=>by
 intro b k cs
 have key : ∀ n x,μ x = n → ∀ a w,Sim w0 (f x) a w → ∃ e a' w',Post w0 Q e a' w' ∧ Arrives P (lone (b.at a (.code c :: .inLoop c :: k)) cs w) b k cs e a' w':=by
  intro n
  induction n using Nat.strongRecOn with
  | _ n ih =>
   intro x hx a w hs
   obtain ⟨e,a₁,w₁,⟨s',hq,hs'⟩,harr⟩:=round x w0 a w hs b (.inLoop c :: k) cs
   cases e with
   | normal =>
    obtain ⟨x',hw,hlt⟩:=hq
    obtain ⟨e₂,a₂,w₂,hq₂,harr₂⟩:=ih (μ x') (hx ▸ hlt) x' rfl a₁ w₁ (hw w0 a₁ w₁ hs')
    exact ⟨e₂,a₂,w₂,hq₂,.of_steps (Steps.trans harr (.one step_inLoop)) harr₂⟩
   | exit id=>exact ⟨_,a₁,w₁,⟨s',hq,hs'⟩,.pass (x:=.inLoop c) rfl (fun _ _=>.inl (by simp)) harr⟩
   | goto l=>exact ⟨_,a₁,w₁,⟨s',hq,hs'⟩,.pass (x:=.inLoop c) rfl (fun _ _=>.inl (by simp)) harr⟩
   | ret=>exact ⟨_,a₁,w₁,⟨s',hq,hs'⟩,.pass (x:=.inLoop c) rfl (fun _ _=>.inl (by simp)) harr⟩
   | panic ch=>exact ⟨_,a₁,w₁,⟨s',hq,hs'⟩,.pass (x:=.inLoop c) rfl (fun _ _=>.inl (by simp)) harr⟩
   | outgrown=>exact ⟨_,a₁,w₁,⟨s',hq,hs'⟩,.pass (x:=.inLoop c) rfl (fun _ _=>.inl (by simp)) harr⟩
 obtain ⟨e,a',w',hq,harr⟩:=key _ x0 rfl a w (h0 w0 a w hs)
 exact ⟨e,a',w',hq,.of_steps (.one step_loop) harr⟩
end
def CRes (H : Nat → Option Ob) (x : Cell) (r : R) : Prop :=
 ∀ (ι : Nat → Nat × Nat) (base : Nat) (w : World) (own : Nat → Prop) (v : Value),(∀ k ob,H k = some ob → own (ι k).1 ∧ ob.p ι base ⟨w,own⟩ (ι k)) → (∀ b,own b → base ≤ b) → x.p ι base ⟨w,own⟩ v → r.p ⟨w,fun b=>b < base⟩ v
def DRes (H : Nat → Option Ob) (d : D) (x : P0) : Prop :=
 ∀ (ι : Nat → Nat × Nat) (base : Nat) (w : World) (own : Nat → Prop) (v : Value),(∀ k ob,H k = some ob → own (ι k).1 ∧ ob.p ι base ⟨w,own⟩ (ι k)) → (∀ b,own b → base ≤ b) → d.p ι base ⟨w,own⟩ v → x.p ⟨w,fun b=>b < base⟩ v
section
variable {H : Nat → Option Ob}
theorem cres_new {r : R} : CRes H (.r true r) r:=fun ι base w own v hH ho h =>
 r.mono (c:=Cx.young ⟨w,own⟩ base true) (Cx.Ext.sub rfl (fun b hb=>.inr hb)) h
theorem Zaq {m : Bool} {u : Value} : CRes H (.r m (val u)) (val u):=fun ι base w own v hH ho h=>h
theorem Zae {m nil : Bool} {sz sz' : Nat} : CRes H (.r m (row nil sz [])) (row nil sz' []):=fun ι base w own v hH ho h=>let ⟨ao,cap,h1,h2,h3,h4,h5⟩:=Zas.1 h; Zas.2 ⟨ao,cap,h1,h2,h3,h4,fun h=>by simp at h⟩
theorem row_of_own {ι : Nat → Nat × Nat} {base : Nat} {w : World} {own : Nat → Prop} {k j n sz : Nat} {E : TypeId} {els : List P0} {new : Bool} {v : Value} {own' : Nat → Prop} (hk : own (ι k).1 ∧ (Ob.sl E sz new els).p ι base ⟨w,own⟩ (ι k)) (hn : j + n ≤ els.length) (h : (Cell.own k j n sz).p ι base ⟨w,own⟩ v)
  (ho : ¬ own' (ι k).1) (he : Cx.Ext (Cx.young ⟨w,own⟩ base new) ⟨w,own'⟩) : (row false sz ((els.drop j).take n)).p ⟨w,own'⟩ v:=by
 obtain ⟨oo,cap,arr,E',h1,h0,h2,h3,h4,h5⟩:=h
 obtain ⟨hown,arr',g1,g2,g3⟩:=hk
 have hl : ((els.drop j).take n).length = n:=by rw [List.length_take,List.length_drop]; omega
 refine Zas.2 ⟨_,cap,by rw [hl]; exact h1,by rw [hl]; exact ⟨h2,h3⟩,by simp,by simp,fun hpos=>⟨(ι k).1,(ι k).2 + j * sz,by rw [h0.resolve_right (by omega)],lt_of_heap g1,ho,fun i e hi=>?_⟩⟩
 rw [List.getElem?_take] at hi
 split at hi
 ·rw [List.getElem?_drop] at hi
  obtain ⟨e1,e2⟩:=g3 (j + i) e hi
  refine ⟨e1,fun m r hm=>?_⟩
  obtain ⟨u,hu,hr⟩:=e2 m r hm
  refine ⟨u,?_,r.mono he hr⟩
  show w.cell? _ = some u
  rw [Zbi g1,← hu,Nat.add_mul]
  congr 1
  omega
 ·cases hi
theorem cres_own {k j n sz : Nat} {E : TypeId} {els : List P0} (hk : H k = some (.sl E sz true els)) (hn : j + n ≤ els.length) : CRes H (.own k j n sz) (row false sz ((els.drop j).take n)):=fun ι base w own v hH ho h =>
 row_of_own (hH k _ hk) hn h (fun hb=>by
  have h1:=ho _ (hH k _ hk).1
  have h2 : (ι k).1 < base:=hb
  omega) (Cx.Ext.sub (c:=Cx.young ⟨w,own⟩ base true) (c':=⟨w,fun b=>b < base⟩) rfl (fun b hb=>.inr hb))
theorem Zz {k n sz : Nat} {E : TypeId} {els : List P0} (hk : H k = some (.sl E sz true els)) (hn : n = els.length) : CRes H (.own k 0 n sz) (row false sz els):=by
 have:=cres_own (H:=H) (j:=0) (n:=n) hk (by omega)
 rwa [List.drop_zero,List.take_of_length_le (by omega)] at this
theorem Za7 {x : Cell} {r : R} (h : CRes H x r) : DRes H (.one x) (.one r):=h
def CsRes (H : Nat → Option Ob) : List Cell → List R → Prop
 | [],[]=>True
 | x :: xs,r :: rs=>CRes H x r ∧ CsRes H xs rs
 | _,_=>False
theorem CsRes.get : ∀ {xs : List Cell} {rs : List R},CsRes H xs rs → xs.length = rs.length ∧ ∀ (j : Nat) (r : R),rs[j]? = some r → ∃ x,xs[j]? = some x ∧ CRes H x r
 | [],[],_=>⟨rfl,fun j r hj=>by simp at hj⟩
 | x :: xs,r :: rs,⟨h1,h2⟩=>by
  obtain ⟨g1,g2⟩:=h2.get
  refine ⟨by simp [g1],fun j r' hj=>?_⟩
  cases j with
  | zero=>simp at hj; subst hj; exact ⟨x,rfl,h1⟩
  | succ j=>exact g2 j r' (by simpa using hj)
 | [],_ :: _,h=>h.elim
 | _ :: _,[],h=>h.elim
theorem Zar {xs : List Cell} {rs : List R} (h : CsRes H xs rs) : DRes H (.agg xs) (.agg rs):=fun ι base w own v hH ho ⟨vs,h1,h2,h3⟩=>by
 obtain ⟨g1,g2⟩:=h.get
 refine ⟨vs,h1,by omega,fun j r hj=>?_⟩
 obtain ⟨x,hx,hc⟩:=g2 j r hj
 obtain ⟨u,hu,hp⟩:=h3 j x hx
 exact ⟨u,hu,hc ι base w own u hH ho hp⟩
end
def RvOk (P : Program) (s : St) : ResultVar → P0 → Prop
 | .tmp t,x=>DRes s.heap (s.env t) x
 | .cell t ty,x=>∃ k off E cells ag m,s.env t = .one (.ptr k 0 0 off) ∧ s.heap k = some (.var E cells) ∧ tyOf P ty = some (ag,m) ∧ Nat.ble (off + m) cells.length = true ∧ (ag || Nat.beq m 1) = true ∧ DRes s.heap (cut ag m off cells) x
def RvsOk (P : Program) (s : St) : List ResultVar → List P0 → Prop
 | [],[]=>True
 | a :: l,x :: xs=>RvOk P s a x ∧ RvsOk P s l xs
 | _,_=>False
def RetOk (P : Program) (s : St) (l : List ResultVar) : Res → Prop
 | .v x=>match l with | [a]=>RvOk P s a x | _=>False
 | .tup xs=>Nat.beq l.length 1 = false ∧ RvsOk P s l xs
def rvRun (tmps : Array Value) : ResultVar → Sem Value
 | .tmp t=>pure (tmps.getD t undef)
 | .cell a t=>do loadVar t (← asAddr (tmps.getD a undef))
def RvsRun (P : Program) (w : World) (tmps : Array Value) : List ResultVar → List Value → Prop
 | [],[]=>True
 | a :: l,v :: vs=>(rvRun tmps a).run P w = .ok v w ∧ RvsRun P w tmps l vs
 | _,_=>False
theorem Zbn {P : Program} {fn : Func} {tmps : Array Value} {w : World} {l : List ResultVar} {vs : List Value} (h : fn.results = l.toArray) (hr : RvsRun P w tmps l vs) : (results fn tmps).run P w = .ok (if h : vs.toArray.size = 1 then vs.toArray[0] else .tuple vs.toArray) w:=by
 have key : ∀ (l : List ResultVar) (vs : List Value),RvsRun P w tmps l vs → ((l.mapM (rvRun tmps) : Sem (List Value))).run P w = .ok vs w:=by
  intro l
  induction l with
  | nil=>intro vs h; cases vs with
   | nil=>rfl
   | cons v vs=>exact h.elim
  | cons a l ih =>
   intro vs h
   cases vs with
   | nil=>exact h.elim
   | cons v vs =>
    rw [List.mapM_cons]
    simp only [Sem.run_bind,h.1,Result.andThen_ok,ih vs h.2,Sem.run_pure]
 have hm : (results fn tmps) = (do let vs ← l.mapM (rvRun tmps); pure (if h : vs.toArray.size = 1 then vs.toArray[0] else .tuple vs.toArray)):=by
  unfold results
  rw [h,List.mapM_toArray]
  simp only [bind_map_left]
  rfl
 rw [hm]
 simp only [Sem.run_bind,key l vs hr,Result.andThen_ok,Sem.run_pure]
theorem rv_run {P : Program} {w0 : Bs} {s : St} {a : Act} {w : World} {ι : Nat → Nat × Nat} {own : Nat → Prop} (hs : Sim' w0 s a w ι own) : ∀ {rv : ResultVar} {x : P0},RvOk P s rv x → ∃ v,(rvRun a.tmps rv).run P w = .ok v w ∧ x.p ⟨w,fun b=>b < w0.base⟩ v
 | .tmp t,x,h=>⟨_,rfl,h ι _ w own _ hs.heap (fun b hb=>(hs.own_ b hb).1) (hs.env t)⟩
 | .cell t ty,x,⟨k,off,E,cells,ag,m,h1,h2,h3,h4,h5,h6⟩=>by
  have hx:=hs.env t
  rw [h1] at hx
  have hx2 : a.tmps.getD t undef = .pointer (some ⟨(ι k).1,(ι k).2 + off,none⟩):=by have : a.tmps.getD t undef = .pointer (some ⟨(ι k).1,(ι k).2 + (0 * 0 + off),none⟩):=hx; simpa using this
  obtain ⟨v,g1,g2⟩:=Zb0 (P:=P) (t:=ty) (hs.heap k _ h2).2 h3 (by simpa using h4) (by simpa using h5)
  refine ⟨v,?_,h6 ι _ w own _ hs.heap (fun b hb=>(hs.own_ b hb).1) g2⟩
  simp only [rvRun,hx2,Sem.run_bind,asAddr,Sem.run_pure,Result.andThen_ok,g1]
theorem rvs_run {P : Program} {w0 : Bs} {s : St} {a : Act} {w : World} {ι : Nat → Nat × Nat} {own : Nat → Prop} (hs : Sim' w0 s a w ι own) : ∀ {l : List ResultVar} {xs : List P0},RvsOk P s l xs → ∃ vs,RvsRun P w a.tmps l vs ∧ l.length = vs.length ∧ vs.length = xs.length ∧ ∀ (j : Nat) (x : P0),xs[j]? = some x → ∃ u,vs[j]? = some u ∧ x.p ⟨w,fun b=>b < w0.base⟩ u
 | [],[],_=>⟨[],trivial,rfl,rfl,fun j x hj=>by simp at hj⟩
 | rv :: l,x :: xs,⟨h1,h2⟩=>by
  obtain ⟨v,g1,g2⟩:=rv_run hs h1
  obtain ⟨vs,e1,e0,e2,e3⟩:=rvs_run hs h2
  refine ⟨v :: vs,⟨g1,e1⟩,by simp [e0],by simp [e2],fun j y hj=>?_⟩
  cases j with
  | zero=>simp at hj; subst hj; exact ⟨v,rfl,g2⟩
  | succ j=>exact e3 j y (by simpa using hj)
 | [],_ :: _,h=>h.elim
 | _ :: _,[],h=>h.elim
theorem ret_run {P : Program} {fn : Func} {w0 : Bs} {s : St} {a : Act} {w : World} (hs : Sim w0 s a w) {l : List ResultVar} {res : Res} (hf : fn.results = l.toArray) (h : RetOk P s l res) : ∃ v,(results fn a.tmps).run P w = .ok v w ∧ res.p ⟨w,fun b=>b < w0.base⟩ v:=by
 obtain ⟨ι,own,hs⟩:=hs
 cases res with
 | v x =>
  match l,h with
  | [rv],h =>
   obtain ⟨v,g1,g2⟩:=rv_run hs h
   exact ⟨v,Zbn (vs:=[v]) hf ⟨g1,trivial⟩,g2⟩
 | tup xs =>
  have h' : Nat.beq l.length 1 = false ∧ RvsOk P s l xs:=h
  obtain ⟨vs,e1,e0,e2,e3⟩:=rvs_run hs h'.2
  have h1 : l.length ≠ 1:=fun e=>by have:=h'.1; rw [e] at this; cases this
  refine ⟨.tuple vs.toArray,?_,vs,rfl,e2,e3⟩
  rw [Zbn hf e1,dif_neg (by simp; omega)]
def argEnv : Nat → List P0 → List (Nat × D)
 | _,[]=>[]
 | i,x :: xs=>(i,x.d false) :: argEnv (i + 1) xs
theorem argEnv_sim {c : Cx} {ι : Nat → Nat × Nat} {base : Nat} : ∀ (i : Nat) (vs : List Value) (xs : List P0) (n : Nat),Args c vs xs → ∀ (pre : List Value),pre.length = i → ∀ t,i ≤ t → (look (argEnv i xs) t).p ι base c ((pre ++ vs ++ List.replicate n undef).getD t undef)
 | i,[],[],n,_,pre,hp,t,ht=>by simp only [argEnv,look,D.p]
 | i,v :: vs,x :: xs,n,⟨h1,h2⟩,pre,hp,t,ht=>by
  simp only [argEnv,look]
  by_cases e : t = i
  ·subst e
   rw [upd_same,P0.d_p]
   simp only [List.getD_eq_getElem?_getD,List.append_assoc]
   rw [List.getElem?_append_right (by omega),hp]
   simpa [Cx.young] using h1
  ·rw [upd_ne _ _ e]
   have:=argEnv_sim (ι:=ι) (base:=base) (i + 1) vs xs n h2 (pre ++ [v]) (by simp [hp]) t (by omega)
   simpa using this
 | i,[],_ :: _,n,h,_,_,_,_=>h.elim
 | i,_ :: _,[],n,h,_,_,_,_=>h.elim
theorem Args.length {c : Cx} : ∀ {vs : List Value} {xs : List P0},Args c vs xs → vs.length = xs.length
 | [],[],_=>rfl
 | _ :: _,_ :: _,⟨_,h⟩=>by simp [h.length]
 | [],_ :: _,h=>h.elim
 | _ :: _,[],h=>h.elim
def bs0 (w : World) : Bs:={ toWorld:=w,base:=w.heap.size,M:=fun _=>False,own0:=fun _=>False,pin:=fun _=>none,dfs:=[] }
theorem Low.below0 {w w' : World} (h : Low (bs0 w) w') : Below w.heap.size w w':=⟨h.os,h.tape,h.output,h.size,fun b hb=>h.block b hb (fun h=>h)⟩
theorem sim_start {fn : Func} {n : Nat} {args : List P0} {w : World} {vs : List Value} (hn : fn.ntmps = n) (hl : Nat.ble args.length n = true) (hG : Glob w.heap.size w) (hA : Args ⟨w,fun _=>False⟩ vs args) : Sim (bs0 w) (mkS n (argEnv 0 args) []) { tmps:=vs.toArray ++ Array.replicate (fn.ntmps - vs.toArray.size) undef,defers:=[] } w:=by
 have hlen:=hA.length
 have hl' : args.length ≤ n:=by simpa using hl
 refine ⟨fun _=>(0,0),fun _=>False,⟨rfl,rfl,rfl,Nat.le_refl _,fun _ _ _=>rfl,fun b arr E h=>⟨arr,h,rfl⟩⟩,⟨Nat.le_refl _,hG⟩,fun b hb=>hb.elim,fun b _ hb _=>hb.elim,fun b hb=>hb.elim,?_,?_,?_,(fun k ob hk=>by cases hk),?_,rfl,fun k p hp=>by cases hp⟩
 ·simp [hn,mkS]; omega
 ·intro t
  have:=argEnv_sim (ι:=fun _=>(0,0)) (base:=w.heap.size) 0 vs args (fn.ntmps - vs.toArray.size) hA [] rfl t (Nat.zero_le _)
  simpa [mkS,bs0,List.getD_eq_getElem?_getD,← Array.getElem?_toList] using this
 ·intro k ob hk; cases hk
 ·intro k k' ob ob' hk; cases hk
theorem Zy {P : Program} {f : FuncId} {fn : Func} {c : Code} {n : Nat} {args : List P0} {res : Res} {l : List ResultVar} (hf : P.funcs[f]? = some fn) (hname : (fn.name == "runtime.NumGoroutine") = false) (hb : fn.body = some c) (hn : fn.ntmps = n) (hr : fn.results = l.toArray) (hl : Nat.ble args.length n = true)
  (h : AW P c (mkS n (argEnv 0 args) []) (fun e s=>(e = .ret ∨ e = .normal) ∧ RetOk P s l res)) : Fn P f args res:=by
 refine ⟨Za1 hf hname hb,?_⟩
 intro w vs hG hA
 refine calls_of_wp hf hb ?_
 refine wp_mono (h (bs0 w) _ w (sim_start hn hl hG hA)) ?_
 rintro e a' w' ⟨s',⟨he,hret⟩,hs'⟩
 obtain ⟨v,g1,g2⟩:=ret_run hs' hr hret
 have hd : a'.defers = []:=by obtain ⟨ι,own,h⟩:=hs'; exact h.defers
 have hb' : Below w.heap.size w w':=by obtain ⟨ι,own,h⟩:=hs'; exact h.below.below0
 rcases he with rfl | rfl
 ·exact ⟨hd,v,g1,v,rfl,g2,hb'⟩
 ·exact ⟨hd,v,g1,v,rfl,g2,hb'⟩
def SubH (e : Nat → Option Ob) : List (Nat × Ob) → Prop
 | []=>True
 | (t,d) :: l=>e t = some d ∧ SubH e l
def lookO : List (Nat × D) → Nat → Option D
 | [],_=>none
 | (u,d) :: l,t=>bif Nat.beq t u then some d else lookO l t
theorem Zb : ∀ {l : List (Nat × D)} {t : Nat} {d : D}, lookO l t = some d → look l t = d
  | (u, e) :: l, t, d, h => by
    simp only [lookO] at h
    simp only [look, upd]
    cases hb : Nat.beq t u with
    | true => rw [hb] at h; simp at hb; subst hb; rw [if_pos rfl]; simpa using h
    | false => rw [hb] at h; have hne : t ≠ u := fun e => by subst e; simp at hb
               rw [if_neg hne]; exact Zb (by simpa using h)
def evO (l : List (Nat × D)) : Operand → Option D
 | .tmp t=>lookO l t
 | .const (.bool b)=>some (.one (.r true (val (.bool b))))
 | .const (.int k n)=>some (.one (.r true (val (.int k n))))
 | .const (.string s)=>some (.one (.r true (val (.string s))))
 | .const (.slice none 0 0)=>some (.one (.r true (row true 0 [])))
 | .const (.pointer none)=>some (.one (.r true (val (.pointer none))))
 | .const (.map none)=>some (.one (.r true (val (.map none))))
 | .const .nilFunc=>some (.one (.r true (val .nilFunc)))
 | .const .nilIface=>some (.one (.r true (val .nilIface)))
 | .func f=>some (.one (.r true (val (.func (.func f) #[] #[]))))
 | _=>none
theorem Za {l : List (Nat × D)} {x : Operand} {d : D} (he : evO l x = some d) : evD (look l) x = d:=by
 unfold evO at he
 split at he
 case h_1=>exact Zb he
 all_goals first
  | (simp only [Option.some.injEq] at he; rw [← he]; rfl)
  | cases he
def lookHO : List (Nat × Ob) → Nat → Option Ob
 | [],_=>none
 | (u,d) :: l,t=>bif Nat.beq t u then some d else lookHO l t
theorem lookHO_eq : ∀ (l : List (Nat × Ob)) (t : Nat), lookHO l t = lookH l t
  | [], t => rfl
  | (u, e) :: l, t => by
    simp only [lookHO, lookH, upd]
    cases hb : Nat.beq t u with
    | true => simp at hb; subst hb; rw [if_pos rfl]; rfl
    | false => have hne : t ≠ u := fun e => by subst e; simp at hb
               rw [if_neg hne]; exact lookHO_eq l t
theorem Zf {h : List (Nat × Ob)} {k : Nat} {ob : Ob} (he : lookHO h k = some ob) : lookH h k = some ob:=by rw [← lookHO_eq]; exact he
def cutO (ag : Bool) (n off : Nat) (cs : List Cell) : Option D :=
 match ag with
 | false=>match cs[off]? with
  | some x=>some (.one x)
  | none=>none
 | true=>bif Nat.beq off 0 && Nat.beq n cs.length then some (.agg cs) else some (.agg ((cs.drop off).take n))
theorem cutO_spec {ag : Bool} {n off : Nat} {cs : List Cell} {d : D} (h : cutO ag n off cs = some d) : cut ag n off cs = d:=by
 unfold cutO at h
 unfold cut
 cases ag with
 | false =>
  simp only [Bool.false_eq_true,if_false]
  cases hc : cs[off]? with
  | none=>rw [hc] at h; cases h
  | some x=>rw [hc] at h; injection h
 | true =>
  simp only [if_true]
  cases hb : Nat.beq off 0 && Nat.beq n cs.length with
  | true =>
   rw [hb] at h
   simp only [Bool.and_eq_true,Nat.beq_eq] at hb
   injection h with h
   subst h
   rw [hb.1,hb.2,List.drop_zero,List.take_of_length_le (Nat.le_refl _)]
  | false=>rw [hb] at h; injection h
def eraseH (k : Nat) : List (Nat × Ob) → List (Nat × Ob)
 | []=>[]
 | (u,ob) :: h=>bif Nat.beq u k then eraseH k h else (u,ob) :: eraseH k h
theorem eraseH_get (k : Nat) : ∀ (h : List (Nat × Ob)) (u : Nat),lookH (eraseH k h) u = if u = k then none else lookH h u
 | [],u=>by simp [eraseH,lookH]
 | (v,ob) :: h,u=>by
  simp only [eraseH]
  cases hb : Nat.beq v k with
  | true =>
   simp at hb
   subst hb
   simp only [cond_true,eraseH_get v h u,lookH,upd]
   by_cases h1 : u = v
   ·rw [if_pos h1,if_pos h1]
   ·rw [if_neg h1,if_neg h1,if_neg h1]
  | false =>
   have hne : v ≠ k:=fun e=>by subst e; simp at hb
   simp only [cond_false,lookH,upd,eraseH_get k h u]
   by_cases h1 : u = v
   ·subst h1; rw [if_pos rfl,if_neg hne,if_pos rfl]
   ·rw [if_neg h1,if_neg h1]
def appL : List (Nat × Option Ob) → List (Nat × Ob) → List (Nat × Ob)
 | [],h=>h
 | (k,none) :: U,h=>eraseH k (appL U h)
 | (k,some ob) :: U,h=>(k,ob) :: eraseH k (appL U h)
theorem appL_ok : ∀ (U : List (Nat × Option Ob)) (h : List (Nat × Ob)),lookH (appL U h) = appU U (lookH h)
 | [],h=>rfl
 | (k,none) :: U,h=>by
  funext u
  simp only [appL,eraseH_get,appL_ok U h,appU,findU]
  split<;>rfl
 | (k,some ob) :: U,h=>by
  funext u
  simp only [appL,lookH,upd,eraseH_get,appL_ok U h,appU,findU]
  split<;>rfl
def putL (dst : Option Nat) (d : D) (l : List (Nat × D)) : List (Nat × D):=match dst with | some t=>(t,d) :: l | none=>l
theorem putL_ok (dst : Option Nat) (d : D) (l : List (Nat × D)) : look (putL dst d l) = putE (look l) dst d:=by cases dst<;>rfl
def putLO (dst : Option Nat) (d : D) (l : List (Nat × D)) : Option (List (Nat × D)):=match dst with | some t=>some ((t,d) :: l) | none=>some l
theorem putLO_ok {dst : Option Nat} {d : D} {l l' : List (Nat × D)} (h : putLO dst d l = some l') : putL dst d l = l':=by cases dst<;>(unfold putLO at h; injection h)
def eraseHO (k : Nat) : List (Nat × Ob) → Option (List (Nat × Ob))
 | []=>some []
 | (u,ob) :: h=>match eraseHO k h with
  | some r=>bif Nat.beq u k then some r else some ((u,ob) :: r)
  | none=>none
theorem eraseHO_ok {k : Nat} : ∀ {h h' : List (Nat × Ob)},eraseHO k h = some h' → eraseH k h = h'
 | [],h',e=>by injection e
 | (u,ob) :: h,h',e=>by
  simp only [eraseHO] at e
  split at e
  ·rename_i r hr
   have:=eraseHO_ok hr
   simp only [eraseH,this]
   cases hb : Nat.beq u k<;>rw [hb] at e<;>simpa using e
  ·cases e
def appLO : List (Nat × Option Ob) → List (Nat × Ob) → Option (List (Nat × Ob))
 | [],h=>some h
 | (k,x) :: U,h=>match appLO U h with
  | some r=>(match eraseHO k r with
   | some r'=>(match x with | some ob=>some ((k,ob) :: r') | none=>some r')
   | none=>none)
  | none=>none
theorem appLO_ok : ∀ {U : List (Nat × Option Ob)} {h h' : List (Nat × Ob)},appLO U h = some h' → appL U h = h'
 | [],h,h',e=>by injection e
 | (k,x) :: U,h,h',e=>by
  simp only [appLO] at e
  split at e
  ·rename_i r hr
   split at e
   ·rename_i r' hr'
    have h1:=appLO_ok hr
    have h2:=eraseHO_ok hr'
    cases x with
    | none=>injection e with e; subst e; simp only [appL,h1,h2]
    | some ob=>injection e with e; subst e; simp only [appL,h1,h2]
   ·cases e
  ·cases e
def keys : List (Nat × Ob) → List Nat
 | []=>[]
 | (k,_) :: h=>k :: keys h
theorem lookH_none : ∀ {h : List (Nat × Ob)} {k : Nat},k ∉ keys h → lookH h k = none
 | [],_,_=>rfl
 | (u,ob) :: h,k,hk=>by
  simp only [keys,List.mem_cons,not_or] at hk
  simp only [lookH,upd,if_neg hk.1]
  exact lookH_none hk.2
theorem resH_keys (h : List (Nat × Ob)) : resH (keys h) (lookH h) = lookH h:=by
 funext k
 unfold resH
 split
 ·rfl
 ·rename_i hk; exact (lookH_none hk).symm
def memB (k : Nat) : List Nat → Bool
 | []=>false
 | u :: l=>Nat.beq k u || memB k l
theorem Za9 {k : Nat} : ∀ {l : List Nat},memB k l = true ↔ k ∈ l
 | []=>by simp [memB]
 | u :: l=>by simp [memB,Za9 (l:=l)]
def filtH (fp : List Nat) : List (Nat × Ob) → List (Nat × Ob)
 | []=>[]
 | (k,ob) :: h=>bif memB k fp then (k,ob) :: filtH fp h else filtH fp h
theorem filtH_ok (fp : List Nat) : ∀ h : List (Nat × Ob),lookH (filtH fp h) = resH fp (lookH h)
 | []=>by funext k; simp [filtH,lookH,resH]
 | (k,ob) :: h=>by
  funext u
  simp only [filtH]
  cases hb : memB k fp with
  | true =>
   have hk:=Za9.1 hb
   simp only [cond_true,lookH,upd,filtH_ok fp h,resH]
   by_cases h1 : u = k
   ·subst h1; simp [hk]
   ·simp [h1]
  | false =>
   have hk : k ∉ fp:=fun h=>by rw [Za9.2 h] at hb; cases hb
   simp only [cond_false,filtH_ok fp h,resH,lookH,upd]
   by_cases h1 : u = k
   ·subst h1; simp [hk]
   ·simp [h1]
def isS : Option Ob → Bool
 | some _=>true
 | none=>false
def domU : List (Nat × Option Ob) → List Nat
 | []=>[]
 | (k,_) :: U=>k :: domU U
theorem domU_eq : ∀ U : List (Nat × Option Ob),domU U = U.map (·.1)
 | []=>rfl
 | (k,x) :: U=>by simp [domU,domU_eq U]
def fineB (fp τ new : List Nat) (U : List (Nat × Option Ob)) (h : List (Nat × Ob)) : Bool:=τ.all (fun k=>memB k fp && isS (lookHO h k) && memB k (domU U)) && new.all (fun k=>memB k (domU U) && Nat.blt k pinned)
theorem fineB_spec {d : D} {fp τ new : List Nat} {U : List (Nat × Option Ob)} {h : List (Nat × Ob)} (hb : fineB fp τ new U h = true) : (Sg.mk d fp τ new U).fine (lookH h):=by
 unfold fineB at hb
 simp only [Bool.and_eq_true,List.all_eq_true,Za9,domU_eq,Nat.blt_eq] at hb
 refine ⟨fun k hk=>?_,fun k hk=>hb.2 k hk⟩
 obtain ⟨⟨h1,h2⟩,h3⟩:=hb.1 k hk
 refine ⟨h1,?_,h3⟩
 rw [lookHO_eq] at h2
 cases hl : lookH h k with
 | none=>rw [hl] at h2; cases h2
 | some ob=>exact ⟨ob,rfl⟩
def isD (dst : Option Nat) (u : Nat) : Bool:=match dst with | some t=>Nat.beq t u | none=>false
def freshB (dst : Option Nat) (new : List Nat) (U : List (Nat × Option Ob)) (l : List (Nat × D)) (h : List (Nat × Ob)) : Bool :=
 new.all fun t=>l.all (fun p=>isD dst p.1 || !p.2.men t) && h.all (fun p=>memB p.1 (domU U) || !p.2.men t)
theorem look_fresh' {dst : Option Nat} {t : Nat} : ∀ {l : List (Nat × D)},(l.all fun p=>isD dst p.1 || !p.2.men t) = true → ∀ u,dst ≠ some u → (look l u).men t = false
 | [],_,u,_=>rfl
 | (v,d) :: l,h,u,hu=>by
  simp only [List.all_cons,Bool.and_eq_true,Bool.or_eq_true,Bool.not_eq_true'] at h
  simp only [look,upd]
  split
  ·rename_i e
   subst e
   refine h.1.resolve_left (fun h'=>hu ?_)
   unfold isD at h'
   cases dst with
   | none=>cases h'
   | some t=>simp at h'; rw [h']
  ·exact look_fresh' (by simpa using h.2) u hu
theorem lookH_fresh' {dom : List Nat} {t : Nat} : ∀ {l : List (Nat × Ob)},(l.all fun p=>memB p.1 dom || !p.2.men t) = true → ∀ u ob,u ∉ dom → lookH l u = some ob → ob.men t = false
 | [],_,u,ob,_,h=>by cases h
 | (v,d) :: l,h,u,ob,hu,ho=>by
  simp only [List.all_cons,Bool.and_eq_true,Bool.or_eq_true,Bool.not_eq_true'] at h
  simp only [lookH,upd] at ho
  split at ho
  ·rename_i e
   subst e
   injection ho with ho
   subst ho
   exact h.1.resolve_left (fun h'=>hu (Za9.1 h'))
  ·exact lookH_fresh' (by simpa using h.2) u ob hu ho
theorem freshB_spec {d : D} {fp τ new : List Nat} {U : List (Nat × Option Ob)} {dst : Option Nat} {n : Nat} {l : List (Nat × D)} {h : List (Nat × Ob)} (hb : freshB dst new U l h = true) : (Sg.mk d fp τ new U).fresh dst (mkS n l h):=fun t ht=>by
 have:=List.all_eq_true.1 hb t ht
 simp only [Bool.and_eq_true] at this
 exact ⟨look_fresh' this.1,fun k ob hk=>lookH_fresh' this.2 k ob (by rw [domU_eq]; exact hk)⟩
def okB (n : Nat) (dst : Option Nat) (fp τ new : List Nat) (U : List (Nat × Option Ob)) (l : List (Nat × D)) (h : List (Nat × Ob)) : Bool :=
 (match dst with | some t=>Nat.blt t n | none=>true) && fineB fp τ new U h && freshB dst new U l h
section
variable {P : Program} {Z : List Sg → Bool} {q : Option (List Sg)} {acc : List Sg} {ops : Array Oper} {o : Oper} {rest : List Oper} {n : Nat} {l l' : List (Nat × D)} {h h' hF : List (Nat × Ob)} {K : St → Prop} {d : D} {fp τ new : List Nat} {U : List (Nat × Option Ob)}
theorem w_core {g : Bool} (hg : Grd ops o (mkS n l h) g) (hgt : g = true) (hF' : lookH hF = resH fp (lookH h)) (hE : Eff P (lookH hF) (evD (look l)) o d τ new U) (hok : okB n o.dst fp τ new U l h = true) (hl : putL o.dst d l = l') (hh : appL U h = h') (hk : W P ops Z rest (mkS n l' h') (psh ⟨d,fp,τ,new,U⟩ q) K) : W P ops Z (o :: rest) (mkS n l h) q K:=by
 subst hgt hl hh
 unfold okB at hok
 simp only [Bool.and_eq_true] at hok
 have hk' : W P ops Z rest ((mkS n l h).app o.dst ⟨d,fp,τ,new,U⟩) (psh ⟨d,fp,τ,new,U⟩ q) K:=by
  have e : (mkS n l h).app o.dst ⟨d,fp,τ,new,U⟩ = mkS n (putL o.dst d l) (appL U h):=by
   unfold St.app mkS
   rw [putL_ok,appL_ok]
  rw [e]; exact hk
 refine ⟨true,⟨d,fp,τ,new,U⟩,hg,?_,fun _=>⟨hF' ▸ hE,fineB_spec hok.1.2,freshB_spec hok.2⟩,(fun h=>by cases h),hk'⟩
 have:=hok.1.1
 unfold dstOk
 exact this
theorem grd_none (hg : o.guard = none) : Grd ops o (mkS n l h) true:=by unfold Grd; rw [hg]
theorem grd_yes {j t : Nat} {want m : Bool} (hg : o.guard = some (j,want)) (hj : (ops[j]?).bind (·.dst) = some t) (hb : look l t = .one (.r m (bool want))) : Grd ops o (mkS n l h) true:=by
 unfold Grd; rw [hg]; exact ⟨t,m,hj,.inl ⟨want,hb,by simp⟩⟩
theorem grd_no {j t : Nat} {want b m : Bool} (hg : o.guard = some (j,want)) (hj : (ops[j]?).bind (·.dst) = some t) (hb : look l t = .one (.r m (bool b))) (hw : (b == want) = false) : Grd ops o (mkS n l h) false:=by
 unfold Grd; rw [hg]; exact ⟨t,m,hj,.inl ⟨b,hb,hw.symm⟩⟩
theorem grd_un {j t : Nat} {want m : Bool} (hg : o.guard = some (j,want)) (hj : (ops[j]?).bind (·.dst) = some t) (hb : look l t = .tup m []) : Grd ops o (mkS n l h) false:=by
 unfold Grd; rw [hg]; exact ⟨t,m,hj,.inr ⟨hb,rfl⟩⟩
theorem w_off {u : Nat} (hg : Grd ops o (mkS n l h) false) (hd : o.dst = some u) (ht : Nat.blt u n = true) (hk : W P ops Z rest (mkS n ((u,.tup true []) :: l) h) (psh skipS q) K) : W P ops Z (o :: rest) (mkS n l h) q K:=by
 have hk' : W P ops Z rest ((mkS n l h).app o.dst skipS) (psh skipS q) K:=by
  have e : (mkS n l h).app o.dst skipS = mkS n ((u,.tup true []) :: l) h:=by rw [hd]; rfl
  rw [e]; exact hk
 exact ⟨false,skipS,hg,by unfold dstOk; rw [hd]; exact ht,(fun h=>by cases h),fun _=>rfl,hk'⟩
theorem w_nil (hk : K (mkS n l h)) : W P ops Z [] (mkS n l h) none K:=⟨fun _ h=>(by cases h),hk⟩
theorem x_nil (hz : Z acc = true) (hk : K (mkS n l h)) : W P ops Z [] (mkS n l h) (some acc) K:=⟨fun _ h=>by injection h with h; rw [← h]; exact hz,hk⟩
theorem okB_pure {t : Nat} (hd : o.dst = some t) (ht : Nat.blt t n = true) : okB n o.dst fp [] [] [] l h = true:=by
 unfold okB
 rw [hd]
 simp only [Bool.and_eq_true]
 exact ⟨⟨ht,rfl⟩,rfl⟩
theorem w_seq {l : List Oper} {s : St} (h : W P ops Z l s none K) : W P ops Z l s none K:=h
theorem w_drw {l : List Oper} {s : St} (h : W P ops Z l s (some acc) K) : W P ops Z l s (some acc) K:=h
theorem w_q {t : Nat} (hg : o.guard = none) (hd : o.dst = some t) (hL : Loc P (lookH h) (evD (look l)) o d) (ht : Nat.blt t n = true) (hk : W P ops Z rest (mkS n ((t,d) :: l) h) none K) : W P ops Z (o :: rest) (mkS n l h) none K :=
 w_core (grd_none hg) rfl (fp:=keys h) (resH_keys h).symm hL (okB_pure hd ht) (by rw [hd]; rfl) rfl hk
theorem Zh {j t u : Nat} {want m : Bool} (hg : o.guard = some (j,want)) (hj : (ops[j]?).bind (·.dst) = some t) (hb : look l t = .one (.r m (bool want))) (hd : o.dst = some u) (hL : Loc P (lookH h) (evD (look l)) o d) (ht : Nat.blt u n = true) (hk : W P ops Z rest (mkS n ((u,d) :: l) h) none K) : W P ops Z (o :: rest) (mkS n l h) none K :=
 w_core (grd_yes hg hj hb) rfl (fp:=keys h) (resH_keys h).symm hL (okB_pure hd ht) (by rw [hd]; rfl) rfl hk
theorem w_e (hg : o.guard = none) (hE : Eff P (lookH h) (evD (look l)) o d τ new U) (hok : okB n o.dst (keys h) τ new U l h = true) (hl : putLO o.dst d l = some l') (hh : appLO U h = some h') (hk : W P ops Z rest (mkS n l' h') none K) : W P ops Z (o :: rest) (mkS n l h) none K :=
 w_core (grd_none hg) rfl (fp:=keys h) (resH_keys h).symm hE hok (putLO_ok hl) (appLO_ok hh) hk
theorem w_ey {j t : Nat} {want m : Bool} (hg : o.guard = some (j,want)) (hj : (ops[j]?).bind (·.dst) = some t) (hb : look l t = .one (.r m (bool want))) (hE : Eff P (lookH h) (evD (look l)) o d τ new U) (hok : okB n o.dst (keys h) τ new U l h = true) (hl : putLO o.dst d l = some l') (hh : appLO U h = some h') (hk : W P ops Z rest (mkS n l' h') none K) : W P ops Z (o :: rest) (mkS n l h) none K :=
 w_core (grd_yes hg hj hb) rfl (fp:=keys h) (resH_keys h).symm hE hok (putLO_ok hl) (appLO_ok hh) hk
theorem w_no {j t u : Nat} {want b m : Bool} (hg : o.guard = some (j,want)) (hj : (ops[j]?).bind (·.dst) = some t) (hb : look l t = .one (.r m (bool b))) (hw : (b == want) = false) (hd : o.dst = some u) (ht : Nat.blt u n = true) (hk : W P ops Z rest (mkS n ((u,.tup true []) :: l) h) none K) : W P ops Z (o :: rest) (mkS n l h) none K:=w_off (grd_no hg hj hb hw) hd ht hk
theorem x_q {t : Nat} (hg : o.guard = none) (hd : o.dst = some t) (hL : Loc P (lookH (filtH fp h)) (evD (look l)) o d) (ht : Nat.blt t n = true) (hk : W P ops Z rest (mkS n ((t,d) :: l) h) (some (⟨d,fp,[],[],[]⟩ :: acc)) K) : W P ops Z (o :: rest) (mkS n l h) (some acc) K :=
 w_core (grd_none hg) rfl (fp:=fp) (filtH_ok fp h) hL (okB_pure hd ht) (by rw [hd]; rfl) rfl hk
theorem x_yes {j t u : Nat} {want m : Bool} (hg : o.guard = some (j,want)) (hj : (ops[j]?).bind (·.dst) = some t) (hb : look l t = .one (.r m (bool want))) (hd : o.dst = some u) (hL : Loc P (lookH (filtH fp h)) (evD (look l)) o d) (ht : Nat.blt u n = true) (hk : W P ops Z rest (mkS n ((u,d) :: l) h) (some (⟨d,fp,[],[],[]⟩ :: acc)) K) : W P ops Z (o :: rest) (mkS n l h) (some acc) K :=
 w_core (grd_yes hg hj hb) rfl (fp:=fp) (filtH_ok fp h) hL (okB_pure hd ht) (by rw [hd]; rfl) rfl hk
theorem x_e (hg : o.guard = none) (hE : Eff P (lookH (filtH fp h)) (evD (look l)) o d τ new U) (hok : okB n o.dst fp τ new U l h = true) (hl : putLO o.dst d l = some l') (hh : appLO U h = some h') (hk : W P ops Z rest (mkS n l' h') (some (⟨d,fp,τ,new,U⟩ :: acc)) K) : W P ops Z (o :: rest) (mkS n l h) (some acc) K :=
 w_core (grd_none hg) rfl (fp:=fp) (filtH_ok fp h) hE hok (putLO_ok hl) (appLO_ok hh) hk
theorem x_no {j t u : Nat} {want b m : Bool} (hg : o.guard = some (j,want)) (hj : (ops[j]?).bind (·.dst) = some t) (hb : look l t = .one (.r m (bool b))) (hw : (b == want) = false) (hd : o.dst = some u) (ht : Nat.blt u n = true) (hk : W P ops Z rest (mkS n ((u,.tup true []) :: l) h) (some (skipS :: acc)) K) : W P ops Z (o :: rest) (mkS n l h) (some acc) K:=w_off (grd_no hg hj hb hw) hd ht hk
theorem x_un {j t u : Nat} {want m : Bool} (hg : o.guard = some (j,want)) (hj : (ops[j]?).bind (·.dst) = some t) (hb : look l t = .tup m []) (hd : o.dst = some u) (ht : Nat.blt u n = true) (hk : W P ops Z rest (mkS n ((u,.tup true []) :: l) h) (some (skipS :: acc)) K) : W P ops Z (o :: rest) (mkS n l h) (some acc) K:=w_off (grd_un hg hj hb) hd ht hk
theorem look_true {t : Nat} {d : D} (hd : look l t = d) : look ((t,d) :: l) = look l:=by
 funext u
 simp only [look,upd]
 split
 ·rename_i e; subst e; exact hd.symm
 ·rfl
theorem w_split {j t : Nat} {want b m : Bool} (hg : o.guard = some (j,want)) (hj : (ops[j]?).bind (·.dst) = some t) (hb : look l t = .one (.r m (bool b))) (h1 : b = true → W P ops Z (o :: rest) (mkS n ((t,.one (.r m (bool true))) :: l) h) q K) (h2 : b = false → W P ops Z (o :: rest) (mkS n ((t,.one (.r m (bool false))) :: l) h) q K) : W P ops Z (o :: rest) (mkS n l h) q K:=by
 cases b with
 | true=>have:=h1 rfl; rwa [mkS,look_true hb] at this
 | false=>have:=h2 rfl; rwa [mkS,look_true hb] at this
end
section
variable {K : St → Prop} {Q : Exit → St → Prop} {s : St}
theorem thn_normal (h : K s) : Thn K Q .normal s:=h
theorem thn_ret (h : Q .ret s) : Thn K Q .ret s:=h
theorem thn_exit {i : Nat} (h : Q (.exit i) s) : Thn K Q (.exit i) s:=h
theorem blk_normal {i : Nat} (h : Q .normal s) : Blk i Q .normal s:=h
theorem blk_ret {i : Nat} (h : Q .ret s) : Blk i Q .ret s:=h
theorem blk_hit {i : Nat} (h : Q .normal s) : Blk i Q (.exit i) s:=by simp only [Blk,if_true]; exact h
end
section
variable {P : Program} {n : Nat} {l : List (Nat × D)} {h : List (Nat × Ob)} {H : Nat → Option Ob}
theorem Zt {t : Nat} {d : D} {x : P0} (he : lookO l t = some d) (hd : DRes (lookH h) d x) : (Exit.ret = Exit.ret ∨ Exit.ret = Exit.normal) ∧ RetOk P (mkS n l h) [.tmp t] (.v x):=⟨.inl rfl,by
 show DRes (lookH h) (look l t) x
 rw [Zb he]; exact hd⟩
theorem Zr {t : Nat} {d : D} {x : P0} (he : lookO l t = some d) (hd : DRes (lookH h) d x) : RvOk P (mkS n l h) (.tmp t) x:=by
 show DRes (lookH h) (look l t) x
 rw [Zb he]; exact hd
theorem Zat {t ty k off m : Nat} {E : TypeId} {cells : List Cell} {ag : Bool} {d : D} {x : P0} (he : lookO l t = some (.one (.ptr k 0 0 off))) (hk : lookHO h k = some (.var E cells)) (hT : tyOf P ty = some (ag,m)) (hn : Nat.ble (off + m) cells.length = true) (h1 : (ag || Nat.beq m 1) = true) (hc : cutO ag m off cells = some d) (hd : DRes (lookH h) d x) : RvOk P (mkS n l h) (.cell t ty) x :=
 ⟨k,off,E,cells,ag,m,Zb he,Zf hk,hT,hn,h1,by rw [cutO_spec hc]; exact hd⟩
theorem ret_v {s : St} {a : ResultVar} {x : P0} (h1 : RvOk P s a x) : (Exit.ret = Exit.ret ∨ Exit.ret = Exit.normal) ∧ RetOk P s [a] (.v x):=⟨.inl rfl,h1⟩
theorem ret_2 {s : St} {a b : ResultVar} {x y : P0} (h1 : RvOk P s a x) (h2 : RvOk P s b y) : (Exit.ret = Exit.ret ∨ Exit.ret = Exit.normal) ∧ RetOk P s [a,b] (.tup [x,y]):=⟨.inl rfl,rfl,h1,h2,trivial⟩
theorem ret_3 {s : St} {a b c : ResultVar} {x y z : P0} (h1 : RvOk P s a x) (h2 : RvOk P s b y) (h3 : RvOk P s c z) : (Exit.ret = Exit.ret ∨ Exit.ret = Exit.normal) ∧ RetOk P s [a,b,c] (.tup [x,y,z]):=⟨.inl rfl,rfl,h1,h2,h3,trivial⟩
theorem Zo {m a b : Bool} (h : a = b) : DRes H (.one (.r m (val (.bool a)))) (.one (bool b)):=by subst h; exact Za7 Zaq
theorem Z4 {m : Bool} {k : IntKind} {a b : Int} (h : a = b) : DRes H (.one (.r m (val (.int k a)))) (.one (val (.int k b))):=by subst h; exact Za7 Zaq
theorem Zd {m : Bool} {r : R} {ev : Operand → D} {x : Operand} (h : ev x = .one (.r m r)) : AsArg H (ev x) (.one r):=by rw [h]; exact asArg_r
theorem asArg_nil {m nil : Bool} {sz sz' : Nat} : AsArg H (.one (.r m (row nil sz []))) (.one (row nil sz' [])):=fun ι base w own v hH h=>let ⟨ao,cap,h1,h2,h3,h4,h5⟩:=Zas.1 h; Zas.2 ⟨ao,cap,h1,h2,h3,h4,fun h=>by simp at h⟩
theorem asA_nil {m nil : Bool} {sz sz' : Nat} {ev : Operand → D} {x : Operand} (h : ev x = .one (.r m (row nil sz []))) : AsArg H (ev x) (.one (row nil sz' [])):=by rw [h]; exact asArg_nil
theorem asA_own {k j n sz : Nat} {E : TypeId} {els : List P0} {new : Bool} {ev : Operand → D} {x : Operand} (h : ev x = .one (.own k j n sz)) (hk : H k = some (.sl E sz new els)) (hn : j + n ≤ els.length) : AsArg H (ev x) (.one (row false sz ((els.drop j).take n))):=by
 rw [h]
 intro ι base w own v hH hv
 exact row_of_own (hH k _ hk) hn hv (fun h=>h) (Cx.Ext.sub (c:=Cx.young ⟨w,own⟩ base new) (c':=⟨w,fun _=>False⟩) (by rw [Cx.young_w]) (fun b (hb : False)=>hb.elim))
def CAr (H : Nat → Option Ob) (x : Cell) (r : R) : Prop:=AsArg H (.one x) (.one r)
def CsAr (H : Nat → Option Ob) : List Cell → List R → Prop
 | [],[]=>True
 | x :: xs,r :: rs=>CAr H x r ∧ CsAr H xs rs
 | _,_=>False
theorem CsAr.get : ∀ {xs : List Cell} {rs : List R},CsAr H xs rs → xs.length = rs.length ∧ ∀ (j : Nat) (r : R),rs[j]? = some r → ∃ x,xs[j]? = some x ∧ CAr H x r
 | [],[],_=>⟨rfl,fun j r hj=>by simp at hj⟩
 | x :: xs,r :: rs,⟨h1,h2⟩=>by
  obtain ⟨g1,g2⟩:=CsAr.get h2
  refine ⟨by simp [g1],fun j r' hj=>?_⟩
  cases j with
  | zero=>simp at hj; subst hj; exact ⟨x,rfl,h1⟩
  | succ j=>exact g2 j r' (by simpa using hj)
 | [],_ :: _,h=>h.elim
 | _ :: _,[],h=>h.elim
theorem Zw {xs : List Cell} {rs : List R} {ev : Operand → D} {x : Operand} (h : ev x = .agg xs) (hc : CsAr H xs rs) : AsArg H (ev x) (.agg rs):=by
 rw [h]
 intro ι base w own v hH ⟨vs,h1,h2,h3⟩
 obtain ⟨g1,g2⟩:=hc.get
 refine ⟨vs,h1,by omega,fun j r hj=>?_⟩
 obtain ⟨y,hy,hc⟩:=g2 j r hj
 obtain ⟨u,hu,hp⟩:=h3 j y hy
 exact ⟨u,hu,hc ι base w own u hH hp⟩
theorem Zk {m : Bool} {r : R} : CAr H (.r m r) r:=asArg_r
theorem Z5 {m nil : Bool} {sz sz' : Nat} : CAr H (.r m (row nil sz [])) (row nil sz' []):=asArg_nil
theorem cAr_own {k j n sz : Nat} {E : TypeId} {els : List P0} {new : Bool} (hk : H k = some (.sl E sz new els)) (hn : j + n ≤ els.length) : CAr H (.own k j n sz) (row false sz ((els.drop j).take n)):=by
 intro ι base w own v hH hv
 exact row_of_own (hH k _ hk) hn hv (fun h=>h) (Cx.Ext.sub (c:=Cx.young ⟨w,own⟩ base new) (c':=⟨w,fun _=>False⟩) (by rw [Cx.young_w]) (fun b (hb : False)=>hb.elim))
theorem Ze {ev : Operand → D} {o : Oper} {f : FuncId} {res : Res} {xs : List Operand} {ys : List P0} {tys : Array TypeId} (hf : Fn P f ys res) (ho : o.op = .call { callee:=.value (.func f),args:=xs.toArray,argTypes:=tys }) (ha : AsArgs H ev xs ys) : Loc P H ev o res.d:=loc_call xs tys ho ha hf
def zcOf (P : Program) (t : TypeId) : Option (List Cell):=(zOf P t).map (List.map cellOf)
theorem k_alloc {ev : Operand → D} {o : Oper} {t : Nat} {cs : List Cell} (E : TypeId) (ho : o.op = .alloc E) (hz : zcOf P E = some cs) : Eff P H ev o (.one (.ptr t 0 0 0)) [] [t] [(t,some (.var E cs))]:=by
 unfold zcOf at hz
 cases hzz : zOf P E with
 | none=>simp [hzz] at hz
 | some zs=>simp only [hzz,Option.map_some,Option.some.injEq] at hz; subst hz; exact eff_alloc E ho hzz
end
end Go.Proofs.Ytmkijbfiilpccaa.Abs
