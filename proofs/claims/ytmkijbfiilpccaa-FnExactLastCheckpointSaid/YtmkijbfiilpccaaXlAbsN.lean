/- Literals, first appends, parts of slices, new names at a loop's head. No statement of the seat is proved here. -/
import Derived.Test.YtmkijbfiilpccaaXlAbsM
set_option linter.unusedSimpArgs false
set_option linter.unusedVariables false
namespace Go.Proofs.Ytmkijbfiilpccaa.Abs
open Go.RowKit
open R (val row ref)
def enumV : Nat → List Value → List (Nat × Value)
 | _,[]=>[]
 | k,v :: vs=>(k,v) :: enumV (k + 1) vs
theorem fill_run (size : Nat) : ∀ (vs : List Value) (k : Nat) (cells : Array Value),(∀ v ∈ vs,v.cells.size = size) → cells.size = (k + vs.length) * size →
  ∃ out : Array Value,Instr.fill (fun i=>some (i * size,size)) cells (enumV k vs) = some out ∧ out.toList = cells.toList.take (k * size) ++ vs.flatMap (fun v=>v.cells.toList)
 | [],k,cells,_,hs=>⟨cells,rfl,by simp only [List.length_nil,Nat.add_zero] at hs; rw [List.flatMap_nil,List.append_nil,List.take_of_length_le (by simp [hs])]⟩
 | v :: vs,k,cells,hv,hs=>by
  have h1:=hv v (by simp)
  simp only [List.length_cons] at hs
  have hfit : k * size + size ≤ cells.size:=by rw [hs,Nat.add_mul,Nat.add_mul,Nat.one_mul]; omega
  have hf:=foldl_set (k * size) v.cells.toList 0 cells (by simp [h1]; omega)
  simp only [Nat.add_zero,Array.length_toList,h1] at hf
  have hsz : (v.cells.zipIdx.foldl (fun cs (x : Value × Nat)=>cs.setIfInBounds (k * size + x.2) x.1) cells).toList = cells.toList.take (k * size) ++ v.cells.toList ++ cells.toList.drop (k * size + size):=by
   rw [← hf,← Array.foldl_toList,Array.toList_zipIdx]
  have hlen : (v.cells.zipIdx.foldl (fun cs (x : Value × Nat)=>cs.setIfInBounds (k * size + x.2) x.1) cells).size = cells.size:=by
   rw [← Array.length_toList,hsz]
   simp [h1]
   omega
  obtain ⟨out,ho,hl⟩:=fill_run size vs (k + 1) _ (fun u hu=>hv u (by simp [hu])) (hlen.trans (by rw [hs]; congr 1; omega))
  refine ⟨out,?_,?_⟩
  ·simp only [enumV,Instr.fill,h1,ne_eq,not_true_eq_false,decide_false,Bool.false_or]
   rw [if_neg (by simp; omega)]
   exact ho
  ·rw [hl,hsz]
   have hk : (k + 1) * size = (cells.toList.take (k * size) ++ v.cells.toList).length:=by
    rw [List.length_append,List.length_take,Array.length_toList,Array.length_toList,h1,Nat.add_mul]; omega
   rw [hk,List.take_left]
   simp
def enumO : Nat → List Operand → List (Nat × Operand)
 | _,[]=>[]
 | k,x :: xs=>(k,x) :: enumO (k + 1) xs
theorem enumO_map (ρ : Operand → Value) : ∀ (k : Nat) (xs : List Operand),(enumO k xs).map (fun (p : Nat × Operand)=>(p.1,ρ p.2)) = enumV k (xs.map ρ)
 | _,[]=>rfl
 | k,x :: xs=>by simp [enumO,enumV,enumO_map ρ (k + 1) xs]
def partsO (l : List (Nat × D)) : List Operand → Option (Bool × List P0)
 | []=>some (true,[])
 | x :: xs=>match evO l x with
  | some d=>(match dP d with
   | some (m,e)=>(match partsO l xs with
    | some (m',es)=>some (m && m',e :: es)
    | none=>none)
   | none=>none)
  | none=>none
theorem partsO_ok {l : List (Nat × D)} {ι : Nat → Nat × Nat} {base : Nat} {c : Cx} {e : Operand → Value} {sz : Nat} : ∀ {xs : List Operand} {m : Bool} {els : List P0},partsO l xs = some (m,els) → AllN sz els → (∀ x ∈ xs,(evD (look l) x).p ι base c (e x)) →
  xs.length = els.length ∧ (∀ v ∈ xs.map e,v.cells.size = sz) ∧ ∀ (p : Nat) (r : R),(flat els)[p]? = some r → ∃ u,((xs.map e).flatMap (fun v=>v.cells.toList))[p]? = some u ∧ r.p (c.young base m) u
 | [],m,els,hp,_,_=>by
  simp only [partsO,Option.some.injEq,Prod.mk.injEq] at hp
  obtain ⟨rfl,rfl⟩:=hp
  exact ⟨rfl,fun v hv=>by simp at hv,fun p r hr=>by simp [flat] at hr⟩
 | x :: xs,m,els,hp,hn,hx=>by
  simp only [partsO] at hp
  split at hp
  ·rename_i d hd
   split at hp
   ·rename_i m1 e1 he
    split at hp
    ·rename_i m2 es hps
     simp only [Option.some.injEq,Prod.mk.injEq] at hp
     obtain ⟨rfl,rfl⟩:=hp
     have hv:=hx x (by simp)
     rw [Za hd] at hv
     obtain ⟨g1,g2⟩:=dP_ok he hv
     obtain ⟨i1,i2,i3⟩:=partsO_ok hps hn.tail.2 (fun y hy=>hx y (by simp [hy]))
     have hsz:=hn.tail.1
     refine ⟨by simp [i1],fun v hv=>?_,fun p r hr=>?_⟩
     ·simp only [List.map_cons,List.mem_cons] at hv
      rcases hv with rfl | hv
      ·rw [g1,hsz]
      ·exact i2 v hv
     ·simp only [flat,List.flatMap_cons] at hr
      simp only [List.map_cons,List.flatMap_cons]
      have hl1 : e1.rs.length = sz:=hsz
      have hl2 : (e x).cells.toList.length = sz:=by rw [Array.length_toList,g1,hsz]
      by_cases hps' : p < sz
      ·rw [List.getElem?_append_left (by omega)] at hr
       rw [List.getElem?_append_left (by omega)]
       obtain ⟨u,hu,hq⟩:=g2 p r hr
       exact ⟨u,by simpa using hu,r.mono (Zbc (fun e=>by simp at e; exact e.1)) hq⟩
      ·rw [List.getElem?_append_right (by omega),hl1] at hr
       rw [List.getElem?_append_right (by omega),hl2]
       obtain ⟨u,hu,hq⟩:=i3 _ r hr
       exact ⟨u,hu,r.mono (Zbc (fun e=>by simp at e; exact e.2)) hq⟩
    ·cases hp
   ·cases hp
  ·cases hp
theorem build_run {P : Program} {T E sz by_ : Nat} {z : Value} (hE : El P T E sz by_ z) (w : World) (vs : List Value) (hv : ∀ v ∈ vs,v.cells.size = sz) (hb : vs.length * sz ≤ 16777216) :
  ∃ out : Array Value,(Instr.buildSlice T vs.length (enumV 0 vs).toArray).run P w = .ok (.slice (some ⟨w.heap.size,0,none⟩) vs.length vs.length) (w.alloc (.cells out E)) ∧ out.toList = vs.flatMap (fun v=>v.cells.toList):=by
 obtain ⟨i,hi,hz,hsz,hby⟩:=hE.info
 have hnb : ¬ (2 ^ 24 < vs.length * sz):=by omega
 unfold Instr.buildSlice
 by_cases h0 : vs.length * sz = 0
 ·obtain ⟨out,ho,hl⟩:=fill_run sz vs 0 ((Array.range 0).map (fun x=>(default : Value))) hv (by simp [h0])
  refine ⟨out,?_,by simpa using hl⟩
  simp only [Sem.run_bind,run_underlying hE.sl,Result.andThen_ok,hE.size_ w,h0]
  simp [ho,newRow]
 ·obtain ⟨out,ho,hl⟩:=fill_run sz vs 0 ((Array.range (vs.length * sz)).map (z.cells[· % z.cells.size]!)) hv (by simp)
  refine ⟨out,?_,by simpa using hl⟩
  simp only [Sem.run_bind,run_underlying hE.sl,Result.andThen_ok,hE.size_ w]
  simp [hnb,h0,zeroValue,typeInfo,hi,hz,ho,newRow]
theorem flatV_len {sz : Nat} : ∀ {vs : List Value},(∀ v ∈ vs,v.cells.size = sz) → (vs.flatMap (fun v=>v.cells.toList)).length = vs.length * sz
 | [],_=>by simp
 | v :: vs,h=>by
  have h1:=h v (by simp)
  have h2:=flatV_len (vs:=vs) (fun u hu=>h u (by simp [hu]))
  rw [List.flatMap_cons,List.length_append,h2,Array.length_toList,h1,List.length_cons,Nat.add_mul]
  omega
theorem eff_build {P : Program} {H : Nat → Option Ob} {o : Oper} {t sz by_ : Nat} {l : List (Nat × D)} {E : TypeId} {m : Bool} {els : List P0} (T : TypeId) (c : Nat) (ps : Array (Nat × Operand)) (xs : List Operand) (ho : o.op = .buildSlice T c ps) (hps : ps = (enumO 0 xs).toArray) (hc : c = xs.length) (hT : elOf P T = some (E,sz,by_)) (hp : partsO l xs = some (m,els)) (hn : AllN sz els) (hb : els.length * sz ≤ 16777216) :
  Eff P H (evD (look l)) o (.one (.own t 0 els.length sz)) [] [t] [(t,some (.sl E sz m els))]:=by
 intro base a w ι own hown hbase hev hH _ K Q hK
 subst hps hc
 obtain ⟨z,hE⟩:=elOf_spec hT
 obtain ⟨i1,i2,i3⟩:=partsO_ok (l:=l) (ι:=ι) (base:=base) (c:=⟨w,own⟩) (e:=a.eval) hp hn (fun x hx=>hev x (by
  rw [ho]
  simp only [Op.operands]
  have : ∀ (k : Nat) (xs : List Operand),x ∈ xs → ∃ i,(i,x) ∈ enumO k xs:=by
   intro k xs
   induction xs generalizing k with
   | nil=>intro h; simp at h
   | cons y ys ih =>
    intro h
    simp only [List.mem_cons] at h
    rcases h with h | h
    ·exact ⟨k,by simp [enumO,h]⟩
    ·obtain ⟨i,hi⟩:=ih (k + 1) h
     exact ⟨i,by simp [enumO,hi]⟩
  obtain ⟨i,hi⟩:=this 0 xs hx
  simp only [List.map_toArray,List.mem_toArray,List.mem_map]
  exact ⟨(i,x),hi,rfl⟩))
 obtain ⟨out,hr,hl⟩:=build_run (P:=P) hE w (xs.map a.eval) i2 (by rw [List.length_map,i1]; exact hb)
 have hrun : (execOp a.eval o).run P w = .ok (.value (.slice (some ⟨w.heap.size,0,none⟩) els.length els.length)) (w.alloc (.cells out E)):=by
  unfold execOp
  rw [ho]
  have : ((enumO 0 xs).toArray.map fun (x : Nat × Operand)=>(x.1,a.eval x.2)) = (enumV 0 (xs.map a.eval)).toArray:=by
   rw [List.map_toArray,enumO_map]
  simp only [this]
  rw [List.length_map,i1] at hr
  simp only [i1,Sem.run_bind,hr,Result.andThen_ok,Sem.run_pure]
 have hox : Cx.Ext ⟨w,own⟩ ⟨w.alloc (.cells out E),fun b=>own b ∨ b = w.heap.size⟩:=⟨(Zbd w _).size,fun b hb' h=>by
  rcases h with h | h
  ·exact h
  ·have : b < w.heap.size:=hb'
   omega,fun b h1 _=>.inl ((Zbd w _).block b h1)⟩
 have hosz : out.size = els.length * sz:=by
  rw [← Array.length_toList,hl,flatV_len i2,List.length_map,i1]
 unfold Oper.wp
 rw [hrun,Oper.upon_value]
 refine hK _ _ _ _ (Chg.fresh (g:=(w.heap.size,0)) hown (Zbd _ _) (Nat.le_refl _) (by rw [size_new]; omega) ?_ ?_)
 ·refine ⟨out,Zbk _ _,by rw [hosz,Nat.zero_add]; exact Nat.le_refl _,of_flat (q:=fun p r=>∃ u,out[0 + p]? = some u ∧ r.p (Cx.young ⟨w.alloc (.cells out E),fun b=>own b ∨ b = w.heap.size⟩ base m) u) hn (fun p r hp=>?_)⟩
  obtain ⟨u,hu,hq⟩:=i3 p r hp
  refine ⟨u,?_,r.mono (hox.young _ _) hq⟩
  rw [Nat.zero_add,← Array.getElem?_toList,hl]
  exact hu
 ·refine ⟨0,els.length,out,E,by rw [upd_same],.inl (by rw [upd_same,Nat.zero_mul]),Nat.le_refl _,?_,by rw [upd_same]; exact Zbk _ _,by rw [upd_same,Nat.zero_add,Nat.zero_add,hosz]; exact Nat.le_refl _⟩
  have hp:=hE.pos
  have : els.length * 1 ≤ els.length * sz:=Nat.mul_le_mul_left _ hp
  simp only [maxLen]
  omega
theorem eff_append_nil {P : Program} {H : Nat → Option Ob} {ev : Operand → D} {o : Oper} {t sz sz' by_ : Nat} {E : TypeId} {m new2 : Bool} {els2 : List P0} {d : D} (T : TypeId) (x y : Operand) (ho : o.op = .call { callee:=.builtin .append,args:=#[x,y],argTypes:=#[T,T] }) (hT : elOf P T = some (E,sz,by_))
  (hx : ev x = .one (.r m (row true sz' []))) (hy : ev y = d) (hs : SlD H d sz new2 els2) (h0 : 0 < els2.length) (h63 : els2.length ≤ maxLen) (hb : els2.length * by_ ≤ 140737488355328) :
  Eff P H ev o (.one (.own t 0 els2.length sz)) [] [t] [(t,some (.sl E sz new2 els2))]:=by
 intro base a w ι own hown hbase hev hH _ K Q hK
 obtain ⟨z,hE⟩:=elOf_spec hT
 obtain ⟨inf,hi,hz,hsz,hby⟩:=hE.info
 have hx1:=hev x (by rw [ho]; simp [Op.operands,Call.operands])
 rw [hx] at hx1
 obtain ⟨ao,cap,e1,e2,e3,e4,e5⟩:=Zas.1 hx1
 have hao : ao = none:=e3.1 rfl
 subst hao
 have hcap:=e4 rfl
 subst hcap
 have hy1:=hev y (by rw [ho]; simp [Op.operands,Call.operands])
 rw [hy] at hy1
 obtain ⟨bo,c2,news,f1,f2,f3,f4,f5,f6⟩:=hs ι base w own _ hH hy1
 obtain ⟨b,o',rfl,hc⟩:=f3 h0
 have hr:=run_append_nil (P:=P) w T o.type E inf z hE.sl hi hz ⟨b,o',none⟩ els2.length c2 news (by rw [hsz]; exact f2) (fun j u hj=>by rw [Addr.add_lit]; exact hc j u hj) h0 (by simp only [maxLen] at h63; omega) (by rw [hby]; omega)
 have hge:=grownCap_ge w els2.length 0 E
 have hcm' : grownCap w els2.length 0 E ≤ maxLen:=grownCap_le_maxLen w els2.length 0 E h63
 have hrun : (execOp a.eval o).run P w = .ok (.value (.slice (some ⟨w.heap.size,0,none⟩) els2.length (grownCap w els2.length 0 E))) (w.drew.alloc (.cells (news.toArray ++ Builtin.zeroCells z.cells (grownCap w els2.length 0 E - els2.length)) E)):=by
  unfold execOp
  rw [ho]
  have e1' : a.eval x = .slice none 0 0:=e1
  simp only [resolve,invoke,builtin,Sem.run_bind,Sem.run_pure,Result.andThen_ok,List.map_toArray,List.map_cons,List.map_nil,e1',f1,hr]
 unfold Oper.wp
 rw [hrun,Oper.upon_value]
 have hbel : Below w.heap.size w (w.drew.alloc (.cells (news.toArray ++ Builtin.zeroCells z.cells (grownCap w els2.length 0 E - els2.length)) E)):=((Below.refl _ w).drew).alloc (Nat.le_refl _) _
 have hox : Cx.Ext ⟨w,own⟩ ⟨w.drew.alloc (.cells (news.toArray ++ Builtin.zeroCells z.cells (grownCap w els2.length 0 E - els2.length)) E),fun b=>own b ∨ b = w.heap.size⟩:=⟨hbel.size,fun b hb' h=>by
  rcases h with h | h
  ·exact h
  ·have : b < w.heap.size:=hb'
   omega,fun b h1 _=>.inl (hbel.block b h1)⟩
 have hnew : (w.drew.alloc (.cells (news.toArray ++ Builtin.zeroCells z.cells (grownCap w els2.length 0 E - els2.length)) E)).heap[w.heap.size]? = some (.cells (news.toArray ++ Builtin.zeroCells z.cells (grownCap w els2.length 0 E - els2.length)) E (0,0)):=Zbk w.drew _
 have hsize : (news.toArray ++ Builtin.zeroCells z.cells (grownCap w els2.length 0 E - els2.length)).size = grownCap w els2.length 0 E * sz:=by
  simp only [Array.size_append,List.size_toArray,size_zeroCells,hE.cells,f2,← Nat.add_mul]
  congr 1
  omega
 refine hK _ _ _ _ (Chg.fresh (g:=(w.heap.size,0)) hown hbel (Nat.le_refl _) (lt_of_heap hnew) ?_ ?_)
 ·refine ⟨_,hnew,by rw [hsize,Nat.zero_add]; exact Nat.mul_le_mul_right _ hge,of_flat (q:=fun p r=>∃ u,(news.toArray ++ Builtin.zeroCells z.cells (grownCap w els2.length 0 E - els2.length))[0 + p]? = some u ∧ r.p (Cx.young _ base new2) u) f5 (fun p r hp=>?_)⟩
  obtain ⟨u,hu,hq⟩:=f6 p r hp
  refine ⟨u,?_,r.mono (hox.young _ _) hq⟩
  have hpl : p < news.length:=by
   rcases Nat.lt_or_ge p news.length with h | h
   ·exact h
   ·rw [List.getElem?_eq_none h] at hu; cases hu
  rw [Nat.zero_add,Array.getElem?_append_left (by simpa using hpl)]
  simpa using hu
 ·exact ⟨0,_,_,E,by rw [upd_same],.inl (by rw [upd_same,Nat.zero_mul]),hge,hcm',by rw [upd_same]; exact hnew,by rw [upd_same,Nat.zero_add,Nat.zero_add,hsize]; exact Nat.le_refl _⟩
def ren : List (Nat × Nat) → Nat → Nat
 | [],k=>k
 | (b,a) :: r,k=>bif Nat.beq k b then a else ren r k
def Cell.ren (ρ : List (Nat × Nat)) : Cell → Cell
 | .own k j n sz=>.own (Abs.ren ρ k) j n sz
 | .ptr k i sz off=>.ptr (Abs.ren ρ k) i sz off
 | .clo f ps=>.clo f (ps.map fun p=>(Abs.ren ρ p.1,p.2))
 | x=>x
theorem ptrsV_ren {ρ : List (Nat × Nat)} {ι : Nat → Nat × Nat} : ∀ {ps : List (Nat × Nat)},ptrsV ι (ps.map fun p=>(Abs.ren ρ p.1,p.2)) = ptrsV (fun k=>ι (Abs.ren ρ k)) ps
 | []=>rfl
 | p :: ps=>by rw [List.map_cons,ptrsV,ptrsV,ptrsV_ren]
def D.ren (ρ : List (Nat × Nat)) : D → D
 | .one x=>.one (x.ren ρ)
 | .agg xs=>.agg (xs.map (Cell.ren ρ))
 | .tups xs=>.tups (xs.map fun x=>(x.1,x.2.map (Cell.ren ρ)))
 | d=>d
def Ob.ren (ρ : List (Nat × Nat)) : Ob → Ob
 | .var E cs=>.var E (cs.map (Cell.ren ρ))
 | ob=>ob
theorem Cell.ren_p {ρ : List (Nat × Nat)} {ι : Nat → Nat × Nat} {base : Nat} {c : Cx} {v : Value} : ∀ {x : Cell},(x.ren ρ).p ι base c v → x.p (fun k=>ι (Abs.ren ρ k)) base c v
 | .r _ _,h=>h
 | .own ..,h=>h
 | .ptr ..,h=>h
 | .any,h=>h
 | .clo ..,h=>⟨by rw [h.1,ptrsV_ren],h.2⟩
theorem D.ren_p {ρ : List (Nat × Nat)} {ι : Nat → Nat × Nat} {base : Nat} {c : Cx} {v : Value} : ∀ {d : D},(d.ren ρ).p ι base c v → d.p (fun k=>ι (Abs.ren ρ k)) base c v
 | .one x,h=>Cell.ren_p h
 | .agg xs,⟨vs,h1,h2,h3⟩=>⟨vs,h1,by simpa using h2,fun j x hj=>by
   obtain ⟨u,hu,hx⟩:=h3 j (x.ren ρ) (by simp [hj])
   exact ⟨u,hu,Cell.ren_p hx⟩⟩
 | .tup _ _,h=>h
 | .tups xs,h=>D.tups_unmap (Cell.ren ρ) (fun _ _ _ _ _ h1=>Cell.ren_p h1) h
 | .any,h=>h
theorem Ob.ren_p {ρ : List (Nat × Nat)} {ι : Nat → Nat × Nat} {base : Nat} {b : Nat × Nat} {c : Cx} : ∀ {ob : Ob},(ob.ren ρ).p ι base c b → ob.p (fun k=>ι (Abs.ren ρ k)) base c b
 | .var E cs,⟨arr,h1,h2,h3⟩=>⟨arr,h1,by simpa using h2,fun j x hj=>by
   obtain ⟨u,hu,hx⟩:=h3 j (x.ren ρ) (by simp [hj])
   exact ⟨u,hu,Cell.ren_p hx⟩⟩
 | .sl ..,h=>h
def SubR (ρ : List (Nat × Nat)) (e : Nat → D) : List (Nat × D) → Prop
 | []=>True
 | (t,d) :: l=>e t = d.ren ρ ∧ SubR ρ e l
def SubHR (ρ : List (Nat × Nat)) (e : Nat → Option Ob) : List (Nat × Ob) → Prop
 | []=>True
 | (t,d) :: l=>e (ren ρ t) = some (d.ren ρ) ∧ SubHR ρ e l
theorem SubR.get {ρ : List (Nat × Nat)} {e : Nat → D} : ∀ {l : List (Nat × D)},SubR ρ e l → ∀ t,look l t = .any ∨ (look l t).ren ρ = e t
 | [],_,t=>.inl rfl
 | (u,d) :: l,⟨h1,h2⟩,t=>by
  simp only [look,upd]
  split
  ·rename_i h; subst h; exact .inr h1.symm
  ·exact h2.get t
theorem SubHR.get {ρ : List (Nat × Nat)} {e : Nat → Option Ob} : ∀ {l : List (Nat × Ob)},SubHR ρ e l → ∀ t ob,lookH l t = some ob → e (ren ρ t) = some (ob.ren ρ) ∧ t ∈ l.map (·.1)
 | [],_,t,ob,h=>by cases h
 | (u,d) :: l,⟨h1,h2⟩,t,ob,h=>by
  simp only [lookH,upd] at h
  split at h
  ·rename_i h'; subst h'; injection h with h; subst h; exact ⟨h1,by simp⟩
  ·have:=h2.get t ob h
   exact ⟨this.1,by simp only [List.map_cons,List.mem_cons]; exact .inr this.2⟩
def injB (ρ : List (Nat × Nat)) (ks : List Nat) : Bool:=(ρ.all fun p=>Nat.blt p.1 pinned) && ks.all fun a=>ks.all fun b=>!(Nat.beq (ren ρ a) (ren ρ b)) || Nat.beq a b
theorem ren_pin {k : Nat} (hk : pinned ≤ k) : ∀ {ρ : List (Nat × Nat)},(ρ.all fun p=>Nat.blt p.1 pinned) = true → ren ρ k = k
 | [],_=>rfl
 | (b,a) :: ρ,h=>by
  simp only [List.all_cons,Bool.and_eq_true,Nat.blt_eq] at h
  have hb : Nat.beq k b = false:=by
   cases hb : Nat.beq k b with
   | false=>rfl
   | true=>simp at hb; omega
  simp only [ren,hb,cond_false]
  exact ren_pin hk h.2
theorem Zg {n : Nat} {l l' : List (Nat × D)} {h h' : List (Nat × Ob)} (ρ : List (Nat × Nat)) (hi : injB ρ (h'.map (·.1)) = true) (he : SubR ρ (look l) l') (hh : SubHR ρ (lookH h) h') : Weak (mkS n l h) (mkS n l' h'):=by
 rintro w0 a w ⟨ι,own,hs⟩
 unfold injB at hi
 rw [Bool.and_eq_true] at hi
 obtain ⟨hpn,hi⟩:=hi
 refine ⟨fun k=>ι (ren ρ k),own,hs.below,hs.base_,hs.own_,hs.keep,hs.frm,hs.size,fun t=>?_,fun k ob hk=>?_,fun k ob hk=>hs.place _ _ (hh.get k ob hk).1,fun k k' o o' hk hk' heq=>?_,hs.defers,fun k p hp=>⟨by rw [ren_pin (hs.pin k p hp).2 hpn]; exact (hs.pin k p hp).1,(hs.pin k p hp).2⟩⟩
 ·rcases he.get t with h1 | h1
  ·show (look l' t).p _ _ _ _
   rw [h1]; trivial
  ·show (look l' t).p _ _ _ _
   refine D.ren_p ?_
   rw [h1]; exact hs.env t
 ·obtain ⟨h1,_⟩:=hh.get k ob hk
  obtain ⟨g1,g2⟩:=hs.heap _ _ h1
  exact ⟨g1,Ob.ren_p g2⟩
 ·obtain ⟨h1,m1⟩:=hh.get k o hk
  obtain ⟨h2,m2⟩:=hh.get k' o' hk'
  have:=hs.inj _ _ _ _ h1 h2 heq
  simp only [List.all_eq_true,Bool.or_eq_true,Bool.not_eq_true',Nat.beq_eq] at hi
  rcases hi k m1 k' m2 with h | h
  ·rw [this] at h; simp at h
  ·exact h
theorem subR_cons {ρ : List (Nat × Nat)} {l r : List (Nat × D)} {t : Nat} {d d' : D} (h : lookO l t = some d') (hd : d' = d.ren ρ) (hr : SubR ρ (look l) r) : SubR ρ (look l) ((t,d) :: r):=⟨by rw [Zb h,hd],hr⟩
theorem subHR_cons {ρ : List (Nat × Nat)} {h r : List (Nat × Ob)} {t : Nat} {d d' : Ob} (he : lookHO h (ren ρ t) = some d') (hd : d' = d.ren ρ) (hr : SubHR ρ (lookH h) r) : SubHR ρ (lookH h) ((t,d) :: r):=⟨by rw [Zf he,hd],hr⟩
theorem d_own {k j n n' sz : Nat} (h : n = n') : D.one (.own k j n sz) = .one (.own k j n' sz):=by rw [h]
theorem Zaf {E : TypeId} {sz : Nat} {b b' : Bool} {els els' : List P0} (hb : b = b') (h : els = els') : Ob.sl E sz b els = .sl E sz b' els':=by rw [hb,h]
theorem run_sliceAt {P : Program} {t E sz : Nat} (hT : slOf P t = some (E,sz)) {w : World} {ao : Option Addr} {n cap a b : Nat} {lo hi : Option Value} (hlo : lo = some (.int .i64 (a : Int)) ∨ lo = none ∧ a = 0) (hhi : hi = some (.int .i64 (b : Int)) ∨ hi = none ∧ b = n) (hab : a ≤ b) (hb : b ≤ cap) :
  (Instr.sliceAt t (.slice ao n cap) lo hi none).run P w = .ok (.slice (if cap = a then ao else ao.map (·.add (a * sz))) (b - a) (cap - a)) w:=by
 have hb1 : ∀ code,(Instr.sliceBound (.int .i64 (b : Int)) cap code).run P w = .ok b w:=fun code=>by
  unfold Instr.sliceBound
  simp only [Sem.run_bind,asIntOf,Sem.run_pure,Result.andThen_ok]
  rw [if_pos ⟨by omega,by omega⟩]
  simp
 have hb2 : ∀ code,(Instr.sliceBound (.int .i64 (a : Int)) b code).run P w = .ok a w:=fun code=>by
  unfold Instr.sliceBound
  simp only [Sem.run_bind,asIntOf,Sem.run_pure,Result.andThen_ok]
  rw [if_pos ⟨by omega,by omega⟩]
  simp
 have hbd : (Instr.sliceBounds true n cap lo hi none).run P w = .ok (a,b,cap) w:=by
  unfold Instr.sliceBounds
  rcases hlo with rfl | ⟨rfl,rfl⟩<;>rcases hhi with rfl | ⟨rfl,rfl⟩<;>simp [hb1,hb2]
 unfold Instr.sliceAt Instr.slice
 simp only [Sem.run_bind,run_underlying (slOf_spec hT).1,Result.andThen_ok,hbd,(slOf_spec hT).2.2 w,Sem.run_pure]
def optI (ev : Operand → D) (x : Option Operand) (a : Nat) (z : Nat) : Prop:=match x with
 | some x=>∃ m,ev x = .one (.r m (int (a : Int)))
 | none=>a = z
theorem loc_slice_row {P : Program} {H : Nat → Option Ob} {ev : Operand → D} {o : Oper} {m nil : Bool} {sz : Nat} {els : List P0} {E : TypeId} {a b : Nat} (t : TypeId) (x : Operand) (lo hi : Option Operand) (hT : slOf P t = some (E,sz)) (ho : o.op = .slice t x lo hi none) (hx : ev x = .one (.r m (row nil sz els))) (hlo : optI ev lo a 0) (hhi : optI ev hi b els.length) (hab : a ≤ b) (hb : b ≤ els.length) : Loc P H ev o (.one (.r m (row nil sz ((els.drop a).take (b - a))))) :=
 Zal fun base ac w ι own hw he hH=>by
  have hx1 : (ev x).p ι base ⟨w,own⟩ (ac.eval x):=he x (by rw [ho]; simp [Op.operands])
  rw [hx] at hx1
  obtain ⟨ao,cap,e1,e2,e3,e4,e5⟩:=Zas.1 hx1
  have hx2 : ac.eval x = .slice ao els.length cap:=e1
  have hlo' : lo.map ac.eval = some (.int .i64 (a : Int)) ∨ lo.map ac.eval = none ∧ a = 0:=by
   cases lo with
   | none=>exact .inr ⟨rfl,hlo⟩
   | some y =>
    obtain ⟨m1,h1⟩:=hlo
    have h2 : (ev y).p ι base ⟨w,own⟩ (ac.eval y):=he y (by rw [ho]; simp [Op.operands])
    rw [h1] at h2
    exact .inl (by rw [Option.map_some,((Zx (c:=Cx.young ⟨w,own⟩ base m1)).1 h2).1])
  have hhi' : hi.map ac.eval = some (.int .i64 (b : Int)) ∨ hi.map ac.eval = none ∧ b = els.length:=by
   cases hi with
   | none=>exact .inr ⟨rfl,hhi⟩
   | some y =>
    obtain ⟨m1,h1⟩:=hhi
    have h2 : (ev y).p ι base ⟨w,own⟩ (ac.eval y):=he y (by rw [ho]; simp [Op.operands])
    rw [h1] at h2
    exact .inl (by rw [Option.map_some,((Zx (c:=Cx.young ⟨w,own⟩ base m1)).1 h2).1])
  have hr:=run_sliceAt (P:=P) hT (w:=w) (ao:=ao) (n:=els.length) (cap:=cap) hlo' hhi' hab (Nat.le_trans hb e2.1)
  have hlen : ((els.drop a).take (b - a)).length = b - a:=by rw [List.length_take,List.length_drop]; omega
  refine ⟨_,?_,Zas.2 ⟨if cap = a then ao else ao.map (·.add (a * sz)),cap - a,by rw [hlen],by rw [hlen]; omega,?_,?_,fun hpos=>?_⟩⟩
  ·unfold execOp
   rw [ho]
   simp only [hx2,Option.map_none,Sem.run_bind,hr,Result.andThen_ok,Sem.run_pure]
  ·rw [e3]
   split
   ·rfl
   ·simp
  ·intro h0
   have : ao = none:=by
    split at h0
    ·exact h0
    ·simpa using h0
   rw [e4 this,Nat.zero_sub]
  ·rw [hlen] at hpos
   obtain ⟨bl,oo,q1,q2,q3,q4⟩:=e5 (by omega)
   rw [if_neg (by omega),q1]
   refine ⟨bl,oo + a * sz,by rw [Option.map_some,Addr.add_lit],q2,q3,fun i e hi'=>?_⟩
   rw [List.getElem?_take] at hi'
   split at hi'
   ·rw [List.getElem?_drop] at hi'
    have:=q4 (a + i) e hi'
    rw [Nat.add_mul,← Nat.add_assoc] at this
    exact this
   ·cases hi'
def AllEl (P : Program) : List (Nat × Nat × Nat × Nat) → Prop
 | []=>True
 | (t,e,s,b) :: r=>elOf P t = some (e,s,b) ∧ AllEl P r
def AllZp (P : Program) : List (Nat × P0) → Prop
 | []=>True
 | (t,z) :: r=>zpOf P t = some z ∧ AllZp P r
def elL : List (Nat × Nat × Nat × Nat) → Nat → Option (Nat × Nat × Nat)
 | [],_=>none
 | (t,e,s,b) :: r,u=>bif Nat.beq u t then some (e,s,b) else elL r u
theorem elL_ok {P : Program} : ∀ {l : List (Nat × Nat × Nat × Nat)} {u : Nat} {x : Nat × Nat × Nat},AllEl P l → elL l u = some x → elOf P u = some x
 | (t,e,s,b) :: r,u,x,⟨h1,h2⟩,h=>by
  simp only [elL] at h
  cases hb : Nat.beq u t with
  | true=>rw [hb] at h; simp at hb; subst hb; rw [h1]; simpa using h
  | false=>rw [hb] at h; exact elL_ok h2 h
def zpL : List (Nat × P0) → Nat → Option P0
 | [],_=>none
 | (t,z) :: r,u=>bif Nat.beq u t then some z else zpL r u
theorem zpL_ok {P : Program} : ∀ {l : List (Nat × P0)} {u : Nat} {x : P0},AllZp P l → zpL l u = some x → zpOf P u = some x
 | (t,z) :: r,u,x,⟨h1,h2⟩,h=>by
  simp only [zpL] at h
  cases hb : Nat.beq u t with
  | true=>rw [hb] at h; simp at hb; subst hb; rw [h1]; simpa using h
  | false=>rw [hb] at h; exact zpL_ok h2 h
structure TL where
 els : List (Nat × Nat × Nat × Nat)
 zps : List (Nat × P0)
structure TLOk (P : Program) (tl : TL) : Prop where
 el : AllEl P tl.els
 zp : AllZp P tl.zps
section
variable {P : Program} {tb : TB} {tl : TL} {o : Oper} {t k sz by_ : Nat} {l : List (Nat × D)} {h : List (Nat × Ob)} {E T : TypeId} {x y : Operand}
theorem e_make {H : Nat → Option Ob} {c : Nat} {zp : P0} {m1 m2 : Bool} {i j : Int} (hT : TLOk P tl) (ho : o.op = .makeSlice T x y) (hd : o.dst = some t) (he : elL tl.els T = some (E,sz,by_)) (hz : zpL tl.zps E = some zp) (hx : evO l x = some (.one (.r m1 (int i)))) (hy : evO l y = some (.one (.r m2 (int j)))) (hi : i = c) (hj : j = c) (hb : by_ * c ≤ 281474976710656) (h63 : c ≤ maxLen) :
  Eff P H (evD (look l)) o (.one (.own t 0 c sz)) [] [t] [(t,some (.sl E sz true (List.replicate c zp)))]:=eff_make T x y ho (elL_ok hT.el he) (zpL_ok hT.zp hz) (Za hx) (Za hy) hi hj hb h63
theorem Zah {c : Nat} {new new2 : Bool} {els els2 : List P0} {d : D} (hT : TLOk P tl) (ho : o.op = .call { callee:=.builtin .append,args:=#[x,y],argTypes:=#[T,T] }) (hd : o.dst = some t) (he : elL tl.els T = some (E,sz,by_))
  (hx : evO l x = some (.one (.own k 0 c sz))) (hk : lookHO h k = some (.sl E sz new els)) (hy : evO l y = some d) (hs : SlD (lookH h) d sz new2 els2) (hc : c = els.length) (h63 : els.length + els2.length ≤ maxLen) (hb : (els.length + els2.length) * by_ ≤ 140737488355328) :
  Eff P (lookH h) (evD (look l)) o (.one (.own t 0 (els.length + els2.length) sz)) [k] [t] [(t,some (.sl E sz (new && new2) (els ++ els2))),(k,none)]:=by
 subst hc
 exact eff_append T x y ho (elL_ok hT.el he) (Za hx) (Zf hk) (Nat.zero_add _) (Za hy) hs h63 hb
theorem Zaw {H : Nat → Option Ob} {sz' : Nat} {m new2 : Bool} {els2 : List P0} {d : D} (hT : TLOk P tl) (ho : o.op = .call { callee:=.builtin .append,args:=#[x,y],argTypes:=#[T,T] }) (hd : o.dst = some t) (he : elL tl.els T = some (E,sz,by_))
  (hx : evO l x = some (.one (.r m (row true sz' [])))) (hy : evO l y = some d) (hs : SlD H d sz new2 els2) (h0 : 0 < els2.length) (h63 : els2.length ≤ maxLen) (hb : els2.length * by_ ≤ 140737488355328) :
  Eff P H (evD (look l)) o (.one (.own t 0 els2.length sz)) [] [t] [(t,some (.sl E sz new2 els2))]:=eff_append_nil T x y ho (elL_ok hT.el he) (Za hx) (Za hy) hs h0 h63 hb
theorem Z0 {H : Nat → Option Ob} {m : Bool} {els : List P0} {c : Nat} {ps : Array (Nat × Operand)} (xs : List Operand) (hT : TLOk P tl) (ho : o.op = .buildSlice T c ps) (hps : ps = (enumO 0 xs).toArray) (hc : c = xs.length) (hd : o.dst = some t) (he : elL tl.els T = some (E,sz,by_)) (hp : partsO l xs = some (m,els)) (hn : AllN sz els) (hb : els.length * sz ≤ 16777216) :
  Eff P H (evD (look l)) o (.one (.own t 0 els.length sz)) [] [t] [(t,some (.sl E sz m els))]:=eff_build T c ps xs ho hps hc (elL_ok hT.el he) hp hn hb
theorem e_storeS {i : Nat} {ag : Bool} {d : D} {new m : Bool} {els : List P0} {e : P0} (hT : TbOk P tb) (ho : o.op = .store T x y) (hd : o.dst = none) (hx : evO l x = some (.one (.ptr k i sz 0))) (hk : lookHO h k = some (.sl E sz new els)) (hty : tyL tb.tys T = some (ag,sz)) (hy : evO l y = some d) (he : dP d = some (m,e)) (hen : e.n = sz) (hi : i < els.length) :
  Eff P (lookH h) (evD (look l)) o .any [k] [] [(k,some (.sl E sz (new && m) (els.set i e)))]:=eff_storeS T x y ho hd (Za hx) (Zf hk) (tyL_ok hT.ty hty) hi (Za hy) he hen
theorem Z9 {H : Nat → Option Ob} {lo hi : Option Operand} {a b : Nat} {m nil : Bool} {els : List P0} (hT : TbOk P tb) (ho : o.op = .slice T x lo hi none) (hx : evO l x = some (.one (.r m (row nil sz els)))) (hs : slL tb.sls T = some (E,sz)) (hlo : optI (evD (look l)) lo a 0) (hhi : optI (evD (look l)) hi b els.length) (hab : a ≤ b) (hb : b ≤ els.length) : Loc P H (evD (look l)) o (.one (.r m (row nil sz ((els.drop a).take (b - a))))):=loc_slice_row T x lo hi (slL_ok hT.sl hs) ho (Za hx) hlo hhi hab hb
theorem k_neB {H : Nat → Option Ob} {m m' p q : Bool} {t' : TypeId} (hT : P.underlying T = some .bool) (ho : o.op = .binOp .neq T x y t') (hx : evO l x = some (.one (.r m (bool p)))) (hy : evO l y = some (.one (.r m' (bool q)))) : Loc P H (evD (look l)) o (.one (.r true (bool (p != q)))):=loc_neB T t' x y hT ho (Za hx) (Za hy)
end
theorem prn : (∀ (p : Prop) [Decidable p],(decide p = true) = p) ∧ (∀ (p : Prop) [Decidable p],(decide p = false) = ¬ p) ∧ (∀ b : Bool,((!b) = true) = (b = false)) ∧ (∀ b : Bool,((!b) = false) = (b = true)) ∧ (∀ a b : Int,((a == b) = true) = (a = b)) ∧ (∀ a b : Int,((a != b) = true) = ¬ (a = b)) ∧ (∀ a b : Int,((a == b) = false) = ¬ (a = b)) ∧ (∀ a b : Int,((a != b) = false) = (a = b)) ∧ (∀ a b : Int,(¬ a < b) = (b ≤ a)) ∧ (∀ a b : Int,(¬ a ≤ b) = (b < a)) ∧ (∀ b : Bool,(¬ b = true) = (b = false)) ∧ (∀ b : Bool,(¬ b = false) = (b = true)):=by
 refine ⟨?_,?_,?_,?_,?_,?_,?_,?_,?_,?_,?_,?_⟩<;>intros<;>simp
end Go.Proofs.Ytmkijbfiilpccaa.Abs
