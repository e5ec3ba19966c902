/- Walks of a law that hands over and marks memory which the states do not name. No statement of the seat is proved here. -/
import Derived.Lib.Hide
import Derived.Test.YtmkijbfiilpccaaXlTy
import Derived.Test.YtmkijbfiilpccaaXlARgRd
import Derived.Test.YtmkijbfiilpccaaXlAExSS
import Derived.Test.YtmkijbfiilpccaaXlAExW
set_option linter.unusedSimpArgs false
set_option linter.unusedVariables false
namespace Go.Proofs.Ytmkijbfiilpccaa.Abs
open Go.RowKit
open R (val row ref)
open Go.RowKit
theorem x_callS0 {P : Program} {o : Oper} {f : FuncId} {args : List D} {ys : List P0} {d : D} {h' : List (Nat × Ob)} {xs : List Operand} {tys : Array TypeId} (ρ : List (Nat × Nat)) (hf : FnS P f args [] d h') (hy : args = ys.map (P0.d false)) (ho : o.op = .call { callee:=.value (.func f),args:=xs.toArray,argTypes:=tys })
  (hok : okS ρ d [] h' = true) (hnew : (newD d && newH h') = true) {base : Nat} {a : Act} {w : World} {ι : Nat → Nat × Nat} {own : Nat → Prop} (hown : ∀ b,own b → base ≤ b ∧ b < w.heap.size) (hbase : base ≤ w.heap.size ∧ Glob base w) (hA : Args ⟨w,fun _=>False⟩ (xs.map a.eval) ys) {K : Act → World → Prop} {Q : Exit → Act → World → Prop}
  (hK : ∀ v w' ι' own',Chg base w w' ι ι' own own' v (d.ren ρ) [] (mapN ρ (lowN (keys h'))) (someU ρ h') → K (a.put o.dst v) w') : o.wp P a w K Q:=by
 subst hy
 simp only [Bool.and_eq_true] at hnew
 obtain ⟨hnD,hnH⟩:=hnew
 unfold okS at hok
 simp only [Bool.and_eq_true,List.all_eq_true,Bool.or_eq_true,Za9,Nat.blt_eq] at hok
 obtain ⟨⟨⟨⟨hinj,hnd⟩,hcl⟩,hpn⟩,hdn⟩:=hok
 have hρ : ∀ a ∈ keys h',∀ b ∈ keys h',ren ρ a = ren ρ b → a = b:=fun a ha b hb e=>by
  unfold injN at hinj
  have:=List.all_eq_true.1 (List.all_eq_true.1 hinj a (List.mem_append_right _ ha)) b (List.mem_append_right _ hb)
  rw [e] at this
  simpa using this
 have hrun : (execOp a.eval o).run P w = .ok (.enter f (xs.map a.eval).toArray) w:=by
  unfold execOp
  rw [ho]
  simp [resolve,Act.eval,Deferred.ofValue,invoke,hf.1 _ _]
 unfold Oper.wp
 rw [hrun,Oper.upon_enter]
 refine (hf.2 w.heap.size w (fun k=>ι (ren ρ k)) (fun _=>False) _ (fun b h=>h.elim) ⟨Nat.le_refl _,hbase.2.mono hbase.1⟩ (fun k ob hk=>by cases hk) (fun k k' ob ob' hk=>by cases hk) (dargs0 hA)).mono ?_
 rintro e w' ⟨v,ιc,own',rfl,hc⟩
 have ho' : ∀ b,own b → b < w.heap.size:=fun b hb=>(hown b hb).2
 let ι' : Nat → Nat × Nat:=fun k=>match invN ρ (lowN (keys h')) k with | some m=>ιc m | none=>ι k
 have hι : ∀ m ∈ keys h',ι' (ren ρ m) = ιc m:=fun m hm=>by
  show (match invN ρ (lowN (keys h')) (ren ρ m) with | some m=>ιc m | none=>ι (ren ρ m)) = ιc m
  cases hi : invN ρ (lowN (keys h')) (ren ρ m) with
  | some m' =>
   obtain ⟨h1,h2⟩:=Zbl hi
   rw [hρ m' (Zbh.1 h1).1 m hm h2]
  | none =>
   have hge : pinned ≤ m:=by
    rcases Nat.lt_or_ge m pinned with hlt | hge
    ·exact absurd rfl (invN_none hi m (Zbh.2 ⟨hm,hlt⟩))
    ·exact hge
   rcases hpn m hm with h1 | h1
   ·omega
   ·cases h1
 refine hK v w' ι' (fun b=>own b ∨ own' b) ⟨hc.os,hc.tape,hc.output,hc.size,fun b hb _=>hc.block b hb (fun k hk=>by cases hk),hc.sized,fun b hb _=>.inl hb,fun b hb=>?_,fun b hb=>?_,fun k hk=>?_,?_,fun k ob hU=>?_,fun k ob k' ob' hU hU' e=>?_⟩
 ·rcases hb with hb | hb
  ·exact .inl hb
  ·rcases hc.own2 b hb with h1 | h1
   ·exact h1.elim
   ·exact .inr h1
 ·rcases hb with hb | hb
  ·exact Nat.lt_of_lt_of_le (hown b hb).2 hc.size
  ·exact (hc.own3 b hb).2
 ·show (match invN ρ (lowN (keys h')) k with | some m=>ιc m | none=>ι k) = ι k
  cases hi : invN ρ (lowN (keys h')) k with
  | some m=>obtain ⟨h1,h2⟩:=Zbl hi; exact absurd (Zbm.2 ⟨m,h1,h2⟩) hk
  | none=>rfl
 ·exact D.p_ren (D.p_on (fun u hu=>hι u (hdn u (d_names hu))) (newD_p ho' hbase.1 hnD hc.val))
 ·obtain ⟨m,om,h1,rfl,rfl⟩:=Zba hU
  have hl:=Za8 hnd h1
  obtain ⟨q1,q2,q3⟩:=hc.named m om hl
  have hmk:=Za4 hl
  rw [hι m hmk]
  refine ⟨.inr q1,Ob.p_ren (Ob.p_on (fun u hu=>hι u (Zbx hcl m om h1 u hu)) (newOb_p ho' hbase.1 (newH_get hnH m om hl) q2)),?_⟩
  rcases q3 with q3 | ⟨k0,hk0,q3⟩
  ·exact .inl q3
  ·cases hk0
 ·obtain ⟨m,om,h1,rfl,rfl⟩:=Zba hU
  obtain ⟨m',om',h1',rfl,rfl⟩:=Zba hU'
  have hl:=Za8 hnd h1
  have hl':=Za8 hnd h1'
  rw [hι m (Za4 hl),hι m' (Za4 hl')] at e
  rw [hc.inj m m' om om' hl hl' e]
theorem call_opN {n : Nat} {P : Program} {Q : Exit → Act → World → Prop} {a : Act} {w : World} {K : Act → World → Prop} {o : Oper} {f : Nat} {xs : List Operand} {tys : Array TypeId} {R : Ending → World → Prop} (ho : o.op = .call { callee:=.value (.func f),args:=xs.toArray,argTypes:=tys }) (hE : Ent P f)
  (hc : Calls P f (xs.map a.eval).toArray w R) (hK : ∀ e w',R e w' → ∃ v,e = .returned v ∧ K (a.put o.dst v) w') : o.wpIn Fence.wide n P a w K Q:=by
 refine ⟨fun _ _=>trivial,?_⟩
 show o.uponIn Fence.wide n P a K Q ((execOp a.eval o).run P w)
 have hrun : (execOp a.eval o).run P w = .ok (.enter f (xs.map a.eval).toArray) w:=by
  unfold execOp
  rw [ho]
  simp [resolve,Act.eval,Deferred.ofValue,invoke,hE _ _]
 rw [hrun]
 refine ⟨fun hd=>(by cases hd),(callsIn_wide.2 hc).mono ?_⟩
 intro e w' he
 obtain ⟨v,rfl,hk⟩:=hK e w' he
 exact hk
theorem xok_row {A W : World} {base : Nat} {L : List (Bool × List Int)} {g c : Nat → Nat} (h : XOk A base L g c (fun j=>(L.getD j default).2)) (hl : L.length ≤ 1048576) (hW : ∀ b,b < A.heap.size → W.heap[b]? = A.heap[b]?) (hz : A.heap.size ≤ W.heap.size) :
  R.p (row false 1 (rowsI (snds L))) ⟨W,fun _=>False⟩ (.slice (some ⟨base,0,none⟩) L.length L.length):=by
 have hlen : (rowsI (snds L)).length = L.length:=by rw [Zag,Zbo]
 have hb:=(h.out.lt_ base rfl).2
 refine (Zas (c:=⟨W,fun _=>False⟩)).2 ⟨some ⟨base,0,none⟩,L.length,by rw [hlen],by rw [hlen]; simp only [maxLen]; omega,⟨fun e=>(by cases e),fun e=>(by cases e)⟩,fun e=>(by cases e),fun _=>⟨base,0,rfl,Nat.lt_of_lt_of_le hb hz,fun h=>h,fun i e he=>?_⟩⟩
 unfold rowsI at he
 rw [List.getElem?_map,Option.map_eq_some_iff] at he
 obtain ⟨x,hx,rfl⟩:=he
 refine ⟨rfl,fun j r hj=>?_⟩
 match j,hj with
 | j + 1,hj=>simp [P0.rs,rowP] at hj
 | 0,hj =>
  obtain rfl : row false 1 (ints x) = r:=by simpa [P0.rs,rowP] using hj
  unfold snds at hx
  rw [List.getElem?_map,Option.map_eq_some_iff] at hx
  obtain ⟨y,hy,rfl⟩:=hx
  obtain ⟨hi,hyy⟩:=List.getElem?_eq_some_iff.1 hy
  have hg : L.getD i default = y:=by rw [List.getD_eq_getElem?_getD,hy]; rfl
  obtain ⟨q1,_,q3⟩:=h.inn.1 i hi
  rw [hg] at q3
  have hgi:=(q3.lt_ (g i) rfl).2
  have hcell:=h.out.cell_at i oM
  rw [List.getElem?_map,List.getElem?_range hi] at hcell
  have hcell2 : A.cell? ⟨base,i,none⟩ = some (.slice (some ⟨g i,0,none⟩) y.2.length (c i)):=by
   rw [hcell]
   show some (slJ L g c i) = _
   unfold slJ
   rw [hg]
  refine ⟨.slice (some ⟨g i,0,none⟩) y.2.length (c i),?_,?_⟩
  ·show W.cell? ⟨base,0 + i * 1 + 0,none⟩ = _
   rw [Nat.mul_one,Nat.add_zero,Nat.zero_add]
   exact (World.cell?_of_block (a:=⟨base,i,none⟩) (hW base hb)).trans hcell2
  ·refine (Zas (c:=⟨W,fun _=>False⟩)).2 ⟨some ⟨g i,0,none⟩,c i,by rw [Zp],by rw [Zp]; exact q3.cap_,⟨fun e=>(by cases e),fun e=>(by cases e)⟩,fun e=>(by cases e),fun hp=>⟨g i,0,rfl,Nat.lt_of_lt_of_le hgi hz,fun h=>h,fun m e he=>?_⟩⟩
   unfold ints at he
   rw [List.getElem?_map,Option.map_eq_some_iff] at he
   obtain ⟨z,hz1,rfl⟩:=he
   refine ⟨rfl,fun m2 r hj=>?_⟩
   match m2,hj with
   | m2 + 1,hj=>simp [P0.rs] at hj
   | 0,hj =>
    obtain rfl : int z = r:=by simpa [P0.rs] using hj
    obtain ⟨hm,hmz⟩:=List.getElem?_eq_some_iff.1 hz1
    refine ⟨.int .i64 z,?_,(Zx (c:=⟨W,fun _=>False⟩)).2 ⟨rfl,rfl⟩⟩
    show W.cell? ⟨g i,0 + m * 1 + 0,none⟩ = _
    rw [Nat.mul_one,Nat.add_zero,Nat.zero_add]
    refine (World.cell?_of_block (a:=⟨g i,m,none⟩) (hW (g i) hgi)).trans ?_
    rw [q3.cell_at m oM]
    show (iv (L.getD i default).2)[m]? = _
    rw [hg]
    simp [iv,hz1]
def XB (lo hi : Nat) : Nat → Prop:=fun b=>lo ≤ b ∧ b < hi
theorem sim_make {w w1 A : World} {a : Act} {ι : Nat → Nat × Nat} {own : Nat → Prop} {nil nv ng nm b : Bool} {els : List P0} {r : Int} {vs : List Int} {gs : List Bool} {ms : List E3} {v6 : Value} {d25 : D} (h1 : v6.oneCell' = true)
  (hs : Sim' (bs0 w) (mkS 96 [(25,d25),(0,.one (.r false (row nil 1 els))),(4,.one (.ptr 4 0 0 0)),(5,.one (.r true (bool b)))] [(4,.var 28 [.r true (int r),.r true (row nv 1 (ints vs)),.r true (row ng 1 (bools gs)),.r true (row nm 3 (edges ms))])]) a w1 ι own) (hB : Below w1.heap.size w1 A) :
  Sim' (bsI A (XB w1.heap.size A.heap.size) w.heap.size) (mkS 96 [(26,.one (.r true (R.val v6))),(0,.one (.r false (row nil 1 els))),(4,.one (.r true (R.ref (.agg [int r,row nv 1 (ints vs),row ng 1 (bools gs),row nm 3 (edges ms)])))),(5,.one (.r true (bool b)))] []) (a.put (some 26) v6) A ι (XB w1.heap.size A.heap.size):=by
 have hz : w.heap.size ≤ w1.heap.size:=hs.below.size
 have hzA:=hB.size
 have hxf : Cx.Ext ⟨w1,own⟩ ⟨A,XB w1.heap.size A.heap.size⟩:=⟨hB.size,fun b hb hX=>by have h1 : w1.heap.size ≤ b:=hX.1; have h2 : b < w1.heap.size:=hb; omega,fun b hb _=>.inl (hB.block b hb)⟩
 have hsz : a.tmps.size = 96:=hs.size
 have e0:=hs.env 0
 have e4:=hs.env 4
 have e5:=hs.env 5
 obtain ⟨o4,arr,q1,q2,q3⟩:=hs.heap 4 _ rfl
 refine ⟨⟨rfl,rfl,rfl,Nat.le_refl _,fun _ _ _=>rfl,fun b arr E h=>⟨arr,h,rfl⟩⟩,⟨by show w.heap.size ≤ A.heap.size; omega,Glob.triv _ _⟩,fun b hb=>⟨Nat.le_trans hz hb.1,hb.2⟩,fun b _ h _=>h,fun b h=>.inl h,?_,fun t=>?_,(fun k ob hk=>by cases hk),(fun k ob hk=>by cases hk),(fun k k' ob ob' hk=>by cases hk),hs.defers,(fun k p hk=>by cases hk)⟩
 ·show (a.tmps.setIfInBounds 26 _).size = 96
  rw [Array.size_setIfInBounds,hsz]
 ·by_cases t26 : t = 26
  ·subst t26
   show D.p ι w.heap.size ⟨A,_⟩ _ (.one (.r true (R.val v6)))
   rw [put_getD_same oM]
   exact (Zx (c:=Cx.young ⟨A,XB w1.heap.size A.heap.size⟩ w.heap.size true)).2 ⟨rfl,h1⟩
  ·rw [put_getD t26]
   by_cases t0 : t = 0
   ·subst t0
    exact R.mono _ (hxf.young w.heap.size false) e0
   ·by_cases t4 : t = 4
    ·subst t4
     have e4' : a.tmps.getD 4 undef = Value.pointer (some ⟨(ι 4).1,(ι 4).2 + (0 * 0 + 0),none⟩):=e4
     have hlo:=(hs.own_ _ o4)
     have hb4 : (ι 4).1 < w1.heap.size:=hlo.2
     have hg4 : w.heap.size ≤ (ι 4).1:=hlo.1
     show R.p _ (Cx.young ⟨A,XB w1.heap.size A.heap.size⟩ w.heap.size true) (a.tmps.getD 4 undef)
     rw [e4']
     refine (ref_p (c:=Cx.young ⟨A,XB w1.heap.size A.heap.size⟩ w.heap.size true)).2 ⟨(ι 4).1,(ι 4).2 + (0 * 0 + 0),rfl,by show (ι 4).1 < A.heap.size; omega,fun h=>by
      rcases h with h | h
      ·have : w1.heap.size ≤ (ι 4).1:=h.1
       omega
      ·omega,fun j x hj=>?_⟩
     have q3' : ∀ (j : Nat) (x : Cell),[Cell.r true (int r),.r true (row nv 1 (ints vs)),.r true (row ng 1 (bools gs)),.r true (row nm 3 (edges ms))][j]? = some x → ∃ u,arr[(ι 4).2 + j]? = some u ∧ x.p ι w.heap.size ⟨w1,own⟩ u:=q3
     have key : ∀ (j : Nat) (x : R),[int r,row nv 1 (ints vs),row ng 1 (bools gs),row nm 3 (edges ms)][j]? = some x → ∃ u,arr[(ι 4).2 + j]? = some u ∧ x.p (Cx.young ⟨A,XB w1.heap.size A.heap.size⟩ w.heap.size true) u:=fun j x hj=>by
      obtain ⟨u,hu,hp⟩:=q3' j (.r true x) (by
       match j,hj with
       | 0,hj=>simp at hj ⊢; exact hj
       | 1,hj=>simp at hj ⊢; exact hj
       | 2,hj=>simp at hj ⊢; exact hj
       | 3,hj=>simp at hj ⊢; exact hj
       | j + 4,hj=>simp at hj)
      exact ⟨u,hu,R.mono _ (hxf.young w.heap.size true) hp⟩
     obtain ⟨u,hu,hp⟩:=key j x hj
     refine ⟨u,?_,hp⟩
     show A.cell? ⟨(ι 4).1,(ι 4).2 + (0 * 0 + 0) + j,none⟩ = some u
     rw [Zbi ((hB.block _ hb4).trans q1)]
     exact hu
    ·by_cases t5 : t = 5
     ·subst t5
      exact R.mono _ (hxf.young w.heap.size true) e5
     ·have : look [(26,.one (.r true (R.val v6))),(0,.one (.r false (row nil 1 els))),(4,.one (.r true (R.ref (.agg [int r,row nv 1 (ints vs),row ng 1 (bools gs),row nm 3 (edges ms)])))),(5,.one (.r true (bool b)))] t = .any:=look_none (fun p hp=>by simp at hp; rcases hp with rfl | rfl | rfl | rfl<;>simp<;>omega)
      show D.p ι w.heap.size _ _ (look _ t)
      rw [this]; trivial
def bsM (B' : World) (own : Nat → Prop) (b0 : Nat) : Bs:={ toWorld:=B',base:=b0,M:=own,own0:=own,pin:=fun _=>none,dfs:=[] }
theorem sim_mark {A B B' : World} {lo b0 n : Nat} {l : List (Nat × D)} {h : List (Nat × Ob)} {a : Act} {ι : Nat → Nat × Nat} {own : Nat → Prop} (hs : Sim' (bsI A (XB lo A.heap.size) b0) (mkS n l h) a B ι own) (hM : MkW lo A.heap.size B B') : Sim' (bsM B' own b0) (mkS n l h) a B' ι own:=by
 have hX : ∀ b,XB lo A.heap.size b → own b:=fun b hb=>hs.keep b hb.2 hb (fun h=>h)
 have hx : Cx.Ext ⟨B,own⟩ ⟨B',own⟩:=⟨hM.size,fun _ _ h=>h,fun b hb ho=>.inl (hM.block b hb (by
  rcases Nat.lt_or_ge b A.heap.size with h1 | h1
  ·rcases Nat.lt_or_ge lo b with h2 | h2
   ·exact absurd (hX b ⟨by omega,h1⟩) ho
   ·exact .inl h2
  ·exact .inr h1))⟩
 refine ⟨⟨rfl,rfl,rfl,Nat.le_refl _,fun _ _ _=>rfl,fun b arr E h=>⟨arr,h,rfl⟩⟩,⟨Nat.le_trans (Nat.le_trans hs.base_.1 hs.below.size) hM.size,Glob.triv _ _⟩,fun b hb=>⟨(hs.own_ b hb).1,Nat.lt_of_lt_of_le (hs.own_ b hb).2 hM.size⟩,fun b _ h _=>h,fun b h=>.inl h,hs.size,fun t=>D.mono hx hM.sized (hs.env t),fun k ob hk=>?_,fun k ob hk=>.inr (hs.heap k ob hk).1,hs.inj,hs.defers,(fun k p hk=>by cases hk)⟩
 obtain ⟨q1,q2⟩:=hs.heap k ob hk
 have hp : A.heap.size ≤ (ι k).1:=(hs.place k ob hk).resolve_right (fun h=>h)
 exact ⟨q1,Ob.mono hx hM.sized (hM.block _ (hs.own_ _ q1).2 (.inr hp)) q2⟩
theorem call_op1 {n : Nat} {P : Program} {Q : Exit → Act → World → Prop} {a : Act} {w : World} {K : Act → World → Prop} {o : Oper} {x : Value} {f t : Nat} {tys : Array TypeId} {R : Ending → World → Prop} (ho : o.op = .call { callee:=.value (.func f),args:=#[.tmp t],argTypes:=tys }) (h2 : a.eval (.tmp t) = x) (hE : Ent P f)
  (hc : Calls P f #[x] w R) (hK : ∀ e w',R e w' → ∃ v,e = .returned v ∧ K (a.put o.dst v) w') : o.wpIn Fence.wide n P a w K Q :=
 call_opN (xs:=[.tmp t]) ho hE (by simp only [List.map_cons,List.map_nil,h2]; exact hc) hK
theorem rowsN_argV {w : World} {v : Value} {nil : Bool} {L : List (Bool × List Int)} (h : R.p (row nil 1 (rowsN L)) ⟨w,fun _=>False⟩ v) :
  ∃ (ao : Option Addr) (b o c : Nat) (us : Nat → Value),v = .slice ao L.length c ∧ At ao b o L.length ∧ RowsAt w b o us L.length ∧ ∀ i,i < L.length → ∃ (ai : Option Addr) (bi oi ci : Nat),us i = .slice ai (L.getD i default).2.length ci ∧ At ai bi oi (L.getD i default).2.length ∧ Ints w bi oi (L.getD i default).2:=by
 obtain ⟨ao,cap,rfl,hc,_,_,h5⟩:=Zas.1 h
 rw [rowsN_len] at h5 hc ⊢
 rcases Nat.eq_zero_or_pos L.length with h0 | h0
 ·exact ⟨ao,0,0,cap,fun _=>undef,rfl,.inl h0,fun i hi=>by omega,fun i hi=>by omega⟩
 ·obtain ⟨b,o,rfl,hb,_,hrow⟩:=h5 h0
  have key : ∀ i,i < L.length → ∃ u,w.cell? ⟨b,o + i,none⟩ = some u ∧ R.p (row (L.getD i default).1 1 (ints (L.getD i default).2)) ⟨w,fun _=>False⟩ u:=fun i hi=>by
   have hat:=rowsN_at hi
   rw [Int.toNat_natCast] at hat
   obtain ⟨u,hu,hp⟩:=(hrow i _ hat).2 0 _ rfl
   have hg : L.getD i default = L[i]:=by rw [List.getD_eq_getElem?_getD,List.getElem?_eq_getElem hi]; rfl
   rw [hg]
   rw [Nat.mul_one,Nat.add_zero] at hu
   exact ⟨u,hu,hp⟩
  refine ⟨_,b,o,cap,fun i=>(w.cell? ⟨b,o + i,none⟩).getD undef,rfl,.inr rfl,fun i hi=>?_,fun i hi=>?_⟩
  ·obtain ⟨u,hu,_⟩:=key i hi
   dsimp only
   rw [hu]; rfl
  ·obtain ⟨u,hu,hp⟩:=key i hi
   obtain ⟨ai,bi,oi,ci,rfl,ha,hin,_⟩:=ints_argV (nil:=(L.getD i default).1) (xs:=(L.getD i default).2) hp
   exact ⟨ai,bi,oi,ci,by dsimp only; rw [hu]; rfl,ha,hin⟩
theorem sim_put {w0 : Bs} {n : Nat} {l : List (Nat × D)} {h : List (Nat × Ob)} {a : Act} {w : World} {ι : Nat → Nat × Nat} {own : Nat → Prop} {t : Nat} {u : Value} (hs : Sim' w0 (mkS n l h) a w ι own) (ht : t < n) (hu : u.oneCell' = true) : Sim' w0 (mkS n ((t,.one (.r true (R.val u))) :: l) h) (a.put (some t) u) w ι own:=by
 have hsz : a.tmps.size = n:=hs.size
 refine ⟨hs.below,hs.base_,hs.own_,hs.keep,hs.frm,?_,fun s=>?_,hs.heap,hs.place,hs.inj,hs.defers,hs.pin⟩
 ·show (a.tmps.setIfInBounds t _).size = n
  rw [Array.size_setIfInBounds,hsz]
 ·by_cases e : s = t
  ·subst e
   show D.p ι w0.base ⟨w,own⟩ _ (upd (look l) s _ s)
   rw [upd_same,put_getD_same oM]
   exact (Zx (c:=Cx.young ⟨w,own⟩ w0.base true)).2 ⟨rfl,hu⟩
  ·show D.p ι w0.base ⟨w,own⟩ _ (upd (look l) t _ s)
   rw [upd_ne _ _ e,put_getD e]
   exact hs.env s
theorem xok_keep {A W : World} {base : Nat} {L : List (Bool × List Int)} {g c : Nat → Nat} {xs : Nat → List Int} (h : XOk A base L g c xs) (hg : A.grownBy W none) : XOk W base L g c xs :=
 ⟨h.out.kept_ hg (fun _ _=>by simp),fun j hj=>⟨(h.inn.1 j hj).1,(h.inn.1 j hj).2.1,(h.inn.1 j hj).2.2.kept_ hg (fun _ _=>by simp)⟩,h.inn.2⟩
theorem sim_app {w0 : Bs} {n : Nat} {l : List (Nat × D)} {h : List (Nat × Ob)} {a : Act} {w w' : World} {ι ι' : Nat → Nat × Nat} {own own' : Nat → Prop} {v : Value} {d : D} {new : List Nat} {U : List (Nat × Option Ob)} {t : Nat} (hs : Sim' w0 (mkS n l h) a w ι own) (hc : Chg w0.base w w' ι ι' own own' v d [] new U) (hok : okB n (some t) [] [] new U l h = true) : Sim' w0 (mkS n (putL (some t) d l) (appL U h)) (a.put (some t) v) w' ι' own':=by
 unfold okB at hok
 simp only [Bool.and_eq_true,Nat.blt_eq] at hok
 have e : (mkS n l h).app (some t) ⟨d,[],[],new,U⟩ = mkS n (putL (some t) d l) (appL U h):=by
  unfold St.app mkS
  rw [putL_ok,appL_ok]
 have:=hs.eff (σ:=⟨d,[],[],new,U⟩) (dst:=some t) hc (fineB_spec hok.1.2) (freshB_spec hok.2) (fun t' ht'=>by injection ht' with ht'; subst ht'; exact hok.1.1)
 rwa [e] at this
theorem Zam {A W : World} {O : Nat → Prop} {b0 : Nat} {s : St} {a : Act} {ι : Nat → Nat × Nat} {own : Nat → Prop} (hs : Sim' (bsI A O b0) s a W ι own) : A.grownBy W none:=⟨hs.below.os,hs.below.tape,hs.below.output,hs.below.size,fun k hk _=>hs.below.block k hk (fun h=>h)⟩
theorem Zai {n : Nat} {P : Program} {c : Code} {s : St} {Q : Exit → St → Prop} {w0 : Bs} {a : Act} {w : World} {K : Exit → Act → World → Prop} (h : AW P c s Q) (hs : Sim w0 s a w) (hk : ∀ e s' a' w',Q e s' → Sim w0 s' a' w' → K e a' w') : c.wpIn Fence.wide n P K a w :=
 wpIn_mono (wpIn_wide.2 (h w0 a w hs)) fun e a' w' ⟨s',hq,hs'⟩=>hk e s' a' w' hq hs'
end Go.Proofs.Ytmkijbfiilpccaa.Abs
