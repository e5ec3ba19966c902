/- StateBodies of the program. No statement of the seat is proved here. -/
import Derived.RangeFuncNested
import Derived.Shelf.Abstract
import Derived.Shelf.RegionOpen
import Derived.OwnWalkIn
import Derived.TacticsInMore
import Derived.LoopNIn
import Derived.LoopIn
import Derived.Lib.Hide
import Derived.RangeFuncLeaves
import Derived.Test.YtmkijbfiilpccaaLaTy
import Derived.Test.YtmkijbfiilpccaaLaAItB
import Derived.Test.YtmkijbfiilpccaaLaGCkn
import Derived.Test.YtmkijbfiilpccaaLaAImPL
set_option linter.unusedSimpArgs false
set_option linter.unusedVariables false
set_option maxRecDepth 100000
set_option maxHeartbeats 8000000
namespace Go.Proofs.Ytmkijbfiilpccaa.Abs
open Go.RowKit
open R (val row ref)
open Go.RowKit
open Go.Shelf
attribute [local go_sem] Oper.semAt_some
theorem sim_startI {n : Nat} {args : List P0} {W : World} {O : Nat → Prop} {b0 : Nat} {vs : List Value} (hl : args.length ≤ n) (hb0 : b0 ≤ W.heap.size) (hO : ∀ b,O b → b0 ≤ b ∧ b < W.heap.size) (hA : Args ⟨W,O⟩ vs args) : Sim (bsI W O b0) (mkS n (argEnv 0 args) []) { tmps:=vs.toArray ++ Array.replicate (n - vs.toArray.size) undef,defers:=[] } W:=by
 have hlen:=hA.length
 refine ⟨fun _=>(0,0),O,⟨rfl,rfl,rfl,Nat.le_refl _,fun _ _ _=>rfl,fun b arr E h=>⟨arr,h,rfl⟩⟩,⟨hb0,Glob.triv _ _⟩,hO,fun b _ hb _=>hb,fun b hb=>.inl hb,?_,?_,(fun k ob hk=>by cases hk),(fun k ob hk=>by cases hk),(fun k k' ob ob' hk=>by cases hk),rfl,fun k p hk=>by cases hk⟩
 ·simp [mkS]; omega
 ·intro t
  have:=argEnv_sim (ι:=fun _=>(0,0)) (base:=b0) 0 vs args (n - vs.toArray.size) hA [] rfl t (Nat.zero_le _)
  simpa [mkS,bsI,List.getD_eq_getElem?_getD,← Array.getElem?_toList] using this
theorem it_seq (n : Nat) (Bb b0 : Nat) (s : Sta) (hF : OkF s) (nv ng nm : Bool) : SeqRd n Try.prog 75 #[.pointer (some ⟨Bb,0,none⟩)] b0 (ckB s).length (fun c=>R.p (R.ref (.agg [int s.r,row nv 1 (ints s.vs),row ng 1 (bools s.gs),row nm 3 (edges s.ms)])) c (.pointer (some ⟨Bb,0,none⟩))) (ckB s):=by
 intro l J W O hPre hb0 hO hY h0
 refine callsIn_of_wp Try.func75 rfl trivial ?_ rfl
 have hsim : Sim (bsI W O b0) (mkS 67 (argEnv 0 [.one (R.val (.func (.yield l) #[] #[])),.one (R.ref (.agg [int s.r,row nv 1 (ints s.vs),row ng 1 (bools s.gs),row nm 3 (edges s.ms)]))]) []) { tmps:=[Value.func (.yield l) #[] #[],Value.pointer (some ⟨Bb,0,none⟩)].toArray ++ Array.replicate (67 - [Value.func (.yield l) #[] #[],Value.pointer (some ⟨Bb,0,none⟩)].toArray.size) undef,defers:=[] } W :=
  sim_startI (by simp) hb0 hO ⟨(Zai (c:=⟨W,O⟩)).2 ⟨rfl,rfl⟩,hPre,trivial⟩
 have hw:=it_walk s hF nv ng nm (Nat.le_refl _) hY (n:=n) W O _ W [] rfl h0 hO hsim
 refine wpIn_mono hw ?_
 rintro e a' w' ⟨s',pre,A,O',⟨he,hp⟩,hJ,hO',ι,own,hs'⟩
 have g : A.grownBy w' none:=⟨hs'.below.os,hs'.below.tape,hs'.below.output,hs'.below.size,fun k hk _=>hs'.below.block k hk (fun h=>h)⟩
 rcases he with rfl | rfl
 ·exact ⟨hs'.defers,_,results_none rfl _ _ _,⟨_,rfl⟩,O',pre,A,hp,hJ,g⟩
 ·exact ⟨hs'.defers,_,results_none rfl _ _ _,⟨_,rfl⟩,O',pre,A,hp,hJ,g⟩
theorem implBodiesOf (v0 v1 v2 v3 : Value) (w : World) : Calls Try.prog 43 #[.agg #[v0,v1,v2,v3]] w fun e w'=>e = .returned (.func (.func 75) #[] #[.pointer (some ⟨w.heap.size,0,none⟩)]) ∧ w' = w.alloc (.cells #[v0,v1,v2,v3] 28):=by
 go_enter Try.func43,Try.ntmps43
 go_wp2
 go_ret
 exact ⟨rfl,rfl⟩
def hpB (bs : List (List Int)) : List (Nat × Ob):=[(1000000000,.var 22 [.own 100 0 bs.length 1]),(100,.sl 24 1 true (rowsI bs))]
def stB (bs : List (List Int)) : St:=mkS 25 [(3,.one (.ptr 1000000000 0 0 0))] (hpB bs)
noncomputable abbrev sbBody : Code:=match (Try.f16).body with | some (.seq _ (.seq _ (.seq _ (.seq (.seq _ (.block _ (.rangeFunc _ _ _ c))) _))))=>c | _=>.skip
theorem body_sb (l : Nat) (bs : List (List Int)) (rc : List Int) (hp : bs.length ≤ 3000) :
  AWi l Try.prog sbBody (mkS 25 [(4,.one (.r true (row false 1 (ints rc)))),(3,.one (.ptr 1000000000 0 0 0))] (hpB bs)) (fun e s'=>e = .normal ∧ Weak s' (mkS 25 [] (hpB (bs ++ [rc])))):=by
 unfold sbBody
 delta Try.f16
 dsimp only
 have hbd:=Zu rc
 have hrl:=(Zan bs).symm
 unfold hpB
 repeat' (first|(with_reducible first|refine awi_seq ?_|refine thn_normal ?_|refine thn_ret ?_|refine thn_exit ?_|refine blk_normal ?_|refine blk_ret ?_|refine blk_hit ?_|refine blk_miss rfl ?_|refine awi_block ?_|refine aw_ret ?_|refine aw_skip ?_|refine aw_exit ?_|refine w_nil ?_|refine x_nil kRf ?_)|refine awi_region ?_|refine awi_region_draw kRf ?_|refine aw_yes rfl ?_|refine aw_no rfl ?_|((with_reducible refine w_seq ?_);first|refine r_q tbOk rfl rfl rfl rfl ?_|refine r_e tbOk rfl rfl rfl rfl rfl ?_|refine r_yes tbOk rfl rfl rfl rfl rfl rfl ?_|refine w_no rfl rfl (Zb rfl) rfl rfl rfl ?_|refine w_un rfl rfl (Zb rfl) rfl rfl ?_)|((with_reducible refine w_drw ?_);first|refine rx_q tbOk rfl rfl rfl rfl ?_|refine rx_e tbOk rfl rfl rfl rfl rfl ?_|refine rx_yes tbOk rfl rfl rfl rfl rfl rfl ?_|refine x_no rfl rfl (Zb rfl) rfl rfl rfl ?_|refine x_un rfl rfl (Zb rfl) rfl rfl ?_)|((first|refine' w_e rfl ?xa ?xb ?xc ?xe ?_|refine' v_e rfl ?xa ?xb ?xc ?xe ?_);(case xa=>first|exact Zl [.tmp 21] tlOk rfl rfl rfl rfl rfl rfl (Zy rfl) (by simp)|exact Zw tlOk rfl rfl rfl rfl rfl rfl (Z0 (Zj rfl) rfl) hrl (by simp only [maxLen,List.length_append,List.length_cons,List.length_nil];omega) (by simp only [List.length_append,List.length_cons,List.length_nil];omega));(case xb|xc|xe=>rfl);try refine wkD ?_)|(refine wkB ?_ ?_<;>intro hg_<;>try exact wkX)|fail)
 all_goals first
  | exact ⟨rfl,by (refine Zi [(100,23)] rfl ?_ ?_<;>repeat' (first|refine wkS ?_ ?_|exact wkE|exact ovar1s (cell_ownN (by simp only [List.length_append,List.length_cons,List.length_nil,Zan]))|exact Zz rfl (rowsI_app _ _).symm))⟩
theorem wpIn_aw {n : Nat} {P : Program} {c : Code} {s : St} {Q : Exit → St → Prop} {w0 : Bs} {a : Act} {w : World} {K : Exit → Act → World → Prop} (h : AW P c s Q) (hs : Sim w0 s a w) (hk : ∀ e s' a' w',Q e s' → Sim w0 s' a' w' → K e a' w') : c.wpIn Fence.wide n P K a w :=
 wpIn_mono (wpIn_wide.2 (h w0 a w hs)) fun e a' w' ⟨s',hq,hs'⟩=>hk e s' a' w' hq hs'
theorem call_op {n : Nat} {P : Program} {Q : Exit → Act → World → Prop} {a : Act} {w : World} {K : Act → World → Prop} {o : Oper} {x : Value} {f t : Nat} {tys : Array TypeId} {R : Ending → World → Prop} (ho : o.op = .call { callee:=.value (.func f),args:=#[.tmp t],argTypes:=tys }) (h2 : a.eval (.tmp t) = x) (hE : Ent P f)
  (hc : Calls P f #[x] w R) (hK : ∀ e w',R e w' → ∃ v,e = .returned v ∧ K (a.put o.dst v) w') : o.wpIn Fence.wide n P a w K Q:=by
 refine ⟨fun _ _=>trivial,?_⟩
 show o.uponIn Fence.wide n P a K Q ((execOp a.eval o).run P w)
 have hrun : (execOp a.eval o).run P w = .ok (.enter f #[x]) w:=by
  have hres : (resolve a.eval { callee:=.value (.func f),args:=#[.tmp t],argTypes:=tys } o.type).run P w = .ok { target:=.fn (.func f) #[],args:=#[x] } w:=by
   unfold resolve
   have e : (#[Operand.tmp t].map a.eval) = #[x]:=by rw [← h2]; simp only [List.map_toArray,List.map_cons,List.map_nil]
   simp [e,Sem.run_pure,Deferred.ofValue,go_sem]
  unfold execOp
  rw [ho]
  simp only [Sem.run_bind]
  rw [hres]
  simp [invoke,go_sem,hE _ _]
 rw [hrun]
 refine ⟨fun hd=>(by cases hd),(callsIn_wide.2 hc).mono ?_⟩
 intro e w' he
 obtain ⟨v,rfl,hk⟩:=hK e w' he
 exact hk
theorem Sim'.turn {w0 : Bs} {s : St} {a : Act} {w w' : World} {row : Option Nat} {ι : Nat → Nat × Nat} {own : Nat → Prop} (hs : Sim' w0 s a w ι own) (hg : w.grownBy w' row) (hr : ∀ r,row = some r → w0.heap.size ≤ r ∧ ∃ o : Obj,w.heap[r]? = some o ∧ o.isCells = false) : Sim' w0 s a w' ι own:=by
 have nc : ∀ (b : Nat) (arr : Array Value) (E : TypeId) (F : Nat × Nat),w.heap[b]? = some (.cells arr E F) → w'.heap[b]? = w.heap[b]?:=fun b arr E F hb=>by
  refine hg.block b (lt_of_heap hb) (fun e=>?_)
  obtain ⟨_,o,h1,h2⟩:=hr b (by first|exact e|exact e.symm)
  rw [hb] at h1
  injection h1 with h1
  subst h1
  simp [Obj.isCells] at h2
 have hlow : ∀ b,b < w0.heap.size → w'.heap[b]? = w.heap[b]?:=fun b hb=>hg.block b (Nat.lt_of_lt_of_le hb hs.below.size) (fun e=>by
  have:=(hr b (by first|exact e|exact e.symm)).1
  omega)
 have hx : Cx.Ext ⟨w,own⟩ ⟨w',own⟩:=⟨hg.size,fun _ _ h=>h,fun b hb _=>by
  by_cases e : row = some b
  ·obtain ⟨_,o,h1,h2⟩:=hr b e
   exact .inr ⟨o,h1,fun arr E F e=>by subst e; simp [Obj.isCells] at h2⟩
  ·exact .inl (hg.block b hb (fun h=>e (by first|exact h|exact h.symm)))⟩
 have hz : Sized w w':=fun b arr E hb=>⟨arr,by rw [nc b arr E _ hb]; exact hb,rfl⟩
 refine ⟨⟨hg.os.trans hs.below.os,hg.tape.trans hs.below.tape,hg.output.trans hs.below.output,Nat.le_trans hs.below.size hg.size,fun b hb hM=>(hlow b hb).trans (hs.below.block b hb hM),fun b arr E hb=>?_⟩,⟨hs.base_.1,hs.base_.2.keep (fun k hk=>hlow k (Nat.lt_of_lt_of_le hk hs.base_.1))⟩,fun b hb=>⟨(hs.own_ b hb).1,Nat.lt_of_lt_of_le (hs.own_ b hb).2 hg.size⟩,hs.keep,hs.frm,hs.size,fun t=>D.mono hx hz (hs.env t),fun k ob hk=>?_,hs.place,hs.inj,hs.defers,hs.pin⟩
 ·obtain ⟨arr',h1,h2⟩:=hs.below.sized b arr E hb
  exact ⟨arr',by rw [nc b arr' E _ h1]; exact h1,h2⟩
 ·obtain ⟨q1,q2⟩:=hs.heap k ob hk
  refine ⟨q1,Ob.mono hx hz ?_ q2⟩
  cases ob with
  | var E cs=>obtain ⟨arr,h1,_⟩:=q2; exact nc _ _ _ _ h1
  | sl E sz nw els=>obtain ⟨arr,h1,_⟩:=q2; exact nc _ _ _ _ h1
def bsR (w W2 : World) (own2 : Nat → Prop) (p : Nat × Nat) (dfs : List Deferred) : Bs:=reBs (bs0 w) W2 own2 (fun k=>if k = 1000000000 then some p else none) dfs
theorem sb_round (l n : Nat) {w W2 : World} {own2 : Nat → Prop} {p : Nat × Nat} (bs : List (List Int)) (rc : List Int) (hp : bs.length ≤ 3000) {tm : Array Value} {v : Value} {ι : Nat → Nat × Nat} {O : Nat → Prop} {B : World}
  (hs : Sim' (bsR w W2 own2 p []) (stB bs) { tmps:=tm,defers:=[] } B ι O) (hr : R.p (row false 1 (ints rc)) ⟨B,fun b=>O b ∨ b < w.heap.size⟩ v) :
  sbBody.wpIn (Fence.wide.inRound l) n Try.prog (fun e _ W'=>e = .normal ∧ KeepsOthers B W' ∧ ∃ O',(∃ ι',Sim' (bsR w W2 own2 p []) (stB (bs ++ [rc])) { tmps:=tm,defers:=[] } W' ι' O') ∧ Cx.Ext ⟨B,O⟩ ⟨W',O'⟩ ∧ ∀ b,O' b → w.heap.size ≤ b ∧ b < W'.heap.size)
   { tmps:=(tm.setIfInBounds 19 v).setIfInBounds 4 v,defers:=[] } B:=by
 have hpin : ∀ k q,(bsR w W2 own2 p []).pin k = some q → ι k = q ∧ pinned ≤ k:=hs.pin
 have hrb:=hs.rebase (bsR w W2 own2 p []).pin hpin
 have p1 : ι 1000000000 = p:=(hpin 1000000000 p (by simp [bsR,reBs])).1
 have hsz : tm.size = 25:=hs.size
 have e3 : tm.getD 3 undef = .pointer (some ⟨p.1,p.2 + (0 * 0 + 0),none⟩):=by
  have h:=hs.env 3
  have h' : tm.getD 3 undef = Value.pointer (some ⟨(ι 1000000000).1,(ι 1000000000).2 + (0 * 0 + 0),none⟩):=h
  rw [p1] at h'; exact h'
 have hE : EnvL ι w.heap.size ⟨B,ownC B O⟩ ((tm.setIfInBounds 19 v).setIfInBounds 4 v) [(4,.one (.r true (row false 1 (ints rc)))),(3,.one (.ptr 1000000000 0 0 0))]:=by
  refine ⟨?_,?_,trivial⟩
  ·have e4 : ((tm.setIfInBounds 19 v).setIfInBounds 4 v).getD 4 undef = v:=by simp [hsz]
   rw [e4]
   exact R.mono _ (c:=⟨B,fun b=>O b ∨ b < w.heap.size⟩) (c':=⟨B,fun b=>ownC B O b ∨ b < w.heap.size⟩) (Cx.Ext.sub rfl (fun b hb=>hb.elim (fun h=>.inl h.1) .inr)) hr
  ·have e5 : ((tm.setIfInBounds 19 v).setIfInBounds 4 v).getD 3 undef = tm.getD 3 undef:=by simp [Array.getElem?_setIfInBounds]
   show ((tm.setIfInBounds 19 v).setIfInBounds 4 v).getD 3 undef = Value.pointer (some ⟨(ι 1000000000).1,(ι 1000000000).2 + (0 * 0 + 0),none⟩)
   rw [e5,e3,p1]
 have hbody:=body_sb l bs rc hp n (reBs (bsR w W2 own2 p []) B O (bsR w W2 own2 p []).pin []) { tmps:=(tm.setIfInBounds 19 v).setIfInBounds 4 v,defers:=[] } B
  ⟨ι,ownC B O,hrb.below,hrb.base_,hrb.own_,hrb.keep,hrb.frm,by show ((tm.setIfInBounds 19 v).setIfInBounds 4 v).size = 25; simp [hsz],fun t=>look_env hE t,hrb.heap,hrb.place,hrb.inj,rfl,hrb.pin⟩
 refine wpIn_mono hbody ?_
 rintro e a' W' ⟨s',⟨rfl,hw⟩,hsim⟩
 obtain ⟨ι',own',h2⟩:=hw _ _ _ hsim
 have h3:=Sim'.back hs (fun b h=>h) h2 h2.defers
 have p1' : ι' 1000000000 = p:=(h3.pin 1000000000 p (by simp [bsR,reBs])).1
 refine ⟨rfl,h2.keeps,own',⟨ι',h3.below,h3.base_,h3.own_,h3.keep,h3.frm,hsz,fun t=>look_env (l:=[(3,.one (.ptr 1000000000 0 0 0))]) ⟨?_,trivial⟩ t,h3.heap,h3.place,h3.inj,rfl,h3.pin⟩,⟨h2.below.size,fun b hb ho=>?_,fun b hb ho=>.inl (h2.below.block b hb (fun h=>ho h.1))⟩,fun b hb=>h3.own_ b hb⟩
 ·show tm.getD 3 undef = Value.pointer (some ⟨(ι' 1000000000).1,(ι' 1000000000).2 + (0 * 0 + 0),none⟩)
  rw [e3,p1']
 ·rcases h2.frm b ho with h | h
  ·exact h.1
  ·have h' : B.heap.size ≤ b:=h
   have hb' : b < B.heap.size:=hb
   omega
end Go.Proofs.Ytmkijbfiilpccaa.Abs
set_option linter.unusedSimpArgs false
set_option linter.unusedVariables false
namespace Go.Proofs.Ytmkijbfiilpccaa.Abs
open Go.RowKit
open R (val row ref)
open Go.RowKit
open Go.Shelf
theorem eff_make0 {P : Program} {H : Nat → Option Ob} {ev : Operand → D} {o : Oper} {t sz by_ c : Nat} {E : TypeId} {m1 m2 : Bool} {j : Int} (T : TypeId) (x y : Operand) (ho : o.op = .makeSlice T x y) (hT : elOf P T = some (E,sz,by_))
  (hx : ev x = .one (.r m1 (int 0))) (hy : ev y = .one (.r m2 (int j))) (hj : j = c) (hb : by_ * c ≤ 281474976710656) (h63 : c ≤ maxLen) :
  Eff P H ev o (.one (.own t 0 0 sz)) [] [t] [(t,some (.sl E sz true []))]:=by
 intro base a w ι own hown hbase hev hH _ K Q hK
 subst hj
 have hx1:=hev x (by rw [ho]; simp [Op.operands])
 rw [hx] at hx1
 have hy1:=hev y (by rw [ho]; simp [Op.operands])
 rw [hy] at hy1
 have hx2 : a.eval x = .int .i64 0:=((Zai (c:=Cx.young ⟨w,own⟩ base m1)).1 hx1).1
 have hy2 : a.eval y = .int .i64 (c : Int):=((Zai (c:=Cx.young ⟨w,own⟩ base m2)).1 hy1).1
 obtain ⟨z,hE⟩:=elOf_spec hT
 obtain ⟨inf,hi,hzz,hsz,hby⟩:=hE.info
 have hbi : (inf.bytes : Int) * (c : Int) ≤ 281474976710656:=by
  have : ((by_ * c : Nat) : Int) ≤ 281474976710656:=by omega
  rw [hby]; rwa [Int.natCast_mul] at this
 have hr:=run_make (P:=P) w T E inf z hE.sl hi hzz .i64 .i64 0 c oM oM hbi (by simp only [maxLen] at h63; omega)
 simp only [Int.toNat_natCast] at hr
 have hrun : (execOp a.eval o).run P w = .ok (.value (.slice (some ⟨w.heap.size,0,none⟩) 0 c)) (w.alloc (.cells (madeCells z.cells (c * inf.size)) E)):=by
  unfold execOp
  rw [ho]
  simp only [hx2,hy2,Sem.run_bind,hr,Result.andThen_ok,Sem.run_pure]
  rfl
 unfold Oper.wp
 rw [hrun,Oper.upon_value]
 refine hK _ _ _ _ (Chg.fresh (g:=(w.heap.size,0)) hown (Zb3 _ _) (Nat.le_refl _) (by rw [size_new]; omega) ?_ ?_)
 ·exact ⟨_,Zb6 _ _,by simp,fun i e he=>by simp at he⟩
 ·exact ⟨0,c,_,E,by rw [upd_same],.inl (by rw [upd_same,Nat.zero_mul]),Nat.zero_le _,h63,by rw [upd_same]; exact Zb6 _ _,by rw [upd_same,size_madeCells,hsz,Nat.zero_add,Nat.zero_add]; exact Nat.le_refl _⟩
theorem e_make0 {P : Program} {tl : TL} {l : List (Nat × D)} {H : Nat → Option Ob} {o : Oper} {t c sz by_ : Nat} {E T : TypeId} {x y : Operand} {m1 m2 : Bool} {j : Int} (hT : TLOk P tl) (ho : o.op = .makeSlice T x y) (hd : o.dst = some t) (he : elL tl.els T = some (E,sz,by_)) (hx : evO l x = some (.one (.r m1 (int 0)))) (hy : evO l y = some (.one (.r m2 (int j)))) (hj : j = c) (hb : by_ * c ≤ 281474976710656) (h63 : c ≤ maxLen) :
  Eff P H (evD (look l)) o (.one (.own t 0 0 sz)) [] [t] [(t,some (.sl E sz true []))]:=eff_make0 T x y ho (elL_ok hT.el he) (Za hx) (Za hy) hj hb h63
theorem sb_tail (bs : List (List Int)) : AW Try.prog (match (Try.f16).body with | some (.seq _ (.seq _ (.seq _ (.seq _ c))))=>c | _=>.skip) (stB bs) (fun e s=>e = .ret ∧ RetOk Try.prog s [.tmp 2] (.v (.one (row false 1 (rowsI bs))))):=by
 delta Try.f16
 dsimp only
 unfold stB hpB
 have hrl:=(Zan bs).symm
 repeat' (first|refine wk ?_|(refine wkB ?_ ?_<;>intro hg_<;>try exact wkX)|fail)
 all_goals first
  | exact ⟨rfl,(Zab rfl (Z7 (Z5 (Zj rfl) hrl))).2⟩
theorem sim_ren0 {w0 : Bs} {a : Act} {w : World} {ι : Nat → Nat × Nat} {own : Nat → Prop} {n : Nat} {l l' : List (Nat × D)} {h h' : List (Nat × Ob)} (hp0 : ∀ k,w0.pin k = none) (ρ : List (Nat × Nat)) (hi : ((h'.map (·.1)).all fun a=>(h'.map (·.1)).all fun b=>!(Nat.beq (ren ρ a) (ren ρ b)) || Nat.beq a b) = true) (he : SubR ρ (look l) l') (hh : SubHR ρ (lookH h) h') (hs : Sim' w0 (mkS n l h) a w ι own) : Sim' w0 (mkS n l' h') a w (fun k=>ι (ren ρ k)) own:=by
 refine ⟨hs.below,hs.base_,hs.own_,hs.keep,hs.frm,hs.size,fun t=>?_,fun k ob hk=>?_,fun k ob hk=>hs.place _ _ (hh.get k ob hk).1,fun k k' o o' hk hk' heq=>?_,hs.defers,fun k p hp=>by rw [hp0 k] at hp; cases hp⟩
 ·rcases he.get t with h1 | h1
  ·show (look l' t).p _ _ _ _
   rw [h1]; trivial
  ·show (look l' t).p _ _ _ _
   refine D.ren_p ?_
   rw [h1]; exact hs.env t
 ·obtain ⟨h1,_⟩:=hh.get k ob hk
  obtain ⟨g1,g2⟩:=hs.heap _ _ h1
  exact ⟨g1,Ob.ren_p g2⟩
 ·obtain ⟨h1,m1⟩:=hh.get k o hk
  obtain ⟨h2,m2⟩:=hh.get k' o' hk'
  have:=hs.inj _ _ _ _ h1 h2 heq
  simp only [List.all_eq_true,Bool.or_eq_true,Bool.not_eq_true',Nat.beq_eq] at hi
  rcases hi k m1 k' m2 with h | h
  ·rw [this] at h; simp at h
  ·exact h
theorem f_implBodies (s : Sta) (h : s.ok = true) (nv ng nm : Bool) : Fn Try.prog 16 [stateP s.r nv s.vs ng s.gs nm s.ms] (.v (.one (row false 1 (rowsI (ckB s))))) := by
  have hF := Sta.okF h
  have hvl := Zu s.vs
  have hml := Zp s.ms
  have hmany := hF.many
  have hmm := hF.ml
  have hgl := hF.gl
  have hNl := Zb4 hF
  have KV := Zcz s.r nv ng nm s.vs s.gs s.ms (by simp only [maxLen]; omega) (by simp only [maxLen]; omega) (by simp only [maxLen]; omega)
  unfold Sta.ok at h
  rw [h] at KV
  refine ⟨ent_of Try.func16 kRf rfl, fun w vs hG hA => ?_⟩
  refine (callsIn_wide (n := 9)).1 ?_
  refine callsIn_of_wp_marks Try.func16 rfl trivial ?_ rfl
  have hsim := sim_start (fn := Try.f16) Try.ntmps16 rfl hG hA
  simp only [argEnv, P0.d, Nat.reduceAdd, List.map_cons, List.map_nil, stateP] at hsim
  -- the state is boxed
  refine wpIn_seq (wpIn_aw (Q := fun e s' => e = .normal ∧ Weak s' (mkS 25 [(1, .one (.ptr 1 0 0 0))] [(1, .var 28 [.r false (int s.r), .r false (row nv 1 (ints s.vs)), .r false (row ng 1 (bools s.gs)), .r false (row nm 3 (edges s.ms))])])) ?_ hsim ?_)
  · repeat' (first|refine wk ?_|(refine wkB ?_ ?_<;>intro hg_<;>try exact wkX)|fail)
    all_goals first
      | exact ⟨rfl, by (refine Zi [] rfl ?_ ?_ <;>exact wkW)⟩
  rintro e s1 a1 w1 ⟨rfl, hw1⟩ hs1
  replace hs1 := hw1 _ _ _ hs1
  clear hw1 hsim s1
  -- it is valid
  refine wpIn_seq (wpIn_aw (Q := fun e s' => e = .normal ∧ Weak s' (mkS 25 [(1, .one (.ptr 1 0 0 0))] [(1, .var 28 [.r false (int s.r), .r false (row nv 1 (ints s.vs)), .r false (row ng 1 (bools s.gs)), .r false (row nm 3 (edges s.ms))])])) ?_ hs1 ?_)
  · repeat' (first|refine wk ?_|((first|refine' w_q rfl rfl ?xa rfl ?_|refine' v_q rfl rfl ?xa rfl ?_|refine' Zn rfl rfl (Zb rfl) rfl ?xa rfl ?_|refine' Zo rfl rfl (Zb rfl) rfl ?xa rfl ?_);case xa => exact Zm KV rfl ⟨Zq (Za rfl) ⟨Zd, Zd, Zd, Zd, trivial⟩, trivial⟩)|(refine wkB ?_ ?_<;>intro hg_<;>try exact wkX)|fail)
    all_goals first
      | exact ⟨rfl, by (refine Zi [] rfl ?_ ?_ <;>exact wkW)⟩
  rintro e s2 a2 w2 ⟨rfl, hw2⟩ hs2
  replace hs2 := hw2 _ _ _ hs2
  clear hw2 hs1 s2 a1 w1
  -- the row is made
  refine wpIn_seq (wpIn_aw (Q := fun e s' => e = .normal ∧ Weak s' (mkS 25 [(1, .one (.ptr 1 0 0 0)), (3, .one (.ptr 3 0 0 0))] [(1, .var 28 [.r false (int s.r), .r false (row nv 1 (ints s.vs)), .r false (row ng 1 (bools s.gs)), .r false (row nm 3 (edges s.ms))]), (3, .var 22 [.own 16 0 0 1]), (16, .sl 24 1 true [])])) ?_ hs2 ?_)
  · have q1 : IntKind.i64.wrap (((ints s.vs).length : Int) + ((edges s.ms).length : Int)) = ((s.vs.length + s.ms.length : Nat) : Int) := by rw [hvl, hml, IntWalk.i64_in _ oM]; omega
    have q2 : IntKind.i64.wrap (((s.vs.length + s.ms.length : Nat) : Int) + 2) = ((s.vs.length + s.ms.length + 2 : Nat) : Int) := by rw [IntWalk.i64_in _ oM]; omega
    repeat' (first|refine wk ?_|((first|refine' w_e rfl ?xa ?xb ?xc ?xe ?_|refine' v_e rfl ?xa ?xb ?xc ?xe ?_);(case xa => exact e_make0 tlOk rfl rfl rfl rfl rfl (c := s.vs.length + s.ms.length + 2) (by rw [q1, q2]) oM (by simp only [maxLen];omega));(case xb|xc|xe=>rfl);try refine wkD ?_)|(refine wkB ?_ ?_<;>intro hg_<;>try exact wkX)|fail)
    all_goals first
      | exact ⟨rfl, by (refine Zi [] rfl ?_ ?_ <;>exact wkW)⟩
  rintro e s3 a3 w3 ⟨rfl, hw3⟩ hs3
  replace hs3 := hw3 _ _ _ hs3
  clear hw3 hs2 s3 a2 w2
  -- the iterator
  refine wpIn_seq (wpIn_seq (wpIn_region_lit ?_))
  refine (show wpListIn Fence.wide 9 Try.prog _ _ ([_] ++ [_]) _ _ from Zc3 (Z := fun _ => true) (K := fun s' => Weak s' (mkS 25 [(17, .agg [.r false (int s.r), .r false (row nv 1 (ints s.vs)), .r false (row ng 1 (bools s.gs)), .r false (row nm 3 (edges s.ms))]), (3, .one (.ptr 3 0 0 0))] [(3, .var 22 [.own 16 0 0 1]), (16, .sl 24 1 true [])])) [_] (fun s4 a4 w4 hK4 hs4 => ?_) [_] _ ?_ _ _ hs3)
  rotate_left
  · repeat' (first|refine wk ?_|(refine wkB ?_ ?_<;>intro hg_<;>try exact wkX)|fail)
    all_goals first
      | ((refine Zi [] rfl ?_ ?_ <;>exact wkW);done)
  obtain ⟨ι, own, hs⟩ := hK4 _ _ _ hs4
  clear hs4 hK4 hs3 s4
  have h17 := hs.env 17
  obtain ⟨us, e1, e2, e3⟩ : ∃ vs : List Value, a4.tmps.getD 17 undef = .agg vs.toArray ∧ vs.length = 4 ∧ ∀ (j : Nat) (x : Cell), [Cell.r false (int s.r), .r false (row nv 1 (ints s.vs)), .r false (row ng 1 (bools s.gs)), .r false (row nm 3 (edges s.ms))][j]? = some x → ∃ u, vs[j]? = some u ∧ x.p ι w.heap.size ⟨w4, own⟩ u := h17
  match us, e2 with
  | [u0, u1, u2, u3], _ =>
    have r0 : R.p (int s.r) ⟨w4, own⟩ u0 := by obtain ⟨u, hu, hp⟩ := e3 0 _ rfl; injection hu with hu; rw [hu]; exact hp
    have r1 : R.p (row nv 1 (ints s.vs)) ⟨w4, own⟩ u1 := by obtain ⟨u, hu, hp⟩ := e3 1 _ rfl; injection hu with hu; rw [hu]; exact hp
    have r2 : R.p (row ng 1 (bools s.gs)) ⟨w4, own⟩ u2 := by obtain ⟨u, hu, hp⟩ := e3 2 _ rfl; injection hu with hu; rw [hu]; exact hp
    have r3 : R.p (row nm 3 (edges s.ms)) ⟨w4, own⟩ u3 := by obtain ⟨u, hu, hp⟩ := e3 3 _ rfl; injection hu with hu; rw [hu]; exact hp
    clear e3
    refine wpListIn_plain rfl fun K hK => call_op rfl (show a4.eval (.tmp 17) = .agg #[u0, u1, u2, u3] from e1) (ent_of Try.func43 kRf rfl) (implBodiesOf u0 u1 u2 u3 w4) ?_
    rintro e w5 ⟨rfl, hw5⟩
    refine ⟨_, rfl, hK _ _ (wpListIn_nil ?_)⟩
    obtain ⟨a5, ha5⟩ : ∃ a5 : Act, a5 = a4.put (some 18) (.func (.func 75) #[] #[.pointer (some ⟨w4.heap.size, 0, none⟩)]) := ⟨_, rfl⟩
    show (Code.block 0 _).wpIn _ _ _ _ (a4.put (some 18) (.func (.func 75) #[] #[.pointer (some ⟨w4.heap.size, 0, none⟩)])) w5
    rw [← ha5]
    have z5 : w5.heap.size = w4.heap.size + 1 := by rw [hw5]; exact size_new _ _
    have g45 : w4.grownBy w5 none := by rw [hw5]; exact World.grownBy_alloc w4 _ none
    have c5 : w5.heap[w4.heap.size]? = some (.cells #[u0, u1, u2, u3] 28 (0, 0)) := by rw [hw5]; exact Zb6 _ _
    have sz4 : a4.tmps.size = 25 := hs.size
    have sz5 : a5.tmps.size = 25 := by rw [ha5]; show (a4.tmps.setIfInBounds 18 _).size = 25; rw [Array.size_setIfInBounds, sz4]
    have d5 : a5.defers = [] := by rw [ha5]; exact hs.defers
    have hs5 := Sim'.turn (row := none) hs g45 (fun r e => by cases e)
    have hs6 := sim_ren0 (w0 := bs0 w) (l' := [(3, .one (.ptr 1000000000 0 0 0))]) (h' := hpB []) (fun _ => rfl) [(1000000000, 3), (100, 16)] rfl (subR_cons rfl rfl trivial) (Zb2 rfl rfl (Zb2 rfl rfl trivial)) hs5
    generalize (fun k => ι (ren [(1000000000, 3), (100, 16)] k)) = ι6 at hs6
    have hs7 : Sim' (bs0 w) (stB []) { tmps := a5.tmps, defers := [] } w5 ι6 own := by
      refine ⟨hs6.below, hs6.base_, hs6.own_, hs6.keep, hs6.frm, sz5, fun t => ?_, hs6.heap, hs6.place, hs6.inj, rfl, hs6.pin⟩
      have h3 := hs6.env 3
      refine look_env (l := [(3, .one (.ptr 1000000000 0 0 0))]) ⟨?_, trivial⟩ t
      show D.p ι6 w.heap.size ⟨w5, own⟩ (a5.tmps.getD 3 undef) (.one (.ptr 1000000000 0 0 0))
      rw [ha5, put_getD (by decide)]
      exact h3
    have hs8 := hs7.rebase (fun k => if k = 1000000000 then some (ι6 1000000000) else none) (fun k q hq => by
      have hq' : (if k = 1000000000 then some (ι6 1000000000) else none) = some q := hq
      split at hq'
      · rename_i hk
        subst hk
        injection hq' with hq'
        exact ⟨hq', by decide⟩
      · cases hq')
    generalize hp6 : ι6 1000000000 = p at hs8
    obtain ⟨O0, hO0⟩ : ∃ O0, O0 = ownC w5 own := ⟨_, rfl⟩
    have hOw : ∀ b, O0 b → w.heap.size ≤ b ∧ b < w4.heap.size := fun b hb => by
      rw [hO0] at hb
      exact hs.own_ b hb.1
    have hb1 : w.heap.size ≤ w4.heap.size := hs.below.size
    refine wpIn_block ?_
    refine wpIn_rangeRd (n := 9) (b0 := w.heap.size) (fun O pre W => ∃ ι', Sim' (bsR w w5 own p []) (stB (pre.map (·.2))) { tmps := a5.tmps, defers := [] } W ι' O) (fun x => { tmps := (a5.tmps.setIfInBounds 19 x.1).setIfInBounds 4 x.1, defers := [] }) oM (gf := 75) (lb := #[.pointer (some ⟨w4.heap.size, 0, none⟩)]) ?hg (enters_of Try.func75 kRf rfl) (it_seq 8 w4.heap.size w.heap.size s hF nv ng nm) rfl O0 ?hPre oM (fun b hb => ⟨(hOw b hb).1, by have := (hOw b hb).2; omega⟩) ?hI ⟨ι6, by rw [hO0]; exact hs8⟩ ?assign ?body ?done
    case hg =>
      show a5.tmps.getD 18 undef = _
      rw [ha5, put_getD_same oM]
    case hPre =>
      intro W hg
      have hx : Cx.Ext ⟨w4, own⟩ ⟨W, O0⟩ := ⟨Nat.le_trans g45.size hg.size, fun b _ hb => by rw [hO0] at hb; exact hb.1, fun b hb _ => .inl ((hg.block b (Nat.lt_of_lt_of_le hb g45.size) (by simp)).trans (g45.block b hb (by simp)))⟩
      have cW : W.heap[w4.heap.size]? = some (.cells #[u0, u1, u2, u3] 28 (0, 0)) := (hg.block _ oM (by simp)).trans c5
      refine ref_p.2 ⟨w4.heap.size, 0, rfl, by have := hg.size; show w4.heap.size < W.heap.size; omega, fun hb => by have := (hOw _ hb).2; omega, ?_⟩
      have q : ∀ (j : Nat) (u : Value), (#[u0, u1, u2, u3] : Array Value)[j]? = some u → W.cell? ⟨w4.heap.size, 0 + j, none⟩ = some u := fun j u hu => by
        rw [Zcg cW, Nat.zero_add]; exact hu
      intro j r hj
      match j, hj with
      | 0, hj => obtain rfl : int s.r = r := by simpa [P0.rs] using hj
                 exact ⟨u0, q 0 u0 rfl, R.mono _ hx r0⟩
      | 1, hj => obtain rfl : row nv 1 (ints s.vs) = r := by simpa [P0.rs] using hj
                 exact ⟨u1, q 1 u1 rfl, R.mono _ hx r1⟩
      | 2, hj => obtain rfl : row ng 1 (bools s.gs) = r := by simpa [P0.rs] using hj
                 exact ⟨u2, q 2 u2 rfl, R.mono _ hx r2⟩
      | 3, hj => obtain rfl : row nm 3 (edges s.ms) = r := by simpa [P0.rs] using hj
                 exact ⟨u3, q 3 u3 rfl, R.mono _ hx r3⟩
      | j + 4, hj => simp [P0.rs] at hj
    case hI =>
      rintro O pre A B row ⟨ι', hs⟩ hg hr
      exact ⟨ι', hs.turn hg hr⟩
    case assign =>
      intro l x W K hK
      have e19 : (a5.tmps.setIfInBounds 19 x.1).getD 19 undef = x.1 := by simp [sz5]
      refine wpIn_region_lit (wpListIn_plain rfl fun K' hK' => ⟨fun _ _ => trivial, ?_⟩)
      rw [Oper.semAt_plain _ _ _ (fun c h => by cases h)]
      have hrun : ∀ o : Oper, o.op = .assign (.tmp 19) → (execOp (Act.eval { tmps := a5.tmps.setIfInBounds 19 x.1, defers := [] }) o).run Try.prog W = .ok (.value x.1) W := fun o ho => by
        unfold execOp
        rw [ho]
        have e : Act.eval { tmps := a5.tmps.setIfInBounds 19 x.1, defers := [] } (.tmp 19) = x.1 := e19
        simp only [e]
        rfl
      rw [show (Array.zip #[19] #[x.1]).foldl (fun t (p, v) => t.setIfInBounds p v) a5.tmps = a5.tmps.setIfInBounds 19 x.1 from by simp, hrun _ rfl]
      exact hK' _ _ (wpListIn_nil hK)
    case body =>
      rintro l pre x O B ⟨ι', hs⟩ hr hlen
      have hw := sb_round l 7 (w := w) (W2 := w5) (own2 := own) (p := p) (pre.map (·.2)) x.2 (by rw [List.length_map]; omega) hs hr
      refine wpIn_mono hw ?_
      rintro e a' W' ⟨q1, q2, O', q3, q4, q5⟩
      exact ⟨q1, q2, O', by rw [List.map_append]; exact q3, q4, q5⟩
    case done =>
      rintro D O ys W hD hS ⟨ι', hs⟩ hK
      rw [hS] at hs
      have hAW := sb_tail (ckB s)
      have hsD : Sim' (bsR w w5 own p [{ target := .collected D, args := #[] }]) (stB (ckB s)) { tmps := a5.tmps, defers := [{ target := .collected D, args := #[] }] } W ι' O := ⟨⟨hs.below.os, hs.below.tape, hs.below.output, hs.below.size, hs.below.block, hs.below.sized⟩, hs.base_, hs.own_, hs.keep, hs.frm, hs.size, hs.env, hs.heap, hs.place, hs.inj, rfl, hs.pin⟩
      have hrD := hsD.rebase (bsR w w5 own p [{ target := .collected D, args := #[] }]).pin hsD.pin
      have hw := hAW _ _ _ ⟨ι', _, hrD⟩
      rw [d5]
      refine wpIn_mono (wpIn_wide.2 hw) ?_
      rintro e a' W' ⟨s', ⟨rfl, hret⟩, ι'', own', h2⟩
      have h3 := Sim'.back hsD (fun b h => h) h2 h2.defers
      have hK' : W'.heap[D]? = some (.deferred (some [])) := h2.keeps.same D _ hK rfl
      have h4 : Sim (bsR w w5 own p [{ target := .collected D, args := #[] }]) s' a' (W'.putObj D (.deferred none)) := Sim.turn ⟨ι'', own', h3⟩ (grownBy_putObj' W' D _) (fun r e => by cases e; exact ⟨hD, _, hK', rfl⟩)
      obtain ⟨v, g1, g2⟩ := ret_run h4 (fn := Try.f16) rfl hret
      have hd : a'.defers = [{ target := .collected D, args := #[] }] := h3.defers
      show LeavesInM _ _ _ _ _ _ a'.defers _ _
      rw [hd]
      refine ⟨by simp, .inl ⟨_, _, rfl, run_takeDeferred hK', ?_⟩⟩
      refine ⟨v, g1, v, rfl, g2, ?_⟩
      obtain ⟨_, _, h5⟩ := h4
      have hlow := h5.below
      have hB : Below w.heap.size w w5 := hs5.below.below0
      refine hB.trans ⟨hlow.os, hlow.tape, hlow.output, hlow.size, fun k hk => hlow.block k (Nat.lt_of_lt_of_le hk hB.size) (fun h => ?_)⟩
      have h' : own k := h.1
      have := (hs5.own_ k h').1
      have : w.heap.size ≤ k := this
      omega
end Go.Proofs.Ytmkijbfiilpccaa.Abs
