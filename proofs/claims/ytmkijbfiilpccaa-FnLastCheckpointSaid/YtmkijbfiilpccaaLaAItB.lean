/- Records of checkpoints, made by the program. No statement of the seat is proved here. -/
import Derived.Lib.Hide
import Derived.Test.YtmkijbfiilpccaaLaTy
import Derived.Test.YtmkijbfiilpccaaLaARgRd
import Derived.Test.YtmkijbfiilpccaaLaAImC
import Derived.Test.YtmkijbfiilpccaaLaGStaCk
import Derived.Test.YtmkijbfiilpccaaLaASta
set_option linter.unusedSimpArgs false
set_option linter.unusedVariables false
set_option maxRecDepth 100000
set_option maxHeartbeats 8000000
namespace Go.Proofs.Ytmkijbfiilpccaa.Abs
open Go.RowKit
open R (val row ref)
def tagB (tag : Int) (ns : List Int) : List Int:=tag :: ns.flatMap enc
theorem tagB_succ {tag : Int} {ns : List Int} {k : Nat} (h : k < ns.length) : tagB tag (ns.take (k + 1)) = tagB tag (ns.take k) ++ enc ns[k]:=by
 unfold tagB
 rw [List.take_succ_eq_append_getElem h,List.flatMap_append,List.cons_append]
 simp
theorem tagB_len (tag : Int) : ∀ ns : List Int,(tagB tag ns).length ≤ 3 * ns.length + 1
 | []=>by simp [tagB]
 | n :: ns=>by
  have h1:=Za0 n
  have h2:=tagB_len tag ns
  unfold tagB at h2 ⊢
  rw [List.flatMap_cons]
  simp only [List.length_cons,List.length_append] at h2 ⊢
  omega
theorem f_tagged (nil : Bool) (tag : Int) (ns : List Int) (hl : ns.length ≤ 3) (hf : ∀ n ∈ ns,fits n = true) : FnO Try.prog 76 [iP tag,.one (row nil 1 (ints ns))] 3 1 (ints (tagB tag ns)):=by
 have hil:=Zu ns
 have hTl:=(Zu (tagB tag ns)).symm
 refine fn_ofO Try.func76 kRf rfl Try.ntmps76 rfl rfl ?_; simp only [argEnv,P0.d,Nat.reduceAdd,List.map_cons,List.map_nil]
 repeat' (first|refine wk ?_|((first|refine' w_e rfl ?xa ?xb ?xc ?xe ?_|refine' v_e rfl ?xa ?xb ?xc ?xe ?_);(case xa=>exact Zl [.tmp 8] tlOk rfl rfl rfl rfl rfl rfl (Zy rfl) (by simp));(case xb|xc|xe=>rfl);try refine wkD ?_)|(refine wkB ?_ ?_<;>intro hg_<;>try exact wkX)|fail)
 refine Zaa (fun k : Nat=>k ≤ ns.length) (fun k=>mkS 22 [(13,.one (.r true (int k))),(12,.one (.r true (int ns.length))),(11,.one (.r false (row nil 1 (ints ns)))),(5,.one (.ptr 5 0 0 0))] [(5,.var 115 [.own 100 0 (tagB tag (ns.take k)).length 1]),(100,.sl 3 1 true (ints (tagB tag (ns.take k))))]) (fun k=>ns.length - k) 0 (Nat.zero_le _) (by (refine Zi [(100,9)] rfl ?_ ?_<;>repeat' (first|refine wkS ?_ ?_|exact wkE|exact Zt (by rw [hil])))) ?_
 intro k hk
 by_cases hlt : k < ns.length
 ·have hix:=ints_at hlt
  have hfk:=hf ns[k] (List.getElem_mem hlt)
  have hL:=tagB_len tag (ns.take k)
  rw [List.length_take] at hL
  have KP:=f_putO (tagB tag (ns.take k)) ns[k] hfk oM
  rw [← tagB_succ hlt] at KP
  have hw : IntKind.i64.wrap ((k : Int) + 1) = ((k + 1 : Nat) : Int):=by rw [IntWalk.i64_in _ oM]; omega
  generalize ns[k] = z at *
  generalize tagB tag (ns.take k) = X at *
  generalize hY : tagB tag (ns.take (k + 1)) = Y at *
  repeat' (first|refine wk ?_|((first|refine' w_q rfl rfl ?xa rfl ?_|refine' v_q rfl rfl ?xa rfl ?_|refine' Zn rfl rfl (Zb rfl) rfl ?xa rfl ?_|refine' Zo rfl rfl (Zb rfl) rfl ?xa rfl ?_);case xa=>exact Zx tbOk rfl rfl rfl rfl oM (by exact hix))|((first|refine' w_e rfl ?xa ?xb ?xc ?xe ?_|refine' v_e rfl ?xa ?xb ?xc ?xe ?_);(case xa=>exact Ze 18 rfl (Zg [(1000000000,5),(1000001,100),(2000001,501)] KP rfl ⟨Zh (Za rfl),asE,trivial⟩ sbH rfl));(case xb|xc|xe=>rfl);try refine wkD ?_)|(refine wkB ?_ ?_<;>intro hg_<;>try exact wkX)|fail)
  all_goals first
   | exact ⟨k + 1,by omega,by rw [hY];(refine Zi [(100,501)] rfl ?_ ?_<;>repeat' (first|refine wkS ?_ ?_|exact wkE|exact Zt hw)),by omega⟩
 ·obtain rfl : k = ns.length:=by omega
  rw [List.take_length]
  repeat' (first|refine wk ?_|(refine wkB ?_ ?_<;>intro hg_<;>try exact wkX)|fail)
  all_goals first
   | exact Zb8 rfl rfl hTl
end Go.Proofs.Ytmkijbfiilpccaa.Abs
set_option linter.unusedSimpArgs false
set_option linter.unusedVariables false
namespace Go.Proofs.Ytmkijbfiilpccaa.Abs
open Go.RowKit
open R (val row ref)
open Go.RowKit
theorem rcH_tag (s : Sta) : rcH s = tagB 1 [s.r,(s.vs.length : Int),(s.ms.length : Int)]:=by simp [rcH,tagB]
theorem rcV_tag (v : Int) (g : Bool) : rcV v g = tagB 2 [v + 1] ++ [b01 g]:=by simp [rcV,tagB]
theorem rcM_tag {m : E3} (h1 : fits m.1 = true) (h2 : fits m.2.1 = true) (h3 : fits m.2.2 = true) : rcM m = tagB 3 [m.1,m.2.1,m.2.2]:=by
 unfold rcM edgeB
 rw [if_pos (by simp [h1,h2,h3])]
 simp [tagB]
theorem iw_yieldK {J : (Nat → Prop) → List (Value × List Int) → World → Prop} {b0 n N l : Nat} {P : Program} (k : Nat) {id : Nat} {L : List Oper} {oy : Oper} {t1 t2 td nn : Nat} {nf : Bool} {tys : Array TypeId} {s : St} {pre : List (List Int)} {env : List (Nat × D)} (rec : List Int) {Q : Exit → St → List (List Int) → Prop}
  (hY : YieldsRd n P l b0 N J) (hk : L[k]? = some oy) (ho : oy.op = .call { callee:=.value (.tmp t1),args:=#[.tmp t2],argTypes:=tys }) (hg : oy.guard = none) (hd : oy.dst = some td) (hpl : PlainE env) (hlen : pre.length < N) (htd : td < nn) (hne : t2 ≠ t1) (h1e : t1 ≠ td) (h2e : t2 ≠ td) (hfree : ∀ p ∈ env,p.1 ≠ t1 ∧ p.1 ≠ t2)
  (hW : W P L.toArray (fun _=>true) (L.take k) s none (fun s'=>Weak s' (mkS nn ((t1,.one (.r nf (R.val (.func (.yield l) #[] #[])))) :: (t2,.one (.r true (row false 1 (ints rec)))) :: env) [])))
  (hW2 : W P L.toArray (fun _=>true) (L.drop (k + 1)) (mkS nn ((td,.one (.r true (bool true))) :: env) []) none (fun s'=>Q .normal s' (pre ++ [rec]))) : IW J b0 n P (.region id L.toArray false) s pre Q:=by
 obtain ⟨h,e⟩:=List.getElem?_eq_some_iff.1 hk
 have hL : L = L.take k ++ oy :: L.drop (k + 1):=by
  rw [← e,← List.drop_eq_getElem_cons h,List.take_append_drop]
 exact iw_yield (rec:=rec) hY hL ho hg hd hpl hlen htd hne h1e h2e hW hW2 hfree
theorem Zcf {a b c : St} (h1 : Weak a b) (h2 : Weak b c) : Weak a c:=fun w0 x w h=>h2 w0 x w (h1 w0 x w h)
theorem Zck {k sz n : Nat} {new : Bool} {els : List P0} (hn : n = els.length) : frC k sz new els (.own k 0 n sz) = .r new (row false sz els):=by
 subst hn
 have h1 : Nat.beq k k = true:=Nat.beq_refl k
 have h2 : Nat.beq sz sz = true:=Nat.beq_refl sz
 have h3 : Nat.ble (0 + els.length) els.length = true:=by simp
 show (bif Nat.beq k k then (bif (Nat.beq sz sz && Nat.ble (0 + els.length) els.length) then Cell.r new (row false sz ((els.drop 0).take els.length)) else .any) else _) = _
 rw [h1,h2,h3,List.drop_zero,List.take_of_length_le (Nat.le_refl _)]
 rfl
noncomputable abbrev itBody : Code:=match (Try.f75).body with | some c=>c | _=>.skip
theorem it_walk {J : (Nat → Prop) → List (Value × List Int) → World → Prop} {b0 n N l : Nat} (s : Sta) (hF : OkF s) (nv ng nm : Bool) (hN : (ckB s).length ≤ N) (hY : YieldsRd n Try.prog l b0 N J) :
  IW J b0 n Try.prog itBody (mkS 67 [(0,.one (.r false (R.val (.func (.yield l) #[] #[])))),(1,.one (.r false (R.ref (.agg [int s.r,row nv 1 (ints s.vs),row ng 1 (bools s.gs),row nm 3 (edges s.ms)]))))] []) [] (fun e _ pre=>(e = .ret ∨ e = .normal) ∧ pre = ckB s):=by
 have hvl:=Zu s.vs
 have hml:=Zp s.ms
 have hr0:=hF.r0
 have hr1:=hF.r1
 have hmany:=hF.many
 have hmm:=hF.ml
 have hNl:=Zb4 hF
 have K1:=f_tagged false 1 [s.r,(s.vs.length : Int),(s.ms.length : Int)] (by simp) (by intro z hz; simp only [List.mem_cons,List.not_mem_nil,or_false] at hz; rw [Zco]; omega)
 rw [← rcH_tag,← hvl,← hml] at K1
 have l1:=(Zu (rcH s)).symm
 unfold itBody
 delta Try.f75
 dsimp only
 refine Zbc (Zbc (iw_yieldK 11 (nn:=67) (nf:=false) (env:=[(0,.one (.r false (R.val (.func (.yield l) #[] #[])))),(1,.one (.r false (R.ref (.agg [int s.r,row nv 1 (ints s.vs),row ng 1 (bools s.gs),row nm 3 (edges s.ms)]))))]) (rcH s) hY rfl rfl rfl rfl trivial (by simp; omega) (by decide) (by decide) (by decide) (by decide) (by simp) ?_ ?_))
 ·simp only [List.take_succ_cons,List.take_zero]
  repeat' (first|refine wk ?_|((first|refine' w_e rfl ?xa ?xb ?xc ?xe ?_|refine' v_e rfl ?xa ?xb ?xc ?xe ?_);(case xa=>first|exact Zl [.tmp 10,.tmp 13,.tmp 16] tlOk rfl rfl rfl rfl rfl rfl (allN_3 rfl rfl rfl) (by simp)|exact Zbe K1 rfl rfl ⟨Zf (Za rfl),by rw [Za rfl];exact Zaf (Zj rfl) rfl,trivial⟩);(case xb|xc|xe=>rfl);try refine wkD ?_)|(refine wkB ?_ ?_<;>intro hg_<;>try exact wkX)|fail)
  refine Zcf (Za9 18 rfl) ?_
  (refine Zi [] rfl ?_ ?_<;>repeat' (first|refine wkS ?_ ?_|exact wkE|exact congrArg D.one (Zck rfl)))
 simp only [List.drop_succ_cons,List.drop_zero]
 repeat' (first|refine wk ?_|(refine wkB ?_ ?_<;>intro hg_<;>try exact wkX)|fail)
 refine Zbi ?_
 repeat' (first|refine wk ?_|(refine wkB ?_ ?_<;>intro hg_<;>try exact wkX)|fail)
 refine Zbc (Zbc (Zbi ?_))
 repeat' (first|refine wk ?_|(refine wkB ?_ ?_<;>intro hg_<;>try exact wkX)|fail)
 -- the values
 refine iw_block (iw_loop (β:={ k : Nat // k ≤ s.vs.length }) (fun k=>mkS 67 [(24,.one (.r true (int (k.1 : Nat)))),(23,.one (.r true (int s.vs.length))),(22,.one (.r false (row nv 1 (ints s.vs)))),(0,.one (.r false (R.val (.func (.yield l) #[] #[])))),(1,.one (.r false (R.ref (.agg [int s.r,row nv 1 (ints s.vs),row ng 1 (bools s.gs),row nm 3 (edges s.ms)]))))] []) (fun k=>rcH s :: (List.zipWith rcV s.vs s.gs).take k.1) (fun k=>s.vs.length - k.1) ⟨0,Nat.zero_le _⟩ (by (refine Zi [] rfl ?_ ?_<;>repeat' (first|refine wkS ?_ ?_|exact wkE|exact Zt (by rw [hvl])))) (by simp) ?_)
 ·rintro ⟨k,hk⟩
  dsimp only
  by_cases hlt : k < s.vs.length
  ·have hlg : k < s.gs.length:=by rw [hF.gl]; exact hlt
   have hix:=ints_at hlt
   have hig:=bools_at hlg
   have hv:=hF.vin s.vs[k] (List.getElem_mem hlt)
   have hT : (List.zipWith rcV s.vs s.gs).take (k + 1) = (List.zipWith rcV s.vs s.gs).take k ++ [rcV s.vs[k] s.gs[k]]:=by
    rw [List.take_succ_eq_append_getElem (by simp; omega),List.getElem_zipWith]
   have K2:=f_tagged false 2 [s.vs[k] + 1] (by simp) (by intro z hz; simp only [List.mem_cons,List.not_mem_nil,or_false] at hz; rw [Zco]; omega)
   have hR:=rcV_tag s.vs[k] s.gs[k]
   have l2:=(Zu (tagB 2 [s.vs[k] + 1])).symm
   have l3:=tagB_len 2 [s.vs[k] + 1]
   simp only [List.length_cons,List.length_nil] at l3
   have hw : IntKind.i64.wrap ((k : Int) + 1) = ((k + 1 : Nat) : Int):=by rw [IntWalk.i64_in _ oM]; omega
   have hw2 : IntKind.i64.wrap (s.vs[k] + 1) = s.vs[k] + 1:=IntWalk.i64_in _ oM
   have hpl : (rcH s :: (List.zipWith rcV s.vs s.gs).take k).length < N:=by simp; omega
   have hRI : ints (rcV s.vs[k] s.gs[k]) = ints (tagB 2 [s.vs[k] + 1]) ++ [P0.one (int (b01 s.gs[k]))]:=by rw [hR]; unfold ints; rw [List.map_append]; rfl
   clear hR
   generalize hp0 : (List.zipWith rcV s.vs s.gs).take k = pre at *
   clear hp0
   generalize s.vs[k] = v at *
   generalize s.gs[k] = g at *
   generalize hq : rcV v g = rv at *
   clear hq
   generalize tagB 2 [v + 1] = tb at *
   refine Zbc (Zbi ?_)
   repeat' (first|refine wk ?_|(refine wkB ?_ ?_<;>intro hg_<;>try exact wkX)|fail)
   refine Zbc (Zbi ?_)
   repeat' (first|refine wk ?_|(refine wkB ?_ ?_<;>intro hg_<;>try exact wkX)|fail)
   refine Zbc (iw_block (Zbc (Zbi ?_)))
   repeat' (first|refine wk ?_|((first|refine' w_q rfl rfl ?xa rfl ?_|refine' v_q rfl rfl ?xa rfl ?_|refine' Zn rfl rfl (Zb rfl) rfl ?xa rfl ?_|refine' Zo rfl rfl (Zb rfl) rfl ?xa rfl ?_);case xa=>exact Zx tbOk rfl rfl rfl rfl oM (by exact hix))|(refine wkB ?_ ?_<;>intro hg_<;>try exact wkX)|fail)
   refine Zbc (Zbi ?_)
   repeat' (first|refine wk ?_|(refine wkB ?_ ?_<;>intro hg_<;>try exact wkX)|fail)
   refine Zbc (Zbi ?_)
   cases g<;>simp only [b01,if_true,if_false,Bool.false_eq_true] at hRI
   all_goals
    repeat' (first|refine wk ?_|((first|refine' w_q rfl rfl ?xa rfl ?_|refine' v_q rfl rfl ?xa rfl ?_|refine' Zn rfl rfl (Zb rfl) rfl ?xa rfl ?_|refine' Zo rfl rfl (Zb rfl) rfl ?xa rfl ?_);case xa=>exact Zx tbOk rfl rfl rfl rfl oM (by exact hig))|(refine wkB ?_ ?_<;>intro hg_<;>try exact wkX)|fail)
    refine Zbc (iw_yieldK 8 (nn:=67) (nf:=false) (env:=[(24,.one (.r true (int (k : Nat)))),(23,.one (.r true (int s.vs.length))),(22,.one (.r false (row nv 1 (ints s.vs)))),(0,.one (.r false (R.val (.func (.yield l) #[] #[])))),(1,.one (.r false (R.ref (.agg [int s.r,row nv 1 (ints s.vs),row ng 1 (bools s.gs),row nm 3 (edges s.ms)]))))]) rv hY rfl rfl rfl rfl trivial hpl (by decide) (by decide) (by decide) (by decide) (by simp) ?_ ?_)
    case refine_1 =>
     rw [hRI]
     simp only [List.take_succ_cons,List.take_zero]
     repeat' (first|refine wk ?_|((first|refine' w_e rfl ?xa ?xb ?xc ?xe ?_|refine' v_e rfl ?xa ?xb ?xc ?xe ?_);(case xa=>first|exact Zl [.tmp 36] tlOk rfl rfl rfl rfl rfl rfl (Zy rfl) (by simp)|exact Zl [.tmp 39] tlOk rfl rfl rfl rfl rfl rfl (Zy rfl) (by simp)|exact Zbe K2 rfl rfl ⟨Zf (Za rfl),by rw [Za rfl];rw [hw2];exact Zaf (Zj rfl) rfl,trivial⟩|exact Zw tlOk rfl rfl rfl rfl rfl rfl (Z6 (Z0 (Zj rfl) rfl) (by simp [plain1,iP])) (by first|rfl|(simp only [List.length_append];done)) (by simp only [maxLen,List.length_append,List.length_cons,List.length_nil];omega) (by (try simp only [List.length_append,List.length_cons,List.length_nil]);omega));(case xb|xc|xe=>rfl);try refine wkD ?_)|(refine wkB ?_ ?_<;>intro hg_<;>try exact wkX)|fail)
     all_goals first
      | exact Zcf (Za9 41 rfl) (by (refine Zi [] rfl ?_ ?_<;>repeat' (first|refine wkS ?_ ?_|exact wkE|exact congrArg D.one (Zck (by simp)))))
    case refine_2 =>
     simp only [List.drop_succ_cons,List.drop_zero]
     repeat' (first|refine wk ?_|(refine wkB ?_ ?_<;>intro hg_<;>try exact wkX)|fail)
     refine Zbi ?_
     repeat' (first|refine wk ?_|(refine wkB ?_ ?_<;>intro hg_<;>try exact wkX)|fail)
     refine Zbi ?_
     repeat' (first|refine wk ?_|(refine wkB ?_ ?_<;>intro hg_<;>try exact wkX)|fail)
     all_goals first
      | exact ⟨⟨k + 1,by omega⟩,by (refine Zi [] rfl ?_ ?_<;>repeat' (first|refine wkS ?_ ?_|exact wkE|exact Zt hw)),by dsimp only;rw [hT];rfl,by dsimp only;omega⟩
  ·obtain rfl : k = s.vs.length:=by omega
   rw [List.take_of_length_le (by simp; omega)]
   refine Zbc (Zbi ?_)
   repeat' (first|refine wk ?_|(refine wkB ?_ ?_<;>intro hg_<;>try exact wkX)|fail)
   refine Zbc (Zbi ?_)
   repeat' (first|refine wk ?_|(refine wkB ?_ ?_<;>intro hg_<;>try exact wkX)|fail)
   simp only [ThnI,BlkI,if_true]
   refine Zbc (Zbc (Zbi ?_))
   repeat' (first|refine wk ?_|(refine wkB ?_ ?_<;>intro hg_<;>try exact wkX)|fail)
   -- the messages
   refine iw_block (iw_loop (β:={ k : Nat // k ≤ s.ms.length }) (fun k=>mkS 67 [(48,.one (.r true (int (k.1 : Nat)))),(47,.one (.r true (int s.ms.length))),(46,.one (.r false (row nm 3 (edges s.ms)))),(0,.one (.r false (R.val (.func (.yield l) #[] #[])))),(1,.one (.r false (R.ref (.agg [int s.r,row nv 1 (ints s.vs),row ng 1 (bools s.gs),row nm 3 (edges s.ms)]))))] []) (fun k=>rcH s :: (List.zipWith rcV s.vs s.gs ++ (s.ms.map rcM).take k.1)) (fun k=>s.ms.length - k.1) ⟨0,Nat.zero_le _⟩ (by (refine Zi [] rfl ?_ ?_<;>repeat' (first|refine wkS ?_ ?_|exact wkE|exact Zt (by rw [hml])))) (by simp) ?_)
   rintro ⟨k,hk⟩
   dsimp only
   by_cases hlt : k < s.ms.length
   ·have hix:=Zbq hlt
    have hm:=hF.min s.ms[k] (List.getElem_mem hlt)
    have hT : (s.ms.map rcM).take (k + 1) = (s.ms.map rcM).take k ++ [rcM s.ms[k]]:=by
     rw [List.take_succ_eq_append_getElem (by simp; omega),List.getElem_map]
    have g1 : fits s.ms[k].1 = true:=by rw [Zco]; omega
    have g2 : fits s.ms[k].2.1 = true:=by rw [Zco]; omega
    have g3 : fits s.ms[k].2.2 = true:=by rw [Zco]; omega
    have K2:=f_tagged false 3 [s.ms[k].1,s.ms[k].2.1,s.ms[k].2.2] (by simp) (by intro z hz; simp only [List.mem_cons,List.not_mem_nil,or_false] at hz; rcases hz with rfl | rfl | rfl<;>assumption)
    rw [← rcM_tag g1 g2 g3] at K2
    have hw : IntKind.i64.wrap ((k : Int) + 1) = ((k + 1 : Nat) : Int):=by rw [IntWalk.i64_in _ oM]; omega
    have hpl : (rcH s :: (List.zipWith rcV s.vs s.gs ++ (s.ms.map rcM).take k)).length < N:=by simp; omega
    clear g1 g2 g3 hm
    generalize hp0 : List.zipWith rcV s.vs s.gs = pv at *
    clear hp0
    generalize (s.ms.map rcM).take k = pre at *
    generalize hq : rcM s.ms[k] = rv at *
    clear hq
    generalize s.ms[k] = e at *
    obtain ⟨m1,m2,m3⟩:=e
    dsimp only at K2 hix
    refine Zbc (Zbi ?_)
    repeat' (first|refine wk ?_|(refine wkB ?_ ?_<;>intro hg_<;>try exact wkX)|fail)
    refine Zbc (Zbi ?_)
    repeat' (first|refine wk ?_|(refine wkB ?_ ?_<;>intro hg_<;>try exact wkX)|fail)
    refine Zbc (iw_block (Zbc (Zbi ?_)))
    repeat' (first|refine wk ?_|((first|refine' w_q rfl rfl ?xa rfl ?_|refine' v_q rfl rfl ?xa rfl ?_|refine' Zn rfl rfl (Zb rfl) rfl ?xa rfl ?_|refine' Zo rfl rfl (Zb rfl) rfl ?xa rfl ?_);case xa=>exact Zx tbOk rfl rfl rfl rfl oM (by exact hix))|(refine wkB ?_ ?_<;>intro hg_<;>try exact wkX)|fail)
    refine Zbc (iw_yieldK 9 (nn:=67) (nf:=false) (env:=[(48,.one (.r true (int (k : Nat)))),(47,.one (.r true (int s.ms.length))),(46,.one (.r false (row nm 3 (edges s.ms)))),(0,.one (.r false (R.val (.func (.yield l) #[] #[])))),(1,.one (.r false (R.ref (.agg [int s.r,row nv 1 (ints s.vs),row ng 1 (bools s.gs),row nm 3 (edges s.ms)]))))]) rv hY rfl rfl rfl rfl trivial hpl (by decide) (by decide) (by decide) (by decide) (by simp) ?_ ?_)
    ·simp only [List.take_succ_cons,List.take_zero]
     repeat' (first|refine wk ?_|((first|refine' w_e rfl ?xa ?xb ?xc ?xe ?_|refine' v_e rfl ?xa ?xb ?xc ?xe ?_);(case xa=>first|exact Zl [.tmp 54,.tmp 56,.tmp 58] tlOk rfl rfl rfl rfl rfl rfl (allN_3 rfl rfl rfl) (by simp)|exact Zbe K2 rfl rfl ⟨Zf (Za rfl),by rw [Za rfl];exact Zaf (Zj rfl) rfl,trivial⟩);(case xb|xc|xe=>rfl);try refine wkD ?_)|(refine wkB ?_ ?_<;>intro hg_<;>try exact wkX)|fail)
     all_goals first
      | exact Zcf (Za9 60 rfl) (by (refine Zi [] rfl ?_ ?_<;>repeat' (first|refine wkS ?_ ?_|exact wkE|exact congrArg D.one (Zck rfl))))
    ·simp only [List.drop_succ_cons,List.drop_zero]
     repeat' (first|refine wk ?_|(refine wkB ?_ ?_<;>intro hg_<;>try exact wkX)|fail)
     refine Zbi ?_
     repeat' (first|refine wk ?_|(refine wkB ?_ ?_<;>intro hg_<;>try exact wkX)|fail)
     refine Zbi ?_
     repeat' (first|refine wk ?_|(refine wkB ?_ ?_<;>intro hg_<;>try exact wkX)|fail)
     all_goals first
      | exact ⟨⟨k + 1,by omega⟩,by (refine Zi [] rfl ?_ ?_<;>repeat' (first|refine wkS ?_ ?_|exact wkE|exact Zt hw)),by dsimp only;rw [hT,← List.append_assoc];rfl,by dsimp only;omega⟩
   ·obtain rfl : k = s.ms.length:=by omega
    rw [List.take_of_length_le (by simp)]
    have K4:=f_tagged true 4 [] (by simp) (by simp)
    refine Zbc (Zbi ?_)
    repeat' (first|refine wk ?_|(refine wkB ?_ ?_<;>intro hg_<;>try exact wkX)|fail)
    refine Zbc (Zbi ?_)
    repeat' (first|refine wk ?_|(refine wkB ?_ ?_<;>intro hg_<;>try exact wkX)|fail)
    simp only [ThnI,BlkI,if_true]
    refine iw_yieldK 2 (nn:=67) (nf:=false) (env:=[]) [4] hY rfl rfl rfl rfl trivial (by simp; omega) (by decide) (by decide) (by decide) (by decide) (by simp) ?_ ?_
    ·simp only [List.take_succ_cons,List.take_zero]
     repeat' (first|refine wk ?_|((first|refine' w_e rfl ?xa ?xb ?xc ?xe ?_|refine' v_e rfl ?xa ?xb ?xc ?xe ?_);(case xa=>exact Zbe K4 rfl rfl ⟨Zf (Za rfl),by rw [Za rfl];exact Zav,trivial⟩);(case xb|xc|xe=>rfl);try refine wkD ?_)|(refine wkB ?_ ?_<;>intro hg_<;>try exact wkX)|fail)
     all_goals first
      | exact Zcf (Za9 65 rfl) (by (refine Zi [] rfl ?_ ?_<;>repeat' (first|refine wkS ?_ ?_|exact wkE|exact congrArg D.one (Zck rfl))))
    ·simp only [List.drop_succ_cons,List.drop_zero]
     repeat' (first|refine wk ?_|(refine wkB ?_ ?_<;>intro hg_<;>try exact wkX)|fail)
     all_goals first
      | exact ⟨.inr trivial,by unfold ckB; simp⟩
end Go.Proofs.Ytmkijbfiilpccaa.Abs
