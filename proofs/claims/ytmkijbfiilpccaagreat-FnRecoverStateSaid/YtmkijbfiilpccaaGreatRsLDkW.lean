/- Draws by states: disks, services. No statement of the seat is proved here. -/
import Derived.Lib.Hide
import Derived.Test.YtmkijbfiilpccaaGreatRsTy
import Derived.Test.YtmkijbfiilpccaaGreatRsASpCD
import Derived.Test.YtmkijbfiilpccaaGreatRsAScanJ
import Derived.Test.YtmkijbfiilpccaaGreatRsAConc
import Derived.Test.YtmkijbfiilpccaaGreatRsADrF
import Derived.Test.YtmkijbfiilpccaaGreatRsALawG
set_option linter.unusedSimpArgs false
set_option linter.unusedVariables false
set_option maxRecDepth 100000
set_option maxHeartbeats 8000000
namespace Go.Proofs.YtmkijbfiilpccaaGreat.Abs
open Go.RowKit
open R (val row ref)
noncomputable def drD (bs : List Int) (p n : Int) : List Int × List Int × Int :=
 let A:=drF bs p
 let B:=drF bs A.2
 let S:=if oddV bs B.2 9 = true then List.replicate 1950 0 else A.1
 if oddV bs (B.2 + 1) n = true then
  if pickV bs (B.2 + 1 + 1) 2 = 0 then (S,B.1 ++ [dV [-1,256] (pickV bs (B.2 + 1 + 1 + 1) 2)],B.2 + 1 + 1 + 1 + 1) else (List.replicate 2001 0,B.1,B.2 + 1 + 1 + 1)
 else (S,B.1,B.2 + 1 + 1)
theorem drD_bd (bs : List Int) (p n : Int) : (drD bs p n).1.length ≤ 2501 ∧ (drD bs p n).2.1.length ≤ 2501 ∧ p ≤ (drD bs p n).2.2 ∧ (drD bs p n).2.2 ≤ p + 700:=by
 have h1:=drF_bd bs p
 have h2:=drF_bd bs (drF bs p).2
 unfold drD
 dsimp only
 generalize drF bs (drF bs p).2 = B at *
 generalize drF bs p = A at *
 have hS : (if oddV bs B.2 9 = true then List.replicate 1950 (0 : Int) else A.1).length ≤ 2501:=by
  split
  ·rw [List.length_replicate]; omega
  ·omega
 split
 ·split
  ·simp only [List.length_append,List.length_cons,List.length_nil]; omega
  ·simp only [List.length_replicate]; omega
 ·dsimp only; omega
theorem agg2 {a b a' b' : Cell} (h1 : a = a') (h2 : b = b') : D.agg [a,b] = .agg [a',b']:=by rw [h1,h2]
theorem f_l20Disk {bs : List Int} (p n : Int) (hn : 0 < n) (hn2 : n ≤ 1000000) (hB : Byte bs) (hl : bs.length ≤ 2000) (hp0 : 0 ≤ p) (hp : p ≤ 700000) (m1 m2 nb : Bool) :
  FnS Tryz.prog 23 [.one (.ptr 1000000000 0 0 0),.one (.r false (int n))] (rdH 1000000000 m1 m2 nb bs p) (.agg [.own 2000001 0 (drD bs p n).1.length 1,.own 2000002 0 (drD bs p n).2.1.length 1]) (rdH 1000000000 m1 true nb bs (drD bs p n).2.2 ++ [(2000001,.sl 3 1 true (ints (drD bs p n).1)),(2000002,.sl 3 1 true (ints (drD bs p n).2.1))]):=by
 obtain ⟨DR,hDR⟩ : ∃ x,x = drD bs p n:=⟨_,rfl⟩
 rw [← hDR]
 unfold drD at hDR
 dsimp only at hDR
 have K1:=f_l20Frames p hB hl hp0 oM m1 m2 nb
 have h1:=drF_bd bs p
 generalize drF bs p = A at *
 obtain ⟨A,q1⟩:=A
 dsimp only at h1 hDR K1
 have K2:=f_l20Frames q1 hB hl oM oM m1 true nb
 have h2:=drF_bd bs q1
 generalize drF bs q1 = B at *
 obtain ⟨B,q2⟩:=B
 dsimp only at h2 hDR K2
 have K3:=f_odd q2 9 oM oM hB hl oM oM m1 true nb
 have K4:=f_odd (q2 + 1) n hn hn2 hB hl oM oM m1 true nb
 have K5:=Za9 (q2 + 1 + 1) 2 hB hl oM oM m1 true nb
 have K6:=Za9 (q2 + 1 + 1 + 1) 2 hB hl oM oM m1 true nb
 have hv:=Zav bs (q2 + 1 + 1 + 1) 2
 generalize oddV bs q2 9 = o1 at *
 generalize oddV bs (q2 + 1) n = o2 at *
 generalize pickV bs (q2 + 1 + 1 + 1) 2 = v2 at *
 generalize pickV bs (q2 + 1 + 1) 2 = v1 at *
 have hlA:=(Zr A).symm
 have hlB:=(Zr B).symm
 unfold rdH at *
 have hR : ∀ k : Nat,List.replicate k (iP 0) = ints (List.replicate k 0):=ints_rep0
 have hfin : DR = DR:=rfl
 by_cases hv1 : v1 = 0
 ·cases o1<;>cases o2
  all_goals
   (try simp only [if_true,if_false,Bool.false_eq_true,hv1] at hDR)
   subst hDR
   (try subst hv1)
   refine Zab (l:=[.cell 4 28]) Tryz.func23 kRf rfl Tryz.ntmps23 rfl rfl ?_; simp only [dEnv,Nat.reduceAdd]
   (try dsimp only)
   repeat' (first|refine wk ?_|((first|refine' w_q rfl rfl ?xa rfl ?_|refine' v_q rfl rfl ?xa rfl ?_|refine' Zm rfl rfl (Zd rfl) rfl ?xa rfl ?_|refine' Zo rfl rfl (Zd rfl) rfl ?xa rfl ?_);case xa=>first|exact Zau tbOk rfl rfl rfl rfl oM (by simp only [List.length_cons,List.length_nil];omega)|exact Zaf (xs:=[-1,256]) tbOk rfl rfl rfl rfl (by simp only [List.length_cons,List.length_nil];omega))|((first|refine' w_e rfl ?xa ?xb ?xc ?xe ?_|refine' v_e rfl ?xa ?xb ?xc ?xe ?_);(case xa=>first|exact Ze 7 rfl (Zh [(2000001,501)] K1 rfl ⟨Zi (Za rfl),trivial⟩ sbH rfl)|exact Ze 9 rfl (Zh [(2000001,502)] K2 rfl ⟨Zi (Za rfl),trivial⟩ sbH rfl)|exact Ze 12 rfl (Zh [] K3 rfl ⟨Zi (Za rfl),asE,trivial⟩ sbH rfl)|exact Ze 17 rfl (Zh [] K4 rfl ⟨Zi (Za rfl),asE,trivial⟩ sbH rfl)|exact Ze 19 rfl (Zh [] K5 rfl ⟨Zi (Za rfl),asE,trivial⟩ sbH rfl)|exact Ze 25 rfl (Zh [] K6 rfl ⟨Zi (Za rfl),asE,trivial⟩ sbH rfl)|exact Ze 13 rfl (e_make tlOk rfl rfl rfl rfl rfl rfl (c:=1950) rfl rfl oM (by simp only [maxLen];omega))|exact Ze 23 rfl (Zp [.const (.int .i64 (-1)),.const (.int .i64 256)] tlOk rfl rfl rfl rfl rfl rfl (Zbc [-1,256]) (by simp))|exact Zp [.tmp 27] tlOk rfl rfl rfl rfl rfl rfl (Z7 rfl) (by simp)|exact Zw tlOk rfl rfl rfl rfl rfl rfl (Z4 (Z6 (Zk rfl) rfl) (by simp [plain1,iP])) hlB (by simp only [maxLen,List.length_append,List.length_cons,List.length_nil];omega) (by (try simp only [List.length_append,List.length_cons,List.length_nil]);omega));(case xb|xc|xe=>rfl);try refine wkD ?_)|(refine wkB ?_ ?_<;>intro hg_<;>try exact wkX)|fail)
   all_goals first
    | (exfalso; omega)
    | exact Zx [(2000001,501),(2000002,502)] rfl sbH (Zat rfl rfl tyF0 rfl rfl rfl (Z9 rfl))
    | exact Zx [(2000001,13),(2000002,502)] rfl (by (repeat' (first|exact trivial|refine Zbm rfl ?_ ?_|rfl|exact Zv rfl (hR _)))) (Zat rfl rfl tyF0 rfl rfl rfl (Z9 (agg2 (Zcj (by rw [List.length_replicate])) rfl)))
    | exact Zx [(2000001,501),(2000002,29)] rfl (by (repeat' (first|exact trivial|refine Zbm rfl ?_ ?_|rfl|exact Zv rfl (by rw [Zb3,Nat.zero_add]<;>rfl)))) (Zat rfl rfl tyF0 rfl rfl rfl (Z9 (agg2 rfl (Zcj (by simp only [List.length_append,List.length_cons,List.length_nil,Zr])))))
    | exact Zx [(2000001,13),(2000002,29)] rfl (by (repeat' (first|exact trivial|refine Zbm rfl ?_ ?_|rfl|exact Zv rfl (hR _)|exact Zv rfl (by rw [Zb3,Nat.zero_add]<;>rfl)))) (Zat rfl rfl tyF0 rfl rfl rfl (Z9 (agg2 (Zcj (by rw [List.length_replicate])) (Zcj (by simp only [List.length_append,List.length_cons,List.length_nil,Zr])))))
 ·cases o1<;>cases o2
  all_goals
   (try simp only [if_true,if_false,Bool.false_eq_true,hv1] at hDR)
   subst hDR
   refine Zab (l:=[.cell 4 28]) Tryz.func23 kRf rfl Tryz.ntmps23 rfl rfl ?_; simp only [dEnv,Nat.reduceAdd]
   (try dsimp only)
   repeat' (first|refine wk ?_|((first|refine' w_e rfl ?xa ?xb ?xc ?xe ?_|refine' v_e rfl ?xa ?xb ?xc ?xe ?_);(case xa=>first|exact Ze 7 rfl (Zh [(2000001,501)] K1 rfl ⟨Zi (Za rfl),trivial⟩ sbH rfl)|exact Ze 9 rfl (Zh [(2000001,502)] K2 rfl ⟨Zi (Za rfl),trivial⟩ sbH rfl)|exact Ze 12 rfl (Zh [] K3 rfl ⟨Zi (Za rfl),asE,trivial⟩ sbH rfl)|exact Ze 17 rfl (Zh [] K4 rfl ⟨Zi (Za rfl),asE,trivial⟩ sbH rfl)|exact Ze 19 rfl (Zh [] K5 rfl ⟨Zi (Za rfl),asE,trivial⟩ sbH rfl)|exact Ze 13 rfl (e_make tlOk rfl rfl rfl rfl rfl rfl (c:=1950) rfl rfl oM (by simp only [maxLen];omega))|exact Ze 31 rfl (e_make tlOk rfl rfl rfl rfl rfl rfl (c:=2001) rfl rfl oM (by simp only [maxLen];omega)));(case xb|xc|xe=>rfl);try refine wkD ?_)|(refine wkB ?_ ?_<;>intro hg_<;>try exact wkX)|fail)
   all_goals first
    | (exfalso; omega)
    | exact Zx [(2000001,501),(2000002,502)] rfl sbH (Zat rfl rfl tyF0 rfl rfl rfl (Z9 rfl))
    | exact Zx [(2000001,13),(2000002,502)] rfl (by (repeat' (first|exact trivial|refine Zbm rfl ?_ ?_|rfl|exact Zv rfl (hR _)))) (Zat rfl rfl tyF0 rfl rfl rfl (Z9 (agg2 (Zcj (by rw [List.length_replicate])) rfl)))
    | exact Zx [(2000001,31),(2000002,502)] rfl (by (repeat' (first|exact trivial|refine Zbm rfl ?_ ?_|rfl|exact Zv rfl (hR _)))) (Zat rfl rfl tyF0 rfl rfl rfl (Z9 (agg2 (Zcj (by rw [List.length_replicate])) rfl)))
end Go.Proofs.YtmkijbfiilpccaaGreat.Abs
set_option linter.unusedSimpArgs false
set_option linter.unusedVariables false
namespace Go.Proofs.YtmkijbfiilpccaaGreat.Abs
open Go.RowKit
open R (val row ref)
theorem Zbl {P : Program} {H : Nat → Option Ob} {ev : Operand → D} {o : Oper} {d : D} (t : Nat) (hd : o.dst = some t) (h : Loc P H ev o d) : Loc P H ev o d:=h
theorem allN_two {sz : Nat} {a b : P0} (ha : a.n = sz) (hb : b.n = sz) : AllN sz [a, b] := fun i e he => by
  match i, he with
  | 0, he => obtain rfl : a = e := by simpa using he
             exact ha
  | 1, he => obtain rfl : b = e := by simpa using he
             exact hb
  | i + 2, he => simp at he
def dwF (xs ys bs : List Int) : List Int × List Int × Bool :=
 if diskOk xs ys = true then (if bodyOk bs = true ∧ xs.length + ys.length + (frameOf bs).length ≤ 2000 then (xs,ys ++ frameOf bs,true) else (xs,ys,false)) else ([],[],false)
theorem frame_zeroD (b : List Int) : (frameOf b).length = 0 ↔ bodyOk b = false:=by
 cases h : bodyOk b with
 | false=>simp [frameOf,h]
 | true=>rw [frame_pos h]; simp
theorem cres_own0D {H : Nat → Option Ob} {k n sz : Nat} {E : TypeId} {els els' : List P0} (hk : H k = some (.sl E sz true els)) (hn : n = els.length) (he : els = els') : CRes H (.own k 0 n sz) (row false sz els'):=he ▸ Z0 hk hn
theorem f_cloneD (nil : Bool) (xs : List Int) (hn : nil = true → xs = []) (hl : xs.length ≤ 1048576) : Fn Tryz.prog 43 [.one (row nil 1 (ints xs))] (.v (.one (row nil 1 (ints xs)))):=by
 have hlen:=Zr xs
 cases nil with
 | true =>
  have:=hn rfl
  subst this
  refine Zy (l:=[.tmp 2]) Tryz.func43 kRf rfl Tryz.ntmps43 rfl rfl ?_; simp only [argEnv,P0.d,Nat.reduceAdd]
  repeat' (first|refine wk ?_|((first|refine' w_q rfl rfl ?xa rfl ?_|refine' v_q rfl rfl ?xa rfl ?_|refine' Zm rfl rfl (Zd rfl) rfl ?xa rfl ?_|refine' Zo rfl rfl (Zd rfl) rfl ?xa rfl ?_);case xa=>exact k_nil_eq tbOk rfl rfl rfl rfl)|(refine wkB ?_ ?_<;>intro hg_<;>try exact wkX)|fail)
  exact Zad rfl (Z8 Zaq)
 | false =>
  refine Zy (l:=[.tmp 2]) Tryz.func43 kRf rfl Tryz.ntmps43 rfl rfl ?_; simp only [argEnv,P0.d,Nat.reduceAdd]
  repeat' (first|refine wk ?_|((first|refine' w_q rfl rfl ?xa rfl ?_|refine' v_q rfl rfl ?xa rfl ?_|refine' Zm rfl rfl (Zd rfl) rfl ?xa rfl ?_|refine' Zo rfl rfl (Zd rfl) rfl ?xa rfl ?_);case xa=>exact k_nil_eq tbOk rfl rfl rfl rfl)|((first|refine' w_e rfl ?xa ?xb ?xc ?xe ?_|refine' v_e rfl ?xa ?xb ?xc ?xe ?_);(case xa=>first|exact Zp [] tlOk rfl rfl rfl rfl rfl rfl (by simp [AllN]) (by simp)|exact Zw tlOk rfl rfl rfl rfl rfl rfl (Z4 Zaz (Za4 _)) rfl (by simp only [maxLen,List.length_append,List.length_cons,List.length_nil];omega) (by (try simp only [List.length_append,List.length_cons,List.length_nil]);omega));(case xb|xc|xe=>rfl);try refine wkD ?_)|(refine wkB ?_ ?_<;>intro hg_<;>try exact wkX)|fail)
  all_goals first
   | exact Zad rfl (Z8 (cres_own0D (Zk rfl) (by simp only [List.length_append]) (List.nil_append _)))
theorem f_l3Copy (n1 n2 : Bool) (xs ys : List Int) (hl : xs.length ≤ 1048576) (hl' : ys.length ≤ 1048576) :
  FnS Tryz.prog 77 [.agg [.r false (row n1 1 (ints xs)),.r false (row n2 1 (ints ys))]] [] (.agg [.own 2000001 0 xs.length 1,.own 2000002 0 ys.length 1]) [(2000001,.sl 3 1 true (ints xs)),(2000002,.sl 3 1 true (ints ys))]:=by
 have hlx:=Zr xs
 have hly:=Zr ys
 refine Zab (l:=[.cell 2 28]) Tryz.func77 kRf rfl Tryz.ntmps77 rfl rfl ?_; simp only [dEnv,Nat.reduceAdd]
 repeat' (first|refine wk ?_|((first|refine' w_e rfl ?xa ?xb ?xc ?xe ?_|refine' v_e rfl ?xa ?xb ?xc ?xe ?_);(case xa=>first|exact Zp [] tlOk rfl rfl rfl rfl rfl rfl (by simp [AllN]) (by simp)|exact Zw tlOk rfl rfl rfl rfl rfl rfl (Z4 Zaz (Za4 _)) rfl (by simp only [maxLen,List.length_append,List.length_cons,List.length_nil];omega) (by (try simp only [List.length_append,List.length_cons,List.length_nil]);omega));(case xb|xc|xe=>rfl);try refine wkD ?_)|(refine wkB ?_ ?_<;>intro hg_<;>try exact wkX)|fail)
 all_goals first
  | exact Zx [(2000001,6),(2000002,10)] rfl (by (repeat' (first|exact trivial|refine Zbm rfl ?_ ?_|rfl|exact Zv rfl (List.nil_append _)))) (Zat rfl rfl tyF0 rfl rfl rfl (Z9 (agg2 (Zcj (by rw [hlx];simp)) (Zcj (by rw [hly];simp)))))
end Go.Proofs.YtmkijbfiilpccaaGreat.Abs
set_option linter.unusedSimpArgs false
set_option linter.unusedVariables false
namespace Go.Proofs.YtmkijbfiilpccaaGreat.Abs
open Go.RowKit
open R (val row ref)
theorem disk_bytes {xs ys : List Int} (h : diskOk xs ys = true) : bytesOk (xs ++ ys) = true:=by
 unfold diskOk at h
 simp only [Bool.and_eq_true,decide_eq_true_eq] at h
 refine Zci (fun z hz=>?_) (by rw [List.length_append]; exact h.2)
 rcases List.mem_append.1 hz with hz | hz
 ·exact Zdn h.1.1 hz
 ·exact Zdn h.1.2 hz
theorem f_implBytes (n1 n2 : Bool) (xs ys : List Int) (hl : xs.length ≤ 1048576) (hl' : ys.length ≤ 1048576) : Fn Tryz.prog 42 [diskP n1 xs n2 ys] (.v (.one (row (decide (xs.length + ys.length = 0)) 1 (ints (xs ++ ys))))):=by
 have K2:=f_concat n1 n2 xs ys hl hl'
 unfold rows2 at K2
 refine Zy (l:=[.tmp 2]) Tryz.func42 kRf rfl Tryz.ntmps42 rfl rfl ?_; simp only [argEnv,P0.d,Nat.reduceAdd,diskP,List.map_cons,List.map_nil]
 repeat' (first|refine wk ?_|((first|refine' w_q rfl rfl ?xa rfl ?_|refine' v_q rfl rfl ?xa rfl ?_|refine' Zm rfl rfl (Zd rfl) rfl ?xa rfl ?_|refine' Zo rfl rfl (Zd rfl) rfl ?xa rfl ?_);case xa=>exact Zg K2 rfl ⟨Zcp (Za rfl) (Zk rfl) rfl,trivial⟩)|((first|refine' w_e rfl ?xa ?xb ?xc ?xe ?_|refine' v_e rfl ?xa ?xb ?xc ?xe ?_);(case xa=>exact Zp [.tmp 4,.tmp 6] tlOk rfl rfl rfl rfl rfl rfl (allN_two rfl rfl) (by simp));(case xb|xc|xe=>rfl);try refine wkD ?_)|(refine wkB ?_ ?_<;>intro hg_<;>try exact wkX)|fail)
 all_goals first
  | exact Zad rfl (Z8 Zae)
theorem Zcx (n1 n2 : Bool) (xs ys : List Int) (hv : diskOk xs ys = true) : Fn Tryz.prog 12 [diskP n1 xs n2 ys] (.v (.one (row (decide ((scanF (xs ++ ys)).1 = [])) 1 (rowsI (scanF (xs ++ ys)).1)))):=by
 have hl : xs.length + ys.length ≤ 2000:=by unfold diskOk at hv; simp at hv; omega
 have KV:=Zcd n1 n2 xs ys oM oM
 rw [hv] at KV
 have KB:=f_implBytes n1 n2 xs ys oM oM
 have KS:=f_implScanFrames (decide (xs.length + ys.length = 0)) (xs ++ ys) (disk_bytes hv)
 generalize scanF (xs ++ ys) = S at *
 generalize decide (xs.length + ys.length = 0) = dn at *
 refine Zy (l:=[.tmp 2]) Tryz.func12 kRf rfl Tryz.ntmps12 rfl rfl ?_; simp only [argEnv,P0.d,Nat.reduceAdd,diskP,List.map_cons,List.map_nil]
 repeat' (first|refine wk ?_|((first|refine' w_q rfl rfl ?xa rfl ?_|refine' v_q rfl rfl ?xa rfl ?_|refine' Zm rfl rfl (Zd rfl) rfl ?xa rfl ?_|refine' Zo rfl rfl (Zd rfl) rfl ?xa rfl ?_);case xa=>first|exact Zg KV rfl ⟨Zj (Za rfl) ⟨Zb,Zb,trivial⟩,trivial⟩|exact Zg KB rfl ⟨Zj (Za rfl) ⟨Zb,Zb,trivial⟩,trivial⟩|exact Zg KS rfl ⟨Zf (Za rfl),trivial⟩)|(refine wkB ?_ ?_<;>intro hg_<;>try exact wkX)|fail)
 all_goals first
  | exact Zad rfl (Z8 Zae)
theorem dw_valid {xs ys bs : List Int} (hv : diskOk xs ys = true) (hb : bodyOk bs = true) (hl : xs.length + ys.length + (frameOf bs).length ≤ 2000) : diskOk xs (ys ++ frameOf bs) = true:=by
 unfold diskOk at hv ⊢
 simp only [Bool.and_eq_true,decide_eq_true_eq] at hv ⊢
 refine ⟨⟨hv.1.1,Zci (fun z hz=>?_) (by rw [List.length_append]; omega)⟩,by rw [List.length_append]; omega⟩
 rcases List.mem_append.1 hz with hz | hz
 ·exact Zdn hv.1.2 hz
 ·exact frame_bytes bs z hz
end Go.Proofs.YtmkijbfiilpccaaGreat.Abs
