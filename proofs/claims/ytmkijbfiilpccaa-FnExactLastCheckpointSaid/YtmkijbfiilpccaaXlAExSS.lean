/- Exact laws over lists of records by states: sizes, copies, comparisons. No statement of the seat is proved here. -/
import Derived.Lib.Hide
import Derived.Test.YtmkijbfiilpccaaXlTy
import Derived.Test.YtmkijbfiilpccaaXlAExS
import Derived.Test.YtmkijbfiilpccaaXlASpCD
set_option linter.unusedSimpArgs false
set_option linter.unusedVariables false
set_option maxRecDepth 100000
set_option maxHeartbeats 4000000
namespace Go.Proofs.Ytmkijbfiilpccaa.Abs
open Go.RowKit
open R (val row ref)
def rowsN (L : List (Bool × List Int)) : List P0:=L.map fun z=>.one (row z.1 1 (ints z.2))
theorem rowsN_len (L : List (Bool × List Int)) : (rowsN L).length = L.length:=List.length_map ..
theorem rowsN_at {L : List (Bool × List Int)} {k : Nat} (h : k < L.length) : (rowsN L)[(k : Int).toNat]? = some (.one (row L[k].1 1 (ints L[k].2))):=by unfold rowsN; simp [h]
def snds (L : List (Bool × List Int)) : List (List Int):=L.map (·.2)
theorem Zbo (L : List (Bool × List Int)) : (snds L).length = L.length:=List.length_map ..
def szF (left : Int) : List (Bool × List Int) → Int
 | []=>left
 | b :: L=>if left < b.2.length then -1 else szF (left - b.2.length) L
def szSS (left : Int) (L : List (Bool × List Int)) : Int:=if left < L.length then -1 else szF (left - L.length) L
theorem szF_ge {left : Int} (h0 : 0 ≤ left) : ∀ {L : List (Bool × List Int)},0 ≤ szF left L → ∀ b ∈ L,(b.2.length : Int) ≤ left
 | [],_,b,hb=>by cases hb
 | c :: L,h,b,hb=>by
  unfold szF at h
  split at h
  ·omega
  ·rename_i hc
   rcases List.mem_cons.1 hb with rfl | hb
   ·omega
   ·have:=szF_ge (left:=left - c.2.length) oM h b hb
    omega
theorem f_szIntSS (nil : Bool) (L : List (Bool × List Int)) (left : Int) (hl : L.length ≤ maxLen) (hb : ∀ b ∈ L,b.2.length ≤ maxLen) (h1 : 0 ≤ left) (h2 : left ≤ 1048576) : Fn Try.prog 6 [.one (row nil 1 (rowsN L)),iP left] (.v (iP (szSS left L))):=by
 have hlen:=rowsN_len L
 unfold maxLen at hl hb
 have hw0 : IntKind.i64.wrap (left - ((rowsN L).length : Int)) = left - L.length:=by rw [IntWalk.i64_in _ oM,hlen]
 by_cases hsm : left < L.length
 ·have hE : szSS left L = -1:=if_pos hsm
  rw [hE]
  refine Zy (l:=[.tmp 4]) Try.func6 kRf rfl Try.ntmps6 rfl rfl ?_; simp only [argEnv,P0.d,Nat.reduceAdd]
  repeat' (first|refine wk ?_|(refine wkB ?_ ?_<;>intro hg_<;>try exact wkX)|fail)
  all_goals first
   | exact Zt rfl (Z4 rfl)
   | (exfalso; rw [hw0] at *; omega)
 ·have hE : szSS left L = szF (left - L.length) L:=if_neg hsm
  rw [hE]
  clear hE
  refine Zy (l:=[.tmp 4]) Try.func6 kRf rfl Try.ntmps6 rfl rfl ?_; simp only [argEnv,P0.d,Nat.reduceAdd]
  repeat' (first|refine wk ?_|(refine wkB ?_ ?_<;>intro hg_<;>try exact wkX)|fail)
  refine Z7 (fun x : Nat × Int=>x.1 ≤ L.length ∧ 0 ≤ x.2 ∧ x.2 ≤ 1048576 ∧ szF x.2 (L.drop x.1) = szF (left - L.length) L) (fun x=>mkS 27 [(5,.one (.r true (int x.1))),(1,.one (.r true (int x.2))),(0,.one (.r false (row nil 1 (rowsN L))))] []) (fun x=>L.length - x.1) (0,left - L.length) ⟨Nat.zero_le _,by omega,by omega,by rw [List.drop_zero]⟩ (by (refine Zg [] rfl ?_ ?_<;>repeat' (first|refine wkS ?_ ?_|exact wkE|exact Zq hw0))) ?_
  rintro ⟨k,lv⟩ ⟨hk,hv0,hv1,hS⟩
  dsimp only at hk hv0 hv1 hS ⊢
  by_cases hlt : k < L.length
  ·have hix:=rowsN_at hlt
   have hbk:=hb L[k] (List.getElem_mem hlt)
   have KZ:=f_szIntS L[k].1 L[k].2 lv oM hv0 hv1
   have hw : IntKind.i64.wrap ((k : Int) + 1) = ((k + 1 : Nat) : Int):=by rw [IntWalk.i64_in _ oM]; omega
   rw [List.drop_eq_getElem_cons hlt,szF] at hS
   unfold szL at KZ
   generalize L[k] = b at *
   obtain ⟨bn,bl⟩:=b
   dsimp only at *
   by_cases hq : lv < bl.length
   ·rw [if_pos hq] at hS KZ
    rw [← hS]
    repeat' (first|refine wk ?_|((first|refine' w_q rfl rfl ?xa rfl ?_|refine' v_q rfl rfl ?xa rfl ?_|refine' Zh rfl rfl (Zb rfl) rfl ?xa rfl ?_|refine' Zi rfl rfl (Zb rfl) rfl ?xa rfl ?_);case xa=>first|exact Zn tbOk rfl rfl rfl rfl oM (by exact hix)|exact Ze KZ rfl ⟨Zd (Za rfl),Zd (Za rfl),trivial⟩)|(refine wkB ?_ ?_<;>intro hg_<;>try exact wkX)|fail)
    all_goals first
     | exact Zt rfl (Z4 rfl)
     | (exfalso;first|omega|(simp at *;done))
   ·rw [if_neg hq] at hS KZ
    repeat' (first|refine wk ?_|((first|refine' w_q rfl rfl ?xa rfl ?_|refine' v_q rfl rfl ?xa rfl ?_|refine' Zh rfl rfl (Zb rfl) rfl ?xa rfl ?_|refine' Zi rfl rfl (Zb rfl) rfl ?xa rfl ?_);case xa=>first|exact Zn tbOk rfl rfl rfl rfl oM (by exact hix)|exact Ze KZ rfl ⟨Zd (Za rfl),Zd (Za rfl),trivial⟩)|(refine wkB ?_ ?_<;>intro hg_<;>try exact wkX)|fail)
    all_goals first
     | (exfalso; omega)
     | exact ⟨(k + 1,lv - bl.length),⟨by omega,by dsimp only;omega,by dsimp only;omega,hS⟩,by (refine Zg [] rfl ?_ ?_<;>repeat' (first|refine wkS ?_ ?_|exact wkE|exact Zq hw)),by dsimp only;omega⟩
  ·rw [List.drop_of_length_le oM] at hS
   rw [← hS]
   repeat' (first|refine wk ?_|(refine wkB ?_ ?_<;>intro hg_<;>try exact wkX)|fail)
   all_goals first
    | exact Zt rfl (Z4 rfl)
theorem f_toIntSS (nil : Bool) (L : List (Bool × List Int)) (hl : L.length ≤ 1048576) (hb : ∀ b ∈ L,b.2.length ≤ 1048576) : Fn Try.prog 8 [.one (row nil 1 (rowsN L))] (.v (.one (row false 1 (rowsI (snds L))))):=by
 have hlen:=rowsN_len L
 have hsl : (rowsI (snds L)).length = L.length:=by rw [Zag,Zbo]
 refine Zy (l:=[.tmp 2]) Try.func8 kRf rfl Try.ntmps8 rfl rfl ?_; simp only [argEnv,P0.d,Nat.reduceAdd]
 repeat' (first|refine wk ?_|((first|refine' w_e rfl ?xa ?xb ?xc ?xe ?_|refine' v_e rfl ?xa ?xb ?xc ?xe ?_);(case xa=>exact e_make tlOk rfl rfl rfl rfl rfl rfl (c:=L.length) (by rw [hlen]) (by rw [hlen]) oM (by simp only [maxLen];omega));(case xb|xc|xe=>rfl);try refine wkD ?_)|(refine wkB ?_ ?_<;>intro hg_<;>try exact wkX)|fail)
 refine Z7 (fun k : Nat=>k ≤ L.length) (fun k=>mkS 23 [(4,.one (.r true (int k))),(3,.one (.own 100 0 L.length 1)),(0,.one (.r false (row nil 1 (rowsN L))))] [(100,.sl 24 1 true (fillP (rowsI (snds L)) (.one (row true 0 [])) k))]) (fun k=>L.length - k) 0 (Nat.zero_le _) (by (refine Zg [(100,7)] rfl ?_ ?_<;>repeat' (first|refine wkS ?_ ?_|exact wkE|exact Zaf rfl (by unfold fillP;simp [hsl])))) ?_
 intro k hk
 by_cases hlt : k < L.length
 ·have hix:=rowsN_at hlt
  have hg : (rowsI (snds L))[k]? = some (rowP L[k].2):=by rw [rowsI_get (by rw [Zbo]; exact hlt)]; unfold snds; rw [List.getElem_map]
  have hbk:=hb L[k] (List.getElem_mem hlt)
  have KT:=f_toIntS L[k].1 L[k].2 hbk
  generalize L[k] = b at *
  obtain ⟨bn,bl⟩:=b
  dsimp only at *
  have hfl : (fillP (rowsI (snds L)) (.one (row true 0 [])) k).length = L.length:=by rw [fillP_len oM]; exact hsl
  have hw : IntKind.i64.wrap ((k : Int) + 1) = ((k + 1 : Nat) : Int):=by rw [IntWalk.i64_in _ oM]; omega
  repeat' (first|refine wk ?_|((first|refine' w_q rfl rfl ?xa rfl ?_|refine' v_q rfl rfl ?xa rfl ?_|refine' Zh rfl rfl (Zb rfl) rfl ?xa rfl ?_|refine' Zi rfl rfl (Zb rfl) rfl ?xa rfl ?_);case xa=>first|exact Zn tbOk rfl rfl rfl rfl oM (by exact hix)|exact Ze KT rfl ⟨Zd (Za rfl),trivial⟩|exact k_indexO tbOk rfl rfl rfl rfl oM oM)|((first|refine' w_e rfl ?xa ?xb ?xc ?xe ?_|refine' v_e rfl ?xa ?xb ?xc ?xe ?_);(case xa=>exact e_storeS tbOk rfl rfl rfl rfl rfl rfl rfl rfl (by rw [hfl];omega));(case xb|xc|xe=>rfl);try refine wkD ?_)|(refine wkB ?_ ?_<;>intro hg_<;>try exact wkX)|fail)
  all_goals first
   | exact ⟨k + 1,by omega,by (refine Zg [] rfl ?_ ?_<;>repeat' (first|refine wkS ?_ ?_|exact wkE|exact Zq hw|exact Zaf rfl (by rw [Nat.zero_add,Int.toNat_natCast];exact fillP_set hg))),by omega⟩
 ·have e : fillP (rowsI (snds L)) (.one (row true 0 [])) k = rowsI (snds L):=fillP_all oM
  rw [e]
  repeat' (first|refine wk ?_|(refine wkB ?_ ?_<;>intro hg_<;>try exact wkX)|fail)
  all_goals first
   | exact Zt rfl (Za7 (Zz (Zf rfl) hsl.symm))
end Go.Proofs.Ytmkijbfiilpccaa.Abs
