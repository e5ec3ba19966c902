/- Reading frames and graphs by states: the reference's ReadFrame, ScanFrames, ReadGraph. No statement of the seat is proved here. -/
import Derived.Lib.Hide
import Derived.Test.YtmkijbfiilpccaaGreatRsTy
import Derived.Test.YtmkijbfiilpccaaGreatRsASpCD
import Derived.Test.YtmkijbfiilpccaaGreatRsAImE
set_option linter.unusedSimpArgs false
set_option linter.unusedVariables false
set_option maxRecDepth 100000
set_option maxHeartbeats 4000000
namespace Go.Proofs.YtmkijbfiilpccaaGreat.Abs
open Go.RowKit
open R (val row ref)
theorem optI_w {l : List (Nat × D)} {x : Operand} {m : Bool} {z : Int} {a d : Nat} (h : evO l x = some (.one (.r m (int z)))) (hz : z = (a : Int)) : optI (evD (look l)) (some x) a d:=⟨m,by rw [Za h,hz]⟩
theorem cres_own0F {H : Nat → Option Ob} {k n sz : Nat} {E : TypeId} {els els' : List P0} (hk : H k = some (.sl E sz true els)) (hn : n = els.length) (he : els = els') : CRes H (.own k 0 n sz) (row false sz els'):=he ▸ Z0 hk hn
theorem ints_sub (xs : List Int) (a m : Nat) : ((ints xs).drop a).take m = ints ((xs.drop a).take m):=by unfold ints; rw [List.map_take,List.map_drop]
def frRes (xs : List Int) (i : Nat) : Res:=match frHd (xs.drop i) with
 | some bd=>.tup [.one (row false 1 (ints bd)),iP ((i + bd.length + 2 : Nat) : Int),.one (bool true)]
 | none=>.tup [.one (row false 1 []),iP 0,.one (bool false)]
theorem f_specReadFrame (nil : Bool) (xs : List Int) (i : Nat) (hx : bytesOk xs = true) (hi : i ≤ xs.length) : Fn Tryz.prog 90 [.one (row nil 1 (ints xs)),iP i] (frRes xs i):=by
 have hl:=Zb2 hx
 have hlen:=Zr xs
 have K1:=Zdv nil xs
 rw [hx] at K1
 have K2:=f_l1In (i : Int) 0 (IntKind.i64.wrap (((ints xs).length : Int) - 1))
 by_cases h0 : i < xs.length
 ·have hin2 : inR 0 (IntKind.i64.wrap (((ints xs).length : Int) - 1)) (i : Int) = true:=by
   rw [hlen,IntWalk.i64_in _ oM]; unfold inR; simp; omega
  rw [hin2] at K2
  have hdr:=List.drop_eq_getElem_cons h0
  have hb:=Zbt hx i h0
  have hix:=ints_at h0
  have hFV : frRes xs i = match frHd (xs[i] :: xs.drop (i + 1)) with
   | some bd=>.tup [.one (row false 1 (ints bd)),iP ((i + bd.length + 2 : Nat) : Int),.one (bool true)]
   | none=>.tup [.one (row false 1 []),iP 0,.one (bool false)]:=by unfold frRes; rw [hdr]
  rw [hFV]
  clear hFV hdr
  generalize xs[i] = z at *
  obtain ⟨N,rfl⟩:=Int.eq_ofNat_of_zero_le hb.1
  have hrl : (xs.drop (i + 1)).length = xs.length - (i + 1):=List.length_drop ..
  have K3:=f_l1In (N : Int) 1 100
  have hw1 : IntKind.i64.wrap ((i : Int) + 1) = ((i + 1 : Nat) : Int):=by rw [IntWalk.i64_in _ oM]; omega
  have hw2 : IntKind.i64.wrap (((i + 1 : Nat) : Int) + (N : Int)) = ((i + 1 + N : Nat) : Int):=by rw [IntWalk.i64_in _ oM]; omega
  have hw3 : IntKind.i64.wrap (((i + 1 + N : Nat) : Int) + 1) = ((i + N + 2 : Nat) : Int):=by rw [IntWalk.i64_in _ oM]; omega
  by_cases h1 : 1 ≤ N ∧ N ≤ 100
  ·have hin3 : inR 1 100 (N : Int) = true:=by unfold inR; simp; omega
   rw [hin3] at K3
   by_cases h2 : N < xs.length - (i + 1)
   ·have hlenS : ((xs.drop (i + 1)).take N).length = N:=by rw [List.length_take,hrl]; omega
    have K4:=f_specSum nil ((xs.drop (i + 1)).take N)
    have hg : (xs.drop (i + 1)).getD N 0 = xs.getD (i + 1 + N) 0:=by rw [List.getD_eq_getElem?_getD,List.getD_eq_getElem?_getD,List.getElem?_drop]
    have hix2 : (ints xs)[(((i + 1 + N : Nat) : Int)).toNat]? = some (iP (xs.getD (i + 1 + N) 0)):=ints_atI oM oM
    have hF2 : frHd ((N : Int) :: xs.drop (i + 1)) = if xs.getD (i + 1 + N) 0 = sumOf ((xs.drop (i + 1)).take N) then some ((xs.drop (i + 1)).take N) else none:=by
     simp only [frHd,Int.toNat_natCast,hg,hrl]
     by_cases hq : xs.getD (i + 1 + N) 0 = sumOf ((xs.drop (i + 1)).take N)
     ·rw [if_pos hq,if_pos ⟨by omega,by omega,by omega,hq⟩]
     ·rw [if_neg hq,if_neg (fun h=>hq h.2.2.2)]
    rw [hF2]
    have hsub : ((ints xs).drop (i + 1)).take (i + 1 + N - (i + 1)) = ints ((xs.drop (i + 1)).take N):=by rw [ints_sub,Nat.add_sub_cancel_left]
    have hSl : (ints ((xs.drop (i + 1)).take N)).length = N:=by rw [Zr,hlenS]
    clear hF2 hg hrl hin2 hin3
    generalize (xs.drop (i + 1)).take N = bd at *
    generalize xs.getD (i + 1 + N) 0 = y at *
    generalize sumOf bd = s at *
    rw [← hsub] at K4
    by_cases hq : y = s
    ·rw [if_pos hq]
     subst hq
     dsimp only
     refine Zy (l:=[.tmp 4,.tmp 5,.tmp 6]) Tryz.func90 kRf rfl Tryz.ntmps90 rfl rfl ?_; simp only [argEnv,P0.d,Nat.reduceAdd]
     repeat' (first|refine wk ?_|((first|refine' w_q rfl rfl ?xa rfl ?_|refine' v_q rfl rfl ?xa rfl ?_|refine' Zm rfl rfl (Zd rfl) rfl ?xa rfl ?_|refine' Zo rfl rfl (Zd rfl) rfl ?xa rfl ?_);case xa=>first|exact Zg K1 rfl ⟨Zf (Za rfl),trivial⟩|exact Zg K2 rfl ⟨Zf (Za rfl),Zf (Za rfl),Zf (Za rfl),trivial⟩|exact Zg K3 rfl ⟨Zf (Za rfl),Zf (Za rfl),Zf (Za rfl),trivial⟩|exact Z5 tbOk rfl rfl rfl rfl oM (by exact hix)|exact Z5 tbOk rfl rfl rfl rfl (by rw [hw1,hw2];omega) (by rw [hw1,hw2];exact hix2)|exact Zap (a:=i + 1) (b:=i + 1 + N) tbOk rfl rfl rfl (optI_w rfl hw1) (optI_w rfl (by rw [hw1,hw2])) oM oM|exact Zg K4 rfl ⟨Zf (Za rfl),trivial⟩)|((first|refine' w_e rfl ?xa ?xb ?xc ?xe ?_|refine' v_e rfl ?xa ?xb ?xc ?xe ?_);(case xa=>first|exact Zp [] tlOk rfl rfl rfl rfl rfl rfl (by simp [AllN]) (by simp)|exact Zw tlOk rfl rfl rfl rfl rfl rfl (Z4 Zaz (by rw [hsub];exact Za4 _)) rfl (by rw [hsub,List.length_nil,hSl];simp only [maxLen];omega) (by rw [hsub,List.length_nil,hSl];omega));(case xb|xc|xe=>rfl);try refine wkD ?_)|(refine wkB ?_ ?_<;>intro hg_<;>try exact wkX)|fail)
     all_goals first
      | (exfalso; rw [hw1,hw2] at *; omega)
      | (exfalso; omega)
      | exact Zaa (Zl rfl (Z8 (cres_own0F (Zk rfl) (by simp only [List.length_append]) (by rw [List.nil_append,hsub])))) (Zl rfl (Zz (by rw [hw1,hw2,hw3,hlenS]))) (Zl rfl (Zt rfl))
    ·rw [if_neg hq]
     dsimp only
     refine Zy (l:=[.tmp 4,.tmp 5,.tmp 6]) Tryz.func90 kRf rfl Tryz.ntmps90 rfl rfl ?_; simp only [argEnv,P0.d,Nat.reduceAdd]
     repeat' (first|refine wk ?_|((first|refine' w_q rfl rfl ?xa rfl ?_|refine' v_q rfl rfl ?xa rfl ?_|refine' Zm rfl rfl (Zd rfl) rfl ?xa rfl ?_|refine' Zo rfl rfl (Zd rfl) rfl ?xa rfl ?_);case xa=>first|exact Zg K1 rfl ⟨Zf (Za rfl),trivial⟩|exact Zg K2 rfl ⟨Zf (Za rfl),Zf (Za rfl),Zf (Za rfl),trivial⟩|exact Zg K3 rfl ⟨Zf (Za rfl),Zf (Za rfl),Zf (Za rfl),trivial⟩|exact Z5 tbOk rfl rfl rfl rfl oM (by exact hix)|exact Z5 tbOk rfl rfl rfl rfl (by rw [hw1,hw2];omega) (by rw [hw1,hw2];exact hix2)|exact Zap (a:=i + 1) (b:=i + 1 + N) tbOk rfl rfl rfl (optI_w rfl hw1) (optI_w rfl (by rw [hw1,hw2])) oM oM|exact Zg K4 rfl ⟨Zf (Za rfl),trivial⟩)|((first|refine' w_e rfl ?xa ?xb ?xc ?xe ?_|refine' v_e rfl ?xa ?xb ?xc ?xe ?_);(case xa=>exact Zp [] tlOk rfl rfl rfl rfl rfl rfl (by simp [AllN]) (by simp));(case xb|xc|xe=>rfl);try refine wkD ?_)|(refine wkB ?_ ?_<;>intro hg_<;>try exact wkX)|fail)
     all_goals first
      | (exfalso; rw [hw1,hw2] at *; omega)
      | (exfalso; omega)
      | exact Zaa (Zl rfl (Z8 (Z0 (Zk rfl) rfl))) (Zl rfl (Zz rfl)) (Zl rfl (Zt rfl))
   ·have hF2 : frHd ((N : Int) :: xs.drop (i + 1)) = none:=by
     simp only [frHd]; rw [if_neg (fun h=>by have:=h.2.2.1; rw [hrl] at this; omega)]
    rw [hF2]
    dsimp only
    refine Zy (l:=[.tmp 4,.tmp 5,.tmp 6]) Tryz.func90 kRf rfl Tryz.ntmps90 rfl rfl ?_; simp only [argEnv,P0.d,Nat.reduceAdd]
    repeat' (first|refine wk ?_|((first|refine' w_q rfl rfl ?xa rfl ?_|refine' v_q rfl rfl ?xa rfl ?_|refine' Zm rfl rfl (Zd rfl) rfl ?xa rfl ?_|refine' Zo rfl rfl (Zd rfl) rfl ?xa rfl ?_);case xa=>first|exact Zg K1 rfl ⟨Zf (Za rfl),trivial⟩|exact Zg K2 rfl ⟨Zf (Za rfl),Zf (Za rfl),Zf (Za rfl),trivial⟩|exact Zg K3 rfl ⟨Zf (Za rfl),Zf (Za rfl),Zf (Za rfl),trivial⟩|exact Z5 tbOk rfl rfl rfl rfl oM (by exact hix))|((first|refine' w_e rfl ?xa ?xb ?xc ?xe ?_|refine' v_e rfl ?xa ?xb ?xc ?xe ?_);(case xa=>exact Zp [] tlOk rfl rfl rfl rfl rfl rfl (by simp [AllN]) (by simp));(case xb|xc|xe=>rfl);try refine wkD ?_)|(refine wkB ?_ ?_<;>intro hg_<;>try exact wkX)|fail)
    all_goals first
     | (exfalso; rw [hw1,hw2] at *; omega)
     | (exfalso; omega)
     | exact Zaa (Zl rfl (Z8 (Z0 (Zk rfl) rfl))) (Zl rfl (Zz rfl)) (Zl rfl (Zt rfl))
  ·have hF2 : frHd ((N : Int) :: xs.drop (i + 1)) = none:=by
    simp only [frHd]; rw [if_neg (fun h=>h1 ⟨by omega,by omega⟩)]
   have hin3 : inR 1 100 (N : Int) = false:=by unfold inR; simp; omega
   rw [hF2]
   rw [hin3] at K3
   dsimp only
   refine Zy (l:=[.tmp 4,.tmp 5,.tmp 6]) Tryz.func90 kRf rfl Tryz.ntmps90 rfl rfl ?_; simp only [argEnv,P0.d,Nat.reduceAdd]
   repeat' (first|refine wk ?_|((first|refine' w_q rfl rfl ?xa rfl ?_|refine' v_q rfl rfl ?xa rfl ?_|refine' Zm rfl rfl (Zd rfl) rfl ?xa rfl ?_|refine' Zo rfl rfl (Zd rfl) rfl ?xa rfl ?_);case xa=>first|exact Zg K1 rfl ⟨Zf (Za rfl),trivial⟩|exact Zg K2 rfl ⟨Zf (Za rfl),Zf (Za rfl),Zf (Za rfl),trivial⟩|exact Zg K3 rfl ⟨Zf (Za rfl),Zf (Za rfl),Zf (Za rfl),trivial⟩|exact Z5 tbOk rfl rfl rfl rfl oM (by exact hix))|((first|refine' w_e rfl ?xa ?xb ?xc ?xe ?_|refine' v_e rfl ?xa ?xb ?xc ?xe ?_);(case xa=>exact Zp [] tlOk rfl rfl rfl rfl rfl rfl (by simp [AllN]) (by simp));(case xb|xc|xe=>rfl);try refine wkD ?_)|(refine wkB ?_ ?_<;>intro hg_<;>try exact wkX)|fail)
   all_goals first
    | exact Zaa (Zl rfl (Z8 (Z0 (Zk rfl) rfl))) (Zl rfl (Zz rfl)) (Zl rfl (Zt rfl))
 ·have hin2 : inR 0 (IntKind.i64.wrap (((ints xs).length : Int) - 1)) (i : Int) = false:=by
   rw [hlen,IntWalk.i64_in _ oM]; unfold inR; simp; omega
  rw [hin2] at K2
  have hF : frRes xs i = .tup [.one (row false 1 []),iP 0,.one (bool false)]:=by unfold frRes; rw [List.drop_of_length_le oM]; rfl
  rw [hF]
  refine Zy (l:=[.tmp 4,.tmp 5,.tmp 6]) Tryz.func90 kRf rfl Tryz.ntmps90 rfl rfl ?_; simp only [argEnv,P0.d,Nat.reduceAdd]
  repeat' (first|refine wk ?_|((first|refine' w_q rfl rfl ?xa rfl ?_|refine' v_q rfl rfl ?xa rfl ?_|refine' Zm rfl rfl (Zd rfl) rfl ?xa rfl ?_|refine' Zo rfl rfl (Zd rfl) rfl ?xa rfl ?_);case xa=>first|exact Zg K1 rfl ⟨Zf (Za rfl),trivial⟩|exact Zg K2 rfl ⟨Zf (Za rfl),Zf (Za rfl),Zf (Za rfl),trivial⟩)|((first|refine' w_e rfl ?xa ?xb ?xc ?xe ?_|refine' v_e rfl ?xa ?xb ?xc ?xe ?_);(case xa=>exact Zp [] tlOk rfl rfl rfl rfl rfl rfl (by simp [AllN]) (by simp));(case xb|xc|xe=>rfl);try refine wkD ?_)|(refine wkB ?_ ?_<;>intro hg_<;>try exact wkX)|fail)
  all_goals first
   | exact Zaa (Zl rfl (Z8 (Z0 (Zk rfl) rfl))) (Zl rfl (Zz rfl)) (Zl rfl (Zt rfl))
theorem frHd_len2 {xs bd : List Int} {i : Nat} (hi : i ≤ xs.length) (h : frHd (xs.drop i) = some bd) : i + bd.length + 2 ≤ xs.length:=by
 have hl:=Zc4 h
 rw [List.length_drop] at hl
 omega
theorem f_specScanFrames (nil : Bool) (xs : List Int) (hx : bytesOk xs = true) : Fn Tryz.prog 61 [.one (row nil 1 (ints xs))] (.tup [.one (row false 1 (rowsI (scanF xs).1)), iP ((scanF xs).2 : Nat)]) := by
  have hl := Zb2 hx
  have hlen := Zr xs
  have K := Zdv nil xs
  rw [hx] at K
  have KR := fun i hi => f_specReadFrame nil xs i hx hi
  refine Zy (l := [.tmp 2, .tmp 3]) Tryz.func61 kRf rfl Tryz.ntmps61 rfl rfl ?_; simp only [argEnv, P0.d, Nat.reduceAdd]
  repeat' (first|refine wk ?_|((first|refine' w_q rfl rfl ?xa rfl ?_|refine' v_q rfl rfl ?xa rfl ?_|refine' Zm rfl rfl (Zd rfl) rfl ?xa rfl ?_|refine' Zo rfl rfl (Zd rfl) rfl ?xa rfl ?_);case xa => exact Zg K rfl ⟨Zf (Za rfl), trivial⟩)|((first|refine' w_e rfl ?xa ?xb ?xc ?xe ?_|refine' v_e rfl ?xa ?xb ?xc ?xe ?_);(case xa => exact Zp [] tlOk rfl rfl rfl rfl rfl rfl (by simp [AllN]) (by simp));(case xb|xc|xe=>rfl);try refine wkD ?_)|(refine wkB ?_ ?_<;>intro hg_<;>try exact wkX)|fail)
  refine Zac (fun x : Nat × List (List Int) => x.1 ≤ xs.length ∧ scanF xs = (x.2 ++ (scanF (xs.drop x.1)).1, x.1 + (scanF (xs.drop x.1)).2) ∧ x.2.length ≤ x.1) (fun x => mkS 30 [(5, .one (.r true (int x.1))), (4, .one (.own 100 0 x.2.length 1)), (0, .one (.r false (row nil 1 (ints xs))))] [(100, .sl 26 1 true (rowsI x.2))]) (fun x => xs.length - x.1) (0, []) ⟨Nat.zero_le _, by simp, Nat.le_refl _⟩ (by (refine Zn [(100, 9)] rfl ?_ ?_ <;>exact wkW)) ?_
  rintro ⟨i, acc⟩ ⟨hi, hE, ha⟩
  dsimp only at hi hE ha ⊢
  have hac := (Zax acc).symm
  have KF := KR i hi
  clear KR K
  unfold frRes at KF
  cases hh : frHd (xs.drop i) with
  | none =>
    rw [hh] at KF
    rw [scanF_none hh, List.append_nil, Nat.add_zero] at hE
    rw [hE]
    dsimp only at KF ⊢
    clear hE hh
    repeat' (first|refine wk ?_|((first|refine' w_q rfl rfl ?xa rfl ?_|refine' v_q rfl rfl ?xa rfl ?_|refine' Zm rfl rfl (Zd rfl) rfl ?xa rfl ?_|refine' Zo rfl rfl (Zd rfl) rfl ?xa rfl ?_);case xa => exact Zg KF rfl ⟨Zf (Za rfl), Zf (Za rfl), trivial⟩)|(refine wkB ?_ ?_<;>intro hg_<;>try exact wkX)|fail)
    all_goals first
      | exact Zbe (Zl rfl (Z8 (Z0 (Zk rfl) hac))) (Zl rfl (Zz rfl))
  | some bd =>
    rw [hh] at KF
    have h2 := frHd_len2 hi hh
    rw [scanF_some hh, List.drop_drop, show i + (bd.length + 2) = i + bd.length + 2 by omega] at hE
    dsimp only at KF hE
    have hfin : ∀ s' : St, Weak s' (mkS 30 [(5, .one (.r true (int ((i + bd.length + 2 : Nat) : Int)))), (4, .one (.own 100 0 (acc ++ [bd]).length 1)), (0, .one (.r false (row nil 1 (ints xs))))] [(100, .sl 26 1 true (rowsI (acc ++ [bd])))]) → ∃ x' : Nat × List (List Int), (x'.1 ≤ xs.length ∧ scanF xs = (x'.2 ++ (scanF (xs.drop x'.1)).1, x'.1 + (scanF (xs.drop x'.1)).2) ∧ x'.2.length ≤ x'.1) ∧ Weak s' (mkS 30 [(5, .one (.r true (int x'.1))), (4, .one (.own 100 0 x'.2.length 1)), (0, .one (.r false (row nil 1 (ints xs))))] [(100, .sl 26 1 true (rowsI x'.2))]) ∧ xs.length - x'.1 < xs.length - i := fun s' h => ⟨(i + bd.length + 2, acc ++ [bd]), ⟨h2, by rw [hE]; simp; omega, by simp; omega⟩, h, by dsimp only; omega⟩
    clear hE hh
    repeat' (first|refine wk ?_|((first|refine' w_q rfl rfl ?xa rfl ?_|refine' v_q rfl rfl ?xa rfl ?_|refine' Zm rfl rfl (Zd rfl) rfl ?xa rfl ?_|refine' Zo rfl rfl (Zd rfl) rfl ?xa rfl ?_);case xa => exact Zg KF rfl ⟨Zf (Za rfl), Zf (Za rfl), trivial⟩)|((first|refine' w_e rfl ?xa ?xb ?xc ?xe ?_|refine' v_e rfl ?xa ?xb ?xc ?xe ?_);(case xa => first|exact Zp [.tmp 26] tlOk rfl rfl rfl rfl rfl rfl (Z7 rfl) (by simp)|exact Zw tlOk rfl rfl rfl rfl rfl rfl (Z6 (Zk rfl) rfl) hac (by simp only [maxLen, List.length_append, List.length_cons, List.length_nil, Zax];omega) (by simp only [List.length_append, List.length_cons, List.length_nil, Zax];omega));(case xb|xc|xe=>rfl);try refine wkD ?_)|(refine wkB ?_ ?_<;>intro hg_<;>try exact wkX)|fail)
    all_goals first
      | (refine hfin _ ?_
         (refine Zn [(100, 28)] rfl ?_ ?_ <;> repeat' (first|refine wkS ?_ ?_|exact wkE|exact Za6 (by simp only [List.length_append, List.length_cons, List.length_nil, Zax])|exact Zv rfl (Zdf _ _).symm)))
end Go.Proofs.YtmkijbfiilpccaaGreat.Abs
