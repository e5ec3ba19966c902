/- FreshDisk and DiskCrash by states. No statement of the seat is proved here. -/
import Derived.Lib.Hide
import Derived.Test.YtmkijbfiilpccaaGreatRsTy
import Derived.Test.YtmkijbfiilpccaaGreatRsLDkW
import Derived.Test.YtmkijbfiilpccaaGreatRsACkRL
import Derived.Test.YtmkijbfiilpccaaGreatRsARecs
set_option linter.unusedSimpArgs false
set_option linter.unusedVariables false
set_option maxRecDepth 100000
set_option maxHeartbeats 8000000
namespace Go.Proofs.YtmkijbfiilpccaaGreat.Abs
open Go.RowKit
open R (val row ref)
theorem f_specDiskWriteOk (xs ys bs : List Int) (hl : xs.length ≤ 1048576) (hl' : ys.length ≤ 1048576) (hv : diskOk xs ys = true) : Fn Tryz.prog 97 [diskP false xs false ys,.one (row false 1 (ints bs))] (.tup [diskP false (dwF xs ys bs).1 false (dwF xs ys bs).2.1,.one (bool (dwF xs ys bs).2.2)]):=by
 have KV:=Zce false false xs ys hl hl'
 have KF:=f_specFrameOf false bs
 have hlx:=Zr xs
 have hly:=Zr ys
 have hlf:=Zr (frameOf bs)
 have hfl:=frame_len bs
 have hz:=frame_zeroD bs
 unfold dwF
 rw [hv] at KV ⊢
 rw [if_pos rfl]
 have KC:=f_l3Copy false false xs ys hl hl'
 have h2 : xs.length + ys.length ≤ 2000:=by unfold diskOk at hv; simp at hv; omega
 have hw1 : IntKind.i64.wrap (((ints xs).length : Int) + ((ints ys).length : Int)) = ((xs.length + ys.length : Nat) : Int):=by rw [hlx,hly,IntWalk.i64_in _ oM]; omega
 have hw2 : IntKind.i64.wrap (((xs.length + ys.length : Nat) : Int) + ((ints (frameOf bs)).length : Int)) = ((xs.length + ys.length + (frameOf bs).length : Nat) : Int):=by rw [hlf,IntWalk.i64_in _ oM]; omega
 generalize frameOf bs = fr at *
 by_cases h3 : bodyOk bs = true ∧ xs.length + ys.length + fr.length ≤ 2000
 ·rw [if_pos h3]
  have hfz : fr.length ≠ 0:=fun h=>by have:=hz.1 h; rw [h3.1] at this; cases this
  refine Zy (l:=[.cell 4 28,.tmp 5]) Tryz.func97 kRf rfl Tryz.ntmps97 rfl rfl ?_; simp only [argEnv,P0.d,Nat.reduceAdd,diskP,List.map_cons,List.map_nil]
  repeat' (first|refine wk ?_|((first|refine' w_q rfl rfl ?xa rfl ?_|refine' v_q rfl rfl ?xa rfl ?_|refine' Zm rfl rfl (Zd rfl) rfl ?xa rfl ?_|refine' Zo rfl rfl (Zd rfl) rfl ?xa rfl ?_);case xa=>exact Zg KV rfl ⟨Zj (Za rfl) ⟨Zb,Zb,trivial⟩,trivial⟩)|((first|refine' w_e rfl ?xa ?xb ?xc ?xe ?_|refine' v_e rfl ?xa ?xb ?xc ?xe ?_);(case xa=>first|exact Ze 13 rfl (Zh [(2000001,121),(2000002,122)] KC rfl ⟨Zi (Za rfl),trivial⟩ trivial rfl)|exact Zbn KF rfl rfl ⟨Zf (Za rfl),trivial⟩|exact Zw tlOk rfl rfl rfl rfl rfl rfl (Z4 (Z6 (Zk rfl) rfl) (Za4 _)) hly.symm (by simp only [maxLen,List.length_append,List.length_cons,List.length_nil];omega) (by (try simp only [List.length_append,List.length_cons,List.length_nil]);omega));(case xb|xc|xe=>rfl);try refine wkD ?_)|(refine wkB ?_ ?_<;>intro hg_<;>try exact wkX)|fail)
  all_goals first
   | (exfalso; omega)
   | (exfalso; rw [hw1,hw2] at *; omega)
   | exact Zbe (Zam rfl rfl tyF0 rfl rfl rfl (Zal (by exact ⟨Z0 (Zk rfl) hlx.symm,cres_own0D (Zk rfl) (by simp only [List.length_append]) (ints_appB _ _).symm,trivial⟩))) (Zl rfl (Zt rfl))
 ·rw [if_neg h3]
  have hno : fr.length = 0 ∨ 2000 < xs.length + ys.length + fr.length:=by
   cases hbo : bodyOk bs with
   | false=>exact .inl (hz.2 hbo)
   | true=>exact .inr (by have : ¬ (xs.length + ys.length + fr.length ≤ 2000):=fun h=>h3 ⟨hbo,h⟩; omega)
  refine Zy (l:=[.cell 4 28,.tmp 5]) Tryz.func97 kRf rfl Tryz.ntmps97 rfl rfl ?_; simp only [argEnv,P0.d,Nat.reduceAdd,diskP,List.map_cons,List.map_nil]
  repeat' (first|refine wk ?_|((first|refine' w_q rfl rfl ?xa rfl ?_|refine' v_q rfl rfl ?xa rfl ?_|refine' Zm rfl rfl (Zd rfl) rfl ?xa rfl ?_|refine' Zo rfl rfl (Zd rfl) rfl ?xa rfl ?_);case xa=>exact Zg KV rfl ⟨Zj (Za rfl) ⟨Zb,Zb,trivial⟩,trivial⟩)|((first|refine' w_e rfl ?xa ?xb ?xc ?xe ?_|refine' v_e rfl ?xa ?xb ?xc ?xe ?_);(case xa=>first|exact Ze 13 rfl (Zh [(2000001,121),(2000002,122)] KC rfl ⟨Zi (Za rfl),trivial⟩ trivial rfl)|exact Zbn KF rfl rfl ⟨Zf (Za rfl),trivial⟩);(case xb|xc|xe=>rfl);try refine wkD ?_)|(refine wkB ?_ ?_<;>intro hg_<;>try exact wkX)|fail)
  all_goals first
   | (exfalso; omega)
   | (exfalso; rw [hw1,hw2] at *; omega)
   | exact Zbe (Zam rfl rfl tyF0 rfl rfl rfl (Zal (by exact ⟨Z0 (Zk rfl) hlx.symm,Z0 (Zk rfl) hly.symm,trivial⟩))) (Zl rfl (Zt rfl))
theorem dwF_ok {xs ys b : List Int} (hv : diskOk xs ys = true) : (dwF xs ys b).1 = xs ∧ diskOk xs (dwF xs ys b).2.1 = true:=by
 unfold dwF
 rw [if_pos hv]
 split
 ·rename_i h
  exact ⟨rfl,dw_valid hv h.1 h.2⟩
 ·exact ⟨rfl,hv⟩
theorem dwF_no {xs ys b : List Int} (hv : diskOk xs ys = true) (h : (dwF xs ys b).2.2 = false) : (dwF xs ys b).2.1 = ys:=by
 unfold dwF at h ⊢
 rw [if_pos hv] at h ⊢
 split
 ·rename_i h1
  rw [if_pos h1] at h
  cases h
 ·rfl
theorem f_l3CopyV (n1 n2 : Bool) (xs ys : List Int) (hl : xs.length ≤ 1048576) (hl' : ys.length ≤ 1048576) : Fn Tryz.prog 77 [diskP n1 xs n2 ys] (.v (diskP false xs false ys)):=by
 have h1:=Zr xs
 have h2:=Zr ys
 refine Zy (l:=[.cell 2 28]) Tryz.func77 kRf rfl Tryz.ntmps77 rfl rfl ?_; simp only [argEnv,P0.d,Nat.reduceAdd,diskP,List.map_cons,List.map_nil]
 repeat' (first|refine wk ?_|((first|refine' w_e rfl ?xa ?xb ?xc ?xe ?_|refine' v_e rfl ?xa ?xb ?xc ?xe ?_);(case xa=>first|exact Zp [] tlOk rfl rfl rfl rfl rfl rfl (by simp [AllN]) (by simp)|exact Zw tlOk rfl rfl rfl rfl rfl rfl (Z4 Zaz (Za4 _)) rfl (by simp only [maxLen,List.length_append,List.length_cons,List.length_nil];omega) (by (try simp only [List.length_append,List.length_cons,List.length_nil]);omega)|exact Zw tlOk rfl rfl rfl rfl rfl rfl (Z4 Zaz (Za4 _)) rfl (by simp only [maxLen,List.length_nil];omega) (by simp only [List.length_nil];omega));(case xb|xc|xe=>rfl);try refine wkD ?_)|(refine wkB ?_ ?_<;>intro hg_<;>try exact wkX)|fail)
 all_goals first
  | exact ret_v (Zam rfl rfl tyF0 rfl rfl rfl (Zal (by refine ⟨?_,?_,trivial⟩<;>exact Z0 (Zk rfl) (by simp only [List.length_nil,Nat.zero_add,List.nil_append]))))
def wrF : List (List Int) → List Int → List Int × Bool
 | [],ys=>(ys,true)
 | b :: W,ys=>if (dwF [] ys b).2.2 = true then wrF W (dwF [] ys b).2.1 else (ys,false)
theorem wrF_ok : ∀ (W : List (List Int)) (ys : List Int),diskOk [] ys = true → diskOk [] (wrF W ys).1 = true
 | [],_,h=>h
 | b :: W,ys,h=>by
  unfold wrF
  split
  ·exact wrF_ok W _ (dwF_ok h).2
  ·exact h
theorem wrF_step {W : List (List Int)} {ys : List Int} {k : Nat} (hk : k < W.length) : wrF (W.drop k) ys = if (dwF [] ys W[k]).2.2 = true then wrF (W.drop (k + 1)) (dwF [] ys W[k]).2.1 else (ys,false):=by
 rw [List.drop_eq_getElem_cons hk]
 rfl
theorem f_l18Write (x : Sta) (nv ng nm : Bool) (hv : x.vs.length ≤ 1048576) (hg : x.gs.length ≤ 1048576) (hl : x.ms.length ≤ 1048576) :
    Fn Tryz.prog 76 [diskP true [] true [], stateP x.r nv x.vs ng x.gs nm x.ms] (.tup [diskP false [] false (wrF (wantB x) []).1, .one (bool ((wrF (wantB x) []).2 && decide (0 < (wantB x).length)))]) := by
  have KB := Zdj x nv ng nm hv hg hl
  have hwb : wantB x = if x.ok then ckB x else [] := rfl
  rw [← hwb] at KB
  have hwl := wantB_len x
  have KC := f_l3CopyV true true [] [] (by simp) (by simp)
  have KW := fun (ys b : List Int) (h1 : ys.length ≤ 1048576) (h3 : diskOk [] ys = true) => f_specDiskWriteOk [] ys b (by simp) h1 h3
  generalize wantB x = W at *
  obtain ⟨R, hR⟩ : ∃ R, wrF W [] = R := ⟨_, rfl⟩
  rw [hR]
  clear hwb
  have hlW := Zax W
  obtain ⟨r, vs, gs, ms⟩ := x
  dsimp only at *
  refine Zy (l := [.cell 4 28, .tmp 5]) Tryz.func76 kRf rfl Tryz.ntmps76 rfl rfl ?_; simp only [argEnv, P0.d, Nat.reduceAdd, stateP, diskP, List.map_cons, List.map_nil]
  repeat' (first|refine wk ?_|((first|refine' w_q rfl rfl ?xa rfl ?_|refine' v_q rfl rfl ?xa rfl ?_|refine' Zm rfl rfl (Zd rfl) rfl ?xa rfl ?_|refine' Zo rfl rfl (Zd rfl) rfl ?xa rfl ?_);case xa => first|exact Zg KB rfl ⟨Zj (Za rfl) ⟨Zb, Zb, Zb, Zb, trivial⟩, trivial⟩|exact Zg KC rfl ⟨Zj (Za rfl) ⟨Zb, Zb, trivial⟩, trivial⟩)|(refine wkB ?_ ?_<;>intro hg_<;>try exact wkX)|fail)
  refine Zac (fun z : Nat × List Int => z.1 ≤ W.length ∧ diskOk [] z.2 = true ∧ wrF (W.drop z.1) z.2 = R) (fun z => mkS 38 [(8, .one (.r true (int (z.1 : Int)))), (7, .one (.ptr 7 0 0 0)), (6, .one (.r true (row false 1 (rowsI W)))), (4, .one (.ptr 4 0 0 0))] [(7, .var 28 [.r true (row false 1 (ints [])), .r true (row false 1 (ints z.2))]), (4, .var 28 [Zc, Zc])]) (fun z => W.length - z.1) (0, []) ⟨Nat.zero_le _, rfl, hR⟩ (by (refine Zn [] rfl ?_ ?_ <;>exact wkW)) ?_
  rintro ⟨k, ys⟩ ⟨hk, hd, hq⟩
  dsimp only at hk hd hq ⊢
  clear hR
  have hyl : ys.length ≤ 2000 := (Zbq hd).2.2.1
  by_cases hlt : k < W.length
  · have hx := Zb0 hlt
    have hs := wrF_step (ys := ys) hlt
    rw [hq] at hs
    have KD := KW ys W[k] oM hd
    have h1 := dwF_ok (b := W[k]) hd
    have h2 := dwF_no (b := W[k]) hd
    generalize W[k] = b at *
    obtain ⟨DW, hDW⟩ : ∃ DW, dwF [] ys b = DW := ⟨_, rfl⟩
    rw [hDW] at KD h1 h2 hs
    obtain ⟨A, B, C⟩ := DW
    dsimp only at KD h1 h2 hs
    obtain ⟨rfl, h1⟩ := h1
    have hw : IntKind.i64.wrap ((k : Int) + 1) = ((k + 1 : Nat) : Int) := by rw [IntWalk.i64_in _ oM]; omega
    clear KW hDW
    cases C with
    | false =>
      obtain rfl := h2 rfl
      rw [if_neg (by simp)] at hs
      subst hs
      repeat' (first|refine wk ?_|((first|refine' w_q rfl rfl ?xa rfl ?_|refine' v_q rfl rfl ?xa rfl ?_|refine' Zm rfl rfl (Zd rfl) rfl ?xa rfl ?_|refine' Zo rfl rfl (Zd rfl) rfl ?xa rfl ?_);case xa => first|exact Z5 tbOk rfl rfl rfl rfl oM hx|exact Zg KD rfl ⟨Zj (Za rfl) ⟨Zb, Zb, trivial⟩, Zf (Za rfl), trivial⟩)|(refine wkB ?_ ?_<;>intro hg_<;>try exact wkX)|fail)
      all_goals first
        | (exfalso; omega)
        | exact Zbe (Zam rfl rfl tyF0 rfl rfl rfl (Zal (by exact ⟨Zae, Zae, trivial⟩))) (Zl rfl (Zt rfl))
    | true =>
      rw [if_pos rfl] at hs
      have hfin : ∀ s' : St, Weak s' (mkS 38 [(8, .one (.r true (int ((k + 1 : Nat) : Int)))), (7, .one (.ptr 7 0 0 0)), (6, .one (.r true (row false 1 (rowsI W)))), (4, .one (.ptr 4 0 0 0))] [(7, .var 28 [.r true (row false 1 (ints [])), .r true (row false 1 (ints B))]), (4, .var 28 [Zc, Zc])]) → ∃ x' : Nat × List Int, (x'.1 ≤ W.length ∧ diskOk [] x'.2 = true ∧ wrF (W.drop x'.1) x'.2 = R) ∧ Weak s' (mkS 38 [(8, .one (.r true (int (x'.1 : Int)))), (7, .one (.ptr 7 0 0 0)), (6, .one (.r true (row false 1 (rowsI W)))), (4, .one (.ptr 4 0 0 0))] [(7, .var 28 [.r true (row false 1 (ints [])), .r true (row false 1 (ints x'.2))]), (4, .var 28 [Zc, Zc])]) ∧ W.length - x'.1 < W.length - k := fun s' h => ⟨(k + 1, B), ⟨by dsimp only; omega, h1, hs.symm⟩, h, by dsimp only; omega⟩
      repeat' (first|refine wk ?_|((first|refine' w_q rfl rfl ?xa rfl ?_|refine' v_q rfl rfl ?xa rfl ?_|refine' Zm rfl rfl (Zd rfl) rfl ?xa rfl ?_|refine' Zo rfl rfl (Zd rfl) rfl ?xa rfl ?_);case xa => first|exact Z5 tbOk rfl rfl rfl rfl oM hx|exact Zg KD rfl ⟨Zj (Za rfl) ⟨Zb, Zb, trivial⟩, Zf (Za rfl), trivial⟩)|(refine wkB ?_ ?_<;>intro hg_<;>try exact wkX)|fail)
      all_goals first
        | (exfalso; omega)
        | (refine hfin _ ?_
           (refine Zn [] rfl ?_ ?_ <;> repeat' (first|refine wkS ?_ ?_|exact wkE|exact Zu hw)))
  · obtain rfl : k = W.length := by omega
    rw [List.drop_length] at hq
    have hq : (ys, true) = R := hq
    subst hq
    clear KW
    repeat' (first|refine wk ?_|(refine wkB ?_ ?_<;>intro hg_<;>try exact wkX)|fail)
    all_goals first
      | (exfalso; omega)
      | exact Zbe (Zam rfl rfl tyF0 rfl rfl rfl (Zal (by exact ⟨Zae, Zae, trivial⟩))) (Zl rfl (Zt (by simp only [Bool.true_and, hlW];first|rfl|(congr 1;simp)|simp)))
theorem f_specSync (n1 n2 : Bool) (xs ys : List Int) (hv : diskOk xs ys = true) : Fn Tryz.prog 78 [diskP n1 xs n2 ys] (.v (diskP false (xs ++ ys) true [])):=by
 obtain ⟨_,h1,h2,_⟩:=Zbq hv
 have K1:=Zdc n1 n2 xs ys oM oM
 have K2:=Zce false false xs ys oM oM
 rw [hv] at K2
 have hl1:=Zr xs
 have hl2:=Zr ys
 have ha : ints (xs ++ ys) = ints xs ++ ints ys:=by unfold ints; rw [List.map_append]
 have hT : (diskP false (xs ++ ys) true [] : P0) = .agg [row false 1 (ints xs ++ ints ys),row true 1 []]:=by rw [← ha]; rfl
 rw [hT]
 clear hT ha hv
 refine Zy (l:=[.cell 2 28]) Tryz.func78 kRf rfl Tryz.ntmps78 rfl rfl ?_; simp only [argEnv,P0.d,Nat.reduceAdd,diskP,List.map_cons,List.map_nil]
 repeat' (first|refine wk ?_|((first|refine' w_q rfl rfl ?xa rfl ?_|refine' v_q rfl rfl ?xa rfl ?_|refine' Zm rfl rfl (Zd rfl) rfl ?xa rfl ?_|refine' Zo rfl rfl (Zd rfl) rfl ?xa rfl ?_);case xa=>first|exact Zg K1 rfl ⟨Zj (Za rfl) ⟨Zb,Zb,trivial⟩,trivial⟩|exact Zg K2 rfl ⟨Zj (Za rfl) ⟨Zb,Zb,trivial⟩,trivial⟩)|((first|refine' w_e rfl ?xa ?xb ?xc ?xe ?_|refine' v_e rfl ?xa ?xb ?xc ?xe ?_);(case xa=>first|exact Zp [] tlOk rfl rfl rfl rfl rfl rfl (by simp [AllN]) (by simp)|exact Ze 12 rfl (Zw tlOk rfl rfl rfl rfl rfl rfl (Z4 Zaz (Za4 _)) rfl (by simp only [maxLen,List.length_nil];omega) (by simp only [List.length_nil];omega))|exact Ze 15 rfl (Zw tlOk rfl rfl rfl rfl rfl rfl (Z4 Zaz (Za4 _)) (by simp only [List.length_append]) (by simp only [maxLen,List.length_append,List.length_nil];omega) (by simp only [List.length_append,List.length_nil];omega)));(case xb|xc|xe=>rfl);try refine wkD ?_)|(refine wkB ?_ ?_<;>intro hg_<;>try exact wkX)|fail)
 all_goals first
  | exact ret_v (Zam rfl rfl tyF0 rfl rfl rfl (Zal (by exact ⟨Z0 (Zk rfl) (by simp only [List.length_append,List.length_nil,Nat.zero_add,List.nil_append]),Zaq,trivial⟩)))
theorem f_specCrash (n1 n2 : Bool) (xs ys : List Int) (k : Int) (b : Nat) (h0 : 0 ≤ k) (hb : (if (ys.length : Int) < k then (ys.length : Int) else k) = (b : Int)) (hv : diskOk xs ys = true) : Fn Tryz.prog 21 [diskP n1 xs n2 ys,iP k] (.v (diskP false (xs ++ ys.take b) true [])):=by
 obtain ⟨_,h1,h2,_⟩:=Zbq hv
 have hbl : b ≤ ys.length:=by split at hb<;>omega
 have K1:=Zdc n1 n2 xs ys oM oM
 have K2:=Zce false false xs ys oM oM
 rw [hv] at K2
 have hl1:=Zr xs
 have hl2:=Zr ys
 have hsl : ((ints ys).drop 0).take (b - 0) = ints (ys.take b):=by unfold ints; rw [List.drop_zero,Nat.sub_zero,List.map_take]
 have ha : ints (xs ++ ys.take b) = ints xs ++ ((ints ys).drop 0).take (b - 0):=by rw [hsl]; unfold ints; rw [List.map_append]
 have hlt : (((ints ys).drop 0).take (b - 0)).length ≤ 2000:=by rw [hsl,Zr,List.length_take]; omega
 have hT : (diskP false (xs ++ ys.take b) true [] : P0) = .agg [row false 1 (ints xs ++ ((ints ys).drop 0).take (b - 0)),row true 1 []]:=by rw [← ha]; rfl
 rw [hT]
 rw [← hl2] at hb
 have hmin : (if ((ints ys).length : Int) < k then ((ints ys).length : Int) else k) = (b : Int):=hb
 clear hT ha hv hsl
 refine Zy (l:=[.cell 4 28]) Tryz.func21 kRf rfl Tryz.ntmps21 rfl rfl ?_; simp only [argEnv,P0.d,Nat.reduceAdd,diskP,List.map_cons,List.map_nil]
 repeat' (first|refine wk ?_|((first|refine' w_q rfl rfl ?xa rfl ?_|refine' v_q rfl rfl ?xa rfl ?_|refine' Zm rfl rfl (Zd rfl) rfl ?xa rfl ?_|refine' Zo rfl rfl (Zd rfl) rfl ?xa rfl ?_);case xa=>first|exact Zg K1 rfl ⟨Zj (Za rfl) ⟨Zb,Zb,trivial⟩,trivial⟩|exact Zg K2 rfl ⟨Zj (Za rfl) ⟨Zb,Zb,trivial⟩,trivial⟩|exact Zap (a:=0) (b:=b) tbOk rfl rfl rfl rfl ⟨_,(Za rfl).trans (by rw [hmin])⟩ oM oM)|((first|refine' w_e rfl ?xa ?xb ?xc ?xe ?_|refine' v_e rfl ?xa ?xb ?xc ?xe ?_);(case xa=>first|exact Zp [] tlOk rfl rfl rfl rfl rfl rfl (by simp [AllN]) (by simp)|exact Ze 18 rfl (Zw tlOk rfl rfl rfl rfl rfl rfl (Z4 Zaz (Za4 _)) rfl (by simp only [maxLen,List.length_nil];omega) (by simp only [List.length_nil];omega))|exact Ze 27 rfl (Zw tlOk rfl rfl rfl rfl rfl rfl (Z4 Zaz (by first|exact Za4 _|exact fun e he=>Za4 ys e (List.mem_of_mem_drop (List.mem_of_mem_take he)))) (by simp only [List.length_append]) (by simp only [maxLen,List.length_append,List.length_nil];omega) (by simp only [List.length_append,List.length_nil];omega)));(case xb|xc|xe=>rfl);try refine wkD ?_)|(refine wkB ?_ ?_<;>intro hg_<;>try exact wkX)|fail)
 all_goals first
  | (exfalso; omega)
  | exact ret_v (Zam rfl rfl tyF0 rfl rfl rfl (Zal (by exact ⟨Z0 (Zk rfl) (by simp only [List.length_append,List.length_nil,Nat.zero_add,List.nil_append]),Zaq,trivial⟩)))
noncomputable def frY (x : Sta) : List Int:=(wrF (wantB x) []).1
noncomputable def frOk (x : Sta) : Bool:=(wrF (wantB x) []).2 && decide (0 < (wantB x).length)
theorem frY_ok (x : Sta) : diskOk [] (frY x) = true:=wrF_ok _ _ rfl
theorem f_specSave (x : Sta) (nv ng nm : Bool) (hv : x.vs.length ≤ 1048576) (hg : x.gs.length ≤ 1048576) (hl : x.ms.length ≤ 1048576) :
  Fn Tryz.prog 51 [diskP true [] true [],stateP x.r nv x.vs ng x.gs nm x.ms] (.tup [diskP false (if frOk x then frY x else []) (frOk x) [],.one (bool (frOk x))]):=by
 have KV:=Zce true true [] [] (by simp) (by simp)
 rw [show diskOk [] [] = true from rfl] at KV
 have KC:=f_l3CopyV true true [] [] (by simp) (by simp)
 have KW:=f_l18Write x nv ng nm hv hg hl
 rw [show (wrF (wantB x) []).1 = frY x from rfl,show ((wrF (wantB x) []).2 && decide (0 < (wantB x).length)) = frOk x from rfl] at KW
 have KS:=f_specSync false false [] (frY x) (frY_ok x)
 rw [List.nil_append] at KS
 generalize frY x = Y at *
 generalize frOk x = o at *
 obtain ⟨r,vs,gs,ms⟩:=x
 dsimp only at *
 cases o
 ·refine Zy (l:=[.cell 4 28,.tmp 5]) Tryz.func51 kRf rfl Tryz.ntmps51 rfl rfl ?_; simp only [argEnv,P0.d,Nat.reduceAdd,stateP,diskP,List.map_cons,List.map_nil]
  repeat' (first|refine wk ?_|((first|refine' w_q rfl rfl ?xa rfl ?_|refine' v_q rfl rfl ?xa rfl ?_|refine' Zm rfl rfl (Zd rfl) rfl ?xa rfl ?_|refine' Zo rfl rfl (Zd rfl) rfl ?xa rfl ?_);case xa=>first|exact Zg KV rfl ⟨Zj (Za rfl) ⟨Zb,Zb,trivial⟩,trivial⟩|exact Zg KW rfl ⟨Zj (Za rfl) ⟨Zb,Zb,trivial⟩,Zj (Za rfl) ⟨Zb,Zb,Zb,Zb,trivial⟩,trivial⟩|exact Zg KC rfl ⟨Zj (Za rfl) ⟨Zb,Zb,trivial⟩,trivial⟩)|(refine wkB ?_ ?_<;>intro hg_<;>try exact wkX)|fail)
  all_goals first
   | exact Zbe (Zam rfl rfl tyF0 rfl rfl rfl (Zal (by exact ⟨Zae,Zae,trivial⟩))) (Zl rfl (Zt rfl))
 ·refine Zy (l:=[.cell 4 28,.tmp 5]) Tryz.func51 kRf rfl Tryz.ntmps51 rfl rfl ?_; simp only [argEnv,P0.d,Nat.reduceAdd,stateP,diskP,List.map_cons,List.map_nil]
  repeat' (first|refine wk ?_|((first|refine' w_q rfl rfl ?xa rfl ?_|refine' v_q rfl rfl ?xa rfl ?_|refine' Zm rfl rfl (Zd rfl) rfl ?xa rfl ?_|refine' Zo rfl rfl (Zd rfl) rfl ?xa rfl ?_);case xa=>first|exact Zg KV rfl ⟨Zj (Za rfl) ⟨Zb,Zb,trivial⟩,trivial⟩|exact Zg KW rfl ⟨Zj (Za rfl) ⟨Zb,Zb,trivial⟩,Zj (Za rfl) ⟨Zb,Zb,Zb,Zb,trivial⟩,trivial⟩|exact Zg KS rfl ⟨Zj (Za rfl) ⟨Zb,Zb,trivial⟩,trivial⟩)|(refine wkB ?_ ?_<;>intro hg_<;>try exact wkX)|fail)
  all_goals first
   | exact Zbe (Zam rfl rfl tyF0 rfl rfl rfl (Zal (by exact ⟨Zae,Zae,trivial⟩))) (Zl rfl (Zt rfl))
theorem f_freshDisk (x : Sta) (nv ng nm : Bool) (hv : x.vs.length ≤ 1048576) (hg : x.gs.length ≤ 1048576) (hl : x.ms.length ≤ 1048576) :
  Fn Tryz.prog 18 [stateP x.r nv x.vs ng x.gs nm x.ms] (.tup [diskP (!frOk x) (if frOk x then frY x else []) true [],.one (bool (frOk x))]):=by
 have KO:=f_ownState x.r nv ng nm x.vs x.gs x.ms hv hg hl
 have KS:=f_specSave x false false false hv hg hl
 generalize frY x = Y at *
 generalize frOk x = o at *
 obtain ⟨r,vs,gs,ms⟩:=x
 dsimp only at *
 cases o
 ·refine Zy (l:=[.cell 2 28,.tmp 3]) Tryz.func18 kRf rfl Tryz.ntmps18 rfl rfl ?_; simp only [argEnv,P0.d,Nat.reduceAdd,stateP,diskP,List.map_cons,List.map_nil]
  repeat' (first|refine wk ?_|((first|refine' w_q rfl rfl ?xa rfl ?_|refine' v_q rfl rfl ?xa rfl ?_|refine' Zm rfl rfl (Zd rfl) rfl ?xa rfl ?_|refine' Zo rfl rfl (Zd rfl) rfl ?xa rfl ?_);case xa=>first|exact Zg KO rfl ⟨Zj (Za rfl) ⟨Zb,Zb,Zb,Zb,trivial⟩,trivial⟩|exact Zg KS rfl ⟨Zj (Za rfl) ⟨Zar,Zar,trivial⟩,Zj (Za rfl) ⟨Zb,Zb,Zb,Zb,trivial⟩,trivial⟩)|(refine wkB ?_ ?_<;>intro hg_<;>try exact wkX)|fail)
  all_goals first
   | exact Zbe (Zam rfl rfl tyF0 rfl rfl rfl (Zal (by exact ⟨Zaq,Zaq,trivial⟩))) (Zl rfl (Zt rfl))
 ·refine Zy (l:=[.cell 2 28,.tmp 3]) Tryz.func18 kRf rfl Tryz.ntmps18 rfl rfl ?_; simp only [argEnv,P0.d,Nat.reduceAdd,stateP,diskP,List.map_cons,List.map_nil]
  repeat' (first|refine wk ?_|((first|refine' w_q rfl rfl ?xa rfl ?_|refine' v_q rfl rfl ?xa rfl ?_|refine' Zm rfl rfl (Zd rfl) rfl ?xa rfl ?_|refine' Zo rfl rfl (Zd rfl) rfl ?xa rfl ?_);case xa=>first|exact Zg KO rfl ⟨Zj (Za rfl) ⟨Zb,Zb,Zb,Zb,trivial⟩,trivial⟩|exact Zg KS rfl ⟨Zj (Za rfl) ⟨Zar,Zar,trivial⟩,Zj (Za rfl) ⟨Zb,Zb,Zb,Zb,trivial⟩,trivial⟩)|(refine wkB ?_ ?_<;>intro hg_<;>try exact wkX)|fail)
  all_goals first
   | exact Zbe (Zam rfl rfl tyF0 rfl rfl rfl (Zal (by exact ⟨Zae,Zae,trivial⟩))) (Zl rfl (Zt rfl))
end Go.Proofs.YtmkijbfiilpccaaGreat.Abs
