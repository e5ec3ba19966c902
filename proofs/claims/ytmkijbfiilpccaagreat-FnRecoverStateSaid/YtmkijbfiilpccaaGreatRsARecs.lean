/- Disks' records by states: the reference. No statement of the seat is proved here. -/
import Derived.Lib.Hide
import Derived.Test.YtmkijbfiilpccaaGreatRsTy
import Derived.Test.YtmkijbfiilpccaaGreatRsAGrH
import Derived.Test.YtmkijbfiilpccaaGreatRsASpE
import Derived.Test.YtmkijbfiilpccaaGreatRsLDkW
import Derived.Test.YtmkijbfiilpccaaGreatRsASt0
set_option linter.unusedSimpArgs false
set_option linter.unusedVariables false
set_option maxRecDepth 100000
set_option maxHeartbeats 8000000
namespace Go.Proofs.YtmkijbfiilpccaaGreat.Abs
open Go.RowKit
open R (val row ref)
theorem Zdc (n1 n2 : Bool) (xs ys : List Int) (hl : xs.length ≤ 1048576) (hl' : ys.length ≤ 1048576) : Fn Tryz.prog 30 [diskP n1 xs n2 ys] (.v (diskP false xs false ys)):=by
 have h1:=Zr xs
 have h2:=Zr ys
 refine Zy (l:=[.cell 2 28]) Tryz.func30 kRf rfl Tryz.ntmps30 rfl rfl ?_; simp only [argEnv,P0.d,Nat.reduceAdd,diskP,List.map_cons,List.map_nil]
 repeat' (first|refine wk ?_|((first|refine' w_e rfl ?xa ?xb ?xc ?xe ?_|refine' v_e rfl ?xa ?xb ?xc ?xe ?_);(case xa=>first|exact Zp [] tlOk rfl rfl rfl rfl rfl rfl (by simp [AllN]) (by simp)|exact Zw tlOk rfl rfl rfl rfl rfl rfl (Z4 Zaz (Za4 _)) rfl (by simp only [maxLen,List.length_nil];omega) (by simp only [List.length_nil];omega));(case xb|xc|xe=>rfl);try refine wkD ?_)|(refine wkB ?_ ?_<;>intro hg_<;>try exact wkX)|fail)
 all_goals first
  | exact ret_v (Zam rfl rfl tyF0 rfl rfl rfl (Zal (by refine ⟨?_,?_,trivial⟩<;>exact Z0 (Zk rfl) (by simp only [List.length_nil,Nat.zero_add,List.nil_append]))))
theorem Zbq {xs ys : List Int} (h : diskOk xs ys = true) : bytesOk (xs ++ ys) = true ∧ xs.length ≤ 2000 ∧ ys.length ≤ 2000 ∧ bytesOk xs = true:=by
 unfold diskOk at h
 simp only [Bool.and_eq_true,decide_eq_true_eq] at h
 obtain ⟨⟨h1,h2⟩,h3⟩:=h
 refine ⟨Zci (fun z hz=>?_) (by rw [List.length_append]; exact h3),by omega,by omega,h1⟩
 rcases List.mem_append.1 hz with h | h
 ·obtain ⟨i,hi,rfl⟩:=List.getElem_of_mem h
  exact Zbt h1 i hi
 ·obtain ⟨i,hi,rfl⟩:=List.getElem_of_mem h
  exact Zbt h2 i hi
theorem f_specRecords (n1 n2 : Bool) (xs ys : List Int) (hv : diskOk xs ys = true) : Fn Tryz.prog 32 [diskP n1 xs n2 ys] (.v (.one (row false 1 (rowsI (scanF (xs ++ ys)).1)))):=by
 obtain ⟨hb,h1,h2,_⟩:=Zbq hv
 have K1:=Zdc n1 n2 xs ys oM oM
 have K2:=Zce false false xs ys oM oM
 rw [hv] at K2
 have K3:=f_specScanFrames false (xs ++ ys) hb
 have ha : ints (xs ++ ys) = ints xs ++ ints ys:=by unfold ints; rw [List.map_append]
 rw [ha] at K3
 have hl1:=Zr xs
 have hl2:=Zr ys
 clear ha hb
 refine Zy (l:=[.tmp 2]) Tryz.func32 kRf rfl Tryz.ntmps32 rfl rfl ?_; simp only [argEnv,P0.d,Nat.reduceAdd,diskP,List.map_cons,List.map_nil]
 repeat' (first|refine wk ?_|((first|refine' w_q rfl rfl ?xa rfl ?_|refine' v_q rfl rfl ?xa rfl ?_|refine' Zm rfl rfl (Zd rfl) rfl ?xa rfl ?_|refine' Zo rfl rfl (Zd rfl) rfl ?xa rfl ?_);case xa=>first|exact Zg K1 rfl ⟨Zj (Za rfl) ⟨Zb,Zb,trivial⟩,trivial⟩|exact Zg K2 rfl ⟨Zj (Za rfl) ⟨Zb,Zb,trivial⟩,trivial⟩|exact Zg K3 rfl ⟨asA_own0M (Za rfl) (Zk rfl) (by simp),trivial⟩)|((first|refine' w_e rfl ?xa ?xb ?xc ?xe ?_|refine' v_e rfl ?xa ?xb ?xc ?xe ?_);(case xa=>first|exact Zp [] tlOk rfl rfl rfl rfl rfl rfl (by simp [AllN]) (by simp)|exact Ze 15 rfl (Zw tlOk rfl rfl rfl rfl rfl rfl (Z4 Zaz (Za4 _)) rfl (by simp only [maxLen,List.length_nil];omega) (by simp only [List.length_nil];omega))|exact Ze 18 rfl (Zw tlOk rfl rfl rfl rfl rfl rfl (Z4 Zaz (Za4 _)) (by simp only [List.length_append]) (by simp only [maxLen,List.length_append,List.length_nil];omega) (by simp only [List.length_append,List.length_nil];omega)));(case xb|xc|xe=>rfl);try refine wkD ?_)|(refine wkB ?_ ?_<;>intro hg_<;>try exact wkX)|fail)
 all_goals first
  | exact Zad rfl (Z8 Zae)
theorem f_specRepair (n1 n2 : Bool) (xs ys : List Int) (hv : diskOk xs ys = true) : Fn Tryz.prog 33 [diskP n1 xs n2 ys] (.v (diskP false (xs.take (scanF xs).2) true [])):=by
 obtain ⟨_,h1,h2,hb⟩:=Zbq hv
 have K1:=Zdc n1 n2 xs ys oM oM
 have K2:=Zce false false xs ys oM oM
 rw [hv] at K2
 have K3:=f_specScanFrames false xs hb
 have hn:=scanF_le hb
 generalize (scanF xs).2 = n at *
 generalize (scanF xs).1 = R at *
 have hl1:=Zr xs
 have hsl : ((ints xs).drop 0).take (n - 0) = ints (xs.take n):=by unfold ints; rw [List.drop_zero,Nat.sub_zero,List.map_take]
 have hlt:=Zr (xs.take n)
 have hlt2 : (xs.take n).length ≤ 2000:=by rw [List.length_take]; omega
 rw [← hsl] at hlt
 have hT : (diskP false (xs.take n) true [] : P0) = .agg [row false 1 (((ints xs).drop 0).take (n - 0)),row true 1 []]:=by rw [hsl]; rfl
 rw [hT]
 clear hT hv hb hsl
 refine Zy (l:=[.cell 2 28]) Tryz.func33 kRf rfl Tryz.ntmps33 rfl rfl ?_; simp only [argEnv,P0.d,Nat.reduceAdd,diskP,List.map_cons,List.map_nil]
 repeat' (first|refine wk ?_|((first|refine' w_q rfl rfl ?xa rfl ?_|refine' v_q rfl rfl ?xa rfl ?_|refine' Zm rfl rfl (Zd rfl) rfl ?xa rfl ?_|refine' Zo rfl rfl (Zd rfl) rfl ?xa rfl ?_);case xa=>first|exact Zg K1 rfl ⟨Zj (Za rfl) ⟨Zb,Zb,trivial⟩,trivial⟩|exact Zg K2 rfl ⟨Zj (Za rfl) ⟨Zb,Zb,trivial⟩,trivial⟩|exact Zg K3 rfl ⟨Zf (Za rfl),trivial⟩|exact Zap (a:=0) (b:=n) tbOk rfl rfl rfl rfl ⟨_,Za rfl⟩ oM oM)|((first|refine' w_e rfl ?xa ?xb ?xc ?xe ?_|refine' v_e rfl ?xa ?xb ?xc ?xe ?_);(case xa=>first|exact Zp [] tlOk rfl rfl rfl rfl rfl rfl (by simp [AllN]) (by simp)|exact Ze 22 rfl (Zw tlOk rfl rfl rfl rfl rfl rfl (Z4 Zaz (by first|exact Za4 _|exact fun e he=>Za4 xs e (List.mem_of_mem_drop (List.mem_of_mem_take he)))) rfl (by simp only [maxLen,List.length_nil];omega) (by simp only [List.length_nil];omega)));(case xb|xc|xe=>rfl);try refine wkD ?_)|(refine wkB ?_ ?_<;>intro hg_<;>try exact wkX)|fail)
 all_goals first
  | exact ret_v (Zam rfl rfl tyF0 rfl rfl rfl (Zal (by exact ⟨Z0 (Zk rfl) (by simp only [List.length_nil,Nat.zero_add,List.nil_append]),Zaq,trivial⟩)))
theorem Zcy (n1 n2 : Bool) (xs ys : List Int) (hn1 : n1 = true → xs = []) (hv : diskOk xs ys = true) : Fn Tryz.prog 13 [diskP n1 xs n2 ys] (.v (diskP n1 (xs.take (scanF xs).2) true [])):=by
 obtain ⟨_,h1,h2,hb⟩:=Zbq hv
 have K2:=Zcd n1 n2 xs ys oM oM
 rw [hv] at K2
 have K3:=f_implScanFrames n1 xs hb
 have hn:=scanF_le hb
 generalize (scanF xs).2 = n at *
 generalize (scanF xs).1 = R at *
 have hl1:=Zr xs
 have hsl : ((ints xs).drop 0).take (n - 0) = ints (xs.take n):=by unfold ints; rw [List.drop_zero,Nat.sub_zero,List.map_take]
 have KC:=f_cloneD n1 (xs.take n) (fun h=>by rw [hn1 h]; simp) (by rw [List.length_take]; omega)
 rw [← hsl] at KC
 have hT : (diskP n1 (xs.take n) true [] : P0) = .agg [row n1 1 (((ints xs).drop 0).take (n - 0)),row true 1 []]:=by rw [hsl]; rfl
 rw [hT]
 clear hT hv hb hsl hn1
 refine Zy (l:=[.cell 2 28]) Tryz.func13 kRf rfl Tryz.ntmps13 rfl rfl ?_; simp only [argEnv,P0.d,Nat.reduceAdd,diskP,List.map_cons,List.map_nil]
 repeat' (first|refine wk ?_|((first|refine' w_q rfl rfl ?xa rfl ?_|refine' v_q rfl rfl ?xa rfl ?_|refine' Zm rfl rfl (Zd rfl) rfl ?xa rfl ?_|refine' Zo rfl rfl (Zd rfl) rfl ?xa rfl ?_);case xa=>first|exact Zg K2 rfl ⟨Zj (Za rfl) ⟨Zb,Zb,trivial⟩,trivial⟩|exact Zg K3 rfl ⟨Zf (Za rfl),trivial⟩|exact Zg KC rfl ⟨Zf (Za rfl),trivial⟩|exact Zap (a:=0) (b:=n) tbOk rfl rfl rfl rfl ⟨_,Za rfl⟩ oM oM)|(refine wkB ?_ ?_<;>intro hg_<;>try exact wkX)|fail)
 all_goals first
  | exact ret_v (Zam rfl rfl tyF0 rfl rfl rfl (Zal (by exact ⟨Zae,Zaq,trivial⟩)))
def recL (xs : List Int) : List (List Int):=(scanF (xs.take (scanF xs).2 ++ [])).1
noncomputable def recS (m : Nat) (xs : List Int) : Option Sta:=match lastCk (recL xs) with
 | some s=>if stOk m s.r s.vs s.gs.length s.ms then some s else none
 | none=>none
theorem bytesOk_take {xs : List Int} {n : Nat} (h : bytesOk xs = true) : bytesOk (xs.take n) = true:=by
 have hl:=Zb2 h
 refine Zci (fun z hz=>?_) (by rw [List.length_take]; omega)
 obtain ⟨i,hi,rfl⟩:=List.getElem_of_mem (List.mem_of_mem_take hz)
 exact Zbt h i hi
theorem Zck {xs ys : List Int} {n : Nat} (h : diskOk xs ys = true) : diskOk (xs.take n) [] = true:=by
 obtain ⟨_,h1,_,hb⟩:=Zbq h
 unfold diskOk
 rw [bytesOk_take hb]
 have : bytesOk [] = true:=rfl
 rw [this]
 simp; omega
theorem f_specRecover (M : Nat) (nil n1 n2 : Bool) (es : List E3) (xs ys : List Int) (hM : M ≤ 16) (hg : gOk M es = true) (hv : diskOk xs ys = true) (hc : (recL xs).length ≤ 1048576) (hL : ∀ b ∈ recL xs,b.length ≤ 1048576) :
  Fn Tryz.prog 7 [graphP M nil es,diskP n1 xs n2 ys] (.v (match recS M xs with | some s=>stateR s | none=>stateP 0 false (List.replicate M 0) (List.replicate M true).isEmpty (List.replicate M true) true [])):=by
 have hl40:=Za1 hg
 obtain ⟨_,h1,h2,_⟩:=Zbq hv
 have K1:=Zdh M nil es oM
 have K2:=Zdc n1 n2 xs ys oM oM
 have K3:=Zb5 M false es (by simp only [maxLen]; omega)
 rw [hg] at K3
 have K4:=Zce false false xs ys oM oM
 rw [hv] at K4
 have K5:=f_specRepair false false xs ys hv
 have K6:=f_specRecords false true (xs.take (scanF xs).2) [] (Zck hv)
 rw [show (scanF (xs.take (scanF xs).2 ++ [])).1 = recL xs from rfl] at K6
 have K7:=f_specLast false (recL xs) hc hL
 have K8:=f_specStart M hM
 unfold recS
 generalize xs.take (scanF xs).2 = ts at *
 generalize recL xs = RL at *
 cases hk : lastCk RL with
 | none =>
  rw [hk] at K7
  dsimp only
  have K7' : Fn Tryz.prog 31 [.one (row false 1 (rowsI RL))] (.tup [stateP 0 true [] true [] true [],.one (bool false)]):=K7
  clear K7 hk hL
  refine Zy (l:=[.cell 4 34]) Tryz.func7 kRf rfl Tryz.ntmps7 rfl rfl ?_; simp only [argEnv,P0.d,Nat.reduceAdd,diskP,graphP,List.map_cons,List.map_nil]
  repeat' (first|refine wk ?_|((first|refine' w_q rfl rfl ?xa rfl ?_|refine' v_q rfl rfl ?xa rfl ?_|refine' Zm rfl rfl (Zd rfl) rfl ?xa rfl ?_|refine' Zo rfl rfl (Zd rfl) rfl ?xa rfl ?_);case xa=>first|exact Zg K1 rfl ⟨Zj (Za rfl) ⟨Zb,Zb,trivial⟩,trivial⟩|exact Zg K2 rfl ⟨Zj (Za rfl) ⟨Zb,Zb,trivial⟩,trivial⟩|exact Zg K3 rfl ⟨Zj (Za rfl) ⟨Zb,Zb,trivial⟩,trivial⟩|exact Zg K4 rfl ⟨Zj (Za rfl) ⟨Zb,Zb,trivial⟩,trivial⟩|exact Zg K5 rfl ⟨Zj (Za rfl) ⟨Zb,Zb,trivial⟩,trivial⟩|exact Zg K6 rfl ⟨Zj (Za rfl) ⟨Zb,Zb,trivial⟩,trivial⟩|exact Zg K7' rfl ⟨Zf (Za rfl),trivial⟩|exact Zg K8 rfl ⟨Zf (Za rfl),trivial⟩)|(refine wkB ?_ ?_<;>intro hg_<;>try exact wkX)|fail)
  all_goals first
   | exact ret_v (Zam rfl rfl tyF0 rfl rfl rfl (Zal (by exact ⟨Zae,Zae,Zae,Zae,trivial⟩)))
 | some s =>
  rw [hk] at K7
  have hF:=Sta.okF (lastCk_ok hk)
  obtain ⟨r,vs,gs,ms⟩:=s
  have b1 : vs.length ≤ 16:=hF.many
  have b2 : gs.length = vs.length:=hF.gl
  have b3 : ms.length ≤ 2000:=hF.ml
  have K7' : Fn Tryz.prog 31 [.one (row false 1 (rowsI RL))] (.tup [stateP r vs.isEmpty vs gs.isEmpty gs ms.isEmpty ms,.one (bool true)]):=K7
  have K9:=Zdk M r vs.isEmpty gs.isEmpty ms.isEmpty vs gs ms (by simp only [maxLen]; omega) (by simp only [maxLen]; omega) (by simp only [maxLen]; omega)
  dsimp only
  clear K7 hk hL hF
  generalize stOk M r vs gs.length ms = ok at *
  cases ok
  ·rw [if_neg (by decide)]
   dsimp only
   refine Zy (l:=[.cell 4 34]) Tryz.func7 kRf rfl Tryz.ntmps7 rfl rfl ?_; simp only [argEnv,P0.d,Nat.reduceAdd,diskP,graphP,List.map_cons,List.map_nil]
   repeat' (first|refine wk ?_|((first|refine' w_q rfl rfl ?xa rfl ?_|refine' v_q rfl rfl ?xa rfl ?_|refine' Zm rfl rfl (Zd rfl) rfl ?xa rfl ?_|refine' Zo rfl rfl (Zd rfl) rfl ?xa rfl ?_);case xa=>first|exact Zg K1 rfl ⟨Zj (Za rfl) ⟨Zb,Zb,trivial⟩,trivial⟩|exact Zg K2 rfl ⟨Zj (Za rfl) ⟨Zb,Zb,trivial⟩,trivial⟩|exact Zg K3 rfl ⟨Zj (Za rfl) ⟨Zb,Zb,trivial⟩,trivial⟩|exact Zg K4 rfl ⟨Zj (Za rfl) ⟨Zb,Zb,trivial⟩,trivial⟩|exact Zg K5 rfl ⟨Zj (Za rfl) ⟨Zb,Zb,trivial⟩,trivial⟩|exact Zg K6 rfl ⟨Zj (Za rfl) ⟨Zb,Zb,trivial⟩,trivial⟩|exact Zg K7' rfl ⟨Zf (Za rfl),trivial⟩|exact Zg K8 rfl ⟨Zf (Za rfl),trivial⟩|exact Zg K9 rfl ⟨Zj (Za rfl) ⟨Zb,Zb,Zb,Zb,trivial⟩,Zf (Za rfl),trivial⟩)|(refine wkB ?_ ?_<;>intro hg_<;>try exact wkX)|fail)
   all_goals first
    | exact ret_v (Zam rfl rfl tyF0 rfl rfl rfl (Zal (by exact ⟨Zae,Zae,Zae,Zae,trivial⟩)))
  ·rw [if_pos rfl]
   dsimp only
   refine Zy (l:=[.cell 4 34]) Tryz.func7 kRf rfl Tryz.ntmps7 rfl rfl ?_; simp only [argEnv,P0.d,Nat.reduceAdd,diskP,graphP,List.map_cons,List.map_nil]
   repeat' (first|refine wk ?_|((first|refine' w_q rfl rfl ?xa rfl ?_|refine' v_q rfl rfl ?xa rfl ?_|refine' Zm rfl rfl (Zd rfl) rfl ?xa rfl ?_|refine' Zo rfl rfl (Zd rfl) rfl ?xa rfl ?_);case xa=>first|exact Zg K1 rfl ⟨Zj (Za rfl) ⟨Zb,Zb,trivial⟩,trivial⟩|exact Zg K2 rfl ⟨Zj (Za rfl) ⟨Zb,Zb,trivial⟩,trivial⟩|exact Zg K3 rfl ⟨Zj (Za rfl) ⟨Zb,Zb,trivial⟩,trivial⟩|exact Zg K4 rfl ⟨Zj (Za rfl) ⟨Zb,Zb,trivial⟩,trivial⟩|exact Zg K5 rfl ⟨Zj (Za rfl) ⟨Zb,Zb,trivial⟩,trivial⟩|exact Zg K6 rfl ⟨Zj (Za rfl) ⟨Zb,Zb,trivial⟩,trivial⟩|exact Zg K7' rfl ⟨Zf (Za rfl),trivial⟩|exact Zg K8 rfl ⟨Zf (Za rfl),trivial⟩|exact Zg K9 rfl ⟨Zj (Za rfl) ⟨Zb,Zb,Zb,Zb,trivial⟩,Zf (Za rfl),trivial⟩)|(refine wkB ?_ ?_<;>intro hg_<;>try exact wkX)|fail)
   all_goals first
    | exact ret_v (Zam rfl rfl tyF0 rfl rfl rfl (Zal (by exact ⟨Zae,Zae,Zae,Zae,trivial⟩)))
theorem f_implRecover0 (M : Nat) (nil n1 n2 : Bool) (es : List E3) (xs ys : List Int) (hM : M ≤ 16) (hg : gOk M es = true) (hv : diskOk xs ys = true) (hn1 : n1 = true → xs = []) (hc : (recL xs).length ≤ 1048576) (hk : lastCk (recL xs) = none) :
  FnS Tryz.prog 5 [.agg [.r false (int (M : Int)),.r false (row nil 3 (edges es))],.agg [.r false (row n1 1 (ints xs)),.r false (row n2 1 (ints ys))]] [] (.agg [.r true (int 0),.own 2000001 0 M 1,.own 2000002 0 M 1,Zc]) [(2000001,.sl 3 1 true (ints (List.replicate M 0))),(2000002,.sl 4 1 true (bools (List.replicate M true)))]:=by
 have hl40:=Za1 hg
 obtain ⟨_,h1,h2,_⟩:=Zbq hv
 have K3:=Zcv M nil es (by simp only [maxLen]; omega)
 rw [hg] at K3
 have K4:=Zcd n1 n2 xs ys oM oM
 rw [hv] at K4
 have K5:=Zcy n1 n2 xs ys hn1 hv
 have K6:=Zcx n1 true (xs.take (scanF xs).2) [] (Zck hv)
 rw [show (scanF (xs.take (scanF xs).2 ++ [])).1 = recL xs from rfl] at K6
 have K7:=Zcw (decide (recL xs = [])) (recL xs) hc
 rw [hk] at K7
 unfold stT stH at K7
 have K8:=Zc1 M hM
 generalize xs.take (scanF xs).2 = ts at *
 generalize decide (recL xs = []) = nr at *
 generalize recL xs = RL at *
 clear hk
 refine Zab (l:=[.cell 4 34]) Tryz.func5 kRf rfl Tryz.ntmps5 rfl rfl ?_; simp only [dEnv,Nat.reduceAdd]
 repeat' (first|refine wk ?_|((first|refine' w_q rfl rfl ?xa rfl ?_|refine' v_q rfl rfl ?xa rfl ?_|refine' Zm rfl rfl (Zd rfl) rfl ?xa rfl ?_|refine' Zo rfl rfl (Zd rfl) rfl ?xa rfl ?_);case xa=>first|exact Zg K3 rfl ⟨Zj (Za rfl) ⟨Zb,Zb,trivial⟩,trivial⟩|exact Zg K4 rfl ⟨Zj (Za rfl) ⟨Zb,Zb,trivial⟩,trivial⟩|exact Zg K5 rfl ⟨Zj (Za rfl) ⟨Zb,Zb,trivial⟩,trivial⟩|exact Zg K6 rfl ⟨Zj (Za rfl) ⟨Zb,Zb,trivial⟩,trivial⟩)|((first|refine' w_e rfl ?xa ?xb ?xc ?xe ?_|refine' v_e rfl ?xa ?xb ?xc ?xe ?_);(case xa=>first|exact Ze 20 rfl (Zai (ys:=[.one (row nr 1 (rowsI RL))]) [] K7 rfl rfl ⟨Zf (Za rfl),trivial⟩ rfl rfl)|exact Ze 34 rfl (Zai (ys:=[iP (M : Int)]) [(2000001,501),(2000002,502)] K8 rfl rfl ⟨Zf (Za rfl),trivial⟩ rfl rfl));(case xb|xc|xe=>rfl);try refine wkD ?_)|(refine wkB ?_ ?_<;>intro hg_<;>try exact wkX)|fail)
 all_goals first
  | exact Zx [(2000001,501),(2000002,502)] rfl sbH (Zat rfl rfl tyF0 rfl rfl rfl (Z9 rfl))
theorem f_implRecoverNZZ (M : Nat) (nil n1 n2 : Bool) (es : List E3) (xs ys : List Int) (hM : M ≤ 16) (hg : gOk M es = true) (hv : diskOk xs ys = true) (hn1 : n1 = true → xs = []) (hc : (recL xs).length ≤ 1048576) (r : Int) (hk : lastCk (recL xs) = some ⟨r,[],[],[]⟩) (hst : stOk M r [] ([] : List Bool).length [] = false) :
  FnS Tryz.prog 5 [.agg [.r false (int (M : Int)),.r false (row nil 3 (edges es))],.agg [.r false (row n1 1 (ints xs)),.r false (row n2 1 (ints ys))]] [] (.agg [.r true (int 0),.own 2000001 0 M 1,.own 2000002 0 M 1,Zc]) [(2000001,.sl 3 1 true (ints (List.replicate M 0))),(2000002,.sl 4 1 true (bools (List.replicate M true)))]:=by
 have hl40:=Za1 hg
 obtain ⟨_,h1,h2,_⟩:=Zbq hv
 have K3:=Zcv M nil es (by simp only [maxLen]; omega)
 rw [hg] at K3
 have K4:=Zcd n1 n2 xs ys oM oM
 rw [hv] at K4
 have K5:=Zcy n1 n2 xs ys hn1 hv
 have K6:=Zcx n1 true (xs.take (scanF xs).2) [] (Zck hv)
 rw [show (scanF (xs.take (scanF xs).2 ++ [])).1 = recL xs from rfl] at K6
 have K7:=Zcw (decide (recL xs = [])) (recL xs) hc
 rw [hk] at K7
 have hT : stT (some ⟨r,[],[],[]⟩) = .tups [(true,[.r true (int r),Zc,Zc,Zc]),(false,[.r true (bool true)])]:=rfl
 have hH : stH (some ⟨r,[],[],[]⟩) = []:=rfl
 rw [hT,hH] at K7
 clear hT hH
 have K9:=Zcz M r true true true [] [] [] (by simp only [maxLen,List.length_nil]; omega) (by simp only [maxLen,List.length_nil]; omega) (by simp only [maxLen,List.length_nil]; omega)
 rw [hst] at K9
 have K8:=Zc1 M hM
 generalize xs.take (scanF xs).2 = ts at *
 generalize decide (recL xs = []) = nr at *
 generalize recL xs = RL at *
 clear hk
 refine Zab (l:=[.cell 4 34]) Tryz.func5 kRf rfl Tryz.ntmps5 rfl rfl ?_; simp only [dEnv,Nat.reduceAdd]
 repeat' (first|refine wk ?_|((first|refine' w_q rfl rfl ?xa rfl ?_|refine' v_q rfl rfl ?xa rfl ?_|refine' Zm rfl rfl (Zd rfl) rfl ?xa rfl ?_|refine' Zo rfl rfl (Zd rfl) rfl ?xa rfl ?_);case xa=>first|exact Zg K3 rfl ⟨Zj (Za rfl) ⟨Zb,Zb,trivial⟩,trivial⟩|exact Zg K4 rfl ⟨Zj (Za rfl) ⟨Zb,Zb,trivial⟩,trivial⟩|exact Zg K5 rfl ⟨Zj (Za rfl) ⟨Zb,Zb,trivial⟩,trivial⟩|exact Zg K6 rfl ⟨Zj (Za rfl) ⟨Zb,Zb,trivial⟩,trivial⟩|exact Zg K9 rfl ⟨Zj (Za rfl) ⟨Zb,Zar,Zar,Zar,trivial⟩,Zf (Za rfl),trivial⟩)|((first|refine' w_e rfl ?xa ?xb ?xc ?xe ?_|refine' v_e rfl ?xa ?xb ?xc ?xe ?_);(case xa=>first|exact Ze 20 rfl (Zai (ys:=[.one (row nr 1 (rowsI RL))]) [(2000001,501),(2000002,502),(2000003,503)] K7 rfl rfl ⟨Zf (Za rfl),trivial⟩ rfl rfl)|exact Ze 34 rfl (Zai (ys:=[iP (M : Int)]) [(2000001,504),(2000002,505)] K8 rfl rfl ⟨Zf (Za rfl),trivial⟩ rfl rfl));(case xb|xc|xe=>rfl);try refine wkD ?_)|(refine wkB ?_ ?_<;>intro hg_<;>try exact wkX)|fail)
 all_goals first
  | exact Zx [(2000001,504),(2000002,505),(2000003,503)] rfl sbH (Zat rfl rfl tyF0 rfl rfl rfl (Z9 rfl))
theorem f_implRecoverYZZ (M : Nat) (nil n1 n2 : Bool) (es : List E3) (xs ys : List Int) (hM : M ≤ 16) (hg : gOk M es = true) (hv : diskOk xs ys = true) (hn1 : n1 = true → xs = []) (hc : (recL xs).length ≤ 1048576) (r : Int) (hk : lastCk (recL xs) = some ⟨r,[],[],[]⟩) (hst : stOk M r [] ([] : List Bool).length [] = true) :
  FnS Tryz.prog 5 [.agg [.r false (int (M : Int)),.r false (row nil 3 (edges es))],.agg [.r false (row n1 1 (ints xs)),.r false (row n2 1 (ints ys))]] [] (.agg [.r true (int r),Zc,Zc,Zc]) []:=by
 have hl40:=Za1 hg
 obtain ⟨_,h1,h2,_⟩:=Zbq hv
 have K3:=Zcv M nil es (by simp only [maxLen]; omega)
 rw [hg] at K3
 have K4:=Zcd n1 n2 xs ys oM oM
 rw [hv] at K4
 have K5:=Zcy n1 n2 xs ys hn1 hv
 have K6:=Zcx n1 true (xs.take (scanF xs).2) [] (Zck hv)
 rw [show (scanF (xs.take (scanF xs).2 ++ [])).1 = recL xs from rfl] at K6
 have K7:=Zcw (decide (recL xs = [])) (recL xs) hc
 rw [hk] at K7
 have hT : stT (some ⟨r,[],[],[]⟩) = .tups [(true,[.r true (int r),Zc,Zc,Zc]),(false,[.r true (bool true)])]:=rfl
 have hH : stH (some ⟨r,[],[],[]⟩) = []:=rfl
 rw [hT,hH] at K7
 clear hT hH
 have K9:=Zcz M r true true true [] [] [] (by simp only [maxLen,List.length_nil]; omega) (by simp only [maxLen,List.length_nil]; omega) (by simp only [maxLen,List.length_nil]; omega)
 rw [hst] at K9
 have K8:=Zc1 M hM
 generalize xs.take (scanF xs).2 = ts at *
 generalize decide (recL xs = []) = nr at *
 generalize recL xs = RL at *
 clear hk
 refine Zab (l:=[.cell 4 34]) Tryz.func5 kRf rfl Tryz.ntmps5 rfl rfl ?_; simp only [dEnv,Nat.reduceAdd]
 repeat' (first|refine wk ?_|((first|refine' w_q rfl rfl ?xa rfl ?_|refine' v_q rfl rfl ?xa rfl ?_|refine' Zm rfl rfl (Zd rfl) rfl ?xa rfl ?_|refine' Zo rfl rfl (Zd rfl) rfl ?xa rfl ?_);case xa=>first|exact Zg K3 rfl ⟨Zj (Za rfl) ⟨Zb,Zb,trivial⟩,trivial⟩|exact Zg K4 rfl ⟨Zj (Za rfl) ⟨Zb,Zb,trivial⟩,trivial⟩|exact Zg K5 rfl ⟨Zj (Za rfl) ⟨Zb,Zb,trivial⟩,trivial⟩|exact Zg K6 rfl ⟨Zj (Za rfl) ⟨Zb,Zb,trivial⟩,trivial⟩|exact Zg K9 rfl ⟨Zj (Za rfl) ⟨Zb,Zar,Zar,Zar,trivial⟩,Zf (Za rfl),trivial⟩)|((first|refine' w_e rfl ?xa ?xb ?xc ?xe ?_|refine' v_e rfl ?xa ?xb ?xc ?xe ?_);(case xa=>first|exact Ze 20 rfl (Zai (ys:=[.one (row nr 1 (rowsI RL))]) [(2000001,501),(2000002,502),(2000003,503)] K7 rfl rfl ⟨Zf (Za rfl),trivial⟩ rfl rfl)|exact Ze 34 rfl (Zai (ys:=[iP (M : Int)]) [(2000001,504),(2000002,505)] K8 rfl rfl ⟨Zf (Za rfl),trivial⟩ rfl rfl));(case xb|xc|xe=>rfl);try refine wkD ?_)|(refine wkB ?_ ?_<;>intro hg_<;>try exact wkX)|fail)
 all_goals first
  | exact Zx [(2000001,501),(2000002,502),(2000003,503)] rfl sbH (Zat rfl rfl tyF0 rfl rfl rfl (Z9 rfl))
theorem f_implRecoverNOZ (M : Nat) (nil n1 n2 : Bool) (es : List E3) (xs ys : List Int) (hM : M ≤ 16) (hg : gOk M es = true) (hv : diskOk xs ys = true) (hn1 : n1 = true → xs = []) (hc : (recL xs).length ≤ 1048576) (r : Int) (vs : List Int) (gs : List Bool) (hvs : vs ≠ []) (hgl : gs.length = vs.length) (b1 : vs.length ≤ 16) (hk : lastCk (recL xs) = some ⟨r,vs,gs,[]⟩) (hst : stOk M r vs (gs : List Bool).length [] = false) :
  FnS Tryz.prog 5 [.agg [.r false (int (M : Int)),.r false (row nil 3 (edges es))],.agg [.r false (row n1 1 (ints xs)),.r false (row n2 1 (ints ys))]] [] (.agg [.r true (int 0),.own 2000001 0 M 1,.own 2000002 0 M 1,Zc]) [(2000001,.sl 3 1 true (ints (List.replicate M 0))),(2000002,.sl 4 1 true (bools (List.replicate M true)))]:=by
 have hl40:=Za1 hg
 obtain ⟨_,h1,h2,_⟩:=Zbq hv
 have K3:=Zcv M nil es (by simp only [maxLen]; omega)
 rw [hg] at K3
 have K4:=Zcd n1 n2 xs ys oM oM
 rw [hv] at K4
 have K5:=Zcy n1 n2 xs ys hn1 hv
 have K6:=Zcx n1 true (xs.take (scanF xs).2) [] (Zck hv)
 rw [show (scanF (xs.take (scanF xs).2 ++ [])).1 = recL xs from rfl] at K6
 have K7:=Zcw (decide (recL xs = [])) (recL xs) hc
 rw [hk] at K7
 have hve : vs.isEmpty = false:=by cases vs with
  | nil=>exact absurd rfl hvs
  | cons x y=>rfl
 have hvi:=(Zr vs).symm
 have hgi:=(Zag gs).symm
 have hT : stT (some ⟨r,vs,gs,[]⟩) = .tups [(true,[.r true (int r),.own 2000001 0 vs.length 1,.own 2000002 0 gs.length 1,Zc]),(false,[.r true (bool true)])]:=by simp only [stT,rowC,hve]; rfl
 have hH : stH (some ⟨r,vs,gs,[]⟩) = [(2000001,.sl 3 1 true (ints vs)),(2000002,.sl 4 1 true (bools gs))]:=by simp only [stH,hve]; rfl
 rw [hT,hH] at K7
 clear hT hH
 have K9:=Zcz M r false false true vs gs [] (by simp only [maxLen]; omega) (by simp only [maxLen]; omega) (by simp only [maxLen,List.length_nil]; omega)
 rw [hst] at K9
 have K8:=Zc1 M hM
 generalize xs.take (scanF xs).2 = ts at *
 generalize decide (recL xs = []) = nr at *
 generalize recL xs = RL at *
 clear hk
 refine Zab (l:=[.cell 4 34]) Tryz.func5 kRf rfl Tryz.ntmps5 rfl rfl ?_; simp only [dEnv,Nat.reduceAdd]
 repeat' (first|refine wk ?_|((first|refine' w_q rfl rfl ?xa rfl ?_|refine' v_q rfl rfl ?xa rfl ?_|refine' Zm rfl rfl (Zd rfl) rfl ?xa rfl ?_|refine' Zo rfl rfl (Zd rfl) rfl ?xa rfl ?_);case xa=>first|exact Zg K3 rfl ⟨Zj (Za rfl) ⟨Zb,Zb,trivial⟩,trivial⟩|exact Zg K4 rfl ⟨Zj (Za rfl) ⟨Zb,Zb,trivial⟩,trivial⟩|exact Zg K5 rfl ⟨Zj (Za rfl) ⟨Zb,Zb,trivial⟩,trivial⟩|exact Zg K6 rfl ⟨Zj (Za rfl) ⟨Zb,Zb,trivial⟩,trivial⟩|exact Zg K9 rfl ⟨Zj (Za rfl) ⟨Zb,Zah (Zk rfl) hvi,Zah (Zk rfl) hgi,Zar,trivial⟩,Zf (Za rfl),trivial⟩)|((first|refine' w_e rfl ?xa ?xb ?xc ?xe ?_|refine' v_e rfl ?xa ?xb ?xc ?xe ?_);(case xa=>first|exact Ze 20 rfl (Zai (ys:=[.one (row nr 1 (rowsI RL))]) [(2000001,501),(2000002,502),(2000003,503)] K7 rfl rfl ⟨Zf (Za rfl),trivial⟩ rfl rfl)|exact Ze 34 rfl (Zai (ys:=[iP (M : Int)]) [(2000001,504),(2000002,505)] K8 rfl rfl ⟨Zf (Za rfl),trivial⟩ rfl rfl));(case xb|xc|xe=>rfl);try refine wkD ?_)|(refine wkB ?_ ?_<;>intro hg_<;>try exact wkX)|fail)
 all_goals first
  | exact Zx [(2000001,504),(2000002,505),(2000003,503)] rfl sbH (Zat rfl rfl tyF0 rfl rfl rfl (Z9 rfl))
theorem f_implRecoverYOZ (M : Nat) (nil n1 n2 : Bool) (es : List E3) (xs ys : List Int) (hM : M ≤ 16) (hg : gOk M es = true) (hv : diskOk xs ys = true) (hn1 : n1 = true → xs = []) (hc : (recL xs).length ≤ 1048576) (r : Int) (vs : List Int) (gs : List Bool) (hvs : vs ≠ []) (hgl : gs.length = vs.length) (b1 : vs.length ≤ 16) (hk : lastCk (recL xs) = some ⟨r,vs,gs,[]⟩) (hst : stOk M r vs (gs : List Bool).length [] = true) :
  FnS Tryz.prog 5 [.agg [.r false (int (M : Int)),.r false (row nil 3 (edges es))],.agg [.r false (row n1 1 (ints xs)),.r false (row n2 1 (ints ys))]] [] (.agg [.r true (int r),.own 2000001 0 vs.length 1,.own 2000002 0 gs.length 1,Zc]) [(2000001,.sl 3 1 true (ints vs)),(2000002,.sl 4 1 true (bools gs))]:=by
 have hl40:=Za1 hg
 obtain ⟨_,h1,h2,_⟩:=Zbq hv
 have K3:=Zcv M nil es (by simp only [maxLen]; omega)
 rw [hg] at K3
 have K4:=Zcd n1 n2 xs ys oM oM
 rw [hv] at K4
 have K5:=Zcy n1 n2 xs ys hn1 hv
 have K6:=Zcx n1 true (xs.take (scanF xs).2) [] (Zck hv)
 rw [show (scanF (xs.take (scanF xs).2 ++ [])).1 = recL xs from rfl] at K6
 have K7:=Zcw (decide (recL xs = [])) (recL xs) hc
 rw [hk] at K7
 have hve : vs.isEmpty = false:=by cases vs with
  | nil=>exact absurd rfl hvs
  | cons x y=>rfl
 have hvi:=(Zr vs).symm
 have hgi:=(Zag gs).symm
 have hT : stT (some ⟨r,vs,gs,[]⟩) = .tups [(true,[.r true (int r),.own 2000001 0 vs.length 1,.own 2000002 0 gs.length 1,Zc]),(false,[.r true (bool true)])]:=by simp only [stT,rowC,hve]; rfl
 have hH : stH (some ⟨r,vs,gs,[]⟩) = [(2000001,.sl 3 1 true (ints vs)),(2000002,.sl 4 1 true (bools gs))]:=by simp only [stH,hve]; rfl
 rw [hT,hH] at K7
 clear hT hH
 have K9:=Zcz M r false false true vs gs [] (by simp only [maxLen]; omega) (by simp only [maxLen]; omega) (by simp only [maxLen,List.length_nil]; omega)
 rw [hst] at K9
 have K8:=Zc1 M hM
 generalize xs.take (scanF xs).2 = ts at *
 generalize decide (recL xs = []) = nr at *
 generalize recL xs = RL at *
 clear hk
 refine Zab (l:=[.cell 4 34]) Tryz.func5 kRf rfl Tryz.ntmps5 rfl rfl ?_; simp only [dEnv,Nat.reduceAdd]
 repeat' (first|refine wk ?_|((first|refine' w_q rfl rfl ?xa rfl ?_|refine' v_q rfl rfl ?xa rfl ?_|refine' Zm rfl rfl (Zd rfl) rfl ?xa rfl ?_|refine' Zo rfl rfl (Zd rfl) rfl ?xa rfl ?_);case xa=>first|exact Zg K3 rfl ⟨Zj (Za rfl) ⟨Zb,Zb,trivial⟩,trivial⟩|exact Zg K4 rfl ⟨Zj (Za rfl) ⟨Zb,Zb,trivial⟩,trivial⟩|exact Zg K5 rfl ⟨Zj (Za rfl) ⟨Zb,Zb,trivial⟩,trivial⟩|exact Zg K6 rfl ⟨Zj (Za rfl) ⟨Zb,Zb,trivial⟩,trivial⟩|exact Zg K9 rfl ⟨Zj (Za rfl) ⟨Zb,Zah (Zk rfl) hvi,Zah (Zk rfl) hgi,Zar,trivial⟩,Zf (Za rfl),trivial⟩)|((first|refine' w_e rfl ?xa ?xb ?xc ?xe ?_|refine' v_e rfl ?xa ?xb ?xc ?xe ?_);(case xa=>first|exact Ze 20 rfl (Zai (ys:=[.one (row nr 1 (rowsI RL))]) [(2000001,501),(2000002,502),(2000003,503)] K7 rfl rfl ⟨Zf (Za rfl),trivial⟩ rfl rfl)|exact Ze 34 rfl (Zai (ys:=[iP (M : Int)]) [(2000001,504),(2000002,505)] K8 rfl rfl ⟨Zf (Za rfl),trivial⟩ rfl rfl));(case xb|xc|xe=>rfl);try refine wkD ?_)|(refine wkB ?_ ?_<;>intro hg_<;>try exact wkX)|fail)
 all_goals first
  | exact Zx [(2000001,501),(2000002,502),(2000003,503)] rfl sbH (Zat rfl rfl tyF0 rfl rfl rfl (Z9 rfl))
theorem f_implRecoverNOO (M : Nat) (nil n1 n2 : Bool) (es : List E3) (xs ys : List Int) (hM : M ≤ 16) (hg : gOk M es = true) (hv : diskOk xs ys = true) (hn1 : n1 = true → xs = []) (hc : (recL xs).length ≤ 1048576) (r : Int) (vs : List Int) (gs : List Bool) (hvs : vs ≠ []) (hgl : gs.length = vs.length) (ms : List E3) (hms : ms ≠ []) (b1 : vs.length ≤ 16) (b3 : ms.length ≤ 2000) (hk : lastCk (recL xs) = some ⟨r,vs,gs,ms⟩) (hst : stOk M r vs (gs : List Bool).length ms = false) :
  FnS Tryz.prog 5 [.agg [.r false (int (M : Int)),.r false (row nil 3 (edges es))],.agg [.r false (row n1 1 (ints xs)),.r false (row n2 1 (ints ys))]] [] (.agg [.r true (int 0),.own 2000001 0 M 1,.own 2000002 0 M 1,Zc]) [(2000001,.sl 3 1 true (ints (List.replicate M 0))),(2000002,.sl 4 1 true (bools (List.replicate M true)))]:=by
 have hl40:=Za1 hg
 obtain ⟨_,h1,h2,_⟩:=Zbq hv
 have K3:=Zcv M nil es (by simp only [maxLen]; omega)
 rw [hg] at K3
 have K4:=Zcd n1 n2 xs ys oM oM
 rw [hv] at K4
 have K5:=Zcy n1 n2 xs ys hn1 hv
 have K6:=Zcx n1 true (xs.take (scanF xs).2) [] (Zck hv)
 rw [show (scanF (xs.take (scanF xs).2 ++ [])).1 = recL xs from rfl] at K6
 have K7:=Zcw (decide (recL xs = [])) (recL xs) hc
 rw [hk] at K7
 have hve : vs.isEmpty = false:=by cases vs with
  | nil=>exact absurd rfl hvs
  | cons x y=>rfl
 have hvi:=(Zr vs).symm
 have hgi:=(Zag gs).symm
 have hme : ms.isEmpty = false:=by cases ms with
  | nil=>exact absurd rfl hms
  | cons x y=>rfl
 have hmi:=(Zq ms).symm
 have hT : stT (some ⟨r,vs,gs,ms⟩) = .tups [(true,[.r true (int r),.own 2000001 0 vs.length 1,.own 2000002 0 gs.length 1,.own 2000003 0 ms.length 3]),(false,[.r true (bool true)])]:=by simp only [stT,rowC,hve,hme]; rfl
 have hH : stH (some ⟨r,vs,gs,ms⟩) = [(2000001,.sl 3 1 true (ints vs)),(2000002,.sl 4 1 true (bools gs)),(2000003,.sl 87 3 true (edges ms))]:=by simp only [stH,hve,hme]; rfl
 rw [hT,hH] at K7
 clear hT hH
 have K9:=Zcz M r false false false vs gs ms (by simp only [maxLen]; omega) (by simp only [maxLen]; omega) (by simp only [maxLen]; omega)
 rw [hst] at K9
 have K8:=Zc1 M hM
 generalize xs.take (scanF xs).2 = ts at *
 generalize decide (recL xs = []) = nr at *
 generalize recL xs = RL at *
 clear hk
 refine Zab (l:=[.cell 4 34]) Tryz.func5 kRf rfl Tryz.ntmps5 rfl rfl ?_; simp only [dEnv,Nat.reduceAdd]
 repeat' (first|refine wk ?_|((first|refine' w_q rfl rfl ?xa rfl ?_|refine' v_q rfl rfl ?xa rfl ?_|refine' Zm rfl rfl (Zd rfl) rfl ?xa rfl ?_|refine' Zo rfl rfl (Zd rfl) rfl ?xa rfl ?_);case xa=>first|exact Zg K3 rfl ⟨Zj (Za rfl) ⟨Zb,Zb,trivial⟩,trivial⟩|exact Zg K4 rfl ⟨Zj (Za rfl) ⟨Zb,Zb,trivial⟩,trivial⟩|exact Zg K5 rfl ⟨Zj (Za rfl) ⟨Zb,Zb,trivial⟩,trivial⟩|exact Zg K6 rfl ⟨Zj (Za rfl) ⟨Zb,Zb,trivial⟩,trivial⟩|exact Zg K9 rfl ⟨Zj (Za rfl) ⟨Zb,Zah (Zk rfl) hvi,Zah (Zk rfl) hgi,Zah (Zk rfl) hmi,trivial⟩,Zf (Za rfl),trivial⟩)|((first|refine' w_e rfl ?xa ?xb ?xc ?xe ?_|refine' v_e rfl ?xa ?xb ?xc ?xe ?_);(case xa=>first|exact Ze 20 rfl (Zai (ys:=[.one (row nr 1 (rowsI RL))]) [(2000001,501),(2000002,502),(2000003,503)] K7 rfl rfl ⟨Zf (Za rfl),trivial⟩ rfl rfl)|exact Ze 34 rfl (Zai (ys:=[iP (M : Int)]) [(2000001,504),(2000002,505)] K8 rfl rfl ⟨Zf (Za rfl),trivial⟩ rfl rfl));(case xb|xc|xe=>rfl);try refine wkD ?_)|(refine wkB ?_ ?_<;>intro hg_<;>try exact wkX)|fail)
 all_goals first
  | exact Zx [(2000001,504),(2000002,505),(2000003,503)] rfl sbH (Zat rfl rfl tyF0 rfl rfl rfl (Z9 rfl))
theorem f_implRecoverYOO (M : Nat) (nil n1 n2 : Bool) (es : List E3) (xs ys : List Int) (hM : M ≤ 16) (hg : gOk M es = true) (hv : diskOk xs ys = true) (hn1 : n1 = true → xs = []) (hc : (recL xs).length ≤ 1048576) (r : Int) (vs : List Int) (gs : List Bool) (hvs : vs ≠ []) (hgl : gs.length = vs.length) (ms : List E3) (hms : ms ≠ []) (b1 : vs.length ≤ 16) (b3 : ms.length ≤ 2000) (hk : lastCk (recL xs) = some ⟨r,vs,gs,ms⟩) (hst : stOk M r vs (gs : List Bool).length ms = true) :
  FnS Tryz.prog 5 [.agg [.r false (int (M : Int)),.r false (row nil 3 (edges es))],.agg [.r false (row n1 1 (ints xs)),.r false (row n2 1 (ints ys))]] [] (.agg [.r true (int r),.own 2000001 0 vs.length 1,.own 2000002 0 gs.length 1,.own 2000003 0 ms.length 3]) [(2000001,.sl 3 1 true (ints vs)),(2000002,.sl 4 1 true (bools gs)),(2000003,.sl 87 3 true (edges ms))]:=by
 have hl40:=Za1 hg
 obtain ⟨_,h1,h2,_⟩:=Zbq hv
 have K3:=Zcv M nil es (by simp only [maxLen]; omega)
 rw [hg] at K3
 have K4:=Zcd n1 n2 xs ys oM oM
 rw [hv] at K4
 have K5:=Zcy n1 n2 xs ys hn1 hv
 have K6:=Zcx n1 true (xs.take (scanF xs).2) [] (Zck hv)
 rw [show (scanF (xs.take (scanF xs).2 ++ [])).1 = recL xs from rfl] at K6
 have K7:=Zcw (decide (recL xs = [])) (recL xs) hc
 rw [hk] at K7
 have hve : vs.isEmpty = false:=by cases vs with
  | nil=>exact absurd rfl hvs
  | cons x y=>rfl
 have hvi:=(Zr vs).symm
 have hgi:=(Zag gs).symm
 have hme : ms.isEmpty = false:=by cases ms with
  | nil=>exact absurd rfl hms
  | cons x y=>rfl
 have hmi:=(Zq ms).symm
 have hT : stT (some ⟨r,vs,gs,ms⟩) = .tups [(true,[.r true (int r),.own 2000001 0 vs.length 1,.own 2000002 0 gs.length 1,.own 2000003 0 ms.length 3]),(false,[.r true (bool true)])]:=by simp only [stT,rowC,hve,hme]; rfl
 have hH : stH (some ⟨r,vs,gs,ms⟩) = [(2000001,.sl 3 1 true (ints vs)),(2000002,.sl 4 1 true (bools gs)),(2000003,.sl 87 3 true (edges ms))]:=by simp only [stH,hve,hme]; rfl
 rw [hT,hH] at K7
 clear hT hH
 have K9:=Zcz M r false false false vs gs ms (by simp only [maxLen]; omega) (by simp only [maxLen]; omega) (by simp only [maxLen]; omega)
 rw [hst] at K9
 have K8:=Zc1 M hM
 generalize xs.take (scanF xs).2 = ts at *
 generalize decide (recL xs = []) = nr at *
 generalize recL xs = RL at *
 clear hk
 refine Zab (l:=[.cell 4 34]) Tryz.func5 kRf rfl Tryz.ntmps5 rfl rfl ?_; simp only [dEnv,Nat.reduceAdd]
 repeat' (first|refine wk ?_|((first|refine' w_q rfl rfl ?xa rfl ?_|refine' v_q rfl rfl ?xa rfl ?_|refine' Zm rfl rfl (Zd rfl) rfl ?xa rfl ?_|refine' Zo rfl rfl (Zd rfl) rfl ?xa rfl ?_);case xa=>first|exact Zg K3 rfl ⟨Zj (Za rfl) ⟨Zb,Zb,trivial⟩,trivial⟩|exact Zg K4 rfl ⟨Zj (Za rfl) ⟨Zb,Zb,trivial⟩,trivial⟩|exact Zg K5 rfl ⟨Zj (Za rfl) ⟨Zb,Zb,trivial⟩,trivial⟩|exact Zg K6 rfl ⟨Zj (Za rfl) ⟨Zb,Zb,trivial⟩,trivial⟩|exact Zg K9 rfl ⟨Zj (Za rfl) ⟨Zb,Zah (Zk rfl) hvi,Zah (Zk rfl) hgi,Zah (Zk rfl) hmi,trivial⟩,Zf (Za rfl),trivial⟩)|((first|refine' w_e rfl ?xa ?xb ?xc ?xe ?_|refine' v_e rfl ?xa ?xb ?xc ?xe ?_);(case xa=>first|exact Ze 20 rfl (Zai (ys:=[.one (row nr 1 (rowsI RL))]) [(2000001,501),(2000002,502),(2000003,503)] K7 rfl rfl ⟨Zf (Za rfl),trivial⟩ rfl rfl)|exact Ze 34 rfl (Zai (ys:=[iP (M : Int)]) [(2000001,504),(2000002,505)] K8 rfl rfl ⟨Zf (Za rfl),trivial⟩ rfl rfl));(case xb|xc|xe=>rfl);try refine wkD ?_)|(refine wkB ?_ ?_<;>intro hg_<;>try exact wkX)|fail)
 all_goals first
  | exact Zx [(2000001,501),(2000002,502),(2000003,503)] rfl sbH (Zat rfl rfl tyF0 rfl rfl rfl (Z9 rfl))
end Go.Proofs.YtmkijbfiilpccaaGreat.Abs
