/- RecoverState of both texts for invalid arguments; how long records are. No statement of the seat is proved here. -/
import Derived.Lib.Hide
import Derived.Test.YtmkijbfiilpccaaGreatRsTy
import Derived.Test.YtmkijbfiilpccaaGreatRsARecs
set_option linter.unusedSimpArgs false
set_option linter.unusedVariables false
set_option maxRecDepth 100000
set_option maxHeartbeats 4000000
namespace Go.Proofs.YtmkijbfiilpccaaGreat.Abs
open Go.RowKit
open R (val row ref)
theorem scanF_cntR {xs : List Int} (hx : bytesOk xs = true) : (scanF xs).1.length ≤ 2001:=by
 have hs:=scan_its (xs:=xs) xs.length 0 oM (Nat.zero_le _)
 rw [List.drop_zero] at hs
 have h2:=itsF_len xs (xs.length + 1 - 0) 0
 have h3:=Zb2 hx
 rw [hs.1,List.length_map]; unfold itsA; omega
theorem recL_len {xs ys : List Int} (h : diskOk xs ys = true) : (recL xs).length ≤ 1048576 ∧ ∀ b ∈ recL xs,b.length ≤ 1048576:=by
 obtain ⟨_,_,_,hb⟩:=Zbq h
 have ht : bytesOk (xs.take (scanF xs).2 ++ []) = true:=by rw [List.append_nil]; exact bytesOk_take hb
 have h1:=scanF_cntR ht
 have h2:=(scanF_inv _ _ (Nat.le_refl _) ht).1
 refine ⟨by unfold recL; omega,fun b hb'=>?_⟩
 have:=h2 b hb'
 unfold bodyOk at this
 simp only [Bool.and_eq_true,decide_eq_true_eq] at this
 omega
theorem f_specRecoverBad (m : Int) (nil n1 n2 : Bool) (es : List E3) (xs ys : List Int) (hl : es.length ≤ 1048576) (h1 : xs.length ≤ 1048576) (h2 : ys.length ≤ 1048576) (hv : (gOk m es && diskOk xs ys) = false) :
  Fn Tryz.prog 7 [graphP m nil es,diskP n1 xs n2 ys] (.v (stateP 0 true [] true [] true [])):=by
 have K1:=Zdh m nil es hl
 have K2:=Zdc n1 n2 xs ys h1 h2
 have K3:=Zb5 m false es (by simp only [maxLen]; omega)
 have K4:=Zce false false xs ys h1 h2
 cases hg : gOk m es
 all_goals
  rw [hg] at K3 hv
  try rw [Bool.true_and] at hv
  try rw [hv] at K4
  refine Zy (l:=[.cell 4 34]) Tryz.func7 kRf rfl Tryz.ntmps7 rfl rfl ?_; simp only [argEnv,P0.d,Nat.reduceAdd,diskP,graphP,List.map_cons,List.map_nil]
  repeat' (first|refine wk ?_|((first|refine' w_q rfl rfl ?xa rfl ?_|refine' v_q rfl rfl ?xa rfl ?_|refine' Zm rfl rfl (Zd rfl) rfl ?xa rfl ?_|refine' Zo rfl rfl (Zd rfl) rfl ?xa rfl ?_);case xa=>first|exact Zg K1 rfl ⟨Zj (Za rfl) ⟨Zb,Zb,trivial⟩,trivial⟩|exact Zg K2 rfl ⟨Zj (Za rfl) ⟨Zb,Zb,trivial⟩,trivial⟩|exact Zg K3 rfl ⟨Zj (Za rfl) ⟨Zb,Zb,trivial⟩,trivial⟩|exact Zg K4 rfl ⟨Zj (Za rfl) ⟨Zb,Zb,trivial⟩,trivial⟩)|(refine wkB ?_ ?_<;>intro hg_<;>try exact wkX)|fail)
  all_goals first
   | exact ret_v (Zam rfl rfl tyF0 rfl rfl rfl (Zal (by exact ⟨Za8,Zaq,Zaq,Zaq,trivial⟩)))
   | (exfalso; simp at hg_; done)
theorem f_implRecoverBad (m : Int) (nil n1 n2 : Bool) (es : List E3) (xs ys : List Int) (hl : es.length ≤ 1048576) (h1 : xs.length ≤ 1048576) (h2 : ys.length ≤ 1048576) (hv : (gOk m es && diskOk xs ys) = false) :
  FnS Tryz.prog 5 [.agg [.r false (int m),.r false (row nil 3 (edges es))],.agg [.r false (row n1 1 (ints xs)),.r false (row n2 1 (ints ys))]] [] (.agg [.r true (int 0),Zc,Zc,Zc]) []:=by
 have K3:=Zcv m nil es (by simp only [maxLen]; omega)
 have K4:=Zcd n1 n2 xs ys h1 h2
 cases hg : gOk m es
 all_goals
  rw [hg] at K3 hv
  try rw [Bool.true_and] at hv
  try rw [hv] at K4
  refine Zab (l:=[.cell 4 34]) Tryz.func5 kRf rfl Tryz.ntmps5 rfl rfl ?_; simp only [dEnv,Nat.reduceAdd]
  repeat' (first|refine wk ?_|((first|refine' w_q rfl rfl ?xa rfl ?_|refine' v_q rfl rfl ?xa rfl ?_|refine' Zm rfl rfl (Zd rfl) rfl ?xa rfl ?_|refine' Zo rfl rfl (Zd rfl) rfl ?xa rfl ?_);case xa=>first|exact Zg K3 rfl ⟨Zj (Za rfl) ⟨Zb,Zb,trivial⟩,trivial⟩|exact Zg K4 rfl ⟨Zj (Za rfl) ⟨Zb,Zb,trivial⟩,trivial⟩)|(refine wkB ?_ ?_<;>intro hg_<;>try exact wkX)|fail)
  all_goals first
   | exact Zx [] rfl sbH (Zat rfl rfl tyF0 rfl rfl rfl (Z9 rfl))
   | (exfalso; simp at hg_; done)
end Go.Proofs.YtmkijbfiilpccaaGreat.Abs
