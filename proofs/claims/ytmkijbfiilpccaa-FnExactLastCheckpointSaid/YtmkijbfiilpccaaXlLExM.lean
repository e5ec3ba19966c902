/- FnExactLastCheckpoint by states: the law. No statement of the seat is proved here. -/
import Derived.Lib.Hide
import Derived.Test.YtmkijbfiilpccaaXlTy
import Derived.Test.YtmkijbfiilpccaaXlLExL
import Derived.Test.YtmkijbfiilpccaaXlAFrame
set_option linter.unusedSimpArgs false
set_option linter.unusedVariables false
set_option maxRecDepth 100000
set_option maxHeartbeats 4000000
namespace Go.Proofs.Ytmkijbfiilpccaa.Abs
open Go.RowKit
open R (val row ref)
open Go.ChangeShapes Go.WideShapes Go.ChangeAt
theorem exL_sz (nil : Bool) (LN : List (Bool × List Int)) (hl : LN.length ≤ maxLen) (hlb : ∀ z ∈ LN,z.2.length ≤ maxLen) (hsz : szSS 1048576 LN < 0) : Fn Try.prog 3 [.one (row nil 1 (rowsN LN))] (.v (.one (bool true))):=by
 have KZ:=f_szIntSS nil LN 1048576 hl hlb oM oM
 generalize szSS 1048576 LN = zz at *
 refine Zy (l:=[.tmp 2]) Try.func3 kRf rfl Try.ntmps3 rfl rfl ?_; simp only [argEnv,P0.d,Nat.reduceAdd]
 repeat' (first|refine wk ?_|((first|refine' w_q rfl rfl ?xa rfl ?_|refine' v_q rfl rfl ?xa rfl ?_|refine' Zh rfl rfl (Zb rfl) rfl ?xa rfl ?_|refine' Zi rfl rfl (Zb rfl) rfl ?xa rfl ?_);case xa=>exact Ze KZ rfl ⟨Zd (Za rfl),Zd (Za rfl),trivial⟩)|(refine wkB ?_ ?_<;>intro hg_<;>try exact wkX)|fail)
 all_goals first
  | exact Zt rfl (Zo rfl)
  | (exfalso; omega)
theorem law_exL (nil : Bool) (LN : List (Bool × List Int)) (hl : LN.length ≤ maxLen) (hlb : ∀ z ∈ LN,z.2.length ≤ maxLen) : Fn Try.prog 3 [.one (row nil 1 (rowsN LN))] (.v (.one (bool true))):=by
 by_cases hsz : szSS 1048576 LN < 0
 ·exact exL_sz nil LN hl hlb hsz
 ·have h0 : ¬ (1048576 : Int) < LN.length:=fun h=>hsz (by unfold szSS; rw [if_pos h]; omega)
  have h1 : LN.length ≤ 1048576:=by omega
  have h2 : ∀ z ∈ LN,z.2.length ≤ 1048576:=fun z hz=>by
   have h3 : 0 ≤ szF (1048576 - LN.length) LN:=by unfold szSS at hsz; rw [if_neg h0] at hsz; omega
   have:=szF_ge (left:=1048576 - LN.length) oM h3 z hz
   omega
  have hs : 0 ≤ szSS 1048576 LN:=by omega
  have hsl : (snds LN).length ≤ 1048576:=by rw [Zbo]; exact h1
  have hsb : ∀ x ∈ snds LN,x.length ≤ 1048576:=fun x hx=>by unfold snds at hx; rw [List.mem_map] at hx; obtain ⟨y,hy,rfl⟩:=hx; exact h2 y hy
  have KI:=f_implLast false (snds LN) hsl
  have KS:=f_specLast false (snds LN) hsl hsb
  cases hk : lastCk (snds LN) with
  | none =>
   rw [hk] at KI KS
   exact exL_ZZ nil LN h1 h2 hs 0 false true true true KS KI
  | some s =>
   have hok:=lastCk_ok hk
   have hF:=Sta.okF hok
   have hmany:=hF.many
   have hgl:=hF.gl
   have hmm:=hF.ml
   rw [hk] at KI KS
   obtain ⟨r,vs,gs,ms⟩:=s
   dsimp only at hmany hgl hmm
   cases hv : vs with
   | nil =>
    have hg : gs = []:=by rw [hv] at hgl; exact List.eq_nil_of_length_eq_zero hgl
    have hm : ms = []:=by
     cases hms : ms with
     | nil=>rfl
     | cons m ms' =>
      have:=hF.min m (by rw [hms]; simp)
      rw [hv] at this
      simp at this
      omega
    subst hv hg hm
    exact exL_ZZ nil LN h1 h2 hs r true true true true KS KI
   | cons v vs' =>
    have hve : vs.isEmpty = false:=by rw [hv]; rfl
    cases hms : ms with
    | nil =>
     subst hms
     unfold stT stH at KI
     dsimp only at KI
     rw [hve] at KI
     exact exL_OZ nil LN h1 h2 hs r true vs gs hmany oM _ _ _ KS KI
    | cons m ms' =>
     have hme : ms.isEmpty = false:=by rw [hms]; rfl
     unfold stT stH at KI
     dsimp only at KI
     rw [hve,hme] at KI
     exact exL_OO nil LN h1 h2 hs r true vs gs hmany oM ms hmm _ _ _ KS KI
section
variable {H : Type} {enc : TypeId × Value → H} {W : World} {base : Nat} {spare : Nat → Bool} {held : Bool}
theorem rdr_rows : Rdr enc W base spare held 22 (Bool × List (Bool × List Int)) (fun z=>.one (row z.1 1 (rowsN z.2))) (fun z=>z.2.length ≤ maxLen ∧ ∀ y ∈ z.2,y.2.length ≤ maxLen) :=
 (rdr_slice (sz:=1) Try.underlying22 kRf oM (fun _=>rfl) rdr_ints).turn (fun _=>rfl) (fun _ h=>⟨h.1,fun y hy=>(h.2 y hy).1⟩)
end
end Go.Proofs.Ytmkijbfiilpccaa.Abs
