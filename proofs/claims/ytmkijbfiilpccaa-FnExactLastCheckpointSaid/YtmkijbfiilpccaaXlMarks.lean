/- What the laws do with lists of numbers besides the program: sizes, marks. No statement of the seat is proved here. -/
import Derived.LoopN
import Derived.Test.YtmkijbfiilpccaaRows
import Derived.WalkKit
import Derived.WalkSpells
import Derived.WalkLawsBesides
import Derived.Lib.Hide
import Derived.Handy
import Derived.BigQuiet
import Derived.Deep.QuietTactic
import Derived.Test.YtmkijbfiilpccaaXlLib
import Derived.Test.YtmkijbfiilpccaaXlOwn
import Derived.Test.YtmkijbfiilpccaaXlJobs
import Derived.Test.YtmkijbfiilpccaaXlCodes3
import Derived.Test.YtmkijbfiilpccaaXlFrames2
set_option linter.unusedSimpArgs false
set_option linter.unusedVariables false
set_option maxRecDepth 100000
set_option maxHeartbeats 1000000
namespace Go.Proofs.Ytmkijbfiilpccaa
open Go.RowKit
def marks (k : Int) (n : Nat) : List Int:=(List.range n).map fun (i : Nat)=>k + (i : Int)
theorem marks_len (k : Int) (n : Nat) : (marks k n).length = n:=by simp [marks]
theorem marks_get (k : Int) (n i : Nat) (h : i < (marks k n).length) : (marks k n)[i] = k + (i : Int):=by simp [marks]
theorem put_step {α : Type} (M xs : List α) (j : Nat) (h : j < M.length) (hx : xs.length = M.length) : (M.take j ++ xs.drop j).set j M[j] = M.take (j + 1) ++ xs.drop (j + 1):=by
 have h1 : (M.take j).length = j:=by rw [List.length_take]; omega
 rw [List.set_append_right _ _ (by omega),h1,Nat.sub_self,List.drop_eq_getElem_cons (show j < xs.length by omega),List.set_cons_zero,List.take_succ_eq_append_getElem h,List.append_assoc]
 rfl
theorem lawsMarkIntS (base : Nat) (ao : Option Addr) (c : Nat) (xs : List Int) (k : Int) (w : World) (h0 : 0 ≤ k) (h1 : k ≤ 1099511627776) (hl : xs.length ≤ 4194304) (hO : Own w base 3 1 ao xs.length c (iv xs)) :
  Calls Try.prog 33 #[.slice ao xs.length c,.int .i64 k] w fun e w'=>e = .returned (.int .i64 (k + xs.length)) ∧ Own w' base 3 1 ao xs.length c (iv (marks k xs.length)) ∧ w.grownBy w' (blk ao):=by
 rcases hO.form_ with ⟨rfl,hn,rfl⟩ | ⟨g,rfl,hb,hg⟩
 ·have hx : xs = []:=List.eq_nil_of_length_eq_zero hn
  subst hx
  go_enter Try.func33,Try.ntmps33
  go_wp2
  refine wp_loop_rounds 1 ?_
  rw [rounds_succ]
  go_wp2
  go_ret
  exact ⟨ret_int (by simp),Own.nil_ _ _ _ _,gb_refl _ _⟩
 ·have hM:=marks_len k xs.length
  have hMg:=marks_get k xs.length
  generalize marks k xs.length = M at *
  have HMG:=Lib.hid hMg
  have HM:=Lib.hid hM
  clear hMg hM
  go_enter Try.func33,Try.ntmps33
  go_wp2
  go_loopw [1,5] (fun kk i wr=>∃ j : Nat,j ≤ xs.length ∧ i = .int .i64 j ∧ kk = .int .i64 (k + j) ∧ Hid (Own wr base 3 1 (some ⟨g,0,none⟩) xs.length c (iv M |>.take j |>.append ((iv xs).drop j))) ∧ w.grownBy wr (some g)) (fun _ i _=>xs.length - (intOf i).toNat)
  case atStart=>exact ⟨0,Nat.zero_le _,rfl,by simp,by unfold Hid; simpa using hO,gb_refl _ _⟩
  case round =>
   obtain ⟨j,hj,rfl,rfl,hO2,hgr⟩:=hrel
   have HO:=Lib.hid hO
   clear hO
   by_cases hlt : j < xs.length
   ·have hc2 : ∃ v,wr.cell? ⟨g,j,none⟩ = some v:=by
     have h3:=hO2.out.cell_at j (by omega)
     have h4 : j < (List.append (List.take j (iv M)) ((iv xs).drop j)).length:=by have:=HM.out; simp; omega
     rw [List.getElem?_eq_getElem h4] at h3
     exact ⟨_,h3⟩
    obtain ⟨v,hc2⟩:=hc2
    have hf2:=hO2.out.frozen_at j
    have hjl : j < M.length:=by have:=HM.out; omega
    go_wp2
    go_roundw
    case rel =>
     refine ⟨j + 1,by omega,by go_num,by congr 1; omega,?_,gb_set hgr (.inl rfl) _⟩
     have h5:=hO2.out.set_at j (.int .i64 (k + j))
     have h6:=put_step (iv M) (iv xs) j (by simpa using hjl) (by have:=HM.out; simp; omega)
     rw [show (iv M)[j]'(by simpa using hjl) = .int .i64 (k + j) by simp [HMG.out j hjl]] at h6
     unfold Hid
     have h7 : ((List.take j (iv M)).append ((iv xs).drop j)).set j (.int .i64 (k + j)) = (List.take (j + 1) (iv M)).append ((iv xs).drop (j + 1)):=h6
     rw [h7] at h5
     exact h5
    case measure=>simp [intOf]; omega
   ·have hjn : j = xs.length:=by omega
    have HJ:=Lib.hid hjn
    clear hjn
    go_wp2
    go_ret
    have h8:=hO2.out
    refine ⟨ret_int (by rw [HJ.out]),?_,hgr⟩
    have h9 : (List.take j (iv M)).append ((iv xs).drop j) = iv M:=by
     have h10:=HM.out
     show List.take j (iv M) ++ (iv xs).drop j = iv M
     rw [List.drop_of_length_le (by simp; omega),List.take_of_length_le (by simp; omega),List.append_nil]
    rw [h9] at h8
    exact h8
end Go.Proofs.Ytmkijbfiilpccaa
