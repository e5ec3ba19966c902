/- Lists of records that may be marked: the copy of a law, and its marks. No statement of the seat is proved here. -/
import Derived.LoopN
import Derived.Test.YtmkijbfiilpccaaRows
import Derived.WalkKit
import Derived.WalkSpells
import Derived.WalkLawsBesides
import Derived.Lib.Hide
import Derived.Handy
import Derived.BigQuiet
import Derived.Deep.QuietTactic
import Derived.Test.YtmkijbfiilpccaaXlLib
import Derived.Test.YtmkijbfiilpccaaXlOwn
import Derived.Test.YtmkijbfiilpccaaXlJobs
import Derived.Test.YtmkijbfiilpccaaXlCodes3
import Derived.Test.YtmkijbfiilpccaaXlFrames2
import Derived.Test.YtmkijbfiilpccaaXlAExSS
import Derived.Test.YtmkijbfiilpccaaXlMarks
set_option linter.unusedSimpArgs false
set_option linter.unusedVariables false
set_option maxRecDepth 100000
set_option maxHeartbeats 2000000
namespace Go.Proofs.Ytmkijbfiilpccaa
open Go.RowKit
open Abs (rowsN rowsN_len)
open Abs.R (row)
theorem el_ints : El Try.prog 22 24 1 24 (.slice none 0 0):=⟨Try.underlying22,info_parts (by kernel_rfl),rfl,by omega⟩
theorem sz_rowT (w : World) : (sizeOf 24).run Try.prog w = .ok 1 w:=by kernel_rfl
def slJ (L : List (Bool × List Int)) (g c : Nat → Nat) (j : Nat) : Value:=.slice (some ⟨g j,0,none⟩) (L.getD j default).2.length (c j)
def InnerOk (w : World) (base : Nat) (L : List (Bool × List Int)) (g c : Nat → Nat) (xs : Nat → List Int) (m : Nat) : Prop :=
 (∀ j,j < m → base < g j ∧ (xs j).length = (L.getD j default).2.length ∧ Own w base 3 1 (some ⟨g j,0,none⟩) (L.getD j default).2.length (c j) (iv (xs j))) ∧ ∀ j k,j < k → k < m → g j < g k
theorem InnerOk.lt {w : World} {base : Nat} {L : List (Bool × List Int)} {g c : Nat → Nat} {xs : Nat → List Int} {m : Nat} (h : InnerOk w base L g c xs m) {j : Nat} (hj : j < m) : g j < w.heap.size:=by
 have:=(h.1 j hj).2.2.lt_ (g j) rfl
 exact this.2
structure XOk (w : World) (base : Nat) (L : List (Bool × List Int)) (g c : Nat → Nat) (xs : Nat → List Int) : Prop where
 out : Own w base 24 1 (some ⟨base,0,none⟩) L.length L.length ((List.range L.length).map (slJ L g c))
 inn : InnerOk w base L g c xs L.length
def RowsAt (w : World) (b o : Nat) (us : Nat → Value) (n : Nat) : Prop:=∀ i,i < n → w.cell? ⟨b,o + i,none⟩ = some (us i)
theorem RowsAt.below {w w' : World} {b o n : Nat} {us : Nat → Value} (h : RowsAt w b o us n) (hb : Below w.heap.size w w') : RowsAt w' b o us n:=fun i hi=>by
 have h1:=h i hi
 exact (World.cell?_of_block (a:=⟨b,o + i,none⟩) (hb.block b (World.block_lt_of_cell? w _ h1))).trans h1
theorem lawsToIntSS (ao : Option Addr) (c b o : Nat) (L : List (Bool × List Int)) (us : Nat → Value) (w : World) (hl : L.length ≤ 1048576) (hlb : ∀ z ∈ L,z.2.length ≤ 1048576) (ha : At ao b o L.length) (h : RowsAt w b o us L.length)
  (hu : ∀ i,i < L.length → ∃ (ai : Option Addr) (bi oi ci : Nat),us i = .slice ai (L.getD i default).2.length ci ∧ At ai bi oi (L.getD i default).2.length ∧ Ints w bi oi (L.getD i default).2) :
  Calls Try.prog 8 #[.slice ao L.length c] w fun e w'=>∃ (g c' : Nat → Nat),e = .returned (.slice (some ⟨w.heap.size,0,none⟩) L.length L.length) ∧ XOk w' w.heap.size L g c' (fun j=>(L.getD j default).2) ∧ Below w.heap.size w w':=by
 have hix:=ha.ix (c:=c) Try.underlying22 sz_rowT
 go_enter Try.func8,Try.ntmps8
 go_wp2_with (first|(at_make;refine wp_make _ el_ints rfl _ _ rfl w.heap.size L.length rfl rfl (by omega) (by simp only [maxLen];omega) (Nat.le_refl _) ?_;intro w1 hown hg))
 have hb1 : Below w.heap.size w w1:=(Below.refl _ _).grown hg (Nat.le_refl _) (by simp)
 rw [show (Value.slice none 0 0).cells = #[.slice none 0 0] from rfl,madeCells_one] at hown
 go_loopw [4] (fun i wr=>∃ (k : Nat) (g c' : Nat → Nat),k ≤ L.length ∧ i = .int .i64 k ∧ Own wr w.heap.size 24 1 (some ⟨w.heap.size,0,none⟩) L.length L.length ((List.range k).map (slJ L g c') ++ List.replicate (L.length - k) (.slice none 0 0)) ∧ InnerOk wr w.heap.size L g c' (fun j=>(L.getD j default).2) k ∧ Below w.heap.size w wr) (fun i _=>L.length - (intOf i).toNat)
 case atStart=>exact ⟨0,fun _=>0,fun _=>0,Nat.zero_le _,rfl,by simpa using hown,⟨fun j hj=>by omega,fun j k _ hk=>by omega⟩,hb1⟩
 case round =>
  obtain ⟨k,g,c',hk,rfl,hown2,hin,hb⟩:=hrel
  have HO:=Lib.hid hown
  clear hown hg
  by_cases hlt : k < L.length
  ·obtain ⟨ai,bi,oi,ci,hus,hai,hii⟩:=hu k hlt
   have hc:=h.below hb k hlt
   rw [hus] at hc
   have hlk : (L.getD k default).2.length ≤ 1048576:=by
    rw [List.getD_eq_getElem?_getD,List.getElem?_eq_getElem hlt]
    exact hlb _ (List.getElem_mem hlt)
   obtain ⟨xk,hxk⟩ : ∃ xk,xk = (L.getD k default).2:=⟨_,rfl⟩
   rw [← hxk] at hus hai hii hc hlk
   have HT:=Lib.hid (lawsToIntS ai ci bi oi xk wr hlk hai (hii.below hb (Nat.le_refl _)))
   have hf2:=hown2.frozen_at k
   have hixk:=hix (k : Int) wr (by omega) (by omega)
   simp only [Int.toNat_natCast] at hixk
   have HO2:=Lib.hid hown2
   clear hown2
   have hzz : w.heap.size < wr.heap.size:=(HO2.out.lt_ w.heap.size rfl).2
   have HIN:=Lib.hid hin
   have HXK:=Lib.hid hxk
   clear hin hxk hus hai hii hlk hix hu h hlb
   have hlk2 : ((List.range k).map (slJ L g c') ++ List.replicate (L.length - k) (Value.slice none 0 0))[k]? = some (.slice none 0 0):=by
    rw [List.getElem?_append_right (by simp),List.length_map,List.length_range,Nat.sub_self,List.getElem?_replicate,if_pos (by omega)]
   have HK : ∀ w2 : World,Below wr.heap.size wr w2 → w2.cell? ⟨w.heap.size,k,none⟩ = some (.slice none 0 0) ∧ w2.frozen? ⟨w.heap.size,k,none⟩ = false:=fun w2 hb2=>by
    have hO3:=HO2.out.below_ hb2 (Nat.le_refl _)
    exact ⟨(hO3.cell_at k (by omega)).trans hlk2,hO3.frozen_at k⟩
   have HLK:=Lib.hid hlk2
   clear hlk2
   go_wp2_with (go_at_call 28; refine HT.out.mono ?_; rintro e w2 ⟨ao2,c2,rfl,hO2,hb2,hne⟩; have hc2:=(HK w2 hb2).1; have hf3:=(HK w2 hb2).2)
   go_roundw
   case rel =>
    have hO3:=HO2.out.below_ hb2 (Nat.le_refl _)
    have hin:=HIN.out
    rcases hO2.form_ with ⟨h0,_,_⟩ | ⟨g2,rfl,hg1,hg2⟩
    ·exact absurd h0 hne
    have hne2 : w.heap.size ≠ g2:=by omega
    have hset : ((List.range k).map (slJ L g c') ++ List.replicate (L.length - k) (Value.slice none 0 0)).set k (.slice (some ⟨g2,0,none⟩) xk.length c2) = (List.range (k + 1)).map (slJ L (fun j=>if j = k then g2 else g j) (fun j=>if j = k then c2 else c' j)) ++ List.replicate (L.length - (k + 1)) (Value.slice none 0 0):=by
     rw [List.set_append_right _ _ (by simp),List.length_map,List.length_range,Nat.sub_self,show L.length - k = (L.length - (k + 1)) + 1 by omega,List.replicate_succ,List.set_cons_zero,List.range_succ,List.map_append,List.append_assoc]
     congr 1
     ·refine List.map_congr_left fun j hj=>?_
      rw [List.mem_range] at hj
      unfold slJ
      dsimp only
      rw [if_neg (by omega),if_neg (by omega)]
     ·simp only [List.map_cons,List.map_nil,List.cons_append,List.nil_append]
      unfold slJ
      dsimp only
      rw [if_pos rfl,if_pos rfl,← HXK.out]
    refine ⟨k + 1,fun j=>if j = k then g2 else g j,fun j=>if j = k then c2 else c' j,by omega,by go_num,?_,⟨fun j hj=>?_,fun j m hjm hm=>?_⟩,(by repeat' (first|(with_reducible exact Below.refl _ _)|(with_reducible assumption)|(with_reducible refine Below.alloc ?_ ?_ _)|(with_reducible refine Below.drew ?_)|(with_reducible refine below_drewN ?_ _)|(with_reducible refine Below.setCell ?_ ?_ _)|(refine bstep (by with_reducible assumption) ?_)|(refine bstep2 (by with_reducible assumption) (by first|omega|(simp;done)|(simp;omega)) ?_)|go_size))⟩
    ·have:=hO3.set_at k (.slice (some ⟨g2,0,none⟩) xk.length c2)
     rw [hset] at this
     exact this
    ·by_cases e : j = k
     ·subst e
      dsimp only
      rw [if_pos rfl,if_pos rfl]
      refine ⟨by omega,rfl,?_⟩
      rw [← HXK.out]
      exact (hO2.mono_ (by omega)).set_other (by simp [blk]; omega) _
     ·dsimp only
      rw [if_neg e,if_neg e]
      obtain ⟨q1,q2,q3⟩:=hin.1 j (by omega)
      exact ⟨q1,q2,(q3.below_ hb2 (Nat.le_refl _)).set_other (by simp [blk]; omega) _⟩
    ·dsimp only
     rw [if_neg (by omega)]
     split
     ·have:=hin.lt (j:=j) (by omega)
      omega
     ·exact hin.2 j m hjm (by omega)
   case measure=>simp [intOf]; omega
  ·go_wp2
   go_ret
   refine ⟨g,c',rfl,⟨?_,?_⟩,hb⟩
   ·have hkn : k = L.length:=by omega
    rw [hkn,Nat.sub_self,List.replicate_zero,List.append_nil] at hown2
    exact hown2
   ·have hkn : k = L.length:=by omega
    rw [hkn] at hin
    exact hin
theorem own_sized {w w' : World} {base E size n c g : Nat} {cs cs' : List Value} (h : Own w base E size (some ⟨g,0,none⟩) n c cs) (h' : Own w' base E size (some ⟨g,0,none⟩) n c cs') (hg : w.grownBy w' (some g)) : Abs.Sized w w':=fun b arr F hb=>by
 by_cases e : b = g
 ·subst e
  rcases h.2 with ⟨hv,_⟩ | ⟨g1,cap,cur,hv,_,hh,_,_,hs,_⟩
  ·simp at hv
  ·rcases h'.2 with ⟨hv',_⟩ | ⟨g2,cap',cur',hv',_,hh',_,_,hs',_⟩
   ·simp at hv'
   ·simp at hv hv'
    obtain ⟨rfl,rfl⟩:=hv
    obtain ⟨rfl,rfl⟩:=hv'
    rw [hb] at hh
    injection hh with hh
    injection hh with e1 e2 _
    subst e1 e2
    exact ⟨cur',hh',by omega⟩
 ·exact ⟨arr,(hg.block b (Array.getElem?_eq_some_iff.1 hb).1 (fun h=>e (Option.some.inj h))).trans hb,rfl⟩
structure MkW (lo hi : Nat) (w w' : World) : Prop where
 os : w'.os = w.os
 tape : w'.tape = w.tape
 output : w'.output = w.output
 size : w.heap.size ≤ w'.heap.size
 block : ∀ b,b < w.heap.size → (b ≤ lo ∨ hi ≤ b) → w'.heap[b]? = w.heap[b]?
 sized : Abs.Sized w w'
theorem MkW.refl (lo hi : Nat) (w : World) : MkW lo hi w w:=⟨rfl,rfl,rfl,Nat.le_refl _,fun _ _ _=>rfl,fun b arr E h=>⟨arr,h,rfl⟩⟩
theorem MkW.step {lo hi g : Nat} {w w1 w2 : World} (h : MkW lo hi w w1) (hg : w1.grownBy w2 (some g)) (hs : Abs.Sized w1 w2) (h1 : lo < g) (h2 : g < hi) : MkW lo hi w w2 :=
 ⟨hg.os.trans h.os,hg.tape.trans h.tape,hg.output.trans h.output,Nat.le_trans h.size hg.size,fun b hb hc=>(hg.block b (Nat.lt_of_lt_of_le hb h.size) (fun e=>by injection e with e; omega)).trans (h.block b hb hc),fun b arr E hb=>by
  obtain ⟨arr1,q1,q2⟩:=h.sized b arr E hb
  obtain ⟨arr2,q3,q4⟩:=hs b arr1 E q1
  exact ⟨arr2,q3,q4.trans q2⟩⟩
theorem lawsMarkIntSS (L : List (Bool × List Int)) (g c : Nat → Nat) (xs : Nat → List Int) (base hi : Nat) (w : World) (hX : XOk w base L g c xs) (hhi : ∀ j,j < L.length → g j < hi) (hl : L.length ≤ 1048576) (hlb : ∀ j,j < L.length → (L.getD j default).2.length ≤ 1048576) :
  Calls Try.prog 12 #[.slice (some ⟨base,0,none⟩) L.length L.length,.int .i64 1] w fun e w'=>∃ z : Int,e = .returned (.int .i64 z) ∧ 0 ≤ z ∧ MkW base hi w w':=by
 go_enter Try.func12,Try.ntmps12
 go_wp2
 go_loopw [1,5] (fun kk i wr=>∃ (j : Nat) (z : Int) (ys : Nat → List Int),j ≤ L.length ∧ i = .int .i64 j ∧ kk = .int .i64 z ∧ 0 ≤ z ∧ z ≤ 1 + (j : Int) * 1048576 ∧ XOk wr base L g c ys ∧ MkW base hi w wr) (fun _ i _=>L.length - (intOf i).toNat)
 case atStart=>exact ⟨0,1,xs,Nat.zero_le _,rfl,rfl,by omega,by omega,hX,MkW.refl _ _ _⟩
 case round =>
  obtain ⟨j,z,ys,hj,rfl,rfl,hz0,hz1,hX2,hM⟩:=hrel
  clear hX
  by_cases hlt : j < L.length
  ·obtain ⟨q1,q2,q3⟩:=hX2.inn.1 j hlt
   have hlj:=hlb j hlt
   have hc : wr.cell? ⟨base,j,none⟩ = some (.slice (some ⟨g j,0,none⟩) (ys j).length (c j)):=by
    rw [hX2.out.cell_at j (by omega),List.getElem?_map,List.getElem?_range hlt]
    show some (slJ L g c j) = _
    unfold slJ
    rw [q2]
   rw [← q2] at q3 hlj
   have HT:=Lib.hid (lawsMarkIntS base (some ⟨g j,0,none⟩) (c j) (ys j) z wr hz0 (by omega) (by omega) q3)
   have HX:=Lib.hid hX2
   have HM:=Lib.hid hM
   have HQ:=Lib.hid q3
   clear hX2 hM q3
   obtain ⟨yj,hyj⟩ : ∃ yj,yj = ys j:=⟨_,rfl⟩
   obtain ⟨gj,hgj⟩ : ∃ gj,gj = g j:=⟨_,rfl⟩
   obtain ⟨cj,hcj⟩ : ∃ cj,cj = c j:=⟨_,rfl⟩
   rw [← hyj,← hgj,← hcj] at hc HT HQ
   rw [← hyj] at q2 hlj
   rw [← hgj] at q1
   have HY:=Lib.hid hyj
   have HG:=Lib.hid hgj
   have HC:=Lib.hid hcj
   have HL:=Lib.hid hlb
   have HQ2:=Lib.hid q2
   clear hyj hgj hcj hlb q2
   go_wp2_with (go_at_call 33; refine HT.out.mono ?_; rintro e w2 ⟨rfl,hO2,hgr⟩)
   go_roundw
   case rel =>
    have hX2:=HX.out
    have hgb:=hhi j hlt
    rw [← HG.out] at hgb
    have hgr' : wr.grownBy w2 (some gj):=hgr
    have hyl : (marks z yj.length).length = yj.length:=marks_len _ _
    refine ⟨j + 1,z + yj.length,fun m=>if m = j then marks z yj.length else ys m,by omega,by go_num,rfl,by omega,by omega,⟨hX2.out.kept_ hgr' (fun b hb e=>by simp [blk] at hb; injection e with e; omega),fun m hm=>?_,hX2.inn.2⟩,(HM.out).step hgr' (own_sized HQ.out hO2 hgr') (by omega) hgb⟩
    dsimp only
    by_cases e : m = j
    ·subst e
     rw [if_pos rfl,hyl,← HG.out,← HC.out,← HQ2.out]
     exact ⟨q1,rfl,hO2⟩
    ·rw [if_neg e]
     obtain ⟨p1,p2,p3⟩:=hX2.inn.1 m hm
     refine ⟨p1,p2,p3.kept_ hgr' (fun b hb e'=>?_)⟩
     simp [blk] at hb
     injection e' with e'
     have h3 : g m = g j:=by rw [hb,← e',HG.out]
     rcases Nat.lt_or_gt_of_ne e with h | h
     ·have:=hX2.inn.2 m j h hlt; omega
     ·have:=hX2.inn.2 j m h hm; omega
   case measure=>simp [intOf]; omega
  ·go_wp2
   go_ret
   exact ⟨z,rfl,hz0,hM⟩
end Go.Proofs.Ytmkijbfiilpccaa
