/- Frames in a list of bytes: the program's frameAt. No statement of the seat is proved here. -/
import Derived.Test.YtmkijbfiilpccaaGreatRows
import Derived.WalkKit
import Derived.WalkSpells
import Derived.WalkLawsBesides
import Derived.Lib.Hide
import Derived.Handy
import Derived.BigQuiet
import Derived.Deep.QuietTactic
import Derived.RangeFuncNested
import Derived.RangeFuncBound
import Derived.RangeFuncCalls
import Derived.RangeFuncLeaves
import Derived.Shelf.Abstract
import Derived.Shelf.RegionOpen
import Derived.OwnWalkIn
import Derived.TacticsInMore
import Derived.LoopNIn
import Derived.LoopIn
import Derived.RangeFuncWrites
import Derived.Test.YtmkijbfiilpccaaGreatRsLib
import Derived.Test.YtmkijbfiilpccaaGreatRsOwn
import Derived.Test.YtmkijbfiilpccaaGreatRsTy
import Derived.Test.YtmkijbfiilpccaaGreatRsJobs
import Derived.Test.YtmkijbfiilpccaaGreatRsCodes3
import Derived.Test.YtmkijbfiilpccaaGreatRsFrames2
import Derived.Test.YtmkijbfiilpccaaGreatRsGCod
import Derived.Test.YtmkijbfiilpccaaGreatRsASpCD
import Derived.Test.YtmkijbfiilpccaaGreatRsARound
set_option linter.unusedSimpArgs false
set_option linter.unusedVariables false
set_option maxRecDepth 100000
set_option maxHeartbeats 4000000
namespace Go.Proofs.YtmkijbfiilpccaaGreat
open Go.RowKit
open Abs (frHd)
def frV (b o c : Nat) (xs : List Int) (i : Nat) : Value:=match frHd (xs.drop i) with
 | some bd=>.tuple #[.slice (some ⟨b,o + (i + 1),none⟩) bd.length (c - (i + 1)),.int .i64 ((i + bd.length + 2 : Nat) : Int),.bool true]
 | none=>.tuple #[.slice none 0 0,.int .i64 0,.bool false]
theorem quietL {P : Program} {f : FuncId} {args : Array Value} {w : World} {n : Nat} {v : Value}
  (h : Calls P f args (w.drewN n) fun e w'=>e = .returned v ∧ w.drewN n = w') : Calls P f args (w.drewN n) fun e w''=>e = .returned v ∧ ∃ m,w'' = w.drewN m :=
 h.mono fun _ _ ⟨he,hm⟩=>⟨he,n,hm.symm⟩
theorem Ints.drewN {w : World} {b o : Nat} {xs : List Int} (h : Ints w b o xs) (n : Nat) : Ints (w.drewN n) b o xs:=h
theorem Ints.subC {w : World} {b o : Nat} {xs : List Int} (h : Ints w b o xs) (I m : Nat) (hm : I + m ≤ xs.length) : Ints w b (o + I) ((xs.drop I).take m):=fun i hi=>by
 have hl : i < m:=by rw [List.length_take,List.length_drop] at hi; omega
 have:=h (I + i) (by omega)
 rw [← Nat.add_assoc] at this
 rw [this]
 congr 2
 rw [List.getD_eq_getElem?_getD,List.getD_eq_getElem?_getD,List.getElem?_take,if_pos hl,List.getElem?_drop]
theorem implFrameAt (b o c : Nat) (ao : Option Addr) (xs : List Int) (i : Nat) (w : World) (hx : bytesOk xs = true) (hc : xs.length ≤ c) (hcm : c ≤ maxLen) (ha : At ao b o xs.length) (hin : Ints w b o xs) (hi : i ≤ xs.length) :
  Calls Tryz.prog 95 #[.slice ao xs.length c,.int .i64 i] w fun e w'=>e = .returned (frV b o c xs i) ∧ ∃ m,w' = w.drewN m:=by
 have hl:=Zb2 hx
 have hcm':=hcm
 unfold maxLen at hcm'
 by_cases h0 : i < xs.length
 ·have hz:=hin i h0
  have ha1 : ao = some ⟨b,o,none⟩:=ha.resolve_left (by omega)
  have hdr:=List.drop_eq_getElem_cons h0
  have hzz : xs.getD i 0 = xs[i]:=by rw [List.getD_eq_getElem?_getD,List.getElem?_eq_getElem h0]; rfl
  have hb:=Zbt hx i h0
  rw [hzz] at hz
  have hFV : frV b o c xs i = match frHd (xs[i] :: xs.drop (i + 1)) with
   | some bd=>.tuple #[.slice (some ⟨b,o + (i + 1),none⟩) bd.length (c - (i + 1)),.int .i64 ((i + bd.length + 2 : Nat) : Int),.bool true]
   | none=>.tuple #[.slice none 0 0,.int .i64 0,.bool false]:=by unfold frV; rw [hdr]
  have hix:=ha.ix (c:=c) Tryz.underlying26 sz_int
  generalize xs[i] = z at *
  obtain ⟨N,rfl⟩:=Int.eq_ofNat_of_zero_le hb.1
  have hrl : (xs.drop (i + 1)).length = xs.length - (i + 1):=List.length_drop ..
  by_cases h1 : 1 ≤ N ∧ N ≤ 100 ∧ N < xs.length - (i + 1)
  ·obtain ⟨h1,h2,h3⟩:=h1
   have hin2:=hin.subC (i + 1) N (by omega)
   have hz2:=hin (i + 1 + N) (by omega)
   have hlen : ((xs.drop (i + 1)).take N).length = N:=by rw [List.length_take,hrl]; omega
   have hS:=fun n=>implCheckSum (some ⟨b,o + (i + 1),none⟩) b (o + (i + 1)) (c - (i + 1)) ((xs.drop (i + 1)).take N) (w.drewN n) (by rw [hlen]; omega) (.inr rfl) (hin2.drewN n)
   rw [hlen] at hS
   have hg : (xs.drop (i + 1)).getD N 0 = xs.getD (i + 1 + N) 0:=by rw [List.getD_eq_getElem?_getD,List.getD_eq_getElem?_getD,List.getElem?_drop]
   have hF2 : frHd ((N : Int) :: xs.drop (i + 1)) = if xs.getD (i + 1 + N) 0 = sumOf ((xs.drop (i + 1)).take N) then some ((xs.drop (i + 1)).take N) else none:=by
    simp only [frHd,Int.toNat_natCast,hg,hrl]
    by_cases hq : xs.getD (i + 1 + N) 0 = sumOf ((xs.drop (i + 1)).take N)
    ·rw [if_pos hq,if_pos ⟨by omega,by omega,by omega,hq⟩]
    ·rw [if_neg hq,if_neg (fun h=>hq h.2.2.2)]
   rw [hF2] at hFV
   clear hF2 hg hin2 hrl hdr hzz hin
   have HS:=Lib.hid hS
   clear hS
   generalize xs.getD (i + 1 + N) 0 = y at *
   have hw1 : IntKind.i64.wrap ((i : Int) + 1) = ((i + 1 : Nat) : Int):=by rw [IntWalk.i64_in _ (by omega)]; omega
   have hw2 : IntKind.i64.wrap (((i + 1 : Nat) : Int) + (N : Int)) = ((i + 1 + N : Nat) : Int):=by rw [IntWalk.i64_in _ (by omega)]; omega
   have hw3 : IntKind.i64.wrap ((i : Int) + (N : Int)) = ((i + N : Nat) : Int):=by rw [IntWalk.i64_in _ (by omega)]; omega
   have hw4 : IntKind.i64.wrap (((i + N : Nat) : Int) + 2) = ((i + N + 2 : Nat) : Int):=by rw [IntWalk.i64_in _ (by omega)]; omega
   have hw5 : IntKind.i64.wrap ((N : Int) + 2) = (N : Int) + 2:=IntWalk.i64_in _ (by omega)
   have hw6 : IntKind.i64.wrap ((xs.length : Int) - (i : Int)) = (xs.length : Int) - (i : Int):=IntWalk.i64_in _ (by omega)
   have d1 : ¬ (i : Int) < 0:=by omega
   have d2 : ¬ (xs.length : Int) ≤ (i : Int):=by omega
   have d3 : (i : Int) < (xs.length : Int):=by omega
   have d4 : ¬ (N : Int) < 1:=by omega
   have d5 : ¬ (100 : Int) < (N : Int):=by omega
   have d6 : ¬ (xs.length : Int) - (i : Int) < (N : Int) + 2:=by omega
   have hixI:=fun w'=>hix (i : Int) w' (by omega) (by omega)
   have hixJ:=fun w'=>hix ((i + 1 + N : Nat) : Int) w' (by omega) (by omega)
   simp only [Int.toNat_natCast] at hixI hixJ
   have hz2' : w.cell? ⟨b,o + (i + 1 + N),none⟩ = some (.int .i64 y):=hz2
   subst ha1
   have hsl : ∀ w' : World,(Instr.sliceAt 26 (.slice (some ⟨b,o,none⟩) xs.length c) (some (.int .i64 ((i + 1 : Nat) : Int))) (some (.int .i64 ((i + 1 + N : Nat) : Int))) none).run Tryz.prog w' = .ok (.slice (some ⟨b,o + (i + 1),none⟩) N (c - (i + 1))) w':=fun w'=>by
    rw [Abs.run_sliceAt (a:=i + 1) (b:=i + 1 + N) Abs.sl26 (.inl rfl) (.inl rfl) (by omega) (by omega),if_neg (by omega)]
    simp [Addr.add]
   clear hix hz2 hx
   by_cases hq : y = sumOf ((xs.drop (i + 1)).take N)
   ·rw [if_pos hq] at hFV
    subst hq
    rw [hFV]
    dsimp only
    rw [hlen]
    clear hFV
    generalize sumOf ((xs.drop (i + 1)).take N) = s at *
    go_enter Tryz.func95,Tryz.ntmps95
    go_wp2_with (fail)
    go_quiet ((first|(go_at_call 39;first|(with_reducible exact quietL (HS.out _)))))
    go_wp2
    go_ret3
    exact ⟨by rw [show ((i + N + 2 : Nat) : Int) = (i : Int) + (N : Int) + 2 by omega]<;>rfl,_,rfl⟩
   ·rw [if_neg hq] at hFV
    rw [hFV]
    dsimp only
    clear hFV
    generalize sumOf ((xs.drop (i + 1)).take N) = s at *
    go_enter Tryz.func95,Tryz.ntmps95
    go_wp2_with (fail)
    go_quiet ((first|(go_at_call 39;first|(with_reducible exact quietL (HS.out _)))))
    go_wp2
    go_ret3
    exact ⟨rfl,_,rfl⟩
  ·have hF2 : frHd ((N : Int) :: xs.drop (i + 1)) = none:=by
    simp only [frHd,Int.toNat_natCast,hrl]
    rw [if_neg (fun h=>h1 ⟨by omega,by omega,by omega⟩)]
   rw [hF2] at hFV
   rw [hFV]
   dsimp only
   clear hFV hF2
   have hixI:=fun w'=>hix (i : Int) w' (by omega) (by omega)
   simp only [Int.toNat_natCast] at hixI
   have hw5 : IntKind.i64.wrap ((N : Int) + 2) = (N : Int) + 2:=IntWalk.i64_in _ (by omega)
   have hw6 : IntKind.i64.wrap ((xs.length : Int) - (i : Int)) = (xs.length : Int) - (i : Int):=IntWalk.i64_in _ (by omega)
   have d1 : ¬ (i : Int) < 0:=by omega
   have d2 : ¬ (xs.length : Int) ≤ (i : Int):=by omega
   subst ha1
   clear hix
   by_cases d4 : (N : Int) < 1
   ·go_enter Tryz.func95,Tryz.ntmps95
    go_wp2
    go_ret3
    exact ⟨rfl,0,rfl⟩
   ·by_cases d5 : (100 : Int) < (N : Int)
    ·go_enter Tryz.func95,Tryz.ntmps95
     go_wp2
     go_ret3
     exact ⟨rfl,0,rfl⟩
    ·have d6 : (xs.length : Int) - (i : Int) < (N : Int) + 2:=by omega
     go_enter Tryz.func95,Tryz.ntmps95
     go_wp2
     go_ret3
     exact ⟨rfl,0,rfl⟩
 ·obtain rfl : i = xs.length:=by omega
  have hFV : frV b o c xs xs.length = .tuple #[.slice none 0 0,.int .i64 0,.bool false]:=by unfold frV; rw [List.drop_length]; rfl
  rw [hFV]
  have d1 : ¬ (xs.length : Int) < 0:=by omega
  go_enter Tryz.func95,Tryz.ntmps95
  go_wp2
  go_ret3
  exact ⟨rfl,0,rfl⟩
end Go.Proofs.YtmkijbfiilpccaaGreat
set_option linter.unusedSimpArgs false
set_option linter.unusedVariables false
namespace Go.Proofs.YtmkijbfiilpccaaGreat
open Go.RowKit
open Go.Shelf
open Abs (frHd)
attribute [local go_sem] Oper.semAt_some
def itsF (xs : List Int) : Nat → Nat → List (Nat × List Int)
 | 0,_=>[]
 | f + 1,i=>match frHd (xs.drop i) with
  | some bd=>(i,bd) :: itsF xs f (i + bd.length + 2)
  | none=>[]
def itsA (xs : List Int) (i : Nat) : List (Nat × List Int):=itsF xs (xs.length + 1 - i) i
theorem Zc4 {xs bd : List Int} (h : frHd xs = some bd) : bd.length + 2 ≤ xs.length:=by
 cases xs with
 | nil=>cases h
 | cons n r =>
  simp only [frHd] at h
  split at h
  ·rename_i hc
   injection h with h
   subst h
   simp only [List.length_take,List.length_cons]
   omega
  ·cases h
theorem itsF_fuel (xs : List Int) : ∀ (f g i : Nat),xs.length + 1 - i ≤ f → xs.length + 1 - i ≤ g → i ≤ xs.length → itsF xs f i = itsF xs g i
 | 0,g,i,h1,h2,h3=>by omega
 | f + 1,0,i,h1,h2,h3=>by omega
 | f + 1,g + 1,i,h1,h2,h3=>by
  simp only [itsF]
  cases hh : frHd (xs.drop i) with
  | none=>rfl
  | some bd =>
   have:=Zc4 hh
   rw [List.length_drop] at this
   simp only
   rw [itsF_fuel xs f g _ (by omega) (by omega) (by omega)]
theorem itsA_none {xs : List Int} {i : Nat} (hi : i ≤ xs.length) (h : frHd (xs.drop i) = none) : itsA xs i = []:=by
 unfold itsA
 obtain ⟨k,hk⟩ : ∃ k,xs.length + 1 - i = k + 1:=⟨xs.length - i,by omega⟩
 rw [hk]; simp only [itsF,h]
theorem itsA_some {xs bd : List Int} {i : Nat} (hi : i ≤ xs.length) (h : frHd (xs.drop i) = some bd) : itsA xs i = (i,bd) :: itsA xs (i + bd.length + 2):=by
 have hl:=Zc4 h
 rw [List.length_drop] at hl
 unfold itsA
 obtain ⟨k,hk⟩ : ∃ k,xs.length + 1 - i = k + 1:=⟨xs.length - i,by omega⟩
 rw [hk]; simp only [itsF,h]
 rw [itsF_fuel xs k (xs.length + 1 - (i + bd.length + 2)) _ (by omega) (by omega) (by omega)]
structure Frm (xs : List Int) where
 i : Nat
 bd : List Int
 le : i + 1 + bd.length ≤ xs.length
 eq : (xs.drop (i + 1)).take bd.length = bd
 pos : 1 ≤ bd.length
theorem frHd_fr {xs bd : List Int} {i : Nat} (h : frHd (xs.drop i) = some bd) : i + 1 + bd.length ≤ xs.length ∧ (xs.drop (i + 1)).take bd.length = bd ∧ 1 ≤ bd.length:=by
 have hl:=Zc4 h
 rw [List.length_drop] at hl
 cases hd : xs.drop i with
 | nil=>rw [hd] at h; cases h
 | cons n r =>
  have hr : xs.drop (i + 1) = r:=by rw [← List.drop_drop,hd]; rfl
  rw [hd] at h
  simp only [frHd] at h
  split at h
  ·rename_i hc
   injection h with h
   subst h
   rw [hr]
   refine ⟨by omega,?_,?_⟩
   ·rw [List.length_take,Nat.min_eq_left (by omega)]
   ·rw [List.length_take]; omega
  ·cases h
abbrev Frm.p {xs : List Int} (x : Frm xs) : Nat × List Int:=(x.i,x.bd)
def encsF (b o c : Nat) {xs : List Int} (x : Frm xs) : Array Value:=#[.slice (some ⟨b,o + (x.i + 1),none⟩) x.bd.length (c - (x.i + 1)),.int .i64 ((x.i : Int) + (x.bd.length : Int) + 2)]
def GF (Bb b o c : Nat) (ao : Option Addr) (xs : List Int) (W : World) : Prop:=W.cell? ⟨Bb,0,none⟩ = some (.slice ao xs.length c) ∧ Ints W b o xs
theorem frames_stops (n : Nat) (hn : 1 ≤ n) (Bb b o c : Nat) (ao : Option Addr) (xs : List Int) (w0 : World) (hx : bytesOk xs = true) (hc : xs.length ≤ c) (hcm : c ≤ maxLen) (ha : At ao b o xs.length) (hG : ∀ W,Below w0.heap.size w0 W → GF Bb b o c ao xs W) :
  SeqStopsK Fence.wide n Tryz.prog 94 #[.pointer (some ⟨Bb,0,none⟩)] (fun x : Frm xs=>encsF b o c x) (fun A B=>GF Bb b o c ao xs A → GF Bb b o c ao xs B) (fun ys=>ys.map Frm.p = itsA xs 0) (fun _=>True) (itsA xs 0).length w0:=by
 intro l J Jx W hW hJ hJx hY h0
 have hro : Fence.wide.round = none:=rfl
 have hGW:=hG W hW
 refine callsIn_of_wp Tryz.func94 rfl trivial ?_ hro
 simp only [Tryz.ntmps94,List.size_toArray,List.length_cons,List.length_nil,Nat.reduceAdd,Nat.reduceSub,Array.replicate_succ,Array.replicate_zero,List.push_toArray,List.append_toArray,List.nil_append,List.cons_append]
 gi_wp2
 gi_loopw [3] (fun p wr=>∃ (pre : List (Frm xs)) (i : Nat),p = .int .i64 (i : Int) ∧ i ≤ xs.length ∧ itsA xs 0 = pre.map Frm.p ++ itsA xs i ∧ J pre wr ∧ GF Bb b o c ao xs wr)
  (fun p _=>xs.length - (intOf p).toNat)
 case atStart=>exact ⟨[],0,rfl,Nat.zero_le _,rfl,h0,hGW⟩
 case round =>
  obtain ⟨pre,i,rfl,hi,hE,hJs,hGs⟩:=hrel
  obtain ⟨hg1,hg2⟩:=hGs
  have hF:=implFrameAt b o c ao xs i wr hx hc hcm ha hg2 hi
  have hJd : ∀ m,J pre (wr.drewN m):=fun m=>hJ pre wr (wr.drewN m) none hJs (gb_drewN (World.grownBy.refl wr none) m) (fun r e=>by cases e)
  cases hh : frHd (xs.drop i) with
  | none =>
   have hV : frV b o c xs i = .tuple #[.slice none 0 0,.int .i64 0,.bool false]:=by unfold frV; rw [hh]
   rw [hV] at hF
   rw [itsA_none hi hh,List.append_nil] at hE
   clear hV hh hY
   gi_wp2_with (refine ⟨trivial,?_⟩; gi_at_call 95; refine (callsIn_wide.2 hF).mono ?_; rintro e w1 ⟨rfl,m,rfl⟩)
   refine ⟨fun _ h=>(by cases h),?_⟩
   gi_wp2
   refine bodyPost_ret (results_none rfl _ _ _) rfl ?_
   exact ⟨⟨_,rfl⟩,.inl ⟨pre,hE.symm,hJd m⟩⟩
  | some bd =>
   have hl:=Zc4 hh
   rw [List.length_drop] at hl
   have hV : frV b o c xs i = .tuple #[.slice (some ⟨b,o + (i + 1),none⟩) bd.length (c - (i + 1)),.int .i64 ((i + bd.length + 2 : Nat) : Int),.bool true]:=by unfold frV; rw [hh]
   rw [hV] at hF
   rw [itsA_some hi hh] at hE
   have hlen : pre.length < (itsA xs 0).length:=by rw [hE]; simp
   obtain ⟨q1,q2,q3⟩:=frHd_fr hh
   have hYm:=fun m=>hY pre ⟨i,bd,q1,q2,q3⟩ (wr.drewN m) (hJd m) hlen
   unfold encsF at hYm
   dsimp only at hYm
   clear hV hh hY
   gi_wp2_with (refine ⟨trivial,?_⟩; gi_at_call 95; refine (callsIn_wide.2 hF).mono ?_; rintro e w1 ⟨rfl,m,rfl⟩; obtain ⟨fn,tmps,assign,body,hy,hR⟩:=hYm m)
   refine hR.mono ?_
   rintro e W3 (⟨rfl,hJ3,hk3⟩ | ⟨rfl,hJx3⟩)
   ·gi_wp2
    go_roundw
    case rel=>exact ⟨pre ++ [⟨i,bd,q1,q2,q3⟩],i + bd.length + 2,by first|rfl|(congr 1),by omega,by rw [hE,List.map_append,List.append_assoc];rfl,hJ3,hk3 ⟨hg1,hg2⟩⟩
    case measure=>simp only [intOf]; omega
   ·gi_wp2
    refine bodyPost_ret (results_none rfl _ _ _) rfl ?_
    exact ⟨⟨_,rfl⟩,.inr ⟨_,trivial,hJx3⟩⟩
end Go.Proofs.YtmkijbfiilpccaaGreat
set_option linter.unusedSimpArgs false
set_option linter.unusedVariables false
namespace Go.Proofs.YtmkijbfiilpccaaGreat.Abs
open Go.RowKit
open R (val row ref)
open Go.Shelf
attribute [local go_sem] Oper.semAt_some
theorem scan_its {xs : List Int} : ∀ (k i : Nat),xs.length - i ≤ k → i ≤ xs.length → (scanF (xs.drop i)).1 = (itsA xs i).map (·.2) ∧ (scanF (xs.drop i)).2 = ((itsA xs i).map fun x=>x.2.length + 2).sum
 | k,i,hk,hi=>by
  cases hh : frHd (xs.drop i) with
  | none=>rw [scanF_none hh,itsA_none hi hh]; exact ⟨rfl,rfl⟩
  | some bd =>
   have hl:=Zc4 hh
   rw [List.length_drop] at hl
   have hl2 : i + bd.length + 2 ≤ xs.length:=by omega
   clear hl
   cases k with
   | zero=>omega
   | succ k =>
    obtain ⟨h1,h2⟩:=scan_its (xs:=xs) k (i + bd.length + 2) (by omega) (by omega)
    rw [scanF_some hh,itsA_some hi hh,List.drop_drop,show i + (bd.length + 2) = i + bd.length + 2 by omega]
    simp only [List.map_cons,List.sum_cons]
    rw [h1,h2]
    exact ⟨rfl,rfl⟩
theorem last_its {xs : List Int} : ∀ (k i : Nat),xs.length - i ≤ k → i ≤ xs.length → ∀ y,(itsA xs i).getLast? = some y → y.1 + y.2.length + 2 = i + ((itsA xs i).map fun x=>x.2.length + 2).sum
 | k,i,hk,hi,y,hy=>by
  cases hh : frHd (xs.drop i) with
  | none=>rw [itsA_none hi hh] at hy; cases hy
  | some bd =>
   have hl:=Zc4 hh
   rw [List.length_drop] at hl
   have hl2 : i + bd.length + 2 ≤ xs.length:=by omega
   clear hl
   cases k with
   | zero=>omega
   | succ k =>
    have ih:=last_its (xs:=xs) k (i + bd.length + 2) (by omega) (by omega)
    rw [itsA_some hi hh] at hy ⊢
    rw [List.map_cons,List.sum_cons]
    dsimp only
    cases hr : itsA xs (i + bd.length + 2) with
    | nil =>
     rw [hr] at hy
     simp at hy
     subst hy
     simp; omega
    | cons z zs =>
     rw [hr] at hy ih
     rw [List.getLast?_cons_cons] at hy
     have:=ih y hy
     omega
theorem implFramesOf (ao : Option Addr) (n c : Nat) (w : World) : Calls Tryz.prog 68 #[.slice ao n c] w fun e w'=>e = .returned (.func (.func 94) #[] #[.pointer (some ⟨w.heap.size,0,none⟩)]) ∧ w' = w.alloc (.cells #[.slice ao n c] 26):=by
 go_enter Tryz.func68,Tryz.ntmps68
 go_wp2
 go_ret
 exact ⟨rfl,rfl⟩
theorem ovar1s {E : TypeId} {a b : Cell} (h : a = b) : Ob.var E [a] = .var E [b]:=by rw [h]
theorem f_cloneO_S (xs : List Int) (hl : xs.length ≤ 1048576) : FnS Tryz.prog 43 [.one (.r false (row false 1 (ints xs)))] [] (.one (.own 2000001 0 xs.length 1)) [(2000001,.sl 3 1 true (ints xs))]:=by
 have hlen:=Zr xs
 refine Zab (l:=[.tmp 2]) Tryz.func43 (by kernel_rfl) rfl Tryz.ntmps43 rfl rfl ?_; simp only [dEnv,Nat.reduceAdd]
 repeat' (first|refine wk ?_|((first|refine' w_q rfl rfl ?xa rfl ?_|refine' v_q rfl rfl ?xa rfl ?_|refine' Zm rfl rfl (Zd rfl) rfl ?xa rfl ?_|refine' Zo rfl rfl (Zd rfl) rfl ?xa rfl ?_);case xa=>exact k_nil_eq tbOk rfl rfl rfl rfl)|((first|refine' w_e rfl ?xa ?xb ?xc ?xe ?_|refine' v_e rfl ?xa ?xb ?xc ?xe ?_);(case xa=>first|exact Zp [] tlOk rfl rfl rfl rfl rfl rfl (by simp [AllN]) (by simp)|exact Zw tlOk rfl rfl rfl rfl rfl rfl (Z4 Zaz (Za4 _)) (by first|rfl|(simp only [List.length_append];done)) (by simp only [maxLen,List.length_append,List.length_cons,List.length_nil];omega) (by (try simp only [List.length_append,List.length_cons,List.length_nil]);omega));(case xb|xc|xe=>rfl);try refine wkD ?_)|(refine wkB ?_ ?_<;>intro hg_<;>try exact wkX)|fail)
 all_goals first
  | exact Zx [(2000001,7)] rfl sbH (Zb7 rfl (Z9 (Za6 (by simp only [List.length_nil,Nat.zero_add,hlen]))))
def EnvL (ι : Nat → Nat × Nat) (base : Nat) (c : Cx) (tm : Array Value) : List (Nat × D) → Prop
 | []=>True
 | (t,d) :: l=>d.p ι base c (tm.getD t undef) ∧ EnvL ι base c tm l
theorem look_env {ι : Nat → Nat × Nat} {base : Nat} {c : Cx} {tm : Array Value} : ∀ {l : List (Nat × D)},EnvL ι base c tm l → ∀ t,(look l t).p ι base c (tm.getD t undef)
 | [],_,t=>trivial
 | (u,d) :: l,⟨h1,h2⟩,t=>by
  by_cases e : t = u
  ·subst e
   show (upd (look l) t d t).p _ _ _ _
   rw [upd_same]; exact h1
  ·show (upd (look l) u d t).p _ _ _ _
   rw [upd_ne _ _ e]; exact look_env h2 t
def hpS (bs : List (List Int)) (t : Int) : List (Nat × Ob):=if bs = [] then [(1000000000,.var 42 [.r true (row true 1 [])]),(1000000001,.var 3 [.r true (int t)])] else [(1000000000,.var 42 [.own 100 0 bs.length 1]),(100,.sl 26 1 true (rowsI bs)),(1000000001,.var 3 [.r true (int t)])]
def tkS {xs : List Int} (pre : List (Frm xs)) : Int:=match pre.getLast? with | none=>0 | some x=>(x.i : Int) + (x.bd.length : Int) + 2
def stS {xs : List Int} (pre : List (Frm xs)) : St:=mkS 23 [(4,.one (.ptr 1000000000 0 0 0)),(5,.one (.ptr 1000000001 0 0 0))] (hpS (pre.map Frm.bd) (tkS pre))
def bsL (w WL : World) (dfs : List Deferred) : Bs:={ toWorld:=WL,base:=w.heap.size,M:=fun b=>b = w.heap.size ∨ b = w.heap.size + 1,own0:=fun b=>b = w.heap.size ∨ b = w.heap.size + 1,pin:=fun k=>if k = 1000000000 then some (w.heap.size,0) else if k = 1000000001 then some (w.heap.size + 1,0) else none,dfs:=dfs }
theorem body_scan (l : Nat) {xs : List Int} (hx : bytesOk xs = true) (pre : List (Frm xs)) (x : Frm xs) (hp : pre.length ≤ 2000) :
  AWi l Tryz.prog (match (Tryz.f41).body with | some (.seq _ (.seq _ (.seq _ (.seq _ (.seq (.seq _ (.block _ (.rangeFunc _ _ _ c))) _)))))=>c | _=>.skip) (mkS 23 [(6,.one (.r false (row false 1 (ints x.bd)))),(7,.one (.r true (int ((x.i : Int) + (x.bd.length : Int) + 2)))),(4,.one (.ptr 1000000000 0 0 0)),(5,.one (.ptr 1000000001 0 0 0))] (hpS (pre.map Frm.bd) (tkS pre)))
   (fun e s'=>e = .normal ∧ Weak s' (mkS 23 [] (hpS ((pre ++ [x]).map Frm.bd) (tkS (pre ++ [x]))))):=by
 have hl:=Zb2 hx
 delta Tryz.f41
 dsimp only
 obtain ⟨i,bd,h1,h2,h3⟩:=x
 have KC:=f_cloneO_S bd (by omega)
 have hbd:=Zr bd
 have ht : tkS (pre ++ [⟨i,bd,h1,h2,h3⟩]) = (i : Int) + (bd.length : Int) + 2:=by unfold tkS; simp
 rw [ht,show (pre ++ [(⟨i,bd,h1,h2,h3⟩ : Frm xs)]).map Frm.bd = pre.map Frm.bd ++ [bd] by rw [List.map_append]; rfl]
 generalize hq : pre.map Frm.bd = bs at *
 have hbl : bs.length ≤ 2000:=by rw [← hq,List.length_map]; exact hp
 clear hq ht
 generalize tkS pre = t0 at *
 dsimp only [List.map_cons,List.map_nil]
 have hne : hpS (bs ++ [bd]) ((i : Int) + (bd.length : Int) + 2) = [(1000000000,.var 42 [.own 100 0 (bs ++ [bd]).length 1]),(100,.sl 26 1 true (rowsI (bs ++ [bd]))),(1000000001,.var 3 [.r true (int ((i : Int) + (bd.length : Int) + 2))])]:=by unfold hpS; rw [if_neg (by simp)]
 rw [hne]
 by_cases hb : bs = []
 ·subst hb
  rw [show hpS [] t0 = [(1000000000,.var 42 [.r true (row true 1 [])]),(1000000001,.var 3 [.r true (int t0)])] from rfl]
  repeat' (first|(with_reducible first|refine awi_seq ?_|refine thn_normal ?_|refine thn_ret ?_|refine thn_exit ?_|refine blk_normal ?_|refine blk_ret ?_|refine blk_hit ?_|refine blk_miss rfl ?_|refine awi_block ?_|refine aw_ret ?_|refine aw_skip ?_|refine aw_exit ?_|refine w_nil ?_|refine x_nil (by kernel_rfl) ?_)|refine awi_region ?_|refine awi_region_draw (by kernel_rfl) ?_|refine aw_yes rfl ?_|refine aw_no rfl ?_|((with_reducible refine w_seq ?_);first|refine r_q tbOk rfl rfl rfl rfl ?_|refine r_e tbOk rfl rfl rfl rfl rfl ?_|refine r_yes tbOk rfl rfl rfl rfl rfl rfl ?_|refine w_no rfl rfl (Zd rfl) rfl rfl rfl ?_|refine w_un rfl rfl (Zd rfl) rfl rfl ?_)|((with_reducible refine w_drw ?_);first|refine rx_q tbOk rfl rfl rfl rfl ?_|refine rx_e tbOk rfl rfl rfl rfl rfl ?_|refine rx_yes tbOk rfl rfl rfl rfl rfl rfl ?_|refine x_no rfl rfl (Zd rfl) rfl rfl rfl ?_|refine x_un rfl rfl (Zd rfl) rfl rfl ?_)|((first|refine' w_e rfl ?xa ?xb ?xc ?xe ?_|refine' v_e rfl ?xa ?xb ?xc ?xe ?_);(case xa=>first|exact Ze 17 rfl (Zai (ys:=[.one (row false 1 (ints bd))]) [(2000001,17)] KC rfl rfl ⟨by rw [Za rfl];exact Zb,trivial⟩ rfl rfl)|exact Zc0 17 tlOk rfl rfl rfl rfl rfl rfl rfl hbd.symm|exact Za0 tlOk rfl rfl rfl rfl rfl (Z6 (Zk rfl) rfl) (by simp) (by simp [maxLen]) (by simp));(case xb|xc|xe=>rfl);try refine wkD ?_)|(refine wkB ?_ ?_<;>intro hg_<;>try exact wkX)|fail)
  all_goals first
   | exact ⟨rfl,by (refine Zn [(100,19)] rfl ?_ ?_ <;>exact wkW)⟩
 ·rw [show hpS bs t0 = [(1000000000,.var 42 [.own 100 0 bs.length 1]),(100,.sl 26 1 true (rowsI bs)),(1000000001,.var 3 [.r true (int t0)])] by unfold hpS; rw [if_neg hb]]
  have hrl:=(Zax bs).symm
  repeat' (first|(with_reducible first|refine awi_seq ?_|refine thn_normal ?_|refine thn_ret ?_|refine thn_exit ?_|refine blk_normal ?_|refine blk_ret ?_|refine blk_hit ?_|refine blk_miss rfl ?_|refine awi_block ?_|refine aw_ret ?_|refine aw_skip ?_|refine aw_exit ?_|refine w_nil ?_|refine x_nil (by kernel_rfl) ?_)|refine awi_region ?_|refine awi_region_draw (by kernel_rfl) ?_|refine aw_yes rfl ?_|refine aw_no rfl ?_|((with_reducible refine w_seq ?_);first|refine r_q tbOk rfl rfl rfl rfl ?_|refine r_e tbOk rfl rfl rfl rfl rfl ?_|refine r_yes tbOk rfl rfl rfl rfl rfl rfl ?_|refine w_no rfl rfl (Zd rfl) rfl rfl rfl ?_|refine w_un rfl rfl (Zd rfl) rfl rfl ?_)|((with_reducible refine w_drw ?_);first|refine rx_q tbOk rfl rfl rfl rfl ?_|refine rx_e tbOk rfl rfl rfl rfl rfl ?_|refine rx_yes tbOk rfl rfl rfl rfl rfl rfl ?_|refine x_no rfl rfl (Zd rfl) rfl rfl rfl ?_|refine x_un rfl rfl (Zd rfl) rfl rfl ?_)|((first|refine' w_e rfl ?xa ?xb ?xc ?xe ?_|refine' v_e rfl ?xa ?xb ?xc ?xe ?_);(case xa=>first|exact Ze 17 rfl (Zai (ys:=[.one (row false 1 (ints bd))]) [(2000001,17)] KC rfl rfl ⟨by rw [Za rfl];exact Zb,trivial⟩ rfl rfl)|exact Zc0 17 tlOk rfl rfl rfl rfl rfl rfl rfl hbd.symm|exact Zw tlOk rfl rfl rfl rfl rfl rfl (Z6 (Zk rfl) rfl) hrl (by simp only [maxLen,List.length_append,List.length_cons,List.length_nil];omega) (by simp only [List.length_append,List.length_cons,List.length_nil];omega));(case xb|xc|xe=>rfl);try refine wkD ?_)|(refine wkB ?_ ?_<;>intro hg_<;>try exact wkX)|fail)
  all_goals first
   | exact ⟨rfl,by (refine Zn [(100,19)] rfl ?_ ?_<;>repeat' (first|refine wkS ?_ ?_|exact wkE|exact ovar1s (Zcj (by simp only [List.length_append,List.length_cons,List.length_nil,Zax]))|exact Zv rfl (Zdf _ _).symm))⟩
def HeapL (ι : Nat → Nat × Nat) (base : Nat) (c : Cx) : List (Nat × Ob) → Prop
 | []=>True
 | (k,ob) :: h=>(c.own (ι k).1 ∧ ob.p ι base c (ι k)) ∧ HeapL ι base c h
theorem heapL_get {ι : Nat → Nat × Nat} {base : Nat} {c : Cx} : ∀ {h : List (Nat × Ob)},HeapL ι base c h → ∀ k ob,lookH h k = some ob → c.own (ι k).1 ∧ ob.p ι base c (ι k)
 | (u,o) :: h,⟨h1,h2⟩,k,ob,hk=>by
  by_cases e : k = u
  ·subst e
   have hk' : upd (lookH h) k (some o) k = some ob:=hk
   rw [upd_same] at hk'
   injection hk' with hk'
   subst hk'
   exact h1
  ·have hk' : upd (lookH h) u (some o) k = some ob:=hk
   rw [upd_ne _ _ e] at hk'
   exact heapL_get h2 k ob hk'
theorem lookH_key : ∀ {h : List (Nat × Ob)} {k : Nat} {ob : Ob},lookH h k = some ob → k ∈ h.map (·.1)
 | (u,o) :: h,k,ob,hk=>by
  by_cases e : k = u
  ·simp [e]
  ·have hk' : upd (lookH h) u (some o) k = some ob:=hk
   rw [upd_ne _ _ e] at hk'
   have:=lookH_key hk'
   simp only [List.map_cons,List.mem_cons]
   exact .inr this
theorem itsF_len (xs : List Int) : ∀ f i : Nat,(itsF xs f i).length ≤ f
 | 0,i=>Nat.le_refl _
 | f + 1,i=>by
  simp only [itsF]
  split
  ·simp only [List.length_cons]; have:=itsF_len xs f; exact Nat.succ_le_succ (this _)
  ·exact Nat.zero_le _
def lsA (w : World) (ao : Option Addr) (n c : Nat) (x6 x7 : Value) : Array Value:=#[.slice ao n c,undef,.slice none 0 0,.int .i64 0,.pointer (some ⟨w.heap.size,0,none⟩),.pointer (some ⟨w.heap.size + 1,0,none⟩),x6,x7,.slice ao n c,.bool true,.bool false,.slice ao n c,.func (.func 94) #[] #[.pointer (some ⟨w.heap.size + 1 + 1,0,none⟩)],x6,x7,undef,undef,undef,undef,undef,undef,undef,undef]
theorem scan_start (w WL : World) (ao : Option Addr) (n c : Nat) {xs : List Int} (hG : Glob w.heap.size w) (hWL : WL = ((w.alloc (.cells #[.slice none 0 0] 42)).alloc (.cells #[.int .i64 0] 3)).alloc (.cells #[.slice ao n c] 26)) :
  WL.heap.size = w.heap.size + 3 ∧ Below w.heap.size w WL ∧ WL.heap[w.heap.size + 1 + 1]? = some (.cells #[.slice ao n c] 26 (0,0)) ∧ Sim (bsL w WL []) (stS ([] : List (Frm xs))) { tmps:=lsA w ao n c undef undef,defers:=[] } WL:=by
 obtain ⟨W1,hW1⟩ : ∃ W1 : World,W1 = w.alloc (.cells #[.slice none 0 0] 42):=⟨_,rfl⟩
 obtain ⟨W2,hW2⟩ : ∃ W2 : World,W2 = W1.alloc (.cells #[.int .i64 0] 3):=⟨_,rfl⟩
 rw [← hW1,← hW2] at hWL
 have z1 : W1.heap.size = w.heap.size + 1:=by rw [hW1]; exact Zc9 _ _
 have z2 : W2.heap.size = w.heap.size + 2:=by rw [hW2,Zc9,z1]
 have z3 : WL.heap.size = w.heap.size + 3:=by rw [hWL,Zc9,z2]
 have b1 : Below w.heap.size w W1:=by rw [hW1]; exact Zb4 _ _
 have b2 : Below W1.heap.size W1 W2:=by rw [hW2]; exact Zb4 _ _
 have b3 : Below W2.heap.size W2 WL:=by rw [hWL]; exact Zb4 _ _
 have hB : Below w.heap.size w WL:=(b1.trans (b2.mono (by omega))).trans (b3.mono (by omega))
 have c0 : WL.heap[w.heap.size]? = some (.cells #[.slice none 0 0] 42 (0,0)):=by
  rw [b3.block _ (by omega),b2.block _ (by omega),hW1]; exact Zcf _ _
 have c1 : WL.heap[w.heap.size + 1]? = some (.cells #[.int .i64 0] 3 (0,0)):=by
  rw [b3.block _ (by omega),hW2,← z1]; exact Zcf _ _
 have c2 : WL.heap[w.heap.size + 1 + 1]? = some (.cells #[.slice ao n c] 26 (0,0)):=by
  have:=Zcf W2 (.cells #[.slice ao n c] 26)
  rw [← hWL,z2] at this; exact this
 refine ⟨z3,hB,c2,?_⟩
 have hh : stS ([] : List (Frm xs)) = mkS 23 [(4,.one (.ptr 1000000000 0 0 0)),(5,.one (.ptr 1000000001 0 0 0))] [(1000000000,.var 42 [.r true (row true 1 [])]),(1000000001,.var 3 [.r true (int 0)])]:=rfl
 rw [hh]
 obtain ⟨ι0,i1,i2⟩ : ∃ ι0 : Nat → Nat × Nat,ι0 1000000000 = (w.heap.size,0) ∧ ι0 1000000001 = (w.heap.size + 1,0):=⟨fun k=>if k = 1000000000 then (w.heap.size,0) else (w.heap.size + 1,0),by simp,by simp⟩
 have hE : EnvL ι0 w.heap.size ⟨WL,fun b=>b = w.heap.size ∨ b = w.heap.size + 1⟩ (lsA w ao n c undef undef) [(4,.one (.ptr 1000000000 0 0 0)),(5,.one (.ptr 1000000001 0 0 0))]:=by
  refine ⟨?_,?_,trivial⟩
  ·show (lsA w ao n c undef undef).getD 4 undef = Value.pointer (some ⟨(ι0 1000000000).1,(ι0 1000000000).2 + (0 * 0 + 0),none⟩)
   rw [i1]; rfl
  ·show (lsA w ao n c undef undef).getD 5 undef = Value.pointer (some ⟨(ι0 1000000001).1,(ι0 1000000001).2 + (0 * 0 + 0),none⟩)
   rw [i2]; rfl
 have hH : HeapL ι0 w.heap.size ⟨WL,fun b=>b = w.heap.size ∨ b = w.heap.size + 1⟩ [(1000000000,.var 42 [.r true (row true 1 [])]),(1000000001,.var 3 [.r true (int 0)])]:=by
  refine ⟨⟨?_,?_⟩,⟨?_,?_⟩,trivial⟩
  ·rw [i1]; exact .inl rfl
  ·rw [i1]
   refine ⟨_,c0,Nat.le_refl _,fun j x hj=>?_⟩
   match j,hj with
   | 0,hj =>
    obtain rfl : Cell.r true (row true 1 []) = x:=by simpa using hj
    exact ⟨_,rfl,Za7.2 ⟨none,0,rfl,⟨Nat.le_refl _,Nat.zero_le _⟩,⟨fun _=>rfl,fun _=>rfl⟩,fun _=>rfl,fun h=>by simp at h⟩⟩
   | j + 1,hj=>simp at hj
  ·rw [i2]; exact .inr rfl
  ·rw [i2]
   refine ⟨_,c1,Nat.le_refl _,fun j x hj=>?_⟩
   match j,hj with
   | 0,hj =>
    obtain rfl : Cell.r true (int 0) = x:=by simpa using hj
    exact ⟨_,rfl,(Zaj (c:=Cx.young ⟨WL,fun b=>b = w.heap.size ∨ b = w.heap.size + 1⟩ w.heap.size true)).2 ⟨rfl,rfl⟩⟩
   | j + 1,hj=>simp at hj
 refine ⟨ι0,fun b=>b = w.heap.size ∨ b = w.heap.size + 1,⟨rfl,rfl,rfl,Nat.le_refl _,fun _ _ _=>rfl,fun b arr E h=>⟨arr,h,rfl⟩⟩,⟨hB.size,hG.keep (fun k hk=>hB.block k hk)⟩,fun b hb=>?_,fun b _ h hn=>absurd h hn,fun b h=>.inl h,rfl,fun t=>look_env hE t,fun k ob hk=>heapL_get hH k ob hk,fun k ob hk=>?_,fun k k' ob ob' hk hk' e=>?_,rfl,fun k p hp=>?_⟩
 ·show w.heap.size ≤ b ∧ b < WL.heap.size
  have hb' : b = w.heap.size ∨ b = w.heap.size + 1:=hb
  omega
 ·exact .inr (heapL_get hH k ob hk).1
 ·have h1:=lookH_key hk
  have h2:=lookH_key hk'
  simp only [List.map_cons,List.map_nil,List.mem_cons,List.not_mem_nil,or_false] at h1 h2
  rcases h1 with rfl | rfl<;>rcases h2 with rfl | rfl
  ·rfl
  ·rw [i1,i2] at e; exfalso; simp at e
  ·rw [i1,i2] at e; exfalso; simp at e
  ·rfl
 ·have hp' : (if k = 1000000000 then some (w.heap.size,0) else if k = 1000000001 then some (w.heap.size + 1,0) else none) = some p:=hp
  split at hp'
  ·rename_i hk
   subst hk
   injection hp' with hp'
   exact ⟨i1.trans hp',by decide⟩
  ·split at hp'
   ·rename_i hk1 hk
    subst hk
    injection hp' with hp'
    exact ⟨i2.trans hp',by decide⟩
   ·cases hp'
theorem scan_G {w WL W : World} {dfs : List Deferred} {b o c : Nat} {ao : Option Addr} {xs : List Int} (hin : Ints w b o xs) (hB : Below w.heap.size w WL) (hz : WL.heap.size = w.heap.size + 3) (c2 : WL.heap[w.heap.size + 1 + 1]? = some (.cells #[.slice ao xs.length c] 26 (0,0))) (hL : Low (bsL w WL dfs) W) : GF (w.heap.size + 1 + 1) b o c ao xs W:=by
 have hblk : ∀ k,k < WL.heap.size → ¬ (k = w.heap.size ∨ k = w.heap.size + 1) → W.heap[k]? = WL.heap[k]?:=fun k hk hn=>hL.block k hk hn
 refine ⟨?_,fun i hi=>?_⟩
 ·rw [Zcr ((hblk _ (by omega) (by omega)).trans c2)]; rfl
 ·have h1:=hin i hi
  have hlt:=World.block_lt_of_cell? w _ h1
  have hlt' : b < w.heap.size:=hlt
  rw [World.cell?_of_block (a:=⟨b,o + i,none⟩) ((hblk b (by omega) (by omega)).trans (hB.block b hlt'))]
  exact h1
noncomputable abbrev scanBody : Code:=match (Tryz.f41).body with | some (.seq _ (.seq _ (.seq _ (.seq _ (.seq (.seq _ (.block _ (.rangeFunc _ _ _ c))) _)))))=>c | _=>.skip
theorem scan_round (l n : Nat) {w WL W : World} {b o c : Nat} {ao : Option Addr} {xs : List Int} (hx : bytesOk xs = true) (hlc : xs.length ≤ c) (hcm : c ≤ maxLen) (hin : Ints w b o xs) (hB : Below w.heap.size w WL) (hz : WL.heap.size = w.heap.size + 3) (c2 : WL.heap[w.heap.size + 1 + 1]? = some (.cells #[.slice ao xs.length c] 26 (0,0)))
  (pre : List (Frm xs)) (x : Frm xs) (hp : pre.length ≤ 2000) (hS : Sim (bsL w WL []) (stS pre) { tmps:=lsA w ao xs.length c undef undef,defers:=[] } W) :
  scanBody.wpIn (Fence.wide.inRound l) n Tryz.prog (ownPostK (fun A B=>GF (w.heap.size + 1 + 1) b o c ao xs A → GF (w.heap.size + 1 + 1) b o c ao xs B) (fun (pre : List (Frm xs)) W=>Sim (bsL w WL []) (stS pre) { tmps:=lsA w ao xs.length c undef undef,defers:=[] } W) (fun _ _ _=>False) (pre ++ [x]) W)
   { tmps:=lsA w ao xs.length c (.slice (some ⟨b,o + (x.i + 1),none⟩) x.bd.length (c - (x.i + 1))) (.int .i64 ((x.i : Int) + (x.bd.length : Int) + 2)),defers:=[] } W:=by
 obtain ⟨ι,own,hs⟩:=hS
 have hpin : ∀ k p,(bsL w WL []).pin k = some p → ι k = p ∧ pinned ≤ k:=hs.pin
 have hr:=hs.rebase (bsL w WL []).pin hpin
 have p1 : ι 1000000000 = (w.heap.size,0):=(hpin 1000000000 (w.heap.size,0) (by simp [bsL])).1
 have p2 : ι 1000000001 = (w.heap.size + 1,0):=(hpin 1000000001 (w.heap.size + 1,0) (by simp [bsL])).1
 obtain ⟨hg1,hg2⟩:=scan_G hin hB hz c2 hs.below
 have hsub:=hg2.subC (x.i + 1) x.bd.length x.le
 rw [x.eq] at hsub
 have hb0:=hsub 0 x.pos
 have hbW : b < W.heap.size:=World.block_lt_of_cell? W _ hb0
 have hbw : b < w.heap.size:=by
  have:=hin x.i (by have:=x.le; omega)
  exact World.block_lt_of_cell? w _ this
 have hno : ¬ ownC W own b:=fun h=>by
  rcases hs.frm b h.1 with h' | h'
  ·have : b = w.heap.size ∨ b = w.heap.size + 1:=h'
   omega
  ·have : WL.heap.size ≤ b:=h'
   omega
 have hle:=x.le
 have hE : EnvL ι w.heap.size ⟨W,ownC W own⟩ (lsA w ao xs.length c (.slice (some ⟨b,o + (x.i + 1),none⟩) x.bd.length (c - (x.i + 1))) (.int .i64 ((x.i : Int) + (x.bd.length : Int) + 2))) [(6,.one (.r false (row false 1 (ints x.bd)))),(7,.one (.r true (int ((x.i : Int) + (x.bd.length : Int) + 2)))),(4,.one (.ptr 1000000000 0 0 0)),(5,.one (.ptr 1000000001 0 0 0))]:=by
  refine ⟨?_,?_,?_,?_,trivial⟩
  ·refine (Za7 (c:=⟨W,ownC W own⟩)).2 ⟨some ⟨b,o + (x.i + 1),none⟩,c - (x.i + 1),?_,?_,⟨fun h=>by (cases h),fun h=>by (cases h)⟩,fun h=>by (cases h),fun _=>⟨b,o + (x.i + 1),rfl,hbW,hno,fun i e he=>?_⟩⟩
   ·rw [Zr]; rfl
   ·rw [Zr]; omega
   ·unfold ints at he
    rw [List.getElem?_map,Option.map_eq_some_iff] at he
    obtain ⟨z,hz1,rfl⟩:=he
    refine ⟨rfl,fun j r hj=>?_⟩
    match j,hj with
    | 0,hj =>
     obtain rfl : int z = r:=by simpa [P0.rs] using hj
     obtain ⟨hi,hzz⟩:=List.getElem?_eq_some_iff.1 hz1
     refine ⟨.int .i64 z,?_,(Zaj (c:=⟨W,ownC W own⟩)).2 ⟨rfl,rfl⟩⟩
     have:=hsub i hi
     rw [List.getD_eq_getElem?_getD,hz1] at this
     show W.cell? ⟨b,o + (x.i + 1) + i * 1 + 0,none⟩ = _
     rw [Nat.mul_one,Nat.add_zero]
     exact this
    | j + 1,hj=>simp [P0.rs] at hj
  ·exact (Zaj (c:=Cx.young ⟨W,ownC W own⟩ w.heap.size true)).2 ⟨rfl,rfl⟩
  ·show Array.getD _ 4 undef = Value.pointer (some ⟨(ι 1000000000).1,(ι 1000000000).2 + (0 * 0 + 0),none⟩)
   rw [p1]; rfl
  ·show Array.getD _ 5 undef = Value.pointer (some ⟨(ι 1000000001).1,(ι 1000000001).2 + (0 * 0 + 0),none⟩)
   rw [p2]; rfl
 have hbody:=body_scan l hx pre x hp n (reBs (bsL w WL []) W own (bsL w WL []).pin []) { tmps:=lsA w ao xs.length c (.slice (some ⟨b,o + (x.i + 1),none⟩) x.bd.length (c - (x.i + 1))) (.int .i64 ((x.i : Int) + (x.bd.length : Int) + 2)),defers:=[] } W
  ⟨ι,ownC W own,hr.below,hr.base_,hr.own_,hr.keep,hr.frm,rfl,fun t=>look_env hE t,hr.heap,hr.place,hr.inj,rfl,hr.pin⟩
 refine wpIn_mono hbody ?_
 rintro e a' W' ⟨s',⟨rfl,hw⟩,hsim⟩
 obtain ⟨ι',own',h2⟩:=hw _ _ _ hsim
 have h3:=Sim'.back hs (fun b h=>h) h2 h2.defers
 refine ⟨h2.keeps,fun _=>scan_G hin hB hz c2 h3.below,ι',own',h3.below,h3.base_,h3.own_,h3.keep,h3.frm,rfl,fun t=>look_env (l:=[(4,.one (.ptr 1000000000 0 0 0)),(5,.one (.ptr 1000000001 0 0 0))]) ⟨?_,?_,trivial⟩ t,h3.heap,h3.place,h3.inj,rfl,h3.pin⟩
 ·have p1' : ι' 1000000000 = (w.heap.size,0):=(h3.pin 1000000000 (w.heap.size,0) (by simp [bsL])).1
  show Array.getD _ 4 undef = Value.pointer (some ⟨(ι' 1000000000).1,(ι' 1000000000).2 + (0 * 0 + 0),none⟩)
  rw [p1']; rfl
 ·have p2' : ι' 1000000001 = (w.heap.size + 1,0):=(h3.pin 1000000001 (w.heap.size + 1,0) (by simp [bsL])).1
  show Array.getD _ 5 undef = Value.pointer (some ⟨(ι' 1000000001).1,(ι' 1000000001).2 + (0 * 0 + 0),none⟩)
  rw [p2']; rfl
noncomputable abbrev scanEnd : Code:=match (Tryz.f41).body with | some (.seq _ (.seq _ (.seq _ (.seq _ (.seq _ c)))))=>c | _=>.skip
theorem scan_tail {xs : List Int} (pre : List (Frm xs)) (hp : pre.length ≤ 2001) :
  AW Tryz.prog scanEnd (stS pre) (fun e s=>e = .ret ∧ RetOk Tryz.prog s [.tmp 2,.tmp 3] (.tup [.one (row (decide (pre.map Frm.bd = [])) 1 (rowsI (pre.map Frm.bd))),iP (tkS pre)])):=by
 unfold scanEnd
 delta Tryz.f41
 dsimp only
 unfold stS
 generalize pre.map Frm.bd = bs at *
 generalize tkS pre = t0 at *
 by_cases hb : bs = []
 ·subst hb
  rw [show hpS [] t0 = [(1000000000,.var 42 [.r true (row true 1 [])]),(1000000001,.var 3 [.r true (int t0)])] from rfl]
  repeat' (first|refine wk ?_|(refine wkB ?_ ?_<;>intro hg_<;>try exact wkX)|fail)
  all_goals first
   | exact ⟨rfl,(Zbe (Zl rfl (Z8 Zaq)) (Zl rfl (Zz rfl))).2⟩
 ·rw [show hpS bs t0 = [(1000000000,.var 42 [.own 100 0 bs.length 1]),(100,.sl 26 1 true (rowsI bs)),(1000000001,.var 3 [.r true (int t0)])] by unfold hpS; rw [if_neg hb]]
  have hrl:=(Zax bs).symm
  have hd : decide (bs = []) = false:=by simp [hb]
  rw [hd]
  repeat' (first|refine wk ?_|(refine wkB ?_ ?_<;>intro hg_<;>try exact wkX)|fail)
  all_goals first
   | exact ⟨rfl,(Zbe (Zl rfl (Z8 (Z0 (Zk rfl) hrl))) (Zl rfl (Zz rfl))).2⟩
theorem tk_sum {xs : List Int} (hx : bytesOk xs = true) (ys : List (Frm xs)) (h : ys.map Frm.p = itsA xs 0) : ys.map Frm.bd = (scanF xs).1 ∧ tkS ys = ((scanF xs).2 : Nat):=by
 have hs:=scan_its (xs:=xs) xs.length 0 (by omega) (Nat.zero_le _)
 rw [List.drop_zero] at hs
 have e1 : ys.map Frm.bd = (scanF xs).1:=by rw [hs.1,← h,List.map_map]; rfl
 refine ⟨e1,?_⟩
 rw [hs.2,← h]
 unfold tkS
 cases hl : ys.getLast? with
 | none =>
  have : ys = []:=by simpa using hl
  subst this; rfl
 | some x =>
  have h2 : (itsA xs 0).getLast? = some x.p:=by rw [← h,List.getLast?_map,hl]; rfl
  have:=last_its (xs:=xs) xs.length 0 (by omega) (Nat.zero_le _) x.p h2
  rw [h]
  have h3 : (x.i : Int) + (x.bd.length : Int) + 2 = ((x.p.1 + x.p.2.length + 2 : Nat) : Int):=by simp
  dsimp only
  rw [h3,this,Nat.zero_add]
theorem f_implScanFrames (nil : Bool) (xs : List Int) (hx : bytesOk xs = true) : Fn Tryz.prog 41 [.one (row nil 1 (ints xs))] (.tup [.one (row (decide ((scanF xs).1 = [])) 1 (rowsI (scanF xs).1)),iP ((scanF xs).2 : Nat)]):=by
 have hl:=Zb2 hx
 refine ⟨ent_of Tryz.func41 (by kernel_rfl) rfl,fun w vs hG0 hA=>?_⟩
 match vs,hA with
 | [v],⟨h1,_⟩ =>
  obtain ⟨ao,b,o,c,rfl,ha,hin,hlc,hcm⟩:=ints_argV h1
  refine (callsIn_wide (n:=9)).1 ?_
  refine callsIn_of_wp_marks Tryz.func41 rfl trivial ?_ rfl
  simp only [Tryz.ntmps41,List.size_toArray,List.length_cons,List.length_nil,Nat.reduceAdd,Nat.reduceSub,Array.replicate_succ,Array.replicate_zero,List.push_toArray,List.append_toArray,List.nil_append,List.cons_append]
  have hBV:=implBytesValid ao b o c xs w (by simp only [maxLen]; omega) ha hin
  rw [hx] at hBV
  gi_wp2_with (first|(refine ⟨trivial,?_⟩;gi_at_call 58;refine (callsIn_wide.2 hBV).mono ?_;rintro e w1 ⟨rfl,rfl⟩)|(refine ⟨trivial,?_⟩;gi_at_call 68;refine (callsIn_wide.2 (implFramesOf _ _ _ _)).mono ?_;rintro e w1 ⟨rfl,rfl⟩))
  -- the loop
  obtain ⟨WL,hWL⟩ : ∃ WL : World,WL = ((w.alloc (.cells #[.slice none 0 0] 42)).alloc (.cells #[.int .i64 0] 3)).alloc (.cells #[.slice ao xs.length c] 26):=⟨_,rfl⟩
  rw [← hWL]
  obtain ⟨hz,hB,c2,hS0⟩:=scan_start w WL ao xs.length c (xs:=xs) hG0 hWL
  rename_i K hKK
  have hN : (itsA xs 0).length ≤ 2001:=by have:=itsF_len xs (xs.length + 1 - 0) 0; unfold itsA; omega
  have hGs : ∀ W,Below WL.heap.size WL W → GF (w.heap.size + 1 + 1) b o c ao xs W:=fun W hW=>scan_G (dfs:=[]) hin hB hz c2 ⟨hW.os,hW.tape,hW.output,hW.size,fun k hk _=>hW.block k hk,.of_below hW⟩
  refine wpIn_rangeFunc_ownF (F:=Fence.wide) (n:=9) rfl (by omega) (gf:=94) (lb:=#[.pointer (some ⟨w.heap.size + 1 + 1,0,none⟩)]) rfl trivial (enters_of Tryz.func94 (by kernel_rfl) rfl)
   (frames_stops 8 (by omega) (w.heap.size + 1 + 1) b o c ao xs WL hx hlc hcm ha hGs) (fun h1 h2 hA=>h2 (h1 hA)) ?hKb (Below.refl _ _) (fun _=>rfl)
   (fun (pre : List (Frm xs)) W=>Sim (bsL w WL []) (stS pre) { tmps:=lsA w ao xs.length c undef undef,defers:=[] } W) (fun _ _ _=>False) ?hI (fun _ _ _ _ _ hs _ _=>hs) hS0
   (fun x=>{ tmps:=lsA w ao xs.length c (.slice (some ⟨b,o + (x.i + 1),none⟩) x.bd.length (c - (x.i + 1))) (.int .i64 ((x.i : Int) + (x.bd.length : Int) + 2)),defers:=[] }) ?assign ?body ?done ?stop
  case hKb =>
   intro W l ob ob' hl hob hc1 _ hG
   refine ⟨?_,fun i hi=>?_⟩
   ·rw [← hG.1]
    refine World.cell?_of_block (World.putObj_heap_other ?_)
    show w.heap.size + 1 + 1 ≠ l
    omega
   ·rw [← hG.2 i hi]
    refine World.cell?_of_block (World.putObj_heap_other ?_)
    have:=hin i hi
    have : b < w.heap.size:=World.block_lt_of_cell? w _ this
    show b ≠ l
    omega
  case hI =>
   intro s W W' row hs hg hr
   exact hs.turn hg hr
  case assign =>
   intro l x W K hK
   simp only [encsF]
   gi_wp2
   exact hK
  case body =>
   intro l pre x W hS hlt
   exact scan_round l _ hx hlc hcm hin hB hz c2 pre x (by omega) hS
  case done =>
   intro D ys W hD hS hI hK
   obtain ⟨e1,e2⟩:=tk_sum hx ys hS
   have hyl : ys.length ≤ 2001:=by have:=congrArg List.length hS; rw [List.length_map] at this; omega
   have hAW:=scan_tail ys hyl
   rw [e1,e2] at hAW
   refine hKK _ _ ?_
   obtain ⟨ι,own,hs⟩:=hI
   have hsD : Sim' (bsL w WL [{ target:=.collected D,args:=#[] }]) (stS ys) { tmps:=lsA w ao xs.length c undef undef,defers:=[{ target:=.collected D,args:=#[] }] } W ι own:=⟨⟨hs.below.os,hs.below.tape,hs.below.output,hs.below.size,hs.below.block,hs.below.sized⟩,hs.base_,hs.own_,hs.keep,hs.frm,hs.size,hs.env,hs.heap,hs.place,hs.inj,rfl,hs.pin⟩
   have hrD:=hsD.rebase (bsL w WL [{ target:=.collected D,args:=#[] }]).pin hsD.pin
   have hw:=hAW _ _ _ ⟨ι,_,hrD⟩
   refine wpIn_mono (wpIn_wide.2 hw) ?_
   rintro e a' W' ⟨s',⟨rfl,hret⟩,ι',own',h2⟩
   have h3:=Sim'.back hsD (fun b h=>h) h2 h2.defers
   have hK' : W'.heap[D]? = some (.deferred (some [])):=h2.keeps.same D _ hK rfl
   have h4 : Sim (bsL w WL [{ target:=.collected D,args:=#[] }]) s' a' (W'.putObj D (.deferred none)):=Sim.turn ⟨ι',own',h3⟩ (grownBy_putObj' W' D _) (fun r e=>by cases e; exact ⟨hD,_,hK',rfl⟩)
   obtain ⟨v,g1,g2⟩:=ret_run h4 (fn:=Tryz.f41) rfl hret
   have hd : a'.defers = [{ target:=.collected D,args:=#[] }]:=h3.defers
   show LeavesInM _ _ _ _ _ _ a'.defers _ _
   rw [hd]
   refine ⟨by simp,.inl ⟨_,_,rfl,run_takeDeferred hK',?_⟩⟩
   refine ⟨v,g1,v,rfl,g2,?_⟩
   obtain ⟨_,_,h5⟩:=h4
   have hlow:=h5.below
   exact hB.trans ⟨hlow.os,hlow.tape,hlow.output,Nat.le_trans (Nat.le_trans (by omega) (Nat.le_refl WL.heap.size)) hlow.size,fun k hk=>hlow.block k (by show k < WL.heap.size; omega) (fun h=>by have h' : k = w.heap.size ∨ k = w.heap.size + 1:=h; omega)⟩
  case stop =>
   intro D c' pre W _ _ h _
   exact h.elim
end Go.Proofs.YtmkijbfiilpccaaGreat.Abs
