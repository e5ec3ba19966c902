/- Draws by states: lists of bytes, frames, disks. No statement of the seat is proved here. -/
import Derived.Lib.Hide
import Derived.Test.YtmkijbfiilpccaaGreatRsTy
import Derived.Test.YtmkijbfiilpccaaGreatRsASpCD
set_option linter.unusedSimpArgs false
set_option linter.unusedVariables false
set_option maxRecDepth 100000
set_option maxHeartbeats 8000000
namespace Go.Proofs.YtmkijbfiilpccaaGreat.Abs
open Go.RowKit
open R (val row ref)
theorem ints_setQ (xs : List Int) (i : Nat) (x : Int) : (ints xs).set i (iP x) = ints (xs.set i x):=by unfold ints; rw [List.map_set]
def takeH (k m : Nat) : List (Nat × Ob) → List (Nat × Ob)
 | []=>[]
 | (u,ob) :: h=>(u,bif Nat.beq u k then (match ob with | .sl E sz new els=>.sl E sz new (els.take m) | x=>x) else ob) :: takeH k m h
theorem sl_take {ι : Nat → Nat × Nat} {base : Nat} {c : Cx} {b : Nat × Nat} {E : TypeId} {sz : Nat} {new : Bool} {els : List P0} (m : Nat) (h : (Ob.sl E sz new els).p ι base c b) : (Ob.sl E sz new (els.take m)).p ι base c b:=by
 obtain ⟨arr,h1,h2,h3⟩:=h
 refine ⟨arr,h1,?_,fun i e he=>h3 i e ?_⟩
 ·have : (els.take m).length * sz ≤ els.length * sz:=Nat.mul_le_mul_right _ (by rw [List.length_take]; omega)
  omega
 ·rw [List.getElem?_take] at he
  split at he
  ·exact he
  ·cases he
theorem takeH_get (k m : Nat) : ∀ (h : List (Nat × Ob)) (u : Nat) (ob : Ob),lookH (takeH k m h) u = some ob → ∃ ob0,lookH h u = some ob0 ∧ (ob = ob0 ∨ ∃ E sz new els,ob0 = .sl E sz new els ∧ ob = .sl E sz new (els.take m))
 | [],u,ob,h=>by cases h
 | (v,o) :: h,u,ob,hx=>by
  simp only [takeH,lookH] at hx ⊢
  by_cases e : u = v
  ·subst e
   rw [upd_same] at hx ⊢
   refine ⟨o,rfl,?_⟩
   injection hx with hx
   cases hk : Nat.beq u k with
   | false=>rw [hk] at hx; exact .inl hx.symm
   | true =>
    rw [hk] at hx
    cases o with
    | var E cs=>exact .inl hx.symm
    | sl E sz new els=>exact .inr ⟨E,sz,new,els,rfl,hx.symm⟩
  ·rw [upd_ne _ _ e] at hx ⊢
   exact takeH_get k m h u ob hx
theorem weak_take {n : Nat} {l : List (Nat × D)} {h : List (Nat × Ob)} (k m : Nat) : Weak (mkS n l h) (mkS n l (takeH k m h)):=by
 rintro w0 a w ⟨ι,own,hs⟩
 refine ⟨ι,own,hs.below,hs.base_,hs.own_,hs.keep,hs.frm,hs.size,hs.env,fun x ob hx=>?_,fun x ob hx=>?_,fun x x' ob ob' hx hx' e=>?_,hs.defers,hs.pin⟩
 ·obtain ⟨ob0,h0,h1⟩:=takeH_get k m h x ob hx
  obtain ⟨q1,q2⟩:=hs.heap x ob0 h0
  refine ⟨q1,?_⟩
  rcases h1 with rfl | ⟨E,sz,new,els,rfl,rfl⟩
  ·exact q2
  ·exact sl_take m q2
 ·obtain ⟨ob0,h0,_⟩:=takeH_get k m h x ob hx
  exact hs.place x ob0 h0
 ·obtain ⟨o,h0,_⟩:=takeH_get k m h x ob hx
  obtain ⟨o',h0',_⟩:=takeH_get k m h x' ob' hx'
  exact hs.inj x x' o o' h0 h0' e
noncomputable def byV (bs : List Int) (p : Int) : Int:=dV [pickV bs p 256,pickV bs (p + 1) 4,127 + pickV bs (p + 1 + 1) 3] (pickV bs (p + 1 + 1 + 1) 3)
noncomputable def byT (bs : List Int) (p : Int) (n : Nat) : List Int:=(List.range n).map fun i : Nat=>byV bs (p + 1 + 4 * (i : Int))
theorem byT_len (bs : List Int) (p : Int) (n : Nat) : (byT bs p n).length = n:=range_map_len _ _
theorem byT_snoc (bs : List Int) (p : Int) (n : Nat) : byT bs p (n + 1) = byT bs p n ++ [byV bs (p + 1 + 4 * (n : Int))]:=by unfold byT; rw [List.range_succ,List.map_append]; rfl
noncomputable def drB (bs : List Int) (p n : Int) : List Int × Int :=
 let C:=(pickV bs p 12).toNat
 let q:=p + 1 + 4 * (C : Int)
 if odV bs q n = true then
  if pickV bs (odE q n) 2 = 0 then (byT bs p C ++ [dV [-1,256] (pickV bs (odE q n + 1) 2)],odE q n + 1 + 1) else (List.replicate 2001 0,odE q n + 1)
 else (byT bs p C,odE q n)
theorem drB_bd (bs : List Int) (p n : Int) : (drB bs p n).1.length ≤ 2001 ∧ p ≤ (drB bs p n).2 ∧ (drB bs p n).2 ≤ p + 60:=by
 have h:=Zav bs p 12
 have ho:=odE_in (p + 1 + 4 * ((pickV bs p 12).toNat : Int)) n
 unfold drB
 dsimp only
 split
 ·split
  ·simp only [List.length_append,byT_len,List.length_cons,List.length_nil]; omega
  ·simp only [List.length_replicate]; omega
 ·simp only [byT_len]; omega
theorem ints_rep0 (n : Nat) : List.replicate n (iP 0) = ints (List.replicate n 0):=by unfold ints; rw [List.map_replicate]
theorem f_l20Bytes {bs : List Int} (p n : Int) (hn : 0 ≤ n) (hn2 : n ≤ 1000000) (hB : Byte bs) (hl : bs.length ≤ 2000) (hp0 : 0 ≤ p) (hp : p ≤ 900000) (m1 m2 nb : Bool) :
    FnS Tryz.prog 83 [.one (.ptr 1000000000 0 0 0), .one (.r false (int n))] (rdH 1000000000 m1 m2 nb bs p) (.one (.own 2000001 0 (drB bs p n).1.length 1)) (rdH 1000000000 m1 true nb bs (drB bs p n).2 ++ [(2000001, .sl 3 1 true (ints (drB bs p n).1))]) := by
  have K0 := Za9 p 12 hB hl hp0 oM m1 m2 nb
  have hc := Zav bs p 12
  have hcN : ((pickV bs p 12).toNat : Int) = pickV bs p 12 := Int.toNat_of_nonneg hc.1
  obtain ⟨DR, hDR⟩ : ∃ x, x = drB bs p n := ⟨_, rfl⟩
  rw [← hDR]
  unfold drB at hDR
  dsimp only at hDR
  generalize hC : (pickV bs p 12).toNat = C at *
  rw [← hcN] at K0
  have hC9 : C ≤ 12 := by omega
  clear hC hcN hc
  have KP : ∀ q : Int, 0 ≤ q → q ≤ 1000000 → ∀ n, FnS Tryz.prog 22 [.one (.ptr 1000000000 0 0 0), .one (.r false (int n))] (rdH 1000000000 m1 true nb bs q) (.one (.r true (int (pickV bs q n)))) (rdH 1000000000 m1 true nb bs (q + 1)) := fun q h0 h1 n => Za9 q n hB hl h0 h1 m1 true nb
  have KO := f_odd0 (bs := bs) (p + 1 + 4 * (C : Int)) n hn hn2 hB hl oM oM m1 nb
  unfold rdH at *
  refine Zab (l := [.tmp 4]) Tryz.func83 kRf rfl Tryz.ntmps83 rfl rfl ?_; simp only [dEnv, Nat.reduceAdd]
  repeat' (first|refine wk ?_|((first|refine' w_e rfl ?xa ?xb ?xc ?xe ?_|refine' v_e rfl ?xa ?xb ?xc ?xe ?_);(case xa => first|exact Zp [] tlOk rfl rfl rfl rfl rfl rfl (by simp [AllN]) (by simp)|exact Zh [] K0 rfl ⟨Zi (Za rfl), asE, trivial⟩ sbH rfl);(case xb|xc|xe=>rfl);try refine wkD ?_)|(refine wkB ?_ ?_<;>intro hg_<;>try exact wkX)|fail)
  refine Zac (fun i : Nat => i ≤ C) (fun i => mkS 45 [(6, .one (.r true (int ((C : Int) - (i : Int))))), (5, .one (.own 100 0 i 1)), (1, .one (.r false (int n))), (0, .one (.ptr 1000000000 0 0 0))] [(1000000000, .var 77 [.r m1 (row nb 1 (bys bs)), .r true (int (p + 1 + 4 * (i : Int)))]), (100, .sl 3 1 true (ints (byT bs p i)))]) (fun i => C - i) 0 (Nat.zero_le _) (by (refine Zn [(100, 7)] rfl ?_ ?_ <;> repeat' (first|refine wkS ?_ ?_|exact wkE|exact Zu oM|exact var2 rfl (Zbf oM)|exact Zv rfl (by simp [byT, ints])))) ?_
  rintro i hi
  have hlen := byT_len bs p i
  have hli := Zr (byT bs p i)
  have hrow : i = (ints (byT bs p i)).length := by omega
  by_cases hlt : i < C
  · have hsn : ints (byT bs p (i + 1)) = ints (byT bs p i) ++ [iP (byV bs (p + 1 + 4 * (i : Int)))] := by rw [byT_snoc, Zb3]
    have K1 := KP (p + 1 + 4 * (i : Int)) oM oM 256
    have K2 := KP (p + 1 + 4 * (i : Int) + 1) oM oM 4
    have K3 := KP (p + 1 + 4 * (i : Int) + 1 + 1) oM oM 3
    have K4 := KP (p + 1 + 4 * (i : Int) + 1 + 1 + 1) oM oM 3
    have hv3 := Zav bs (p + 1 + 4 * (i : Int) + 1 + 1) 3
    have hv4 := Zav bs (p + 1 + 4 * (i : Int) + 1 + 1 + 1) 3
    have hw : IntKind.i64.wrap (127 + pickV bs (p + 1 + 4 * (i : Int) + 1 + 1) 3) = 127 + pickV bs (p + 1 + 4 * (i : Int) + 1 + 1) 3 := IntWalk.i64_in _ oM
    have hfin : ∀ s' : St, Weak s' (mkS 45 [(6, .one (.r true (int ((C : Int) - ((i + 1 : Nat) : Int))))), (5, .one (.own 100 0 (i + 1) 1)), (1, .one (.r false (int n))), (0, .one (.ptr 1000000000 0 0 0))] [(1000000000, .var 77 [.r m1 (row nb 1 (bys bs)), .r true (int (p + 1 + 4 * ((i + 1 : Nat) : Int)))]), (100, .sl 3 1 true (ints (byT bs p (i + 1))))]) → ∃ x' : Nat, x' ≤ C ∧ Weak s' (mkS 45 [(6, .one (.r true (int ((C : Int) - (x' : Int))))), (5, .one (.own 100 0 x' 1)), (1, .one (.r false (int n))), (0, .one (.ptr 1000000000 0 0 0))] [(1000000000, .var 77 [.r m1 (row nb 1 (bys bs)), .r true (int (p + 1 + 4 * (x' : Int)))]), (100, .sl 3 1 true (ints (byT bs p x')))]) ∧ C - x' < C - i := fun s' h => ⟨i + 1, hlt, h, by omega⟩
    rw [hsn] at hfin
    unfold byV at hfin
    clear hsn KP K0 KO hDR
    generalize pickV bs (p + 1 + 4 * (i : Int) + 1 + 1 + 1) 3 = v4 at *
    generalize pickV bs (p + 1 + 4 * (i : Int) + 1 + 1) 3 = v3 at *
    generalize pickV bs (p + 1 + 4 * (i : Int) + 1) 4 = v2 at *
    generalize pickV bs (p + 1 + 4 * (i : Int)) 256 = v1 at *
    repeat' (first|refine wk ?_|((first|refine' w_q rfl rfl ?xa rfl ?_|refine' v_q rfl rfl ?xa rfl ?_|refine' Zm rfl rfl (Zd rfl) rfl ?xa rfl ?_|refine' Zo rfl rfl (Zd rfl) rfl ?xa rfl ?_);case xa => first|exact Zau tbOk rfl rfl rfl rfl oM (by simp only [List.length_cons, List.length_nil];omega)|exact Zaf (xs := [v1, v2, IntKind.i64.wrap (127 + v3)]) tbOk rfl rfl rfl rfl (by simp only [List.length_cons, List.length_nil];omega))|((first|refine' w_e rfl ?xa ?xb ?xc ?xe ?_|refine' v_e rfl ?xa ?xb ?xc ?xe ?_);(case xa => first|exact Ze 16 rfl (Zh [] K1 rfl ⟨Zi (Za rfl), asE, trivial⟩ sbH rfl)|exact Ze 18 rfl (Zh [] K2 rfl ⟨Zi (Za rfl), asE, trivial⟩ sbH rfl)|exact Ze 20 rfl (Zh [] K3 rfl ⟨Zi (Za rfl), asE, trivial⟩ sbH rfl)|exact Ze 24 rfl (Zh [] K4 rfl ⟨Zi (Za rfl), asE, trivial⟩ sbH rfl)|exact Ze 22 rfl (Zp [.tmp 16, .tmp 18, .tmp 21] tlOk rfl rfl rfl rfl rfl rfl (Zbc [v1, v2, IntKind.i64.wrap (127 + v3)]) (by simp))|exact Zp [.tmp 26] tlOk rfl rfl rfl rfl rfl rfl (Z7 rfl) (by simp)|exact Zw tlOk rfl rfl rfl rfl rfl rfl (Z4 (Z6 (Zk rfl) rfl) (by simp [plain1, iP])) hrow (by simp only [maxLen, List.length_append, List.length_cons, List.length_nil];omega) (by (try simp only [List.length_append, List.length_cons, List.length_nil]);omega));(case xb|xc|xe=>rfl);try refine wkD ?_)|(refine wkB ?_ ?_<;>intro hg_<;>try exact wkX)|fail)
    all_goals first
      | (refine hfin _ ?_
         (refine Zn [(100, 28)] rfl ?_ ?_ <;> repeat' (first|refine wkS ?_ ?_|exact wkE|exact Zu (by rw [IntWalk.i64_in _ oM] <;> omega)|exact Za6 (by simp only [hli, hlen, List.length_cons, List.length_nil])|exact var2 rfl (Zbf oM)|exact Zv rfl (by rw [Nat.zero_add, hw] <;> rfl))))
  · have hiC : i = C := by omega
    subst hiC
    have hq := odE_in (p + 1 + 4 * (i : Int)) n
    generalize odE (p + 1 + 4 * (i : Int)) n = q at *
    have K1 := KP q oM oM 2
    have K2 := KP (q + 1) oM oM 2
    have hv2 := Zav bs (q + 1) 2
    clear K0 KP
    generalize odV bs (p + 1 + 4 * (i : Int)) n = od at *
    generalize pickV bs (q + 1) 2 = v2 at *
    generalize pickV bs q 2 = v1 at *
    generalize byT bs p i = B at *
    cases od
    · rw [if_neg (by simp)] at hDR
      subst hDR
      dsimp only
      repeat' (first|refine wk ?_|((first|refine' w_e rfl ?xa ?xb ?xc ?xe ?_|refine' v_e rfl ?xa ?xb ?xc ?xe ?_);(case xa => exact Ze 31 rfl (Zh [] KO rfl ⟨Zi (Za rfl), asE, trivial⟩ sbH rfl));(case xb|xc|xe=>rfl);try refine wkD ?_)|(refine wkB ?_ ?_<;>intro hg_<;>try exact wkX)|fail)
      all_goals first
        | exact Zx [(2000001, 100)] rfl sbH (Zb7 rfl (Z9 (Za6 hlen.symm)))
    · rw [if_pos rfl] at hDR
      by_cases hv1 : v1 = 0
      · rw [if_pos hv1] at hDR
        subst hDR hv1
        dsimp only
        repeat' (first|refine wk ?_|((first|refine' w_q rfl rfl ?xa rfl ?_|refine' v_q rfl rfl ?xa rfl ?_|refine' Zm rfl rfl (Zd rfl) rfl ?xa rfl ?_|refine' Zo rfl rfl (Zd rfl) rfl ?xa rfl ?_);case xa => first|exact Zau tbOk rfl rfl rfl rfl oM (by simp only [List.length_cons, List.length_nil];omega)|exact Zaf (xs := [-1, 256]) tbOk rfl rfl rfl rfl (by simp only [List.length_cons, List.length_nil];omega))|((first|refine' w_e rfl ?xa ?xb ?xc ?xe ?_|refine' v_e rfl ?xa ?xb ?xc ?xe ?_);(case xa => first|exact Ze 31 rfl (Zh [] KO rfl ⟨Zi (Za rfl), asE, trivial⟩ sbH rfl)|exact Ze 33 rfl (Zh [] K1 rfl ⟨Zi (Za rfl), asE, trivial⟩ sbH rfl)|exact Ze 38 rfl (Zh [] K2 rfl ⟨Zi (Za rfl), asE, trivial⟩ sbH rfl)|exact Ze 36 rfl (Zp [.const (.int .i64 (-1)), .const (.int .i64 256)] tlOk rfl rfl rfl rfl rfl rfl (Zbc [-1, 256]) (by simp))|exact Zp [.tmp 40] tlOk rfl rfl rfl rfl rfl rfl (Z7 rfl) (by simp)|exact Zw tlOk rfl rfl rfl rfl rfl rfl (Z4 (Z6 (Zk rfl) rfl) (by simp [plain1, iP])) hrow (by simp only [maxLen, List.length_append, List.length_cons, List.length_nil];omega) (by (try simp only [List.length_append, List.length_cons, List.length_nil]);omega));(case xb|xc|xe=>rfl);try refine wkD ?_)|(refine wkB ?_ ?_<;>intro hg_<;>try exact wkX)|fail)
        all_goals first
          | (exfalso; omega)
          | exact Zx [(2000001, 42)] rfl (by (repeat' (first|exact trivial|refine Zbm rfl ?_ ?_|rfl|exact Zv rfl (by rw [Zb3, Nat.zero_add] <;> rfl)))) (Zb7 rfl (Z9 (Za6 (by simp only [List.length_append, List.length_cons, List.length_nil, hli]))))
      · rw [if_neg hv1] at hDR
        subst hDR
        dsimp only
        repeat' (first|refine wk ?_|((first|refine' w_e rfl ?xa ?xb ?xc ?xe ?_|refine' v_e rfl ?xa ?xb ?xc ?xe ?_);(case xa => first|exact Ze 31 rfl (Zh [] KO rfl ⟨Zi (Za rfl), asE, trivial⟩ sbH rfl)|exact Ze 33 rfl (Zh [] K1 rfl ⟨Zi (Za rfl), asE, trivial⟩ sbH rfl)|exact e_make tlOk rfl rfl rfl rfl rfl rfl (c := 2001) rfl rfl oM (by simp only [maxLen];omega));(case xb|xc|xe=>rfl);try refine wkD ?_)|(refine wkB ?_ ?_<;>intro hg_<;>try exact wkX)|fail)
        all_goals first
          | (exfalso; omega)
          | exact Zx [(2000001, 43)] rfl (by (repeat' (first|exact trivial|refine Zbm rfl ?_ ?_|rfl|exact Zv rfl (ints_rep0 2001)))) (Zb7 rfl (Z9 (Za6 (by rw [List.length_replicate]))))
noncomputable def frStep (bs : List Int) (x : Int × List Int) : Int × List Int:=((drB bs x.1 0).2 + 1,x.2 ++ frameOf ((drB bs x.1 0).1 ++ [pickV bs (drB bs x.1 0).2 9]))
noncomputable def frIt (bs : List Int) (x : Int × List Int) : Nat → Int × List Int
 | 0=>x
 | n + 1=>frStep bs (frIt bs x n)
theorem frIt_bd (bs : List Int) (p : Int) : ∀ n : Nat,p ≤ (frIt bs (p,[]) n).1 ∧ (frIt bs (p,[]) n).1 ≤ p + 61 * (n : Int) ∧ (frIt bs (p,[]) n).2.length ≤ 102 * n
 | 0=>by simp [frIt]
 | n + 1=>by
  obtain ⟨h1,h2,h3⟩:=frIt_bd bs p n
  have h4:=drB_bd bs (frIt bs (p,[]) n).1 0
  have h5:=frame_len ((drB bs (frIt bs (p,[]) n).1 0).1 ++ [pickV bs (drB bs (frIt bs (p,[]) n).1 0).2 9])
  simp only [frIt,frStep,List.length_append]
  omega
noncomputable def drF (bs : List Int) (p : Int) : List Int × Int :=
 let x:=frIt bs (p + 1,[]) (pickV bs p 4).toNat
 let M : Int:=if (x.2.length : Int) < 256 then (x.2.length : Int) else 256
 if oddV bs x.1 2 = true ∧ 0 < x.2.length then
  if pickV bs (x.1 + 1) 3 = 0 then (x.2.take (pickV bs (x.1 + 1 + 1) M).toNat,x.1 + 1 + 1 + 1)
  else if pickV bs (x.1 + 1) 3 = 1 then (x.2.set (pickV bs (x.1 + 1 + 1) M).toNat ((IntKind.i64.wrap (x.2.getD (pickV bs (x.1 + 1 + 1) M).toNat 0 + 1)).tmod 256),x.1 + 1 + 1 + 1)
  else (x.2 ++ (drB bs (x.1 + 1 + 1) 6).1,(drB bs (x.1 + 1 + 1) 6).2)
 else (x.2,x.1 + 1)
theorem drF_bd (bs : List Int) (p : Int) : (drF bs p).1.length ≤ 2500 ∧ p ≤ (drF bs p).2 ∧ (drF bs p).2 ≤ p + 300:=by
 have hc:=Zav bs p 4
 have h:=frIt_bd bs (p + 1) (pickV bs p 4).toNat
 have h2:=drB_bd bs ((frIt bs (p + 1,[]) (pickV bs p 4).toNat).1 + 1 + 1) 6
 unfold drF
 dsimp only
 generalize frIt bs (p + 1,[]) (pickV bs p 4).toNat = x at *
 split
 ·split
  ·simp only [List.length_take]; omega
  ·split
   ·simp only [List.length_set]; omega
   ·simp only [List.length_append]; omega
 ·dsimp only; omega
theorem ints_take (xs : List Int) (k : Nat) : (ints xs).take k = ints (xs.take k):=by unfold ints; rw [List.map_take]
theorem f_l20Frames {bs : List Int} (p : Int) (hB : Byte bs) (hl : bs.length ≤ 2000) (hp0 : 0 ≤ p) (hp : p ≤ 800000) (m1 m2 nb : Bool) :
    FnS Tryz.prog 55 [.one (.ptr 1000000000 0 0 0)] (rdH 1000000000 m1 m2 nb bs p) (.one (.own 2000001 0 (drF bs p).1.length 1)) (rdH 1000000000 m1 true nb bs (drF bs p).2 ++ [(2000001, .sl 3 1 true (ints (drF bs p).1))]) := by
  have K0 := Za9 p 4 hB hl hp0 oM m1 m2 nb
  have hc := Zav bs p 4
  have hcN : ((pickV bs p 4).toNat : Int) = pickV bs p 4 := Int.toNat_of_nonneg hc.1
  obtain ⟨DR, hDR⟩ : ∃ x, x = drF bs p := ⟨_, rfl⟩
  rw [← hDR]
  unfold drF at hDR
  dsimp only at hDR
  generalize hC : (pickV bs p 4).toNat = C at *
  rw [← hcN] at K0
  have hC9 : C ≤ 4 := by omega
  clear hC hcN hc
  have KP : ∀ q : Int, 0 ≤ q → q ≤ 1000000 → ∀ n, FnS Tryz.prog 22 [.one (.ptr 1000000000 0 0 0), .one (.r false (int n))] (rdH 1000000000 m1 true nb bs q) (.one (.r true (int (pickV bs q n)))) (rdH 1000000000 m1 true nb bs (q + 1)) := fun q h0 h1 n => Za9 q n hB hl h0 h1 m1 true nb
  have KB : ∀ q : Int, 0 ≤ q → q ≤ 900000 → ∀ n, 0 ≤ n → n ≤ 1000000 → FnS Tryz.prog 83 [.one (.ptr 1000000000 0 0 0), .one (.r false (int n))] (rdH 1000000000 m1 true nb bs q) (.one (.own 2000001 0 (drB bs q n).1.length 1)) (rdH 1000000000 m1 true nb bs (drB bs q n).2 ++ [(2000001, .sl 3 1 true (ints (drB bs q n).1))]) := fun q h0 h1 n h2 h3 => f_l20Bytes q n h2 h3 hB hl h0 h1 m1 true nb
  have KO : ∀ q : Int, 0 ≤ q → q ≤ 1000000 → FnS Tryz.prog 20 [.one (.ptr 1000000000 0 0 0), .one (.r false (int 2))] (rdH 1000000000 m1 true nb bs q) (.one (.r true (bool (oddV bs q 2)))) (rdH 1000000000 m1 true nb bs (q + 1)) := fun q h0 h1 => f_odd q 2 oM oM hB hl h0 h1 m1 true nb
  unfold rdH at *
  refine Zab (l := [.tmp 2]) Tryz.func55 kRf rfl Tryz.ntmps55 rfl rfl ?_; simp only [dEnv, Nat.reduceAdd]
  repeat' (first|refine wk ?_|((first|refine' w_e rfl ?xa ?xb ?xc ?xe ?_|refine' v_e rfl ?xa ?xb ?xc ?xe ?_);(case xa => first|exact Zp [] tlOk rfl rfl rfl rfl rfl rfl (by simp [AllN]) (by simp)|exact Zh [] K0 rfl ⟨Zi (Za rfl), asE, trivial⟩ sbH rfl);(case xb|xc|xe=>rfl);try refine wkD ?_)|(refine wkB ?_ ?_<;>intro hg_<;>try exact wkX)|fail)
  obtain ⟨F, hF⟩ : ∃ F : Nat → St, ∀ i : Nat, F i = mkS 61 [(4, .one (.r true (int ((C : Int) - (i : Int))))), (3, .one (.own 100 0 (frIt bs (p + 1, []) i).2.length 1)), (0, .one (.ptr 1000000000 0 0 0))] [(1000000000, .var 77 [.r m1 (row nb 1 (bys bs)), .r true (int (frIt bs (p + 1, []) i).1)]), (100, .sl 3 1 true (ints (frIt bs (p + 1, []) i).2))] := ⟨_, fun _ => rfl⟩
  refine Zac (fun i : Nat => i ≤ C) F (fun i => C - i) 0 (Nat.zero_le _) (by rw [hF];(refine Zn [(100, 6)] rfl ?_ ?_ <;> repeat' (first|refine wkS ?_ ?_|exact wkE|exact Zu oM|exact var2 rfl (Zbf oM)|exact Zv rfl (by simp [byT, ints])))) ?_
  rintro i hi
  rw [hF]
  have hbd := frIt_bd bs (p + 1) i
  by_cases hlt : i < C
  · have hfin : ∀ s' : St, Weak s' (F (i + 1)) → ∃ x' : Nat, x' ≤ C ∧ Weak s' (F x') ∧ C - x' < C - i := fun s' h => ⟨i + 1, hlt, h, by omega⟩
    rw [hF (i + 1)] at hfin
    simp only [frIt, frStep] at hfin
    clear hF hDR K0
    generalize frIt bs (p + 1, []) i = x at *
    obtain ⟨q, X⟩ := x
    dsimp only at hbd hfin ⊢
    have K1 := KB q oM oM 0 oM oM
    have hb := drB_bd bs q 0
    have K2 := KP (drB bs q 0).2 oM oM 9
    clear KP KB KO
    generalize drB bs q 0 = b at *
    obtain ⟨B, q2⟩ := b
    dsimp only at hb hfin K1 K2
    generalize pickV bs q2 9 = v at *
    have KF := f_specFrameOf false (B ++ [v])
    have hfl := frame_len (B ++ [v])
    have hlB := Zr B
    have hlX := Zr X
    have hiB : (ints (B ++ [v])) = ints B ++ [iP v] := Zb3 B v
    rw [hiB] at KF
    have hlF := Zr (frameOf (B ++ [v]))
    have hXr : X.length = (ints X).length := hlX.symm
    have hBr : B.length = (ints B).length := hlB.symm
    generalize frameOf (B ++ [v]) = fr at *
    repeat' (first|refine wk ?_|((first|refine' w_e rfl ?xa ?xb ?xc ?xe ?_|refine' v_e rfl ?xa ?xb ?xc ?xe ?_);(case xa => first|exact Ze 15 rfl (Zh [(2000001, 501)] K1 rfl ⟨Zi (Za rfl), asE, trivial⟩ sbH rfl)|exact Ze 17 rfl (Zh [] K2 rfl ⟨Zi (Za rfl), asE, trivial⟩ sbH rfl)|exact Zp [.tmp 17] tlOk rfl rfl rfl rfl rfl rfl (Z7 rfl) (by simp)|exact Ze 19 rfl (Zw tlOk rfl rfl rfl rfl rfl rfl (Z4 (Z6 (Zk rfl) rfl) (by simp [plain1, iP])) hBr (by simp only [maxLen, List.length_cons, List.length_nil];omega) (by simp only [List.length_cons, List.length_nil];omega))|exact Zbn KF rfl rfl ⟨Zcp (Za rfl) (Zk rfl) (by simp only [List.length_append]), trivial⟩|exact Zw tlOk rfl rfl rfl rfl rfl rfl (Z4 (Z6 (Zk rfl) rfl) (Za4 _)) hXr (by simp only [maxLen, List.length_append, List.length_cons, List.length_nil];omega) (by (try simp only [List.length_append, List.length_cons, List.length_nil]);omega));(case xb|xc|xe=>rfl);try refine wkD ?_)|(refine wkB ?_ ?_<;>intro hg_<;>try exact wkX)|fail)
    all_goals first
      | (refine hfin _ ?_
         (refine Zn [(100, 21)] rfl ?_ ?_ <;> repeat' (first|refine wkS ?_ ?_|exact wkE|exact Zu (by rw [IntWalk.i64_in _ oM] <;> omega)|exact Za6 (by simp only [List.length_append, hlX, hlF])|exact var2 rfl (Zbf oM)|exact Zv rfl (ints_appB _ _).symm)))
  · have hiC : i = C := by omega
    subst hiC
    clear hF K0
    generalize frIt bs (p + 1, []) i = x at *
    obtain ⟨q, X⟩ := x
    dsimp only at hbd hDR ⊢
    have K1 := KO q oM oM
    have K2 := KP (q + 1) oM oM 3
    have hv2 := Zav bs (q + 1) 3
    have K3 := KP (q + 1 + 1) oM oM (if (X.length : Int) < 256 then (X.length : Int) else 256)
    have hv3 := Zav bs (q + 1 + 1) (if (X.length : Int) < 256 then (X.length : Int) else 256)
    have K4 := KB (q + 1 + 1) oM oM 6 oM oM
    have hb4 := drB_bd bs (q + 1 + 1) 6
    clear KP KB KO
    have hlX := Zr X
    have hXr : X.length = (ints X).length := hlX.symm
    have hM : (if (X.length : Int) < 256 then (X.length : Int) else 256) ≤ X.length := by split <;> omega
    generalize oddV bs q 2 = od at *
    generalize pickV bs (q + 1 + 1) (if (X.length : Int) < 256 then (X.length : Int) else 256) = v3 at *
    generalize pickV bs (q + 1) 3 = v2 at *
    generalize drB bs (q + 1 + 1) 6 = b at *
    obtain ⟨B, q4⟩ := b
    dsimp only at hb4 hDR K4
    have hlB := Zr B
    obtain ⟨N, rfl⟩ : ∃ N : Nat, v3 = (N : Int) := ⟨v3.toNat, by omega⟩
    simp only [Int.toNat_natCast] at hDR
    by_cases h0 : od = true ∧ 0 < X.length
    · rw [if_pos h0] at hDR
      obtain ⟨rfl, hX0⟩ := h0
      have hN : N < X.length := by omega
      by_cases h1 : v2 = 0
      · rw [if_pos h1] at hDR
        subst hDR h1
        dsimp only
        repeat' (first|refine wk ?_|((first|refine' w_q rfl rfl ?xa rfl ?_|refine' v_q rfl rfl ?xa rfl ?_|refine' Zm rfl rfl (Zd rfl) rfl ?xa rfl ?_|refine' Zo rfl rfl (Zd rfl) rfl ?xa rfl ?_);case xa => exact k_sliceO (a := 0) (b := N) tbOk rfl rfl rfl rfl ⟨_, Za rfl⟩ oM oM)|((first|refine' w_e rfl ?xa ?xb ?xc ?xe ?_|refine' v_e rfl ?xa ?xb ?xc ?xe ?_);(case xa => first|exact Ze 23 rfl (Zh [] K1 rfl ⟨Zi (Za rfl), asE, trivial⟩ sbH rfl)|exact Ze 30 rfl (Zh [] K2 rfl ⟨Zi (Za rfl), asE, trivial⟩ sbH rfl)|exact Ze 42 rfl (Zh [] K3 rfl ⟨Zi (Za rfl), asE, trivial⟩ sbH rfl));(case xb|xc|xe=>rfl);try refine wkD ?_)|(refine wkB ?_ ?_<;>intro hg_<;>try exact wkX)|fail)
        all_goals first
          | (exfalso; omega)
          | exact Zas (weak_take 100 N) (Zx [(2000001, 100)] rfl (by (repeat' (first|exact trivial|refine Zbm rfl ?_ ?_|rfl|exact Zv rfl (ints_take X N)))) (Zb7 rfl (Z9 (Za6 (by rw [List.length_take];omega)))))
      · rw [if_neg h1] at hDR
        by_cases h2 : v2 = 1
        · rw [if_pos h2] at hDR
          subst hDR h2
          dsimp only
          repeat' (first|refine wk ?_|((first|refine' w_q rfl rfl ?xa rfl ?_|refine' v_q rfl rfl ?xa rfl ?_|refine' Zm rfl rfl (Zd rfl) rfl ?xa rfl ?_|refine' Zo rfl rfl (Zd rfl) rfl ?xa rfl ?_);case xa => first|exact k_rem rfl rfl rfl (by decide)|exact Zau tbOk rfl rfl rfl rfl oM oM|exact Zaf (xs := X) tbOk rfl rfl rfl rfl oM)|((first|refine' w_e rfl ?xa ?xb ?xc ?xe ?_|refine' v_e rfl ?xa ?xb ?xc ?xe ?_);(case xa => first|exact Ze 23 rfl (Zh [] K1 rfl ⟨Zi (Za rfl), asE, trivial⟩ sbH rfl)|exact Ze 30 rfl (Zh [] K2 rfl ⟨Zi (Za rfl), asE, trivial⟩ sbH rfl)|exact Ze 50 rfl (Zh [] K3 rfl ⟨Zi (Za rfl), asE, trivial⟩ sbH rfl)|exact e_storeS tbOk rfl rfl rfl rfl rfl rfl rfl rfl (by rw [hlX];omega));(case xb|xc|xe=>rfl);try refine wkD ?_)|(refine wkB ?_ ?_<;>intro hg_<;>try exact wkX)|fail)
          all_goals first
            | (exfalso; omega)
            | exact Zx [(2000001, 100)] rfl (by (repeat' (first|exact trivial|refine Zbm rfl ?_ ?_|rfl|exact Zv rfl (by rw [Nat.zero_add, Int.toNat_natCast, ints_setQ] <;> rfl)))) (Zb7 rfl (Z9 (Za6 (by rw [List.length_set]))))
        · rw [if_neg h2] at hDR
          subst hDR
          dsimp only
          repeat' (first|refine wk ?_|((first|refine' w_e rfl ?xa ?xb ?xc ?xe ?_|refine' v_e rfl ?xa ?xb ?xc ?xe ?_);(case xa => first|exact Ze 23 rfl (Zh [] K1 rfl ⟨Zi (Za rfl), asE, trivial⟩ sbH rfl)|exact Ze 30 rfl (Zh [] K2 rfl ⟨Zi (Za rfl), asE, trivial⟩ sbH rfl)|exact Ze 33 rfl (Zh [(2000001, 502)] K4 rfl ⟨Zi (Za rfl), asE, trivial⟩ sbH rfl)|exact Zw tlOk rfl rfl rfl rfl rfl rfl (Z4 (Z6 (Zk rfl) hlB.symm) (Za4 _)) hXr (by simp only [maxLen, List.length_append, List.length_cons, List.length_nil];omega) (by (try simp only [List.length_append, List.length_cons, List.length_nil]);omega));(case xb|xc|xe=>rfl);try refine wkD ?_)|(refine wkB ?_ ?_<;>intro hg_<;>try exact wkX)|fail)
          all_goals first
            | (exfalso; omega)
            | exact Zx [(2000001, 34)] rfl (by (repeat' (first|exact trivial|refine Zbm rfl ?_ ?_|rfl|exact Zv rfl (ints_appB _ _).symm))) (Zb7 rfl (Z9 (Za6 (by simp only [List.length_append, hlX, hlB]))))
    · rw [if_neg h0] at hDR
      subst hDR
      dsimp only
      repeat' (first|refine wk ?_|((first|refine' w_e rfl ?xa ?xb ?xc ?xe ?_|refine' v_e rfl ?xa ?xb ?xc ?xe ?_);(case xa => exact Ze 23 rfl (Zh [] K1 rfl ⟨Zi (Za rfl), asE, trivial⟩ sbH rfl));(case xb|xc|xe=>rfl);try refine wkD ?_)|(refine wkB ?_ ?_<;>intro hg_<;>try exact wkX)|fail)
      all_goals first
        | (exfalso;exact h0 ⟨by first|assumption|rfl, by omega⟩)
        | exact Zx [(2000001, 100)] rfl sbH (Zb7 rfl (Z9 rfl))
end Go.Proofs.YtmkijbfiilpccaaGreat.Abs
