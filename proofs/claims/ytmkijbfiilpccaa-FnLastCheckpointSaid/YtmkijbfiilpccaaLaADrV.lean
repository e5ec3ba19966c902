/- A round of the reference by states: all vertices, StepState. No statement of the seat is proved here. -/
import Derived.Lib.Hide
import Derived.Test.YtmkijbfiilpccaaLaTy
import Derived.Test.YtmkijbfiilpccaaLaACkRL
import Derived.Test.YtmkijbfiilpccaaLaADrT
import Derived.Test.YtmkijbfiilpccaaLaASsD
import Derived.Test.YtmkijbfiilpccaaLaASt0
import Derived.Test.YtmkijbfiilpccaaLaGMsB
set_option linter.unusedSimpArgs false
set_option linter.unusedVariables false
set_option maxRecDepth 100000
set_option maxHeartbeats 32000000
namespace Go.Proofs.Ytmkijbfiilpccaa.Abs
open Go.RowKit
open R (val row ref)
theorem bools_atI {gs : List Bool} {v : Int} (h0 : 0 ≤ v) (h1 : v < gs.length) : (bools gs)[v.toNat]? = some (.one (bool (gs.getD v.toNat false))):=by
 unfold bools
 rw [List.getElem?_map,List.getElem?_eq_getElem oM,List.getD_eq_getElem?_getD,List.getElem?_eq_getElem oM]
 rfl
theorem bools_setQ (gs : List Bool) (i : Nat) (b : Bool) : (bools gs).set i (.one (bool b)) = bools (gs.set i b):=by unfold bools; rw [List.map_set]
theorem cell_ownQ {k n n' sz : Nat} (h : n = n') : Cell.own k 0 n sz = .own k 0 n' sz:=by rw [h]
theorem tups3 {a a' b b' c c' : Cell} (h1 : a = a') (h2 : b = b') (h3 : c = c') : D.tups [(false,[a]),(false,[b]),(false,[c])] = .tups [(false,[a']),(false,[b']),(false,[c'])]:=by rw [h1,h2,h3]
theorem f_l11Some (m : Int) (nil nw nv ng nm : Bool) (es : List E3) (k s r : Int) (st : Sta) (ws : List Int) (hg : gOk m es = true) (hk : progOk k s r = true) (hst : stOk m st.r st.vs st.gs.length st.ms = true) (hw : ∀ w ∈ ws, 0 ≤ w ∧ w < m) (hwl : ws.length ≤ 16) :
    FnS Try.prog 92 [.agg [.r false (int m), .r false (row nil 3 (edges es))], .agg [.r false (int k), .r false (int s), .r false (int r)], .agg [.r false (int st.r), .r false (row nv 1 (ints st.vs)), .r false (row ng 1 (bools st.gs)), .r false (row nm 3 (edges st.ms))], .one (.r false (row nw 1 (ints ws)))] []
      (.tups [(false, [.own 2000001 0 (someF m es k s r st ws).vs.length 1]), (false, [.own 2000002 0 (someF m es k s r st ws).gs.length 1]), (false, [.own 2000003 0 (someF m es k s r st ws).out.length 3])])
      [(2000001, .sl 3 1 true (ints (someF m es k s r st ws).vs)), (2000002, .sl 4 1 true (bools (someF m es k s r st ws).gs)), (2000003, .sl 70 3 true (edges (someF m es k s r st ws).out))] := by
  have hl40 := Za1 hg
  have hm16 := gOk_mC hg
  have hlw := Zu ws
  have hlen : st.vs.length = m.toNat ∧ st.gs.length = m.toNat ∧ st.ms.length ≤ 2000 ∧ 0 ≤ st.r ∧ st.r ≤ 100 ∧ (∀ z ∈ st.vs, -1 ≤ z ∧ z ≤ 999999) ∧ (∀ x ∈ st.ms, 0 ≤ x.2.1 ∧ x.2.1 ≤ 999999) := by
    have h := hst
    unfold stOk at h
    rw [msOk_none] at h
    simp only [Bool.and_eq_true, decide_eq_true_eq, List.all_eq_true, inR, valIn, msgIn] at h
    obtain ⟨⟨⟨⟨⟨⟨h1, h2⟩, h3⟩, h4⟩, h5⟩, h6⟩, h7, h8⟩ := h
    exact ⟨by omega, by omega, h5, h2.1, h2.2, h6, fun x hx => (h8 x hx).2⟩
  obtain ⟨hvl, hgl, hml, hr0, hr1, hvb, hmb⟩ := hlen
  clear hst
  have hlv := Zu st.vs
  have hlg := Zah st.gs
  have hlm := Zp st.ms
  obtain ⟨F, hF⟩ : ∃ F : Nat → Acc, ∀ j, F j = someF m es k s r st (ws.take j) := ⟨_, fun _ => rfl⟩
  have hall : someF m es k s r st ws = F ws.length := by rw [hF, List.take_length]
  have hF0 : F 0 = ⟨st.vs, st.gs, []⟩ := by rw [hF]; rfl
  have hFs : ∀ j (h : j < ws.length), F (j + 1) = someSt m es k s r st (F j) ws[j] := fun j h => by rw [hF, hF, someF_snoc h]
  have hFl : ∀ j, j ≤ ws.length → (F j).out.length ≤ 600000 ∧ (F j).vs.length = st.vs.length ∧ (F j).gs.length = st.gs.length := fun j hj => by
    rw [hF]
    obtain ⟨h1, h2, h3⟩ := someF_out m es k s r st (ws.take j) ⟨st.vs, st.gs, []⟩
    refine ⟨Nat.le_trans h1 ?_, h2, h3⟩
    have hx : (ws.take j).length * (es.length + 16 + st.ms.length * 16) ≤ 16 * (es.length + 16 + st.ms.length * 16) := Nat.mul_le_mul_right _ (by rw [List.length_take]; omega)
    simp only [List.length_nil]
    omega
  rw [hall]
  clear hF hall
  refine Zad (l := [.tmp 8, .tmp 9, .tmp 10]) Try.func92 kRf rfl Try.ntmps92 rfl rfl ?_; simp only [dEnv, Nat.reduceAdd]
  repeat' (first|refine wk ?_|((first|refine' w_e rfl ?xa ?xb ?xc ?xe ?_|refine' v_e rfl ?xa ?xb ?xc ?xe ?_);(case xa => first|exact Zl [] tlOk rfl rfl rfl rfl rfl rfl (by simp [AllN]) (by simp)|exact Zw tlOk rfl rfl rfl rfl rfl rfl (Z6 Za2 (by first|exact Zbx _|exact bools_plain _)) rfl (by simp only [maxLen, List.length_nil];omega) (by simp only [List.length_nil];omega));(case xb|xc|xe=>rfl);try refine wkD ?_)|(refine wkB ?_ ?_<;>intro hg_<;>try exact wkX)|fail)
  refine Zaa (fun j : Nat => j ≤ ws.length) (fun j => mkS 84 [(14, .one (.r true (int j))), (13, .one (.own 103 0 (F j).out.length 3)), (12, .one (.own 102 0 (F j).gs.length 1)), (11, .one (.own 101 0 (F j).vs.length 1)), (6, .one (.ptr 6 0 0 0)), (5, .one (.ptr 5 0 0 0)), (4, .one (.ptr 4 0 0 0)), (3, .one (.r false (row nw 1 (ints ws))))]
    [(101, .sl 3 1 true (ints (F j).vs)), (102, .sl 4 1 true (bools (F j).gs)), (103, .sl 70 3 true (edges (F j).out)), (6, .var 28 [.r false (int st.r), .r false (row nv 1 (ints st.vs)), .r false (row ng 1 (bools st.gs)), .r false (row nm 3 (edges st.ms))]), (5, .var 59 [.r false (int k), .r false (int s), .r false (int r)]), (4, .var 57 [.r false (int m), .r false (row nil 3 (edges es))])]) (fun j => ws.length - j) 0 (Nat.zero_le _) (by rw [hF0];(refine Zi [(101, 23), (102, 27), (103, 28)] rfl ?_ ?_ <;> repeat' (first|refine wkS ?_ ?_|exact wkE|exact Zba (by simp only [List.length_nil, Nat.zero_add];omega)|exact Zz rfl (List.nil_append _)))) ?_
  intro j hj
  obtain ⟨b1, b2, b3⟩ := hFl j hj
  by_cases hlt : j < ws.length
  · have hix := ints_at hlt
    have hs := hFs j hlt
    obtain ⟨hv0, hv1⟩ := hw ws[j] (List.getElem_mem hlt)
    have hwj : IntKind.i64.wrap ((j : Int) + 1) = ((j + 1 : Nat) : Int) := by rw [IntWalk.i64_in _ oM]; omega
    generalize ws[j] = v at *
    have hiv := ints_atD (xs := st.vs) hv0 oM
    have hig := bools_atI (gs := st.gs) hv0 oM
    have hdv : -1 ≤ dV st.vs v ∧ dV st.vs v ≤ 999999 := by
      unfold dV
      rw [List.getD_eq_getElem?_getD, List.getElem?_eq_getElem oM]
      exact hvb _ (List.getElem_mem _)
    have KV := f_valuesFor nm st.ms v hml
    have hLl := valsT_len v st.ms
    have hLb : ∀ z ∈ valsT v st.ms, 0 ≤ z ∧ z ≤ 999999 := fun z hz => by
      obtain ⟨x, hx, _, rfl⟩ := valsT_mem hz
      exact hmb x hx
    have KS := f_l10Step k m nil false es s r st.r v (dV st.vs v) (valsT v st.ms) hg oM hr0 hr1 hdv.1 hdv.2 hLb oM hk
    have hsl := stepV_len m es k s r st.r v (dV st.vs v) (valsT v st.ms)
    unfold someSt at hs
    generalize F j = A at *
    generalize dV st.vs v = val at *
    generalize st.gs.getD v.toNat false = g at *
    generalize valsT v st.ms = L at *
    generalize stepV m es k s r st.r v val L = d at *
    obtain ⟨A1, A2, A3⟩ := A
    obtain ⟨d1, d2, d3⟩ := d
    dsimp only at *
    have hLi := Zu L
    have hA1 := Zu A1
    have hA2 := Zah A2
    have hA3 := Zp A3
    have hd2 := Zp d2
    have hset1 : (ints A1).set (0 + v.toNat) (iP d1) = ints (A1.set v.toNat d1) := by rw [Nat.zero_add, ints_setQ]
    have hset2 : (bools A2).set (0 + v.toNat) (.one (bool d3)) = bools (A2.set v.toNat d3) := by rw [Nat.zero_add, bools_setQ]
    have happ : edges A3 ++ edges d2 = edges (A3 ++ d2) := by unfold edges; rw [List.map_append]
    clear hFs hFl hF0 hw hvb hmb hLb
    cases g
    all_goals
      by_cases hL : L = []
      all_goals
        have hL0 : ((ints L).length : Int) = 0 ↔ L = [] := by rw [hLi]; constructor
                                                              · intro h; exact List.eq_nil_of_length_eq_zero oM
                                                              · intro h; rw [h]; rfl
        repeat' (first|refine wk ?_|((first|refine' w_q rfl rfl ?xa rfl ?_|refine' v_q rfl rfl ?xa rfl ?_|refine' Zn rfl rfl (Zb rfl) rfl ?xa rfl ?_|refine' Zo rfl rfl (Zb rfl) rfl ?xa rfl ?_);case xa => first|exact Zx tbOk rfl rfl rfl rfl oM (by first|exact hix|exact hig|exact hiv)|exact Zm KV rfl ⟨Zf (Za rfl), Zf (Za rfl), trivial⟩|exact Zm KS rfl ⟨Zq (Za rfl) ⟨Zd, Zd, trivial⟩, Zq (Za rfl) ⟨Zd, Zd, Zd, trivial⟩, Zf (Za rfl), Zf (Za rfl), Zf (Za rfl), Zf (Za rfl), trivial⟩|exact Zap tbOk rfl rfl rfl rfl oM oM)|((first|refine' w_e rfl ?xa ?xb ?xc ?xe ?_|refine' v_e rfl ?xa ?xb ?xc ?xe ?_);(case xa => first|exact e_storeS tbOk rfl rfl rfl rfl rfl rfl rfl rfl oM|exact Zw tlOk rfl rfl rfl rfl rfl rfl (Z6 Za2 (Zbg _)) hA3.symm (by simp only [maxLen];omega) oM);(case xb|xc|xe=>rfl);try refine wkD ?_)|(refine wkB ?_ ?_<;>intro hg_<;>try exact wkX)|fail)
        all_goals first
          | (exfalso;(first|(have := hL0.1 hg_;contradiction)|(have := hL0.2 hL;omega)|omega))
          | (rw [if_pos ⟨rfl, hL⟩] at hs
             refine ⟨j + 1, by omega, ?_, by omega⟩
             rw [hs]
             (refine Zi [] rfl ?_ ?_ <;> repeat' (first|refine wkS ?_ ?_|exact wkE|exact Zt hwj));done)
          | (rw [if_neg (fun h => by first|exact absurd h.1 (by decide)|exact hL h.2)] at hs
             refine ⟨j + 1, by omega, ?_, by omega⟩
             rw [hs]
             dsimp only
             (refine Zi [(103, 80)] rfl ?_ ?_ <;> repeat' (first|refine wkS ?_ ?_|exact wkE|exact Zt hwj|exact Zba (by simp only [List.length_append, List.length_set] <;> omega)|exact Zz rfl hset1|exact Zz rfl hset2|exact Zz rfl happ));done)
  · obtain rfl : j = ws.length := by omega
    repeat' (first|refine wk ?_|(refine wkB ?_ ?_<;>intro hg_<;>try exact wkX)|fail)
    all_goals first
      | exact Z4 [(2000001, 101), (2000002, 102), (2000003, 103)] rfl sbH (retD_three (x := (false, [_])) (y := (false, [_])) (z := (false, [_])) (Zat rfl) rfl (Zat rfl) rfl (Zat rfl) rfl (Zac (tups3 rfl rfl rfl)))
end Go.Proofs.Ytmkijbfiilpccaa.Abs
set_option linter.unusedSimpArgs false
set_option linter.unusedVariables false
namespace Go.Proofs.Ytmkijbfiilpccaa.Abs
open Go.RowKit
open R (val row ref)
abbrev Zs : Cell:=.r true (row true 0 [])
def ssT : Option Sta → D
 | none=>.tups [(true,[.r true (int 0),Zs,Zs,Zs]),(false,[.r true (bool false)])]
 | some x=>.tups [(true,[.r true (int x.r),.own 2000001 0 x.vs.length 1,.own 2000002 0 x.gs.length 1,.own 2000003 0 x.ms.length 3]),(false,[.r true (bool true)])]
def ssH : Option Sta → List (Nat × Ob)
 | none=>[]
 | some x=>[(2000001,.sl 3 1 true (ints x.vs)),(2000002,.sl 4 1 true (bools x.gs)),(2000003,.sl 70 3 true (edges x.ms))]
theorem allV_mem {m w : Int} (h : w ∈ allV m) : 0 ≤ w ∧ w < m:=by
 unfold allV at h
 obtain ⟨i,hi,rfl⟩:=List.mem_map.1 h
 rw [List.mem_range] at hi
 omega
theorem f_specStepBad (m : Int) (nil nv ng nm : Bool) (es : List E3) (k s r : Int) (st : Sta) (hl : es.length ≤ 1048576) (h1 : st.vs.length ≤ 1048576) (h2 : st.gs.length ≤ 1048576) (h3 : st.ms.length ≤ 1048576) (hb : (gOk m es && (progOk k s r && stOk m st.r st.vs st.gs.length st.ms)) = false) :
  FnS Try.prog 71 [.agg [.r false (int m),.r false (row nil 3 (edges es))],.agg [.r false (int k),.r false (int s),.r false (int r)],.agg [.r false (int st.r),.r false (row nv 1 (ints st.vs)),.r false (row ng 1 (bools st.gs)),.r false (row nm 3 (edges st.ms))]] []
   (.tups [(true,[.r true (int 0),Zs,Zs,Zs]),(false,[.r true (bool false)])]) []:=by
 obtain ⟨rr,vs,gs,ms⟩:=st
 dsimp only at *
 have K1:=f_ownGraph m nil es hl
 have K2:=f_ownState rr nv ng nm vs gs ms h1 h2 h3
 have K3:=Zcj m false es (by simp only [maxLen]; omega)
 have K4:=f_specProgValid k s r
 have K5:=Zc8 m rr false false false vs gs ms (by simp only [maxLen]; omega) (by simp only [maxLen]; omega) (by simp only [maxLen]; omega)
 generalize gOk m es = b1 at *
 generalize progOk k s r = b2 at *
 generalize stOk m rr vs gs.length ms = b3 at *
 cases b1<;>cases b2<;>cases b3<;>simp only [Bool.and_true,Bool.true_and,Bool.and_self,Bool.false_and,Bool.and_false,reduceCtorEq] at hb
 all_goals
  refine Zad (l:=[.cell 6 28,.tmp 7]) Try.func71 kRf rfl Try.ntmps71 rfl rfl ?_; simp only [dEnv,Nat.reduceAdd]
  repeat' (first|refine wk ?_|((first|refine' w_q rfl rfl ?xa rfl ?_|refine' v_q rfl rfl ?xa rfl ?_|refine' Zn rfl rfl (Zb rfl) rfl ?xa rfl ?_|refine' Zo rfl rfl (Zb rfl) rfl ?xa rfl ?_);case xa=>first|exact Zm K1 rfl ⟨Zq (Za rfl) ⟨Zd,Zd,trivial⟩,trivial⟩|exact Zm K2 rfl ⟨Zq (Za rfl) ⟨Zd,Zd,Zd,Zd,trivial⟩,trivial⟩|exact Zm K3 rfl ⟨Zq (Za rfl) ⟨Zd,Zd,trivial⟩,trivial⟩|exact Zm K4 rfl ⟨Zq (Za rfl) ⟨Zd,Zd,Zd,trivial⟩,trivial⟩|exact Zm K5 rfl ⟨Zq (Za rfl) ⟨Zd,Zd,Zd,Zd,trivial⟩,Zf (Za rfl),trivial⟩)|(refine wkB ?_ ?_<;>intro hg_<;>try exact wkX)|fail)
  all_goals first
   | exact Z4 [] rfl sbH (Zau (x:=(true,_)) (y:=(false,[_])) (Zaq rfl rfl tyF0 rfl rfl rfl) rfl (Zat rfl) rfl (Zac rfl))
   | (exfalso; simp at hg_; done)
theorem f_specStep (m : Int) (nil nv ng nm : Bool) (es : List E3) (k s r : Int) (st : Sta) (hl : es.length ≤ 1048576) (h1 : st.vs.length ≤ 1048576) (h2 : st.gs.length ≤ 1048576) (h3 : st.ms.length ≤ 1048576) :
  FnS Try.prog 71 [.agg [.r false (int m),.r false (row nil 3 (edges es))],.agg [.r false (int k),.r false (int s),.r false (int r)],.agg [.r false (int st.r),.r false (row nv 1 (ints st.vs)),.r false (row ng 1 (bools st.gs)),.r false (row nm 3 (edges st.ms))]] [] (ssT (stepS m es k s r st)) (ssH (stepS m es k s r st)):=by
 cases hb : (gOk m es && (progOk k s r && stOk m st.r st.vs st.gs.length st.ms)) with
 | false =>
  have e : stepS m es k s r st = none:=by
   unfold stepS
   rw [if_neg]
   intro h
   simp [h.1,h.2.1,h.2.2] at hb
  rw [e]
  exact f_specStepBad m nil nv ng nm es k s r st hl h1 h2 h3 hb
 | true =>
  simp only [Bool.and_eq_true] at hb
  obtain ⟨hg,hp,hst⟩:=hb
  have K1:=f_ownGraph m nil es hl
  have K2:=f_ownState st.r nv ng nm st.vs st.gs st.ms h1 h2 h3
  have K3:=Zcj m false es (by simp only [maxLen]; omega)
  rw [hg] at K3
  have K4:=f_specProgValid k s r
  rw [hp] at K4
  have K5:=Zc8 m st.r false false false st.vs st.gs st.ms (by simp only [maxLen]; omega) (by simp only [maxLen]; omega) (by simp only [maxLen]; omega)
  rw [hst] at K5
  have hm16:=gOk_mC hg
  have K6:=f_l11All m oM
  have hr : 0 ≤ st.r ∧ st.r ≤ 100:=by
   have h:=hst
   unfold stOk at h
   simp only [Bool.and_eq_true,decide_eq_true_eq,inR] at h
   exact h.1.1.1.1.1.2
  have hw : IntKind.i64.wrap (st.r + 1) = st.r + 1:=IntWalk.i64_in _ oM
  have hal:=allV_len m
  have K7:=f_l11Some m false false false false false es k s r st (allV m) hg hp hst (fun w hw=>allV_mem hw) oM
  have hS : stepS m es k s r st = if (someF m es k s r st (allV m)).out.length ≤ 2000 ∧ stOk m (st.r + 1) (someF m es k s r st (allV m)).vs (someF m es k s r st (allV m)).gs.length (sortL (someF m es k s r st (allV m)).out) = true then some ⟨st.r + 1,(someF m es k s r st (allV m)).vs,(someF m es k s r st (allV m)).gs,sortL (someF m es k s r st (allV m)).out⟩ else none:=by
   unfold stepS
   rw [if_pos ⟨hg,hp,hst⟩]
   rfl
  have hbd : (someF m es k s r st (allV m)).out.length ≤ 1000000 ∧ (someF m es k s r st (allV m)).vs.length = st.vs.length ∧ (someF m es k s r st (allV m)).gs.length = st.gs.length:=by
   obtain ⟨q1,q2,q3⟩:=someF_out m es k s r st (allV m) ⟨st.vs,st.gs,[]⟩
   have hl40:=Za1 hg
   have hml : st.ms.length ≤ 2000:=by
    have h:=hst
    unfold stOk at h
    simp only [Bool.and_eq_true,decide_eq_true_eq] at h
    exact h.1.1.2
   have hx : (allV m).length * (es.length + 16 + st.ms.length * 16) ≤ 16 * (es.length + 16 + st.ms.length * 16):=Nat.mul_le_mul_right _ oM
   refine ⟨Nat.le_trans q1 ?_,q2,q3⟩
   simp only [List.length_nil]
   omega
  rw [hS]
  clear hS hst hp hg
  generalize someF m es k s r st (allV m) = A at *
  obtain ⟨A1,A2,A3⟩:=A
  dsimp only at *
  have K8:=Zc0 false A3 oM
  have hsl:=sortL_len A3
  have K9:=Zc8 m (st.r + 1) false false false A1 A2 (sortL A3) (by simp only [maxLen]; omega) (by simp only [maxLen]; omega) (by simp only [maxLen]; omega)
  have hA1:=Zu A1
  have hA2:=Zah A2
  have hA3:=Zp A3
  have hA4:=Zp (sortL A3)
  generalize stOk m (st.r + 1) A1 A2.length (sortL A3) = b at *
  generalize sortL A3 = S at *
  obtain ⟨rr,vs,gs,ms⟩:=st
  dsimp only at *
  rw [← hw] at K9
  by_cases ho : A3.length ≤ 2000
  all_goals cases b
  case pos.true =>
   rw [if_pos ⟨ho,rfl⟩]
   show FnS _ _ _ [] (.tups [(true,[.r true (int (rr + 1)),.own 2000001 0 A1.length 1,.own 2000002 0 A2.length 1,.own 2000003 0 S.length 3]),(false,[.r true (bool true)])]) [(2000001,.sl 3 1 true (ints A1)),(2000002,.sl 4 1 true (bools A2)),(2000003,.sl 70 3 true (edges S))]
   refine Zad (l:=[.cell 6 28,.tmp 7]) Try.func71 kRf rfl Try.ntmps71 rfl rfl ?_; simp only [dEnv,Nat.reduceAdd]
   repeat' (first|refine wk ?_|((first|refine' w_q rfl rfl ?xa rfl ?_|refine' v_q rfl rfl ?xa rfl ?_|refine' Zn rfl rfl (Zb rfl) rfl ?xa rfl ?_|refine' Zo rfl rfl (Zb rfl) rfl ?xa rfl ?_);case xa=>first|exact Zm K1 rfl ⟨Zq (Za rfl) ⟨Zd,Zd,trivial⟩,trivial⟩|exact Zm K2 rfl ⟨Zq (Za rfl) ⟨Zd,Zd,Zd,Zd,trivial⟩,trivial⟩|exact Zm K3 rfl ⟨Zq (Za rfl) ⟨Zd,Zd,trivial⟩,trivial⟩|exact Zm K4 rfl ⟨Zq (Za rfl) ⟨Zd,Zd,Zd,trivial⟩,trivial⟩|exact Zm K5 rfl ⟨Zq (Za rfl) ⟨Zd,Zd,Zd,Zd,trivial⟩,Zf (Za rfl),trivial⟩|exact Zm K6 rfl ⟨Zf (Za rfl),trivial⟩|exact Zm K9 rfl ⟨Zq (Za rfl) ⟨Zd,Zaf (Zj rfl) hA1.symm,Zaf (Zj rfl) hA2.symm,Zaf (Zj rfl) rfl,trivial⟩,Zf (Za rfl),trivial⟩)|((first|refine' w_e rfl ?xa ?xb ?xc ?xe ?_|refine' v_e rfl ?xa ?xb ?xc ?xe ?_);(case xa=>first|exact Ze 39 rfl (Zax (ys:=[graphP m false es,prgP k s r,stateP rr false vs false gs false ms,.one (row false 1 (ints (allV m)))]) [(2000001,501),(2000002,502),(2000003,503)] K7 rfl rfl ⟨Zq (Za rfl) ⟨Zd,Zd,trivial⟩,Zq (Za rfl) ⟨Zd,Zd,Zd,trivial⟩,Zq (Za rfl) ⟨Zd,Zd,Zd,Zd,trivial⟩,Zf (Za rfl),trivial⟩ rfl rfl)|exact Ze 49 rfl (Zbe K8 rfl rfl ⟨Zcv (Za rfl) (Zj rfl) hA3.symm,trivial⟩));(case xb|xc|xe=>rfl);try refine wkD ?_)|(refine wkB ?_ ?_<;>intro hg_<;>try exact wkX)|fail)
   all_goals first
    | (exfalso; omega)
    | exact Z4 [(2000001,501),(2000002,502),(2000003,49)] rfl sbH (Zau (x:=(true,_)) (y:=(false,[_])) (Zaq rfl rfl tyF0 rfl rfl rfl) rfl (Zat rfl) rfl (Zac (by rw [hw,hA4]<;>rfl)))
  all_goals
   rw [if_neg (by simp [ho])]
   show FnS _ _ _ [] (.tups [(true,[.r true (int 0),Zs,Zs,Zs]),(false,[.r true (bool false)])]) []
   refine Zad (l:=[.cell 6 28,.tmp 7]) Try.func71 kRf rfl Try.ntmps71 rfl rfl ?_; simp only [dEnv,Nat.reduceAdd]
   repeat' (first|refine wk ?_|((first|refine' w_q rfl rfl ?xa rfl ?_|refine' v_q rfl rfl ?xa rfl ?_|refine' Zn rfl rfl (Zb rfl) rfl ?xa rfl ?_|refine' Zo rfl rfl (Zb rfl) rfl ?xa rfl ?_);case xa=>first|exact Zm K1 rfl ⟨Zq (Za rfl) ⟨Zd,Zd,trivial⟩,trivial⟩|exact Zm K2 rfl ⟨Zq (Za rfl) ⟨Zd,Zd,Zd,Zd,trivial⟩,trivial⟩|exact Zm K3 rfl ⟨Zq (Za rfl) ⟨Zd,Zd,trivial⟩,trivial⟩|exact Zm K4 rfl ⟨Zq (Za rfl) ⟨Zd,Zd,Zd,trivial⟩,trivial⟩|exact Zm K5 rfl ⟨Zq (Za rfl) ⟨Zd,Zd,Zd,Zd,trivial⟩,Zf (Za rfl),trivial⟩|exact Zm K6 rfl ⟨Zf (Za rfl),trivial⟩|exact Zm K9 rfl ⟨Zq (Za rfl) ⟨Zd,Zaf (Zj rfl) hA1.symm,Zaf (Zj rfl) hA2.symm,Zaf (Zj rfl) rfl,trivial⟩,Zf (Za rfl),trivial⟩)|((first|refine' w_e rfl ?xa ?xb ?xc ?xe ?_|refine' v_e rfl ?xa ?xb ?xc ?xe ?_);(case xa=>first|exact Ze 39 rfl (Zax (ys:=[graphP m false es,prgP k s r,stateP rr false vs false gs false ms,.one (row false 1 (ints (allV m)))]) [(2000001,501),(2000002,502),(2000003,503)] K7 rfl rfl ⟨Zq (Za rfl) ⟨Zd,Zd,trivial⟩,Zq (Za rfl) ⟨Zd,Zd,Zd,trivial⟩,Zq (Za rfl) ⟨Zd,Zd,Zd,Zd,trivial⟩,Zf (Za rfl),trivial⟩ rfl rfl)|exact Ze 49 rfl (Zbe K8 rfl rfl ⟨Zcv (Za rfl) (Zj rfl) hA3.symm,trivial⟩));(case xb|xc|xe=>rfl);try refine wkD ?_)|(refine wkB ?_ ?_<;>intro hg_<;>try exact wkX)|fail)
   all_goals first
    | (exfalso; omega)
    | exact Z4 [] rfl sbH (Zau (x:=(true,_)) (y:=(false,[_])) (Zaq rfl rfl tyF0 rfl rfl rfl) rfl (Zat rfl) rfl (Zac rfl))
end Go.Proofs.Ytmkijbfiilpccaa.Abs
set_option linter.unusedSimpArgs false
set_option linter.unusedVariables false
namespace Go.Proofs.Ytmkijbfiilpccaa.Abs
open Go.RowKit
open R (val row ref)
theorem Zb5 {P : Program} {f : FuncId} {args : List D} {h h' : List (Nat × Ob)} {d : D} {E : TypeId} {sz : Nat} {new : Bool} {els : List P0} (k : Nat) (hf : FnS P f args h d h') (hk : lookHO h' k = some (.sl E sz new els)) : FnS P f args h (frD k sz new els d) (frH k sz new els h'):=by
 refine ⟨hf.1,fun base w ι own vs h1 h2 h3 h4 h5=>(hf.2 base w ι own vs h1 h2 h3 h4 h5).mono ?_⟩
 rintro e w' ⟨v,ι',own',rfl,hc⟩
 have hkk:=Zj hk
 obtain ⟨q1,q2,q3⟩:=hc.named k _ hkk
 have hsub : ∀ b,(own' b ∧ b ≠ (ι' k).1) → own' b:=fun b h=>h.1
 have hno : ¬ (own' (ι' k).1 ∧ (ι' k).1 ≠ (ι' k).1):=fun h=>h.2 rfl
 have hb : own' (ι' k).1 → base ≤ (ι' k).1:=fun h=>(hc.own3 _ h).1
 have get : ∀ x ob,lookH (frH k sz new els h') x = some ob → x ≠ k ∧ ∃ o,lookH h' x = some o ∧ ob = frO k sz new els o:=fun x ob hx=>by
  rw [lookH_frH] at hx
  by_cases h1 : x = k
  ·rw [if_pos h1] at hx; cases hx
  ·rw [if_neg h1,Option.map_eq_some_iff] at hx
   obtain ⟨o,ho,rfl⟩:=hx
   exact ⟨h1,o,ho,rfl⟩
 refine ⟨v,ι',fun b=>own' b ∧ b ≠ (ι' k).1,rfl,hc.os,hc.tape,hc.output,hc.size,hc.block,hc.sized,fun b hb1 hb2=>⟨hc.own1 b hb1 hb2,fun e=>?_⟩,fun b hb1=>hc.own2 b hb1.1,fun b hb1=>hc.own3 b hb1.1,frD_p hb ⟨q1,q2⟩ hsub hno hc.val,hc.pin,fun x ob hx=>?_,fun x x' ob ob' hx hx' e=>?_⟩
 ·rcases q3 with q3 | ⟨k0,hk0,q3⟩
  ·have:=(h1 b hb1).2; omega
  ·exact hb2 k0 hk0 (e.trans q3)
 ·obtain ⟨n1,o,ho,rfl⟩:=get x ob hx
  obtain ⟨p1,p2,p3⟩:=hc.named x o ho
  exact ⟨⟨p1,fun e=>n1 (hc.inj x k o _ ho hkk e)⟩,frO_p hb ⟨q1,q2⟩ hsub hno p2,p3⟩
 ·obtain ⟨_,o,ho,rfl⟩:=get x ob hx
  obtain ⟨_,o',ho',rfl⟩:=get x' ob' hx'
  exact hc.inj x x' o o' ho ho' e
theorem Zbb {k sz n : Nat} {new : Bool} {els : List P0} (hn : n = els.length) : frC k sz new els (.own k 0 n sz) = .r new (row false sz els):=by
 subst hn
 have h1 : Nat.beq k k = true:=Nat.beq_refl k
 have h2 : Nat.beq sz sz = true:=Nat.beq_refl sz
 have h3 : Nat.ble (0 + els.length) els.length = true:=by simp
 show (bif Nat.beq k k then (bif (Nat.beq sz sz && Nat.ble (0 + els.length) els.length) then Cell.r new (row false sz ((els.drop 0).take els.length)) else .any) else _) = _
 rw [h1,h2,h3,List.drop_zero,List.take_of_length_le (Nat.le_refl _)]
 rfl
theorem imp_aggC {cs cs' : List Cell} (hl : cs.length = cs'.length) (h : ∀ (j : Nat) (c c' : Cell),cs[j]? = some c → cs'[j]? = some c' → DImp (.one c) (.one c')) : DImp (.agg cs) (.agg cs'):=fun ι base cx v ⟨vs,h1,h2,h3⟩ =>
 ⟨vs,h1,h2.trans hl,fun j x hj=>by
  have hjl : j < cs.length:=by rw [hl]; exact (List.getElem?_eq_some_iff.1 hj).1
  obtain ⟨u,hu,hp⟩:=h3 j _ (List.getElem?_eq_getElem hjl)
  exact ⟨u,hu,h j _ _ (List.getElem?_eq_getElem hjl) hj ι base cx u hp⟩⟩
theorem Zbv {c : Cell} : DImp (.one c) (.one c):=fun _ _ _ _ h=>h
theorem Zcq {m : Bool} {sz sz' : Nat} : DImp (.one (.r m (row true sz []))) (.one (.r m (row true sz' []))):=imp_nil
theorem imp4 {a b c d a' b' c' d' : Cell} (h1 : DImp (.one a) (.one a')) (h2 : DImp (.one b) (.one b')) (h3 : DImp (.one c) (.one c')) (h4 : DImp (.one d) (.one d')) : DImp (.agg [a, b, c, d]) (.agg [a', b', c', d']) := imp_aggC rfl (fun j x y hx hy => by
  match j, hx, hy with
  | 0, hx, hy => obtain rfl : a = x := by simpa using hx
                 obtain rfl : a' = y := by simpa using hy
                 exact h1
  | 1, hx, hy => obtain rfl : b = x := by simpa using hx
                 obtain rfl : b' = y := by simpa using hy
                 exact h2
  | 2, hx, hy => obtain rfl : c = x := by simpa using hx
                 obtain rfl : c' = y := by simpa using hy
                 exact h3
  | 3, hx, hy => obtain rfl : d = x := by simpa using hx
                 obtain rfl : d' = y := by simpa using hy
                 exact h4
  | j + 4, hx, hy => simp at hx)
theorem f_specStartS (n : Nat) (hn : n ≤ 16) (h0 : 0 < n) : FnS Try.prog 70 [.one (.r false (int (n : Int)))] [] (.agg [.r true (int 0), .own 2000001 0 n 1, .own 2000002 0 n 1, Zc]) [(2000001, .sl 3 1 true (ints (List.replicate n 0))), (2000002, .sl 4 1 true (bools (List.replicate n true)))] := by
  have K := f_l1In (n : Int) 0 16
  rw [show inR 0 16 (n : Int) = true by unfold inR; simp; omega] at K
  refine Zad (l := [.cell 2 28]) Try.func70 kRf rfl Try.ntmps70 rfl rfl ?_; simp only [dEnv, Nat.reduceAdd]
  repeat' (first|refine wk ?_|((first|refine' w_q rfl rfl ?xa rfl ?_|refine' v_q rfl rfl ?xa rfl ?_|refine' Zn rfl rfl (Zb rfl) rfl ?xa rfl ?_|refine' Zo rfl rfl (Zb rfl) rfl ?xa rfl ?_);case xa => exact Zm K rfl ⟨Zf (Za rfl), Zf (Za rfl), Zf (Za rfl), trivial⟩)|((first|refine' w_e rfl ?xa ?xb ?xc ?xe ?_|refine' v_e rfl ?xa ?xb ?xc ?xe ?_);(case xa => exact e_make tlOk rfl rfl rfl rfl rfl rfl (c := n) rfl rfl oM (by simp only [maxLen];omega));(case xb|xc|xe=>rfl);try refine wkD ?_)|(refine wkB ?_ ?_<;>intro hg_<;>try exact wkX)|fail)
  obtain ⟨F, hF0, hF1⟩ : ∃ F : Nat → St, F 0 = mkS 23 [(4, .one (.r true (int 0))), (3, .one (.ptr 3 0 0 0)), (2, .one (.ptr 2 0 0 0)), (0, .one (.r false (int (n : Int))))] [(3, .var 28 [.r true (int 0), .own 100 0 n 1, Zc, Zc]), (100, .sl 3 1 true (ints (List.replicate n 0))), (2, .var 28 [.r true (int 0), Zc, Zc, Zc])] ∧
      ∀ k, 0 < k → F k = mkS 23 [(4, .one (.r true (int (k : Int)))), (3, .one (.ptr 3 0 0 0)), (2, .one (.ptr 2 0 0 0)), (0, .one (.r false (int (n : Int))))] [(3, .var 28 [.r true (int 0), .own 100 0 n 1, .own 102 0 k 1, Zc]), (100, .sl 3 1 true (ints (List.replicate n 0))), (102, .sl 4 1 true (bools (List.replicate k true))), (2, .var 28 [.r true (int 0), Zc, Zc, Zc])] := by
    refine ⟨fun k => if k = 0 then mkS 23 [(4, .one (.r true (int 0))), (3, .one (.ptr 3 0 0 0)), (2, .one (.ptr 2 0 0 0)), (0, .one (.r false (int (n : Int))))] [(3, .var 28 [.r true (int 0), .own 100 0 n 1, Zc, Zc]), (100, .sl 3 1 true (ints (List.replicate n 0))), (2, .var 28 [.r true (int 0), Zc, Zc, Zc])] else mkS 23 [(4, .one (.r true (int (k : Int)))), (3, .one (.ptr 3 0 0 0)), (2, .one (.ptr 2 0 0 0)), (0, .one (.r false (int (n : Int))))] [(3, .var 28 [.r true (int 0), .own 100 0 n 1, .own 102 0 k 1, Zc]), (100, .sl 3 1 true (ints (List.replicate n 0))), (102, .sl 4 1 true (bools (List.replicate k true))), (2, .var 28 [.r true (int 0), Zc, Zc, Zc])], rfl, fun k hk => if_neg oM⟩
  refine Zaa (fun k : Nat => k ≤ n) F (fun k => n - k) 0 (Nat.zero_le _) (by
    rw [hF0]
    (refine Zi [(100, 10)] rfl ?_ ?_ <;> repeat' (first|refine wkS ?_ ?_|exact wkE|exact Zz rfl (by unfold ints;simp)))) ?_
  intro k hk
  have hli : n = (ints (List.replicate n 0)).length := by rw [Zu]; simp
  have hw : IntKind.i64.wrap ((k : Int) + 1) = ((k + 1 : Nat) : Int) := by rw [IntWalk.i64_in _ oM]; omega
  by_cases hlt : k < n
  · have hfin : ∀ s' : St, Weak s' (F (k + 1)) → ∃ x' : Nat, x' ≤ n ∧ Weak s' (F x') ∧ n - x' < n - k := fun s' h => ⟨k + 1, by omega, h, by omega⟩
    have happ : bools (List.replicate (k + 1) true) = bools (List.replicate k true) ++ [.one (bool true)] := by rw [List.replicate_succ']; unfold bools; simp
    rw [hF1 _ oM, happ] at hfin
    have hgi : k = (bools (List.replicate k true)).length := by rw [Zah]; simp
    by_cases hk0 : k = 0
    · subst hk0
      rw [hF0]
      clear hF0 hF1 happ
      repeat' (first|refine wk ?_|((first|refine' w_e rfl ?xa ?xb ?xc ?xe ?_|refine' v_e rfl ?xa ?xb ?xc ?xe ?_);(case xa => first|exact Ze 19 rfl (Zl [.const (.bool true)] tlOk rfl rfl rfl rfl rfl rfl (Zy rfl) (by simp))|exact Ze 20 rfl (Zas tlOk rfl rfl rfl rfl rfl (Z6 (Z0 (Zj rfl) rfl) (by simp [plain1])) (by simp) (by simp [maxLen]) (by simp)));(case xb|xc|xe=>rfl);try refine wkD ?_)|(refine wkB ?_ ?_<;>intro hg_<;>try exact wkX)|fail)
      all_goals first
        | (refine hfin _ ?_
           (refine Zi [(102, 20)] rfl ?_ ?_ <;> repeat' (first|refine wkS ?_ ?_|exact wkE|exact Zz rfl rfl)))
        | (exfalso; omega)
    · rw [hF1 _ oM]
      clear hF0 hF1 happ
      generalize bools (List.replicate k true) = RR at *
      repeat' (first|refine wk ?_|((first|refine' w_e rfl ?xa ?xb ?xc ?xe ?_|refine' v_e rfl ?xa ?xb ?xc ?xe ?_);(case xa => first|exact Ze 19 rfl (Zl [.const (.bool true)] tlOk rfl rfl rfl rfl rfl rfl (Zy rfl) (by simp))|exact Ze 20 rfl (Zw tlOk rfl rfl rfl rfl rfl rfl (Z6 (Z0 (Zj rfl) rfl) (by simp [plain1])) hgi (by simp only [maxLen, List.length_cons, List.length_nil];omega) (by simp only [List.length_cons, List.length_nil];omega)));(case xb|xc|xe=>rfl);try refine wkD ?_)|(refine wkB ?_ ?_<;>intro hg_<;>try exact wkX)|fail)
      all_goals first
        | (refine hfin _ ?_
           (refine Zi [(102, 20)] rfl ?_ ?_ <;> repeat' (first|refine wkS ?_ ?_|exact wkE|exact Zt hw|exact Zz rfl rfl|exact var4 rfl rfl (cown (by simp only [List.length_cons, List.length_nil];omega)) rfl)))
        | (exfalso; omega)
  · obtain rfl : k = n := by omega
    rw [hF1 _ h0]
    clear hF0 hF1
    repeat' (first|refine wk ?_|(refine wkB ?_ ?_<;>intro hg_<;>try exact wkX)|fail)
    all_goals first
      | exact Z4 [(2000001, 100), (2000002, 102)] rfl sbH (Za3 rfl rfl tyF0 rfl rfl rfl (Zac rfl))
      | (exfalso; omega)
theorem f_specStartZ (n : Nat) (hn : n ≤ 16) (h0 : n = 0) : FnS Try.prog 70 [.one (.r false (int (n : Int)))] [] (.agg [.r true (int 0), .own 2000001 0 0 1, Zc, Zc]) [(2000001, .sl 3 1 true [])] := by
  have K := f_l1In (n : Int) 0 16
  rw [show inR 0 16 (n : Int) = true by unfold inR; simp; omega] at K
  refine Zad (l := [.cell 2 28]) Try.func70 kRf rfl Try.ntmps70 rfl rfl ?_; simp only [dEnv, Nat.reduceAdd]
  repeat' (first|refine wk ?_|((first|refine' w_q rfl rfl ?xa rfl ?_|refine' v_q rfl rfl ?xa rfl ?_|refine' Zn rfl rfl (Zb rfl) rfl ?xa rfl ?_|refine' Zo rfl rfl (Zb rfl) rfl ?xa rfl ?_);case xa => exact Zm K rfl ⟨Zf (Za rfl), Zf (Za rfl), Zf (Za rfl), trivial⟩)|((first|refine' w_e rfl ?xa ?xb ?xc ?xe ?_|refine' v_e rfl ?xa ?xb ?xc ?xe ?_);(case xa => exact e_make tlOk rfl rfl rfl rfl rfl rfl (c := n) rfl rfl oM (by simp only [maxLen];omega));(case xb|xc|xe=>rfl);try refine wkD ?_)|(refine wkB ?_ ?_<;>intro hg_<;>try exact wkX)|fail)
  obtain ⟨F, hF0, hF1⟩ : ∃ F : Nat → St, F 0 = mkS 23 [(4, .one (.r true (int 0))), (3, .one (.ptr 3 0 0 0)), (2, .one (.ptr 2 0 0 0)), (0, .one (.r false (int (n : Int))))] [(3, .var 28 [.r true (int 0), .own 100 0 n 1, Zc, Zc]), (100, .sl 3 1 true (ints (List.replicate n 0))), (2, .var 28 [.r true (int 0), Zc, Zc, Zc])] ∧
      ∀ k, 0 < k → F k = mkS 23 [(4, .one (.r true (int (k : Int)))), (3, .one (.ptr 3 0 0 0)), (2, .one (.ptr 2 0 0 0)), (0, .one (.r false (int (n : Int))))] [(3, .var 28 [.r true (int 0), .own 100 0 n 1, .own 102 0 k 1, Zc]), (100, .sl 3 1 true (ints (List.replicate n 0))), (102, .sl 4 1 true (bools (List.replicate k true))), (2, .var 28 [.r true (int 0), Zc, Zc, Zc])] := by
    refine ⟨fun k => if k = 0 then mkS 23 [(4, .one (.r true (int 0))), (3, .one (.ptr 3 0 0 0)), (2, .one (.ptr 2 0 0 0)), (0, .one (.r false (int (n : Int))))] [(3, .var 28 [.r true (int 0), .own 100 0 n 1, Zc, Zc]), (100, .sl 3 1 true (ints (List.replicate n 0))), (2, .var 28 [.r true (int 0), Zc, Zc, Zc])] else mkS 23 [(4, .one (.r true (int (k : Int)))), (3, .one (.ptr 3 0 0 0)), (2, .one (.ptr 2 0 0 0)), (0, .one (.r false (int (n : Int))))] [(3, .var 28 [.r true (int 0), .own 100 0 n 1, .own 102 0 k 1, Zc]), (100, .sl 3 1 true (ints (List.replicate n 0))), (102, .sl 4 1 true (bools (List.replicate k true))), (2, .var 28 [.r true (int 0), Zc, Zc, Zc])], rfl, fun k hk => if_neg oM⟩
  refine Zaa (fun k : Nat => k ≤ n) F (fun k => n - k) 0 (Nat.zero_le _) (by
    rw [hF0]
    (refine Zi [(100, 10)] rfl ?_ ?_ <;> repeat' (first|refine wkS ?_ ?_|exact wkE|exact Zz rfl (by unfold ints;simp)))) ?_
  intro k hk
  have hli : n = (ints (List.replicate n 0)).length := by rw [Zu]; simp
  have hw : IntKind.i64.wrap ((k : Int) + 1) = ((k + 1 : Nat) : Int) := by rw [IntWalk.i64_in _ oM]; omega
  by_cases hlt : k < n
  · have hfin : ∀ s' : St, Weak s' (F (k + 1)) → ∃ x' : Nat, x' ≤ n ∧ Weak s' (F x') ∧ n - x' < n - k := fun s' h => ⟨k + 1, by omega, h, by omega⟩
    have happ : bools (List.replicate (k + 1) true) = bools (List.replicate k true) ++ [.one (bool true)] := by rw [List.replicate_succ']; unfold bools; simp
    rw [hF1 _ oM, happ] at hfin
    have hgi : k = (bools (List.replicate k true)).length := by rw [Zah]; simp
    by_cases hk0 : k = 0
    · subst hk0
      rw [hF0]
      clear hF0 hF1 happ
      repeat' (first|refine wk ?_|((first|refine' w_e rfl ?xa ?xb ?xc ?xe ?_|refine' v_e rfl ?xa ?xb ?xc ?xe ?_);(case xa => first|exact Ze 19 rfl (Zl [.const (.bool true)] tlOk rfl rfl rfl rfl rfl rfl (Zy rfl) (by simp))|exact Ze 20 rfl (Zas tlOk rfl rfl rfl rfl rfl (Z6 (Z0 (Zj rfl) rfl) (by simp [plain1])) (by simp) (by simp [maxLen]) (by simp)));(case xb|xc|xe=>rfl);try refine wkD ?_)|(refine wkB ?_ ?_<;>intro hg_<;>try exact wkX)|fail)
      all_goals first
        | (refine hfin _ ?_
           (refine Zi [(102, 20)] rfl ?_ ?_ <;> repeat' (first|refine wkS ?_ ?_|exact wkE|exact Zz rfl rfl)))
        | (exfalso; omega)
    · rw [hF1 _ oM]
      clear hF0 hF1 happ
      generalize bools (List.replicate k true) = RR at *
      repeat' (first|refine wk ?_|((first|refine' w_e rfl ?xa ?xb ?xc ?xe ?_|refine' v_e rfl ?xa ?xb ?xc ?xe ?_);(case xa => first|exact Ze 19 rfl (Zl [.const (.bool true)] tlOk rfl rfl rfl rfl rfl rfl (Zy rfl) (by simp))|exact Ze 20 rfl (Zw tlOk rfl rfl rfl rfl rfl rfl (Z6 (Z0 (Zj rfl) rfl) (by simp [plain1])) hgi (by simp only [maxLen, List.length_cons, List.length_nil];omega) (by simp only [List.length_cons, List.length_nil];omega)));(case xb|xc|xe=>rfl);try refine wkD ?_)|(refine wkB ?_ ?_<;>intro hg_<;>try exact wkX)|fail)
      all_goals first
        | (refine hfin _ ?_
           (refine Zi [(102, 20)] rfl ?_ ?_ <;> repeat' (first|refine wkS ?_ ?_|exact wkE|exact Zt hw|exact Zz rfl rfl|exact var4 rfl rfl (cown (by simp only [List.length_cons, List.length_nil];omega)) rfl)))
        | (exfalso; omega)
  · obtain rfl : k = n := by omega
    subst h0
    rw [hF0]
    clear hF0 hF1
    repeat' (first|refine wk ?_|(refine wkB ?_ ?_<;>intro hg_<;>try exact wkX)|fail)
    all_goals first
      | exact Z4 [(2000001, 100)] rfl sbH (Za3 rfl rfl tyF0 rfl rfl rfl (Zac rfl))
      | (exfalso; omega)
end Go.Proofs.Ytmkijbfiilpccaa.Abs
set_option linter.unusedSimpArgs false
set_option linter.unusedVariables false
namespace Go.Proofs.Ytmkijbfiilpccaa.Abs
open Go.RowKit
open R (val row ref)
theorem Zbw {P : Program} {f : FuncId} {args : List D} {h h' : List (Nat × Ob)} {d d' : D} (hf : FnS P f args h d h') (hd : DImp d d') : FnS P f args h d' h' :=
 ⟨hf.1,fun base w ι own vs h1 h2 h3 h4 h5=>(hf.2 base w ι own vs h1 h2 h3 h4 h5).mono fun e w' ⟨v,ι',own',he,hc⟩=>⟨v,ι',own',he,⟨hc.os,hc.tape,hc.output,hc.size,hc.block,hc.sized,hc.own1,hc.own2,hc.own3,hd ι' base _ v hc.val,hc.pin,hc.named,hc.inj⟩⟩⟩
theorem asD_agg2 {m1 m2 : Bool} {r1 r2 : R} {ρ : List (Nat × Nat)} : AsD (.agg [.r m1 r1, .r m2 r2]) (.agg [.r false r1, .r false r2]) ρ := fun ι base c v ⟨vs, h1, h2, h3⟩ =>
  ⟨vs, h1, h2, fun j x hj => by
    match j, hj with
    | 0, hj => obtain rfl : Cell.r false r1 = x := by simpa using hj
               obtain ⟨u, hu, hp⟩ := h3 0 _ rfl
               exact ⟨u, hu, R.mono r1 (Zb1 (m' := false) (fun h => by cases h)) hp⟩
    | 1, hj => obtain rfl : Cell.r false r2 = x := by simpa using hj
               obtain ⟨u, hu, hp⟩ := h3 1 _ rfl
               exact ⟨u, hu, R.mono r2 (Zb1 (m' := false) (fun h => by cases h)) hp⟩
    | j + 2, hj => simp at hj⟩
theorem asD_agg3 {m1 m2 m3 : Bool} {r1 r2 r3 : R} {ρ : List (Nat × Nat)} : AsD (.agg [.r m1 r1, .r m2 r2, .r m3 r3]) (.agg [.r false r1, .r false r2, .r false r3]) ρ := fun ι base c v ⟨vs, h1, h2, h3⟩ =>
  ⟨vs, h1, h2, fun j x hj => by
    match j, hj with
    | 0, hj => obtain rfl : Cell.r false r1 = x := by simpa using hj
               obtain ⟨u, hu, hp⟩ := h3 0 _ rfl
               exact ⟨u, hu, R.mono r1 (Zb1 (m' := false) (fun h => by cases h)) hp⟩
    | 1, hj => obtain rfl : Cell.r false r2 = x := by simpa using hj
               obtain ⟨u, hu, hp⟩ := h3 1 _ rfl
               exact ⟨u, hu, R.mono r2 (Zb1 (m' := false) (fun h => by cases h)) hp⟩
    | 2, hj => obtain rfl : Cell.r false r3 = x := by simpa using hj
               obtain ⟨u, hu, hp⟩ := h3 2 _ rfl
               exact ⟨u, hu, R.mono r3 (Zb1 (m' := false) (fun h => by cases h)) hp⟩
    | j + 3, hj => simp at hj⟩
abbrev stateO (rd : Int) (VS : List Int) (nG : Nat) (nm : Bool) (MS : List E3) : D:=.agg [.r true (int rd),.r true (row false 1 (ints VS)),.own 2000002 0 nG 1,.r true (row nm 3 (edges MS))]
theorem f_startP (n : Nat) (hn : n ≤ 16) (h0 : 0 < n) : FnS Try.prog 70 [.one (.r false (int (n : Int)))] [] (stateO 0 (List.replicate n 0) n true []) [(2000002,.sl 4 1 true (bools (List.replicate n true)))]:=by
 have hx : n = (ints (List.replicate n 0)).length:=by rw [Zu,List.length_replicate]
 have K:=Zb5 2000001 (f_specStartS n hn h0) rfl
 refine Zbw (d:=.agg [.r true (int 0),frC 2000001 1 true (ints (List.replicate n 0)) (.own 2000001 0 n 1),.own 2000002 0 n 1,Zc]) K ?_
 rw [Zbb hx]
 exact imp4 Zbv Zbv Zbv Zcq
def ssP : Option Sta → D
 | none=>.tups [(true,[.r true (int 0),Zs,Zs,Zs]),(false,[.r true (bool false)])]
 | some x=>.tups [(true,[.r true (int x.r),.r true (row false 1 (ints x.vs)),.own 2000002 0 x.gs.length 1,.r true (row false 3 (edges x.ms))]),(false,[.r true (bool true)])]
def ssPH : Option Sta → List (Nat × Ob)
 | none=>[]
 | some x=>[(2000002,.sl 4 1 true (bools x.gs))]
theorem f_stepP (m : Int) (nil nv ng nm : Bool) (es : List E3) (k s r : Int) (st : Sta) (hl : es.length ≤ 1048576) (h1 : st.vs.length ≤ 1048576) (h2 : st.gs.length ≤ 1048576) (h3 : st.ms.length ≤ 1048576) :
  FnS Try.prog 71 [.agg [.r false (int m),.r false (row nil 3 (edges es))],.agg [.r false (int k),.r false (int s),.r false (int r)],.agg [.r false (int st.r),.r false (row nv 1 (ints st.vs)),.r false (row ng 1 (bools st.gs)),.r false (row nm 3 (edges st.ms))]] [] (ssP (stepS m es k s r st)) (ssPH (stepS m es k s r st)):=by
 have K:=f_specStep m nil nv ng nm es k s r st hl h1 h2 h3
 cases hs : stepS m es k s r st with
 | none=>rw [hs] at K; exact K
 | some x =>
  rw [hs] at K
  obtain ⟨xr,xv,xg,xm⟩:=x
  have hv : xv.length = (ints xv).length:=by rw [Zu]
  have hm : xm.length = (edges xm).length:=by rw [Zp]
  have K1:=Zb5 2000001 K rfl
  have K2:=Zb5 2000003 K1 rfl
  refine Zbw (d:=.tups [(true,[.r true (int xr),frC 2000003 3 true (edges xm) (frC 2000001 1 true (ints xv) (.own 2000001 0 xv.length 1)),.own 2000002 0 xg.length 1,frC 2000003 3 true (edges xm) (.own 2000003 0 xm.length 3)]),(false,[.r true (bool true)])]) K2 ?_
  rw [Zbb hv,Zbb hm]
  exact Zac rfl
def itP (m : Int) (es : List E3) (k s r : Int) (M : Nat) : Nat → Sta × Bool
 | 0=>(⟨0,List.replicate M 0,List.replicate M true,[]⟩,true)
 | i + 1=>match stepS m es k s r (itP m es k s r M i).1 with
  | none=>itP m es k s r M i
  | some x=>(x,false)
theorem itP_len (m : Int) (es : List E3) (k s r : Int) (M : Nat) (hM : M ≤ 16) : ∀ i,(itP m es k s r M i).1.vs.length ≤ 16 ∧ (itP m es k s r M i).1.gs.length ≤ 16 ∧ (itP m es k s r M i).1.ms.length ≤ 2000
 | 0=>by simp [itP]; omega
 | i + 1=>by
  unfold itP
  cases hs : stepS m es k s r (itP m es k s r M i).1 with
  | none=>exact itP_len m es k s r M hM i
  | some x =>
   have h:=stepS_ok hs
   unfold stOk at h
   simp only [Bool.and_eq_true,decide_eq_true_eq,inR] at h
   dsimp only
   omega
theorem itP_msI (m : Int) (es : List E3) (k s r : Int) (M : Nat) (hel : es.length ≤ 41) : ∀ i,MsI k (itP m es k s r M i).1
 | 0=>start_msI k _ _
 | i + 1=>by
  have ih:=itP_msI m es k s r M hel i
  unfold itP
  cases hs : stepS m es k s r (itP m es k s r M i).1 with
  | none=>exact ih
  | some x=>exact step_msI hel ih hs
theorem var4q {E : TypeId} {a b c d a' b' c' d' : Cell} (h1 : a = a') (h2 : b = b') (h3 : c = c') (h4 : d = d') : Ob.var E [a,b,c,d] = .var E [a',b',c',d']:=by rw [h1,h2,h3,h4]
theorem Zb0 {a b c : St} (h1 : Weak a b) (h2 : Weak b c) : Weak a c:=fun w0 x w h=>h2 w0 x w (h1 w0 x w h)
def lastP (c : Nat) (b : Int) (x : Sta × Bool) : Sta × Bool:=match c with
 | 0=>(⟨dV [-1,101] b,x.1.vs,x.1.gs,x.1.ms⟩,x.2)
 | 1=>(⟨x.1.r,x.1.vs,x.1.gs ++ [true],x.1.ms⟩,x.2)
 | 2=>(⟨x.1.r,x.1.vs,x.1.gs,(16,1,0) :: x.1.ms⟩,false)
 | 3=>(⟨x.1.r,-2 :: x.1.vs,x.1.gs,x.1.ms⟩,x.2)
 | _=>x
theorem lp0 (b : Int) (x : Sta × Bool) : lastP (Int.toNat 0) b x = (⟨dV [-1,101] b,x.1.vs,x.1.gs,x.1.ms⟩,x.2):=rfl
theorem lp1 (b : Int) (x : Sta × Bool) : lastP (Int.toNat 1) b x = (⟨x.1.r,x.1.vs,x.1.gs ++ [true],x.1.ms⟩,x.2):=rfl
theorem lp2 (b : Int) (x : Sta × Bool) : lastP (Int.toNat 2) b x = (⟨x.1.r,x.1.vs,x.1.gs,(16,1,0) :: x.1.ms⟩,false):=rfl
theorem lp3 (b : Int) (x : Sta × Bool) : lastP (Int.toNat 3) b x = (⟨x.1.r,-2 :: x.1.vs,x.1.gs,x.1.ms⟩,x.2):=rfl
theorem l20StateP_ex (bs : List Int) (p n : Int) (hn : 0 ≤ n) (hn2 : n ≤ 1000000) (hB : Byte bs) (hl : bs.length ≤ 2000) (hp0 : 0 ≤ p) (hp : p ≤ 700000) (nE : Bool) (m : Int) (es : List E3) (k s r : Int) (hm : 0 < m ∧ m ≤ 17) (hel : es.length ≤ 41) :
    ∃ (st : Sta) (nm : Bool) (p' : Int), (st.vs.length ≤ 17 ∧ st.gs.length ≤ 17 ∧ st.ms.length ≤ 625 ∧ p ≤ p' ∧ p' ≤ p + 200) ∧ ∀ m1 nb, FnS Try.prog 41 [.one (.ptr 1000000000 0 0 0), .agg [.r false (int m), .r false (row nE 3 (edges es))], .agg [.r false (int k), .r false (int s), .r false (int r)], .one (.r false (int n))] (rdH 1000000000 m1 true nb bs p)
      (stateO st.r st.vs st.gs.length nm st.ms) (rdH 1000000000 m1 true nb bs p' ++ [(2000002, .sl 4 1 true (bools st.gs))]) := by
  obtain ⟨M, hM, hM0, hM16⟩ : ∃ M : Nat, (M : Int) = max 0 (min 16 m) ∧ 0 < M ∧ M ≤ 16 := ⟨(max 0 (min 16 m)).toNat, by omega, by omega, by omega⟩
  have KP0 : ∀ q : Int, 0 ≤ q → q ≤ 1000000 → ∀ n m1 nb, FnS Try.prog 67 [.one (.ptr 1000000000 0 0 0), .one (.r false (int n))] (rdH 1000000000 m1 true nb bs q) (.one (.r true (int (pickV bs q n)))) (rdH 1000000000 m1 true nb bs (q + 1)) := fun q h0 h1 n m1 nb => Zbd q n hB hl h0 h1 m1 true nb
  have hc := Zaz bs p 4
  have K10 := fun m1 nb => KP0 p hp0 oM 4 m1 nb
  have hcN : ((pickV bs p 4).toNat : Int) = pickV bs p 4 := Int.toNat_of_nonneg hc.1
  generalize hCC : (pickV bs p 4).toNat = C at *
  rw [← hcN] at K10
  have hC4 : C ≤ 4 := by omega
  clear hCC hcN hc
  have hlenC : (itP m es k s r M C).1.vs.length ≤ 16 ∧ (itP m es k s r M C).1.gs.length ≤ 16 ∧ (itP m es k s r M C).1.ms.length ≤ 615 := ⟨(itP_len m es k s r M hM16 C).1, (itP_len m es k s r M hM16 C).2.1, (itP_msI m es k s r M hel C).all⟩
  -- sorted?
  have K20 := fun m1 nb => KP0 (p + 1) oM oM 4 m1 nb
  generalize pickV bs (p + 1) 4 = q4 at *
  obtain ⟨ms, pm, ⟨hms, hpm0, hpm1⟩, KM0⟩ := l20Messages_ex bs (p + 1 + 1) ((itP m es k s r M C).1.vs.length : Int) hB hl oM oM
  obtain ⟨D2, hD2⟩ : ∃ D2 : Sta × Bool, D2 = if q4 = 0 then (⟨(itP m es k s r M C).1.r, (itP m es k s r M C).1.vs, (itP m es k s r M C).1.gs, sortL ((itP m es k s r M C).1.ms ++ ms)⟩, false) else itP m es k s r M C := ⟨_, rfl⟩
  obtain ⟨p3, hp3⟩ : ∃ p3 : Int, p3 = if q4 = 0 then pm else p + 1 + 1 := ⟨_, rfl⟩
  have hp3b : p + 2 ≤ p3 ∧ p3 ≤ p + 150 := by rw [hp3]; split <;> omega
  have hlen2 : D2.1.vs.length ≤ 16 ∧ D2.1.gs.length ≤ 16 ∧ D2.1.ms.length ≤ 624 := by
    rw [hD2]
    split
    · exact ⟨hlenC.1, hlenC.2.1, by have h := (sortL_len ((itP m es k s r M C).1.ms ++ ms)).1; rw [List.length_append] at h; dsimp only; omega⟩
    · exact ⟨hlenC.1, hlenC.2.1, by omega⟩
  have KO0 := fun m1 nb => f_odd0 (bs := bs) p3 n hn hn2 hB hl oM oM m1 nb
  have hoe : p3 ≤ odE p3 n ∧ odE p3 n ≤ p3 + 1 := by unfold odE; split <;> omega
  generalize odV bs p3 n = od at *
  generalize odE p3 n = p4 at *
  have K30 := fun m1 nb => KP0 p4 oM oM 4 m1 nb
  have h4 := Zaz bs p4 4
  generalize pickV bs p4 4 = a4 at *
  have K40 := fun m1 nb => KP0 (p4 + 1) oM oM 2 m1 nb
  have h2 := Zaz bs (p4 + 1) 2
  generalize pickV bs (p4 + 1) 2 = a2 at *
  obtain ⟨c, hcd⟩ : ∃ c : Nat, c = if od then a4.toNat else 4 := ⟨_, rfl⟩
  obtain ⟨p5, hp5⟩ : ∃ p5 : Int, p5 = if od then (if a4 = 0 then p4 + 1 + 1 else p4 + 1) else p4 := ⟨_, rfl⟩
  have hp5b : p4 ≤ p5 ∧ p5 ≤ p4 + 2 := by rw [hp5]; split <;> (try split) <;> omega
  have hc4 : c ≤ 4 := by rw [hcd]; split <;> omega
  have hlast : (lastP c a2 D2).1.vs.length ≤ 17 ∧ (lastP c a2 D2).1.gs.length ≤ 17 ∧ (lastP c a2 D2).1.ms.length ≤ 625 := by
    unfold lastP
    split <;> (try simp only [List.length_append, List.length_cons, List.length_nil]) <;> omega
  refine ⟨(lastP c a2 D2).1, (lastP c a2 D2).2, p5, ⟨hlast.1, hlast.2.1, hlast.2.2, by omega, by omega⟩, ?_⟩
  clear hlast
  intro m1 nb
  have KS := f_startP M hM16 hM0
  have K1 := K10 m1 nb
  have K2 := K20 m1 nb
  have KM := KM0 m1 nb
  have KO := KO0 m1 nb
  have K3 := K30 m1 nb
  have K4 := K40 m1 nb
  clear K10 K20 KM0 KO0 K30 K40 KP0
  unfold rdH at *
  refine Zad (l := [.cell 8 28]) Try.func41 kRf rfl Try.ntmps41 rfl rfl ?_; simp only [dEnv, Nat.reduceAdd]
  refine Zbk ?_
  repeat' (first|refine wkN ?_|(refine wkB ?_ ?_<;>intro hg_<;>try exact wkX)|fail)
  refine Zbk ?_
  repeat' (first|refine wkN ?_|((first|refine' w_e rfl ?xa ?xb ?xc ?xe ?_|refine' v_e rfl ?xa ?xb ?xc ?xe ?_);(case xa => exact Ze 17 rfl (Zax (ys := [iP (M : Int)]) [(2000002, 102)] KS rfl rfl ⟨asA_eq (Za rfl) (by show R.val (.int .i64 _) = R.val (.int .i64 _);congr 2;rw [hM];(try simp only [Int.max_def, Int.min_def]);repeat' (first|omega|split)), trivial⟩ rfl rfl));(case xb|xc|xe=>rfl);try refine wkD ?_)|(refine wkB ?_ ?_<;>intro hg_<;>try exact wkX)|fail)
  refine Zbp (mkS 82 [(9, .one (.ptr 9 0 0 0)), (8, .one (.ptr 8 0 0 0)), (3, .one (.r false (int n))), (0, .one (.ptr 1000000000 0 0 0))] [(1000000000, .var 90 [.r m1 (row nb 1 (bys bs)), .r true (int (p + 1))]), (9, .var 28 [.r true (int (itP m es k s r M C).1.r), .r true (row false 1 (ints (itP m es k s r M C).1.vs)), .own 102 0 (itP m es k s r M C).1.gs.length 1, .r true (row (itP m es k s r M C).2 3 (edges (itP m es k s r M C).1.ms))]), (102, .sl 4 1 true (bools (itP m es k s r M C).1.gs)), (8, .var 28 [.r true (int 0), Zs, Zs, Zs])]) ?_ ?_
  · clear KM KO K2 K3 K4
    repeat' (first|refine wk ?_|((first|refine' w_e rfl ?xa ?xb ?xc ?xe ?_|refine' v_e rfl ?xa ?xb ?xc ?xe ?_);(case xa => exact Ze 19 rfl (Zg [] K1 rfl ⟨Zh (Za rfl), asE, trivial⟩ sbH rfl));(case xb|xc|xe=>rfl);try refine wkD ?_)|(refine wkB ?_ ?_<;>intro hg_<;>try exact wkX)|fail)
    obtain ⟨F, hF⟩ : ∃ F : Nat → St, ∀ i, F i = mkS 82 [(10, .one (.r true (int ((C : Int) - (i : Int))))), (9, .one (.ptr 9 0 0 0)), (8, .one (.ptr 8 0 0 0)), (6, .one (.ptr 6 0 0 0)), (5, .one (.ptr 5 0 0 0)), (3, .one (.r false (int n))), (0, .one (.ptr 1000000000 0 0 0))] [(1000000000, .var 90 [.r m1 (row nb 1 (bys bs)), .r true (int (p + 1))]), (9, .var 28 [.r true (int (itP m es k s r M i).1.r), .r true (row false 1 (ints (itP m es k s r M i).1.vs)), .own 102 0 (itP m es k s r M i).1.gs.length 1, .r true (row (itP m es k s r M i).2 3 (edges (itP m es k s r M i).1.ms))]), (102, .sl 4 1 true (bools (itP m es k s r M i).1.gs)), (8, .var 28 [.r true (int 0), Zs, Zs, Zs]), (6, .var 59 [.r false (int k), .r false (int s), .r false (int r)]), (5, .var 57 [.r false (int m), .r false (row nE 3 (edges es))])] := ⟨_, fun _ => rfl⟩
    have h0 : (itP m es k s r M 0) = (⟨0, List.replicate M 0, List.replicate M true, []⟩, true) := rfl
    refine Zaa (fun i : Nat => i ≤ C) F (fun i => C - i) 0 (Nat.zero_le _) (by rw [hF, h0];(refine Zi [] rfl ?_ ?_ <;> repeat' (first|refine wkS ?_ ?_|exact wkE|exact Zt oM|exact var4q rfl rfl (cell_ownQ List.length_replicate.symm) rfl))) ?_
    intro i hi
    have hfin : ∀ s' : St, Weak s' (F (i + 1)) → i < C → ∃ x' : Nat, x' ≤ C ∧ Weak s' (F x') ∧ C - x' < C - i := fun s' h hlt => ⟨i + 1, by omega, h, by omega⟩
    have hsz := itP_len m es k s r M hM16 i
    by_cases hlt : i < C
    · have hnx : itP m es k s r M (i + 1) = match stepS m es k s r (itP m es k s r M i).1 with | none => itP m es k s r M i | some x => (x, false) := rfl
      have KT := f_stepP m nE false false (itP m es k s r M i).2 es k s r (itP m es k s r M i).1 oM oM oM oM
      rw [hF, hnx] at hfin
      rw [hF]
      clear hF hnx h0
      generalize itP m es k s r M i = X at *
      obtain ⟨⟨xr, xv, xg, xm⟩, xn⟩ := X
      dsimp only at *
      have hgl := Zah xg
      cases hst : stepS m es k s r ⟨xr, xv, xg, xm⟩ with
      | none =>
        rw [hst] at KT hfin
        have KT' : FnS Try.prog 71 [.agg [.r false (int m), .r false (row nE 3 (edges es))], .agg [.r false (int k), .r false (int s), .r false (int r)], .agg [.r false (int xr), .r false (row false 1 (ints xv)), .r false (row false 1 (bools xg)), .r false (row xn 3 (edges xm))]] [] (.tups [(true, [.r true (int 0), Zs, Zs, Zs]), (false, [.r true (bool false)])]) [] := KT
        dsimp only at hfin
        clear KT hst
        repeat' (first|refine wk ?_|((first|refine' w_e rfl ?xa ?xb ?xc ?xe ?_|refine' v_e rfl ?xa ?xb ?xc ?xe ?_);(case xa => exact Ze 28 rfl (Zax (ys := [graphP m nE es, prgP k s r, stateP xr false xv false xg xn xm]) [] KT' rfl rfl ⟨Zq (Za rfl) ⟨Zd, Zd, trivial⟩, Zq (Za rfl) ⟨Zd, Zd, Zd, trivial⟩, Zq (Za rfl) ⟨Zd, Zd, Zaf (Zj rfl) hgl.symm, Zd, trivial⟩, trivial⟩ rfl rfl));(case xb|xc|xe=>rfl);try refine wkD ?_)|(refine wkB ?_ ?_<;>intro hg_<;>try exact wkX)|fail)
        all_goals first
          | (exfalso; omega)
          | (refine hfin _ ?_ hlt
             (refine Zi [] rfl ?_ ?_ <;> repeat' (first|refine wkS ?_ ?_|exact wkE|exact Zt (by rw [IntWalk.i64_in _ oM] <;> omega)));done)
      | some x =>
        rw [hst] at KT hfin
        obtain ⟨yr, yv, yg, ym⟩ := x
        have KT' : FnS Try.prog 71 [.agg [.r false (int m), .r false (row nE 3 (edges es))], .agg [.r false (int k), .r false (int s), .r false (int r)], .agg [.r false (int xr), .r false (row false 1 (ints xv)), .r false (row false 1 (bools xg)), .r false (row xn 3 (edges xm))]] [] (.tups [(true, [.r true (int yr), .r true (row false 1 (ints yv)), .own 2000002 0 yg.length 1, .r true (row false 3 (edges ym))]), (false, [.r true (bool true)])]) [(2000002, .sl 4 1 true (bools yg))] := KT
        dsimp only at hfin
        clear KT hst
        repeat' (first|refine wk ?_|((first|refine' w_e rfl ?xa ?xb ?xc ?xe ?_|refine' v_e rfl ?xa ?xb ?xc ?xe ?_);(case xa => exact Ze 28 rfl (Zax (ys := [graphP m nE es, prgP k s r, stateP xr false xv false xg xn xm]) [(2000002, 502)] KT' rfl rfl ⟨Zq (Za rfl) ⟨Zd, Zd, trivial⟩, Zq (Za rfl) ⟨Zd, Zd, Zd, trivial⟩, Zq (Za rfl) ⟨Zd, Zd, Zaf (Zj rfl) hgl.symm, Zd, trivial⟩, trivial⟩ rfl rfl));(case xb|xc|xe=>rfl);try refine wkD ?_)|(refine wkB ?_ ?_<;>intro hg_<;>try exact wkX)|fail)
        all_goals first
          | (exfalso; omega)
          | (refine hfin _ ?_ hlt
             (refine Zi [(102, 502)] rfl ?_ ?_ <;> repeat' (first|refine wkS ?_ ?_|exact wkE|exact Zt (by rw [IntWalk.i64_in _ oM] <;> omega)));done)
    · obtain rfl : i = C := by omega
      rw [hF]
      clear hF hfin h0
      repeat' (first|refine wk ?_|(refine wkB ?_ ?_<;>intro hg_<;>try exact wkX)|fail)
      all_goals first
        | (exfalso; omega)
        | ((refine Zi [] rfl ?_ ?_ <;>exact wkW);done)
  clear K1 KS
  generalize itP m es k s r M C = D1 at *
  refine Zbp (mkS 82 [(9, .one (.ptr 9 0 0 0)), (8, .one (.ptr 8 0 0 0)), (3, .one (.r false (int n))), (0, .one (.ptr 1000000000 0 0 0))] [(1000000000, .var 90 [.r m1 (row nb 1 (bys bs)), .r true (int (p3))]), (9, .var 28 [.r true (int D2.1.r), .r true (row false 1 (ints D2.1.vs)), .own 102 0 D2.1.gs.length 1, .r true (row D2.2 3 (edges D2.1.ms))]), (102, .sl 4 1 true (bools D2.1.gs)), (8, .var 28 [.r true (int 0), Zs, Zs, Zs])]) ?_ ?_
  · clear KO K3 K4
    obtain ⟨⟨xr, xv, xg, xm⟩, xn⟩ := D1
    dsimp only at *
    have hvl := Zu xv
    have hml := Zp xm
    have hmsl := Zp ms
    rw [← hvl] at KM
    by_cases hq : q4 = 0
    · rw [if_pos hq] at hD2 hp3
      subst hD2
      subst hp3
      have happ : edges xm ++ edges ms = edges (xm ++ ms) := by unfold edges; rw [List.map_append]
      have KQ := Zc0 false (xm ++ ms) (by rw [List.length_append]; omega)
      have hsl := Zp (sortL (xm ++ ms))
      rw [← happ] at KQ
      generalize sortL (xm ++ ms) = S at *
      have h0 : ([] ++ edges xm ++ edges ms).length = (edges xm).length + (edges ms).length := by simp
      repeat' (first|refine wk ?_|((first|refine' w_e rfl ?xa ?xb ?xc ?xe ?_|refine' v_e rfl ?xa ?xb ?xc ?xe ?_);(case xa => first|exact Ze 34 rfl (Zg [] K2 rfl ⟨Zh (Za rfl), asE, trivial⟩ sbH rfl)|exact Ze 39 rfl (Zw tlOk rfl rfl rfl rfl rfl rfl (Z6 Za2 (Zbg _)) rfl (by simp only [maxLen, List.length_nil];omega) (by simp only [List.length_nil];omega))|exact Zl [] tlOk rfl rfl rfl rfl rfl rfl (by simp [AllN]) (by simp)|exact Ze 44 rfl (Zg [(2000001, 544)] KM rfl ⟨Zh (Za rfl), asE, trivial⟩ sbH rfl)|exact Ze 45 rfl (Zw tlOk rfl rfl rfl rfl rfl rfl (Z6 (Z0 (Zj rfl) hmsl.symm) (Zbg _)) (by simp) (by simp only [maxLen, List.length_append, List.length_nil];omega) (by simp only [List.length_append, List.length_nil];omega))|exact Ze 46 rfl (Zbe KQ rfl rfl ⟨Zcv (Za rfl) (Zj rfl) (by simp), trivial⟩));(case xb|xc|xe=>rfl);try refine wkD ?_)|(refine wkB ?_ ?_<;>intro hg_<;>try exact wkX)|fail)
      all_goals first
        | (exfalso; omega)
        | exact Zb0 (Za9 46 rfl) (by (refine Zi [] rfl ?_ ?_ <;> repeat' (first|refine wkS ?_ ?_|exact wkE|exact var4q rfl rfl rfl (Zbb rfl))))
    · rw [if_neg hq] at hD2 hp3
      subst hD2
      subst hp3
      repeat' (first|refine wk ?_|((first|refine' w_e rfl ?xa ?xb ?xc ?xe ?_|refine' v_e rfl ?xa ?xb ?xc ?xe ?_);(case xa => exact Ze 34 rfl (Zg [] K2 rfl ⟨Zh (Za rfl), asE, trivial⟩ sbH rfl));(case xb|xc|xe=>rfl);try refine wkD ?_)|(refine wkB ?_ ?_<;>intro hg_<;>try exact wkX)|fail)
      all_goals first
        | (exfalso; omega)
        | ((refine Zi [] rfl ?_ ?_ <;>exact wkW);done)
  clear K2 KM hD2 hp3
  refine Zbp (mkS 82 [(9, .one (.ptr 9 0 0 0)), (8, .one (.ptr 8 0 0 0)), (3, .one (.r false (int n))), (0, .one (.ptr 1000000000 0 0 0))] [(1000000000, .var 90 [.r m1 (row nb 1 (bys bs)), .r true (int (p5))]), (9, .var 28 [.r true (int (lastP c a2 D2).1.r), .r true (row false 1 (ints (lastP c a2 D2).1.vs)), .own 102 0 (lastP c a2 D2).1.gs.length 1, .r true (row (lastP c a2 D2).2 3 (edges (lastP c a2 D2).1.ms))]), (102, .sl 4 1 true (bools (lastP c a2 D2).1.gs)), (8, .var 28 [.r true (int 0), Zs, Zs, Zs])]) ?_ ?_
  · obtain ⟨⟨xr, xv, xg, xm⟩, xn⟩ := D2
    dsimp only at *
    have hvl := Zu xv
    have hml := Zp xm
    have hgl := Zah xg
    cases od
    · rw [if_neg (by decide)] at hcd hp5
      subst hcd
      subst hp5
      dsimp only [lastP]
      repeat' (first|refine wk ?_|((first|refine' w_e rfl ?xa ?xb ?xc ?xe ?_|refine' v_e rfl ?xa ?xb ?xc ?xe ?_);(case xa => exact Ze 50 rfl (Zg [] KO rfl ⟨Zh (Za rfl), asE, trivial⟩ sbH rfl));(case xb|xc|xe=>rfl);try refine wkD ?_)|(refine wkB ?_ ?_<;>intro hg_<;>try exact wkX)|fail)
      all_goals first
        | (exfalso; omega)
        | (exfalso; simp at hg_; done)
        | ((refine Zi [] rfl ?_ ?_ <;>exact wkW);done)
    · rw [if_pos rfl] at hcd hp5
      have h4c : a4 = 0 ∨ a4 = 1 ∨ a4 = 2 ∨ a4 = 3 := by omega
      rcases h4c with rfl | rfl | rfl | rfl
      all_goals
        first
          | rw [if_pos rfl] at hp5
          | rw [if_neg (by decide)] at hp5
        subst hcd
        subst hp5
        simp only [lp0, lp1, lp2, lp3]
        repeat' (first|refine wk ?_|((first|refine' w_q rfl rfl ?xa rfl ?_|refine' v_q rfl rfl ?xa rfl ?_|refine' Zn rfl rfl (Zb rfl) rfl ?xa rfl ?_|refine' Zo rfl rfl (Zb rfl) rfl ?xa rfl ?_);case xa => first|exact Zap tbOk rfl rfl rfl rfl oM (by show _ < ((2 : Nat) : Int);omega)|exact Zae (xs := [-1, 101]) tbOk rfl rfl rfl rfl (by simp only [List.length_cons, List.length_nil];omega))|((first|refine' w_e rfl ?xa ?xb ?xc ?xe ?_|refine' v_e rfl ?xa ?xb ?xc ?xe ?_);(case xa => first|exact Ze 50 rfl (Zg [] KO rfl ⟨Zh (Za rfl), asE, trivial⟩ sbH rfl)|exact Ze 52 rfl (Zg [] K3 rfl ⟨Zh (Za rfl), asE, trivial⟩ sbH rfl)|exact Ze 62 rfl (Zg [] K4 rfl ⟨Zh (Za rfl), asE, trivial⟩ sbH rfl)|exact Ze 60 rfl (Zl [.const (.int .i64 (-1)), .const (.int .i64 101)] tlOk rfl rfl rfl rfl rfl rfl (Za4 [-1, 101]) (by simp))|exact Ze 70 rfl (Zl [.const (.bool true)] tlOk rfl rfl rfl rfl rfl rfl (Zy rfl) (by simp))|exact Ze 71 rfl (Zw tlOk rfl rfl rfl rfl rfl rfl (Z6 (Z0 (Zj rfl) rfl) (by simp [plain1])) hgl.symm (by simp only [maxLen, List.length_cons, List.length_nil];omega) (by simp only [List.length_cons, List.length_nil];omega))|exact Ze 76 rfl (Zl [.tmp 75] tlOk rfl rfl rfl rfl rfl rfl (Zy rfl) (by simp))|exact Ze 79 rfl (Zw tlOk rfl rfl rfl rfl rfl rfl (Z6 Za2 (Zbg _)) rfl (by simp only [maxLen, List.length_cons, List.length_nil];omega) (by simp only [List.length_cons, List.length_nil];omega))|exact Ze 53 rfl (Zl [.const (.int .i64 (-2))] tlOk rfl rfl rfl rfl rfl rfl (Zy rfl) (by simp))|exact Ze 56 rfl (Zw tlOk rfl rfl rfl rfl rfl rfl (Z6 Za2 (Zbx _)) rfl (by simp only [maxLen, List.length_cons, List.length_nil];omega) (by simp only [List.length_cons, List.length_nil];omega)));(case xb|xc|xe=>rfl);try refine wkD ?_)|(refine wkB ?_ ?_<;>intro hg_<;>try exact wkX)|fail)
        all_goals first
          | (exfalso; omega)
          | (exfalso; simp at hg_; done)
          | ((refine Zi [] rfl ?_ ?_ <;> repeat' (first|refine wkS ?_ ?_|exact wkE|exact var4q (Zbm (by rw [Nat.zero_add];rfl)) rfl rfl rfl));done)
          | ((refine Zi [(102, 71)] rfl ?_ ?_ <;> repeat' (first|refine wkS ?_ ?_|exact wkE|exact var4q rfl rfl (cell_ownQ (by simp only [List.length_append, List.length_cons, List.length_nil] <;> omega)) rfl|exact Zz rfl (by unfold bools;rw [List.map_append] <;> rfl)));done)
          | exact Zb0 (Za9 79 rfl) (by (refine Zi [] rfl ?_ ?_ <;> repeat' (first|refine wkS ?_ ?_|exact wkE|exact var4q rfl rfl rfl (Zbb (by simp only [List.length_cons, List.length_append, List.length_nil] <;> omega)))))
          | exact Zb0 (Za9 56 rfl) (by (refine Zi [] rfl ?_ ?_ <;> repeat' (first|refine wkS ?_ ?_|exact wkE|exact var4q rfl (Zbb (by simp only [List.length_cons, List.length_append, List.length_nil] <;> omega)) rfl rfl)))
  clear KO K3 K4
  generalize lastP c a2 D2 = D3 at *
  repeat' (first|refine wk ?_|(refine wkB ?_ ?_<;>intro hg_<;>try exact wkX)|fail)
  all_goals first
    | exact Z4 [(2000002, 102)] rfl sbH (Za3 rfl rfl tyF0 rfl rfl rfl (Zac rfl))
end Go.Proofs.Ytmkijbfiilpccaa.Abs
