/- Contracts of functions that read one list of numbers, told by states. No statement of the seat is proved here. -/
import Derived.Lib.Hide
import Derived.Test.YtmkijbfiilpccaaLaTy
import Derived.Test.YtmkijbfiilpccaaLaAbsX
import Derived.Test.YtmkijbfiilpccaaLaADrwI
import Derived.Test.YtmkijbfiilpccaaLaEdges
import Derived.Test.YtmkijbfiilpccaaLaGCod
import Derived.Test.YtmkijbfiilpccaaLaAGrH
set_option linter.unusedSimpArgs false
set_option linter.unusedVariables false
set_option maxRecDepth 100000
set_option maxHeartbeats 4000000
namespace Go.Proofs.Ytmkijbfiilpccaa.Abs
open Go.RowKit
open R (val row ref)
theorem Zcv {H : Nat → Option Ob} {k n sz : Nat} {E : TypeId} {els : List P0} {new : Bool} {ev : Operand → D} {x : Operand} (h : ev x = .one (.own k 0 n sz)) (hk : H k = some (.sl E sz new els)) (hn : n = els.length) : AsArg H (ev x) (.one (row false sz els)):=by
 have h2:=asA_own h hk oM
 rwa [List.drop_zero,List.take_of_length_le oM] at h2
theorem ints_appB (xs ys : List Int) : ints (xs ++ ys) = ints xs ++ ints ys:=by unfold ints; rw [List.map_append]
theorem ints_argV {w : World} {v : Value} {nil : Bool} {xs : List Int} (h : (P0.one (row nil 1 (ints xs))).p ⟨w,fun _=>False⟩ v) : ∃ (ao : Option Addr) (b o c : Nat),v = .slice ao xs.length c ∧ At ao b o xs.length ∧ Ints w b o xs ∧ xs.length ≤ c ∧ c ≤ maxLen:=by
 obtain ⟨ao,cap,rfl,hc,_,_,h5⟩:=Zbf.1 h
 rw [Zu] at h5 hc ⊢
 rcases Nat.eq_zero_or_pos xs.length with h0 | h0
 ·exact ⟨ao,0,0,cap,rfl,.inl h0,fun i hi=>by omega,hc⟩
 ·obtain ⟨b,o,rfl,_,_,hr⟩:=h5 h0
  refine ⟨_,b,o,cap,rfl,.inr rfl,fun i hi=>?_,hc⟩
  obtain ⟨_,g⟩:=hr i _ (ints_get hi)
  obtain ⟨u,hu,hp⟩:=g 0 _ rfl
  have:=(Zai.1 hp).1
  subst this
  have hu' : w.cell? ⟨b,o + i * 1 + 0,none⟩ = _:=hu
  rw [Nat.mul_one,Nat.add_zero] at hu'
  rw [hu',List.getD_eq_getElem?_getD,List.getElem?_eq_getElem hi]
  rfl
theorem fn_lift {f : FuncId} {fn : Func} {c : Code} {nil : Bool} {xs : List Int} {res : Res} (hf : Try.prog.funcs[f]? = some fn) (hname : (fn.name == "runtime.NumGoroutine") = false) (hb : fn.body = some c)
  (h : ∀ (ao : Option Addr) (b o c : Nat) (w : World),xs.length ≤ maxLen → At ao b o xs.length → Ints w b o xs → Calls Try.prog f #[.slice ao xs.length c] w (fun e w'=>∃ v,e = .returned v ∧ res.p ⟨w',fun b=>b < w.heap.size⟩ v ∧ Below w.heap.size w w')) :
  Fn Try.prog f [.one (row nil 1 (ints xs))] res:=by
 refine ⟨ent_of hf hname hb,fun w vs _ hA=>?_⟩
 match vs,hA with
 | [v],⟨h1,_⟩ =>
  obtain ⟨ao,b,o,c,rfl,ha,hi,hc1,hc2⟩:=ints_argV h1
  exact h ao b o c w oM ha hi
theorem fn_lift2 {f : FuncId} {fn : Func} {c : Code} {nil : Bool} {xs : List Int} {i : Int} {res : Res} (hf : Try.prog.funcs[f]? = some fn) (hname : (fn.name == "runtime.NumGoroutine") = false) (hb : fn.body = some c)
  (h : ∀ (ao : Option Addr) (b o c : Nat) (w : World),xs.length ≤ maxLen → At ao b o xs.length → Ints w b o xs → Calls Try.prog f #[.slice ao xs.length c,.int .i64 i] w (fun e w'=>∃ v,e = .returned v ∧ res.p ⟨w',fun b=>b < w.heap.size⟩ v ∧ Below w.heap.size w w')) :
  Fn Try.prog f [.one (row nil 1 (ints xs)),iP i] res:=by
 refine ⟨ent_of hf hname hb,fun w vs _ hA=>?_⟩
 match vs,hA with
 | [v,u],⟨h1,h2,_⟩ =>
  obtain ⟨ao,b,o,c,rfl,ha,hi,hc1,hc2⟩:=ints_argV h1
  have hu : u = .int .i64 i:=(Zai.1 h2).1
  subst hu
  exact h ao b o c w oM ha hi
theorem res_bool (w : World) (own : Nat → Prop) (b : Bool) : (Res.v (.one (bool b))).p ⟨w,own⟩ (.bool b):=(Zai (c:=⟨w,own⟩)).2 ⟨rfl,rfl⟩
def edgeRes : Option (Int × Int × Int) → Res
 | some e=>.tup [edgeP e,.one (bool true)]
 | none=>.tup [edgeP (0,0,0),.one (bool false)]
theorem res_edge (w : World) (own : Nat → Prop) : ∀ r : Option (Int × Int × Int), (edgeRes r).p ⟨w, own⟩ (edgeVal r) := by
  have key : ∀ (a b c : Int) (t : Bool), (Res.tup [edgeP (a, b, c), .one (bool t)]).p ⟨w, own⟩ (.tuple #[.agg #[.int .i64 a, .int .i64 b, .int .i64 c], .bool t]) := fun a b c t => by
    refine ⟨[.agg #[.int .i64 a, .int .i64 b, .int .i64 c], .bool t], rfl, rfl, fun j x hj => ?_⟩
    match j, hj with
    | 0, hj =>
      obtain rfl : edgeP (a, b, c) = x := by simpa using hj
      refine ⟨_, rfl, [.int .i64 a, .int .i64 b, .int .i64 c], rfl, rfl, fun j r hj => ?_⟩
      match j, hj with
      | 0, hj => obtain rfl : int a = r := by simpa using hj
                 exact ⟨_, rfl, (Zai (c := ⟨w, own⟩)).2 ⟨rfl, rfl⟩⟩
      | 1, hj => obtain rfl : int b = r := by simpa using hj
                 exact ⟨_, rfl, (Zai (c := ⟨w, own⟩)).2 ⟨rfl, rfl⟩⟩
      | 2, hj => obtain rfl : int c = r := by simpa using hj
                 exact ⟨_, rfl, (Zai (c := ⟨w, own⟩)).2 ⟨rfl, rfl⟩⟩
      | j + 3, hj => simp at hj
    | 1, hj =>
      obtain rfl : P0.one (bool t) = x := by simpa using hj
      exact ⟨_, rfl, (Zai (c := ⟨w, own⟩)).2 ⟨rfl, rfl⟩⟩
    | j + 2, hj => simp at hj
  intro r
  cases r with
  | none => exact key 0 0 0 false
  | some e => obtain ⟨a, b, c⟩ := e; exact key a b c true
def decRes : Option (Int × Int) → Res
 | some (n,j)=>.tup [iP n,iP j,.one (bool true)]
 | none=>.tup [iP 0,iP 0,.one (bool false)]
theorem res_dec (w : World) (own : Nat → Prop) : ∀ r : Option (Int × Int), (decRes r).p ⟨w, own⟩ (decVal r) := by
  have key : ∀ (a b : Int) (t : Bool), (Res.tup [iP a, iP b, .one (bool t)]).p ⟨w, own⟩ (.tuple #[.int .i64 a, .int .i64 b, .bool t]) := fun a b t => by
    refine ⟨[.int .i64 a, .int .i64 b, .bool t], rfl, rfl, fun j x hj => ?_⟩
    match j, hj with
    | 0, hj => obtain rfl : iP a = x := by simpa using hj
               exact ⟨_, rfl, (Zai (c := ⟨w, own⟩)).2 ⟨rfl, rfl⟩⟩
    | 1, hj => obtain rfl : iP b = x := by simpa using hj
               exact ⟨_, rfl, (Zai (c := ⟨w, own⟩)).2 ⟨rfl, rfl⟩⟩
    | 2, hj => obtain rfl : P0.one (bool t) = x := by simpa using hj
               exact ⟨_, rfl, (Zai (c := ⟨w, own⟩)).2 ⟨rfl, rfl⟩⟩
    | j + 3, hj => simp at hj
  intro r
  cases r with
  | none => exact key 0 0 false
  | some e => obtain ⟨a, b⟩ := e; exact key a b true
theorem f_implBodyOk (nil : Bool) (xs : List Int) : Fn Try.prog 84 [.one (row nil 1 (ints xs))] (.v (.one (bool (bodyOk xs)))) :=
 fn_lift Try.func84 kRf rfl fun ao b o c w hl ha hi=>(implBodyValid ao b o c xs w hl ha hi).mono (by rintro e w' ⟨rfl,rfl⟩; exact ⟨_,rfl,res_bool _ _ _,Below.refl _ _⟩)
theorem f_specReadEdge (nil : Bool) (xs : List Int) : Fn Try.prog 60 [.one (row nil 1 (ints xs))] (edgeRes (readE xs)) :=
 fn_lift Try.func60 kRf rfl fun ao b o c w hl ha hi=>(specReadEdge ao c b o xs w hl ha hi).mono (by rintro e w' ⟨rfl,hb⟩; exact ⟨_,rfl,res_edge _ _ _,hb⟩)
theorem Zc7 (nil : Bool) (xs : List Int) (i : Int) : Fn Try.prog 59 [.one (row nil 1 (ints xs)),iP i] (decRes (decAt xs i)) :=
 fn_lift2 Try.func59 kRf rfl fun ao b o c w hl ha hi=>(specDecodeNumber ao c b o xs i w hl ha hi).mono (by rintro e w' ⟨rfl,rfl⟩; exact ⟨_,rfl,res_dec _ _ _,Below.refl _ _⟩)
end Go.Proofs.Ytmkijbfiilpccaa.Abs
set_option linter.unusedSimpArgs false
set_option linter.unusedVariables false
namespace Go.Proofs.Ytmkijbfiilpccaa.Abs
open Go.RowKit
open R (val row ref)
abbrev rowP (b : List Int) : P0:=.one (row false 1 (ints b))
def rowsI (bs : List (List Int)) : List P0:=bs.map rowP
theorem Zan (bs : List (List Int)) : (rowsI bs).length = bs.length:=List.length_map ..
theorem rowsI_get {bs : List (List Int)} {k : Nat} (h : k < bs.length) : (rowsI bs)[k]? = some (rowP bs[k]):=by unfold rowsI; simp [h]
theorem Zbr {bs : List (List Int)} {k : Nat} (h : k < bs.length) : (rowsI bs)[(k : Int).toNat]? = some (rowP bs[k]):=rowsI_get h
theorem rowsI_app (bs : List (List Int)) (b : List Int) : rowsI (bs ++ [b]) = rowsI bs ++ [rowP b]:=by unfold rowsI; rw [List.map_append]; rfl
theorem e_buildF {P : Program} {tl : TL} {l : List (Nat × D)} {h : List (Nat × Ob)} {o : Oper} {t k n sz c by_ : Nat} {E E2 T : TypeId} {ps : Array (Nat × Operand)} {m : Bool} {els : List P0} (u : Nat) (hT : TLOk P tl) (ho : o.op = .buildSlice T c ps) (hps : ps = (enumO 0 [.tmp u]).toArray) (hc : c = 1) (hd : o.dst = some t) (he : elL tl.els T = some (E,1,by_))
  (hx : evO l (.tmp u) = some (.one (.own k 0 n sz))) (hk : lookHO h k = some (.sl E2 sz m els)) (hn : n = els.length) :
  Eff P (lookH h) (evD (look l)) o (.one (.own t 0 1 1)) [k] [t] [(k,none),(t,some (.sl E 1 m [.one (row false sz els)]))]:=by
 have hp : partsO [(u,.one (.r m (row false sz els)))] [.tmp u] = some (m,[.one (row false sz els)]):=by
  simp [partsO,evO,lookO,dP,nb]
 have hE : Eff P (fun _=>none) (evD (look [(u,.one (.r m (row false sz els)))])) o (.one (.own t 0 1 1)) [] [t] [(t,some (.sl E 1 m [.one (row false sz els)]))] :=
  Zl [.tmp u] hT ho hps hc hd he hp (Zy rfl) (by simp)
 have hops : ∀ x ∈ o.op.operands,x = .tmp u:=by
  intro x hx'
  rw [ho,hps] at hx'
  simpa [Op.operands,enumO] using hx'
 intro base a w ι own hown hbase hev hH hHi K Q hK
 have hKk:=hH k _ (Zj hk)
 have hsub : ∀ b,(own b ∧ b ≠ (ι k).1) → own b:=fun b h=>h.1
 have hno : ¬ (own (ι k).1 ∧ (ι k).1 ≠ (ι k).1):=fun h=>h.2 rfl
 have hb : own (ι k).1 → base ≤ (ι k).1:=fun h=>(hown _ h).1
 refine hE base a w ι (fun b=>own b ∧ b ≠ (ι k).1) (fun b h=>hown b h.1) hbase (fun x hx'=>?_) (fun x ob hx'=>by cases hx') (fun x x' ob ob' hx'=>by cases hx') K Q (fun v w' ι' own' hc=>?_)
 ·have hxu:=hops x hx'
  have h1:=hev x hx'
  subst hxu
  rw [Za hx] at h1
  have h2:=frC_p hb hKk hsub hno (x:=.own k 0 n sz) h1
  have e1 : frC k sz m els (.own k 0 n sz) = .r m (row false sz els):=by
   have : Nat.ble els.length els.length = true:=by rw [Nat.ble_eq]; exact Nat.le_refl _
   simp [frC,hn,this]
  rw [e1] at h2
  have e2 : evD (look [(u,D.one (.r m (row false sz els)))]) (.tmp u) = .one (.r m (row false sz els)):=by simp [evD,look,upd]
  rw [e2]
  exact h2
 ·refine hK v w' ι' own' ⟨hc.os,hc.tape,hc.output,hc.size,fun b hb hn=>hc.block b hb (fun k0 h0=>by cases h0),hc.sized,fun b hb hn=>hc.own1 b ⟨hb,hn k (List.mem_cons_self ..)⟩ (fun k0 h0=>by cases h0),fun b hb=>?_,hc.own3,hc.same,hc.val,fun x ob hx=>?_,fun x ob x' ob' hx hx' e=>?_⟩
  ·rcases hc.own2 b hb with h1 | h1
   ·exact .inl h1.1
   ·exact .inr h1
  ·rcases List.mem_cons.1 hx with h1 | h1
   ·cases h1
   ·obtain ⟨a1,a2,a3⟩:=hc.named x ob h1
    refine ⟨a1,a2,a3.imp id fun ⟨k0,h0,e⟩=>by cases h0⟩
  ·rcases List.mem_cons.1 hx with h1 | h1
   ·cases h1
   ·rcases List.mem_cons.1 hx' with h2 | h2
    ·cases h2
    ·exact hc.inj x ob x' ob' h1 h2 e
theorem Zcn (n : Int) : FnO Try.prog 47 [iP n] 3 1 (ints (enc n)) := by
  have KR := f_l1In n 0 1000000
  cases hR : inR 0 1000000 n
  · rw [hR] at KR
    rw [enc_no (by unfold inR at hR; simp at hR; omega)]
    refine fn_ofO Try.func47 kRf rfl Try.ntmps47 rfl rfl ?_; simp only [argEnv, P0.d, Nat.reduceAdd, List.map_cons, List.map_nil]
    repeat' (first|refine wk ?_|((first|refine' w_q rfl rfl ?xa rfl ?_|refine' v_q rfl rfl ?xa rfl ?_|refine' Zn rfl rfl (Zb rfl) rfl ?xa rfl ?_|refine' Zo rfl rfl (Zb rfl) rfl ?xa rfl ?_);case xa => exact Zm KR rfl ⟨Zf (Za rfl), Zf (Za rfl), Zf (Za rfl), trivial⟩)|((first|refine' w_e rfl ?xa ?xb ?xc ?xe ?_|refine' v_e rfl ?xa ?xb ?xc ?xe ?_);(case xa => exact Zl [] tlOk rfl rfl rfl rfl rfl rfl (by simp [AllN]) (by simp));(case xb|xc|xe=>rfl);try refine wkD ?_)|(refine wkB ?_ ?_<;>intro hg_<;>try exact wkX)|fail)
    all_goals first
      | exact Zb8 rfl rfl rfl
  · rw [hR] at KR
    have hn : 0 ≤ n ∧ n ≤ 1000000 := by unfold inR at hR; simp at hR; omega
    refine fn_ofO Try.func47 kRf rfl Try.ntmps47 rfl rfl ?_; simp only [argEnv, P0.d, Nat.reduceAdd, List.map_cons, List.map_nil]
    repeat' (first|refine wk ?_|((first|refine' w_q rfl rfl ?xa rfl ?_|refine' v_q rfl rfl ?xa rfl ?_|refine' Zn rfl rfl (Zb rfl) rfl ?xa rfl ?_|refine' Zo rfl rfl (Zb rfl) rfl ?xa rfl ?_);case xa => exact Zm KR rfl ⟨Zf (Za rfl), Zf (Za rfl), Zf (Za rfl), trivial⟩)|((first|refine' w_e rfl ?xa ?xb ?xc ?xe ?_|refine' v_e rfl ?xa ?xb ?xc ?xe ?_);(case xa => exact Zl [] tlOk rfl rfl rfl rfl rfl rfl (by simp [AllN]) (by simp));(case xb|xc|xe=>rfl);try refine wkD ?_)|(refine wkB ?_ ?_<;>intro hg_<;>try exact wkX)|fail)
    refine Zaa (fun x : Bool × List Int × Int => enc n = x.2.1 ++ enc x.2.2 ∧ 0 ≤ x.2.2 ∧ x.2.2 ≤ 1000000 ∧ x.2.1.length + (enc x.2.2).length ≤ 3) (fun x => mkS 23 [(3, .one (.own 100 0 x.2.1.length 1)), (0, .one (.r x.1 (int x.2.2)))] [(100, .sl 3 1 true (ints x.2.1))]) (fun x => x.2.2.toNat) (false, [], n) ⟨rfl, hn.1, hn.2, by simpa using Za0 n⟩ (by (refine Zi [(100, 4)] rfl ?_ ?_ <;>exact wkW)) ?_
    rintro ⟨bb, pre, m⟩ ⟨hE, h0, h1, hl⟩
    dsimp only at hE h0 h1 hl ⊢
    have hlen : pre.length = (ints pre).length := (Zu pre).symm
    have hp3 : pre.length ≤ 3 := by omega
    by_cases hlt : 128 ≤ m
    · rw [enc_step hlt h1] at hE hl
      have hw1 : IntKind.i64.wrap (m.tmod 128 + 128) = m % 128 + 128 := by rw [Int.tmod_eq_emod_of_nonneg h0, IntWalk.i64_in _ oM]
      have hw2 : IntKind.i64.wrap (m.tdiv 128) = m / 128 := by rw [Int.tdiv_eq_ediv_of_nonneg h0, IntWalk.i64_in _ oM]
      have hfin : ∀ s' : St, Weak s' (mkS 23 [(3, .one (.own 100 0 (pre ++ [m % 128 + 128]).length 1)), (0, .one (.r true (int (m / 128))))] [(100, .sl 3 1 true (ints (pre ++ [m % 128 + 128])))]) → ∃ x' : Bool × List Int × Int, (enc n = x'.2.1 ++ enc x'.2.2 ∧ 0 ≤ x'.2.2 ∧ x'.2.2 ≤ 1000000 ∧ x'.2.1.length + (enc x'.2.2).length ≤ 3) ∧ Weak s' (mkS 23 [(3, .one (.own 100 0 x'.2.1.length 1)), (0, .one (.r x'.1 (int x'.2.2)))] [(100, .sl 3 1 true (ints x'.2.1))]) ∧ x'.2.2.toNat < m.toNat := fun s' h => ⟨(true, pre ++ [m % 128 + 128], m / 128), ⟨by rw [hE, List.append_assoc]; rfl, by dsimp only; omega, by dsimp only; omega, by simp only [List.length_append, List.length_cons, List.length_nil] at hl ⊢; omega⟩, h, by dsimp only; omega⟩
      clear hE hl
      repeat' (first|refine wk ?_|((first|refine' w_q rfl rfl ?xa rfl ?_|refine' v_q rfl rfl ?xa rfl ?_|refine' Zn rfl rfl (Zb rfl) rfl ?xa rfl ?_|refine' Zo rfl rfl (Zb rfl) rfl ?xa rfl ?_);case xa => first|exact k_rem rfl rfl rfl (by decide)|exact k_div rfl rfl rfl (by decide))|((first|refine' w_e rfl ?xa ?xb ?xc ?xe ?_|refine' v_e rfl ?xa ?xb ?xc ?xe ?_);(case xa => first|exact Zl [.tmp 14] tlOk rfl rfl rfl rfl rfl rfl (Zy rfl) (by simp)|exact Zw tlOk rfl rfl rfl rfl rfl rfl (Z6 (Z0 (Zj rfl) rfl) (by simp [plain1, iP])) hlen (by simp only [maxLen, List.length_append, List.length_cons, List.length_nil];omega) (by (try simp only [List.length_append, List.length_cons, List.length_nil]);omega));(case xb|xc|xe=>rfl);try refine wkD ?_)|(refine wkB ?_ ?_<;>intro hg_<;>try exact wkX)|fail)
      all_goals first
        | (refine hfin _ ?_
           (refine Zi [(100, 16)] rfl ?_ ?_ <;> repeat' (first|refine wkS ?_ ?_|exact wkE|exact Zt hw2|exact Zba (by simp only [List.length_append, Zu, List.length_cons, List.length_nil])|exact Zz rfl (by rw [Zcb, hw1]))))
    · rw [enc_last h0 oM] at hE
      rw [hE]
      clear hE hl
      repeat' (first|refine wk ?_|((first|refine' w_e rfl ?xa ?xb ?xc ?xe ?_|refine' v_e rfl ?xa ?xb ?xc ?xe ?_);(case xa => first|exact Zl [.tmp 20] tlOk rfl rfl rfl rfl rfl rfl (Zy rfl) (by simp)|exact Zw tlOk rfl rfl rfl rfl rfl rfl (Z6 (Z0 (Zj rfl) rfl) (by simp [plain1, iP])) hlen (by simp only [maxLen, List.length_append, List.length_cons, List.length_nil];omega) (by (try simp only [List.length_append, List.length_cons, List.length_nil]);omega));(case xb|xc|xe=>rfl);try refine wkD ?_)|(refine wkB ?_ ?_<;>intro hg_<;>try exact wkX)|fail)
      all_goals first
        | (rw [Zcb]; exact Zb8 rfl rfl (by simp only [List.length_append]))
theorem f_specEdgeBody (e : E3) : FnO Try.prog 48 [edgeP e] 3 1 (ints (edgeB e.1 e.2.1 e.2.2)) := by
  obtain ⟨a, b, c⟩ := e
  dsimp only
  have KA := Zcn a
  have KB := Zcn b
  have KC := Zcn c
  have ha := Za0 a
  have hb := Za0 b
  have hc := Za0 c
  have hfa : fits a = true ↔ 0 < (enc a).length := by
    unfold fits; rw [decide_eq_true_eq]
    exact ⟨fun h => enc_pos h.1 h.2, fun h => by
      by_cases h' : 0 ≤ a ∧ a ≤ 1000000
      · exact h'
      · rw [enc_no oM] at h; simp at h⟩
  have hfb : fits b = true ↔ 0 < (enc b).length := by
    unfold fits; rw [decide_eq_true_eq]
    exact ⟨fun h => enc_pos h.1 h.2, fun h => by
      by_cases h' : 0 ≤ b ∧ b ≤ 1000000
      · exact h'
      · rw [enc_no oM] at h; simp at h⟩
  have hfc : fits c = true ↔ 0 < (enc c).length := by
    unfold fits; rw [decide_eq_true_eq]
    exact ⟨fun h => enc_pos h.1 h.2, fun h => by
      by_cases h' : 0 ≤ c ∧ c ≤ 1000000
      · exact h'
      · rw [enc_no oM] at h; simp at h⟩
  unfold edgeB
  generalize fits a = fa at *
  generalize fits b = fb at *
  generalize fits c = fc at *
  generalize enc a = ea at *
  generalize enc b = eb at *
  generalize enc c = ec at *
  have la := Zu ea
  have lb := Zu eb
  have lc := Zu ec
  refine fn_ofO Try.func48 kRf rfl Try.ntmps48 rfl rfl ?_; simp only [argEnv, P0.d, Nat.reduceAdd, List.map_cons, List.map_nil, edgeP]
  repeat' (first|refine wk ?_|((first|refine' w_e rfl ?xa ?xb ?xc ?xe ?_|refine' v_e rfl ?xa ?xb ?xc ?xe ?_);(case xa => first|exact Zbe KA rfl rfl ⟨Zf (Za rfl), trivial⟩|exact Zbe KB rfl rfl ⟨Zf (Za rfl), trivial⟩|exact Zbe KC rfl rfl ⟨Zf (Za rfl), trivial⟩|exact Zl [] tlOk rfl rfl rfl rfl rfl rfl (by simp [AllN]) (by simp)|exact Zw tlOk rfl rfl rfl rfl rfl rfl (Z6 (Z0 (Zj rfl) rfl) (Zbx _)) (by first|rfl|(simp only [List.length_append];done)) (by simp only [maxLen, List.length_append, List.length_cons, List.length_nil];omega) (by (try simp only [List.length_append, List.length_cons, List.length_nil]);omega));(case xb|xc|xe=>rfl);try refine wkD ?_)|(refine wkB ?_ ?_<;>intro hg_<;>try exact wkX)|fail)
  all_goals first
    | (have : (fa && fb && fc) = false := by
         rw [Bool.and_eq_false_iff, Bool.and_eq_false_iff]
         cases fa <;> cases fb <;> cases fc <;> simp_all
       rw [this]
       exact Zb8 rfl rfl rfl)
    | (have : (fa && fb && fc) = true := by
         rw [Bool.and_eq_true, Bool.and_eq_true]
         refine ⟨⟨hfa.2 ?_, hfb.2 ?_⟩, hfc.2 ?_⟩ <;> omega
       rw [this, if_pos rfl, ints_appB, ints_appB]
       exact Zb8 rfl rfl (by simp only [List.length_append]))
theorem cell_ownN {k n n' sz : Nat} (h : n = n') : Cell.own k 0 n sz = .own k 0 n' sz:=by rw [h]
end Go.Proofs.Ytmkijbfiilpccaa.Abs
