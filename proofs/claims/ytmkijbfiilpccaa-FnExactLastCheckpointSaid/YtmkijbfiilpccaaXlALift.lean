/- Contracts of functions that read one list of numbers, told by states. No statement of the seat is proved here. -/
import Derived.Lib.Hide
import Derived.Test.YtmkijbfiilpccaaXlTy
import Derived.Test.YtmkijbfiilpccaaXlADrwI
import Derived.Test.YtmkijbfiilpccaaXlEdges
import Derived.Test.YtmkijbfiilpccaaXlGCod
set_option linter.unusedSimpArgs false
set_option linter.unusedVariables false
namespace Go.Proofs.Ytmkijbfiilpccaa.Abs
open Go.RowKit
open R (val row ref)
theorem ints_appB (xs ys : List Int) : ints (xs ++ ys) = ints xs ++ ints ys:=by unfold ints; rw [List.map_append]
theorem ints_argV {w : World} {v : Value} {nil : Bool} {xs : List Int} (h : (P0.one (row nil 1 (ints xs))).p ⟨w,fun _=>False⟩ v) : ∃ (ao : Option Addr) (b o c : Nat),v = .slice ao xs.length c ∧ At ao b o xs.length ∧ Ints w b o xs ∧ xs.length ≤ c ∧ c ≤ maxLen:=by
 obtain ⟨ao,cap,rfl,hc,_,_,h5⟩:=Zas.1 h
 rw [Zp] at h5 hc ⊢
 rcases Nat.eq_zero_or_pos xs.length with h0 | h0
 ·exact ⟨ao,0,0,cap,rfl,.inl h0,fun i hi=>by omega,hc⟩
 ·obtain ⟨b,o,rfl,_,_,hr⟩:=h5 h0
  refine ⟨_,b,o,cap,rfl,.inr rfl,fun i hi=>?_,hc⟩
  obtain ⟨_,g⟩:=hr i _ (ints_get hi)
  obtain ⟨u,hu,hp⟩:=g 0 _ rfl
  have:=(Zx.1 hp).1
  subst this
  have hu' : w.cell? ⟨b,o + i * 1 + 0,none⟩ = _:=hu
  rw [Nat.mul_one,Nat.add_zero] at hu'
  rw [hu',List.getD_eq_getElem?_getD,List.getElem?_eq_getElem hi]
  rfl
theorem fn_lift {f : FuncId} {fn : Func} {c : Code} {nil : Bool} {xs : List Int} {res : Res} (hf : Try.prog.funcs[f]? = some fn) (hname : (fn.name == "runtime.NumGoroutine") = false) (hb : fn.body = some c)
  (h : ∀ (ao : Option Addr) (b o c : Nat) (w : World),xs.length ≤ maxLen → At ao b o xs.length → Ints w b o xs → Calls Try.prog f #[.slice ao xs.length c] w (fun e w'=>∃ v,e = .returned v ∧ res.p ⟨w',fun b=>b < w.heap.size⟩ v ∧ Below w.heap.size w w')) :
  Fn Try.prog f [.one (row nil 1 (ints xs))] res:=by
 refine ⟨Za1 hf hname hb,fun w vs _ hA=>?_⟩
 match vs,hA with
 | [v],⟨h1,_⟩ =>
  obtain ⟨ao,b,o,c,rfl,ha,hi,hc1,hc2⟩:=ints_argV h1
  exact h ao b o c w oM ha hi
theorem fn_lift2 {f : FuncId} {fn : Func} {c : Code} {nil : Bool} {xs : List Int} {i : Int} {res : Res} (hf : Try.prog.funcs[f]? = some fn) (hname : (fn.name == "runtime.NumGoroutine") = false) (hb : fn.body = some c)
  (h : ∀ (ao : Option Addr) (b o c : Nat) (w : World),xs.length ≤ maxLen → At ao b o xs.length → Ints w b o xs → Calls Try.prog f #[.slice ao xs.length c,.int .i64 i] w (fun e w'=>∃ v,e = .returned v ∧ res.p ⟨w',fun b=>b < w.heap.size⟩ v ∧ Below w.heap.size w w')) :
  Fn Try.prog f [.one (row nil 1 (ints xs)),iP i] res:=by
 refine ⟨Za1 hf hname hb,fun w vs _ hA=>?_⟩
 match vs,hA with
 | [v,u],⟨h1,h2,_⟩ =>
  obtain ⟨ao,b,o,c,rfl,ha,hi,hc1,hc2⟩:=ints_argV h1
  have hu : u = .int .i64 i:=(Zx.1 h2).1
  subst hu
  exact h ao b o c w oM ha hi
theorem res_bool (w : World) (own : Nat → Prop) (b : Bool) : (Res.v (.one (bool b))).p ⟨w,own⟩ (.bool b):=(Zx (c:=⟨w,own⟩)).2 ⟨rfl,rfl⟩
def edgeRes : Option (Int × Int × Int) → Res
 | some e=>.tup [edgeP e,.one (bool true)]
 | none=>.tup [edgeP (0,0,0),.one (bool false)]
theorem res_edge (w : World) (own : Nat → Prop) : ∀ r : Option (Int × Int × Int), (edgeRes r).p ⟨w, own⟩ (edgeVal r) := by
  have key : ∀ (a b c : Int) (t : Bool), (Res.tup [edgeP (a, b, c), .one (bool t)]).p ⟨w, own⟩ (.tuple #[.agg #[.int .i64 a, .int .i64 b, .int .i64 c], .bool t]) := fun a b c t => by
    refine ⟨[.agg #[.int .i64 a, .int .i64 b, .int .i64 c], .bool t], rfl, rfl, fun j x hj => ?_⟩
    match j, hj with
    | 0, hj =>
      obtain rfl : edgeP (a, b, c) = x := by simpa using hj
      refine ⟨_, rfl, [.int .i64 a, .int .i64 b, .int .i64 c], rfl, rfl, fun j r hj => ?_⟩
      match j, hj with
      | 0, hj => obtain rfl : int a = r := by simpa using hj
                 exact ⟨_, rfl, (Zx (c := ⟨w, own⟩)).2 ⟨rfl, rfl⟩⟩
      | 1, hj => obtain rfl : int b = r := by simpa using hj
                 exact ⟨_, rfl, (Zx (c := ⟨w, own⟩)).2 ⟨rfl, rfl⟩⟩
      | 2, hj => obtain rfl : int c = r := by simpa using hj
                 exact ⟨_, rfl, (Zx (c := ⟨w, own⟩)).2 ⟨rfl, rfl⟩⟩
      | j + 3, hj => simp at hj
    | 1, hj =>
      obtain rfl : P0.one (bool t) = x := by simpa using hj
      exact ⟨_, rfl, (Zx (c := ⟨w, own⟩)).2 ⟨rfl, rfl⟩⟩
    | j + 2, hj => simp at hj
  intro r
  cases r with
  | none => exact key 0 0 0 false
  | some e => obtain ⟨a, b, c⟩ := e; exact key a b c true
def decRes : Option (Int × Int) → Res
 | some (n,j)=>.tup [iP n,iP j,.one (bool true)]
 | none=>.tup [iP 0,iP 0,.one (bool false)]
theorem res_dec (w : World) (own : Nat → Prop) : ∀ r : Option (Int × Int), (decRes r).p ⟨w, own⟩ (decVal r) := by
  have key : ∀ (a b : Int) (t : Bool), (Res.tup [iP a, iP b, .one (bool t)]).p ⟨w, own⟩ (.tuple #[.int .i64 a, .int .i64 b, .bool t]) := fun a b t => by
    refine ⟨[.int .i64 a, .int .i64 b, .bool t], rfl, rfl, fun j x hj => ?_⟩
    match j, hj with
    | 0, hj => obtain rfl : iP a = x := by simpa using hj
               exact ⟨_, rfl, (Zx (c := ⟨w, own⟩)).2 ⟨rfl, rfl⟩⟩
    | 1, hj => obtain rfl : iP b = x := by simpa using hj
               exact ⟨_, rfl, (Zx (c := ⟨w, own⟩)).2 ⟨rfl, rfl⟩⟩
    | 2, hj => obtain rfl : P0.one (bool t) = x := by simpa using hj
               exact ⟨_, rfl, (Zx (c := ⟨w, own⟩)).2 ⟨rfl, rfl⟩⟩
    | j + 3, hj => simp at hj
  intro r
  cases r with
  | none => exact key 0 0 false
  | some e => obtain ⟨a, b⟩ := e; exact key a b true
theorem f_implBodyOk (nil : Bool) (xs : List Int) : Fn Try.prog 84 [.one (row nil 1 (ints xs))] (.v (.one (bool (bodyOk xs)))) :=
 fn_lift Try.func84 kRf rfl fun ao b o c w hl ha hi=>(implBodyValid ao b o c xs w hl ha hi).mono (by rintro e w' ⟨rfl,rfl⟩; exact ⟨_,rfl,res_bool _ _ _,Below.refl _ _⟩)
theorem f_specReadEdge (nil : Bool) (xs : List Int) : Fn Try.prog 60 [.one (row nil 1 (ints xs))] (edgeRes (readE xs)) :=
 fn_lift Try.func60 kRf rfl fun ao b o c w hl ha hi=>(specReadEdge ao c b o xs w hl ha hi).mono (by rintro e w' ⟨rfl,hb⟩; exact ⟨_,rfl,res_edge _ _ _,hb⟩)
theorem Zby (nil : Bool) (xs : List Int) (i : Int) : Fn Try.prog 59 [.one (row nil 1 (ints xs)),iP i] (decRes (decAt xs i)) :=
 fn_lift2 Try.func59 kRf rfl fun ao b o c w hl ha hi=>(specDecodeNumber ao c b o xs i w hl ha hi).mono (by rintro e w' ⟨rfl,rfl⟩; exact ⟨_,rfl,res_dec _ _ _,Below.refl _ _⟩)
end Go.Proofs.Ytmkijbfiilpccaa.Abs
