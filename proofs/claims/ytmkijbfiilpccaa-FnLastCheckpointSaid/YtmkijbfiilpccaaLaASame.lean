/- Equal states, by states: sameFlags, sameMessages, sameState. No statement of the seat is proved here. -/
import Derived.Laws.StructEq
import Derived.Lib.Hide
import Derived.Test.YtmkijbfiilpccaaLaTy
import Derived.Test.YtmkijbfiilpccaaLaAGrH
import Derived.Test.YtmkijbfiilpccaaLaASta
import Derived.Test.YtmkijbfiilpccaaLaALawG
set_option linter.unusedSimpArgs false
set_option linter.unusedVariables false
set_option maxRecDepth 100000
set_option maxHeartbeats 4000000
namespace Go.Proofs.Ytmkijbfiilpccaa.Abs
open Go.RowKit
open R (val row ref)
theorem eqMs (a b c a' b' c' : Int) (w : World) : (Op.equalIn 10000 70 (.agg #[.int .i64 a,.int .i64 b,.int .i64 c]) (.agg #[.int .i64 a',.int .i64 b',.int .i64 c'])).run Try.prog w = .ok (a == a' && b == b' && c == c') w:=by
 have u3:=Try.underlying3
 have a3:=Try.isAgg3
 have z3:=Try.sizeOf3
 have hS : Try.prog.underlying 70 = some (.struct (Try.prog.fieldsOf 70)):=by kernel_rfl
 have hp : Try.prog.stoodInHeld 70 = false:=by kernel_rfl
 rw [show (10000 : Nat) = 9999 + 1 from rfl,run_equalIn_agg w 9999 70 _ _ hS hp]
 simp only [Program.fieldsOf,Try.underlying70]
 go_simp
 by_cases h1 : a = a'<;>by_cases h2 : b = b'<;>by_cases h3 : c = c'<;>simp [h1,h2,h3]
theorem k_neMs {l : List (Nat × D)} {h : List (Nat × Ob)} {o : Oper} {m1 m2 m3 m4 m5 m6 : Bool} {a b c a' b' c' : Int} {t' : TypeId} {x y : Operand} (ho : o.op = .binOp .neq 70 x y t') (hx : evO l x = some (.agg [.r m1 (int a),.r m2 (int b),.r m3 (int c)])) (hy : evO l y = some (.agg [.r m4 (int a'),.r m5 (int b'),.r m6 (int c')])) :
  Loc Try.prog (lookH h) (evD (look l)) o (.one (.r true (bool (!(a == a' && b == b' && c == c'))))) :=
 Zay fun base ac w ι own hw he hH=>by
  have h1:=he x (by rw [ho]; simp [Op.operands])
  have h2:=he y (by rw [ho]; simp [Op.operands])
  rw [Za hx] at h1
  rw [Za hy] at h2
  obtain ⟨vs,e1,n1,g1⟩:=h1
  obtain ⟨us,e2,n2,g2⟩:=h2
  obtain ⟨v0,q0,r0⟩:=g1 0 _ rfl
  obtain ⟨v1,q1,r1⟩:=g1 1 _ rfl
  obtain ⟨v2,q4,r4⟩:=g1 2 _ rfl
  obtain ⟨u0,q2,r2⟩:=g2 0 _ rfl
  obtain ⟨u1,q3,r3⟩:=g2 1 _ rfl
  obtain ⟨u2,q5,r5⟩:=g2 2 _ rfl
  have s0 : v0 = .int .i64 a:=(Zai.1 r0).1
  have s1 : v1 = .int .i64 b:=(Zai.1 r1).1
  have s4 : v2 = .int .i64 c:=(Zai.1 r4).1
  have s2 : u0 = .int .i64 a':=(Zai.1 r2).1
  have s3 : u1 = .int .i64 b':=(Zai.1 r3).1
  have s5 : u2 = .int .i64 c':=(Zai.1 r5).1
  have hv : vs = [.int .i64 a,.int .i64 b,.int .i64 c]:=by
   match vs,n1 with
   | [p,q,r],_=>simp at q0 q1 q4; rw [q0,q1,q4,s0,s1,s4]
  have hu : us = [.int .i64 a',.int .i64 b',.int .i64 c']:=by
   match us,n2 with
   | [p,q,r],_=>simp at q2 q3 q5; rw [q2,q3,q5,s2,s3,s5]
  subst hv hu
  have hm : Try.prog.eqGuardType Try.prog.depth 70 = false:=by kernel_rfl
  refine ⟨.bool (!(a == a' && b == b' && c == c')),?_,rfl,rfl⟩
  unfold execOp
  rw [ho]
  simp only [e1,e2]
  simp [run_eqGuard_agg w .neq 70 _ _ _ _ hm,run_neq_struct,eqMs]
theorem f_sameFlags2 (n1 n2 : Bool) (xs : List Bool) (hl : xs.length ≤ 1048576) : Fn Try.prog 53 [.one (row n1 1 (bools xs)),.one (row n2 1 (bools xs))] (.v (.one (bool true))):=by
 have hlen:=Zah xs
 refine Z8 (l:=[.tmp 4]) Try.func53 kRf rfl Try.ntmps53 rfl rfl ?_; simp only [argEnv,P0.d,Nat.reduceAdd]
 repeat' (first|refine wk ?_|(refine wkB ?_ ?_<;>intro hg_<;>try exact wkX)|fail)
 refine Zaa (fun k : Nat=>k ≤ xs.length) (fun k=>mkS 26 [(5,.one (.r true (int k))),(0,.one (.r false (row n1 1 (bools xs)))),(1,.one (.r false (row n2 1 (bools xs))))] []) (fun k=>xs.length - k) 0 (Nat.zero_le _) (by (refine Zi [] rfl ?_ ?_ <;>exact wkW)) ?_
 rintro k hk
 by_cases hlt : k < xs.length
 ·have hix:=bools_at (gs:=xs) hlt
  generalize xs[k] = v at *
  have hw : IntKind.i64.wrap ((k : Int) + 1) = ((k + 1 : Nat) : Int):=by rw [IntWalk.i64_in _ oM]; omega
  have hvv : (v != v) = false:=by simp
  repeat' (first|refine wk ?_|((first|refine' w_q rfl rfl ?xa rfl ?_|refine' v_q rfl rfl ?xa rfl ?_|refine' Zn rfl rfl (Zb rfl) rfl ?xa rfl ?_|refine' Zo rfl rfl (Zb rfl) rfl ?xa rfl ?_);case xa=>first|exact Zx tbOk rfl rfl rfl rfl oM (by exact hix)|exact k_neB bo4 rfl rfl rfl)|(refine wkB ?_ ?_<;>intro hg_<;>try exact wkX)|fail)
  all_goals first
   | (exfalso; rw [hvv] at hg_; simp at hg_; done)
   | exact ⟨k + 1,by omega,by (refine Zi [] rfl ?_ ?_<;>repeat' (first|refine wkS ?_ ?_|exact wkE|exact Zt hw)),by omega⟩
 ·repeat' (first|refine wk ?_|(refine wkB ?_ ?_<;>intro hg_<;>try exact wkX)|fail)
  all_goals first
   | exact Zab rfl (Zr rfl)
theorem f_sameMsgs2 (n1 n2 : Bool) (xs : List E3) (hl : xs.length ≤ 1048576) : Fn Try.prog 54 [.one (row n1 3 (edges xs)),.one (row n2 3 (edges xs))] (.v (.one (bool true))):=by
 have hlen:=Zp xs
 refine Z8 (l:=[.tmp 4]) Try.func54 kRf rfl Try.ntmps54 rfl rfl ?_; simp only [argEnv,P0.d,Nat.reduceAdd]
 repeat' (first|refine wk ?_|(refine wkB ?_ ?_<;>intro hg_<;>try exact wkX)|fail)
 refine Zaa (fun k : Nat=>k ≤ xs.length) (fun k=>mkS 26 [(5,.one (.r true (int k))),(0,.one (.r false (row n1 3 (edges xs)))),(1,.one (.r false (row n2 3 (edges xs))))] []) (fun k=>xs.length - k) 0 (Nat.zero_le _) (by (refine Zi [] rfl ?_ ?_ <;>exact wkW)) ?_
 rintro k hk
 by_cases hlt : k < xs.length
 ·have hix:=Zbq (es:=xs) hlt
  generalize xs[k] = v at *
  obtain ⟨v1,v2,v3⟩:=v
  have hw : IntKind.i64.wrap ((k : Int) + 1) = ((k + 1 : Nat) : Int):=by rw [IntWalk.i64_in _ oM]; omega
  repeat' (first|refine wk ?_|((first|refine' w_q rfl rfl ?xa rfl ?_|refine' v_q rfl rfl ?xa rfl ?_|refine' Zn rfl rfl (Zb rfl) rfl ?xa rfl ?_|refine' Zo rfl rfl (Zb rfl) rfl ?xa rfl ?_);case xa=>first|exact Zx tbOk rfl rfl rfl rfl oM (by exact hix)|exact k_neMs rfl rfl rfl)|(refine wkB ?_ ?_<;>intro hg_<;>try exact wkX)|fail)
  all_goals first
   | (exfalso; simp at hg_; done)
   | exact ⟨k + 1,by omega,by (refine Zi [] rfl ?_ ?_<;>repeat' (first|refine wkS ?_ ?_|exact wkE|exact Zt hw)),by omega⟩
 ·repeat' (first|refine wk ?_|(refine wkB ?_ ?_<;>intro hg_<;>try exact wkX)|fail)
  all_goals first
   | exact Zab rfl (Zr rfl)
theorem Zc5 (r : Int) (nv ng nm nv' ng' nm' : Bool) (vs : List Int) (gs : List Bool) (ms : List E3) (h1 : vs.length ≤ 1048576) (h2 : gs.length ≤ 1048576) (h3 : ms.length ≤ 1048576) :
  Fn Try.prog 21 [stateP r nv vs ng gs nm ms,stateP r nv' vs ng' gs nm' ms] (.v (.one (bool true))):=by
 have K1:=f_sameInts2 nv nv' vs h1
 have K2:=f_sameFlags2 ng ng' gs h2
 have K3:=f_sameMsgs2 nm nm' ms h3
 refine Z8 (l:=[.tmp 4]) Try.func21 kRf rfl Try.ntmps21 rfl rfl ?_; simp only [argEnv,P0.d,Nat.reduceAdd,stateP,List.map_cons,List.map_nil]
 repeat' (first|refine wk ?_|((first|refine' w_q rfl rfl ?xa rfl ?_|refine' v_q rfl rfl ?xa rfl ?_|refine' Zn rfl rfl (Zb rfl) rfl ?xa rfl ?_|refine' Zo rfl rfl (Zb rfl) rfl ?xa rfl ?_);case xa=>first|exact Zm K1 rfl ⟨Zf (Za rfl),Zf (Za rfl),trivial⟩|exact Zm K2 rfl ⟨Zf (Za rfl),Zf (Za rfl),trivial⟩|exact Zm K3 rfl ⟨Zf (Za rfl),Zf (Za rfl),trivial⟩|exact k_atD 15 rfl (Zm K1 rfl ⟨Zf (Za rfl),Zf (Za rfl),trivial⟩)|exact k_atD 22 rfl (Zm K2 rfl ⟨Zf (Za rfl),Zf (Za rfl),trivial⟩)|exact k_atD 29 rfl (Zm K3 rfl ⟨Zf (Za rfl),Zf (Za rfl),trivial⟩))|(refine wkB ?_ ?_<;>intro hg_<;>try exact wkX)|fail)
 all_goals first
  | exact Zab rfl (Zr rfl)
  | (exfalso; simp at *; done)
end Abs
end Go.Proofs.Ytmkijbfiilpccaa
