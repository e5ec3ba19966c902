/- Data that the laws speak of: numbers and lists of numbers. No statement of the seat is proved here. -/
import Derived.Lib.Hide
import Derived.Test.YtlobefglhppbdaaGreatDoorCtTy
import Derived.Test.YtlobefglhppbdaaGreatDoorCtAbsS
set_option linter.unusedSimpArgs false
set_option linter.unusedVariables false
set_option maxRecDepth 100000
set_option maxHeartbeats 2000000
namespace Go.Proofs.YtlobefglhppbdaaGreatDoor.Abs
open Go.RowKit
open R (val row ref)
abbrev iP (x : Int) : P0 := .one (int x)
def ints (xs : List Int) : List P0 := xs.map iP
theorem ints_len (xs : List Int) : (ints xs).length = xs.length := List.length_map ..
theorem ints_at {xs : List Int} {k : Nat} (h : k < xs.length) : (ints xs)[(k : Int).toNat]? = some (iP xs[k]) := by
  unfold ints; simp [h]
theorem ints_atI {xs : List Int} {i : Int} (h0 : 0 ≤ i) (h1 : i < xs.length) : (ints xs)[i.toNat]? = some (iP (xs.getD i.toNat 0)) := by
  unfold ints
  rw [List.getElem?_map, List.getElem?_eq_getElem oM, List.getD_eq_getElem?_getD, List.getElem?_eq_getElem oM]
  rfl
def dV (vs : List Int) (v : Int) : Int := vs.getD v.toNat 0
theorem ints_atD {xs : List Int} {i : Int} (h0 : 0 ≤ i) (h1 : i < xs.length) : (ints xs)[i.toNat]? = some (iP (dV xs i)) := ints_atI h0 h1
theorem allN_one {sz : Nat} {x : P0} (h : x.n = sz) : AllN sz [x] := fun i e he => by
  cases i with
  | zero => have : x = e := by simpa using he
            rw [← this]; exact h
  | succ i => simp at he
theorem ints_app (xs : List Int) (x : Int) : ints (xs ++ [x]) = ints xs ++ [iP x] := by unfold ints; rw [List.map_append]; rfl
def inR (lo hi v : Int) : Bool := decide (lo ≤ v ∧ v ≤ hi)
theorem f_l1In (v lo hi : Int) : Fn Tryz.prog 23 [iP v, iP lo, iP hi] (.v (.one (bool (inR lo hi v)))) := by
  refine fn_of (l := [.tmp 6]) Tryz.func23 kRf rfl Tryz.ntmps23 rfl rfl ?_; simp only [argEnv, P0.d, Nat.reduceAdd]
  repeat' (first|refine wk ?_|(refine wkB ?_ ?_<;>intro hg_<;>try exact wkX)|fail)
  all_goals exact ret_tmp rfl (dres_bool (by unfold inR;(first|(simp_all;done)|(rw [Bool.eq_iff_iff];simp_all;done)|(rw [Bool.eq_iff_iff];simp_all;omega)|(rw [Bool.eq_iff_iff];simp;omega))))
def plain1 : P0 → Bool
  | .one (.val _) => true
  | .agg rs => rs.all fun r => match r with | .val _ => true | _ => false
  | _ => false
theorem plain1_rs {e : P0} (h : plain1 e = true) : ∀ (j : Nat) (r : R), e.rs[j]? = some r → ∃ u, r = val u := by
  intro j r hj
  cases e with
  | one x =>
    cases x with
    | val u => cases j with
      | zero => simp [P0.rs] at hj; exact ⟨u, hj.symm⟩
      | succ j => simp [P0.rs] at hj
    | row _ _ _ => cases h
    | ref _ => cases h
  | agg rs =>
    have := List.all_eq_true.1 h r (List.mem_of_getElem? hj)
    cases r with
    | val u => exact ⟨u, rfl⟩
    | row _ _ _ => cases this
    | ref _ => cases this
theorem slD_plain {H : Nat → Option Ob} {d : D} {sz : Nat} {new : Bool} {els : List P0} (h : SlD H d sz new els) (hp : ∀ e ∈ els, plain1 e = true) : SlD H d sz true els := by
  intro ι base w own v hH hv
  obtain ⟨bo, c, news, h1, h2, h3, h4, h5, h6⟩ := h ι base w own v hH hv
  refine ⟨bo, c, news, h1, h2, h3, h4, h5, fun p r hp' => ?_⟩
  obtain ⟨u, hu, hr⟩ := h6 p r hp'
  refine ⟨u, hu, ?_⟩
  have : ∃ z, r = val z := by
    have := (flat_of (els := els) (q := fun _ r => ∃ z, r = val z) (fun i e hi => ⟨h5 i e hi, fun j r hj => plain1_rs (hp e (List.mem_of_getElem? hi)) j r hj⟩)).2 p r hp'
    exact this
  obtain ⟨z, rfl⟩ := this
  exact val_p.2 (val_p.1 hr)
theorem k_loadI {P : Program} {tb : TB} {l : List (Nat × D)} {h : List (Nat × Ob)} {o : Oper} {T E : TypeId} {x : Operand} {k i : Nat} {new : Bool} {xs : List Int} (hT : TbOk P tb) (ho : o.op = .load T x) (hx : evO l x = some (.one (.ptr k i 1 0))) (hk : lookHO h k = some (.sl E 1 new (ints xs))) (hty : tyL tb.tys T = some (false, 1)) (hi : i < xs.length) :
    Loc P (lookH h) (evD (look l)) o (.one (.r new (int (xs.getD i 0)))) := k_loadS (y := iP (xs.getD i 0)) (e := iP (xs.getD i 0)) hT ho hx hk hty (by unfold ints; rw [List.getElem?_map, List.getElem?_eq_getElem hi, List.getD_eq_getElem?_getD, List.getElem?_eq_getElem hi]; rfl) rfl (Nat.le_refl 1) (.inr rfl)
end Go.Proofs.YtlobefglhppbdaaGreatDoor.Abs
