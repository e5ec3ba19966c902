/- Data that the laws speak of: numbers and lists of numbers. No statement of the seat is proved here. -/
import Derived.Lib.Hide
import Derived.Test.YtmkecjamfippfaaRxTy
import Derived.Test.YtmkecjamfippfaaRxAbsS
set_option linter.unusedSimpArgs false
set_option linter.unusedVariables false
namespace Go.Proofs.Ytmkecjamfippfaa.Abs
open Go.RowKit
open R (val row ref)
abbrev iP (x : Int) : P0 := .one (int x)
def ints (xs : List Int) : List P0 := xs.map iP
theorem ints_len (xs : List Int) : (ints xs).length = xs.length := List.length_map ..
theorem ints_at {xs : List Int} {k : Nat} (h : k < xs.length) : (ints xs)[(k : Int).toNat]? = some (iP xs[k]) := by
  unfold ints; simp [h]
theorem ints_get {xs : List Int} {k : Nat} (h : k < xs.length) : (ints xs)[k]? = some (iP xs[k]) := by
  unfold ints; simp [h]
theorem ints_atI {xs : List Int} {i : Int} (h0 : 0 ≤ i) (h1 : i < xs.length) : (ints xs)[i.toNat]? = some (iP (xs.getD i.toNat 0)) := by
  unfold ints
  rw [List.getElem?_map, List.getElem?_eq_getElem (by omega), List.getD_eq_getElem?_getD, List.getElem?_eq_getElem (by omega)]
  rfl
theorem allN_one {sz : Nat} {x : P0} (h : x.n = sz) : AllN sz [x] := fun i e he => by
  cases i with
  | zero => have : x = e := by simpa using he
            rw [← this]; exact h
  | succ i => simp at he
theorem ints_app (xs : List Int) (x : Int) : ints (xs ++ [x]) = ints xs ++ [iP x] := by unfold ints; rw [List.map_append]; rfl
def inR (lo hi v : Int) : Bool := decide (lo ≤ v ∧ v ≤ hi)
set_option maxRecDepth 100000 in
set_option maxHeartbeats 2000000 in
theorem f_l1In (v lo hi : Int) : Fn Try.prog 75 [iP v, iP lo, iP hi] (.v (.one (bool (inR lo hi v)))) := by
  refine fn_of (l := [.tmp 6]) Try.func75 (by kernel_rfl) rfl Try.ntmps75 rfl rfl ?_; simp only [argEnv, P0.d, Nat.reduceAdd]
  repeat' (first|(with_reducible first|refine aw_seq ?_|refine thn_normal ?_|refine thn_ret ?_|refine thn_exit ?_|refine blk_normal ?_|refine blk_ret ?_|refine blk_hit ?_|refine blk_miss rfl ?_|refine aw_block ?_|refine aw_ret ?_|refine aw_skip ?_|refine aw_exit ?_|refine w_nil ?_|refine x_nil (by kernel_rfl) ?_)|refine aw_region ?_|refine aw_region_draw (by kernel_rfl) ?_|refine aw_yes rfl ?_|refine aw_no rfl ?_|((with_reducible refine w_seq ?_);first|refine r_q tbOk rfl rfl rfl rfl ?_|refine r_e tbOk rfl rfl rfl rfl rfl ?_|refine r_yes tbOk rfl rfl rfl rfl rfl rfl ?_|refine w_no rfl rfl (lookO_spec rfl) rfl rfl rfl ?_|refine w_un rfl rfl (lookO_spec rfl) rfl rfl ?_)|((with_reducible refine w_drw ?_);first|refine rx_q tbOk rfl rfl rfl rfl ?_|refine rx_e tbOk rfl rfl rfl rfl rfl ?_|refine rx_yes tbOk rfl rfl rfl rfl rfl rfl ?_|refine x_no rfl rfl (lookO_spec rfl) rfl rfl rfl ?_|refine x_un rfl rfl (lookO_spec rfl) rfl rfl ?_)|((first|refine aw_ways rfl ?_ ?_|refine r_split rfl rfl rfl ?_ ?_) <;> intro hg_ <;> fail_if_success (exact Bool.noConfusion hg_)) <;> (try simp only [prn] at hg_) <;> (try first|contradiction|(exfalso;omega)))
  all_goals exact ret_tmp rfl (dres_bool (by unfold inR;(first|(simp_all;done)|(rw [Bool.eq_iff_iff];simp_all;done)|(rw [Bool.eq_iff_iff];simp_all;omega)|(rw [Bool.eq_iff_iff];simp;omega))))
def plain1 : P0 → Bool
  | .one (.val _) => true
  | .agg rs => rs.all fun r => match r with | .val _ => true | _ => false
  | _ => false
theorem plain1_rs {e : P0} (h : plain1 e = true) : ∀ (j : Nat) (r : R), e.rs[j]? = some r → ∃ u, r = val u := by
  intro j r hj
  cases e with
  | one x =>
    cases x with
    | val u => cases j with
      | zero => simp [P0.rs] at hj; exact ⟨u, hj.symm⟩
      | succ j => simp [P0.rs] at hj
    | row _ _ _ => cases h
    | ref _ => cases h
  | agg rs =>
    have := List.all_eq_true.1 h r (List.mem_of_getElem? hj)
    cases r with
    | val u => exact ⟨u, rfl⟩
    | row _ _ _ => cases this
    | ref _ => cases this
theorem slD_plain {H : Nat → Option Ob} {d : D} {sz : Nat} {new : Bool} {els : List P0} (h : SlD H d sz new els) (hp : ∀ e ∈ els, plain1 e = true) : SlD H d sz true els := by
  intro ι base w own v hH hv
  obtain ⟨bo, c, news, h1, h2, h3, h4, h5, h6⟩ := h ι base w own v hH hv
  refine ⟨bo, c, news, h1, h2, h3, h4, h5, fun p r hp' => ?_⟩
  obtain ⟨u, hu, hr⟩ := h6 p r hp'
  refine ⟨u, hu, ?_⟩
  have : ∃ z, r = val z := by
    have := (flat_of (els := els) (q := fun _ r => ∃ z, r = val z) (fun i e hi => ⟨h5 i e hi, fun j r hj => plain1_rs (hp e (List.mem_of_getElem? hi)) j r hj⟩)).2 p r hp'
    exact this
  obtain ⟨z, rfl⟩ := this
  exact val_p.2 (val_p.1 hr)
theorem ints_plain (xs : List Int) : ∀ e ∈ ints xs, plain1 e = true := fun e he => by
  unfold ints at he
  obtain ⟨x, _, rfl⟩ := List.mem_map.1 he
  rfl
end Go.Proofs.Ytmkecjamfippfaa.Abs
