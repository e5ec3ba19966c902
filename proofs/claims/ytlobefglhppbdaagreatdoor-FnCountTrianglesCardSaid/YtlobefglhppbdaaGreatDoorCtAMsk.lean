/- Sets of vertices by states: how many, below, above. No statement of the seat is proved here. -/
import Derived.Lib.Hide
import Derived.Test.YtlobefglhppbdaaGreatDoorCtTy
import Derived.Test.YtlobefglhppbdaaGreatDoorCtAOnes
import Derived.Test.YtlobefglhppbdaaGreatDoorCtGTr5
set_option linter.unusedSimpArgs false
set_option linter.unusedVariables false
set_option maxRecDepth 100000
set_option maxHeartbeats 1000000
namespace Go.Proofs.YtlobefglhppbdaaGreatDoor.Abs
open Go.RowKit
open R (val row ref)
theorem pop_bits : ∀ n : Fin 256, Go.Lib.onesCount n.val = ((List.range 8).filter fun p => n.val.testBit p).length := by decide +kernel
theorem bits_ones (x : Nat) (hx : x < 256) : (bitsR x).length = Go.Lib.onesCount x := by
  have h := pop_bits ⟨x, hx⟩
  dsimp only at h
  rw [h]
  have e : bitsR x = ((List.range 8).filter fun p => x.testBit p).map fun p : Nat => (p : Int) := by
    refine bitsR_eq ?_ fun u => ?_
    · exact List.Pairwise.map _ (fun a b (h : a < b) => by omega) (List.pairwise_lt_range.filter _)
    · rw [List.mem_map]
      constructor
      · rintro ⟨p, hp, rfl⟩
        rw [List.mem_filter] at hp
        exact ⟨by omega, by simpa using hp.2⟩
      · rintro ⟨h1, h2⟩
        refine ⟨u.toNat, ?_, by omega⟩
        rw [List.mem_filter, List.mem_range]
        refine ⟨?_, h2⟩
        apply Classical.byContradiction
        intro hc
        have : x < 2 ^ u.toNat := Nat.lt_of_lt_of_le (show x < 2 ^ 8 by simpa using hx) (Nat.pow_le_pow_right oM oM)
        rw [Nat.testBit_lt_two_pow this] at h2
        cases h2
  rw [e, List.length_map]
theorem f_ones (x : Nat) (hx : x < 256) : Fn Tryz.prog 37 [mP x] (.v (iP ((bitsR x).length : Int))) := by
  refine ⟨ent_of Tryz.func37 kRf rfl, fun w us _ hA => ?_⟩
  match us, hA with
  | [v1], ⟨h1, _⟩ =>
    obtain rfl := (val_p.1 h1).1
    refine (Go.Proofs.YtlobefglhppbdaaGreatDoor.implOnes (x : Int) w oM oM).mono ?_
    rintro e w' ⟨rfl, hb⟩
    refine ⟨_, rfl, (val_p (c := ⟨w', fun b => b < w.heap.size⟩)).2 ⟨?_, rfl⟩, hb⟩
    rw [bits_ones x hx, Int.toNat_natCast]
theorem f_size (x : Nat) (hx : x < 256) : Fn Tryz.prog 20 [mP x] (.v (iP ((bitsR x).length : Int))) := by
  have K := f_ones x hx
  refine fn_of (l := [.tmp 2]) Tryz.func20 kRf rfl Tryz.ntmps20 rfl rfl ?_; simp only [argEnv, P0.d, Nat.reduceAdd]
  repeat' (first|refine wk ?_|((first|refine' w_q rfl rfl ?xa rfl ?_|refine' v_q rfl rfl ?xa rfl ?_|refine' w_yes rfl rfl (lookO_spec rfl) rfl ?xa rfl ?_|refine' v_yes rfl rfl (lookO_spec rfl) rfl ?xa rfl ?_);case xa => exact k_call K rfl ⟨asA_r (evO_spec rfl), trivial⟩)|(refine wkB ?_ ?_<;>intro hg_<;>try exact wkX)|fail)
  all_goals first
    | exact ret_tmp rfl (dres_int rfl)
    | fail
theorem sub_pow {v : Nat} (hv : v ≤ 31) : IntKind.u32.wrap (((2 ^ v : Nat) : Int) - 1) = ((2 ^ v - 1 : Nat) : Int) := by
  have h1 := pow_lt32 hv
  have h2 : 0 < 2 ^ v := Nat.two_pow_pos v
  rw [IntKind.wrap_u32]; omega
theorem f_below (x : Nat) (v : Int) (hx : x < 4294967296) (h0 : 0 ≤ v) (hv : v ≤ 31) : Fn Tryz.prog 18 [mP x, iP v] (.v (mP (belowN x v.toNat))) := by
  have K := f_maskOf v h0 hv
  have hsub := sub_pow (v := v.toNat) oM
  have hlt := pow_lt32 (v := v.toNat) oM
  refine fn_of (l := [.tmp 4]) Tryz.func18 kRf rfl Tryz.ntmps18 rfl rfl ?_; simp only [argEnv, P0.d, Nat.reduceAdd]
  repeat' (first|refine wk ?_|((first|refine' w_q rfl rfl ?xa rfl ?_|refine' v_q rfl rfl ?xa rfl ?_|refine' w_yes rfl rfl (lookO_spec rfl) rfl ?xa rfl ?_|refine' v_yes rfl rfl (lookO_spec rfl) rfl ?xa rfl ?_);case xa => first|exact k_call K rfl ⟨asA_r (evO_spec rfl), trivial⟩|exact k_and hsub rfl rfl rfl hx oM)|(refine wkB ?_ ?_<;>intro hg_<;>try exact wkX)|fail)
  all_goals first
    | exact ret_tmp rfl (dres_one cres_new)
    | fail
theorem u32_andNot (a b : Nat) : bits .andNot .u32 (a : Int) (b : Int) = ((andNN a b : Nat) : Int) := by
  have hx := andNN_lt a b
  unfold andNN at *
  show IntKind.u32.wrap ((BitVec.ofInt 32 (a : Int) &&& ~~~BitVec.ofInt 32 (b : Int)).toNat : Int) = _
  rw [BitVec.ofInt_natCast, BitVec.ofInt_natCast, IntKind.wrap_u32]
  omega
theorem k_or2 {P : Program} {l : List (Nat × D)} {h : List (Nat × Ob)} {o : Oper} {p q : Nat} {z : Int} {m m' : Bool} {t t' : TypeId} {x y : Operand} (hz : z = (q : Int)) (ho : o.op = .binOp .or t x y t') (hx : evO l x = some (.one (.r m (R.val (.int .u32 (p : Int)))))) (hy : evO l y = some (.one (.r m' (R.val (.int .u32 z))))) (hp : p < 4294967296) (hq : q < 4294967296) :
    Loc P (lookH h) (evD (look l)) o (.one (.r true (R.val (.int .u32 ((p ||| q : Nat) : Int))))) := by
  subst hz; exact k_or ho hx hy hp hq
theorem k_andN {P : Program} {l : List (Nat × D)} {h : List (Nat × Ob)} {o : Oper} {p q : Nat} {m m' : Bool} {t t' : TypeId} {x y : Operand} (ho : o.op = .binOp .andNot t x y t') (hx : evO l x = some (.one (.r m (R.val (.int .u32 (p : Int)))))) (hy : evO l y = some (.one (.r m' (R.val (.int .u32 (q : Int)))))) :
    Loc P (lookH h) (evD (look l)) o (.one (.r true (R.val (.int .u32 ((andNN p q : Nat) : Int))))) :=
  loc_run fun base a w ι own hw he hH => by
    have h1 := he x (by rw [ho]; simp [Op.operands])
    have h2 := he y (by rw [ho]; simp [Op.operands])
    rw [evO_spec hx] at h1
    rw [evO_spec hy] at h2
    have e1 : a.eval x = .int .u32 (p : Int) := ((val_p (c := Cx.young ⟨w, own⟩ base m)).1 h1).1
    have e2 : a.eval y = .int .u32 (q : Int) := ((val_p (c := Cx.young ⟨w, own⟩ base m')).1 h2).1
    refine ⟨.int .u32 ((andNN p q : Nat) : Int), ?_, rfl, rfl⟩
    unfold execOp
    rw [ho]
    simp only [e1, e2]
    rw [← u32_andNot p q]
    simp [eqGuard, binOp, Op.intArith, Op.intCmp, go_sem]
theorem f_above (x : Nat) (v : Int) (hx : x < 4294967296) (h0 : 0 ≤ v) (hv : v ≤ 31) : Fn Tryz.prog 127 [mP x, iP v] (.v (mP (aboveN x v.toNat))) := by
  have K := f_maskOf v h0 hv
  have hsub := sub_pow (v := v.toNat) oM
  have hlt := pow_lt32 (v := v.toNat) oM
  refine fn_of (l := [.tmp 4]) Tryz.func127 kRf rfl Tryz.ntmps127 rfl rfl ?_; simp only [argEnv, P0.d, Nat.reduceAdd]
  repeat' (first|refine wk ?_|((first|refine' w_q rfl rfl ?xa rfl ?_|refine' v_q rfl rfl ?xa rfl ?_|refine' w_yes rfl rfl (lookO_spec rfl) rfl ?xa rfl ?_|refine' v_yes rfl rfl (lookO_spec rfl) rfl ?xa rfl ?_);case xa => first|exact k_call K rfl ⟨asA_r (evO_spec rfl), trivial⟩|exact k_or2 hsub rfl rfl rfl hlt oM|exact k_andN rfl rfl rfl)|(refine wkB ?_ ?_<;>intro hg_<;>try exact wkX)|fail)
  all_goals first
    | exact ret_tmp rfl (dres_one cres_new)
    | fail
end Go.Proofs.YtlobefglhppbdaaGreatDoor.Abs
