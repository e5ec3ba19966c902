/- Disks and services by states. No statement of the seat is proved here. -/
import Derived.Test.YtihpchbkodihpaaTy
import Derived.Lib.Hide
import Derived.Test.YtihpchbkodihpaaAGraph
import Derived.Test.YtihpchbkodihpaaDiskV
set_option linter.unusedSimpArgs false
set_option linter.unusedVariables false
namespace Go.Proofs.Ytihpchbkodihpaa.Abs
open Go.RowKit
open R (val row ref)

abbrev diskP (n1 : Bool) (xs : List Int) (n2 : Bool) (ys : List Int) : P0 := .agg [row n1 1 (ints xs), row n2 1 (ints ys)]
abbrev svcP (m : Int) (nil : Bool) (es : List E3) (n1 : Bool) (xs : List Int) (n2 : Bool) (ys : List Int) : P0 := .agg [int m, row nil 3 (edges es), row n1 1 (ints xs), row n2 1 (ints ys)]
def szL (left n : Int) : Int := if left < n then -1 else left - n
def szD (left : Int) (n k : Int) : Int := if left < n then -1 else szL (left - n) k
def szS (left : Int) (e n k : Int) : Int := if left < e then -1 else szD (left - e) n k
theorem disk_arg {c : Cx} {v : Value} {n1 n2 : Bool} {xs ys : List Int} (h : (diskP n1 xs n2 ys).p c v) : ∃ a1 c1 a2 c2, v = .agg #[.slice a1 xs.length c1, .slice a2 ys.length c2] ∧ Sl c.w a1 xs ∧ Sl c.w a2 ys := by
  obtain ⟨vs, h1, h2, h3⟩ := h
  obtain ⟨u0, e0, p0⟩ := h3 0 _ rfl
  obtain ⟨u1, e1, p1⟩ := h3 1 _ rfl
  obtain ⟨a1, c1, f1, g1, _⟩ := ints_arg p0
  obtain ⟨a2, c2, f2, g2, _⟩ := ints_arg p1
  have hv : vs = [u0, u1] := by
    match vs, h2, e0, e1 with
    | [a, b], _, e0, e1 => simp at e0 e1; rw [e0, e1]
  subst hv f1 f2
  exact ⟨a1, c1, a2, c2, h1, g1, g2⟩
theorem f_implDiskValid (n1 n2 : Bool) (xs ys : List Int) (hl : xs.length ≤ 1048576) (hl' : ys.length ≤ 1048576) : Fn Try.prog 44 [diskP n1 xs n2 ys] (.v (.one (bool (diskOk xs ys)))) := by
  refine ⟨ent_of Try.func44 (by kernel_rfl) rfl, fun w vs _ hA => ?_⟩
  match vs, hA with
  | [v], ⟨h1, _⟩ =>
    obtain ⟨a1, c1, a2, c2, rfl, g1, g2⟩ := disk_arg h1
    refine (implDiskValid a1 a2 c1 c2 xs ys w hl hl' g1 g2).mono ?_
    rintro e w' ⟨rfl, hb⟩
    exact ⟨_, rfl, bool_res _ _, hb⟩
theorem f_specDiskValid (n1 n2 : Bool) (xs ys : List Int) (hl : xs.length ≤ 1048576) (hl' : ys.length ≤ 1048576) : Fn Try.prog 52 [diskP n1 xs n2 ys] (.v (.one (bool (diskOk xs ys)))) := by
  refine ⟨ent_of Try.func52 (by kernel_rfl) rfl, fun w vs _ hA => ?_⟩
  match vs, hA with
  | [v], ⟨h1, _⟩ =>
    obtain ⟨a1, c1, a2, c2, rfl, g1, g2⟩ := disk_arg h1
    refine (specDiskValid a1 a2 c1 c2 xs ys w hl hl' g1 g2).mono ?_
    rintro e w' ⟨rfl, hb⟩
    exact ⟨_, rfl, bool_res _ _, hb⟩
set_option maxRecDepth 100000 in
set_option maxHeartbeats 2000000 in
theorem f_implServiceValid (m : Int) (nil n1 n2 : Bool) (es : List E3) (xs ys : List Int) (he : es.length ≤ 1048576) (hl : xs.length ≤ 1048576) (hl' : ys.length ≤ 1048576) : Fn Try.prog 12 [svcP m nil es n1 xs n2 ys] (.v (.one (bool (gOk m es && diskOk xs ys)))) := by
  have hlm : es.length ≤ maxLen := by simp only [maxLen]; omega
  refine fn_of (l := [.tmp 2]) Try.func12 (by kernel_rfl) rfl Try.ntmps12 rfl rfl ?_; simp only [argEnv, P0.d, Nat.reduceAdd, svcP, List.map_cons, List.map_nil]
  repeat' (first | (with_reducible first | refine aw_seq ?_ | refine thn_normal ?_ | refine thn_ret ?_ | refine thn_exit ?_ | refine blk_normal ?_ | refine blk_ret ?_ | refine blk_hit ?_ | refine blk_miss rfl ?_ | refine aw_block ?_ | refine aw_ret ?_ | refine aw_skip ?_ | refine aw_exit ?_ | refine w_nil ?_ | refine x_nil (by kernel_rfl) ?_) | refine aw_region ?_ | refine aw_region_draw (by kernel_rfl) ?_ | refine aw_yes rfl ?_ | refine aw_no rfl ?_ | ((with_reducible refine w_seq ?_); first | refine r_q tbOk rfl rfl rfl rfl ?_ | refine r_e tbOk rfl rfl rfl rfl rfl ?_ | refine r_yes tbOk rfl rfl rfl rfl rfl rfl ?_ | refine w_no rfl rfl (lookO_spec rfl) rfl rfl rfl ?_ | refine w_un rfl rfl (lookO_spec rfl) rfl rfl ?_) | ((with_reducible refine w_drw ?_); first | refine rx_q tbOk rfl rfl rfl rfl ?_ | refine rx_e tbOk rfl rfl rfl rfl rfl ?_ | refine rx_yes tbOk rfl rfl rfl rfl rfl rfl ?_ | refine x_no rfl rfl (lookO_spec rfl) rfl rfl rfl ?_ | refine x_un rfl rfl (lookO_spec rfl) rfl rfl ?_) | ((first | refine' w_q rfl rfl ?xa rfl ?_ | refine' v_q rfl rfl ?xa rfl ?_ | refine' w_yes rfl rfl (lookO_spec rfl) rfl ?xa rfl ?_ | refine' v_yes rfl rfl (lookO_spec rfl) rfl ?xa rfl ?_); case xa => first | exact k_call (f_implGraphValid m _ es hlm) rfl ⟨asA_agg (evO_spec rfl) ⟨cAr_r, cAr_r, trivial⟩, trivial⟩ | exact k_call (f_implDiskValid _ _ xs ys hl hl') rfl ⟨asA_agg (evO_spec rfl) ⟨cAr_r, cAr_r, trivial⟩, trivial⟩) | ((first | refine aw_ways rfl ?_ ?_ | refine r_split rfl rfl rfl ?_ ?_) <;> intro hg_ <;> fail_if_success (exact Bool.noConfusion hg_)) <;> (try simp only [prn] at hg_) <;> (try first | contradiction | (exfalso; omega)))
  all_goals exact ret_tmp rfl (dres_bool (by simp_all))
set_option maxRecDepth 100000 in
set_option maxHeartbeats 2000000 in
theorem f_specServiceValid (m : Int) (nil n1 n2 : Bool) (es : List E3) (xs ys : List Int) (he : es.length ≤ 1048576) (hl : xs.length ≤ 1048576) (hl' : ys.length ≤ 1048576) : Fn Try.prog 13 [svcP m nil es n1 xs n2 ys] (.v (.one (bool (gOk m es && diskOk xs ys)))) := by
  have hlm : es.length ≤ maxLen := by simp only [maxLen]; omega
  refine fn_of (l := [.tmp 2]) Try.func13 (by kernel_rfl) rfl Try.ntmps13 rfl rfl ?_; simp only [argEnv, P0.d, Nat.reduceAdd, svcP, List.map_cons, List.map_nil]
  repeat' (first | (with_reducible first | refine aw_seq ?_ | refine thn_normal ?_ | refine thn_ret ?_ | refine thn_exit ?_ | refine blk_normal ?_ | refine blk_ret ?_ | refine blk_hit ?_ | refine blk_miss rfl ?_ | refine aw_block ?_ | refine aw_ret ?_ | refine aw_skip ?_ | refine aw_exit ?_ | refine w_nil ?_ | refine x_nil (by kernel_rfl) ?_) | refine aw_region ?_ | refine aw_region_draw (by kernel_rfl) ?_ | refine aw_yes rfl ?_ | refine aw_no rfl ?_ | ((with_reducible refine w_seq ?_); first | refine r_q tbOk rfl rfl rfl rfl ?_ | refine r_e tbOk rfl rfl rfl rfl rfl ?_ | refine r_yes tbOk rfl rfl rfl rfl rfl rfl ?_ | refine w_no rfl rfl (lookO_spec rfl) rfl rfl rfl ?_ | refine w_un rfl rfl (lookO_spec rfl) rfl rfl ?_) | ((with_reducible refine w_drw ?_); first | refine rx_q tbOk rfl rfl rfl rfl ?_ | refine rx_e tbOk rfl rfl rfl rfl rfl ?_ | refine rx_yes tbOk rfl rfl rfl rfl rfl rfl ?_ | refine x_no rfl rfl (lookO_spec rfl) rfl rfl rfl ?_ | refine x_un rfl rfl (lookO_spec rfl) rfl rfl ?_) | ((first | refine' w_q rfl rfl ?xa rfl ?_ | refine' v_q rfl rfl ?xa rfl ?_ | refine' w_yes rfl rfl (lookO_spec rfl) rfl ?xa rfl ?_ | refine' v_yes rfl rfl (lookO_spec rfl) rfl ?xa rfl ?_); case xa => first | exact k_call (f_specGraphValid m _ es hlm) rfl ⟨asA_agg (evO_spec rfl) ⟨cAr_r, cAr_r, trivial⟩, trivial⟩ | exact k_call (f_specDiskValid _ _ xs ys hl hl') rfl ⟨asA_agg (evO_spec rfl) ⟨cAr_r, cAr_r, trivial⟩, trivial⟩) | ((first | refine aw_ways rfl ?_ ?_ | refine r_split rfl rfl rfl ?_ ?_) <;> intro hg_ <;> fail_if_success (exact Bool.noConfusion hg_)) <;> (try simp only [prn] at hg_) <;> (try first | contradiction | (exfalso; omega)))
  all_goals exact ret_tmp rfl (dres_bool (by simp_all))
end Go.Proofs.Ytihpchbkodihpaa.Abs
