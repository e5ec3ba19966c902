/- Disks and services by states. No statement of the seat is proved here. -/
import Derived.Lib.Hide
import Derived.Test.YtmkecjamfippfaaRxTy
import Derived.Test.YtmkecjamfippfaaRxAGraph
import Derived.Test.YtmkecjamfippfaaRxDiskV
set_option linter.unusedSimpArgs false
set_option linter.unusedVariables false
namespace Go.Proofs.Ytmkecjamfippfaa.Abs
open Go.RowKit
open R (val row ref)
abbrev diskP (n1 : Bool) (xs : List Int) (n2 : Bool) (ys : List Int) : P0 := .agg [row n1 1 (ints xs), row n2 1 (ints ys)]
def szL (left n : Int) : Int := if left < n then -1 else left - n
def szD (left : Int) (n k : Int) : Int := if left < n then -1 else szL (left - n) k
set_option maxRecDepth 100000 in
set_option maxHeartbeats 2000000 in
theorem f_szIntS (nil : Bool) (xs : List Int) (left : Int) (hl : xs.length ≤ 9223372036854775807) (h1 : 0 ≤ left) (h2 : left ≤ 1048576) : Fn Try.prog 36 [.one (row nil 1 (ints xs)), iP left] (.v (iP (szL left xs.length))) := by
  have hlen := ints_len xs
  have hw : IntKind.i64.wrap (left - ((ints xs).length : Int)) = left - xs.length := by rw [IntWalk.i64_in _ (by omega), hlen]
  unfold szL
  refine fn_of (l := [.tmp 4]) Try.func36 (by kernel_rfl) rfl Try.ntmps36 rfl rfl ?_; simp only [argEnv, P0.d, Nat.reduceAdd, List.map_cons, List.map_nil]
  repeat' (first|(with_reducible first|refine aw_seq ?_|refine thn_normal ?_|refine thn_ret ?_|refine thn_exit ?_|refine blk_normal ?_|refine blk_ret ?_|refine blk_hit ?_|refine blk_miss rfl ?_|refine aw_block ?_|refine aw_ret ?_|refine aw_skip ?_|refine aw_exit ?_|refine w_nil ?_|refine x_nil (by kernel_rfl) ?_)|refine aw_region ?_|refine aw_region_draw (by kernel_rfl) ?_|refine aw_yes rfl ?_|refine aw_no rfl ?_|((with_reducible refine w_seq ?_);first|refine r_q tbOk rfl rfl rfl rfl ?_|refine r_e tbOk rfl rfl rfl rfl rfl ?_|refine r_yes tbOk rfl rfl rfl rfl rfl rfl ?_|refine w_no rfl rfl (lookO_spec rfl) rfl rfl rfl ?_|refine w_un rfl rfl (lookO_spec rfl) rfl rfl ?_)|((with_reducible refine w_drw ?_);first|refine rx_q tbOk rfl rfl rfl rfl ?_|refine rx_e tbOk rfl rfl rfl rfl rfl ?_|refine rx_yes tbOk rfl rfl rfl rfl rfl rfl ?_|refine x_no rfl rfl (lookO_spec rfl) rfl rfl rfl ?_|refine x_un rfl rfl (lookO_spec rfl) rfl rfl ?_)|((first|refine aw_ways rfl ?_ ?_|refine r_split rfl rfl rfl ?_ ?_) <;> intro hg_ <;> fail_if_success (exact Bool.noConfusion hg_)) <;> (try simp only [prn] at hg_) <;> (try first|contradiction|(exfalso;omega)))
  · refine ret_tmp rfl (dres_int ?_)
    rw [hw] at *
    rw [if_pos (by omega)]
  · refine ret_tmp rfl (dres_int ?_)
    rw [hw] at *
    rw [if_neg (by omega)]
set_option maxRecDepth 100000 in
set_option maxHeartbeats 2000000 in
theorem f_szDisk (n1 n2 : Bool) (xs ys : List Int) (left : Int) (hl : xs.length ≤ 9223372036854775807) (hl' : ys.length ≤ 9223372036854775807) (h1 : 0 ≤ left) (h2 : left ≤ 1048576) : Fn Try.prog 17 [diskP n1 xs n2 ys, iP left] (.v (iP (szD left xs.length ys.length))) := by
  by_cases h : left < xs.length
  · have KZ := f_szIntS n1 xs left hl h1 h2
    rw [show szL left xs.length = -1 from if_pos h] at KZ
    rw [show szD left xs.length ys.length = -1 from if_pos h]
    refine fn_of (l := [.tmp 4]) Try.func17 (by kernel_rfl) rfl Try.ntmps17 rfl rfl ?_; simp only [argEnv, P0.d, Nat.reduceAdd, diskP, List.map_cons, List.map_nil]
    repeat' (first|(with_reducible first|refine aw_seq ?_|refine thn_normal ?_|refine thn_ret ?_|refine thn_exit ?_|refine blk_normal ?_|refine blk_ret ?_|refine blk_hit ?_|refine blk_miss rfl ?_|refine aw_block ?_|refine aw_ret ?_|refine aw_skip ?_|refine aw_exit ?_|refine w_nil ?_|refine x_nil (by kernel_rfl) ?_)|refine aw_region ?_|refine aw_region_draw (by kernel_rfl) ?_|refine aw_yes rfl ?_|refine aw_no rfl ?_|((with_reducible refine w_seq ?_);first|refine r_q tbOk rfl rfl rfl rfl ?_|refine r_e tbOk rfl rfl rfl rfl rfl ?_|refine r_yes tbOk rfl rfl rfl rfl rfl rfl ?_|refine w_no rfl rfl (lookO_spec rfl) rfl rfl rfl ?_|refine w_un rfl rfl (lookO_spec rfl) rfl rfl ?_)|((with_reducible refine w_drw ?_);first|refine rx_q tbOk rfl rfl rfl rfl ?_|refine rx_e tbOk rfl rfl rfl rfl rfl ?_|refine rx_yes tbOk rfl rfl rfl rfl rfl rfl ?_|refine x_no rfl rfl (lookO_spec rfl) rfl rfl rfl ?_|refine x_un rfl rfl (lookO_spec rfl) rfl rfl ?_)|((first|refine' w_q rfl rfl ?xa rfl ?_|refine' v_q rfl rfl ?xa rfl ?_|refine' w_yes rfl rfl (lookO_spec rfl) rfl ?xa rfl ?_|refine' v_yes rfl rfl (lookO_spec rfl) rfl ?xa rfl ?_);case xa => exact k_call KZ rfl ⟨asA_r (evO_spec rfl), asA_r (evO_spec rfl), trivial⟩)|((first|refine aw_ways rfl ?_ ?_|refine r_split rfl rfl rfl ?_ ?_) <;> intro hg_ <;> fail_if_success (exact Bool.noConfusion hg_)) <;> (try simp only [prn] at hg_) <;> (try first|contradiction|(exfalso;omega)))
    all_goals first
      | exact ret_tmp rfl (dres_int rfl)
      | trace_state
  · have KZ := f_szIntS n1 xs left hl h1 h2
    rw [show szL left xs.length = left - xs.length from if_neg h] at KZ
    rw [show szD left xs.length ys.length = szL (left - xs.length) ys.length from if_neg h]
    have KY := f_szIntS n2 ys (left - xs.length) hl' (by omega) (by omega)
    refine fn_of (l := [.tmp 4]) Try.func17 (by kernel_rfl) rfl Try.ntmps17 rfl rfl ?_; simp only [argEnv, P0.d, Nat.reduceAdd, diskP, List.map_cons, List.map_nil]
    repeat' (first|(with_reducible first|refine aw_seq ?_|refine thn_normal ?_|refine thn_ret ?_|refine thn_exit ?_|refine blk_normal ?_|refine blk_ret ?_|refine blk_hit ?_|refine blk_miss rfl ?_|refine aw_block ?_|refine aw_ret ?_|refine aw_skip ?_|refine aw_exit ?_|refine w_nil ?_|refine x_nil (by kernel_rfl) ?_)|refine aw_region ?_|refine aw_region_draw (by kernel_rfl) ?_|refine aw_yes rfl ?_|refine aw_no rfl ?_|((with_reducible refine w_seq ?_);first|refine r_q tbOk rfl rfl rfl rfl ?_|refine r_e tbOk rfl rfl rfl rfl rfl ?_|refine r_yes tbOk rfl rfl rfl rfl rfl rfl ?_|refine w_no rfl rfl (lookO_spec rfl) rfl rfl rfl ?_|refine w_un rfl rfl (lookO_spec rfl) rfl rfl ?_)|((with_reducible refine w_drw ?_);first|refine rx_q tbOk rfl rfl rfl rfl ?_|refine rx_e tbOk rfl rfl rfl rfl rfl ?_|refine rx_yes tbOk rfl rfl rfl rfl rfl rfl ?_|refine x_no rfl rfl (lookO_spec rfl) rfl rfl rfl ?_|refine x_un rfl rfl (lookO_spec rfl) rfl rfl ?_)|((first|refine' w_q rfl rfl ?xa rfl ?_|refine' v_q rfl rfl ?xa rfl ?_|refine' w_yes rfl rfl (lookO_spec rfl) rfl ?xa rfl ?_|refine' v_yes rfl rfl (lookO_spec rfl) rfl ?xa rfl ?_);case xa => first|exact k_call KZ rfl ⟨asA_r (evO_spec rfl), asA_r (evO_spec rfl), trivial⟩|exact k_call KY rfl ⟨asA_r (evO_spec rfl), asA_r (evO_spec rfl), trivial⟩)|((first|refine aw_ways rfl ?_ ?_|refine r_split rfl rfl rfl ?_ ?_) <;> intro hg_ <;> fail_if_success (exact Bool.noConfusion hg_)) <;> (try simp only [prn] at hg_) <;> (try first|contradiction|(exfalso;omega)))
    all_goals first
      | exact ret_tmp rfl (dres_int rfl)
      | exact ret_tmp rfl (dres_int (by unfold szL at *; split at * <;> omega))
      | (exfalso; omega)
      | trace_state
set_option maxRecDepth 100000 in
set_option maxHeartbeats 2000000 in
theorem f_toDisk (n1 n2 : Bool) (xs ys : List Int) (hl : xs.length ≤ 1048576) (hl' : ys.length ≤ 1048576) : Fn Try.prog 20 [diskP n1 xs n2 ys] (.v (diskP false xs false ys)) := by
  refine fn_of (l := [.cell 2 48]) Try.func20 (by kernel_rfl) rfl Try.ntmps20 rfl rfl ?_; simp only [argEnv, P0.d, Nat.reduceAdd, diskP, List.map_cons, List.map_nil]
  repeat' (first|(with_reducible first|refine aw_seq ?_|refine thn_normal ?_|refine thn_ret ?_|refine thn_exit ?_|refine blk_normal ?_|refine blk_ret ?_|refine blk_hit ?_|refine blk_miss rfl ?_|refine aw_block ?_|refine aw_ret ?_|refine aw_skip ?_|refine aw_exit ?_|refine w_nil ?_|refine x_nil (by kernel_rfl) ?_)|refine aw_region ?_|refine aw_region_draw (by kernel_rfl) ?_|refine aw_yes rfl ?_|refine aw_no rfl ?_|((with_reducible refine w_seq ?_);first|refine r_q tbOk rfl rfl rfl rfl ?_|refine r_e tbOk rfl rfl rfl rfl rfl ?_|refine r_yes tbOk rfl rfl rfl rfl rfl rfl ?_|refine w_no rfl rfl (lookO_spec rfl) rfl rfl rfl ?_|refine w_un rfl rfl (lookO_spec rfl) rfl rfl ?_)|((with_reducible refine w_drw ?_);first|refine rx_q tbOk rfl rfl rfl rfl ?_|refine rx_e tbOk rfl rfl rfl rfl rfl ?_|refine rx_yes tbOk rfl rfl rfl rfl rfl rfl ?_|refine x_no rfl rfl (lookO_spec rfl) rfl rfl rfl ?_|refine x_un rfl rfl (lookO_spec rfl) rfl rfl ?_)|((first|refine' w_q rfl rfl ?xa rfl ?_|refine' v_q rfl rfl ?xa rfl ?_|refine' w_yes rfl rfl (lookO_spec rfl) rfl ?xa rfl ?_|refine' v_yes rfl rfl (lookO_spec rfl) rfl ?xa rfl ?_);case xa => first|exact k_call (f_toIntS _ xs hl) rfl ⟨asA_r (evO_spec rfl), trivial⟩|exact k_call (f_toIntS _ ys hl') rfl ⟨asA_r (evO_spec rfl), trivial⟩)|((first|refine aw_ways rfl ?_ ?_|refine r_split rfl rfl rfl ?_ ?_) <;> intro hg_ <;> fail_if_success (exact Bool.noConfusion hg_)) <;> (try simp only [prn] at hg_) <;> (try first|contradiction|(exfalso;omega)))
  exact ret_v (rv_cell rfl rfl (by (with_reducible first|exact ty3|exact ty4|exact ty5|exact ty9|exact ty17|exact ty19|exact ty22|exact ty24|exact ty25|exact ty26|exact ty28|exact ty36|exact ty38|exact ty40|exact ty44|exact ty46|exact ty48|exact ty55|exact ty81|exact ty84|exact ty89|exact ty95|exact ty98|exact ty105|exact ty118|exact ty122|exact ty132|exact ty134|exact ty137|exact ty143|exact ty153|exact ty155|exact ty156|exact ty161)) rfl rfl rfl (dres_agg (by (try simp only [List.set_cons_zero, List.set_cons_succ, Nat.reduceAdd, Nat.zero_add]);exact ⟨cres_new, cres_new, trivial⟩)))
set_option maxRecDepth 100000 in
set_option maxHeartbeats 2000000 in
theorem f_eqDisk (n1 n2 n3 n4 : Bool) (xs ys : List Int) (hl : xs.length ≤ 1048576) (hl' : ys.length ≤ 1048576) : Fn Try.prog 23 [diskP n1 xs n2 ys, diskP n3 xs n4 ys] (.v (.one (bool true))) := by
  refine fn_of (l := [.tmp 4]) Try.func23 (by kernel_rfl) rfl Try.ntmps23 rfl rfl ?_; simp only [argEnv, P0.d, Nat.reduceAdd, diskP, List.map_cons, List.map_nil]
  repeat' (first|(with_reducible first|refine aw_seq ?_|refine thn_normal ?_|refine thn_ret ?_|refine thn_exit ?_|refine blk_normal ?_|refine blk_ret ?_|refine blk_hit ?_|refine blk_miss rfl ?_|refine aw_block ?_|refine aw_ret ?_|refine aw_skip ?_|refine aw_exit ?_|refine w_nil ?_|refine x_nil (by kernel_rfl) ?_)|refine aw_region ?_|refine aw_region_draw (by kernel_rfl) ?_|refine aw_yes rfl ?_|refine aw_no rfl ?_|((with_reducible refine w_seq ?_);first|refine r_q tbOk rfl rfl rfl rfl ?_|refine r_e tbOk rfl rfl rfl rfl rfl ?_|refine r_yes tbOk rfl rfl rfl rfl rfl rfl ?_|refine w_no rfl rfl (lookO_spec rfl) rfl rfl rfl ?_|refine w_un rfl rfl (lookO_spec rfl) rfl rfl ?_)|((with_reducible refine w_drw ?_);first|refine rx_q tbOk rfl rfl rfl rfl ?_|refine rx_e tbOk rfl rfl rfl rfl rfl ?_|refine rx_yes tbOk rfl rfl rfl rfl rfl rfl ?_|refine x_no rfl rfl (lookO_spec rfl) rfl rfl rfl ?_|refine x_un rfl rfl (lookO_spec rfl) rfl rfl ?_)|((first|refine' w_q rfl rfl ?xa rfl ?_|refine' v_q rfl rfl ?xa rfl ?_|refine' w_yes rfl rfl (lookO_spec rfl) rfl ?xa rfl ?_|refine' v_yes rfl rfl (lookO_spec rfl) rfl ?xa rfl ?_);case xa => first|exact k_call (f_eqIntS _ _ xs hl) rfl ⟨asA_r (evO_spec rfl), asA_r (evO_spec rfl), trivial⟩|exact k_call (f_eqIntS _ _ ys hl') rfl ⟨asA_r (evO_spec rfl), asA_r (evO_spec rfl), trivial⟩)|((first|refine aw_ways rfl ?_ ?_|refine r_split rfl rfl rfl ?_ ?_) <;> intro hg_ <;> fail_if_success (exact Bool.noConfusion hg_)) <;> (try simp only [prn] at hg_) <;> (try first|contradiction|(exfalso;omega)))
  all_goals first
    | exact ret_tmp rfl (dres_bool rfl)
    | (exfalso; simp at *; done)
theorem disk_arg {c : Cx} {v : Value} {n1 n2 : Bool} {xs ys : List Int} (h : (diskP n1 xs n2 ys).p c v) : ∃ a1 c1 a2 c2, v = .agg #[.slice a1 xs.length c1, .slice a2 ys.length c2] ∧ Sl c.w a1 xs ∧ Sl c.w a2 ys := by
  obtain ⟨vs, h1, h2, h3⟩ := h
  obtain ⟨u0, e0, p0⟩ := h3 0 _ rfl
  obtain ⟨u1, e1, p1⟩ := h3 1 _ rfl
  obtain ⟨a1, c1, f1, g1, _⟩ := ints_arg p0
  obtain ⟨a2, c2, f2, g2, _⟩ := ints_arg p1
  have hv : vs = [u0, u1] := by
    match vs, h2, e0, e1 with
    | [a, b], _, e0, e1 => simp at e0 e1; rw [e0, e1]
  subst hv f1 f2
  exact ⟨a1, c1, a2, c2, h1, g1, g2⟩
theorem f_implDiskValid (n1 n2 : Bool) (xs ys : List Int) (hl : xs.length ≤ 1048576) (hl' : ys.length ≤ 1048576) : Fn Try.prog 60 [diskP n1 xs n2 ys] (.v (.one (bool (diskOk xs ys)))) := by
  refine ⟨ent_of Try.func60 (by kernel_rfl) rfl, fun w vs _ hA => ?_⟩
  match vs, hA with
  | [v], ⟨h1, _⟩ =>
    obtain ⟨a1, c1, a2, c2, rfl, g1, g2⟩ := disk_arg h1
    refine (implDiskValid a1 a2 c1 c2 xs ys w hl hl' g1 g2).mono ?_
    rintro e w' ⟨rfl, hb⟩
    exact ⟨_, rfl, bool_res _ _, hb⟩
theorem f_specDiskValid (n1 n2 : Bool) (xs ys : List Int) (hl : xs.length ≤ 1048576) (hl' : ys.length ≤ 1048576) : Fn Try.prog 54 [diskP n1 xs n2 ys] (.v (.one (bool (diskOk xs ys)))) := by
  refine ⟨ent_of Try.func54 (by kernel_rfl) rfl, fun w vs _ hA => ?_⟩
  match vs, hA with
  | [v], ⟨h1, _⟩ =>
    obtain ⟨a1, c1, a2, c2, rfl, g1, g2⟩ := disk_arg h1
    refine (specDiskValid a1 a2 c1 c2 xs ys w hl hl' g1 g2).mono ?_
    rintro e w' ⟨rfl, hb⟩
    exact ⟨_, rfl, bool_res _ _, hb⟩
end Go.Proofs.Ytmkecjamfippfaa.Abs
