/- Rows of masks by states. No statement of the seat is proved here. -/
import Derived.Lib.Hide
import Derived.Test.YtlobefglhppbdaaGreatDoorCtTy
import Derived.Test.YtlobefglhppbdaaGreatDoorCtAbsS
import Derived.Test.YtlobefglhppbdaaGreatDoorCtMasks
import Derived.Test.YtlobefglhppbdaaGreatDoorCtAGraph
import Derived.Test.YtlobefglhppbdaaGreatDoorCtGBit
set_option linter.unusedSimpArgs false
set_option linter.unusedVariables false
set_option maxRecDepth 100000
set_option maxHeartbeats 4000000
namespace Go.Proofs.YtlobefglhppbdaaGreatDoor.Abs
open Go.RowKit
open R (val row ref)
theorem k_or {P : Program} {l : List (Nat × D)} {h : List (Nat × Ob)} {o : Oper} {p q : Nat} {m m' : Bool} {t t' : TypeId} {x y : Operand} (ho : o.op = .binOp .or t x y t') (hx : evO l x = some (.one (.r m (R.val (.int .u32 (p : Int)))))) (hy : evO l y = some (.one (.r m' (R.val (.int .u32 (q : Int)))))) (hp : p < 4294967296) (hq : q < 4294967296) :
    Loc P (lookH h) (evD (look l)) o (.one (.r true (R.val (.int .u32 ((p ||| q : Nat) : Int))))) :=
  loc_run fun base a w ι own hw he hH => by
    have h1 := he x (by rw [ho]; simp [Op.operands])
    have h2 := he y (by rw [ho]; simp [Op.operands])
    rw [evO_spec hx] at h1
    rw [evO_spec hy] at h2
    have e1 : a.eval x = .int .u32 (p : Int) := ((val_p (c := Cx.young ⟨w, own⟩ base m)).1 h1).1
    have e2 : a.eval y = .int .u32 (q : Int) := ((val_p (c := Cx.young ⟨w, own⟩ base m')).1 h2).1
    refine ⟨.int .u32 ((p ||| q : Nat) : Int), ?_, rfl, rfl⟩
    unfold execOp
    rw [ho]
    simp only [e1, e2]
    rw [← u32_or_nat p q hp hq]
    simp [eqGuard, binOp, Op.intArith, Op.intCmp, go_sem]
abbrev mP (n : Nat) : P0 := .one (R.val (.int .u32 (n : Int)))
theorem f_maskOf (v : Int) (h0 : 0 ≤ v) (hv : v ≤ 31) : Fn Tryz.prog 35 [iP v] (.v (mP (2 ^ v.toNat))) := by
  refine ⟨ent_of Tryz.func35 kRf rfl, fun w us _ hA => ?_⟩
  match us, hA with
  | [v1], ⟨h1, _⟩ =>
    obtain rfl := int_arg h1
    have hk := implMaskOf v.toNat w oM
    rw [show ((v.toNat : Nat) : Int) = v by omega] at hk
    refine hk.mono ?_
    rintro e w' ⟨rfl, rfl⟩
    exact ⟨_, rfl, (val_p (c := ⟨w, fun b => b < w.heap.size⟩)).2 ⟨rfl, rfl⟩, Below.refl _ _⟩
theorem f_maskHas (M v : Nat) (hM : M < 4294967296) (hv : v ≤ 31) : Fn Tryz.prog 128 [mP M, iP v] (.v (.one (bool (M.testBit v)))) := by
  refine ⟨ent_of Tryz.func128 kRf rfl, fun w us _ hA => ?_⟩
  match us, hA with
  | [v1, v2], ⟨h1, h2, _⟩ =>
    obtain rfl := (val_p.1 h1).1
    obtain rfl := int_arg h2
    refine (implMaskHas M v w hM hv).mono ?_
    rintro e w' ⟨rfl, rfl⟩
    exact ⟨_, rfl, bool_res _ _, Below.refl _ _⟩
def addM (ms : List Nat) (a b : Nat) : List Nat := ms.set a (ms.getD a 0 ||| 2 ^ b)
def nextM (n : Nat) (es : List E3) : List Nat := es.foldl (fun ms e => addM ms e.1.toNat e.2.1.toNat) (List.replicate n 0)
def nearM (n : Nat) (es : List E3) : List Nat := es.foldl (fun ms e => addM ms e.2.1.toNat e.1.toNat) (nextM n es)
def Sm (ms : List Nat) : Prop := ∀ i, ms.getD i 0 < 4294967296
theorem addM_sm {ms : List Nat} {a b : Nat} (h : Sm ms) (hb : b ≤ 31) : Sm (addM ms a b) := fun i => by
  unfold addM
  rw [List.getD_eq_getElem?_getD, List.getElem?_set]
  split
  · split
    · exact Nat.or_lt_two_pow (n := 32) (h a) (pow_lt32 hb)
    · simp
  · have := h i; rwa [List.getD_eq_getElem?_getD] at this
theorem addM_len (ms : List Nat) (a b : Nat) : (addM ms a b).length = ms.length := by simp [addM]
theorem mP_get {ms : List Nat} {i : Nat} (h : i < ms.length) : (ms.map mP)[i]? = some (mP (ms.getD i 0)) := by
  rw [List.getElem?_map, List.getElem?_eq_getElem h, List.getD_eq_getElem?_getD, List.getElem?_eq_getElem h]; rfl
theorem k_loadM {P : Program} {tb : TB} {l : List (Nat × D)} {h : List (Nat × Ob)} {o : Oper} {T E : TypeId} {x : Operand} {k i : Nat} {new : Bool} {ms : List Nat} (hT : TbOk P tb) (ho : o.op = .load T x) (hx : evO l x = some (.one (.ptr k i 1 0))) (hk : lookHO h k = some (.sl E 1 new (ms.map mP))) (hty : tyL tb.tys T = some (false, 1)) (hi : i < ms.length) :
    Loc P (lookH h) (evD (look l)) o (.one (.r new (R.val (.int .u32 ((ms.getD i 0 : Nat) : Int))))) := k_loadS (y := mP (ms.getD i 0)) (e := mP (ms.getD i 0)) hT ho hx hk hty (mP_get hi) rfl (Nat.le_refl 1) (.inr rfl)
theorem mP_set (ms : List Nat) (i x : Nat) : (ms.map mP).set i (mP x) = (ms.set i x).map mP := by rw [List.map_set]
theorem next_ok (m : Nat) (hm : m ≤ 16) : ∀ (es : List E3), (∀ e ∈ es, (0 ≤ e.1 ∧ e.1 < (m : Int)) ∧ (0 ≤ e.2.1 ∧ e.2.1 < (m : Int))) → ∀ ms : List Nat, ms.length = m → Sm ms → (es.foldl (fun ms e => addM ms e.1.toNat e.2.1.toNat) ms).length = m ∧ Sm (es.foldl (fun ms e => addM ms e.1.toNat e.2.1.toNat) ms)
  | [], _, ms, h1, h2 => ⟨h1, h2⟩
  | e :: es, hg, ms, h1, h2 => by
    have := hg e (by simp)
    exact next_ok m hm es (fun e he => hg e (by simp [he])) (addM ms e.1.toNat e.2.1.toNat) (by rw [addM_len]; exact h1) (addM_sm h2 oM)
theorem f_nextMasks (m : Nat) (nil : Bool) (es : List E3) (hm : m ≤ 16) (hl : es.length ≤ 1048576) (hg : ∀ e ∈ es, (0 ≤ e.1 ∧ e.1 < (m : Int)) ∧ (0 ≤ e.2.1 ∧ e.2.1 < (m : Int))) : FnO Tryz.prog 34 [graphP m nil es] 44 1 ((nextM m es).map mP) := by
  have hlen := edges_len es
  have hok : ∀ xs : List E3, (∀ e ∈ xs, (0 ≤ e.1 ∧ e.1 < (m : Int)) ∧ (0 ≤ e.2.1 ∧ e.2.1 < (m : Int))) → (nextM m xs).length = m ∧ Sm (nextM m xs) := fun xs h => next_ok m hm xs h _ (by simp) (fun i => by rw [List.getD_eq_getElem?_getD, List.getElem?_replicate]; split <;> simp)
  refine fn_ofO Tryz.func34 kRf rfl Tryz.ntmps34 rfl rfl ?_
  simp only [argEnv, P0.d, Nat.reduceAdd, graphP, List.map_cons, List.map_nil]
  repeat' (first|refine wk ?_|((first|refine' w_e rfl ?xa ?xb ?xc ?xe ?_|refine' v_e rfl ?xa ?xb ?xc ?xe ?_);(case xa => exact e_make tlOk rfl rfl rfl rfl rfl rfl (c := m) rfl rfl oM (by simp only [maxLen];omega));(case xb|xc|xe=>rfl);try refine wkD ?_)|(refine wkB ?_ ?_<;>intro hg_<;>try exact wkX)|fail)
  refine aw_loopI (fun k : Nat => k ≤ es.length) (fun k => mkS 28 [(12, .one (.r true (int k))), (11, .one (.r true (int (edges es).length))), (10, .one (.r false (row nil 3 (edges es)))), (3, .one (.own 100 0 m 1)), (1, .one (.ptr 1 0 0 0))] [(100, .sl 44 1 true ((nextM m (es.take k)).map mP)), (1, .var 25 [.r false (int m), .r false (row nil 3 (edges es))])]) (fun k => es.length - k) 0 (Nat.zero_le _) (by (refine weak_ren [(100, 8)] rfl ?_ ?_ <;> repeat' (first|refine wkS ?_ ?_|exact wkE|exact ob_sl rfl (by simp [nextM])))) ?_
  intro k hk
  by_cases hlt : k < es.length
  · have hix := edges_at hlt
    obtain ⟨⟨g0, g1⟩, ⟨g2, g3⟩⟩ := hg es[k] (List.getElem_mem hlt)
    have hF : nextM m (es.take (k + 1)) = addM (nextM m (es.take k)) es[k].1.toNat es[k].2.1.toNat := by
      rw [List.take_succ_eq_append_getElem hlt]; unfold nextM; rw [List.foldl_append]; rfl
    obtain ⟨hML, hSm⟩ := hok (es.take k) (fun e he => hg e (List.mem_of_mem_take he))
    generalize es[k] = e at *
    generalize nextM m (es.take k) = MS at *
    repeat' (first|refine wk ?_|((first|refine' w_q rfl rfl ?xa rfl ?_|refine' v_q rfl rfl ?xa rfl ?_|refine' w_yes rfl rfl (lookO_spec rfl) rfl ?xa rfl ?_|refine' v_yes rfl rfl (lookO_spec rfl) rfl ?xa rfl ?_);case xa => first|exact k_index tbOk rfl rfl rfl rfl oM (by exact hix)|exact k_indexO tbOk rfl rfl rfl rfl oM oM|exact k_loadM tbOk rfl rfl rfl rfl oM|exact k_call (f_maskOf _ oM oM) rfl ⟨asA_r (evO_spec rfl), trivial⟩|exact k_or rfl rfl rfl (hSm _) (pow_lt32 oM))|((first|refine' w_e rfl ?xa ?xb ?xc ?xe ?_|refine' v_e rfl ?xa ?xb ?xc ?xe ?_);(case xa => exact e_storeS tbOk rfl rfl rfl rfl rfl rfl rfl rfl (by rw [List.length_map, hML];omega));(case xb|xc|xe=>rfl);try refine wkD ?_)|(refine wkB ?_ ?_<;>intro hg_<;>try exact wkX)|fail)
    exact ⟨k + 1, by omega, by (refine weak_ren [] rfl ?_ ?_ <;> repeat' (first|refine wkS ?_ ?_|exact wkE|exact ob_sl rfl (by rw [hF, Nat.zero_add];exact mP_set _ _ _))), by omega⟩
  · repeat' (first|refine wk ?_|(refine wkB ?_ ?_<;>intro hg_<;>try exact wkX)|fail)
    rw [List.take_of_length_le oM]
    exact ret_own rfl rfl (by rw [List.length_map]; exact (hok es hg).1.symm)
def nearT (m : Nat) (es xs : List E3) : List Nat := xs.foldl (fun ms e => addM ms e.2.1.toNat e.1.toNat) (nextM m es)
theorem near_ok (m : Nat) (hm : m ≤ 16) : ∀ (es : List E3), (∀ e ∈ es, (0 ≤ e.1 ∧ e.1 < (m : Int)) ∧ (0 ≤ e.2.1 ∧ e.2.1 < (m : Int))) → ∀ ms : List Nat, ms.length = m → Sm ms → (es.foldl (fun ms e => addM ms e.2.1.toNat e.1.toNat) ms).length = m ∧ Sm (es.foldl (fun ms e => addM ms e.2.1.toNat e.1.toNat) ms)
  | [], _, ms, h1, h2 => ⟨h1, h2⟩
  | e :: es, hg, ms, h1, h2 => by
    have := hg e (by simp)
    exact near_ok m hm es (fun e he => hg e (by simp [he])) (addM ms e.2.1.toNat e.1.toNat) (by rw [addM_len]; exact h1) (addM_sm h2 oM)
theorem f_nearMasks (m : Nat) (nil : Bool) (es : List E3) (hm : m ≤ 16) (hl : es.length ≤ 1048576) (hg : ∀ e ∈ es, (0 ≤ e.1 ∧ e.1 < (m : Int)) ∧ (0 ≤ e.2.1 ∧ e.2.1 < (m : Int))) : FnO Tryz.prog 17 [graphP m nil es] 44 1 ((nearM m es).map mP) := by
  have hlen := edges_len es
  have hnx : (nextM m es).length = m ∧ Sm (nextM m es) := next_ok m hm es hg _ (by simp) (fun i => by rw [List.getD_eq_getElem?_getD, List.getElem?_replicate]; split <;> simp)
  have hnl : ((nextM m es).map mP).length = m := by rw [List.length_map]; exact hnx.1
  have hok : ∀ xs : List E3, (∀ e ∈ xs, (0 ≤ e.1 ∧ e.1 < (m : Int)) ∧ (0 ≤ e.2.1 ∧ e.2.1 < (m : Int))) → (nearT m es xs).length = m ∧ Sm (nearT m es xs) := fun xs h => near_ok m hm xs h _ hnx.1 hnx.2
  refine fn_ofO Tryz.func17 kRf rfl Tryz.ntmps17 rfl rfl ?_
  simp only [argEnv, P0.d, Nat.reduceAdd, graphP, List.map_cons, List.map_nil]
  repeat' (first|refine wk ?_|((first|refine' w_e rfl ?xa ?xb ?xc ?xe ?_|refine' v_e rfl ?xa ?xb ?xc ?xe ?_);(case xa => exact e_callO (f_nextMasks m _ es hm hl hg) rfl rfl ⟨asA_agg (evO_spec rfl) ⟨cAr_r, cAr_r, trivial⟩, trivial⟩);(case xb|xc|xe=>rfl);try refine wkD ?_)|(refine wkB ?_ ?_<;>intro hg_<;>try exact wkX)|fail)
  refine aw_loopI (fun k : Nat => k ≤ es.length) (fun k => mkS 27 [(11, .one (.r true (int k))), (10, .one (.r true (int (edges es).length))), (9, .one (.r false (row nil 3 (edges es)))), (3, .one (.own 100 0 ((nextM m es).map mP).length 1)), (1, .one (.ptr 1 0 0 0))] [(100, .sl 44 1 true ((nearT m es (es.take k)).map mP)), (1, .var 25 [.r false (int m), .r false (row nil 3 (edges es))])]) (fun k => es.length - k) 0 (Nat.zero_le _) (by (refine weak_ren [(100, 7)] rfl ?_ ?_ <;> repeat' (first|refine wkS ?_ ?_|exact wkE|exact ob_sl rfl (by simp [nearT])))) ?_
  intro k hk
  by_cases hlt : k < es.length
  · have hix := edges_at hlt
    obtain ⟨⟨g0, g1⟩, ⟨g2, g3⟩⟩ := hg es[k] (List.getElem_mem hlt)
    have hF : nearT m es (es.take (k + 1)) = addM (nearT m es (es.take k)) es[k].2.1.toNat es[k].1.toNat := by
      rw [List.take_succ_eq_append_getElem hlt]; unfold nearT; rw [List.foldl_append]; rfl
    obtain ⟨hML, hSm⟩ := hok (es.take k) (fun e he => hg e (List.mem_of_mem_take he))
    generalize es[k] = e at *
    generalize nearT m es (es.take k) = MS at *
    repeat' (first|refine wk ?_|((first|refine' w_q rfl rfl ?xa rfl ?_|refine' v_q rfl rfl ?xa rfl ?_|refine' w_yes rfl rfl (lookO_spec rfl) rfl ?xa rfl ?_|refine' v_yes rfl rfl (lookO_spec rfl) rfl ?xa rfl ?_);case xa => first|exact k_index tbOk rfl rfl rfl rfl oM (by exact hix)|exact k_indexO tbOk rfl rfl rfl rfl oM oM|exact k_loadM tbOk rfl rfl rfl rfl oM|exact k_call (f_maskOf _ oM oM) rfl ⟨asA_r (evO_spec rfl), trivial⟩|exact k_or rfl rfl rfl (hSm _) (pow_lt32 oM))|((first|refine' w_e rfl ?xa ?xb ?xc ?xe ?_|refine' v_e rfl ?xa ?xb ?xc ?xe ?_);(case xa => exact e_storeS tbOk rfl rfl rfl rfl rfl rfl rfl rfl (by rw [List.length_map, hML];omega));(case xb|xc|xe=>rfl);try refine wkD ?_)|(refine wkB ?_ ?_<;>intro hg_<;>try exact wkX)|fail)
    exact ⟨k + 1, by omega, by (refine weak_ren [] rfl ?_ ?_ <;> repeat' (first|refine wkS ?_ ?_|exact wkE|exact ob_sl rfl (by rw [hF, Nat.zero_add];exact mP_set _ _ _))), by omega⟩
  · repeat' (first|refine wk ?_|(refine wkB ?_ ?_<;>intro hg_<;>try exact wkX)|fail)
    rw [List.take_of_length_le oM]
    exact ret_own (els := (nearM m es).map mP) rfl rfl (by rw [hnl, List.length_map]; exact (hok es hg).1.symm)
theorem tab_gen (N a b c : Nat) : ((N : Int) * (a : Int) % (b : Int) / (c : Int)).toNat = N * a % b / c := by
  rw [← Int.natCast_mul, ← Int.natCast_emod, ← Int.natCast_ediv]
  exact Int.toNat_natCast _
theorem tab_nat (N : Nat) : ((N : Int) * 125613361 % 4294967296 / 134217728).toNat = N * 125613361 % 4294967296 / 134217728 := tab_gen N 125613361 4294967296 134217728
theorem implTz (x : Nat) (w : World) (h0 : 0 < x) (hx : x < 4294967296) (hT : ∀ i : Nat, i < 32 → w.cell? ⟨0, i, none⟩ = some (.int .u8 (debTab.getD i 0))) : Calls Tryz.prog 44 #[.int .u32 x] w fun e w' => e = .returned (.int .i64 (lsb x : Int)) ∧ w = w' := by
  have hz : ((x : Int) == 0) = false := by simp; omega
  have hk := lsb_lt h0 (n := 32) hx
  have hneg : IntKind.u32.wrap (-(x : Int)) = ((4294967296 - x : Nat) : Int) := by rw [IntKind.wrap_u32]; omega
  have hand : bits .and .u32 (x : Int) ((4294967296 - x : Nat) : Int) = ((2 ^ lsb x : Nat) : Int) := by rw [u32_and_nat _ _ hx oM, lsb_neg h0 hx]
  obtain ⟨ht, hlt⟩ := tab_at (lsb x) hk
  have hn : ((2 : Int) ^ lsb x * 125613361 % 4294967296 / 134217728).toNat = 2 ^ lsb x * 125613361 % 4294967296 / 134217728 := by
    have h := tab_nat (2 ^ lsb x)
    rwa [show ((2 ^ lsb x : Nat) : Int) = (2 : Int) ^ lsb x by simp] at h
  have hc : w.cell? ⟨0, ((2 : Int) ^ lsb x * 125613361 % 4294967296 / 134217728).toNat, none⟩ = some (.int .u8 (lsb x : Int)) := by
    rw [hn, hT _ hlt]
    exact congrArg (fun z => some (Value.int .u8 z)) ht
  have hi : ((2 : Int) ^ lsb x * 125613361 % 4294967296 / 134217728) < 32 := by omega
  have hi0 : 0 ≤ ((2 : Int) ^ lsb x * 125613361 % 4294967296 / 134217728) := by omega
  clear ht hlt hn hT
  go_enter Tryz.func44, Tryz.ntmps44
  go_wp2
  go_ret
  exact ⟨rfl, rfl⟩
theorem f_tz (x : Nat) (h0 : 0 < x) (hx : x < 4294967296) : Fn Tryz.prog 44 [mP x] (.v (iP (lsb x : Int))) := by
  refine ⟨ent_of Tryz.func44 kRf rfl, fun w us hG hA => ?_⟩
  match us, hA with
  | [v1], ⟨h1, _⟩ =>
    obtain rfl := (val_p.1 h1).1
    refine (implTz x w h0 hx hG.2).mono ?_
    rintro e w' ⟨rfl, rfl⟩
    exact ⟨_, rfl, (val_p (c := ⟨w, fun b => b < w.heap.size⟩)).2 ⟨rfl, rfl⟩, Below.refl _ _⟩
theorem f_least (x : Nat) (h0 : 0 < x) (hx : x < 4294967296) : Fn Tryz.prog 36 [mP x] (.v (iP (lsb x : Int))) := by
  have K := f_tz x h0 hx
  refine fn_of (l := [.tmp 2]) Tryz.func36 kRf rfl Tryz.ntmps36 rfl rfl ?_; simp only [argEnv, P0.d, Nat.reduceAdd]
  repeat' (first|refine wk ?_|((first|refine' w_q rfl rfl ?xa rfl ?_|refine' v_q rfl rfl ?xa rfl ?_|refine' w_yes rfl rfl (lookO_spec rfl) rfl ?xa rfl ?_|refine' v_yes rfl rfl (lookO_spec rfl) rfl ?xa rfl ?_);case xa => exact k_call K rfl ⟨asA_r (evO_spec rfl), trivial⟩)|(refine wkB ?_ ?_<;>intro hg_<;>try exact wkX)|fail)
  all_goals first
    | exact ret_tmp rfl (dres_int rfl)
    | fail
theorem k_and {P : Program} {l : List (Nat × D)} {h : List (Nat × Ob)} {o : Oper} {p q : Nat} {z : Int} {m m' : Bool} {t t' : TypeId} {x y : Operand} (hz : z = (q : Int)) (ho : o.op = .binOp .and t x y t') (hx : evO l x = some (.one (.r m (R.val (.int .u32 (p : Int)))))) (hy : evO l y = some (.one (.r m' (R.val (.int .u32 z))))) (hp : p < 4294967296) (hq : q < 4294967296) :
    Loc P (lookH h) (evD (look l)) o (.one (.r true (R.val (.int .u32 ((p &&& q : Nat) : Int))))) := by
  subst hz
  exact loc_run fun base a w ι own hw he hH => by
    have h1 := he x (by rw [ho]; simp [Op.operands])
    have h2 := he y (by rw [ho]; simp [Op.operands])
    rw [evO_spec hx] at h1
    rw [evO_spec hy] at h2
    have e1 : a.eval x = .int .u32 (p : Int) := ((val_p (c := Cx.young ⟨w, own⟩ base m)).1 h1).1
    have e2 : a.eval y = .int .u32 (q : Int) := ((val_p (c := Cx.young ⟨w, own⟩ base m')).1 h2).1
    refine ⟨.int .u32 ((p &&& q : Nat) : Int), ?_, rfl, rfl⟩
    unfold execOp
    rw [ho]
    simp only [e1, e2]
    rw [← u32_and_nat p q hp hq]
    simp [eqGuard, binOp, Op.intArith, Op.intCmp, go_sem]
noncomputable def yAt (x : Nat) : Nat → Nat
  | 0 => x
  | k + 1 => drp (yAt x k)
noncomputable def bsAt (x : Nat) : Nat → List Int
  | 0 => []
  | k + 1 => bsAt x k ++ [(lsb (yAt x k) : Int)]
theorem bsAt_len (x : Nat) : ∀ k, (bsAt x k).length = k
  | 0 => rfl
  | k + 1 => by rw [bsAt, List.length_append, bsAt_len x k]; rfl
theorem yAt_lt (x : Nat) (hx : x < 4294967296) : ∀ k, yAt x k < 4294967296
  | 0 => hx
  | k + 1 => by
    have := yAt_lt x hx k
    have h2 : drp (yAt x k) ≤ yAt x k := Nat.and_le_left
    rw [yAt]; omega
theorem bsAt_split (x : Nat) : ∀ k, (∀ j, j < k → 0 < yAt x j) → bsAt x k ++ bitsR (yAt x k) = bitsR x
  | 0, _ => rfl
  | k + 1, h => by
    have := bsAt_split x k (fun j hj => h j oM)
    rw [bitsR_pos (h k oM)] at this
    rw [bsAt, yAt, List.append_assoc]; exact this
theorem f_list (x : Nat) (hx : x < 4294967296) : Fn Tryz.prog 19 [mP x] (.v (.one (row (decide (x = 0)) 1 (ints (bitsR x))))) := by
  have hY := yAt_lt x hx
  obtain ⟨F, hF0, hF1⟩ : ∃ F : Nat → St, F 0 = mkS 16 [(3, .one (.r true (row true 0 []))), (0, .one (.r false (R.val (.int .u32 (x : Int)))))] [] ∧ ∀ k : Nat, F (k + 1) = mkS 16 [(3, .one (.own 100 0 (k + 1) 1)), (0, .one (.r true (R.val (.int .u32 (yAt x (k + 1) : Int)))))] [(100, .sl 3 1 true (ints (bsAt x (k + 1))))] := ⟨fun k => Nat.rec (mkS 16 [(3, .one (.r true (row true 0 []))), (0, .one (.r false (R.val (.int .u32 (x : Int)))))] []) (fun k _ => mkS 16 [(3, .one (.own 100 0 (k + 1) 1)), (0, .one (.r true (R.val (.int .u32 (yAt x (k + 1) : Int)))))] [(100, .sl 3 1 true (ints (bsAt x (k + 1))))]) k, rfl, fun _ => rfl⟩
  refine fn_of (l := [.tmp 2]) Tryz.func19 kRf rfl Tryz.ntmps19 rfl rfl ?_; simp only [argEnv, P0.d, Nat.reduceAdd]
  repeat' (first|refine wk ?_|(refine wkB ?_ ?_<;>intro hg_<;>try exact wkX)|fail)
  refine aw_loopI (fun k : Nat => ∀ j, j < k → 0 < yAt x j) F (fun k => yAt x k) 0 (fun j hj => by omega) ?_ ?_
  · rw [hF0]
    (refine weak_ren [] rfl ?_ ?_ <;>exact wkW)
  · intro k hk
    have hyk := hY k
    cases k with
    | zero =>
      rw [hF0]
      have e0 : yAt x 0 = x := rfl
      rw [e0] at *
      by_cases h0 : 0 < x
      · have K := f_least x h0 hx
        have hsub : IntKind.u32.wrap ((x : Int) - 1) = ((x - 1 : Nat) : Int) := by rw [IntKind.wrap_u32]; omega
        repeat' (first|refine wk ?_|((first|refine' w_q rfl rfl ?xa rfl ?_|refine' v_q rfl rfl ?xa rfl ?_|refine' w_yes rfl rfl (lookO_spec rfl) rfl ?xa rfl ?_|refine' v_yes rfl rfl (lookO_spec rfl) rfl ?xa rfl ?_);case xa => first|exact k_call K rfl ⟨asA_r (evO_spec rfl), trivial⟩|exact k_and hsub rfl rfl rfl hx oM)|((first|refine' w_e rfl ?xa ?xb ?xc ?xe ?_|refine' v_e rfl ?xa ?xb ?xc ?xe ?_);(case xa => first|exact e_build [.tmp 12] tlOk rfl rfl rfl rfl rfl rfl (allN_one rfl) (by simp)|exact e_append_nil tlOk rfl rfl rfl rfl rfl (slD_own (lookHO_spec rfl) rfl) (by simp) (by simp only [maxLen, List.length_cons, List.length_nil];omega) (by simp only [List.length_cons, List.length_nil];omega));(case xb|xc|xe=>rfl);try refine wkD ?_)|(refine wkB ?_ ?_<;>intro hg_<;>try exact wkX)|fail)
        all_goals first
          | exact ⟨0 + 1, fun j hj => by (obtain rfl : j = 0 := by omega);exact h0, by rw [hF1];(refine weak_ren [(100, 14)] rfl ?_ ?_ <;>exact wkW), drp_lt h0⟩
          | (exfalso; simp at hg_; omega)
          | fail
      · have hx0 : x = 0 := by omega
        clear hk hyk hF1 hF0 hY
        subst hx0
        repeat' (first|refine wk ?_|(refine wkB ?_ ?_<;>intro hg_<;>try exact wkX)|fail)
        all_goals first
          | exact ret_tmp rfl (dres_one (by rw [bitsR_zero]; exact cres_nil))
          | (exfalso; simp at hg_; done)
          | fail
    | succ k =>
      rw [hF1]
      have hsp := bsAt_split x (k + 1) hk
      have hbl := bsAt_len x (k + 1)
      have hx0 : 0 < x := hk 0 oM
      have e1 : yAt x (k + 1 + 1) = drp (yAt x (k + 1)) := rfl
      have e2 : bsAt x (k + 1 + 1) = bsAt x (k + 1) ++ [(lsb (yAt x (k + 1)) : Int)] := rfl
      have hle : k + 1 ≤ 4294967296 := by
        have h1 := bitsR_len x
        rw [← hsp, List.length_append, hbl] at h1
        omega
      by_cases h0 : 0 < yAt x (k + 1)
      · have K := f_least _ h0 hyk
        have hsub : IntKind.u32.wrap ((yAt x (k + 1) : Int) - 1) = ((yAt x (k + 1) - 1 : Nat) : Int) := by rw [IntKind.wrap_u32]; omega
        have hfin : ∀ s' : St, Weak s' (F (k + 1 + 1)) → ∃ x', (∀ j, j < x' → 0 < yAt x j) ∧ Weak s' (F x') ∧ yAt x x' < yAt x (k + 1) := fun s' h => ⟨k + 1 + 1, fun j hj => by
          by_cases hj1 : j = k + 1
          · rw [hj1]; exact h0
          · exact hk j oM, h, drp_lt h0⟩
        rw [hF1, e1, e2] at hfin
        clear hF0 hF1 e1 e2 hsp hk hY
        generalize yAt x (k + 1) = y at *
        generalize bsAt x (k + 1) = bs at *
        have hrow : k + 1 = (ints bs).length := by rw [ints_len, hbl]
        repeat' (first|refine wk ?_|((first|refine' w_q rfl rfl ?xa rfl ?_|refine' v_q rfl rfl ?xa rfl ?_|refine' w_yes rfl rfl (lookO_spec rfl) rfl ?xa rfl ?_|refine' v_yes rfl rfl (lookO_spec rfl) rfl ?xa rfl ?_);case xa => first|exact k_call K rfl ⟨asA_r (evO_spec rfl), trivial⟩|exact k_and hsub rfl rfl rfl hyk oM)|((first|refine' w_e rfl ?xa ?xb ?xc ?xe ?_|refine' v_e rfl ?xa ?xb ?xc ?xe ?_);(case xa => first|exact e_build [.tmp 12] tlOk rfl rfl rfl rfl rfl rfl (allN_one rfl) (by simp)|exact e_append tlOk rfl rfl rfl rfl rfl rfl (slD_own (lookHO_spec rfl) rfl) hrow (by simp only [maxLen, List.length_cons, List.length_nil];omega) (by simp only [List.length_cons, List.length_nil];omega));(case xb|xc|xe=>rfl);try refine wkD ?_)|(refine wkB ?_ ?_<;>intro hg_<;>try exact wkX)|fail)
        all_goals first
          | (refine hfin _ ?_
             (refine weak_ren [(100, 14)] rfl ?_ ?_ <;> repeat' (first|refine wkS ?_ ?_|exact wkE|exact d_own (by rw [← hrow];rfl)|exact ob_sl rfl (ints_app _ _).symm));done)
          | (exfalso; simp at hg_; omega)
          | fail
      · have hy0 : yAt x (k + 1) = 0 := by omega
        rw [hy0, bitsR_zero, List.append_nil] at hsp
        rw [hy0, hsp]
        have hd : decide (x = 0) = false := decide_eq_false oM
        rw [hd]
        have hrow : k + 1 = (ints (bitsR x)).length := by rw [ints_len, ← hsp, hbl]
        clear hF0 hF1 e1 e2 hk hY hbl hy0 h0 hyk
        repeat' (first|refine wk ?_|(refine wkB ?_ ?_<;>intro hg_<;>try exact wkX)|fail)
        all_goals first
          | exact ret_tmp rfl (dres_one (cres_own0 (lookHO_spec rfl) hrow))
          | (exfalso; simp at hg_; done)
          | fail
end Go.Proofs.YtlobefglhppbdaaGreatDoor.Abs
