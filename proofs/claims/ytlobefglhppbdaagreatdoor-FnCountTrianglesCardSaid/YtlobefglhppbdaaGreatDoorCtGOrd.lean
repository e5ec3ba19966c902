/- Neighbours by the reference, by states. No statement of the seat is proved here. -/
import Derived.Lib.Hide
import Derived.Test.YtlobefglhppbdaaGreatDoorCtTy
import Derived.Test.YtlobefglhppbdaaGreatDoorCtAGraph
import Derived.Test.YtlobefglhppbdaaGreatDoorCtGCod
import Derived.Test.YtlobefglhppbdaaGreatDoorCtGStaCk
import Derived.Test.YtlobefglhppbdaaGreatDoorCtGAdj
import Derived.Test.YtlobefglhppbdaaGreatDoorCtAWgt
set_option linter.unusedSimpArgs false
set_option linter.unusedVariables false
set_option maxRecDepth 100000
set_option maxHeartbeats 4000000
namespace Go.Proofs.YtlobefglhppbdaaGreatDoor.Abs
open Go.RowKit
open R (val row ref)
theorem f_l7Has (nil : Bool) (xs : List Int) (x : Int) (hl : xs.length ≤ 1048576) : Fn Tryz.prog 22 [.one (row nil 1 (ints xs)), iP x] (.v (.one (bool (xs.any (fun z => decide (z = x)))))) := by
  have hlen2 := ints_len xs
  refine fn_of (l := [.tmp 4]) Tryz.func22 kRf rfl Tryz.ntmps22 rfl rfl ?_; simp only [argEnv, P0.d, Nat.reduceAdd]
  repeat' (first|refine wk ?_|(refine wkB ?_ ?_<;>intro hg_<;>try exact wkX)|fail)
  refine aw_loopI (fun k : Nat => k ≤ xs.length ∧ xs.any (fun z => decide (z = x)) = (xs.drop k).any (fun z => decide (z = x))) (fun k => mkS 18 [(5, .one (.r true (int k))), (0, .one (.r false (row nil 1 (ints xs)))), (1, .one (.r false (int x)))] []) (fun k => xs.length - k) 0 ⟨Nat.zero_le _, by simp⟩ (by (refine weak_ren [] rfl ?_ ?_ <;>exact wkW)) ?_
  rintro k ⟨hk, HP⟩
  by_cases hlt : k < xs.length
  · have hix := ints_at (xs := xs) hlt
    have hx : (xs.drop k).any (fun z => decide (z = x)) = (decide (xs[k] = x) || (xs.drop (k + 1)).any (fun z => decide (z = x))) := by rw [List.drop_eq_getElem_cons hlt, List.any_cons]
    rw [hx] at HP
    clear hx
    generalize xs[k] = y at *
    repeat' (first|refine wk ?_|((first|refine' w_q rfl rfl ?xa rfl ?_|refine' v_q rfl rfl ?xa rfl ?_|refine' w_yes rfl rfl (lookO_spec rfl) rfl ?xa rfl ?_|refine' v_yes rfl rfl (lookO_spec rfl) rfl ?xa rfl ?_);case xa => exact k_index tbOk rfl rfl rfl rfl oM (by exact hix))|(refine wkB ?_ ?_<;>intro hg_<;>try exact wkX)|fail)
    all_goals first
      | exact ret_tmp rfl (dres_bool (by rw [HP]; simp_all))
      | exact ⟨k + 1, ⟨by omega, by rw [HP];simp_all⟩, by (refine weak_ren [] rfl ?_ ?_ <;>exact wkW), by omega⟩
      | fail
  · repeat' (first|refine wk ?_|(refine wkB ?_ ?_<;>intro hg_<;>try exact wkX)|fail)
    all_goals exact ret_tmp rfl (dres_bool (by rw [HP, List.drop_of_length_le oM]; rfl))
def nearL (m : Int) (es : List E3) (a : Int) : List Int := if gOk m es then ((List.range m.toNat).map (fun i : Nat => (i : Int))).filter (adj es a) else []
theorem f_specNearOf (m : Int) (nil : Bool) (es : List E3) (a : Int) (hl : es.length ≤ maxLen) (hg : gOk m es = true) : Fn Tryz.prog 21 [graphP m nil es, iP a] (.v (.one (row false 1 (ints (nearL m es a))))) := by
  have hlen := edges_len es
  have hm := gOk_mC hg
  refine fn_of (l := [.tmp 4]) Tryz.func21 kRf rfl Tryz.ntmps21 rfl rfl ?_; simp only [argEnv, P0.d, Nat.reduceAdd, graphP, List.map_cons, List.map_nil]
  repeat' (first|refine wk ?_|((first|refine' w_e rfl ?xa ?xb ?xc ?xe ?_|refine' v_e rfl ?xa ?xb ?xc ?xe ?_);(case xa => exact e_build [] tlOk rfl rfl rfl rfl rfl rfl (by simp [AllN]) (by simp));(case xb|xc|xe=>rfl);try refine wkD ?_)|(refine wkB ?_ ?_<;>intro hg_<;>try exact wkX)|fail)
  have hN : ∀ k : Nat, ((List.range (k + 1)).map (fun i : Nat => (i : Int))).filter (adj es a) = ((List.range k).map (fun i : Nat => (i : Int))).filter (adj es a) ++ (if adj es a k then [(k : Int)] else []) := fun k => by
    rw [List.range_succ, List.map_append, List.filter_append]
    simp only [List.map_cons, List.map_nil, List.filter_cons, List.filter_nil]
  have hNl : ∀ k : Nat, (((List.range k).map (fun i : Nat => (i : Int))).filter (adj es a)).length ≤ k := fun k => by
    refine Nat.le_trans (List.length_filter_le _ _) ?_
    simp
  refine aw_loopI (fun k : Nat => (k : Int) ≤ m) (fun k => mkS 64 [(6, .one (.r true (int k))), (5, .one (.own 100 0 (ints (((List.range k).map (fun i : Nat => (i : Int))).filter (adj es a))).length 1)), (2, .one (.ptr 2 0 0 0)), (1, .one (.r false (int a)))] [(100, .sl 3 1 true (ints (((List.range k).map (fun i : Nat => (i : Int))).filter (adj es a)))), (2, .var 25 [.r false (int m), .r false (row nil 3 (edges es))])]) (fun k => m.toNat - k) 0 (by show ((0 : Nat) : Int) ≤ m;omega) (by (refine weak_ren [(100, 10)] rfl ?_ ?_ <;> repeat' (first|refine wkS ?_ ?_|exact wkE|exact ob_sl rfl rfl))) ?_
  intro k hk
  by_cases hlt : (k : Int) < m
  · have hNk := hN k
    have hNl' := hNl k
    clear hN hNl
    repeat' (first|refine wk ?_|((first|refine' w_q rfl rfl ?xa rfl ?_|refine' v_q rfl rfl ?xa rfl ?_|refine' w_yes rfl rfl (lookO_spec rfl) rfl ?xa rfl ?_|refine' v_yes rfl rfl (lookO_spec rfl) rfl ?xa rfl ?_);case xa => exact k_call (f_specGraphValid _ _ es hl) rfl ⟨asA_agg (evO_spec rfl) ⟨cAr_r, cAr_r, trivial⟩, trivial⟩)|(refine wkB ?_ ?_<;>intro hg_<;>try exact wkX)|fail)
    · clear hg_
      generalize ((List.range k).map (fun i : Nat => (i : Int))).filter (adj es a) = NL at *
      have hNL : (ints NL).length ≤ 16 := by rw [ints_len]; omega
      refine aw_loopI (fun j : Nat => j ≤ es.length) (fun j => mkS 64 [(8, .one (.r true (int j))), (7, .one (.r true (bool ((es.take j).any (adjE a k))))), (6, .one (.r true (int k))), (5, .one (.own 100 0 (ints NL).length 1)), (2, .one (.ptr 2 0 0 0)), (1, .one (.r false (int a)))] [(100, .sl 3 1 true (ints NL)), (2, .var 25 [.r false (int m), .r false (row nil 3 (edges es))])]) (fun j => es.length - j) 0 (Nat.zero_le _) (by (refine weak_ren [] rfl ?_ ?_ <;>exact wkW)) ?_
      intro j hj
      by_cases hlj : j < es.length
      · have hix := edges_at hlj
        have hT : (es.take (j + 1)).any (adjE a k) = ((es.take j).any (adjE a k) || adjE a k es[j]) := by
          rw [List.take_succ_eq_append_getElem hlj, List.any_append]; simp
        generalize es[j] = e at *
        generalize (es.take j).any (adjE a k) = B at *
        repeat' (first|refine wk ?_|((first|refine' w_q rfl rfl ?xa rfl ?_|refine' v_q rfl rfl ?xa rfl ?_|refine' w_yes rfl rfl (lookO_spec rfl) rfl ?xa rfl ?_|refine' v_yes rfl rfl (lookO_spec rfl) rfl ?xa rfl ?_);case xa => exact k_index tbOk rfl rfl rfl rfl oM (by exact hix))|(refine wkB ?_ ?_<;>intro hg_<;>try exact wkX)|fail)
        all_goals exact ⟨j + 1, by omega, by (refine weak_ren [] rfl ?_ ?_ <;> repeat' (first|refine wkS ?_ ?_|exact wkE|exact d_bool (by rw [hT];unfold adjE;simp_all <;> (rw [Bool.eq_iff_iff];simp)))), by omega⟩
      · have hB : (es.take j).any (adjE a k) = adj es a k := by rw [List.take_of_length_le oM]; rfl
        rw [hB]
        generalize adj es a k = B at *
        repeat' (first|refine wk ?_|((first|refine' w_e rfl ?xa ?xb ?xc ?xe ?_|refine' v_e rfl ?xa ?xb ?xc ?xe ?_);(case xa => first|exact e_build [.tmp 60] tlOk rfl rfl rfl rfl rfl rfl (allN_one rfl) (by simp)|exact e_append tlOk rfl rfl rfl rfl rfl rfl (slD_own (lookHO_spec rfl) rfl) rfl (by simp only [maxLen, List.length_cons, List.length_nil];omega) (by simp only [List.length_cons, List.length_nil];omega));(case xb|xc|xe=>rfl);try refine wkD ?_)|(refine wkB ?_ ?_<;>intro hg_<;>try exact wkX)|fail)
        · subst hg_
          refine ⟨k + 1, by omega, ?_, by omega⟩
          simp only [hNk, if_true, ints_app, List.length_append]
          (refine weak_ren [(100, 62)] rfl ?_ ?_ <;>exact wkW)
        · subst hg_
          refine ⟨k + 1, by omega, ?_, by omega⟩
          simp only [hNk, Bool.false_eq_true, if_false, List.append_nil]
          (refine weak_ren [] rfl ?_ ?_ <;>exact wkW)
    · exfalso; simp_all
  · repeat' (first|refine wk ?_|((first|refine' w_q rfl rfl ?xa rfl ?_|refine' v_q rfl rfl ?xa rfl ?_|refine' w_yes rfl rfl (lookO_spec rfl) rfl ?xa rfl ?_|refine' v_yes rfl rfl (lookO_spec rfl) rfl ?xa rfl ?_);case xa => exact k_call (f_specGraphValid _ _ es hl) rfl ⟨asA_agg (evO_spec rfl) ⟨cAr_r, cAr_r, trivial⟩, trivial⟩)|(refine wkB ?_ ?_<;>intro hg_<;>try exact wkX)|fail)
    have e : nearL m es a = ((List.range k).map (fun i : Nat => (i : Int))).filter (adj es a) := by unfold nearL; rw [hg, if_pos rfl, show m.toNat = k by omega]
    rw [e]
    exact ret_tmp rfl (dres_one (cres_own0 (lookHO_spec rfl) rfl))
end Go.Proofs.YtlobefglhppbdaaGreatDoor.Abs
set_option linter.unusedSimpArgs false
set_option linter.unusedVariables false
namespace Go.Proofs.YtlobefglhppbdaaGreatDoor.Abs
open Go.RowKit
open R (val row ref)
def valsT (v : Int) (ms : List E3) : List Int := (ms.filter fun m => decide (m.1 = v)).map fun m => m.2.1
theorem valsT_len (v : Int) (ms : List E3) : (valsT v ms).length ≤ ms.length := by unfold valsT; rw [List.length_map]; exact List.length_filter_le _ _
theorem valsT_snoc (v : Int) (ms : List E3) {k : Nat} (h : k < ms.length) : valsT v (ms.take (k + 1)) = valsT v (ms.take k) ++ (if ms[k].1 = v then [ms[k].2.1] else []) := by
  unfold valsT
  rw [List.take_succ_eq_append_getElem h, List.filter_append, List.map_append]
  congr 1
  by_cases hv : ms[k].1 = v <;> simp [hv]
theorem valsT_mem {v z : Int} {ms : List E3} (h : z ∈ valsT v ms) : ∃ m ∈ ms, m.1 = v ∧ m.2.1 = z := by
  unfold valsT at h
  obtain ⟨m, hm, rfl⟩ := List.mem_map.1 h
  obtain ⟨h1, h2⟩ := List.mem_filter.1 hm
  exact ⟨m, h1, of_decide_eq_true h2, rfl⟩
def posF (x : E3) (out : List E3) : Nat → Nat
  | 0 => 0
  | n + 1 => if bef x (out.getD n (0, 0, 0)) then posF x out n else n + 1
def posR (x : E3) (out : List E3) : Nat := posF x out out.length
def insR (x : E3) (out : List E3) : List E3 := out.take (posR x out) ++ x :: out.drop (posR x out)
def sortF (ms : List E3) (k : Nat) : List E3 := (ms.take k).foldl (fun out x => insR x out) []
def sortM (ms : List E3) : List E3 := ms.foldl (fun out x => insR x out) []
def sortL (ms : List E3) : List E3 := if ms.length ≤ 2000 then sortM ms else []
theorem posF_le (x : E3) (out : List E3) : ∀ n, posF x out n ≤ n
  | 0 => Nat.le_refl _
  | n + 1 => by unfold posF; split; exact Nat.le_succ_of_le (posF_le x out n); exact Nat.le_refl _
theorem insR_len (x : E3) (out : List E3) : (insR x out).length = out.length + 1 := by
  have := posF_le x out out.length
  unfold insR posR
  rw [List.length_append, List.length_cons, List.length_take, List.length_drop]; omega
theorem insR_perm (x : E3) (out : List E3) : (insR x out).Perm (x :: out) := by
  unfold insR
  refine List.perm_middle.trans ?_
  rw [List.take_append_drop]
theorem sortF_succ {ms : List E3} {k : Nat} (h : k < ms.length) : sortF ms (k + 1) = insR ms[k] (sortF ms k) := by
  unfold sortF
  rw [List.take_succ_eq_append_getElem h, List.foldl_append]; rfl
theorem sortF_len (ms : List E3) : ∀ k, k ≤ ms.length → (sortF ms k).length = k
  | 0, _ => by simp [sortF]
  | k + 1, h => by rw [sortF_succ oM, insR_len, sortF_len ms k oM]
theorem sortF_end (ms : List E3) : sortF ms ms.length = sortM ms := by unfold sortF sortM; rw [List.take_of_length_le (Nat.le_refl _)]
theorem sortM_len (ms : List E3) : (sortM ms).length = ms.length := by rw [← sortF_end, sortF_len ms _ (Nat.le_refl _)]
theorem sortL_len (ms : List E3) : (sortL ms).length ≤ ms.length ∧ (sortL ms).length ≤ 2000 := by
  unfold sortL
  split
  · rw [sortM_len]; omega
  · simp
theorem sortF_perm (ms : List E3) : ∀ k, k ≤ ms.length → (sortF ms k).Perm (ms.take k)
  | 0, _ => by simp [sortF]
  | k + 1, h => by
    rw [sortF_succ oM, List.take_succ_eq_append_getElem (by omega : k < ms.length)]
    exact (insR_perm _ _).trans (((sortF_perm ms k oM).cons _).trans (List.perm_append_comm (l₁ := [_])))
theorem sortM_perm (ms : List E3) : (sortM ms).Perm ms := by
  have := sortF_perm ms ms.length (Nat.le_refl _)
  rwa [sortF_end, List.take_of_length_le (Nat.le_refl _)] at this
theorem sortL_mem {m : E3} {ms : List E3} (h : m ∈ sortL ms) : m ∈ ms := by
  unfold sortL at h
  split at h
  · exact (sortM_perm ms).mem_iff.1 h
  · cases h
def leastI : List Int → Int
  | [] => 0
  | x :: xs => xs.foldl min x
def sendTo (ws : List Int) (value frm : Int) : List E3 := ws.map fun w => (w, value, frm)
theorem sendTo_len (ws : List Int) (value frm : Int) : (sendTo ws value frm).length = ws.length := List.length_map ..
def grL (m : Int) (es : List E3) (v : Int) : List Int := (nearL m es v).filter fun w => decide (v < w)
def nextL (es : List E3) (v : Int) : List Int := (es.filter fun e => decide (e.1 = v)).map fun e => e.2.1
def cntI (l : List Int) (x : Int) : Nat := l.countP fun y => decide (y = x)
def mfStep (l : List Int) (s : Int × Int) (x : Int) : Int × Int := if s.2 < cntI l x ∨ ((cntI l x : Int) = s.2 ∧ x < s.1) then (x, (cntI l x : Int)) else s
def mostF (l : List Int) : Int := (l.foldl (mfStep l) (0, 0)).1
def cntGe (l : List Int) (n : Int) : Nat := l.countP fun x => decide (n ≤ x)
def hGo (l : List Int) : Nat → Nat → Nat
  | 0, n => n
  | f + 1, n => if cntGe l (n + 1) < n + 1 then n else hGo l f (n + 1)
def hIdx (l : List Int) : Nat := hGo l l.length 0
def wayCh (s rd v value : Int) (l : List Int) : Int × Bool :=
  let v1 := if rd = 0 then (if v = s then 0 else -1) else value
  if 0 < rd ∧ l ≠ [] ∧ (v1 < 0 ∨ leastI l < v1) then (leastI l, true) else (v1, decide (rd = 0 ∧ v = s))
def wayMs (es : List E3) (k v value : Int) : List E3 := (nextL es v).map fun w => (w, value + (if k = 2 then wE es v w else 1), v)
def stepV (m : Int) (es : List E3) (k s r rd v value : Int) (l : List Int) : Int × List E3 × Bool :=
  if k = 1 ∨ k = 2 then ((wayCh s rd v value l).1, if (wayCh s rd v value l).2 then wayMs es k v (wayCh s rd v value l).1 else [], false)
  else if k = 3 then
    if rd = 0 then (v, sendTo (nearL m es v) v v, false)
    else if l ≠ [] ∧ leastI l < value then (leastI l, sendTo (nearL m es v) (leastI l) v, false) else (value, [], false)
  else if k = 4 then
    let x := if rd = 0 then v else if l ≠ [] then mostF l else value
    (x, if rd < r then sendTo (nearL m es v) x v else [], decide (rd < r))
  else if k = 6 then
    let x := if rd = 0 then ((nearL m es v).length : Int) else min value (hIdx l)
    (x, if rd < r then sendTo (nearL m es v) x v else [], decide (rd < r))
  else if rd = 0 then (0, sendTo (grL m es v) v v, false)
  else if rd = 1 then (0, l.flatMap fun x => sendTo (grL m es v) x v, false)
  else (((l.countP fun x => (nearL m es v).any fun z => decide (z = x)) : Nat), [], false)
theorem nearL_len (m : Int) (es : List E3) (v : Int) : (nearL m es v).length ≤ 16 := by
  unfold nearL
  split
  · rename_i hg
    have := gOk_mC hg
    refine Nat.le_trans (List.length_filter_le _ _) ?_
    rw [List.length_map, List.length_range]; omega
  · simp
theorem grL_len (m : Int) (es : List E3) (v : Int) : (grL m es v).length ≤ 16 := Nat.le_trans (List.length_filter_le _ _) (nearL_len m es v)
theorem nextL_len (es : List E3) (v : Int) : (nextL es v).length ≤ es.length := by unfold nextL; rw [List.length_map]; exact List.length_filter_le _ _
theorem flatS_len (ws : List Int) (frm : Int) : ∀ l : List Int, (l.flatMap fun x => sendTo ws x frm).length = l.length * ws.length
  | [] => by simp
  | x :: l => by rw [List.flatMap_cons, List.length_append, flatS_len ws frm l, sendTo_len, List.length_cons, Nat.add_mul, Nat.one_mul, Nat.add_comm]
theorem stepV_len (m : Int) (es : List E3) (k s r rd v value : Int) (l : List Int) : (stepV m es k s r rd v value l).2.1.length ≤ es.length + 16 + l.length * 16 := by
  have h1 := nearL_len m es v
  have h2 := grL_len m es v
  have h3 := nextL_len es v
  have h4 : l.length * (grL m es v).length ≤ l.length * 16 := Nat.mul_le_mul (Nat.le_refl _) h2
  unfold stepV
  split
  · dsimp only; split
    · unfold wayMs; rw [List.length_map]; omega
    · simp
  · split
    · split
      · rw [sendTo_len]; omega
      · split
        · rw [sendTo_len]; omega
        · simp
    · split
      · dsimp only; split
        · rw [sendTo_len]; omega
        · simp
      · split
        · dsimp only; split
          · rw [sendTo_len]; omega
          · simp
        · split
          · rw [sendTo_len]; omega
          · split
            · dsimp only; rw [flatS_len]; omega
            · simp
structure Acc where
  vs : List Int
  gs : List Bool
  out : List E3
def someSt (m : Int) (es : List E3) (k s r : Int) (st : Sta) (A : Acc) (v : Int) : Acc :=
  if st.gs.getD v.toNat false = false ∧ valsT v st.ms = [] then A
  else let d := stepV m es k s r st.r v (dV st.vs v) (valsT v st.ms); ⟨A.vs.set v.toNat d.1, A.gs.set v.toNat d.2.2, A.out ++ d.2.1⟩
def someF (m : Int) (es : List E3) (k s r : Int) (st : Sta) (ws : List Int) : Acc := ws.foldl (someSt m es k s r st) ⟨st.vs, st.gs, []⟩
def allV (m : Int) : List Int := (List.range m.toNat).map fun i : Nat => (i : Int)
theorem allV_len (m : Int) : (allV m).length = m.toNat := by unfold allV; rw [List.length_map, List.length_range]
theorem someSt_out (m : Int) (es : List E3) (k s r : Int) (st : Sta) (A : Acc) (v : Int) :
    (someSt m es k s r st A v).out.length ≤ A.out.length + (es.length + 16 + st.ms.length * 16) ∧ (someSt m es k s r st A v).vs.length = A.vs.length ∧ (someSt m es k s r st A v).gs.length = A.gs.length := by
  unfold someSt
  split
  · exact ⟨by omega, rfl, rfl⟩
  · have h1 := stepV_len m es k s r st.r v (dV st.vs v) (valsT v st.ms)
    have h2 := Nat.mul_le_mul_right 16 (valsT_len v st.ms)
    refine ⟨?_, by simp, by simp⟩
    dsimp only
    rw [List.length_append]; omega
theorem someF_snoc {m : Int} {es : List E3} {k s r : Int} {st : Sta} {ws : List Int} {j : Nat} (h : j < ws.length) : someF m es k s r st (ws.take (j + 1)) = someSt m es k s r st (someF m es k s r st (ws.take j)) ws[j] := by
  unfold someF
  rw [List.take_succ_eq_append_getElem h, List.foldl_append]; rfl
def nextS (m : Int) (es : List E3) (k s r : Int) (st : Sta) : Sta :=
  let A := someF m es k s r st (allV m); ⟨st.r + 1, A.vs, A.gs, sortL A.out⟩
def stepS (m : Int) (es : List E3) (k s r : Int) (st : Sta) : Option Sta :=
  if gOk m es = true ∧ progOk k s r = true ∧ stOk m st.r st.vs st.gs.length st.ms = true then
    if (someF m es k s r st (allV m)).out.length ≤ 2000 ∧ stOk m (nextS m es k s r st).r (nextS m es k s r st).vs (nextS m es k s r st).gs.length (nextS m es k s r st).ms = true then some (nextS m es k s r st) else none
  else none
theorem stepS_ok {m : Int} {es : List E3} {k s r : Int} {st st' : Sta} (h : stepS m es k s r st = some st') : stOk m st'.r st'.vs st'.gs.length st'.ms = true := by
  unfold stepS at h
  split at h
  · split at h
    · rename_i h2; injection h with h; rw [← h]; exact h2.2
    · cases h
  · cases h
theorem stepS_r {m : Int} {es : List E3} {k s r : Int} {st st' : Sta} (h : stepS m es k s r st = some st') : st'.r = st.r + 1 := by
  unfold stepS at h
  split at h
  · split at h
    · injection h with h; rw [← h]; rfl
    · cases h
  · cases h
end Go.Proofs.YtlobefglhppbdaaGreatDoor.Abs
set_option linter.unusedSimpArgs false
set_option linter.unusedVariables false
namespace Go.Proofs.YtlobefglhppbdaaGreatDoor.Abs
open Go.RowKit
open R (val row ref)
def nbf (x y : E3) : Prop := bef y x = false
theorem bef_iff (a b : E3) : bef a b = true ↔ (a.1 < b.1 ∨ (a.1 = b.1 ∧ (a.2.1 < b.2.1 ∨ (a.2.1 = b.2.1 ∧ a.2.2 < b.2.2)))) := by
  unfold bef
  by_cases h1 : a.1 = b.1 <;> by_cases h2 : a.2.1 = b.2.1 <;> simp [h1, h2]
theorem nbf_iff (a b : E3) : nbf a b ↔ ¬ (b.1 < a.1 ∨ (b.1 = a.1 ∧ (b.2.1 < a.2.1 ∨ (b.2.1 = a.2.1 ∧ b.2.2 < a.2.2)))) := by
  unfold nbf; rw [← bef_iff, Bool.not_eq_true]
theorem nbf_trans {a b c : E3} (h1 : nbf a b) (h2 : nbf b c) : nbf a c := by rw [nbf_iff] at *; omega
theorem nbf_total (a b : E3) : nbf a b ∨ nbf b a := by rw [nbf_iff, nbf_iff]; omega
theorem nbf_anti {a b : E3} (h1 : nbf a b) (h2 : nbf b a) : a = b := by
  rw [nbf_iff] at *
  obtain ⟨a1, a2, a3⟩ := a
  obtain ⟨b1, b2, b3⟩ := b
  dsimp only at *
  have e1 : a1 = b1 := by omega
  have e2 : a2 = b2 := by omega
  have e3 : a3 = b3 := by omega
  rw [e1, e2, e3]
theorem ord_uniq {xs ys : List E3} (hx : xs.Pairwise nbf) (hy : ys.Pairwise nbf) (hp : xs.Perm ys) : xs = ys :=
  hp.eq_of_pairwise (fun _ _ _ _ h1 h2 => nbf_anti h1 h2) hx hy
theorem bef_nbf {a b : E3} (h : bef a b = true) : nbf a b := by rw [nbf_iff]; rw [bef_iff] at h; omega
theorem posF_spec (x : E3) (out : List E3) (hs : out.Pairwise nbf) : ∀ n, n ≤ out.length → (∀ i, posF x out n ≤ i → i < n → bef x (out.getD i (0, 0, 0)) = true) ∧ (∀ i, i < posF x out n → nbf (out.getD i (0, 0, 0)) x)
  | 0, _ => ⟨fun i _ h => absurd h (Nat.not_lt_zero _), fun i h => absurd h (Nat.not_lt_zero _)⟩
  | n + 1, hn => by
    obtain ⟨i1, i2⟩ := posF_spec x out hs n oM
    unfold posF
    split
    · rename_i hb
      exact ⟨fun i h1 h2 => by
        by_cases e : i = n
        · rw [e]; exact hb
        · exact i1 i h1 oM, i2⟩
    · rename_i hb
      rw [Bool.not_eq_true] at hb
      refine ⟨fun i h1 h2 => by omega, fun i h => ?_⟩
      by_cases e : i = n
      · rw [e]; exact hb
      · have hlt : i < n := by omega
        have := List.pairwise_iff_getElem.1 hs i n oM oM hlt
        refine nbf_trans ?_ (show nbf (out.getD n (0, 0, 0)) x from hb)
        rw [List.getD_eq_getElem?_getD, List.getD_eq_getElem?_getD, List.getElem?_eq_getElem oM, List.getElem?_eq_getElem oM]
        exact this
theorem insR_ord {x : E3} {out : List E3} (hs : out.Pairwise nbf) : (insR x out).Pairwise nbf := by
  obtain ⟨h1, h2⟩ := posF_spec x out hs out.length (Nat.le_refl _)
  have hp := posF_le x out out.length
  unfold insR posR
  generalize posF x out out.length = p at *
  rw [List.pairwise_append, List.pairwise_cons]
  have ht : ∀ a ∈ out.take p, nbf a x := fun a ha => by
    obtain ⟨i, hi, rfl⟩ := List.getElem_of_mem ha
    rw [List.length_take] at hi
    have := h2 i oM
    rw [List.getD_eq_getElem?_getD, List.getElem?_eq_getElem oM] at this
    rw [List.getElem_take]; exact this
  have hd : ∀ a ∈ out.drop p, nbf x a := fun a ha => by
    obtain ⟨i, hi, rfl⟩ := List.getElem_of_mem ha
    rw [List.length_drop] at hi
    have := h1 (p + i) oM oM
    rw [List.getD_eq_getElem?_getD, List.getElem?_eq_getElem oM] at this
    rw [List.getElem_drop]; exact bef_nbf this
  refine ⟨hs.sublist (List.take_sublist _ _), ⟨hd, hs.sublist (List.drop_sublist _ _)⟩, fun a ha b hb => ?_⟩
  rcases List.mem_cons.1 hb with rfl | hb
  · exact ht a ha
  · exact nbf_trans (ht a ha) (hd b hb)
theorem sortF_ord (ms : List E3) : ∀ k, k ≤ ms.length → (sortF ms k).Pairwise nbf
  | 0, _ => by simp [sortF]
  | k + 1, h => by rw [sortF_succ oM]; exact insR_ord (sortF_ord ms k oM)
theorem sortM_ord (ms : List E3) : (sortM ms).Pairwise nbf := by rw [← sortF_end]; exact sortF_ord ms _ (Nat.le_refl _)
theorem sortM_of {ms xs : List E3} (h : xs.Pairwise nbf) (hp : xs.Perm ms) : xs = sortM ms := ord_uniq h (sortM_ord ms) (hp.trans (sortM_perm ms).symm)
def bktM (t : Int) (ms : List E3) : List E3 := ms.filter fun m => decide (m.1 = t)
theorem bkt_count (x : E3) (t : Int) (ms : List E3) : (bktM t ms).count x = if x.1 = t then ms.count x else 0 := by
  unfold bktM
  by_cases h : x.1 = t
  · rw [if_pos h, List.count_filter (by simp [h])]
  · rw [if_neg h]
    refine List.count_eq_zero.2 fun hm => h ?_
    exact of_decide_eq_true (List.mem_filter.1 hm).2
theorem flat_count (x : E3) (f : Int → List E3) (ms : List E3) (hf : ∀ t, (f t).count x = if x.1 = t then ms.count x else 0) : ∀ T : List Int, T.Nodup → (T.flatMap f).count x = if x.1 ∈ T then ms.count x else 0
  | [], _ => by simp
  | t :: T, hT => by
    rw [List.nodup_cons] at hT
    rw [List.flatMap_cons, List.count_append, flat_count x f ms hf T hT.2, hf t]
    by_cases h : x.1 = t
    · rw [if_pos h, if_neg (by rw [h]; exact hT.1), if_pos (by rw [h]; simp)]
      omega
    · rw [if_neg h, Nat.zero_add]
      simp [h]
theorem flatMap_ext {f g : Int → List E3} : ∀ T : List Int, (∀ t ∈ T, f t = g t) → T.flatMap f = T.flatMap g
  | [], _ => rfl
  | t :: T, h => by rw [List.flatMap_cons, List.flatMap_cons, h t (by simp), flatMap_ext T fun u hu => h u (by simp [hu])]
theorem sortM_buckets {ms : List E3} {T : List Int} {f : Int → List E3} (hT : T.Pairwise (· < ·)) (hin : ∀ m ∈ ms, m.1 ∈ T) (hf : ∀ t ∈ T, (f t).Perm (bktM t ms) ∧ (f t).Pairwise nbf) : T.flatMap f = sortM ms := by
  have hnd : T.Nodup := hT.imp (fun h => by omega)
  let g : Int → List E3 := fun t => if t ∈ T then f t else bktM t ms
  have hg : T.flatMap f = T.flatMap g := by
    refine flatMap_ext T fun t ht => ?_
    show f t = if t ∈ T then f t else _
    rw [if_pos ht]
  rw [hg]
  have hgp : ∀ t, (g t).Perm (bktM t ms) := fun t => by
    show (if t ∈ T then f t else bktM t ms).Perm _
    split
    · rename_i h; exact (hf t h).1
    · exact List.Perm.refl _
  refine sortM_of ?_ (List.perm_iff_count.2 fun x => ?_)
  · rw [List.pairwise_flatMap]
    refine ⟨fun t ht => by show (if t ∈ T then f t else _).Pairwise nbf; rw [if_pos ht]; exact (hf t ht).2, hT.imp ?_⟩
    intro a b hab x hx y hy
    have hx' := (List.mem_filter.1 ((hgp a).mem_iff.1 hx)).2
    have hy' := (List.mem_filter.1 ((hgp b).mem_iff.1 hy)).2
    rw [decide_eq_true_eq] at hx' hy'
    rw [nbf_iff]; omega
  · rw [flat_count x g ms (fun t => by rw [(hgp t).count_eq, bkt_count]) T hnd]
    split
    · rfl
    · rename_i h
      exact (List.count_eq_zero.2 fun hm => h (hin x hm)).symm
end Go.Proofs.YtlobefglhppbdaaGreatDoor.Abs
