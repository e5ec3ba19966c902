/- slices.Insert of an edge, by states. No statement of the seat is proved here. -/
import Derived.Test.YthjnidcmhegoeaaTy
import Derived.Lib.Hide
import Derived.Test.YthjnidcmhegoeaaAInsW
set_option linter.unusedSimpArgs false
set_option linter.unusedVariables false
namespace Go.Proofs.Ythjnidcmhegoeaa.Abs
open Go.RowKit
open R (val row ref)

open Go.RowKit
/-- Cells put in between. -/
def insL {α : Type} (old : List α) (k : Nat) (vs : List α) : List α := old.take k ++ vs ++ old.drop k
theorem El_edge : ∃ z, El Try.prog 28 34 3 24 z := by
  have h : elOf Try.prog 28 = some (34, 3, 24) := by kernel_rfl
  exact elOf_spec h
theorem sized_row {w w' : World} {g : Nat} {cur cur' : Array Value} {E : TypeId} (hg : w.heap[g]? = some (.cells cur E (0, 0))) (hg' : w'.heap[g]? = some (.cells cur' E (0, 0))) (hs : cur'.size = cur.size) (hb : w.grownBy w' (some g)) : Sized w w' := fun b ar T h => by
  by_cases e : b = g
  · subst e
    rw [hg] at h
    injection h with h
    injection h with h1 h2
    subst h1 h2
    exact ⟨cur', hg', hs⟩
  · exact ⟨ar, by rw [hb.block b (lt_of_heap h) (fun e' => by injection e' with e'; exact e e')]; exact h, rfl⟩
theorem getD_old {cur : Array Value} {o m p : Nat} (hp : p < m) : ((cur.toList.drop o).take m)[p]? = cur[o + p]? := by
  rw [List.getElem?_take, if_pos hp, List.getElem?_drop, Array.getElem?_toList]
theorem insL_get {α : Type} {old vs : List α} {k p : Nat} (hk : k ≤ old.length) : (insL old k vs)[p]? = if p < k then old[p]? else if p < k + vs.length then vs[p - k]? else old[p - vs.length]? := by
  unfold insL
  have hl : (old.take k).length = k := by rw [List.length_take]; omega
  by_cases h1 : p < k
  · rw [if_pos h1, List.append_assoc, List.getElem?_append_left (by omega), List.getElem?_take, if_pos h1]
  · rw [if_neg h1]
    by_cases h2 : p < k + vs.length
    · rw [if_pos h2, List.getElem?_append_left (by simp; omega), List.getElem?_append_right (by omega), hl]
    · rw [if_neg h2, List.getElem?_append_right (by simp; omega), List.getElem?_drop]
      congr 1
      simp
      omega
set_option maxRecDepth 100000 in
set_option maxHeartbeats 4000000 in
theorem ins_run {w : World} {g o n cap i : Nat} {cur : Array Value} (hg : w.heap[g]? = some (.cells cur 34 (0, 0))) (hcs : cap = 0 ∨ o + cap * 3 ≤ cur.size) (hn : n ≤ cap) (hcm : cap ≤ maxLen) (hi : i ≤ n) (hn1 : n ≤ 100000)
    {vb vo vc : Nat} {curv : Array Value} {vs : List Value} (hgv : w.heap[vb]? = some (.cells curv 34 (0, 0))) (hvb : vb ≠ g) (hvl : vs.length = 3) (hvs : ∀ j v, vs[j]? = some v → w.cell? ⟨vb, vo + j, none⟩ = some v) (h1v : ∀ v ∈ vs, v.oneCell' = true)
    (h1c : ∀ v ∈ (cur.toList.drop (o + i * 3)).take ((n - i) * 3), v.oneCell' = true) :
    Calls Try.prog 47 #[.slice (some ⟨g, o, none⟩) n cap, .int .i64 i, .slice (some ⟨vb, vo, none⟩) 1 vc] w fun e w' => ∃ (g' o' c' : Nat) (cur' : Array Value), e = .returned (.slice (some ⟨g', o', none⟩) (n + 1) c') ∧ w'.heap[g']? = some (.cells cur' 34 (0, 0)) ∧ (c' = 0 ∨ o' + c' * 3 ≤ cur'.size) ∧ n + 1 ≤ c' ∧ c' ≤ maxLen ∧
      (∀ p, p < (n + 1) * 3 → cur'[o' + p]? = (insL ((cur.toList.drop o).take (n * 3)) (i * 3) vs)[p]?) ∧ Sized w w' ∧ w.grownBy w' (some g) ∧ (g' = g ∨ g' = w.heap.size) := by
  have holdl : ((cur.toList.drop o).take (n * 3)).length = n * 3 := by
    rcases hcs with h0 | hcs
    · have : n = 0 := by omega
      subst this; simp
    · have := Nat.mul_le_mul_right 3 hn
      rw [List.length_take, List.length_drop, Array.length_toList]; omega
  by_cases hin : i = n
  · subst hin
    obtain ⟨z, hE⟩ := El_edge
    obtain ⟨w', g', o', c', cur', r1, r2, r3, r4, r5, r6, r7, r8, r9⟩ := app_run (P := Try.prog) (ty := 28) hE (w := w) (g := g) (o := o) (n := i) (cap := cap) (cur := cur) hg hcs hn hcm (bo := some ⟨vb, vo, none⟩) (m := 1) (d := vc) (news := vs) (by omega) (fun _ => ⟨vb, vo, rfl, hvs⟩) h1v (by unfold maxLen; omega) (by omega)
    refine (insW_end _ _ i w _ w' ⟨_, _, rfl, (fun h => by cases h), hn⟩ ⟨_, _, _, rfl⟩ r1).mono ?_
    rintro e w2 ⟨rfl, rfl⟩
    refine ⟨g', o', c', cur', rfl, r2, r3, r4, r5, fun p hp => ?_, r7, r8, r9⟩
    rw [r6 p hp]
    unfold insL
    rw [List.take_of_length_le (l := (cur.toList.drop o).take (i * 3)) (by omega), List.drop_of_length_le (l := (cur.toList.drop o).take (i * 3)) (by omega), List.append_nil]
  · have hlt : i < n := by omega
    have hsz : o + cap * 3 ≤ cur.size := hcs.resolve_left (by omega)
    have hDl : ((cur.toList.drop (o + i * 3)).take ((n - i) * 3)).length = (n - i) * 3 := by rw [List.length_take, List.length_drop, Array.length_toList]; omega
    have hDg : ∀ p, p < (n - i) * 3 → ((cur.toList.drop (o + i * 3)).take ((n - i) * 3))[p]? = cur[o + i * 3 + p]? := fun p hp => getD_old hp
    have hins : ∀ p, p < (n + 1) * 3 → (insL ((cur.toList.drop o).take (n * 3)) (i * 3) vs)[p]? = if p < i * 3 then cur[o + p]? else if p < i * 3 + 3 then vs[p - i * 3]? else cur[o + (p - 3)]? := fun p hp => by
      rw [insL_get (by omega), hvl]
      by_cases h1 : p < i * 3
      · rw [if_pos h1, if_pos h1, getD_old (by omega)]
      · rw [if_neg h1, if_neg h1]
        by_cases h2 : p < i * 3 + 3
        · rw [if_pos h2, if_pos h2]
        · rw [if_neg h2, if_neg h2, getD_old (by omega)]
    obtain ⟨D, hD⟩ : ∃ D, D = (cur.toList.drop (o + i * 3)).take ((n - i) * 3) := ⟨_, rfl⟩
    by_cases hroom : n + 1 ≤ cap
    · refine (insW_shift g o n cap i vb vo vc cur vs w hlt hroom (by unfold maxLen at hcm; omega) hvb hg hsz h1c hvl hvs h1v 34 curv.size (by simp [World.shape?, hgv]) (fun j => by simp [World.frozen?, hgv])).mono ?_
      rintro e w' ⟨rfl, rfl⟩
      rw [← hD] at hDl hDg ⊢
      have s1 : (rowPut cur (o + (i + 1) * 3) D).size = cur.size := rowPut_size (by omega)
      have s2 : (rowPut (rowPut cur (o + (i + 1) * 3) D) (o + i * 3) vs).size = cur.size := by rw [rowPut_size (by omega), s1]
      have q1 := setRow_heap w.drew g cur (rowPut cur (o + (i + 1) * 3) D) _ _ hg
      have q2 := setRow_heap _ g _ (rowPut (rowPut cur (o + (i + 1) * 3) D) (o + i * 3) vs) _ _ q1
      have hgr : w.grownBy ((w.drew.setRow g (rowPut cur (o + (i + 1) * 3) D)).setRow g (rowPut (rowPut cur (o + (i + 1) * 3) D) (o + i * 3) vs)) (some g) := ⟨rfl, rfl, rfl, by simp [World.setRow], fun k _ hk => (setRow_other _ g k _ (fun e => hk (by rw [e]))).trans (setRow_other w.drew g k _ (fun e => hk (by rw [e])))⟩
      refine ⟨g, o, cap, _, rfl, q2, .inr (by rw [s2]; exact hsz), hroom, hcm, fun p hp => ?_, sized_row hg q2 s2 hgr, hgr, .inl rfl⟩
      rw [hins p hp, rowPut_get (by omega), hvl]
      by_cases h1 : p < i * 3
      · rw [if_pos h1, if_neg (by omega), rowPut_get (by omega), if_neg (by omega)]
      · rw [if_neg h1]
        by_cases h2 : p < i * 3 + 3
        · rw [if_pos h2, if_pos (by omega)]
          congr 1
          omega
        · rw [if_neg h2, if_neg (by omega), rowPut_get (by omega), if_pos (by omega), hDg _ (by omega)]
          congr 1
          omega
    · refine (insW_grow g o n cap i vb vo vc cur vs w hlt hn (by omega) hn1 hg hsz h1c hvl hvs h1v).mono ?_
      rintro e w' ⟨rfl, rfl⟩
      rw [← hD] at hDl hDg ⊢
      have hRs : (n + 1) * 3 ≤ (growRow w (cur.toList.drop o) n cap i).size ∧ (growRow w (cur.toList.drop o) n cap i).size = grownCap w (n + 1) cap 34 * 3 ∧ ∀ p, p < i * 3 → (growRow w (cur.toList.drop o) n cap i)[p]? = cur[o + p]? := by
        have hge := grownCap_ge w (n + 1) cap 34
        have htl : ((cur.toList.drop o).take (i * 3)).length = i * 3 := by rw [List.length_take, List.length_drop, Array.length_toList]; omega
        refine ⟨?_, ?_, fun p hp => ?_⟩
        · unfold growRow; rw [Array.size_append, Array.size_append, zeroCells_size3, zeroCells_size3, List.size_toArray, htl]; omega
        · unfold growRow; rw [Array.size_append, Array.size_append, zeroCells_size3, zeroCells_size3, List.size_toArray, htl]; omega
        · unfold growRow
          rw [Array.append_assoc, Array.getElem?_append_left (by rw [List.size_toArray, htl]; exact hp), List.getElem?_toArray, List.getElem?_take, if_pos hp, List.getElem?_drop, Array.getElem?_toList]
      obtain ⟨hR1, hR2, hR3⟩ := hRs
      have hge := grownCap_ge w (n + 1) cap 34
      have hgm := grownCap_le_maxLen w (n + 1) cap 34 (by unfold maxLen; omega)
      generalize grownCap w (n + 1) cap 34 = G at *
      generalize growRow w (cur.toList.drop o) n cap i = ROW at *
      have s1 : (rowPut ROW (i * 3) vs).size = ROW.size := rowPut_size (by omega)
      have s2 : (rowPut (rowPut ROW (i * 3) vs) ((i + 1) * 3) D).size = ROW.size := by rw [rowPut_size (by omega), s1]
      have q0 : (w.alloc (.cells ROW 34)).drew.heap[w.heap.size]? = some (.cells ROW 34 (0, 0)) := heap_alloc_new w _
      have q1 : ((w.alloc (.cells ROW 34)).drew.setRow w.heap.size (rowPut ROW (i * 3) vs)).drew.heap[w.heap.size]? = some (.cells (rowPut ROW (i * 3) vs) 34 (0, 0)) := setRow_heap _ _ _ _ _ _ q0
      have q2 := setRow_heap _ w.heap.size _ (rowPut (rowPut ROW (i * 3) vs) ((i + 1) * 3) D) _ _ q1
      have hbl : ∀ k, k < w.heap.size → ((((w.alloc (.cells ROW 34)).drew.setRow w.heap.size (rowPut ROW (i * 3) vs)).drew).setRow w.heap.size (rowPut (rowPut ROW (i * 3) vs) ((i + 1) * 3) D)).heap[k]? = w.heap[k]? := fun k hk =>
        (setRow_other _ w.heap.size k _ (by omega)).trans ((setRow_other (w.alloc (.cells ROW 34)).drew w.heap.size k _ (by omega)).trans (Below.heap_alloc w _ k hk))
      refine ⟨w.heap.size, 0, G, _, rfl, q2, .inr (by rw [s2]; omega), hge, hgm, fun p hp => ?_, fun b ar T hb => ⟨ar, by rw [hbl b (lt_of_heap hb)]; exact hb, rfl⟩, ⟨rfl, rfl, rfl, by simp [World.setRow], fun k hk _ => hbl k hk⟩, .inr rfl⟩
      rw [hins p hp, Nat.zero_add, rowPut_get (by omega)]
      by_cases h1 : p < i * 3
      · rw [if_pos h1, if_neg (by omega), rowPut_get (by omega), if_neg (by omega), hR3 p h1]
      · rw [if_neg h1]
        by_cases h2 : p < i * 3 + 3
        · rw [if_pos h2, if_neg (by omega), rowPut_get (by omega), if_pos (by omega)]
        · rw [if_neg h2, if_pos (by omega), hDg _ (by omega)]
          congr 1
          omega
theorem flat_ins {sz i : Nat} {els : List P0} {e : P0} (hn : AllN sz els) (hi : i ≤ els.length) : flat (els.take i ++ e :: els.drop i) = insL (flat els) (i * sz) e.rs := by
  have h1 : flat els = flat (els.take i) ++ flat (els.drop i) := by rw [← flat_app, List.take_append_drop]
  have h2 : (flat (els.take i)).length = i * sz := by
    rw [flat_len (sz := sz) (fun j x hj => by rw [List.getElem?_take] at hj; split at hj; exact hn j x hj; cases hj), List.length_take, Nat.min_eq_left hi]
  unfold insL
  rw [h1, ← h2, List.take_left, List.drop_left, flat_app, List.append_assoc]
  rfl
set_option maxRecDepth 100000 in
set_option maxHeartbeats 4000000 in
theorem e_insert {l : List (Nat × D)} {h : List (Nat × Ob)} {o : Oper} {k k2 n i t : Nat} {m new new2 : Bool} {els : List P0} {e : P0} {x y z : Operand} {tys : Array TypeId} (ho : o.op = .call { callee := .value (.func 47), args := #[x, y, z], argTypes := tys }) (hx : evO l x = some (.one (.own k 0 n 3))) (hk : lookHO h k = some (.sl 34 3 new els)) (hnl : n = els.length) (hy : evO l y = some (.one (.r m (int (i : Int))))) (hi : i ≤ n) (hn1 : n ≤ 100000)
    (hz : evO l z = some (.one (.own k2 0 1 3))) (hk2 : lookHO h k2 = some (.sl 34 3 new2 [e])) (hkk : k2 ≠ k) :
    Eff Try.prog (lookH h) (evD (look l)) o (.one (.own t 0 (n + 1) 3)) [k] [t] [(t, some (.sl 34 3 (new && new2) (els.take i ++ e :: els.drop i))), (k, none)] := by
  intro base a w ι own hown hbase hev hH hinj K Q hK
  have hx1 : (evD (look l) x).p ι base ⟨w, own⟩ (a.eval x) := hev x (by rw [ho]; simp [Op.operands, Call.operands])
  have hy1 : (evD (look l) y).p ι base ⟨w, own⟩ (a.eval y) := hev y (by rw [ho]; simp [Op.operands, Call.operands])
  have hz1 : (evD (look l) z).p ι base ⟨w, own⟩ (a.eval z) := hev z (by rw [ho]; simp [Op.operands, Call.operands])
  rw [evO_spec hx] at hx1
  rw [evO_spec hy] at hy1
  rw [evO_spec hz] at hz1
  have ey : a.eval y = .int .i64 (i : Int) := ((val_p (c := Cx.young ⟨w, own⟩ base m)).1 hy1).1
  obtain ⟨oo, cap, arr, E', e1, e0, e2, e3, e4, e5⟩ := hx1
  obtain ⟨ov, capv, arrv, Ev, f1, f0, f2, f3, f4, f5⟩ := hz1
  obtain ⟨hko, arr', g1, g2, g3⟩ := hH k _ (lookHO_spec hk)
  obtain ⟨hkv, arrv', u1, u2, u3⟩ := hH k2 _ (lookHO_spec hk2)
  have hae : arr' = arr ∧ 34 = E' := by
    have e4' : w.heap[(ι k).1]? = some (.cells arr E' (0, 0)) := e4
    have g1' : w.heap[(ι k).1]? = some (.cells arr' 34 (0, 0)) := g1
    rw [e4'] at g1'
    injection g1' with g1'
    injection g1' with q1 q2
    exact ⟨q1.symm, q2.symm⟩
  obtain ⟨rfl, rfl⟩ := hae
  have hvb : (ι k2).1 ≠ (ι k).1 := fun e' => hkk (hinj k2 k _ _ (lookHO_spec hk2) (lookHO_spec hk) e')
  obtain ⟨en, ec⟩ := u3 0 e rfl
  have hov : ov = (ι k2).2 := by rcases f0 with f | f <;> omega
  obtain ⟨vs, hvl, hvs⟩ : ∃ vs : List Value, vs.length = 3 ∧ ∀ (j : Nat) (v : Value), vs[j]? = some v → arrv'[(ι k2).2 + j]? = some v ∧ ∀ r, e.rs[j]? = some r → r.p (Cx.young ⟨w, own⟩ base new2) v := by
    refine ⟨((arrv'.toList.drop (ι k2).2).take 3), ?_, fun j v hv => ?_⟩
    · have : (ι k2).2 + 1 * 3 ≤ arrv'.size := u2
      rw [List.length_take, List.length_drop, Array.length_toList]; omega
    · have hj : j < 3 := by
        rcases Nat.lt_or_ge j 3 with h | h
        · exact h
        · rw [List.getElem?_eq_none (by rw [List.length_take]; omega)] at hv; cases hv
      rw [getD_old hj] at hv
      refine ⟨hv, fun r hr => ?_⟩
      obtain ⟨u, hu, hp⟩ := ec j r hr
      have hu' : arrv'[(ι k2).2 + (0 * 3 + j)]? = some u := hu
      rw [Nat.zero_mul, Nat.zero_add, hv] at hu'
      injection hu' with hu'
      rw [hu']; exact hp
  have hvs1 : ∀ v ∈ vs, v.oneCell' = true := fun v hv => by
    obtain ⟨j, hj⟩ := List.getElem?_of_mem hv
    have hjl : j < e.rs.length := by
      have h1 : e.rs.length = 3 := en
      have := (List.getElem?_eq_some_iff.1 hj).1
      omega
    exact R.one _ ((hvs j v hj).2 _ (List.getElem?_eq_getElem hjl))
  have hN : AllN 3 els := fun j x hj => (g3 j x hj).1
  have hf1 := flat_of (sz := 3) (els := els) (q := fun p r => ∃ u, arr'[(ι k).2 + p]? = some u ∧ r.p (Cx.young ⟨w, own⟩ base new) u) (fun j x hj => by
    refine ⟨(g3 j x hj).1, fun jj r hr => ?_⟩
    obtain ⟨u, hu, hp⟩ := (g3 j x hj).2 jj r hr
    exact ⟨u, hu, hp⟩)
  have hfl : (flat els).length = n * 3 := by rw [flat_len hN, hnl]
  have hoo : 0 < n → oo = (ι k).2 := fun hpos => by rcases e0 with f | f <;> omega
  have h1c : ∀ v ∈ (arr'.toList.drop (oo + i * 3)).take ((n - i) * 3), v.oneCell' = true := fun v hv => by
    obtain ⟨j, hj⟩ := List.getElem?_of_mem hv
    have hj3 : j < (n - i) * 3 := by
      rcases Nat.lt_or_ge j ((n - i) * 3) with h | h
      · exact h
      · rw [List.getElem?_eq_none (by rw [List.length_take]; omega)] at hj; cases hj
    rw [getD_old hj3, hoo (by omega)] at hj
    obtain ⟨u, hu, hp⟩ := hf1.2 (i * 3 + j) _ (List.getElem?_eq_getElem (show i * 3 + j < (flat els).length by omega))
    rw [← Nat.add_assoc, hj] at hu
    injection hu with hu
    rw [hu]; exact R.one _ hp
  have hent := ent_of Try.func47 (by kernel_rfl) rfl
  have hrun : (execOp a.eval o).run Try.prog w = .ok (.enter 47 #[.slice (some ⟨(ι k).1, oo, none⟩) n cap, .int .i64 (i : Int), .slice (some ⟨(ι k2).1, ov, none⟩) 1 capv]) w := by
    unfold execOp
    rw [ho]
    simp [resolve, Act.eval, Deferred.ofValue, invoke, hent _ _, ← e1, ← ey, ← f1]
  unfold Oper.wp
  rw [hrun, Oper.upon_enter]
  refine (ins_run (w := w) (g := (ι k).1) (o := oo) (n := n) (cap := cap) (i := i) (cur := arr') g1 (e0.symm.imp id (fun e' => by omega)) e2 e3 hi hn1 (vb := (ι k2).1) (vo := ov) (vc := capv) (curv := arrv') (vs := vs) u1 hvb hvl (fun j v hv => by rw [cell_of_arr u1, hov]; exact (hvs j v hv).1) hvs1 h1c).mono ?_
  rintro e' w' ⟨g', o', c', cur', rfl, r2, r3, r4, r5, r6, r7, r8, r9⟩
  have hx' : Cx.Ext ⟨w, own⟩ ⟨w', fun b => own b ∨ b = g'⟩ := ⟨r8.size, fun b hb h => by
    rcases h with h | h
    · exact h
    · rcases r9 with r9 | r9
      · rw [h, r9]; exact hko
      · have : b < w.heap.size := hb
        omega, fun b hb hno => .inl (r8.block b hb (fun e' => by injection e' with e'; subst e'; exact hno hko))⟩
  have hc0 : 0 < c' := by omega
  have h1 := r3.resolve_left (by omega)
  have h2 := Nat.mul_le_mul_right 3 r4
  have hg1 : own g' ∨ w.heap.size ≤ g' := by rcases r9 with r9 | r9 <;> rw [r9]; exact .inl hko; exact .inr (Nat.le_refl _)
  refine hK _ _ (upd ι t (g', o')) (fun b => own b ∨ b = g') ⟨r8.os, r8.tape, r8.output, r8.size, fun b hb hn => r8.block b hb (fun e' => by injection e' with e'; exact hn k (by simp) e'), r7, fun _ h _ => .inl h, fun b h => ?_, fun b h => ?_, fun u hu => upd_ne _ _ (fun e' => hu (by simp [e'])), ?_, fun k1 ob1 h => ?_, fun k1 ob1 k2 ob2 h h' _ => ?_⟩
  · rcases h with h | h
    · exact .inl h
    · rw [h]; exact hg1
  · rcases h with h | h
    · exact Nat.lt_of_lt_of_le (hown b h).2 r8.size
    · rw [h]; exact lt_of_heap r2
  · refine ⟨o', c', cur', 34, by rw [upd_same], .inl (by rw [upd_same, Nat.zero_mul]; rfl), r4, r5, by rw [upd_same]; exact r2, ?_⟩
    rw [upd_same, Nat.zero_add]
    exact h1
  · obtain ⟨rfl, rfl⟩ : k1 = t ∧ ob1 = .sl 34 3 (new && new2) (els.take i ++ e :: els.drop i) := by simpa using h
    rw [upd_same]
    have hi' : i ≤ els.length := by omega
    have hll : (els.take i ++ e :: els.drop i).length = n + 1 := by rw [List.length_append, List.length_take, List.length_cons, List.length_drop]; omega
    refine ⟨.inr rfl, ⟨cur', r2, ?_, of_flat (q := fun p r => ∃ u, cur'[o' + p]? = some u ∧ r.p (Cx.young ⟨w', fun b => own b ∨ b = g'⟩ base (new && new2)) u) ?_ (fun p r hp => ?_)⟩, ?_⟩
    · rw [hll]; show o' + (n + 1) * 3 ≤ cur'.size; omega
    · refine AllN.app (fun j x hj => ?_) (fun j x hj => ?_)
      · rw [List.getElem?_take] at hj
        split at hj
        · exact hN j x hj
        · cases hj
      · cases j with
        | zero => obtain rfl : e = x := Option.some.inj hj; exact en
        | succ j => rw [List.getElem?_cons_succ, List.getElem?_drop] at hj; exact hN _ x hj
    · rw [flat_ins hN hi'] at hp
      have hpl : p < (n + 1) * 3 := by
        rcases Nat.lt_or_ge p ((n + 1) * 3) with h | h
        · exact h
        · have h3 : e.rs.length = 3 := en
          rw [insL_get (by omega), if_neg (by omega), if_neg (by omega), List.getElem?_eq_none (by omega)] at hp
          cases hp
      have hold : ((arr'.toList.drop oo).take (n * 3)).length = n * 3 := by
        rcases Nat.eq_zero_or_pos n with h0 | h0
        · rw [h0]; simp
        · have := Nat.mul_le_mul_right 3 e2
          have hoo' := hoo h0
          rw [List.length_take, List.length_drop, Array.length_toList]; omega
      have mono1 : ∀ {r : R} {u : Value}, r.p (Cx.young ⟨w, own⟩ base new) u → r.p (Cx.young ⟨w', fun b => own b ∨ b = g'⟩ base (new && new2)) u := fun {r u} hr => r.mono (by
        cases new with
        | false => exact hx'
        | true => cases new2 with
          | true => exact hx'.young _ true
          | false => exact (Cx.young_out _ _ true).trans hx') hr
      have mono2 : ∀ {r : R} {u : Value}, r.p (Cx.young ⟨w, own⟩ base new2) u → r.p (Cx.young ⟨w', fun b => own b ∨ b = g'⟩ base (new && new2)) u := fun {r u} hr => r.mono (by
        cases new2 with
        | false => cases new <;> exact hx'
        | true => cases new with
          | true => exact hx'.young _ true
          | false => exact (Cx.young_out _ _ true).trans hx') hr
      have h3 : e.rs.length = 3 := en
      rw [r6 p hpl, insL_get (by omega), hvl]
      rw [insL_get (by omega), h3] at hp
      by_cases hp1 : p < i * 3
      · rw [if_pos hp1] at hp ⊢
        rw [getD_old (by omega), hoo (by omega)]
        obtain ⟨u, hu, hr⟩ := hf1.2 p r hp
        exact ⟨u, hu, mono1 hr⟩
      · rw [if_neg hp1] at hp ⊢
        by_cases hp2 : p < i * 3 + 3
        · rw [if_pos hp2] at hp ⊢
          obtain ⟨v, hv⟩ : ∃ v, vs[p - i * 3]? = some v := ⟨_, List.getElem?_eq_getElem (by omega)⟩
          exact ⟨v, hv, mono2 ((hvs _ v hv).2 r hp)⟩
        · rw [if_neg hp2] at hp ⊢
          rw [getD_old (by omega), hoo (by omega)]
          obtain ⟨u, hu, hr⟩ := hf1.2 (p - 3) r hp
          exact ⟨u, hu, mono1 hr⟩
    · rcases r9 with r9 | r9
      · exact .inr ⟨k, by simp, r9⟩
      · exact .inl (by rw [r9]; exact Nat.le_refl _)
  · obtain ⟨rfl, rfl⟩ : k1 = t ∧ ob1 = .sl 34 3 (new && new2) (els.take i ++ e :: els.drop i) := by simpa using h
    obtain ⟨rfl, rfl⟩ : k2 = k1 ∧ ob2 = .sl 34 3 (new && new2) (els.take i ++ e :: els.drop i) := by simpa using h'
    rfl
end Go.Proofs.Ythjnidcmhegoeaa.Abs
