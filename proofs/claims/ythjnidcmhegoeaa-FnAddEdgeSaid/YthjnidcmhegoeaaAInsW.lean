/- slices.Insert of one edge into a row of the call's own. No statement of the seat is proved here. -/
import Derived.Shelf.Spec.SlicesInsert
import Derived.Laws.CopyRow
import Derived.Lib.Overlaps
import Derived.Lib.AppendZerosOnto
import Derived.BigQuiet
import Derived.Deep.QuietTactic
import Derived.Test.YthjnidcmhegoeaaTy
import Derived.Lib.Hide
import Derived.Test.YthjnidcmhegoeaaAAdd
set_option linter.unusedSimpArgs false
set_option linter.unusedVariables false
namespace Go.Proofs.Ythjnidcmhegoeaa.Abs
open Go.RowKit
open R (val row ref)

open Go.RowKit
/-- Cells put into a row. -/
def rowPut (cur : Array Value) (o : Nat) (cs : List Value) : Array Value := (cur.toList.take o ++ cs ++ cur.toList.drop (o + cs.length)).toArray
/-- 'copy' between rows of elements of any size: all is read before anything is written. -/
theorem run_copyN {P : Program} (w : World) (dT sT ty elem : TypeId) (g o dLen dCap : Nat) (a : Addr) (sLen sCap sz k : Nat) (cur : Array Value) (t : TypeId) (cs : List Value)
    (hu : P.underlying dT = some (.slice elem)) (hs : (P.info? elem).map (·.size) = some sz)
    (hg : w.heap[g]? = some (.cells cur t (0, 0))) (hk : Nat.min sLen dLen = k) (hn : cs.length = k * sz)
    (hsrc : ∀ j v, cs[j]? = some v → w.cell? (a.add j) = some v) (hfit : o + cs.length ≤ cur.size) (h1 : ∀ v ∈ cs, v.oneCell' = true) :
    (Builtin.copy_ #[dT, sT] ty #[.slice (some ⟨g, o, none⟩) dLen dCap, .slice (some a) sLen sCap]).run P w =
      .ok (goInt k) (w.setRow g (rowPut cur o cs)) := by
  unfold rowPut
  have hl := run_loadCells_list (P := P) w a cs hsrc
  have hst := run_storeCells_at P g o t cs 0 cur w hg (by simpa using hfit) h1
  cases hq : P.info? elem with
  | none => simp [hq] at hs
  | some i =>
    have hi : i.size = sz := by simpa [hq] using hs
    subst hk
    simp [Builtin.copy_, run_underlying hu, Builtin.lenOf, Builtin.firstCells, sizeOf, typeInfo, hq, hi, ← hn, hl, hst]
theorem rowPut_size {cur : Array Value} {o : Nat} {cs : List Value} (h : o + cs.length ≤ cur.size) : (rowPut cur o cs).size = cur.size := by
  unfold rowPut
  simp only [List.size_toArray, List.length_append, List.length_take, List.length_drop, Array.length_toList]
  omega
theorem rowPut_get {cur : Array Value} {o : Nat} {cs : List Value} (h : o + cs.length ≤ cur.size) (p : Nat) : (rowPut cur o cs)[p]? = if o ≤ p ∧ p < o + cs.length then cs[p - o]? else cur[p]? := by
  unfold rowPut
  have hl : (cur.toList.take o).length = o := by rw [List.length_take, Array.length_toList]; omega
  rw [List.getElem?_toArray]
  by_cases h1 : p < o
  · rw [List.append_assoc, List.getElem?_append_left (by omega), List.getElem?_take, if_pos h1, if_neg (by omega), Array.getElem?_toList]
  · by_cases h2 : p < o + cs.length
    · rw [if_pos ⟨by omega, h2⟩, List.getElem?_append_left (by simp; omega), List.getElem?_append_right (by omega), hl]
    · rw [if_neg (by omega), List.getElem?_append_right (by simp; omega), List.getElem?_drop, Array.getElem?_toList]
      congr 1
      simp
      omega
set_option maxRecDepth 100000 in
set_option maxHeartbeats 4000000 in
theorem insW_shift (g o n c i vb vo vc : Nat) (cur : Array Value) (vs : List Value) (w : World) (hi : i < n) (hroom : n + 1 ≤ c) (hc63 : c ≤ 9223372036854775807) (hvb : vb ≠ g)
    (hg : w.heap[g]? = some (.cells cur 34 (0, 0))) (hsz : o + c * 3 ≤ cur.size) (h1c : ∀ v ∈ (cur.toList.drop (o + i * 3)).take ((n - i) * 3), v.oneCell' = true) (hvl : vs.length = 3)
    (hvs : ∀ j v, vs[j]? = some v → w.cell? ⟨vb, vo + j, none⟩ = some v) (h1v : ∀ v ∈ vs, v.oneCell' = true)
    (tA : TypeId) (kA : Nat) (hsa : w.shape? vb = some (tA, kA)) (hfa : ∀ j, w.frozen? ⟨vb, j, none⟩ = false) :
    Calls Try.prog 47 #[.slice (some ⟨g, o, none⟩) n c, .int .i64 i, .slice (some ⟨vb, vo, none⟩) 1 vc] w fun e w' =>
      e = .returned (.slice (some ⟨g, o, none⟩) (n + 1) c) ∧ w' = (w.drew.setRow g (rowPut cur (o + (i + 1) * 3) ((cur.toList.drop (o + i * 3)).take ((n - i) * 3)))).setRow g (rowPut (rowPut cur (o + (i + 1) * 3) ((cur.toList.drop (o + i * 3)).take ((n - i) * 3))) (o + i * 3) vs) := by
  have hov : ∀ lb cb, (callFunc 90 #[.slice (some ⟨vb, vo, none⟩) 1 vc, .slice (some ⟨g, o + (i + 1) * 3, none⟩) lb cb]).run Try.prog w = .ok (.value (.bool false)) w := fun lb cb => by
    rw [run_callFunc_extern Try.func90 (by kernel_rfl) (by kernel_rfl) (by kernel_rfl) (e := Extern.SlicesOverlaps.overlaps #[28, 28] #[4]) (by kernel_rfl),
      Lib.run_overlaps_apart w 28 4 34 Try.underlying28 3 Try.sizeOf34 ⟨vb, vo, none⟩ ⟨g, o + (i + 1) * 3, none⟩ 1 vc lb cb hvb tA 34 kA cur.size hsa (by simp [World.shape?, hg]) (by omega) (hfa _) (hfa _)]
    rfl
  have hinfo : (Try.prog.info? 34).map (·.size) = some 3 := by kernel_rfl
  have hdl : ((cur.toList.drop (o + i * 3)).take ((n - i) * 3)).length = (n - i) * 3 := by rw [List.length_take, List.length_drop, Array.length_toList]; omega
  obtain ⟨D, hD⟩ : ∃ D, D = (cur.toList.drop (o + i * 3)).take ((n - i) * 3) := ⟨_, rfl⟩
  rw [← hD] at hdl ⊢
  have hcp1 : ∀ ty dc sc, (Builtin.copy_ #[28, 28] ty #[.slice (some ⟨g, o + (i + 1) * 3, none⟩) (n - i) dc, .slice (some ⟨g, o + i * 3, none⟩) (n + 1 - i) sc]).run Try.prog w.drew = .ok (goInt ((n - i : Nat) : Int)) (w.drew.setRow g (rowPut cur (o + (i + 1) * 3) D)) := fun ty dc sc =>
    run_copyN w.drew _ _ ty 34 g (o + (i + 1) * 3) (n - i) dc ⟨g, o + i * 3, none⟩ (n + 1 - i) sc 3 (n - i) cur 34 D Try.underlying28 hinfo hg (by simp only [Nat.min_def]; split <;> omega) hdl
      (fun j v hj => by
        rw [Addr.add_lit]
        rw [hD, List.getElem?_take] at hj
        split at hj
        · rw [List.getElem?_drop, Array.getElem?_toList] at hj
          show World.cell? w.drew _ = _
          rw [World.cell?_drew]
          simp only [World.cell?, hg]
          exact hj
        · cases hj) (by rw [hdl]; omega) (fun v hv => by rw [hD] at hv; exact h1c v hv)
  obtain ⟨A1, hA1⟩ : ∃ A1, A1 = rowPut cur (o + (i + 1) * 3) D := ⟨_, rfl⟩
  rw [← hA1] at hcp1 ⊢
  have hA1s : A1.size = cur.size := by rw [hA1]; exact rowPut_size (by rw [hdl]; omega)
  have hg1 : ∀ W : World, W.heap[g]? = some (.cells cur 34 (0, 0)) → (W.setRow g A1).heap[g]? = some (.cells A1 34 (0, 0)) := fun W h => setRow_heap W g cur A1 _ _ h
  have hcp2 : ∀ ty dc, (Builtin.copy_ #[28, 28] ty #[.slice (some ⟨g, o + i * 3, none⟩) (n + 1 - i) dc, .slice (some ⟨vb, vo, none⟩) 1 vc]).run Try.prog (w.drew.setRow g A1) = .ok (goInt 1) ((w.drew.setRow g A1).setRow g (rowPut A1 (o + i * 3) vs)) := fun ty dc =>
    run_copyN (w.drew.setRow g A1) _ _ ty 34 g (o + i * 3) (n + 1 - i) dc ⟨vb, vo, none⟩ 1 vc 3 1 A1 34 vs Try.underlying28 hinfo (hg1 _ hg) (by simp only [Nat.min_def]; split <;> omega) (by omega)
      (fun j v hj => by
        rw [Addr.add_lit, ← hvs j v hj]
        exact World.cell?_of_block (a := ⟨vb, vo + j, none⟩) (setRow_other w.drew g vb A1 hvb)) (by rw [hvl, hA1s]; omega) h1v
  have mixed : Try.prog.follows .mixedOrders = true := by kernel_rfl
  have hz2 : ¬ ((i : Int) = (n : Int)) := by omega
  have hw1 : IntKind.i64.wrap ((i : Int) + 1) = (i : Int) + 1 := by rw [IntKind.wrap_i64]; omega
  have hw2 : IntKind.i64.wrap ((n : Int) + 1) = (n : Int) + 1 := by rw [IntKind.wrap_i64]; omega
  have hb1 : (0 : Int) ≤ (i : Int) + 1 := by omega
  have hb1' : (0 : Int) ≤ (n : Int) + 1 := by omega
  have hin : i ≤ n := by omega
  have htn : ((i : Int) + 1).toNat = i + 1 := by omega
  have htn' : ((n : Int) + 1).toNat = n + 1 := by omega
  have hb2 : ¬ (c = i + 1) := by omega
  have hb3 : (i : Int) ≤ (n : Int) + 1 := by omega
  have hb3' : (i : Int) ≤ (n : Int) := by omega
  have hb4 : ¬ (c = i) := by omega
  have hb5 : ¬ ((c : Int) < (n : Int) + 1) := by omega
  have hb6 : (n : Int) + 1 ≤ (c : Int) := by omega
  clear hD hA1 hg1
  go_enter Try.func47, Try.ntmps47
  go_wp2_with (simp only [hov])
  go_region_law_o (refine step_copy_runI rfl _ _ 28 28 rfl _ _ (by simp [Act.eval, Act.put]) (by simp [Act.eval, Act.put]) (hcp1 _ _ _) ?_)
  go_wp2_with (at_builtin; refine wpList_copy_runI _ rfl _ _ 28 28 rfl _ _ rfl rfl (hcp2 _ _) ?_)
  go_ret
  exact ⟨rfl, rfl⟩
theorem zeroCells_size3 (k : Nat) : (Builtin.zeroCells #[.int .i64 0, .int .i64 0, .int .i64 0] k).size = k * 3 := by
  simp [Builtin.zeroCells]
  try omega
/-- The new row of an edge list that has no room. -/
noncomputable def growRow (w : World) (old : List Value) (n c i : Nat) : Array Value := (old.take (i * 3)).toArray ++ Builtin.zeroCells #[.int .i64 0, .int .i64 0, .int .i64 0] (n + 1 - i) ++ Builtin.zeroCells #[.int .i64 0, .int .i64 0, .int .i64 0] (grownCap w (n + 1) c 34 - (n + 1))
set_option maxRecDepth 100000 in
set_option maxHeartbeats 4000000 in
theorem insW_grow (g o n c i vb vo vc : Nat) (cur : Array Value) (vs : List Value) (w : World) (hi : i < n) (hnc : n ≤ c) (hroom : c < n + 1) (hn : n ≤ 100000)
    (hg : w.heap[g]? = some (.cells cur 34 (0, 0))) (hsz : o + c * 3 ≤ cur.size) (h1c : ∀ v ∈ (cur.toList.drop (o + i * 3)).take ((n - i) * 3), v.oneCell' = true) (hvl : vs.length = 3)
    (hvs : ∀ j v, vs[j]? = some v → w.cell? ⟨vb, vo + j, none⟩ = some v) (h1v : ∀ v ∈ vs, v.oneCell' = true) :
    Calls Try.prog 47 #[.slice (some ⟨g, o, none⟩) n c, .int .i64 i, .slice (some ⟨vb, vo, none⟩) 1 vc] w fun e w' =>
      e = .returned (.slice (some ⟨w.heap.size, 0, none⟩) (n + 1) (grownCap w (n + 1) c 34)) ∧
      w' = (((w.alloc (.cells (growRow w (cur.toList.drop o) n c i) 34)).drew.setRow w.heap.size (rowPut (growRow w (cur.toList.drop o) n c i) (i * 3) vs)).drew).setRow w.heap.size (rowPut (rowPut (growRow w (cur.toList.drop o) n c i) (i * 3) vs) ((i + 1) * 3) ((cur.toList.drop (o + i * 3)).take ((n - i) * 3))) := by
  have mixed : Try.prog.follows .mixedOrders = true := by kernel_rfl
  have hinfo : (Try.prog.info? 34).map (·.size) = some 3 := by kernel_rfl
  have hI : (Try.prog.info? 34).map (fun i => (i.zero, i.size, i.bytes)) = some (some (.agg #[.int .i64 0, .int .i64 0, .int .i64 0]), 3, 24) := by kernel_rfl
  obtain ⟨i0, hi0, hI2⟩ := Option.map_eq_some_iff.1 hI
  injection hI2 with hz0 hI2
  injection hI2 with hz1 hz2
  have hgb : g < w.heap.size := lt_of_heap hg
  have hvb : vb < w.heap.size := by
    have : ∃ v, vs[0]? = some v := ⟨vs[0], List.getElem?_eq_getElem (by omega)⟩
    obtain ⟨v, hv⟩ := this
    exact World.block_lt_of_cell? w _ (hvs 0 v hv)
  have hdl : ((cur.toList.drop (o + i * 3)).take ((n - i) * 3)).length = (n - i) * 3 := by rw [List.length_take, List.length_drop, Array.length_toList]; omega
  obtain ⟨D, hD⟩ : ∃ D, D = (cur.toList.drop (o + i * 3)).take ((n - i) * 3) := ⟨_, rfl⟩
  have hkk : (n : Int) + 1 - (i : Int) = ((n + 1 - i : Nat) : Int) := by omega
  have hik : i + (n + 1 - i) = n + 1 := by omega
  have hold : (Builtin.firstCells i0.size i (.slice (some ⟨g, o, none⟩) i c)).run Try.prog w.drew = .ok ((cur.toList.drop o).take (i * 3)).toArray w.drew := by
    rw [hz1]
    exact run_firstCells_some w.drew 3 i ⟨g, o, none⟩ i c _ (by rw [List.length_take, List.length_drop, Array.length_toList]; omega) (fun j v hj => by
      rw [Addr.add_lit]
      rw [List.getElem?_take] at hj
      split at hj
      · rw [List.getElem?_drop, Array.getElem?_toList] at hj
        show World.cell? w.drew _ = _
        rw [World.cell?_drew]
        simp only [World.cell?, hg]
        exact hj
      · cases hj)
  obtain ⟨G, hG⟩ : ∃ G, G = grownCap w (n + 1) c 34 := ⟨_, rfl⟩
  have hGn : n + 1 ≤ G := by rw [hG]; exact grownCap_ge w _ _ _
  have hG63 : G ≤ 9223372036854775807 := by
    have := grownCap_le_maxLen w (n + 1) c 34 (by unfold maxLen; omega)
    rw [← hG] at this
    unfold maxLen at this
    omega
  have hrz : ∀ ty, (Builtin.append_ #[28, 3] ty #[.slice (some ⟨g, o, none⟩) i c, .int .i64 ((n : Int) + 1 - (i : Int))]).run Try.prog w =
      .ok (.slice (some ⟨w.heap.size, 0, none⟩) (n + 1) G) (w.drew.alloc (.cells (growRow w (cur.toList.drop o) n c i) 34)) := fun ty => by
    have h := Lib.run_append_grow_zeros w 28 3 ty 34 i0 _ .i64 .i64 Try.underlying28 Try.underlying3 hi0 hz0 (some ⟨g, o, none⟩) i c _ hold (n + 1 - i) (by omega) (by omega) (by omega) (by omega) (by rw [hz2]; omega) (by rw [hz2, hik]; exact growslice_fits hroom (by omega))
    rw [hik, ← hG] at h
    rw [hkk]
    unfold growRow
    rw [← hG]
    exact h
  have hRl : (n + 1) * 3 ≤ (growRow w (cur.toList.drop o) n c i).size := by
    unfold growRow
    rw [Array.size_append, Array.size_append, zeroCells_size3, zeroCells_size3, List.size_toArray, List.length_take, List.length_drop, Array.length_toList]
    omega
  rw [← hG, ← hD]
  rw [← hD] at hdl
  generalize growRow w (cur.toList.drop o) n c i = ROW at *
  have hWn : (w.alloc (.cells ROW 34)).drew.heap[w.heap.size]? = some (.cells ROW 34 (0, 0)) := heap_alloc_new w _
  have hcpA : ∀ ty dc, (Builtin.copy_ #[28, 28] ty #[.slice (some ⟨w.heap.size, i * 3, none⟩) (n + 1 - i) dc, .slice (some ⟨vb, vo, none⟩) 1 vc]).run Try.prog (w.alloc (.cells ROW 34)).drew = .ok (goInt 1) ((w.alloc (.cells ROW 34)).drew.setRow w.heap.size (rowPut ROW (i * 3) vs)) := fun ty dc =>
    run_copyN (w.alloc (.cells ROW 34)).drew _ _ ty 34 w.heap.size (i * 3) (n + 1 - i) dc ⟨vb, vo, none⟩ 1 vc 3 1 ROW 34 vs Try.underlying28 hinfo hWn (by simp only [Nat.min_def]; split <;> omega) (by omega)
      (fun j v hj => by
        rw [Addr.add_lit, ← hvs j v hj]
        exact World.cell?_of_block (a := ⟨vb, vo + j, none⟩) (Below.heap_alloc w _ vb hvb)) (by rw [hvl]; omega) h1v
  obtain ⟨R1, hR1⟩ : ∃ R1, R1 = rowPut ROW (i * 3) vs := ⟨_, rfl⟩
  rw [← hR1] at hcpA ⊢
  have hR1s : R1.size = ROW.size := by rw [hR1]; exact rowPut_size (by rw [hvl]; omega)
  have hWn2 : (((w.alloc (.cells ROW 34)).drew.setRow w.heap.size R1).drew).heap[w.heap.size]? = some (.cells R1 34 (0, 0)) := setRow_heap _ _ _ _ _ _ hWn
  have hcpB : ∀ ty dc sc, (Builtin.copy_ #[28, 28] ty #[.slice (some ⟨w.heap.size, (i + 1) * 3, none⟩) (n - i) dc, .slice (some ⟨g, o + i * 3, none⟩) (n - i) sc]).run Try.prog ((w.alloc (.cells ROW 34)).drew.setRow w.heap.size R1).drew = .ok (goInt ((n - i : Nat) : Int)) ((((w.alloc (.cells ROW 34)).drew.setRow w.heap.size R1).drew).setRow w.heap.size (rowPut R1 ((i + 1) * 3) D)) := fun ty dc sc =>
    run_copyN ((w.alloc (.cells ROW 34)).drew.setRow w.heap.size R1).drew _ _ ty 34 w.heap.size ((i + 1) * 3) (n - i) dc ⟨g, o + i * 3, none⟩ (n - i) sc 3 (n - i) R1 34 D Try.underlying28 hinfo hWn2 (Nat.min_self _) hdl
      (fun j v hj => by
        rw [Addr.add_lit]
        rw [hD, List.getElem?_take] at hj
        split at hj
        · rw [List.getElem?_drop, Array.getElem?_toList] at hj
          have hcell : w.cell? ⟨g, o + i * 3 + j, none⟩ = some v := by simp only [World.cell?, hg]; exact hj
          rw [← hcell]
          refine World.cell?_of_block (a := ⟨g, o + i * 3 + j, none⟩) ?_
          exact (setRow_other _ w.heap.size g R1 (by omega)).trans (Below.heap_alloc w _ g hgb)
        · cases hj) (by rw [hdl, hR1s]; omega) (fun v hv => by rw [hD] at hv; exact h1c v hv)
  have hz2 : ¬ ((i : Int) = (n : Int)) := by omega
  have hw1 : IntKind.i64.wrap ((i : Int) + 1) = (i : Int) + 1 := by rw [IntKind.wrap_i64]; omega
  have hw2 : IntKind.i64.wrap ((n : Int) + 1) = (n : Int) + 1 := by rw [IntKind.wrap_i64]; omega
  have hw3 : IntKind.i64.wrap ((n : Int) + 1 - (i : Int)) = (n : Int) + 1 - (i : Int) := by rw [IntKind.wrap_i64]; omega
  have hb1 : (0 : Int) ≤ (i : Int) + 1 := by omega
  have hin : i ≤ n := by omega
  have htn : ((i : Int) + 1).toNat = i + 1 := by omega
  have hci : ¬ (c = i) := by omega
  have hGi : ¬ (G = i) := by omega
  have hGim : ¬ (G = i + 1) := by omega
  have hb3 : (i : Int) ≤ (n : Int) := by omega
  have hb5 : (c : Int) < (n : Int) + 1 := by omega
  have hic : i ≤ c := by omega
  have hG3 : i ≤ G := by omega
  have hG4 : i + 1 ≤ G := by omega
  clear hkk hik hold hG hRl hD hR1 hI hi0
  go_enter Try.func47, Try.ntmps47
  go_wp2_with (first
    | (at_builtin; refine Lib.wpList_append_run _ rfl _ _ _ _ rfl _ _ rfl rfl _ _ (hrz _) ?_)
    | (at_builtin; refine wpList_copy_runI _ rfl _ _ 28 28 rfl _ _ rfl rfl (hcpA _ _) ?_))
  go_region_law_o (refine step_copy_runI rfl _ _ 28 28 rfl _ _ (by simp [Act.eval, Act.put]) (by simp [Act.eval, Act.put]) (hcpB _ _ _) ?_)
  go_wp2
  go_ret
  exact ⟨rfl, rfl⟩
set_option maxRecDepth 100000 in
set_option maxHeartbeats 4000000 in
theorem insW_end (s v : Value) (n : Nat) (w : World) (r : Value) (w1 : World) (hs : ∃ ao c, s = .slice ao n c ∧ (ao = none → n = 0) ∧ n ≤ c) (hv : ∃ b o c, v = .slice (some ⟨b, o, none⟩) 1 c)
    (hr : (Builtin.append_ #[28, 28] 28 #[s, v]).run Try.prog w = .ok r w1) :
    Calls Try.prog 47 #[s, .int .i64 n, v] w fun e w' => e = .returned r ∧ w' = w1 := by
  obtain ⟨ao, c, rfl, hn, hnc⟩ := hs
  obtain ⟨b, o, vc, rfl⟩ := hv
  cases ao with
  | none =>
    obtain rfl := hn rfl
    go_enter Try.func47, Try.ntmps47
    go_wp2_with (at_builtin; refine Lib.wpList_append_run _ rfl _ _ _ _ rfl _ _ rfl rfl _ _ hr ?_)
    go_ret
    exact ⟨rfl, rfl⟩
  | some a =>
    obtain ⟨ab, ao, asp⟩ := a
    go_enter Try.func47, Try.ntmps47
    go_wp2_with (at_builtin; refine Lib.wpList_append_run _ rfl _ _ _ _ rfl _ _ rfl rfl _ _ hr ?_)
    all_goals (go_ret; exact ⟨rfl, rfl⟩)
end Go.Proofs.Ythjnidcmhegoeaa.Abs
