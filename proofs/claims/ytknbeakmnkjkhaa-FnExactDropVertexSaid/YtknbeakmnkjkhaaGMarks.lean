/- What the laws do with graphs besides the program: sizes, copies, marks. No statement of the seat is proved here. -/
import Derived.LoopN
import Derived.Deep.RegionHeld3
import Derived.Test.YtknbeakmnkjkhaaRows
import Derived.WalkKit
import Derived.WalkSpells
import Derived.WalkLawsBesides
import Derived.Lib.Hide
import Derived.Handy
import Derived.BigQuiet
import Derived.Deep.QuietTactic
import Derived.Test.YtknbeakmnkjkhaaLib
import Derived.Test.YtknbeakmnkjkhaaOwn
import Derived.Test.YtknbeakmnkjkhaaJobs
import Derived.Test.YtknbeakmnkjkhaaCodes
import Derived.Test.YtknbeakmnkjkhaaCodes2
import Derived.Test.YtknbeakmnkjkhaaCodes3
import Derived.Test.YtknbeakmnkjkhaaFrames
import Derived.Test.YtknbeakmnkjkhaaFrames2
import Derived.Test.YtknbeakmnkjkhaaGraphs
import Derived.Test.YtknbeakmnkjkhaaGValid
import Derived.Test.YtknbeakmnkjkhaaMarks
set_option linter.unusedSimpArgs false
set_option linter.unusedVariables false
namespace Go.Proofs.Ytknbeakmnkjkhaa
open Go.RowKit

theorem sz_edgeL (w : World) : (sizeOf 45).run Try.prog w = .ok 3 w := by kernel_rfl
theorem ev_set : ∀ (xs : List E3) (k : Nat) (e : E3), k < xs.length → (((ev xs).set (k * 3) (.int .i64 e.1)).set (k * 3 + 1) (.int .i64 e.2.1)).set (k * 3 + 2) (.int .i64 e.2.2) = ev (xs.set k e)
  | x :: t, 0, e, _ => by simp [ev]
  | x :: t, k + 1, e, h => by
    have := ev_set t k e (by simpa using h)
    rw [show (k + 1) * 3 = k * 3 + 1 + 1 + 1 by omega]
    simp only [ev, List.set_cons_succ]
    rw [this]
theorem Own.edge_at {w : World} {base g n c : Nat} {xs : List E3} (h : Own w base 47 3 (some ⟨g, 0, none⟩) n c (ev xs)) (k : Nat) (hk : k < xs.length) :
    w.cell? ⟨g, k * 3, none⟩ = some (.int .i64 xs[k].1) ∧ w.cell? ⟨g, k * 3 + 1, none⟩ = some (.int .i64 xs[k].2.1) ∧ w.cell? ⟨g, k * 3 + 2, none⟩ = some (.int .i64 xs[k].2.2) := by
  have hl := h.length_
  rw [ev_len] at hl
  obtain ⟨h0, h1, h2⟩ := ev_get xs k hk
  exact ⟨(h.cell_at _ (by omega)).trans h0, (h.cell_at _ (by omega)).trans h1, (h.cell_at _ (by omega)).trans h2⟩
theorem Own.edge_set {w : World} {base g n c : Nat} {xs : List E3} (h : Own w base 47 3 (some ⟨g, 0, none⟩) n c (ev xs)) (k : Nat) (e : E3) (hk : k < xs.length) :
    Own (((w.setCell ⟨g, k * 3, none⟩ (.int .i64 e.1)).setCell ⟨g, k * 3 + 1, none⟩ (.int .i64 e.2.1)).setCell ⟨g, k * 3 + 2, none⟩ (.int .i64 e.2.2)) base 47 3 (some ⟨g, 0, none⟩) n c (ev (xs.set k e)) := by
  have := ((h.set_at (k * 3) (.int .i64 e.1)).set_at (k * 3 + 1) (.int .i64 e.2.1)).set_at (k * 3 + 2) (.int .i64 e.2.2)
  rw [ev_set xs k e hk] at this
  exact this

theorem ev_zero : ∀ (n i : Nat), (ev (List.replicate n (0, 0, 0)))[i]? = if i < n * 3 then some (Value.int .i64 0) else none
  | 0, i => by simp [ev]
  | n + 1, 0 => by simp [List.replicate_succ, ev]
  | n + 1, 1 => by simp [List.replicate_succ, ev]; omega
  | n + 1, 2 => by simp [List.replicate_succ, ev]; omega
  | n + 1, i + 3 => by
    simp only [List.replicate_succ, ev, List.getElem?_cons_succ]
    rw [ev_zero n i]
    by_cases h : i < n * 3
    · rw [if_pos h, if_pos (by omega)]
    · rw [if_neg h, if_neg (by omega)]
theorem made_edges (n : Nat) : (madeCells (Value.agg #[.int .i64 0, .int .i64 0, .int .i64 0]).cells (n * 3)).toList = ev (List.replicate n (0, 0, 0)) := by
  apply List.ext_getElem?
  intro i
  rw [ev_zero]
  show (madeCells #[Value.int .i64 0, .int .i64 0, .int .i64 0] (n * 3)).toList[i]? = _
  simp only [madeCells, Array.toList_map, Array.toList_range, List.getElem?_map, List.getElem?_range]
  by_cases h : i < n * 3
  · have h3 : i % 3 = 0 ∨ i % 3 = 1 ∨ i % 3 = 2 := by omega
    rcases h3 with h3 | h3 | h3 <;> simp [h, h3]
  · simp [h]

set_option maxRecDepth 100000 in
set_option maxHeartbeats 400000 in
theorem lawsSzGraph (m : Int) (ao : Option Addr) (n c : Nat) (w : World) (hn : n ≤ maxLen) :
    Calls Try.prog 15 #[gr m ao n c, .int .i64 1048576] w fun e w' => e = .returned (.int .i64 (szR 1048576 n)) ∧ Below w.heap.size w w' := by
  unfold maxLen at hn
  have KS : ∀ W, Hid (Calls Try.prog 60 #[.slice ao n c, .int .i64 1048576] W fun e w' => e = .returned (.int .i64 (szR 1048576 n)) ∧ W = w') := by
    intro W
    apply Lib.hid
    by_cases h : (1048576 : Int) - n < 0
    · have HE : Hid (szR 1048576 n = -1) := by unfold Hid szR; rw [if_pos h]
      go_enter Try.func60, Try.ntmps60
      go_wp2
      go_ret
      exact ⟨ret_int HE.out.symm, rfl⟩
    · have HE : Hid (szR 1048576 n = 1048576 - n) := by unfold Hid szR; rw [if_neg h]
      have h2 : 0 ≤ (1048576 : Int) - n := by omega
      clear h
      go_enter Try.func60, Try.ntmps60
      go_wp2
      go_ret
      exact ⟨ret_int HE.out.symm, rfl⟩
  have hz : szR 1048576 n = -1 ∨ 0 ≤ szR 1048576 n := by unfold szR; split <;> omega
  generalize szR 1048576 n = z at *
  have KS := Lib.hid KS
  rcases hz with rfl | hz
  · go_enter Try.func15, Try.ntmps15
    go_wp2_with (go_at_call 60; refine (KS.out _).out.mono ?_; rintro e w1 ⟨rfl, rfl⟩)
    go_ret
    exact ⟨rfl, (by repeat' (first | (with_reducible exact Below.refl _ _) | (with_reducible assumption) | (with_reducible refine Below.alloc ?_ ?_ _) | (with_reducible refine Below.drew ?_) | (with_reducible refine below_drewN ?_ _) | (with_reducible refine Below.setCell ?_ ?_ _) | (refine bstep (by with_reducible assumption) ?_) | (refine bstep2 (by with_reducible assumption) (by first | omega | (simp; done) | (simp; omega)) ?_) | go_size))⟩
  · go_enter Try.func15, Try.ntmps15
    go_wp2_with (go_at_call 60; refine (KS.out _).out.mono ?_; rintro e w1 ⟨rfl, rfl⟩)
    go_ret
    exact ⟨rfl, (by repeat' (first | (with_reducible exact Below.refl _ _) | (with_reducible assumption) | (with_reducible refine Below.alloc ?_ ?_ _) | (with_reducible refine Below.drew ?_) | (with_reducible refine below_drewN ?_ _) | (with_reducible refine Below.setCell ?_ ?_ _) | (refine bstep (by with_reducible assumption) ?_) | (refine bstep2 (by with_reducible assumption) (by first | omega | (simp; done) | (simp; omega)) ?_) | go_size))⟩

set_option maxRecDepth 100000 in
set_option maxHeartbeats 400000 in
theorem lawsToEdge (e : E3) (w : World) : Calls Try.prog 31 #[ed e] w fun r w' => r = .returned (ed e) ∧ Below w.heap.size w w' := by
  obtain ⟨a, b, c⟩ := e
  go_enter Try.func31, Try.ntmps31
  go_wp2
  exact bodyPost_ret (v := ed (a, b, c)) (by simp [results, Try.results31, go_sem]) rfl ⟨rfl, (by repeat' (first | (with_reducible exact Below.refl _ _) | (with_reducible assumption) | (with_reducible refine Below.alloc ?_ ?_ _) | (with_reducible refine Below.drew ?_) | (with_reducible refine below_drewN ?_ _) | (with_reducible refine Below.setCell ?_ ?_ _) | (refine bstep (by with_reducible assumption) ?_) | (refine bstep2 (by with_reducible assumption) (by first | omega | (simp; done) | (simp; omega)) ?_) | go_size))⟩

set_option maxRecDepth 100000 in
set_option maxHeartbeats 2000000 in
theorem lawsToEdgeS (ao : Option Addr) (c : Nat) (es : List E3) (w : World) (hl : es.length ≤ 1048576) (hs : Se w ao es) :
    Calls Try.prog 63 #[.slice ao es.length c] w fun e w' => ∃ ao' c', e = .returned (.slice ao' es.length c') ∧ Own w' w.heap.size 47 3 ao' es.length c' (ev es) ∧ Below w.heap.size w w' ∧ ao' ≠ none := by
  obtain ⟨b, o, ha, hE⟩ := hs.edges
  have hix := ha.ixN (c := c) 3 Try.underlying22 sz_edgeL
  have HS := Lib.hid hE
  have KT := Lib.hid (fun a b c W => Lib.hid (lawsToEdge (a, b, c) W))
  clear hs hE ha
  go_enter Try.func63, Try.ntmps63
  go_wp2_with (first | (at_make; refine wp_make _ el_edge rfl _ _ rfl w.heap.size es.length rfl rfl (by omega) (by simp only [maxLen]; omega) (Nat.le_refl _) ?_; intro w1 hown hg))
  have hb1 : Below w.heap.size w w1 := (Below.refl _ _).grown hg (Nat.le_refl _) (by simp)
  have hL0 : Hid (∃ L : List E3, L.length = es.length ∧ L.take 0 = es.take 0 ∧ Own w1 w.heap.size 47 3 (some ⟨w.heap.size, 0, none⟩) es.length es.length (ev L)) := by
    refine Lib.hid ⟨List.replicate es.length (0, 0, 0), by simp, by simp, ?_⟩
    exact own_len hown rfl (made_edges _)
  have hBw := hb1.size
  clear hown hg
  go_loopw [4] (fun i wr => ∃ k : Nat, k ≤ es.length ∧ i = .int .i64 k ∧ Hid (∃ L : List E3, L.length = es.length ∧ L.take k = es.take k ∧ Own wr w.heap.size 47 3 (some ⟨w.heap.size, 0, none⟩) es.length es.length (ev L)) ∧ Below w.heap.size w wr) (fun i _ => es.length - (intOf i).toNat)
  case atStart => exact ⟨0, Nat.zero_le _, rfl, hL0, hb1⟩
  case round =>
    obtain ⟨k, hk, rfl, HL, hb⟩ := hrel
    clear hL0
    by_cases hlt : k < es.length
    · have hlti : (k : Int) < es.length := by omega
      obtain ⟨L, hLl, hLt, hO⟩ := HL.out
      have hEr : Edg wr b o es := HS.out.below hb (Nat.le_refl _)
      obtain ⟨hc0, hc1, hc2⟩ := hEr k hlt
      have hK : k < L.length := by omega
      obtain ⟨hd0, hd1, hd2⟩ := hO.edge_at k hK
      have hf0 := hO.frozen_at (k * 3)
      have hf1 := hO.frozen_at (k * 3 + 1)
      have hf2 := hO.frozen_at (k * 3 + 2)
      have hgw := (hO.lt_ w.heap.size rfl).2
      have HO := Lib.hid hO
      have HLl := Lib.hid hLl
      have HLt := Lib.hid hLt
      have HE : Hid (es.take k ++ [es[k]] = es.take (k + 1)) := by unfold Hid; rw [List.take_succ_eq_append_getElem hlt]
      generalize es[k] = e at *
      generalize L[k] = z at *
      clear hO hEr HL hLl hLt
      obtain ⟨ea, eb, ec⟩ := e
      dsimp only at hc0 hc1 hc2
      go_wp2_with fail
      refine (KT.out ea eb ec _).out.mono ?_
      rintro r w2 ⟨rfl, hb2⟩
      (obtain ⟨hc2, hf2⟩ := bcell hb2); (try simp only [World.size_drew, World.size_drewN] at hc2 hf2); have hz2 := hb2.size; (try simp only [World.size_alloc, World.size_setCell, World.size_drew, World.size_drewN] at hz2)
      go_wp2
      go_roundw
      case rel =>
        refine ⟨k + 1, by omega, by go_num, ?_, (by repeat' (first | (with_reducible exact Below.refl _ _) | (with_reducible assumption) | (with_reducible refine Below.alloc ?_ ?_ _) | (with_reducible refine Below.drew ?_) | (with_reducible refine below_drewN ?_ _) | (with_reducible refine Below.setCell ?_ ?_ _) | (refine bstep (by with_reducible assumption) ?_) | (refine bstep2 (by with_reducible assumption) (by first | omega | (simp; done) | (simp; omega)) ?_) | go_size))⟩
        apply Lib.hid
        refine ⟨L.set k (ea, eb, ec), by rw [List.length_set]; exact HLl.out, ?_, ?_⟩
        · have hl1 := HLl.out
          rw [← HE.out, ← HLt.out, List.take_succ_eq_append_getElem (show k < (L.set k (ea, eb, ec)).length by rw [List.length_set]; exact hK), List.take_set, List.set_eq_of_length_le (by rw [List.length_take]; omega)]
          simp
        · exact (HO.out.below_ hb2 (Nat.le_refl _)).edge_set k (ea, eb, ec) hK
      case measure => simp [intOf]; omega
    · go_wp2
      go_ret
      obtain ⟨L, hLl, hLt, hO⟩ := HL.out
      have hL : L = es := by
        rw [List.take_of_length_le (by omega), List.take_of_length_le (by omega)] at hLt
        exact hLt
      subst hL
      exact ⟨_, _, rfl, hO, hb, by simp⟩

set_option maxRecDepth 100000 in
set_option maxHeartbeats 1000000 in
theorem lawsToGraph (m : Int) (ao : Option Addr) (c : Nat) (es : List E3) (w : World) (hl : es.length ≤ 1048576) (hs : Se w ao es) :
    Calls Try.prog 17 #[gr m ao es.length c] w fun e w' => ∃ a' c', e = .returned (gr m a' es.length c') ∧ Own w' w.heap.size 47 3 a' es.length c' (ev es) ∧ Below w.heap.size w w' ∧ a' ≠ none := by
  have K1 := Lib.hid (fun W (h : Se W ao es) => Lib.hid (lawsToEdgeS ao c es W hl h))
  have H1 := Lib.hid hs
  clear hs
  go_enter Try.func17, Try.ntmps17
  go_wp2_with fail
  refine (K1.out _ (H1.out.below (B := w.heap.size) (by repeat' (first | (with_reducible exact Below.refl _ _) | (with_reducible assumption) | (with_reducible refine Below.alloc ?_ ?_ _) | (with_reducible refine Below.drew ?_) | (with_reducible refine below_drewN ?_ _) | (with_reducible refine Below.setCell ?_ ?_ _) | (refine bstep (by with_reducible assumption) ?_) | (refine bstep2 (by with_reducible assumption) (by first | omega | (simp; done) | (simp; omega)) ?_) | go_size)) (Nat.le_refl _))).out.mono ?_
  rintro e w1 ⟨b1, k1, rfl, hown1, hb1, hn1⟩
  (obtain ⟨hc1, hf1⟩ := bcell hb1); (try simp only [World.size_drew, World.size_drewN] at hc1 hf1); have hz1 := hb1.size; (try simp only [World.size_alloc, World.size_setCell, World.size_drew, World.size_drewN] at hz1)
  have hl1_00 : w.heap.size < w1.heap.size := (by omega); have hl1_01 : w.heap.size < w1.heap.size + 1 := (by omega); have hl1_02 : w.heap.size < w1.heap.size + 1 + 1 := (by omega); have hn1_00 : ¬ w.heap.size = w1.heap.size := (by omega); have hn1_01 : ¬ w.heap.size = w1.heap.size + 1 := (by omega); have hl1_10 : w.heap.size + 1 < w1.heap.size := (by omega); have hl1_11 : w.heap.size + 1 < w1.heap.size + 1 := (by omega); have hl1_12 : w.heap.size + 1 < w1.heap.size + 1 + 1 := (by omega); have hn1_10 : ¬ w.heap.size + 1 = w1.heap.size := (by omega); have hn1_11 : ¬ w.heap.size + 1 = w1.heap.size + 1 := (by omega); have hl1_20 : w.heap.size + 1 + 1 < w1.heap.size := (by omega); have hl1_21 : w.heap.size + 1 + 1 < w1.heap.size + 1 := (by omega); have hl1_22 : w.heap.size + 1 + 1 < w1.heap.size + 1 + 1 := (by omega); have hn1_20 : ¬ w.heap.size + 1 + 1 = w1.heap.size := (by omega); have hn1_21 : ¬ w.heap.size + 1 + 1 = w1.heap.size + 1 := (by omega)
  have O1 := Lib.hid hown1
  clear hown1
  go_wp2
  have hX1 : blk b1 ≠ some (w.heap.size + 1) := fun e => by have h := (O1.out.lt_ _ e).1; (try simp at h); omega
  have hY1 : blk b1 ≠ some (w.heap.size + 1 + 1) := fun e => by have h := (O1.out.lt_ _ e).1; (try simp at h); omega
  have o1 := O1.out.mono_ (base' := w.heap.size) (by first | omega | (simp; done) | (simp; omega) | go_size)
  refine bodyPost_ret (v := gr m b1 es.length k1) (by simp [results, Try.results17, go_sem, *]) rfl ⟨b1, k1, rfl, ?_, (by repeat' (first | (with_reducible exact Below.refl _ _) | (with_reducible assumption) | (with_reducible refine Below.alloc ?_ ?_ _) | (with_reducible refine Below.drew ?_) | (with_reducible refine below_drewN ?_ _) | (with_reducible refine Below.setCell ?_ ?_ _) | (refine bstep (by with_reducible assumption) ?_) | (refine bstep2 (by with_reducible assumption) (by first | omega | (simp; done) | (simp; omega)) ?_) | go_size)), hn1⟩
  repeat' (first | (with_reducible assumption) | (with_reducible apply Own.drew_) | (with_reducible apply Own.drewN_) | (with_reducible apply Own.alloc_) | (with_reducible refine Own.set_other ?_ ?_ _) | (refine Own.kept_ ?_ (by with_reducible assumption) ?_) | (refine Own.below_ ?_ (by with_reducible assumption) ?_) | (exact Nat.le_refl _) | omega)

set_option maxRecDepth 100000 in
set_option maxHeartbeats 400000 in
theorem eqEdgeG (e : E3) (w : World) : Calls Try.prog 119 #[ed e, ed e] w fun r w' => r = .returned (.bool true) ∧ Below w.heap.size w w' := by
  obtain ⟨a, b, c⟩ := e
  go_enter Try.func119, Try.ntmps119
  go_wp2
  go_ret
  exact ⟨rfl, (by repeat' (first | (with_reducible exact Below.refl _ _) | (with_reducible assumption) | (with_reducible refine Below.alloc ?_ ?_ _) | (with_reducible refine Below.drew ?_) | (with_reducible refine below_drewN ?_ _) | (with_reducible refine Below.setCell ?_ ?_ _) | (refine bstep (by with_reducible assumption) ?_) | (refine bstep2 (by with_reducible assumption) (by first | omega | (simp; done) | (simp; omega)) ?_) | go_size))⟩

set_option maxRecDepth 100000 in
set_option maxHeartbeats 2000000 in
theorem lawsEqEdgeS (ao bo : Option Addr) (c d : Nat) (es : List E3) (w : World) (hl : es.length ≤ 4194304) (h1 : Se w ao es) (h2 : Se w bo es) :
    Calls Try.prog 66 #[.slice ao es.length c, .slice bo es.length d] w fun e w' => e = .returned (.bool true) ∧ Below w.heap.size w w' := by
  obtain ⟨b1, o1, ha1, hE1⟩ := h1.edges
  obtain ⟨b2, o2, ha2, hE2⟩ := h2.edges
  have hix1 := ha1.ixN (c := c) 3 Try.underlying26 sz_edge
  have hix2 := ha2.ixN (c := d) 3 Try.underlying26 sz_edge
  have HS1 := Lib.hid hE1
  have HS2 := Lib.hid hE2
  have KE := Lib.hid (fun x y z W => Lib.hid (eqEdgeG (x, y, z) W))
  have hne : ((es.length : Int) != es.length) = false := by simp
  clear h1 h2 hE1 hE2 ha1 ha2
  go_enter Try.func66, Try.ntmps66
  go_wp2
  go_loopw [5] (fun i wr => ∃ k : Nat, k ≤ es.length ∧ i = .int .i64 k ∧ Below w.heap.size w wr) (fun i _ => es.length - (intOf i).toNat)
  case atStart => exact ⟨0, Nat.zero_le _, rfl, Below.refl _ _⟩
  case round =>
    obtain ⟨k, hk, rfl, hb⟩ := hrel
    by_cases hlt : k < es.length
    · have hlti : (k : Int) < es.length := by omega
      obtain ⟨hc0, hc1, hc2⟩ := HS1.out.below hb (Nat.le_refl _) k hlt
      obtain ⟨hd0, hd1, hd2⟩ := HS2.out.below hb (Nat.le_refl _) k hlt
      have hq1 : b1 < wr.heap.size := (HS1.out.below hb (Nat.le_refl _)).lt (by omega)
      have hq2 : b2 < wr.heap.size := (HS2.out.below hb (Nat.le_refl _)).lt (by omega)
      generalize es[k] = e at *
      obtain ⟨ea, eb, ec⟩ := e
      dsimp only at hc0 hc1 hc2 hd0 hd1 hd2
      go_wp2
      go_region_held3 (fun w' => w'.cell? ⟨b1, o1 + k * 3, none⟩ = some (.int .i64 ea) ∧ w'.cell? ⟨b1, o1 + k * 3 + 1, none⟩ = some (.int .i64 eb) ∧ w'.cell? ⟨b1, o1 + k * 3 + 2, none⟩ = some (.int .i64 ec) ∧ w'.cell? ⟨b2, o2 + k * 3, none⟩ = some (.int .i64 ea) ∧ w'.cell? ⟨b2, o2 + k * 3 + 1, none⟩ = some (.int .i64 eb) ∧ w'.cell? ⟨b2, o2 + k * 3 + 2, none⟩ = some (.int .i64 ec)) (go_keep) (first | ((try go_simp); go_at_call 119; (with_reducible refine (KE.out _ _ _ _).out.mono ?_); rintro r w1 ⟨rfl, hb1⟩; (obtain ⟨hc1, hf1⟩ := bcell hb1); (try simp only [World.size_drew, World.size_drewN] at hc1 hf1); have hz1 := hb1.size; (try simp only [World.size_alloc, World.size_setCell, World.size_drew, World.size_drewN] at hz1)))
      go_wp2
      go_roundw
      case rel => exact ⟨k + 1, by omega, by go_num, (by repeat' (first | (with_reducible exact Below.refl _ _) | (with_reducible assumption) | (with_reducible refine Below.alloc ?_ ?_ _) | (with_reducible refine Below.drew ?_) | (with_reducible refine below_drewN ?_ _) | (with_reducible refine Below.setCell ?_ ?_ _) | (refine bstep (by with_reducible assumption) ?_) | (refine bstep2 (by with_reducible assumption) (by first | omega | (simp; done) | (simp; omega)) ?_) | go_size))⟩
      case measure => simp [intOf]; omega
    · go_wp2
      go_ret
      exact ⟨rfl, hb⟩

set_option maxRecDepth 100000 in
set_option maxHeartbeats 1000000 in
theorem lawsEqGraph (m : Int) (ao bo : Option Addr) (c d : Nat) (es : List E3) (w : World) (hl : es.length ≤ 4194304) (h1 : Se w ao es) (h2 : Se w bo es) :
    Calls Try.prog 19 #[gr m ao es.length c, gr m bo es.length d] w fun e w' => e = .returned (.bool true) ∧ Below w.heap.size w w' := by
  have K1 := Lib.hid (fun W (h : Se W ao es) (h' : Se W bo es) => Lib.hid (lawsEqEdgeS ao bo c d es W hl h h'))
  have H1 := Lib.hid h1
  have H2 := Lib.hid h2
  have hm : (m != m) = false := by simp
  clear h1 h2
  go_enter Try.func19, Try.ntmps19
  go_wp2_with fail
  refine (K1.out _ (H1.out.below (B := w.heap.size) (by repeat' (first | (with_reducible exact Below.refl _ _) | (with_reducible assumption) | (with_reducible refine Below.alloc ?_ ?_ _) | (with_reducible refine Below.drew ?_) | (with_reducible refine below_drewN ?_ _) | (with_reducible refine Below.setCell ?_ ?_ _) | (refine bstep (by with_reducible assumption) ?_) | (refine bstep2 (by with_reducible assumption) (by first | omega | (simp; done) | (simp; omega)) ?_) | go_size)) (Nat.le_refl _)) (H2.out.below (B := w.heap.size) (by repeat' (first | (with_reducible exact Below.refl _ _) | (with_reducible assumption) | (with_reducible refine Below.alloc ?_ ?_ _) | (with_reducible refine Below.drew ?_) | (with_reducible refine below_drewN ?_ _) | (with_reducible refine Below.setCell ?_ ?_ _) | (refine bstep (by with_reducible assumption) ?_) | (refine bstep2 (by with_reducible assumption) (by first | omega | (simp; done) | (simp; omega)) ?_) | go_size)) (Nat.le_refl _))).out.mono ?_
  rintro e w1 ⟨rfl, hb1⟩
  go_wp2
  go_ret
  exact ⟨rfl, (by repeat' (first | (with_reducible exact Below.refl _ _) | (with_reducible assumption) | (with_reducible refine Below.alloc ?_ ?_ _) | (with_reducible refine Below.drew ?_) | (with_reducible refine below_drewN ?_ _) | (with_reducible refine Below.setCell ?_ ?_ _) | (refine bstep (by with_reducible assumption) ?_) | (refine bstep2 (by with_reducible assumption) (by first | omega | (simp; done) | (simp; omega)) ?_) | go_size))⟩

/-- Marked edges: three numbers each, from k on. -/
def mkE (k : Int) (n : Nat) : List E3 := (List.range n).map fun (i : Nat) => (k + 3 * (i : Int), k + 3 * (i : Int) + 1, k + 3 * (i : Int) + 2)
theorem mkE_len (k : Int) (n : Nat) : (mkE k n).length = n := by simp [mkE]
theorem mkE_get (k : Int) (n i : Nat) (h : i < (mkE k n).length) : (mkE k n)[i] = (k + 3 * (i : Int), k + 3 * (i : Int) + 1, k + 3 * (i : Int) + 2) := by simp [mkE]

set_option maxRecDepth 100000 in
set_option maxHeartbeats 2000000 in
theorem lawsMarkEdgeS (base : Nat) (ao : Option Addr) (c : Nat) (es : List E3) (K : Int) (w : World) (h0 : 0 ≤ K) (h1 : K ≤ 1099511627776) (hl : es.length ≤ 4194304) (hO : Own w base 47 3 ao es.length c (ev es)) :
    Calls Try.prog 67 #[.slice ao es.length c, .int .i64 K] w fun e w' => e = .returned (.int .i64 (K + 3 * es.length)) ∧ Own w' base 47 3 ao es.length c (ev (mkE K es.length)) ∧ w.grownBy w' (blk ao) := by
  rcases hO.form_ with ⟨rfl, hn, rfl⟩ | ⟨g, rfl, hb, hg⟩
  · have hx : es = [] := List.eq_nil_of_length_eq_zero hn
    subst hx
    go_enter Try.func67, Try.ntmps67
    go_wp2
    refine wp_loop_rounds 1 ?_
    rw [rounds_succ]
    go_wp2
    go_ret
    exact ⟨ret_int (by simp), Own.nil_ _ _ _ _, gb_refl _ _⟩
  · have hM := mkE_len K es.length
    have hMg := mkE_get K es.length
    generalize mkE K es.length = M at *
    have HMG := Lib.hid hMg
    have HM := Lib.hid hM
    have hs := sz_edge
    clear hMg hM
    go_enter Try.func67, Try.ntmps67
    go_wp2
    go_loopw [1, 5] (fun kk i wr => ∃ j : Nat, j ≤ es.length ∧ i = .int .i64 j ∧ kk = .int .i64 (K + 3 * j) ∧ Hid (∃ L : List E3, L.length = es.length ∧ L.take j = M.take j ∧ Own wr base 47 3 (some ⟨g, 0, none⟩) es.length c (ev L)) ∧ w.grownBy wr (some g)) (fun _ i _ => es.length - (intOf i).toNat)
    case atStart => exact ⟨0, Nat.zero_le _, rfl, by simp, Lib.hid ⟨es, rfl, by simp, hO⟩, gb_refl _ _⟩
    case round =>
      obtain ⟨j, hj, rfl, rfl, HL, hgr⟩ := hrel
      have HO0 := Lib.hid hO
      clear hO
      by_cases hlt : j < es.length
      · have hlti : (j : Int) < es.length := by omega
        obtain ⟨L, hLl, hLt, hO⟩ := HL.out
        have hK : j < L.length := by omega
        obtain ⟨hd0, hd1, hd2⟩ := hO.edge_at j hK
        have hf0 := hO.frozen_at (j * 3)
        have hf1 := hO.frozen_at (j * 3 + 1)
        have hf2 := hO.frozen_at (j * 3 + 2)
        have HO := Lib.hid hO
        have HLl := Lib.hid hLl
        have HLt := Lib.hid hLt
        have hMj : j < M.length := by have := HM.out; omega
        have HE : Hid (M.take j ++ [(K + 3 * (j : Int), K + 3 * (j : Int) + 1, K + 3 * (j : Int) + 2)] = M.take (j + 1)) := by unfold Hid; rw [List.take_succ_eq_append_getElem hMj, HMG.out j hMj]
        generalize L[j] = z at *
        clear hO HL hLl hLt
        go_wp2
        go_roundw
        case rel =>
          refine ⟨j + 1, by omega, by go_num, by congr 1; omega, ?_, gb_set (gb_set (gb_set hgr (.inl rfl) _) (.inl rfl) _) (.inl rfl) _⟩
          apply Lib.hid
          refine ⟨L.set j (K + 3 * (j : Int), K + 3 * (j : Int) + 1, K + 3 * (j : Int) + 2), by rw [List.length_set]; exact HLl.out, ?_, ?_⟩
          · rw [← HE.out, ← HLt.out, List.take_succ_eq_append_getElem (show j < (L.set j (K + 3 * (j : Int), K + 3 * (j : Int) + 1, K + 3 * (j : Int) + 2)).length by rw [List.length_set]; exact hK), List.take_set, List.set_eq_of_length_le (by rw [List.length_take]; omega)]
            simp
          · have h5 := HO.out.edge_set j (K + 3 * (j : Int), K + 3 * (j : Int) + 1, K + 3 * (j : Int) + 2) hK
            first | exact h5 | (simp only [show K + 3 * (j : Int) + 1 + 1 = K + 3 * (j : Int) + 2 by omega]; exact h5)
        case measure => simp [intOf]; omega
      · have hjn : j = es.length := by omega
        have HJ := Lib.hid hjn
        clear hjn
        go_wp2
        go_ret
        obtain ⟨L, hLl, hLt, hO⟩ := HL.out
        have hL : L = M := by
          have := HM.out
          rw [List.take_of_length_le (by omega), List.take_of_length_le (by omega)] at hLt
          exact hLt
        subst hL
        exact ⟨ret_int (by rw [HJ.out]), hO, hgr⟩

set_option maxRecDepth 100000 in
set_option maxHeartbeats 1000000 in
theorem lawsHeldEdgeS (ao : Option Addr) (n c : Nat) (K : Int) (w : World) (h0 : 0 ≤ K) (h1 : K ≤ 1099511627776) (hl : n ≤ 4194304) (h : Src w ao n 3 (ev (mkE K n))) :
    Calls Try.prog 68 #[.slice ao n c, .int .i64 K] w fun e w' => e = .returned (.int .i64 (K + 3 * n)) ∧ w = w' := by
  have hM := mkE_len K n
  have hMg := mkE_get K n
  generalize mkE K n = M at *
  have h' : Se w ao M := by rw [← hM] at h; exact h
  obtain ⟨b, o, ha, hE⟩ := h'.edges
  have ha' : At ao b o n := by rw [hM] at ha; exact ha
  have hix := ha'.ixN (c := c) 3 Try.underlying26 sz_edge
  have HM := Lib.hid hM
  have HMG := Lib.hid hMg
  have HS := Lib.hid hE
  clear h h' hE hM hMg ha ha'
  go_enter Try.func68, Try.ntmps68
  go_wp2
  go_loop [1, 5] (fun kk i => ∃ j : Nat, j ≤ n ∧ i = .int .i64 j ∧ kk = .int .i64 (K + 3 * j)) (fun _ i => n - (intOf i).toNat)
  case atStart => exact ⟨0, Nat.zero_le _, rfl, by simp⟩
  case round =>
    obtain ⟨j, hj, rfl, rfl⟩ := hrel
    by_cases hlt : j < n
    · have hlti : (j : Int) < n := by omega
      have hjl : j < M.length := by have := HM.out; omega
      obtain ⟨hc0, hc1, hc2⟩ := HS.out j hjl
      rw [HMG.out j hjl] at hc0 hc1 hc2
      dsimp only at hc0 hc1 hc2
      have hn0 : ((K + 3 * (j : Int)) != (K + 3 * (j : Int))) = false := by simp
      have hn1 : ((K + 3 * (j : Int) + 1) != (K + 3 * (j : Int) + 1)) = false := by simp
      have hn2 : ((K + 3 * (j : Int) + 2) != (K + 3 * (j : Int) + 1 + 1)) = false := by simp; omega
      have hn3 : ((K + 3 * (j : Int) + 2) != (K + 3 * (j : Int) + 2)) = false := by simp
      go_wp2
      go_round
      case rel => exact ⟨j + 1, by omega, by go_num, by congr 1; omega⟩
      case measure => simp [intOf]; omega
    · have hjn : j = n := by omega
      have HJ := Lib.hid hjn
      clear hjn
      go_wp2
      go_ret
      exact ⟨ret_int (by rw [HJ.out]), rfl⟩
end Go.Proofs.Ytknbeakmnkjkhaa
