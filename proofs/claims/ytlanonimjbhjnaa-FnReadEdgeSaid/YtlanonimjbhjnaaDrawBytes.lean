/- Drawn bytes. No statement of the seat is proved here. -/
import Derived.Test.YtlanonimjbhjnaaRows
import Derived.WalkKit
import Derived.WalkSpells
import Derived.WalkLawsBesides
import Derived.Lib.Hide
import Derived.Handy
import Derived.BigQuiet
import Derived.Deep.QuietTactic
import Derived.Test.YtlanonimjbhjnaaLib
import Derived.Test.YtlanonimjbhjnaaOwn
import Derived.Test.YtlanonimjbhjnaaJobs
import Derived.Test.YtlanonimjbhjnaaCodes
import Derived.Test.YtlanonimjbhjnaaCodes2
import Derived.Test.YtlanonimjbhjnaaDraw
import Derived.Test.YtlanonimjbhjnaaDrawJob
set_option linter.unusedSimpArgs false
set_option linter.unusedVariables false
namespace Go.Proofs.Ytlanonimjbhjnaa
open Go.RowKit

theorem Own.gbr {w w' : World} {base E size n c rb : Nat} {ao : Option Addr} {cs : List Value} (h : Own w base E size ao n c cs) (hg : w.grownBy w' (some rb)) (hr : rb < base) : Own w' base E size ao n c cs :=
  h.kept_ hg (fun g hb e => by have := (h.lt_ g hb).1; simp at e; omega)
theorem Dr.gbo {w w' : World} {rb N : Nat} {row : Option Nat} (h : Dr w rb N) (hg : w.grownBy w' row) (hr : ∀ g, row = some g → rb < g) : Dr w' rb N := by
  cases row with
  | some g => exact h.gbg hg (hr g rfl)
  | none => exact h.gbg (g := w.heap.size) ⟨hg.os, hg.tape, hg.output, hg.size, fun i hi _ => hg.block i hi (by simp)⟩ h.lt
theorem gb_own {a w w' : World} {rb : Nat} {row : Option Nat} (h : a.grownBy w (some rb)) (k : w.grownBy w' row) (hr : ∀ g, row = some g → a.heap.size ≤ g) : a.grownBy w' (some rb) :=
  ⟨k.os.trans h.os, k.tape.trans h.tape, k.output.trans h.output, Nat.le_trans h.size k.size, fun i hi hne => (k.block i (Nat.lt_of_lt_of_le hi h.size) (fun e => by
    have := hr i e.symm
    omega)).trans (h.block i hi hne)⟩

/-- A list of numbers is drawn. -/
def ListPost (w : World) (rb M L : Nat) (lo hi : Int) (e : Ending) (w' : World) : Prop :=
  ∃ (xs : List Int) (ao : Option Addr) (c : Nat), e = .returned (.slice ao xs.length c) ∧ Own w' w.heap.size 3 1 ao xs.length c (iv xs) ∧ xs.length ≤ L ∧ (∀ z ∈ xs, lo ≤ z ∧ z ≤ hi) ∧ Dr w' rb M ∧ w.grownBy w' (some rb)
def BytesRel (w : World) (rb N : Nat) (v k : Value) (wr : World) : Prop :=
  ∃ (xs : List Int) (ao : Option Addr) (l c : Nat) (i : Nat), k = .int .i64 (i : Int) ∧ i ≤ 11 ∧ v = .slice ao l c ∧ l = xs.length ∧ Own wr w.heap.size 3 1 ao l c (iv xs) ∧ l + i ≤ 11 ∧ (∀ z ∈ xs, -1 ≤ z ∧ z ≤ 256) ∧ Dr wr rb (N + 1 + 4 * (11 - i)) ∧ w.grownBy wr (some rb)
set_option maxRecDepth 100000 in
set_option maxHeartbeats 2000000 in
theorem l20Bytes (rb N : Nat) (n : Int) (w : World) (hN : N ≤ 100000) (hD : Dr w rb N) (hn : I64 n) :
    Calls Try.prog 63 #[.pointer (some ⟨rb, 0, none⟩), .int .i64 n] w (ListPost w rb (N + 50) 2001 (-1) 256) := by
  have hrb := hD.lt
  go_enter Try.func63, Try.ntmps63
  go_wp2_with fail
  refine (pick rb (N) _ _ (by omega) (Dr.below (B := w.heap.size) hD (by repeat' (first | (with_reducible exact Below.refl _ _) | (with_reducible assumption) | (with_reducible refine Below.alloc ?_ ?_ _) | (with_reducible refine Below.drew ?_) | (with_reducible refine below_drewN ?_ _) | (with_reducible refine Below.setCell ?_ ?_ _) | (refine bstep (by with_reducible assumption) ?_) | go_size)) (Nat.le_refl _))).mono ?_
  rintro e w1 ⟨m1, rfl, hD1, hg1, hm10, hm11, hm12⟩
  obtain ⟨hc1, hf1⟩ := gcell hg1
  have hz1 := hg1.size; try simp only [World.size_alloc, World.size_setCell, World.size_drew, World.size_drewN] at hz1
  have hG1 : w.grownBy w1 (some rb) := gb_trans (gb_of_below (by repeat' (first | (with_reducible exact Below.refl _ _) | (with_reducible assumption) | (with_reducible refine Below.alloc ?_ ?_ _) | (with_reducible refine Below.drew ?_) | (with_reducible refine below_drewN ?_ _) | (with_reducible refine Below.setCell ?_ ?_ _) | (refine bstep (by with_reducible assumption) ?_) | go_size)) _) hg1
  have hm1 : m1 ≤ 11 := by omega
  have hO1 : Own w1 w.heap.size 3 1 (some ⟨w.heap.size, 0, none⟩) 0 0 (iv []) := (Own.new0 w w.heap.size _ 1 (Nat.le_refl _)).gbr hg1 hrb
  obtain ⟨i1, rfl⟩ := Int.eq_ofNat_of_zero_le hm10
  go_wp2
  go_loopw [5, 6] (fun v k wr => BytesRel w rb N v k wr) (fun v k _ => (intOf k).toNat)
  case atStart => exact ⟨[], _, 0, 0, i1, rfl, by omega, rfl, rfl, hO1, by omega, by simp, hD1.mono (by omega), hG1⟩
  case round =>
    obtain ⟨xs, ao, l, c, i, rfl, hi, rfl, rfl, hown, hli, hxs, hDr, hgr⟩ := hrel
    have hO := Lib.hid hown
    have hXS := Lib.hid hxs
    have hz0 := hgr.size
    clear hown hxs hO1 hD1 hG1 hg1 hc1 hf1
    by_cases hi0 : 0 < i
    · (go_wp2_with fail); (refine (pick rb (N + 1 + 4 * (11 - i)) _ _ (by omega) (Dr.below (B := wr.heap.size) hDr (by repeat' (first | (with_reducible exact Below.refl _ _) | (with_reducible assumption) | (with_reducible refine Below.alloc ?_ ?_ _) | (with_reducible refine Below.drew ?_) | (with_reducible refine below_drewN ?_ _) | (with_reducible refine Below.setCell ?_ ?_ _) | (refine bstep (by with_reducible assumption) ?_) | go_size)) (Nat.le_refl _))).mono ?_); (rintro e w2 ⟨m2, rfl, hD2, hg2, hm20, hm21, hm22⟩); (obtain ⟨hc2, hf2⟩ := gcell hg2); (have hz2 := hg2.size); (try simp only [World.size_alloc, World.size_setCell, World.size_drew, World.size_drewN] at hz2); (have hG2 : wr.grownBy w2 (some rb) := gb_trans (gb_of_below (by repeat' (first | (with_reducible exact Below.refl _ _) | (with_reducible assumption) | (with_reducible refine Below.alloc ?_ ?_ _) | (with_reducible refine Below.drew ?_) | (with_reducible refine below_drewN ?_ _) | (with_reducible refine Below.setCell ?_ ?_ _) | (refine bstep (by with_reducible assumption) ?_) | go_size)) _) hg2)
      (go_wp2_with fail); (refine (pick rb (N + 1 + 4 * (11 - i) + 1) _ _ (by omega) (Dr.below (B := w2.heap.size) hD2 (by repeat' (first | (with_reducible exact Below.refl _ _) | (with_reducible assumption) | (with_reducible refine Below.alloc ?_ ?_ _) | (with_reducible refine Below.drew ?_) | (with_reducible refine below_drewN ?_ _) | (with_reducible refine Below.setCell ?_ ?_ _) | (refine bstep (by with_reducible assumption) ?_) | go_size)) (Nat.le_refl _))).mono ?_); (rintro e w3 ⟨m3, rfl, hD3, hg3, hm30, hm31, hm32⟩); (obtain ⟨hc3, hf3⟩ := gcell hg3); (have hz3 := hg3.size); (try simp only [World.size_alloc, World.size_setCell, World.size_drew, World.size_drewN] at hz3); (have hG3 : w2.grownBy w3 (some rb) := gb_trans (gb_of_below (by repeat' (first | (with_reducible exact Below.refl _ _) | (with_reducible assumption) | (with_reducible refine Below.alloc ?_ ?_ _) | (with_reducible refine Below.drew ?_) | (with_reducible refine below_drewN ?_ _) | (with_reducible refine Below.setCell ?_ ?_ _) | (refine bstep (by with_reducible assumption) ?_) | go_size)) _) hg3)
      (go_wp2_with fail); (refine (pick rb (N + 1 + 4 * (11 - i) + 1 + 1) _ _ (by omega) (Dr.below (B := w3.heap.size) hD3 (by repeat' (first | (with_reducible exact Below.refl _ _) | (with_reducible assumption) | (with_reducible refine Below.alloc ?_ ?_ _) | (with_reducible refine Below.drew ?_) | (with_reducible refine below_drewN ?_ _) | (with_reducible refine Below.setCell ?_ ?_ _) | (refine bstep (by with_reducible assumption) ?_) | go_size)) (Nat.le_refl _))).mono ?_); (rintro e w4 ⟨m4, rfl, hD4, hg4, hm40, hm41, hm42⟩); (obtain ⟨hc4, hf4⟩ := gcell hg4); (have hz4 := hg4.size); (try simp only [World.size_alloc, World.size_setCell, World.size_drew, World.size_drewN] at hz4); (have hG4 : w3.grownBy w4 (some rb) := gb_trans (gb_of_below (by repeat' (first | (with_reducible exact Below.refl _ _) | (with_reducible assumption) | (with_reducible refine Below.alloc ?_ ?_ _) | (with_reducible refine Below.drew ?_) | (with_reducible refine below_drewN ?_ _) | (with_reducible refine Below.setCell ?_ ?_ _) | (refine bstep (by with_reducible assumption) ?_) | go_size)) _) hg4)
      (go_wp2_with fail); (refine (pick rb (N + 1 + 4 * (11 - i) + 1 + 1 + 1) _ _ (by omega) (Dr.below (B := w4.heap.size) hD4 (by repeat' (first | (with_reducible exact Below.refl _ _) | (with_reducible assumption) | (with_reducible refine Below.alloc ?_ ?_ _) | (with_reducible refine Below.drew ?_) | (with_reducible refine below_drewN ?_ _) | (with_reducible refine Below.setCell ?_ ?_ _) | (refine bstep (by with_reducible assumption) ?_) | go_size)) (Nat.le_refl _))).mono ?_); (rintro e w5 ⟨m5, rfl, hD5, hg5, hm50, hm51, hm52⟩); (obtain ⟨hc5, hf5⟩ := gcell hg5); (have hz5 := hg5.size); (try simp only [World.size_alloc, World.size_setCell, World.size_drew, World.size_drewN] at hz5); (have hG5 : w4.grownBy w5 (some rb) := gb_trans (gb_of_below (by repeat' (first | (with_reducible exact Below.refl _ _) | (with_reducible assumption) | (with_reducible refine Below.alloc ?_ ?_ _) | (with_reducible refine Below.drew ?_) | (with_reducible refine below_drewN ?_ _) | (with_reducible refine Below.setCell ?_ ?_ _) | (refine bstep (by with_reducible assumption) ?_) | go_size)) _) hg5)
      obtain ⟨k, hk, hk2⟩ := tab_cell (w3 := w5) (g := w4.heap.size) [m2, m3, 127 + m4] (m := m5) (fun j => by rw [hc5 _ _ (by simp only [World.size_alloc]; omega) (by omega)]; simp [go_sem]) hm50 (by simp; omega)
      have hk3 : -1 ≤ k ∧ k ≤ 256 := by simp at hk2; omega
      have HO5 := Lib.hid ((((hO.out.gbr hG2 hrb).gbr hG3 hrb).gbr hG4 hrb).gbr hG5 hrb)
      have hGA := gb_trans (gb_trans (gb_trans (gb_trans hgr hG2) hG3) hG4) hG5
      clear hk2 hc2 hc3 hc4 hc5 hf2 hf3 hf4 hf5
      go_wp2_with (first | (at_builtin; refine wp_app _ el_int rfl _ _ rfl w.heap.size rfl (HO5.out.alloc_ _) rfl (Src.new _ _ _ 1 rfl) (by simp [Value.oneCell']) (by simp only [maxLen]; omega) (by omega) (by simp; omega) ?_; intro ao6 c6 w6 hown6 hg6 hat6 hz6))
      go_roundw
      case rel =>
        refine ⟨xs ++ [k], ao6, xs.length + 1, c6, i - 1, by go_num, by omega, rfl, by simp, by simpa [iv] using hown6, by omega, ?_, ((hD5.alloc _).gbo hg6 (fun g hg => by have := (HO5.out.lt_ g hg).1; omega)).mono (by omega), gb_own (gb_alloc hGA _) hg6 (fun g hg => (HO5.out.lt_ g hg).1)⟩
        intro z hz
        rcases List.mem_append.1 hz with hz | hz
        · exact hXS.out z hz
        · rw [List.mem_singleton.1 hz]; exact hk3
      case measure => simp [intOf]; omega
    · go_wp2_with fail
      refine (odd rb (N + 1 + 4 * (11 - i)) n _ (by omega) hDr hn).mono ?_
      rintro e w2 ⟨bb, rfl, hD2, hg2⟩
      obtain ⟨hc2, hf2⟩ := gcell hg2
      have hz2 := hg2.size
      have HO2 := Lib.hid (hO.out.gbr hg2 hrb)
      cases bb
      · go_wp2
        go_ret
        exact ⟨xs, ao, c, rfl, HO2.out, by omega, hXS.out, hD2.mono (by omega), gb_trans hgr hg2⟩
      · go_wp2_with fail
        refine (pick2 rb _ _ (by omega) hD2).mono ?_
        rintro e w3 ⟨m3, rfl, hD3, hg3, hm3⟩
        obtain ⟨hc3, hf3⟩ := gcell hg3
        have hz3 := hg3.size
        have HO3 := Lib.hid (HO2.out.gbr hg3 hrb)
        rcases hm3 with rfl | rfl
        · (go_wp2_with fail); (refine (pick rb (N + 1 + 4 * (11 - i) + 1 + 1) _ _ (by omega) (Dr.below (B := w3.heap.size) hD3 (by repeat' (first | (with_reducible exact Below.refl _ _) | (with_reducible assumption) | (with_reducible refine Below.alloc ?_ ?_ _) | (with_reducible refine Below.drew ?_) | (with_reducible refine below_drewN ?_ _) | (with_reducible refine Below.setCell ?_ ?_ _) | (refine bstep (by with_reducible assumption) ?_) | go_size)) (Nat.le_refl _))).mono ?_); (rintro e w4 ⟨m4, rfl, hD4, hg4, hm40, hm41, hm42⟩); (obtain ⟨hc4, hf4⟩ := gcell hg4); (have hz4 := hg4.size); (try simp only [World.size_alloc, World.size_setCell, World.size_drew, World.size_drewN] at hz4); (have hG4 : w3.grownBy w4 (some rb) := gb_trans (gb_of_below (by repeat' (first | (with_reducible exact Below.refl _ _) | (with_reducible assumption) | (with_reducible refine Below.alloc ?_ ?_ _) | (with_reducible refine Below.drew ?_) | (with_reducible refine below_drewN ?_ _) | (with_reducible refine Below.setCell ?_ ?_ _) | (refine bstep (by with_reducible assumption) ?_) | go_size)) _) hg4)
          obtain ⟨k, hk, hk2⟩ := tab_cell (w3 := w4) (g := w3.heap.size) [-1, 256] (m := m4) (fun j => by rw [hc4 _ _ (by simp only [World.size_alloc]; omega) (by omega)]; simp [go_sem]) hm40 (by simp; omega)
          have hk3 : -1 ≤ k ∧ k ≤ 256 := by simp at hk2; omega
          have HO4 := Lib.hid (HO3.out.gbr hG4 hrb)
          have hGA := gb_trans (gb_trans (gb_trans hgr hg2) hg3) hG4
          clear hk2 hc2 hc3 hc4 hf2 hf3 hf4
          go_wp2_with (first | (at_builtin; refine wp_app _ el_int rfl _ _ rfl w.heap.size rfl (HO4.out.alloc_ _) rfl (Src.new _ _ _ 1 rfl) (by simp [Value.oneCell']) (by simp only [maxLen]; omega) (by omega) (by simp; omega) ?_; intro ao6 c6 w6 hown6 hg6 hat6 hz6))
          go_ret
          refine ⟨xs ++ [k], ao6, c6, by rw [List.length_append]; rfl, ?_, by simp; omega, ?_, ((hD4.alloc _).gbo hg6 (fun g hg => by have := (HO4.out.lt_ g hg).1; omega)).mono (by omega), gb_own (gb_alloc hGA _) hg6 (fun g hg => (HO4.out.lt_ g hg).1)⟩
          · rw [show (xs ++ [k]).length = xs.length + 1 by simp]; simpa [iv] using hown6
          · intro z hz
            rcases List.mem_append.1 hz with hz | hz
            · exact hXS.out z hz
            · rw [List.mem_singleton.1 hz]; exact hk3
        · go_wp2_with (first | (at_make; refine wp_make _ el_int rfl _ _ rfl w.heap.size 2001 rfl rfl (by omega) (by simp only [maxLen]; omega) (by omega) ?_; intro w4 hown4 hg4))
          go_ret
          rw [show (Value.int IntKind.i64 0).cells = #[.int .i64 0] from rfl, madeCells_one] at hown4
          refine ⟨List.replicate 2001 0, some ⟨w3.heap.size, 0, none⟩, 2001, by rw [List.length_replicate]; rfl, ?_, by simp, ?_, (hD3.gbo hg4 (by simp)).mono (by omega), gb_own (gb_trans (gb_trans hgr hg2) hg3) hg4 (by simp)⟩
          · rw [List.length_replicate, show iv (List.replicate 2001 0) = List.replicate 2001 (Value.int .i64 0) from List.map_replicate]; exact hown4
          · intro z hz
            rw [(List.mem_replicate.1 hz).2]
            omega
end Go.Proofs.Ytlanonimjbhjnaa
