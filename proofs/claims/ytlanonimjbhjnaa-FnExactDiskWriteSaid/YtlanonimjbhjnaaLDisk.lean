/- The law FnExactDiskWrite, walked. -/
import Derived.Deep.RegionHeld3
import Derived.Test.YtlanonimjbhjnaaRows
import Derived.WalkKit
import Derived.WalkSpells
import Derived.WalkLawsBesides
import Derived.Lib.Hide
import Derived.Handy
import Derived.BigQuiet
import Derived.Deep.QuietTactic
import Derived.Test.YtlanonimjbhjnaaLib
import Derived.Test.YtlanonimjbhjnaaOwn
import Derived.Test.YtlanonimjbhjnaaJobs
import Derived.Test.YtlanonimjbhjnaaCodes
import Derived.Test.YtlanonimjbhjnaaCodes2
import Derived.Test.YtlanonimjbhjnaaCodes3
import Derived.Test.YtlanonimjbhjnaaFrames
import Derived.Test.YtlanonimjbhjnaaFrames2
import Derived.Test.YtlanonimjbhjnaaDisks
import Derived.Test.YtlanonimjbhjnaaDisks2
import Derived.Test.YtlanonimjbhjnaaMarks
set_option linter.unusedSimpArgs false
set_option linter.unusedVariables false
namespace Go.Proofs.Ytlanonimjbhjnaa
open Go.RowKit

def szD (n1 n2 : Nat) : Int := if (1048576 : Int) - n1 - n2 < 0 then -1 else 1048576 - n1 - n2
set_option maxRecDepth 100000 in
set_option maxHeartbeats 1000000 in
theorem lawsSzDisk (a1 a2 : Option Addr) (n1 n2 c1 c2 : Nat) (w : World) (h1 : n1 ≤ maxLen) (h2 : n2 ≤ maxLen) :
    Calls Try.prog 38 #[dk a1 n1 c1 a2 n2 c2, .int .i64 1048576] w fun e w' => e = .returned (.int .i64 (szD n1 n2)) ∧ Below w.heap.size w w' := by
  have h1' := h1
  unfold maxLen at h1'
  by_cases hs : (1048576 : Int) - n1 < 0
  · have HE : Hid (szD n1 n2 = -1) := by unfold Hid szD; rw [if_pos (by omega)]
    have HZ : Hid (szR 1048576 n1 = -1) := by unfold Hid szR; rw [if_pos hs]
    clear hs
    go_enter Try.func38, Try.ntmps38
    go_wp2_with (first | (go_at_call 68; refine (lawsSzIntS a1 n1 c1 _ _ h1 (by omega) (by omega)).mono ?_; rw [HZ.out]; rintro e w1 ⟨rfl, rfl⟩))
    go_ret
    exact ⟨ret_int HE.out.symm, (by repeat' (first | (with_reducible exact Below.refl _ _) | (with_reducible assumption) | (with_reducible refine Below.alloc ?_ ?_ _) | (with_reducible refine Below.drew ?_) | (with_reducible refine below_drewN ?_ _) | (with_reducible refine Below.setCell ?_ ?_ _) | (refine bstep (by with_reducible assumption) ?_) | go_size))⟩
  · have HZ : Hid (szR 1048576 n1 = 1048576 - n1) := by unfold Hid szR; rw [if_neg hs]
    have hs0 : 0 ≤ (1048576 : Int) - n1 := by omega
    by_cases hs2 : (1048576 : Int) - n1 - n2 < 0
    · have HE : Hid (szD n1 n2 = -1) := by unfold Hid szD; rw [if_pos (by omega)]
      have HY : Hid (szR (1048576 - n1) n2 = -1) := by unfold Hid szR; rw [if_pos hs2]
      clear hs hs2
      go_enter Try.func38, Try.ntmps38
      go_wp2_with fail
      refine (lawsSzIntS a1 n1 c1 _ _ h1 (by omega) (by omega)).mono ?_
      rw [HZ.out]
      rintro e w1 ⟨rfl, rfl⟩
      go_wp2_with fail
      refine (lawsSzIntS a2 n2 c2 _ _ h2 (by omega) (by omega)).mono ?_
      rw [HY.out]
      rintro e w1 ⟨rfl, rfl⟩
      go_wp2
      go_ret
      exact ⟨ret_int HE.out.symm, (by repeat' (first | (with_reducible exact Below.refl _ _) | (with_reducible assumption) | (with_reducible refine Below.alloc ?_ ?_ _) | (with_reducible refine Below.drew ?_) | (with_reducible refine below_drewN ?_ _) | (with_reducible refine Below.setCell ?_ ?_ _) | (refine bstep (by with_reducible assumption) ?_) | go_size))⟩
    · have HE : Hid (szD n1 n2 = 1048576 - n1 - n2) := by unfold Hid szD; rw [if_neg (by omega)]
      have HY : Hid (szR (1048576 - n1) n2 = 1048576 - n1 - n2) := by unfold Hid szR; rw [if_neg hs2]
      have hs3 : 0 ≤ (1048576 : Int) - n1 - n2 := by omega
      clear hs hs2
      go_enter Try.func38, Try.ntmps38
      go_wp2_with fail
      refine (lawsSzIntS a1 n1 c1 _ _ h1 (by omega) (by omega)).mono ?_
      rw [HZ.out]
      rintro e w1 ⟨rfl, rfl⟩
      go_wp2_with fail
      refine (lawsSzIntS a2 n2 c2 _ _ h2 (by omega) (by omega)).mono ?_
      rw [HY.out]
      rintro e w1 ⟨rfl, rfl⟩
      go_wp2
      go_ret
      exact ⟨ret_int HE.out.symm, (by repeat' (first | (with_reducible exact Below.refl _ _) | (with_reducible assumption) | (with_reducible refine Below.alloc ?_ ?_ _) | (with_reducible refine Below.drew ?_) | (with_reducible refine below_drewN ?_ _) | (with_reducible refine Below.setCell ?_ ?_ _) | (refine bstep (by with_reducible assumption) ?_) | go_size))⟩

theorem toI (ao : Option Addr) (c : Nat) (xs : List Int) (w : World) (hl : xs.length ≤ 1048576) (h : Sl w ao xs) :
    Calls Try.prog 18 #[.slice ao xs.length c] w fun e w' => ∃ ao' c', e = .returned (.slice ao' xs.length c') ∧ Own w' w.heap.size 3 1 ao' xs.length c' (iv xs) ∧ Below w.heap.size w w' ∧ ao' ≠ none := by
  obtain ⟨b, o, ha, hi⟩ := h.ints
  exact lawsToIntS ao c b o xs w hl ha hi
theorem eqI (ao bo : Option Addr) (c d : Nat) (xs : List Int) (w : World) (hl : xs.length ≤ 4194304) (h : Sl w ao xs) (h2 : Sl w bo xs) :
    Calls Try.prog 20 #[.slice ao xs.length c, .slice bo xs.length d] w fun e w' => e = .returned (.bool true) ∧ Below w.heap.size w w' := by
  obtain ⟨b, o, ha, hi⟩ := h.ints
  obtain ⟨b2, o2, ha2, hi2⟩ := h2.ints
  have := lawsEqIntS ao bo b o c b2 o2 d xs xs w (by simp only [maxLen]; omega) (by simp only [maxLen]; omega) ha hi ha2 hi2
  rw [decide_eq_true rfl] at this
  exact this

/-- A copy of a disk for a law: both slices its own, neither nil, in different blocks. -/
def DkC (w : World) (xs ys : List Int) (e : Ending) (w' : World) : Prop :=
  ∃ a1 c1 a2 c2, e = .returned (dk a1 xs.length c1 a2 ys.length c2) ∧ Own w' w.heap.size 3 1 a1 xs.length c1 (iv xs) ∧ Own w' w.heap.size 3 1 a2 ys.length c2 (iv ys) ∧
    (∀ g, blk a1 = some g → blk a2 ≠ some g) ∧ Below w.heap.size w w' ∧ a1 ≠ none ∧ a2 ≠ none
set_option maxRecDepth 100000 in
set_option maxHeartbeats 1000000 in
theorem lawsToDisk (a1 a2 : Option Addr) (c1 c2 : Nat) (xs ys : List Int) (w : World) (hl1 : xs.length ≤ 1048576) (hl2 : ys.length ≤ 1048576) (h1 : Sl w a1 xs) (h2 : Sl w a2 ys) :
    Calls Try.prog 40 #[dk a1 xs.length c1 a2 ys.length c2] w (DkC w xs ys) := by
  have K1 := Lib.hid (fun W (h : Sl W a1 xs) => Lib.hid (toI a1 c1 xs W hl1 h))
  have K2 := Lib.hid (fun W (h : Sl W a2 ys) => Lib.hid (toI a2 c2 ys W hl2 h))
  have H1 := Lib.hid h1
  have H2 := Lib.hid h2
  clear h1 h2
  go_enter Try.func40, Try.ntmps40
  go_wp2_with fail
  refine (K1.out _ (H1.out.below (B := w.heap.size) (by repeat' (first | (with_reducible exact Below.refl _ _) | (with_reducible assumption) | (with_reducible refine Below.alloc ?_ ?_ _) | (with_reducible refine Below.drew ?_) | (with_reducible refine below_drewN ?_ _) | (with_reducible refine Below.setCell ?_ ?_ _) | (refine bstep (by with_reducible assumption) ?_) | go_size)) (Nat.le_refl _))).out.mono ?_
  rintro e w1 ⟨b1, k1, rfl, hown1, hb1, hn1⟩
  (obtain ⟨hc1, hf1⟩ := bcell hb1); (try simp only [World.size_drew, World.size_drewN] at hc1 hf1); have hz1 := hb1.size; (try simp only [World.size_alloc, World.size_setCell, World.size_drew, World.size_drewN] at hz1)
  have hl1_00 : w.heap.size < w1.heap.size := (by omega); have hl1_01 : w.heap.size < w1.heap.size + 1 := (by omega); have hl1_02 : w.heap.size < w1.heap.size + 1 + 1 := (by omega); have hn1_00 : ¬ w.heap.size = w1.heap.size := (by omega); have hn1_01 : ¬ w.heap.size = w1.heap.size + 1 := (by omega); have hl1_10 : w.heap.size + 1 < w1.heap.size := (by omega); have hl1_11 : w.heap.size + 1 < w1.heap.size + 1 := (by omega); have hl1_12 : w.heap.size + 1 < w1.heap.size + 1 + 1 := (by omega); have hn1_10 : ¬ w.heap.size + 1 = w1.heap.size := (by omega); have hn1_11 : ¬ w.heap.size + 1 = w1.heap.size + 1 := (by omega); have hl1_20 : w.heap.size + 1 + 1 < w1.heap.size := (by omega); have hl1_21 : w.heap.size + 1 + 1 < w1.heap.size + 1 := (by omega); have hl1_22 : w.heap.size + 1 + 1 < w1.heap.size + 1 + 1 := (by omega); have hn1_20 : ¬ w.heap.size + 1 + 1 = w1.heap.size := (by omega); have hn1_21 : ¬ w.heap.size + 1 + 1 = w1.heap.size + 1 := (by omega)
  have O1 := Lib.hid hown1
  clear hown1
  go_wp2_with fail
  refine (K2.out _ (H2.out.below (B := w.heap.size) (by repeat' (first | (with_reducible exact Below.refl _ _) | (with_reducible assumption) | (with_reducible refine Below.alloc ?_ ?_ _) | (with_reducible refine Below.drew ?_) | (with_reducible refine below_drewN ?_ _) | (with_reducible refine Below.setCell ?_ ?_ _) | (refine bstep (by with_reducible assumption) ?_) | go_size)) (Nat.le_refl _))).out.mono ?_
  rintro e w2 ⟨b2, k2, rfl, hown2, hb2, hn2⟩
  (obtain ⟨hc2, hf2⟩ := bcell hb2); (try simp only [World.size_drew, World.size_drewN] at hc2 hf2); have hz2 := hb2.size; (try simp only [World.size_alloc, World.size_setCell, World.size_drew, World.size_drewN] at hz2)
  have hl2_00 : w.heap.size < w2.heap.size := (by omega); have hl2_01 : w.heap.size < w2.heap.size + 1 := (by omega); have hl2_02 : w.heap.size < w2.heap.size + 1 + 1 := (by omega); have hn2_00 : ¬ w.heap.size = w2.heap.size := (by omega); have hn2_01 : ¬ w.heap.size = w2.heap.size + 1 := (by omega); have hl2_10 : w.heap.size + 1 < w2.heap.size := (by omega); have hl2_11 : w.heap.size + 1 < w2.heap.size + 1 := (by omega); have hl2_12 : w.heap.size + 1 < w2.heap.size + 1 + 1 := (by omega); have hn2_10 : ¬ w.heap.size + 1 = w2.heap.size := (by omega); have hn2_11 : ¬ w.heap.size + 1 = w2.heap.size + 1 := (by omega); have hl2_20 : w.heap.size + 1 + 1 < w2.heap.size := (by omega); have hl2_21 : w.heap.size + 1 + 1 < w2.heap.size + 1 := (by omega); have hl2_22 : w.heap.size + 1 + 1 < w2.heap.size + 1 + 1 := (by omega); have hn2_20 : ¬ w.heap.size + 1 + 1 = w2.heap.size := (by omega); have hn2_21 : ¬ w.heap.size + 1 + 1 = w2.heap.size + 1 := (by omega)
  have O2 := Lib.hid hown2
  clear hown2
  go_wp2
  have hX1 : blk b1 ≠ some (w.heap.size + 1) := fun e => by have h := (O1.out.lt_ _ e).1; (try simp at h); omega
  have hX2 : blk b2 ≠ some (w.heap.size + 1) := fun e => by have h := (O2.out.lt_ _ e).1; (try simp at h); omega
  have hY1 : blk b1 ≠ some (w.heap.size + 1 + 1) := fun e => by have h := (O1.out.lt_ _ e).1; (try simp at h); omega
  have hY2 : blk b2 ≠ some (w.heap.size + 1 + 1) := fun e => by have h := (O2.out.lt_ _ e).1; (try simp at h); omega
  have hdis : ∀ g, blk b1 = some g → blk b2 ≠ some g := fun g e1 e2 => by have h5 := O1.out.lt_ g e1; have h6 := O2.out.lt_ g e2; (try simp at h6); omega
  have o1 := O1.out.mono_ (base' := w.heap.size) (by first | omega | (simp; done) | (simp; omega) | go_size)
  have o2 := O2.out.mono_ (base' := w.heap.size) (by first | omega | (simp; done) | (simp; omega) | go_size)
  refine bodyPost_ret (v := dk b1 xs.length k1 b2 ys.length k2) (by simp [results, Try.results40, go_sem, *]) rfl ⟨b1, k1, b2, k2, rfl, ?_, ?_, hdis, (by repeat' (first | (with_reducible exact Below.refl _ _) | (with_reducible assumption) | (with_reducible refine Below.alloc ?_ ?_ _) | (with_reducible refine Below.drew ?_) | (with_reducible refine below_drewN ?_ _) | (with_reducible refine Below.setCell ?_ ?_ _) | (refine bstep (by with_reducible assumption) ?_) | go_size)), hn1, hn2⟩
  · repeat' (first | (with_reducible assumption) | (with_reducible apply Own.drew_) | (with_reducible apply Own.drewN_) | (with_reducible apply Own.alloc_) | (with_reducible refine Own.set_other ?_ ?_ _) | (refine Own.kept_ ?_ (by with_reducible assumption) ?_) | (refine Own.below_ ?_ (by with_reducible assumption) ?_) | (exact Nat.le_refl _) | omega)
  · repeat' (first | (with_reducible assumption) | (with_reducible apply Own.drew_) | (with_reducible apply Own.drewN_) | (with_reducible apply Own.alloc_) | (with_reducible refine Own.set_other ?_ ?_ _) | (refine Own.kept_ ?_ (by with_reducible assumption) ?_) | (refine Own.below_ ?_ (by with_reducible assumption) ?_) | (exact Nat.le_refl _) | omega)

/-- Two cells of block b. -/
def Box (w : World) (b : Nat) (u v : Value) : Prop := w.cell? ⟨b, 0, none⟩ = some u ∧ w.cell? ⟨b, 1, none⟩ = some v
theorem Box.lt {w : World} {b : Nat} {u v : Value} (h : Box w b u v) : b < w.heap.size := World.block_lt_of_cell? w _ h.1
theorem Box.below {w w' : World} {b B : Nat} {u v : Value} (h : Box w b u v) (hb : Below B w w') (hB : b < B) : Box w' b u v :=
  ⟨(hb.cell (p := ⟨b, 0, none⟩) hB).trans h.1, (hb.cell (p := ⟨b, 1, none⟩) hB).trans h.2⟩
theorem Box.kept {w w' : World} {b : Nat} {u v : Value} {row : Option Nat} (h : Box w b u v) (hg : w.grownBy w' row) (hne : row ≠ some b) : Box w' b u v :=
  ⟨(World.cell?_of_block (a := ⟨b, 0, none⟩) (hg.block b h.lt (fun e => hne e.symm))).trans h.1, (World.cell?_of_block (a := ⟨b, 1, none⟩) (hg.block b h.lt (fun e => hne e.symm))).trans h.2⟩
theorem Box.alloc {w : World} {b : Nat} {u v : Value} (h : Box w b u v) (o : Obj) : Box (w.alloc o) b u v := h.below ((Below.refl _ _).alloc (Nat.le_refl _) o) h.lt
theorem Box.new (w : World) (u v : Value) (T : Nat) : Box (w.alloc (.cells #[u, v] T)) w.heap.size u v :=
  ⟨by rw [World.cell?_alloc_at _ _ _ _ rfl]; rfl, by rw [World.cell?_alloc_at _ _ _ _ rfl]; rfl⟩

set_option maxRecDepth 100000 in
set_option maxHeartbeats 1000000 in
theorem lawsEqDisk (a1 a2 b1 b2 : Option Addr) (c1 c2 d1 d2 : Nat) (xs ys : List Int) (w : World) (hl1 : xs.length ≤ 4194304) (hl2 : ys.length ≤ 4194304) (h1 : Sl w a1 xs) (h2 : Sl w a2 ys) (h3 : Sl w b1 xs) (h4 : Sl w b2 ys) :
    Calls Try.prog 42 #[dk a1 xs.length c1 a2 ys.length c2, dk b1 xs.length d1 b2 ys.length d2] w fun e w' => e = .returned (.bool true) ∧ Below w.heap.size w w' := by
  have K1 := Lib.hid (fun W (h : Sl W a1 xs) (h' : Sl W b1 xs) => Lib.hid (eqI a1 b1 c1 d1 xs W hl1 h h'))
  have K2 := Lib.hid (fun W (h : Sl W a2 ys) (h' : Sl W b2 ys) => Lib.hid (eqI a2 b2 c2 d2 ys W hl2 h h'))
  have H1 := Lib.hid h1
  have H2 := Lib.hid h2
  have H3 := Lib.hid h3
  have H4 := Lib.hid h4
  clear h1 h2 h3 h4
  go_enter Try.func42, Try.ntmps42
  go_wp2_with fail
  refine (K1.out _ (H1.out.below (B := w.heap.size) (by repeat' (first | (with_reducible exact Below.refl _ _) | (with_reducible assumption) | (with_reducible refine Below.alloc ?_ ?_ _) | (with_reducible refine Below.drew ?_) | (with_reducible refine below_drewN ?_ _) | (with_reducible refine Below.setCell ?_ ?_ _) | (refine bstep (by with_reducible assumption) ?_) | go_size)) (Nat.le_refl _)) (H3.out.below (B := w.heap.size) (by repeat' (first | (with_reducible exact Below.refl _ _) | (with_reducible assumption) | (with_reducible refine Below.alloc ?_ ?_ _) | (with_reducible refine Below.drew ?_) | (with_reducible refine below_drewN ?_ _) | (with_reducible refine Below.setCell ?_ ?_ _) | (refine bstep (by with_reducible assumption) ?_) | go_size)) (Nat.le_refl _))).out.mono ?_
  rintro e w1 ⟨rfl, hb1⟩
  (obtain ⟨hc1, hf1⟩ := bcell hb1); (try simp only [World.size_drew, World.size_drewN] at hc1 hf1); have hz1 := hb1.size; (try simp only [World.size_alloc, World.size_setCell, World.size_drew, World.size_drewN] at hz1)
  have hl1_00 : w.heap.size < w1.heap.size := (by omega); have hl1_01 : w.heap.size < w1.heap.size + 1 := (by omega); have hl1_02 : w.heap.size < w1.heap.size + 1 + 1 := (by omega); have hn1_00 : ¬ w.heap.size = w1.heap.size := (by omega); have hn1_01 : ¬ w.heap.size = w1.heap.size + 1 := (by omega); have hl1_10 : w.heap.size + 1 < w1.heap.size := (by omega); have hl1_11 : w.heap.size + 1 < w1.heap.size + 1 := (by omega); have hl1_12 : w.heap.size + 1 < w1.heap.size + 1 + 1 := (by omega); have hn1_10 : ¬ w.heap.size + 1 = w1.heap.size := (by omega); have hn1_11 : ¬ w.heap.size + 1 = w1.heap.size + 1 := (by omega)
  go_wp2_with fail
  refine (K2.out _ (H2.out.below (B := w.heap.size) (by repeat' (first | (with_reducible exact Below.refl _ _) | (with_reducible assumption) | (with_reducible refine Below.alloc ?_ ?_ _) | (with_reducible refine Below.drew ?_) | (with_reducible refine below_drewN ?_ _) | (with_reducible refine Below.setCell ?_ ?_ _) | (refine bstep (by with_reducible assumption) ?_) | go_size)) (Nat.le_refl _)) (H4.out.below (B := w.heap.size) (by repeat' (first | (with_reducible exact Below.refl _ _) | (with_reducible assumption) | (with_reducible refine Below.alloc ?_ ?_ _) | (with_reducible refine Below.drew ?_) | (with_reducible refine below_drewN ?_ _) | (with_reducible refine Below.setCell ?_ ?_ _) | (refine bstep (by with_reducible assumption) ?_) | go_size)) (Nat.le_refl _))).out.mono ?_
  rintro e w2 ⟨rfl, hb2⟩
  (obtain ⟨hc2, hf2⟩ := bcell hb2); (try simp only [World.size_drew, World.size_drewN] at hc2 hf2); have hz2 := hb2.size; (try simp only [World.size_alloc, World.size_setCell, World.size_drew, World.size_drewN] at hz2)
  go_wp2
  go_ret
  exact ⟨rfl, (by repeat' (first | (with_reducible exact Below.refl _ _) | (with_reducible assumption) | (with_reducible refine Below.alloc ?_ ?_ _) | (with_reducible refine Below.drew ?_) | (with_reducible refine below_drewN ?_ _) | (with_reducible refine Below.setCell ?_ ?_ _) | (refine bstep (by with_reducible assumption) ?_) | go_size))⟩

set_option maxRecDepth 100000 in
set_option maxHeartbeats 1000000 in
theorem lawsMarkDisk (base : Nat) (a1 a2 : Option Addr) (c1 c2 : Nat) (xs ys : List Int) (w : World) (hl1 : xs.length ≤ 2097152) (hl2 : ys.length ≤ 2097152) (o1 : Own w base 3 1 a1 xs.length c1 (iv xs)) (o2 : Own w base 3 1 a2 ys.length c2 (iv ys)) (hd : ∀ g, blk a1 = some g → blk a2 ≠ some g) :
    Calls Try.prog 43 #[dk a1 xs.length c1 a2 ys.length c2, .int .i64 1] w fun e w' => ∃ o W1, e = .returned (.int .i64 (1 + xs.length + ys.length)) ∧ (w.alloc o).grownBy W1 (blk a1) ∧ W1.grownBy w' (blk a2) ∧
      Own w' base 3 1 a1 xs.length c1 (iv (marks 1 xs.length)) ∧ Own w' base 3 1 a2 ys.length c2 (iv (marks (1 + xs.length) ys.length)) := by
  have O1 := Lib.hid o1
  have O2 := Lib.hid o2
  have HD := Lib.hid hd
  clear o1 o2 hd
  go_enter Try.func43, Try.ntmps43
  go_wp2_with fail
  refine (lawsMarkIntS base a1 c1 xs 1 _ (by omega) (by omega) (by omega) (O1.out.alloc_ _)).mono ?_
  rintro e w1 ⟨rfl, own1, hg1⟩
  have hcb : ∀ o, w1.cell? ⟨w.heap.size, o, none⟩ = (w.alloc (.cells #[.slice a1 xs.length c1, .slice a2 ys.length c2] 63)).cell? ⟨w.heap.size, o, none⟩ := fun o => World.cell?_of_block (a := ⟨w.heap.size, o, none⟩) (hg1.block _ (by simp) (fun e => absurd (O1.out.lt_ _ e.symm).2 (Nat.lt_irrefl _)))
  have o2' := (O2.out.alloc_ (.cells #[.slice a1 xs.length c1, .slice a2 ys.length c2] 63)).kept_ hg1 (fun g h e => HD.out g e h)
  have O1' := Lib.hid own1
  have O2' := Lib.hid o2'
  have G1 := Lib.hid hg1
  clear own1 o2' hg1
  go_wp2_with fail
  refine (lawsMarkIntS base a2 c2 ys _ _ (by omega) (by omega) (by omega) O2'.out).mono ?_
  rintro e w2 ⟨rfl, own2, hg2⟩
  have O1'' := Lib.hid (O1'.out.kept_ hg2 (fun g h e => HD.out g h e))
  go_wp2
  go_ret
  exact ⟨_, w1, rfl, G1.out, hg2, O1''.out, own2⟩

set_option maxRecDepth 100000 in
set_option maxHeartbeats 1000000 in
theorem lawsHeldDisk (a1 a2 : Option Addr) (n1 n2 c1 c2 : Nat) (w : World) (hl1 : n1 ≤ 2097152) (hl2 : n2 ≤ 2097152) (h1 : Src w a1 n1 1 (iv (marks 1 n1))) (h2 : Src w a2 n2 1 (iv (marks (1 + n1) n2))) :
    Calls Try.prog 45 #[dk a1 n1 c1 a2 n2 c2, .int .i64 1] w fun e w' => e = .returned (.int .i64 (1 + n1 + n2)) ∧ Below w.heap.size w w' := by
  have K1 := Lib.hid (fun W (h : Src W a1 n1 1 (iv (marks 1 n1))) => Lib.hid (lawsHeldIntS a1 n1 c1 1 W (by omega) (by omega) (by omega) h))
  have K2 := Lib.hid (fun W (h : Src W a2 n2 1 (iv (marks (1 + n1) n2))) => Lib.hid (lawsHeldIntS a2 n2 c2 (1 + n1) W (by omega) (by omega) (by omega) h))
  have H1 := Lib.hid h1
  have H2 := Lib.hid h2
  clear h1 h2
  go_enter Try.func45, Try.ntmps45
  go_wp2_with fail
  refine (K1.out _ (H1.out.alloc _)).out.mono ?_
  rintro e w1 ⟨rfl, rfl⟩
  have hp1 : (0 : Int) ≤ 1 + n1 := by omega
  have hp2 : (0 : Int) ≤ 1 + n1 + n2 := by omega
  go_wp2_with fail
  refine (K2.out _ (H2.out.alloc _)).out.mono ?_
  rintro e w1 ⟨rfl, rfl⟩
  go_wp2
  go_ret
  exact ⟨rfl, (by repeat' (first | (with_reducible exact Below.refl _ _) | (with_reducible assumption) | (with_reducible refine Below.alloc ?_ ?_ _) | (with_reducible refine Below.drew ?_) | (with_reducible refine below_drewN ?_ _) | (with_reducible refine Below.setCell ?_ ?_ _) | (refine bstep (by with_reducible assumption) ?_) | go_size))⟩
end Go.Proofs.Ytlanonimjbhjnaa
