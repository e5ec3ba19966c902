/- The law FnExactDropVertex, walked. -/
import Derived.Deep.RegionHeld3
import Derived.Test.YtknbeakmnkjkhaaRows
import Derived.WalkKit
import Derived.WalkSpells
import Derived.WalkLawsBesides
import Derived.Lib.Hide
import Derived.Handy
import Derived.BigQuiet
import Derived.Deep.QuietTactic
import Derived.Test.YtknbeakmnkjkhaaLib
import Derived.Test.YtknbeakmnkjkhaaOwn
import Derived.Test.YtknbeakmnkjkhaaJobs
import Derived.Test.YtknbeakmnkjkhaaCodes
import Derived.Test.YtknbeakmnkjkhaaCodes2
import Derived.Test.YtknbeakmnkjkhaaCodes3
import Derived.Test.YtknbeakmnkjkhaaFrames
import Derived.Test.YtknbeakmnkjkhaaFrames2
import Derived.Test.YtknbeakmnkjkhaaGraphs
import Derived.Test.YtknbeakmnkjkhaaGValid
import Derived.Test.YtknbeakmnkjkhaaGValidS
import Derived.Test.YtknbeakmnkjkhaaGCopy
import Derived.Test.YtknbeakmnkjkhaaGDrop
import Derived.Test.YtknbeakmnkjkhaaGDropS
import Derived.Test.YtknbeakmnkjkhaaMarks
import Derived.Test.YtknbeakmnkjkhaaGMarks
set_option linter.unusedSimpArgs false
set_option linter.unusedVariables false
namespace Go.Proofs.Ytknbeakmnkjkhaa
open Go.RowKit

theorem Bx.kept {w w' : World} {b : Nat} {u v : Value} {row : Option Nat} (h : Bx w b u v) (hg : w.grownBy w' row) (hne : row ≠ some b) : Bx w' b u v :=
  ⟨(World.cell?_of_block (a := ⟨b, 0, none⟩) (hg.block b h.lt (fun e => hne e.symm))).trans h.c0, (World.cell?_of_block (a := ⟨b, 1, none⟩) (hg.block b h.lt (fun e => hne e.symm))).trans h.c1,
   (World.frozen?_of_block (a := ⟨b, 0, none⟩) (hg.block b h.lt (fun e => hne e.symm))).trans h.f0, (World.frozen?_of_block (a := ⟨b, 1, none⟩) (hg.block b h.lt (fun e => hne e.symm))).trans h.f1⟩

set_option maxRecDepth 100000 in
set_option maxHeartbeats 1000000 in
theorem lawsMarkGraph (base : Nat) (m : Int) (ao : Option Addr) (c : Nat) (es : List E3) (w : World) (hl : es.length ≤ 2097152) (o1 : Own w base 47 3 ao es.length c (ev es)) :
    Calls Try.prog 20 #[gr m ao es.length c, .int .i64 1] w fun e w' => ∃ o, e = .returned (.int .i64 (1 + 3 * es.length)) ∧ (w.alloc o).grownBy w' (blk ao) ∧ Own w' base 47 3 ao es.length c (ev (mkE 1 es.length)) := by
  have O1 := Lib.hid o1
  clear o1
  go_enter Try.func20, Try.ntmps20
  go_wp2_with fail
  refine (lawsMarkEdgeS base ao c es 1 _ (by omega) (by omega) (by omega) (O1.out.alloc_ _)).mono ?_
  rintro e w1 ⟨rfl, own1, hg1⟩
  go_wp2
  go_ret
  exact ⟨_, rfl, hg1, own1⟩

set_option maxRecDepth 100000 in
set_option maxHeartbeats 1000000 in
theorem lawsHeldGraph (m : Int) (ao : Option Addr) (n c : Nat) (w : World) (hl : n ≤ 2097152) (h1 : Src w ao n 3 (ev (mkE 1 n))) :
    Calls Try.prog 21 #[gr m ao n c, .int .i64 1] w fun e w' => e = .returned (.int .i64 (1 + 3 * n)) ∧ Below w.heap.size w w' := by
  have K1 := Lib.hid (fun W (h : Src W ao n 3 (ev (mkE 1 n))) => Lib.hid (lawsHeldEdgeS ao n c 1 W (by omega) (by omega) (by omega) h))
  have H1 := Lib.hid h1
  clear h1
  have hp1 : (0 : Int) ≤ 1 + 3 * n := by omega
  go_enter Try.func21, Try.ntmps21
  go_wp2_with fail
  refine (K1.out _ (H1.out.alloc _)).out.mono ?_
  rintro e w1 ⟨rfl, rfl⟩
  go_wp2
  go_ret
  exact ⟨rfl, (by repeat' (first | (with_reducible exact Below.refl _ _) | (with_reducible assumption) | (with_reducible refine Below.alloc ?_ ?_ _) | (with_reducible refine Below.drew ?_) | (with_reducible refine below_drewN ?_ _) | (with_reducible refine Below.setCell ?_ ?_ _) | (refine bstep (by with_reducible assumption) ?_) | (refine bstep2 (by with_reducible assumption) (by first | omega | (simp; done) | (simp; omega)) ?_) | go_size))⟩

theorem dropR_len (m : Int) (es : List E3) (v : Int) : (dropR m es v).2.1.length ≤ es.length := by
  unfold dropR
  split
  · split
    · exact List.length_filter_le _ _
    · simp
  · simp

set_option maxRecDepth 100000 in
set_option maxHeartbeats 4000000 in
theorem fnExactDropVertex (m : Int) (ao : Option Addr) (c : Nat) (es : List E3) (v : Int) (w : World) (hm1 : es.length ≤ maxLen) (h1 : Se w ao es) :
    Calls Try.prog 3 #[gr m ao es.length c, .int .i64 v] w fun e w' => e = .returned (.bool true) ∧ Below w.heap.size w w' := by
  have hm1' := hm1
  unfold maxLen at hm1'
  have KZ := Lib.hid (fun W => Lib.hid (lawsSzGraph m ao es.length c W hm1))
  by_cases hs : (1048576 : Int) - es.length < 0
  · have HE : Hid (szR 1048576 es.length = -1) := by unfold Hid szR; rw [if_pos hs]
    clear hs h1
    go_enter Try.func3, Try.ntmps3
    go_wp2_with fail
    refine (KZ.out _).out.mono ?_
    rw [HE.out]
    rintro e w1 ⟨rfl, hb1⟩
    go_wp2
    go_ret
    exact ⟨rfl, (by repeat' (first | (with_reducible exact Below.refl _ _) | (with_reducible assumption) | (with_reducible refine Below.alloc ?_ ?_ _) | (with_reducible refine Below.drew ?_) | (with_reducible refine below_drewN ?_ _) | (with_reducible refine Below.setCell ?_ ?_ _) | (refine bstep (by with_reducible assumption) ?_) | (refine bstep2 (by with_reducible assumption) (by first | omega | (simp; done) | (simp; omega)) ?_) | go_size))⟩
  · have HE : Hid (szR 1048576 es.length = 1048576 - es.length) := by unfold Hid szR; rw [if_neg hs]
    have hl1 : es.length ≤ 1048576 := by omega
    have hs0 : 0 ≤ (1048576 : Int) - es.length := by omega
    have KA := Lib.hid (fun W (g1 : Se W ao es) => Lib.hid (lawsToGraph m ao c es W hl1 g1))
    have KS := Lib.hid (fun p k W (g1 : Se W p es) => Lib.hid (specDropVertex m p k es v W hl1 g1))
    have KI := Lib.hid (fun p k W (g1 : Se W p es) (n1 : p ≠ none) => Lib.hid (implDropVertex m p k es v W hl1 g1 (fun h => absurd h n1)))
    have hr1 : (dropR m es v).2.1.length ≤ 1048576 := by have := dropR_len m es v; omega
    generalize dropR m es v = r at *
    obtain ⟨mr, us, ok⟩ := r
    have hu1 : us.length ≤ 1048576 := hr1
    have H1 := Lib.hid h1
    clear hs h1 hr1
    go_enter Try.func3, Try.ntmps3
    go_wp2_with fail
    refine (KZ.out _).out.mono ?_
    rw [HE.out]
    rintro e w0 ⟨rfl, hb0⟩
    have bA0 := (Bx.new w (.int .i64 m) (.slice ao es.length c) 24 rfl).below hb0 (by simp)
    have hs0 := hb0.size
    simp only [World.size_alloc] at hs0
    have cA := bA0.c0
    have cA' := bA0.c1
    go_wp2_with fail
    refine (KA.out _ (H1.out.below (B := w.heap.size) (by repeat' (first | (with_reducible exact Below.refl _ _) | (with_reducible assumption) | (with_reducible refine Below.alloc ?_ ?_ _) | (with_reducible refine Below.drew ?_) | (with_reducible refine below_drewN ?_ _) | (with_reducible refine Below.setCell ?_ ?_ _) | (refine bstep (by with_reducible assumption) ?_) | (refine bstep2 (by with_reducible assumption) (by first | omega | (simp; done) | (simp; omega)) ?_) | go_size)) (Nat.le_refl _))).out.mono ?_
    rintro e w1 ⟨p1, k1, rfl, op1, hb1, np1⟩
    have bA1 := bA0.below hb1 (by omega)
    have OP1 := Lib.hid op1
    have hs1 := hb1.size
    clear op1 cA cA'
    go_wp2_with fail
    refine (KS.out _ _ _ OP1.out.src).out.mono ?_
    unfold GwP
    rintro e w3 ⟨s1, m1, rfl, os1, hb3⟩
    have bA3 := bA1.below hb3 (by omega)
    have OS1 := Lib.hid os1
    have hs3 := hb3.size
    clear os1
    dsimp only at OS1 ⊢
    have hl3_00 : w.heap.size < w3.heap.size := (by omega); have hl3_01 : w.heap.size < w3.heap.size + 1 := (by omega); have hl3_02 : w.heap.size < w3.heap.size + 1 + 1 := (by omega); have hn3_00 : ¬ w.heap.size = w3.heap.size := (by omega); have hn3_01 : ¬ w.heap.size = w3.heap.size + 1 := (by omega)
    have cA := bA3.c0
    have cA' := bA3.c1
    go_wp2_with fail
    refine (KA.out _ (H1.out.below (B := w.heap.size) (by repeat' (first | (with_reducible exact Below.refl _ _) | (with_reducible assumption) | (with_reducible refine Below.alloc ?_ ?_ _) | (with_reducible refine Below.drew ?_) | (with_reducible refine below_drewN ?_ _) | (with_reducible refine Below.setCell ?_ ?_ _) | (refine bstep (by with_reducible assumption) ?_) | (refine bstep2 (by with_reducible assumption) (by first | omega | (simp; done) | (simp; omega)) ?_) | go_size)) (Nat.le_refl _))).out.mono ?_
    rintro e w4 ⟨x1, k4, rfl, ox1, hb4, nx1⟩
    have bA4 := (bA3.alloc (.cells #[.int .i64 mr, .slice s1 us.length m1] 28)).below hb4 (by simp; omega)
    have bS4 := (Bx.new w3 (.int .i64 mr) (.slice s1 us.length m1) 28 rfl).below hb4 (by simp)
    have hs4 := hb4.size
    simp only [World.size_alloc] at hs4
    have OX1 := Lib.hid (ox1.mono_ (base' := w3.heap.size + 1) (by simp))
    clear ox1 cA cA' hl3_00 hl3_01 hl3_02 hn3_00 hn3_01
    go_wp2_with fail
    refine (KI.out _ _ _ (OX1.out.src.below (B := w4.heap.size) (by repeat' (first | (with_reducible exact Below.refl _ _) | (with_reducible assumption) | (with_reducible refine Below.alloc ?_ ?_ _) | (with_reducible refine Below.drew ?_) | (with_reducible refine below_drewN ?_ _) | (with_reducible refine Below.setCell ?_ ?_ _) | (refine bstep (by with_reducible assumption) ?_) | (refine bstep2 (by with_reducible assumption) (by first | omega | (simp; done) | (simp; omega)) ?_) | go_size)) (Nat.le_refl _)) nx1).out.mono ?_
    unfold GwP
    rintro e w6 ⟨g1, m3, rfl, og1, hb6⟩
    have bA6 := (bA4.alloc (.cells #[.int .i64 m, .slice x1 es.length k4] 28)).below hb6 (by simp; omega)
    have bS6 := (bS4.alloc (.cells #[.int .i64 m, .slice x1 es.length k4] 28)).below hb6 (by simp; omega)
    have bX6 := (Bx.new w4 (.int .i64 m) (.slice x1 es.length k4) 28 rfl).below hb6 (by simp)
    have hs6 := hb6.size
    simp only [World.size_alloc] at hs6
    have OG1 := Lib.hid (og1.mono_ (base' := w4.heap.size + 1) (by simp))
    clear og1
    dsimp only at OG1 ⊢
    have hl6_00 : w3.heap.size < w6.heap.size := (by omega); have hl6_01 : w3.heap.size < w6.heap.size + 1 := (by omega); have hl6_02 : w3.heap.size < w6.heap.size + 1 + 1 := (by omega); have hn6_00 : ¬ w3.heap.size = w6.heap.size := (by omega); have hn6_01 : ¬ w3.heap.size = w6.heap.size + 1 := (by omega)
    have cS := bS6.c0
    have cS' := bS6.c1
    have hok : (ok != ok) = false := by cases ok <;> rfl
    go_wp2_with fail
    refine (lawsEqGraph mr g1 s1 m3 m1 us _ (by omega) (OG1.out.src.below (B := w6.heap.size) (by repeat' (first | (with_reducible exact Below.refl _ _) | (with_reducible assumption) | (with_reducible refine Below.alloc ?_ ?_ _) | (with_reducible refine Below.drew ?_) | (with_reducible refine below_drewN ?_ _) | (with_reducible refine Below.setCell ?_ ?_ _) | (refine bstep (by with_reducible assumption) ?_) | (refine bstep2 (by with_reducible assumption) (by first | omega | (simp; done) | (simp; omega)) ?_) | go_size)) (Nat.le_refl _)) (OS1.out.src.below (B := w3.heap.size) (by repeat' (first | (with_reducible exact Below.refl _ _) | (with_reducible assumption) | (with_reducible refine Below.alloc ?_ ?_ _) | (with_reducible refine Below.drew ?_) | (with_reducible refine below_drewN ?_ _) | (with_reducible refine Below.setCell ?_ ?_ _) | (refine bstep (by with_reducible assumption) ?_) | (refine bstep2 (by with_reducible assumption) (by first | omega | (simp; done) | (simp; omega)) ?_) | go_size)) (Nat.le_refl _))).mono ?_
    rintro e w7 ⟨rfl, hb7⟩
    have bA7 := (bA6.alloc (.cells #[.int .i64 mr, .slice g1 us.length m3] 28)).below hb7 (by simp; omega)
    have bS7 := (bS6.alloc (.cells #[.int .i64 mr, .slice g1 us.length m3] 28)).below hb7 (by simp; omega)
    have bX7 := (bX6.alloc (.cells #[.int .i64 mr, .slice g1 us.length m3] 28)).below hb7 (by simp; omega)
    have bG7 := (Bx.new w6 (.int .i64 mr) (.slice g1 us.length m3) 28 rfl).below hb7 (by simp)
    have hs7 := hb7.size
    simp only [World.size_alloc] at hs7
    clear cS cS' hl6_00 hl6_01 hl6_02 hn6_00 hn6_01
    have hA7 := Lib.hid bA7
    have hX7 := Lib.hid bX7
    have cA := bA7.c0
    have cA' := bA7.c1
    have cX := bX7.c0
    have cX' := bX7.c1
    have KE : ∀ W z1 k, Se W x1 es → Se W z1 es → Hid (Calls Try.prog 19 #[gr m x1 es.length k4, gr m z1 es.length k] W fun e w' => e = .returned (.bool true) ∧ Below W.heap.size W w') := fun W z1 k q1 q3 => Lib.hid (lawsEqGraph m x1 z1 k4 k es W (by omega) q1 q3)
    have KE := Lib.hid KE
    clear bA0 bA1 bA3 bA4 bA6 bS4 bS6 bX6 bA7 bX7
    have hlA7 : w.heap.size < w7.heap.size := by omega
    have hlX7 : w4.heap.size < w7.heap.size := by omega
    go_wp2
    go_region_held3 (fun w' => w'.cell? ⟨w.heap.size, 0, none⟩ = some (.int .i64 m) ∧ w'.cell? ⟨w.heap.size, 1, none⟩ = some (.slice ao es.length c) ∧ w'.cell? ⟨w4.heap.size, 0, none⟩ = some (.int .i64 m) ∧ w'.cell? ⟨w4.heap.size, 1, none⟩ = some (.slice x1 es.length k4)) (go_keep) (first | ((try go_simp); go_at_call 17; (with_reducible refine (KA.out _ (H1.out.below (B := w.heap.size) ?_ (Nat.le_refl _))).out.mono ?_); (exact (by repeat' (first | (with_reducible exact Below.refl _ _) | (with_reducible assumption) | (with_reducible refine Below.alloc ?_ ?_ _) | (with_reducible refine Below.drew ?_) | (with_reducible refine below_drewN ?_ _) | (with_reducible refine Below.setCell ?_ ?_ _) | (refine bstep (by with_reducible assumption) ?_) | (refine bstep2 (by with_reducible assumption) (by first | omega | (simp; done) | (simp; omega)) ?_) | go_size))); rintro e w8 ⟨z1, j1, rfl, oz1, hb8, nz1⟩; (obtain ⟨hc8, hf8⟩ := bcell hb8); (try simp only [World.size_drew, World.size_drewN] at hc8 hf8); have hz8 := hb8.size; (try simp only [World.size_alloc, World.size_setCell, World.size_drew, World.size_drewN] at hz8); have hlA8 : w.heap.size < w8.heap.size := (by omega); have hlX8 : w4.heap.size < w8.heap.size := (by omega); have OZ1 := Lib.hid oz1; clear oz1 nz1) | ((try go_simp); go_at_call 19; (with_reducible refine (KE.out _ _ _ (OX1.out.src.below (B := w4.heap.size) ?_ (Nat.le_refl _)) (OZ1.out.src.below (B := w8.heap.size) ?_ (Nat.le_refl _))).out.mono ?_); (exact (by repeat' (first | (with_reducible exact Below.refl _ _) | (with_reducible assumption) | (with_reducible refine Below.alloc ?_ ?_ _) | (with_reducible refine Below.drew ?_) | (with_reducible refine below_drewN ?_ _) | (with_reducible refine Below.setCell ?_ ?_ _) | (refine bstep (by with_reducible assumption) ?_) | (refine bstep2 (by with_reducible assumption) (by first | omega | (simp; done) | (simp; omega)) ?_) | go_size))); (exact (by repeat' (first | (with_reducible exact Below.refl _ _) | (with_reducible assumption) | (with_reducible refine Below.alloc ?_ ?_ _) | (with_reducible refine Below.drew ?_) | (with_reducible refine below_drewN ?_ _) | (with_reducible refine Below.setCell ?_ ?_ _) | (refine bstep (by with_reducible assumption) ?_) | (refine bstep2 (by with_reducible assumption) (by first | omega | (simp; done) | (simp; omega)) ?_) | go_size))); rintro e w9 ⟨rfl, hb9⟩; (obtain ⟨hc9, hf9⟩ := bcell hb9); (try simp only [World.size_drew, World.size_drewN] at hc9 hf9); have hz9 := hb9.size; (try simp only [World.size_alloc, World.size_setCell, World.size_drew, World.size_drewN] at hz9)))
    clear hlA7 hlX7 hlA8 hlX8 hc8 hf8 hc9 hf9 cA cA' cX cX'
    have hs8 := hb8.size
    have hs9 := hb9.size
    simp only [World.size_drew, World.size_drewN] at hs8 hs9
    have bA9 : Bx w9 w.heap.size (.int .i64 m) (.slice ao es.length c) := hA7.out.below (B := w7.heap.size) (by repeat' (first | (with_reducible exact Below.refl _ _) | (with_reducible assumption) | (with_reducible refine Below.alloc ?_ ?_ _) | (with_reducible refine Below.drew ?_) | (with_reducible refine below_drewN ?_ _) | (with_reducible refine Below.setCell ?_ ?_ _) | (refine bstep (by with_reducible assumption) ?_) | (refine bstep2 (by with_reducible assumption) (by first | omega | (simp; done) | (simp; omega)) ?_) | go_size)) (by omega)
    have bS9 : Bx w9 w3.heap.size (.int .i64 mr) (.slice s1 us.length m1) := bS7.below (B := w7.heap.size) (by repeat' (first | (with_reducible exact Below.refl _ _) | (with_reducible assumption) | (with_reducible refine Below.alloc ?_ ?_ _) | (with_reducible refine Below.drew ?_) | (with_reducible refine below_drewN ?_ _) | (with_reducible refine Below.setCell ?_ ?_ _) | (refine bstep (by with_reducible assumption) ?_) | (refine bstep2 (by with_reducible assumption) (by first | omega | (simp; done) | (simp; omega)) ?_) | go_size)) (by omega)
    have bX9 : Bx w9 w4.heap.size (.int .i64 m) (.slice x1 es.length k4) := hX7.out.below (B := w7.heap.size) (by repeat' (first | (with_reducible exact Below.refl _ _) | (with_reducible assumption) | (with_reducible refine Below.alloc ?_ ?_ _) | (with_reducible refine Below.drew ?_) | (with_reducible refine below_drewN ?_ _) | (with_reducible refine Below.setCell ?_ ?_ _) | (refine bstep (by with_reducible assumption) ?_) | (refine bstep2 (by with_reducible assumption) (by first | omega | (simp; done) | (simp; omega)) ?_) | go_size)) (by omega)
    have bG9 : Bx w9 w6.heap.size (.int .i64 mr) (.slice g1 us.length m3) := bG7.below (B := w7.heap.size) (by repeat' (first | (with_reducible exact Below.refl _ _) | (with_reducible assumption) | (with_reducible refine Below.alloc ?_ ?_ _) | (with_reducible refine Below.drew ?_) | (with_reducible refine below_drewN ?_ _) | (with_reducible refine Below.setCell ?_ ?_ _) | (refine bstep (by with_reducible assumption) ?_) | (refine bstep2 (by with_reducible assumption) (by first | omega | (simp; done) | (simp; omega)) ?_) | go_size)) (by omega)
    clear bS7 bG7
    have cX := bX9.c0
    have cX' := bX9.c1
    have HB39 : Hid (Below w3.heap.size w3 w9) := (by repeat' (first | (with_reducible exact Below.refl _ _) | (with_reducible assumption) | (with_reducible refine Below.alloc ?_ ?_ _) | (with_reducible refine Below.drew ?_) | (with_reducible refine below_drewN ?_ _) | (with_reducible refine Below.setCell ?_ ?_ _) | (refine bstep (by with_reducible assumption) ?_) | (refine bstep2 (by with_reducible assumption) (by first | omega | (simp; done) | (simp; omega)) ?_) | go_size))
    have HB9 : Hid (Below w.heap.size w w9) := (by repeat' (first | (with_reducible exact Below.refl _ _) | (with_reducible assumption) | (with_reducible refine Below.alloc ?_ ?_ _) | (with_reducible refine Below.drew ?_) | (with_reducible refine below_drewN ?_ _) | (with_reducible refine Below.setCell ?_ ?_ _) | (refine bstep (by with_reducible assumption) ?_) | (refine bstep2 (by with_reducible assumption) (by first | omega | (simp; done) | (simp; omega)) ?_) | go_size))
    go_wp2_with fail
    refine (lawsMarkGraph (w3.heap.size + 1) m x1 k4 es _ (by omega) (OX1.out.below_ (B := w4.heap.size) (by repeat' (first | (with_reducible exact Below.refl _ _) | (with_reducible assumption) | (with_reducible refine Below.alloc ?_ ?_ _) | (with_reducible refine Below.drew ?_) | (with_reducible refine below_drewN ?_ _) | (with_reducible refine Below.setCell ?_ ?_ _) | (refine bstep (by with_reducible assumption) ?_) | (refine bstep2 (by with_reducible assumption) (by first | omega | (simp; done) | (simp; omega)) ?_) | go_size)) (Nat.le_refl _))).mono ?_
    rintro e w12 ⟨ob, rfl, gx1, ox1'⟩
    clear cX cX' bX9
    have hs12 := gx1.size
    simp only [World.size_alloc] at hs12
    have LX1 : ∀ g, blk x1 = some g → w3.heap.size + 1 ≤ g ∧ g < w4.heap.size := OX1.out.lt_
    have LG1 : ∀ g, blk g1 = some g → w4.heap.size + 1 ≤ g ∧ g < w6.heap.size := OG1.out.lt_
    have hB12 : Below w.heap.size w w12 := below_grown (HB9.out.alloc (by omega) ob) gx1 (by simp; omega) (fun g h => by have := LX1 g h; omega)
    have hB312 : Below w3.heap.size w3 w12 := below_grown (HB39.out.alloc (by omega) ob) gx1 (by simp; omega) (fun g h => by have := LX1 g h; omega)
    have bA12 := (bA9.alloc ob).kept gx1 (fun h => by have := LX1 _ h; omega)
    have bS12 := (bS9.alloc ob).kept gx1 (fun h => by have := LX1 _ h; omega)
    have bG12 := (bG9.alloc ob).kept gx1 (fun h => by have := LX1 _ h; omega)
    have OG1' : Hid (Own w12 (w4.heap.size + 1) 47 3 g1 us.length m3 (ev us)) := by
      apply Lib.hid
      clear hB12 hB312
      exact ((OG1.out.below_ (B := w6.heap.size) (by repeat' (first | (with_reducible exact Below.refl _ _) | (with_reducible assumption) | (with_reducible refine Below.alloc ?_ ?_ _) | (with_reducible refine Below.drew ?_) | (with_reducible refine below_drewN ?_ _) | (with_reducible refine Below.setCell ?_ ?_ _) | (refine bstep (by with_reducible assumption) ?_) | (refine bstep2 (by with_reducible assumption) (by first | omega | (simp; done) | (simp; omega)) ?_) | go_size)) (Nat.le_refl _)).alloc_ ob).kept_ gx1 (fun g h e => by have := LG1 g h; have := LX1 g e; omega)
    clear bA9 bS9 bG9 HB9 HB39 hb7 hb8 hb9 gx1 ox1' LX1
    have cS := bS12.c0
    have cS' := bS12.c1
    have cG := bG12.c0
    have cG' := bG12.c1
    have hk0 : (0 : Int) ≤ 1 + 3 * es.length := by omega
    go_wp2_with fail
    refine (lawsEqGraph mr g1 s1 m3 m1 us _ (by omega) OG1'.out.src (OS1.out.src.below (B := w3.heap.size) hB312 (Nat.le_refl _))).mono ?_
    rintro e w14 ⟨rfl, hb14⟩
    have hs14 := hb14.size
    have bA14 := bA12.below hb14 (by omega)
    have bS14 := bS12.below hb14 (by omega)
    have bG14 := bG12.below hb14 (by omega)
    have HB314 : Hid (Below w3.heap.size w3 w14) := hB312.trans (hb14.mono hB312.size)
    have HB14 : Hid (Below w.heap.size w w14) := hB12.trans (hb14.mono hB12.size)
    clear cS cS' cG cG'
    have cG := bG14.c0
    have cG' := bG14.c1
    clear bA12 bS12 bG12
    go_wp2_with fail
    refine (lawsMarkGraph (w4.heap.size + 1) mr g1 m3 us _ (by omega) (OG1'.out.below_ hb14 (Nat.le_refl _))).mono ?_
    rintro e w15 ⟨ob2, rfl, gg1, om1⟩
    have hs15 := gg1.size
    simp only [World.size_alloc] at hs15
    have hB15 : Below w.heap.size w w15 := below_grown (HB14.out.alloc (by omega) ob2) gg1 (by simp; omega) (fun g h => by have := LG1 g h; omega)
    have HB315 : Hid (Below w3.heap.size w3 w15) := below_grown (HB314.out.alloc (by omega) ob2) gg1 (by simp; omega) (fun g h => by have := LG1 g h; omega)
    have bA15 := (bA14.alloc ob2).kept gg1 (fun h => by have := LG1 _ h; omega)
    have bS15 := (bS14.alloc ob2).kept gg1 (fun h => by have := LG1 _ h; omega)
    have bG15 := (bG14.alloc ob2).kept gg1 (fun h => by have := LG1 _ h; omega)
    have OM1 := Lib.hid om1
    clear cG cG' bA14 bS14 bG14 HB14 HB314 hb14 gg1 om1 hB12 hB312
    have cG := bG15.c0
    have cG' := bG15.c1
    have hq0 : (0 : Int) ≤ 1 + 3 * us.length := by omega
    have hq1 : ((1 : Int) + 3 * us.length != 1 + 3 * us.length) = false := by simp
    go_wp2_with fail
    refine (lawsHeldGraph mr g1 us.length m3 _ (by omega) OM1.out.src).mono ?_
    rintro e w16 ⟨rfl, hb16⟩
    have hs16 := hb16.size
    have bA16 := bA15.below hb16 (by omega)
    have bS16 := bS15.below hb16 (by omega)
    have bG16 := bG15.below hb16 (by omega)
    clear cG cG' bA15 bS15 bG15
    have cA := bA16.c0
    have cA' := bA16.c1
    go_wp2_with fail
    refine (KA.out _ (H1.out.below (B := w.heap.size) (by repeat' (first | (with_reducible exact Below.refl _ _) | (with_reducible assumption) | (with_reducible refine Below.alloc ?_ ?_ _) | (with_reducible refine Below.drew ?_) | (with_reducible refine below_drewN ?_ _) | (with_reducible refine Below.setCell ?_ ?_ _) | (refine bstep (by with_reducible assumption) ?_) | (refine bstep2 (by with_reducible assumption) (by first | omega | (simp; done) | (simp; omega)) ?_) | go_size)) (Nat.le_refl _))).out.mono ?_
    rintro e w17 ⟨p5, j5, rfl, op5, hb17, np5⟩
    have bS17 := bS16.below hb17 (by omega)
    have bG17 := bG16.below hb17 (by omega)
    have OP5 := Lib.hid op5
    have hs17 := hb17.size
    clear op5 cA cA' bA16 bS16 bG16
    go_wp2_with fail
    refine (KI.out _ _ _ OP5.out.src np5).out.mono ?_
    unfold GwP
    rintro e w19 ⟨e1, i1, rfl, oe1, hb19⟩
    have bS19 := bS17.below hb19 (by omega)
    have bG19 := bG17.below hb19 (by omega)
    have OE1 := Lib.hid oe1
    have hs19 := hb19.size
    clear oe1 bS17 bG17
    dsimp only at OE1 ⊢
    have HB1519 : Hid (Below w15.heap.size w15 (w19.alloc (.cells #[.int .i64 mr, .slice e1 us.length i1] 28))) := by
      clear hB15
      apply Lib.hid
      exact (by repeat' (first | (with_reducible exact Below.refl _ _) | (with_reducible assumption) | (with_reducible refine Below.alloc ?_ ?_ _) | (with_reducible refine Below.drew ?_) | (with_reducible refine below_drewN ?_ _) | (with_reducible refine Below.setCell ?_ ?_ _) | (refine bstep (by with_reducible assumption) ?_) | (refine bstep2 (by with_reducible assumption) (by first | omega | (simp; done) | (simp; omega)) ?_) | go_size))
    have hl19_00 : w3.heap.size < w19.heap.size := (by omega); have hl19_01 : w3.heap.size < w19.heap.size + 1 := (by omega); have hl19_02 : w3.heap.size < w19.heap.size + 1 + 1 := (by omega); have hn19_00 : ¬ w3.heap.size = w19.heap.size := (by omega); have hn19_01 : ¬ w3.heap.size = w19.heap.size + 1 := (by omega)
    have cS := bS19.c0
    have cS' := bS19.c1
    go_wp2_with fail
    refine (lawsEqGraph mr e1 s1 i1 m1 us _ (by omega) (OE1.out.src.below (B := w19.heap.size) (by repeat' (first | (with_reducible exact Below.refl _ _) | (with_reducible assumption) | (with_reducible refine Below.alloc ?_ ?_ _) | (with_reducible refine Below.drew ?_) | (with_reducible refine below_drewN ?_ _) | (with_reducible refine Below.setCell ?_ ?_ _) | (refine bstep (by with_reducible assumption) ?_) | (refine bstep2 (by with_reducible assumption) (by first | omega | (simp; done) | (simp; omega)) ?_) | go_size)) (Nat.le_refl _)) (OS1.out.src.below (B := w3.heap.size) (HB315.out.trans (Below.mono (B := w15.heap.size) HB1519.out HB315.out.size)) (Nat.le_refl _))).mono ?_
    rintro e w20 ⟨rfl, hb20⟩
    have bG20 := (bG19.alloc (.cells #[.int .i64 mr, .slice e1 us.length i1] 28)).below hb20 (by simp; omega)
    have cG := bG20.c0
    have cG' := bG20.c1
    clear cS cS' bS19 bG19
    go_wp2_with fail
    refine (lawsHeldGraph mr g1 us.length m3 _ (by omega) (OM1.out.src.below (B := w15.heap.size) (by repeat' (first | (with_reducible exact Below.refl _ _) | (with_reducible assumption) | (with_reducible refine Below.alloc ?_ ?_ _) | (with_reducible refine Below.drew ?_) | (with_reducible refine below_drewN ?_ _) | (with_reducible refine Below.setCell ?_ ?_ _) | (refine bstep (by with_reducible assumption) ?_) | (refine bstep2 (by with_reducible assumption) (by first | omega | (simp; done) | (simp; omega)) ?_) | go_size)) (Nat.le_refl _))).mono ?_
    rintro e w21 ⟨rfl, hb21⟩
    go_wp2
    go_ret
    exact ⟨rfl, (by repeat' (first | (with_reducible exact Below.refl _ _) | (with_reducible assumption) | (with_reducible refine Below.alloc ?_ ?_ _) | (with_reducible refine Below.drew ?_) | (with_reducible refine below_drewN ?_ _) | (with_reducible refine Below.setCell ?_ ?_ _) | (refine bstep (by with_reducible assumption) ?_) | (refine bstep2 (by with_reducible assumption) (by first | omega | (simp; done) | (simp; omega)) ?_) | go_size))⟩
end Go.Proofs.Ytknbeakmnkjkhaa
