/- The law FnExactDiskWrite, walked. -/
import Derived.Deep.RegionHeld3
import Derived.Test.YtlanonimjbhjnaaRows
import Derived.WalkKit
import Derived.WalkSpells
import Derived.WalkLawsBesides
import Derived.Lib.Hide
import Derived.Handy
import Derived.BigQuiet
import Derived.Deep.QuietTactic
import Derived.Test.YtlanonimjbhjnaaLib
import Derived.Test.YtlanonimjbhjnaaOwn
import Derived.Test.YtlanonimjbhjnaaJobs
import Derived.Test.YtlanonimjbhjnaaCodes
import Derived.Test.YtlanonimjbhjnaaCodes2
import Derived.Test.YtlanonimjbhjnaaCodes3
import Derived.Test.YtlanonimjbhjnaaFrames
import Derived.Test.YtlanonimjbhjnaaFrames2
import Derived.Test.YtlanonimjbhjnaaDisks
import Derived.Test.YtlanonimjbhjnaaDisks2
import Derived.Test.YtlanonimjbhjnaaMarks
import Derived.Test.YtlanonimjbhjnaaLDisk
set_option linter.unusedSimpArgs false
set_option linter.unusedVariables false
namespace Go.Proofs.Ytlanonimjbhjnaa
open Go.RowKit


theorem dwR_len (xs ys bs : List Int) : (dwR xs ys bs).1.length ≤ xs.length ∧ (dwR xs ys bs).2.1.length ≤ ys.length + 102 := by
  have := frame_len bs
  unfold dwR
  split
  · split
    · simp; omega
    · simp
  · simp
set_option maxRecDepth 100000 in
set_option maxHeartbeats 4000000 in
theorem fnExactDiskWrite (a1 a2 b : Option Addr) (c1 c2 d : Nat) (xs ys bs : List Int) (w : World) (hm1 : xs.length ≤ maxLen) (hm2 : ys.length ≤ maxLen) (hm3 : bs.length ≤ maxLen) (h1 : Sl w a1 xs) (h2 : Sl w a2 ys) (h3 : Sl w b bs) :
    Calls Try.prog 12 #[dk a1 xs.length c1 a2 ys.length c2, .slice b bs.length d] w fun e w' => e = .returned (.bool true) ∧ Below w.heap.size w w' := by
  have hm1' := hm1
  have hm2' := hm2
  have hm3' := hm3
  unfold maxLen at hm1' hm2' hm3'
  by_cases hl3 : bs.length ≤ 1048576
  · have hl3' : ¬ (1048576 : Int) < bs.length := by omega
    have KZ := Lib.hid (fun W => Lib.hid (lawsSzDisk a1 a2 xs.length ys.length c1 c2 W hm1 hm2))
    by_cases hs : (1048576 : Int) - xs.length - ys.length < 0
    · have HE : Hid (szD xs.length ys.length = -1) := by unfold Hid szD; rw [if_pos hs]
      clear hs h1 h2 h3
      go_enter Try.func12, Try.ntmps12
      go_wp2_with fail
      refine (KZ.out _).out.mono ?_
      rw [HE.out]
      rintro e w1 ⟨rfl, hb1⟩
      go_wp2
      go_ret
      exact ⟨rfl, (by repeat' (first | (with_reducible exact Below.refl _ _) | (with_reducible assumption) | (with_reducible refine Below.alloc ?_ ?_ _) | (with_reducible refine Below.drew ?_) | (with_reducible refine below_drewN ?_ _) | (with_reducible refine Below.setCell ?_ ?_ _) | (refine bstep (by with_reducible assumption) ?_) | go_size))⟩
    · have HE : Hid (szD xs.length ys.length = 1048576 - xs.length - ys.length) := by unfold Hid szD; rw [if_neg hs]
      have hl1 : xs.length ≤ 1048576 := by omega
      have hl2 : ys.length ≤ 1048576 := by omega
      have hs0 : 0 ≤ (1048576 : Int) - xs.length - ys.length := by omega
      have KA := Lib.hid (fun W (g1 : Sl W a1 xs) (g2 : Sl W a2 ys) => Lib.hid (lawsToDisk a1 a2 c1 c2 xs ys W hl1 hl2 g1 g2))
      have KB := Lib.hid (fun W (g : Sl W b bs) => Lib.hid (toI b d bs W hl3 g))
      have hr1 : (dwR xs ys bs).1.length ≤ 1048576 := by have := (dwR_len xs ys bs).1; omega
      have hr2 : (dwR xs ys bs).2.1.length ≤ 1048678 := by have := (dwR_len xs ys bs).2; omega
      have KS := Lib.hid (fun p1 p2 q k1 k2 k3 W (g1 : Sl W p1 xs) (g2 : Sl W p2 ys) (g3 : Sl W q bs) => Lib.hid (specDiskWrite p1 p2 q k1 k2 k3 xs ys bs W hl1 hl2 hl3 g1 g2 g3))
      have KI := Lib.hid (fun p1 p2 q k1 k2 k3 W (g1 : Sl W p1 xs) (g2 : Sl W p2 ys) (g3 : Sl W q bs) (n1 : p1 ≠ none) (n2 : p2 ≠ none) => Lib.hid (implDiskWrite p1 p2 q k1 k2 k3 xs ys bs W hl1 hl2 hl3 g1 g2 g3 (fun h => absurd h n1) (fun h => absurd h n2)))
      generalize dwR xs ys bs = r at *
      obtain ⟨us, vs, ok⟩ := r
      have hu1 : us.length ≤ 1048576 := hr1
      have hu2 : vs.length ≤ 1048678 := hr2
      have H1 := Lib.hid h1
      have H2 := Lib.hid h2
      have H3 := Lib.hid h3
      clear hs h1 h2 h3 hr1 hr2
      go_enter Try.func12, Try.ntmps12
      go_wp2_with fail
      refine (KZ.out _).out.mono ?_
      rw [HE.out]
      rintro e w0 ⟨rfl, hb0⟩
      have bA0 := (Box.new w (.slice a1 xs.length c1) (.slice a2 ys.length c2) 61).below hb0 (by simp)
      have hs0 := hb0.size
      simp only [World.size_alloc] at hs0
      have cA := bA0.1
      have cA' := bA0.2
      go_wp2_with fail
      refine (KA.out _ (H1.out.below (B := w.heap.size) (by repeat' (first | (with_reducible exact Below.refl _ _) | (with_reducible assumption) | (with_reducible refine Below.alloc ?_ ?_ _) | (with_reducible refine Below.drew ?_) | (with_reducible refine below_drewN ?_ _) | (with_reducible refine Below.setCell ?_ ?_ _) | (refine bstep (by with_reducible assumption) ?_) | go_size)) (Nat.le_refl _)) (H2.out.below (B := w.heap.size) (by repeat' (first | (with_reducible exact Below.refl _ _) | (with_reducible assumption) | (with_reducible refine Below.alloc ?_ ?_ _) | (with_reducible refine Below.drew ?_) | (with_reducible refine below_drewN ?_ _) | (with_reducible refine Below.setCell ?_ ?_ _) | (refine bstep (by with_reducible assumption) ?_) | go_size)) (Nat.le_refl _))).out.mono ?_
      rintro e w1 ⟨p1, k1, p2, k2, rfl, op1, op2, _, hb1, np1, np2⟩
      have bA1 := bA0.below hb1 (by omega)
      have OP1 := Lib.hid op1
      have OP2 := Lib.hid op2
      have hs1 := hb1.size
      clear op1 op2 cA cA'
      go_wp2_with fail
      refine (KB.out _ (H3.out.below (B := w.heap.size) (by repeat' (first | (with_reducible exact Below.refl _ _) | (with_reducible assumption) | (with_reducible refine Below.alloc ?_ ?_ _) | (with_reducible refine Below.drew ?_) | (with_reducible refine below_drewN ?_ _) | (with_reducible refine Below.setCell ?_ ?_ _) | (refine bstep (by with_reducible assumption) ?_) | go_size)) (Nat.le_refl _))).out.mono ?_
      rintro e w2 ⟨q, k3, rfl, oq, hb2, nq⟩
      have bA2 := bA1.below hb2 (by omega)
      have OQ := Lib.hid oq
      have hs2 := hb2.size
      clear oq
      go_wp2_with fail
      refine (KS.out _ _ _ _ _ _ _ (OP1.out.src.below (B := w1.heap.size) (by repeat' (first | (with_reducible exact Below.refl _ _) | (with_reducible assumption) | (with_reducible refine Below.alloc ?_ ?_ _) | (with_reducible refine Below.drew ?_) | (with_reducible refine below_drewN ?_ _) | (with_reducible refine Below.setCell ?_ ?_ _) | (refine bstep (by with_reducible assumption) ?_) | go_size)) (Nat.le_refl _)) (OP2.out.src.below (B := w1.heap.size) (by repeat' (first | (with_reducible exact Below.refl _ _) | (with_reducible assumption) | (with_reducible refine Below.alloc ?_ ?_ _) | (with_reducible refine Below.drew ?_) | (with_reducible refine below_drewN ?_ _) | (with_reducible refine Below.setCell ?_ ?_ _) | (refine bstep (by with_reducible assumption) ?_) | go_size)) (Nat.le_refl _)) OQ.out.src).out.mono ?_
      unfold DwP
      rintro e w3 ⟨s1, m1, s2, m2, rfl, os1, os2, _, hb3⟩
      have bA3 := bA2.below hb3 (by omega)
      have OS1 := Lib.hid os1
      have OS2 := Lib.hid os2
      have hs3 := hb3.size
      clear os1 os2
      dsimp only at OS1 OS2 ⊢
      have hl3_00 : w.heap.size < w3.heap.size := (by omega); have hl3_01 : w.heap.size < w3.heap.size + 1 := (by omega); have hl3_02 : w.heap.size < w3.heap.size + 1 + 1 := (by omega); have hn3_00 : ¬ w.heap.size = w3.heap.size := (by omega); have hn3_01 : ¬ w.heap.size = w3.heap.size + 1 := (by omega)
      have cA := bA3.1
      have cA' := bA3.2
      go_wp2_with fail
      refine (KA.out _ (H1.out.below (B := w.heap.size) (by repeat' (first | (with_reducible exact Below.refl _ _) | (with_reducible assumption) | (with_reducible refine Below.alloc ?_ ?_ _) | (with_reducible refine Below.drew ?_) | (with_reducible refine below_drewN ?_ _) | (with_reducible refine Below.setCell ?_ ?_ _) | (refine bstep (by with_reducible assumption) ?_) | go_size)) (Nat.le_refl _)) (H2.out.below (B := w.heap.size) (by repeat' (first | (with_reducible exact Below.refl _ _) | (with_reducible assumption) | (with_reducible refine Below.alloc ?_ ?_ _) | (with_reducible refine Below.drew ?_) | (with_reducible refine below_drewN ?_ _) | (with_reducible refine Below.setCell ?_ ?_ _) | (refine bstep (by with_reducible assumption) ?_) | go_size)) (Nat.le_refl _))).out.mono ?_
      unfold DkC
      rintro e w4 ⟨x1, k4, x2, k5, rfl, ox1, ox2, dx, hb4, nx1, nx2⟩
      have bA4 := (bA3.alloc (.cells #[.slice s1 us.length m1, .slice s2 vs.length m2] 63)).below hb4 (by simp; omega)
      have bS4 := (Box.new w3 (.slice s1 us.length m1) (.slice s2 vs.length m2) 63).below hb4 (by simp)
      have hs4 := hb4.size
      simp only [World.size_alloc] at hs4
      have OX1 := Lib.hid (ox1.mono_ (base' := w3.heap.size + 1) (by simp))
      have OX2 := Lib.hid (ox2.mono_ (base' := w3.heap.size + 1) (by simp))
      have DX := Lib.hid dx
      clear ox1 ox2 dx cA cA' hl3_00 hl3_01 hl3_02 hn3_00 hn3_01
      go_wp2_with fail
      refine (KB.out _ (H3.out.below (B := w.heap.size) (by repeat' (first | (with_reducible exact Below.refl _ _) | (with_reducible assumption) | (with_reducible refine Below.alloc ?_ ?_ _) | (with_reducible refine Below.drew ?_) | (with_reducible refine below_drewN ?_ _) | (with_reducible refine Below.setCell ?_ ?_ _) | (refine bstep (by with_reducible assumption) ?_) | go_size)) (Nat.le_refl _))).out.mono ?_
      rintro e w5 ⟨y, k6, rfl, oy, hb5, ny⟩
      have bA5 := (bA4.alloc (.cells #[.slice x1 xs.length k4, .slice x2 ys.length k5] 63)).below hb5 (by simp; omega)
      have bS5 := (bS4.alloc (.cells #[.slice x1 xs.length k4, .slice x2 ys.length k5] 63)).below hb5 (by simp; omega)
      have bX5 := (Box.new w4 (.slice x1 xs.length k4) (.slice x2 ys.length k5) 63).below hb5 (by simp)
      have hs5 := hb5.size
      simp only [World.size_alloc] at hs5
      have OY := Lib.hid (oy.mono_ (base' := w4.heap.size + 1) (by simp))
      have cX := bX5.1
      have cX' := bX5.2
      clear oy
      go_wp2_with fail
      refine (KI.out _ _ _ _ _ _ _ (OX1.out.src.below (B := w4.heap.size) (by repeat' (first | (with_reducible exact Below.refl _ _) | (with_reducible assumption) | (with_reducible refine Below.alloc ?_ ?_ _) | (with_reducible refine Below.drew ?_) | (with_reducible refine below_drewN ?_ _) | (with_reducible refine Below.setCell ?_ ?_ _) | (refine bstep (by with_reducible assumption) ?_) | go_size)) (Nat.le_refl _)) (OX2.out.src.below (B := w4.heap.size) (by repeat' (first | (with_reducible exact Below.refl _ _) | (with_reducible assumption) | (with_reducible refine Below.alloc ?_ ?_ _) | (with_reducible refine Below.drew ?_) | (with_reducible refine below_drewN ?_ _) | (with_reducible refine Below.setCell ?_ ?_ _) | (refine bstep (by with_reducible assumption) ?_) | go_size)) (Nat.le_refl _)) OY.out.src nx1 nx2).out.mono ?_
      unfold DwP
      rintro e w6 ⟨g1, m3, g2, m4, rfl, og1, og2, dg, hb6⟩
      have bA6 := bA5.below hb6 (by omega)
      have bS6 := bS5.below hb6 (by omega)
      have bX6 := bX5.below hb6 (by omega)
      have OG1 := Lib.hid og1
      have OG2 := Lib.hid og2
      have DG := Lib.hid dg
      have hs6 := hb6.size
      clear og1 og2 dg cX cX'
      dsimp only at OG1 OG2 ⊢
      have hl6_00 : w3.heap.size < w6.heap.size := (by omega); have hl6_01 : w3.heap.size < w6.heap.size + 1 := (by omega); have hl6_02 : w3.heap.size < w6.heap.size + 1 + 1 := (by omega); have hn6_00 : ¬ w3.heap.size = w6.heap.size := (by omega); have hn6_01 : ¬ w3.heap.size = w6.heap.size + 1 := (by omega)
      have cS := bS6.1
      have cS' := bS6.2
      have hok : (ok != ok) = false := by cases ok <;> rfl
      go_wp2_with fail
      refine (lawsEqDisk g1 g2 s1 s2 m3 m4 m1 m2 us vs _ (by omega) (by omega) (OG1.out.src.below (B := w6.heap.size) (by repeat' (first | (with_reducible exact Below.refl _ _) | (with_reducible assumption) | (with_reducible refine Below.alloc ?_ ?_ _) | (with_reducible refine Below.drew ?_) | (with_reducible refine below_drewN ?_ _) | (with_reducible refine Below.setCell ?_ ?_ _) | (refine bstep (by with_reducible assumption) ?_) | go_size)) (Nat.le_refl _)) (OG2.out.src.below (B := w6.heap.size) (by repeat' (first | (with_reducible exact Below.refl _ _) | (with_reducible assumption) | (with_reducible refine Below.alloc ?_ ?_ _) | (with_reducible refine Below.drew ?_) | (with_reducible refine below_drewN ?_ _) | (with_reducible refine Below.setCell ?_ ?_ _) | (refine bstep (by with_reducible assumption) ?_) | go_size)) (Nat.le_refl _)) (OS1.out.src.below (B := w3.heap.size) (by repeat' (first | (with_reducible exact Below.refl _ _) | (with_reducible assumption) | (with_reducible refine Below.alloc ?_ ?_ _) | (with_reducible refine Below.drew ?_) | (with_reducible refine below_drewN ?_ _) | (with_reducible refine Below.setCell ?_ ?_ _) | (refine bstep (by with_reducible assumption) ?_) | go_size)) (Nat.le_refl _)) (OS2.out.src.below (B := w3.heap.size) (by repeat' (first | (with_reducible exact Below.refl _ _) | (with_reducible assumption) | (with_reducible refine Below.alloc ?_ ?_ _) | (with_reducible refine Below.drew ?_) | (with_reducible refine below_drewN ?_ _) | (with_reducible refine Below.setCell ?_ ?_ _) | (refine bstep (by with_reducible assumption) ?_) | go_size)) (Nat.le_refl _))).mono ?_
      rintro e w7 ⟨rfl, hb7⟩
      have bA7 := (bA6.alloc (.cells #[.slice g1 us.length m3, .slice g2 vs.length m4] 63)).below hb7 (by simp; omega)
      have bS7 := (bS6.alloc (.cells #[.slice g1 us.length m3, .slice g2 vs.length m4] 63)).below hb7 (by simp; omega)
      have bX7 := (bX6.alloc (.cells #[.slice g1 us.length m3, .slice g2 vs.length m4] 63)).below hb7 (by simp; omega)
      have bG7 := (Box.new w6 (.slice g1 us.length m3) (.slice g2 vs.length m4) 63).below hb7 (by simp)
      have hs7 := hb7.size
      simp only [World.size_alloc] at hs7
      clear cS cS' hl6_00 hl6_01 hl6_02 hn6_00 hn6_01
      have hA7 := Lib.hid bA7
      have hX7 := Lib.hid bX7
      have cA := bA7.1
      have cA' := bA7.2
      have cX := bX7.1
      have cX' := bX7.2
      have KE : ∀ W z1 z2 k k', Sl W x1 xs → Sl W x2 ys → Sl W z1 xs → Sl W z2 ys → Hid (Calls Try.prog 42 #[dk x1 xs.length k4 x2 ys.length k5, dk z1 xs.length k z2 ys.length k'] W fun e w' => e = .returned (.bool true) ∧ Below W.heap.size W w') := fun W z1 z2 k k' q1 q2 q3 q4 => Lib.hid (lawsEqDisk x1 x2 z1 z2 k4 k5 k k' xs ys W (by omega) (by omega) q1 q2 q3 q4)
      have KE := Lib.hid KE
      clear bA0 bA1 bA2 bA3 bA4 bA5 bA6 bS4 bS5 bS6 bX5 bX6 bA7 bX7
      have hlA7 : w.heap.size < w7.heap.size := by omega
      have hlX7 : w4.heap.size < w7.heap.size := by omega
      go_wp2
      go_region_held3 (fun w' => w'.cell? ⟨w.heap.size, 0, none⟩ = some (.slice a1 xs.length c1) ∧ w'.cell? ⟨w.heap.size, 1, none⟩ = some (.slice a2 ys.length c2) ∧ w'.cell? ⟨w4.heap.size, 0, none⟩ = some (.slice x1 xs.length k4) ∧ w'.cell? ⟨w4.heap.size, 1, none⟩ = some (.slice x2 ys.length k5)) (go_keep) (first | (go_simp; go_at_call 40; (with_reducible refine (KA.out _ (H1.out.below (B := w.heap.size) ?_ (Nat.le_refl _)) (H2.out.below (B := w.heap.size) ?_ (Nat.le_refl _))).out.mono ?_); (exact (by repeat' (first | (with_reducible exact Below.refl _ _) | (with_reducible assumption) | (with_reducible refine Below.alloc ?_ ?_ _) | (with_reducible refine Below.drew ?_) | (with_reducible refine below_drewN ?_ _) | (with_reducible refine Below.setCell ?_ ?_ _) | (refine bstep (by with_reducible assumption) ?_) | go_size))); (exact (by repeat' (first | (with_reducible exact Below.refl _ _) | (with_reducible assumption) | (with_reducible refine Below.alloc ?_ ?_ _) | (with_reducible refine Below.drew ?_) | (with_reducible refine below_drewN ?_ _) | (with_reducible refine Below.setCell ?_ ?_ _) | (refine bstep (by with_reducible assumption) ?_) | go_size))); unfold DkC; rintro e w8 ⟨z1, j1, z2, j2, rfl, oz1, oz2, dz, hb8, nz1, nz2⟩; (obtain ⟨hc8, hf8⟩ := bcell hb8); (try simp only [World.size_drew, World.size_drewN] at hc8 hf8); have hz8 := hb8.size; (try simp only [World.size_alloc, World.size_setCell, World.size_drew, World.size_drewN] at hz8); have hlA8 : w.heap.size < w8.heap.size := (by omega); have hlX8 : w4.heap.size < w8.heap.size := (by omega); have OZ1 := Lib.hid oz1; have OZ2 := Lib.hid oz2; clear oz1 oz2 dz nz1 nz2) | (go_simp; go_at_call 42; (with_reducible refine (KE.out _ _ _ _ _ (OX1.out.src.below (B := w4.heap.size) ?_ (Nat.le_refl _)) (OX2.out.src.below (B := w4.heap.size) ?_ (Nat.le_refl _)) (OZ1.out.src.below (B := w8.heap.size) ?_ (Nat.le_refl _)) (OZ2.out.src.below (B := w8.heap.size) ?_ (Nat.le_refl _))).out.mono ?_); (exact (by repeat' (first | (with_reducible exact Below.refl _ _) | (with_reducible assumption) | (with_reducible refine Below.alloc ?_ ?_ _) | (with_reducible refine Below.drew ?_) | (with_reducible refine below_drewN ?_ _) | (with_reducible refine Below.setCell ?_ ?_ _) | (refine bstep (by with_reducible assumption) ?_) | go_size))); (exact (by repeat' (first | (with_reducible exact Below.refl _ _) | (with_reducible assumption) | (with_reducible refine Below.alloc ?_ ?_ _) | (with_reducible refine Below.drew ?_) | (with_reducible refine below_drewN ?_ _) | (with_reducible refine Below.setCell ?_ ?_ _) | (refine bstep (by with_reducible assumption) ?_) | go_size))); (exact (by repeat' (first | (with_reducible exact Below.refl _ _) | (with_reducible assumption) | (with_reducible refine Below.alloc ?_ ?_ _) | (with_reducible refine Below.drew ?_) | (with_reducible refine below_drewN ?_ _) | (with_reducible refine Below.setCell ?_ ?_ _) | (refine bstep (by with_reducible assumption) ?_) | go_size))); (exact (by repeat' (first | (with_reducible exact Below.refl _ _) | (with_reducible assumption) | (with_reducible refine Below.alloc ?_ ?_ _) | (with_reducible refine Below.drew ?_) | (with_reducible refine below_drewN ?_ _) | (with_reducible refine Below.setCell ?_ ?_ _) | (refine bstep (by with_reducible assumption) ?_) | go_size))); rintro e w9 ⟨rfl, hb9⟩; (obtain ⟨hc9, hf9⟩ := bcell hb9); (try simp only [World.size_drew, World.size_drewN] at hc9 hf9); have hz9 := hb9.size; (try simp only [World.size_alloc, World.size_setCell, World.size_drew, World.size_drewN] at hz9)))
      clear hlA7 hlX7 hlA8 hlX8 hc8 hf8 hc9 hf9 cA cA' cX cX'
      have hs8 := hb8.size
      have hs9 := hb9.size
      simp only [World.size_drew, World.size_drewN] at hs8 hs9
      go_wp2_with fail
      refine (KB.out _ (H3.out.below (B := w.heap.size) (by repeat' (first | (with_reducible exact Below.refl _ _) | (with_reducible assumption) | (with_reducible refine Below.alloc ?_ ?_ _) | (with_reducible refine Below.drew ?_) | (with_reducible refine below_drewN ?_ _) | (with_reducible refine Below.setCell ?_ ?_ _) | (refine bstep (by with_reducible assumption) ?_) | go_size)) (Nat.le_refl _))).out.mono ?_
      rintro e w10 ⟨y2, j3, rfl, oy2, hb10, ny2⟩
      have hs10 := hb10.size
      go_wp2_with fail
      refine (eqI y y2 k6 j3 bs _ (by omega) (OY.out.src.below (B := w5.heap.size) (by repeat' (first | (with_reducible exact Below.refl _ _) | (with_reducible assumption) | (with_reducible refine Below.alloc ?_ ?_ _) | (with_reducible refine Below.drew ?_) | (with_reducible refine below_drewN ?_ _) | (with_reducible refine Below.setCell ?_ ?_ _) | (refine bstep (by with_reducible assumption) ?_) | go_size)) (Nat.le_refl _)) oy2.src).mono ?_
      rintro e w11 ⟨rfl, hb11⟩
      have hs11 := hb11.size
      clear oy2
      have bA11 : Box w11 w.heap.size (.slice a1 xs.length c1) (.slice a2 ys.length c2) := hA7.out.below (B := w7.heap.size) (by repeat' (first | (with_reducible exact Below.refl _ _) | (with_reducible assumption) | (with_reducible refine Below.alloc ?_ ?_ _) | (with_reducible refine Below.drew ?_) | (with_reducible refine below_drewN ?_ _) | (with_reducible refine Below.setCell ?_ ?_ _) | (refine bstep (by with_reducible assumption) ?_) | go_size)) (by omega)
      have bS11 : Box w11 w3.heap.size (.slice s1 us.length m1) (.slice s2 vs.length m2) := bS7.below (B := w7.heap.size) (by repeat' (first | (with_reducible exact Below.refl _ _) | (with_reducible assumption) | (with_reducible refine Below.alloc ?_ ?_ _) | (with_reducible refine Below.drew ?_) | (with_reducible refine below_drewN ?_ _) | (with_reducible refine Below.setCell ?_ ?_ _) | (refine bstep (by with_reducible assumption) ?_) | go_size)) (by omega)
      have bX11 : Box w11 w4.heap.size (.slice x1 xs.length k4) (.slice x2 ys.length k5) := hX7.out.below (B := w7.heap.size) (by repeat' (first | (with_reducible exact Below.refl _ _) | (with_reducible assumption) | (with_reducible refine Below.alloc ?_ ?_ _) | (with_reducible refine Below.drew ?_) | (with_reducible refine below_drewN ?_ _) | (with_reducible refine Below.setCell ?_ ?_ _) | (refine bstep (by with_reducible assumption) ?_) | go_size)) (by omega)
      have bG11 : Box w11 w6.heap.size (.slice g1 us.length m3) (.slice g2 vs.length m4) := bG7.below (B := w7.heap.size) (by repeat' (first | (with_reducible exact Below.refl _ _) | (with_reducible assumption) | (with_reducible refine Below.alloc ?_ ?_ _) | (with_reducible refine Below.drew ?_) | (with_reducible refine below_drewN ?_ _) | (with_reducible refine Below.setCell ?_ ?_ _) | (refine bstep (by with_reducible assumption) ?_) | go_size)) (by omega)
      clear bS7 bG7
      have cX := bX11.1
      have cX' := bX11.2
      have HB311 : Hid (Below w3.heap.size w3 w11) := (by repeat' (first | (with_reducible exact Below.refl _ _) | (with_reducible assumption) | (with_reducible refine Below.alloc ?_ ?_ _) | (with_reducible refine Below.drew ?_) | (with_reducible refine below_drewN ?_ _) | (with_reducible refine Below.setCell ?_ ?_ _) | (refine bstep (by with_reducible assumption) ?_) | go_size))
      have HB11 : Hid (Below w.heap.size w w11) := (by repeat' (first | (with_reducible exact Below.refl _ _) | (with_reducible assumption) | (with_reducible refine Below.alloc ?_ ?_ _) | (with_reducible refine Below.drew ?_) | (with_reducible refine below_drewN ?_ _) | (with_reducible refine Below.setCell ?_ ?_ _) | (refine bstep (by with_reducible assumption) ?_) | go_size))
      go_wp2_with fail
      refine (lawsMarkDisk (w3.heap.size + 1) x1 x2 k4 k5 xs ys _ (by omega) (by omega) (OX1.out.below_ (B := w4.heap.size) (by repeat' (first | (with_reducible exact Below.refl _ _) | (with_reducible assumption) | (with_reducible refine Below.alloc ?_ ?_ _) | (with_reducible refine Below.drew ?_) | (with_reducible refine below_drewN ?_ _) | (with_reducible refine Below.setCell ?_ ?_ _) | (refine bstep (by with_reducible assumption) ?_) | go_size)) (Nat.le_refl _)) (OX2.out.below_ (B := w4.heap.size) (by repeat' (first | (with_reducible exact Below.refl _ _) | (with_reducible assumption) | (with_reducible refine Below.alloc ?_ ?_ _) | (with_reducible refine Below.drew ?_) | (with_reducible refine below_drewN ?_ _) | (with_reducible refine Below.setCell ?_ ?_ _) | (refine bstep (by with_reducible assumption) ?_) | go_size)) (Nat.le_refl _)) DX.out).mono ?_
      rintro e w12 ⟨ob, W12, rfl, gx1, gx2, ox1', ox2'⟩
      clear cX cX' bX11
      have hsW12 := gx1.size
      have hs12 := gx2.size
      simp only [World.size_alloc] at hsW12
      have LX1 : ∀ g, blk x1 = some g → w3.heap.size + 1 ≤ g ∧ g < w4.heap.size := OX1.out.lt_
      have LX2 : ∀ g, blk x2 = some g → w3.heap.size + 1 ≤ g ∧ g < w4.heap.size := OX2.out.lt_
      have LG1 : ∀ g, blk g1 = some g → w5.heap.size ≤ g ∧ g < w6.heap.size := OG1.out.lt_
      have LG2 : ∀ g, blk g2 = some g → w5.heap.size ≤ g ∧ g < w6.heap.size := OG2.out.lt_
      have LY : ∀ g, blk y = some g → w4.heap.size + 1 ≤ g ∧ g < w5.heap.size := OY.out.lt_
      have HB12 : Hid (Below w.heap.size w w12) := below_grown (below_grown (HB11.out.alloc (by omega) ob) gx1 (by simp; omega) (fun g h => by have := LX1 g h; omega)) gx2 (by omega) (fun g h => by have := LX2 g h; omega)
      have HB312 : Hid (Below w3.heap.size w3 w12) := below_grown (below_grown (HB311.out.alloc (by omega) ob) gx1 (by simp; omega) (fun g h => by have := LX1 g h; omega)) gx2 (by omega) (fun g h => by have := LX2 g h; omega)
      have bA12 := ((bA11.alloc ob).kept gx1 (fun h => by have := LX1 _ h; omega)).kept gx2 (fun h => by have := LX2 _ h; omega)
      have bS12 := ((bS11.alloc ob).kept gx1 (fun h => by have := LX1 _ h; omega)).kept gx2 (fun h => by have := LX2 _ h; omega)
      have bG12 := ((bG11.alloc ob).kept gx1 (fun h => by have := LX1 _ h; omega)).kept gx2 (fun h => by have := LX2 _ h; omega)
      have oG1 : Own w12 w5.heap.size 3 1 g1 us.length m3 (iv us) := (((OG1.out.below_ (B := w6.heap.size) (by repeat' (first | (with_reducible exact Below.refl _ _) | (with_reducible assumption) | (with_reducible refine Below.alloc ?_ ?_ _) | (with_reducible refine Below.drew ?_) | (with_reducible refine below_drewN ?_ _) | (with_reducible refine Below.setCell ?_ ?_ _) | (refine bstep (by with_reducible assumption) ?_) | go_size)) (Nat.le_refl _)).alloc_ ob).kept_ gx1 (fun g h e => by have := LG1 g h; have := LX1 g e; omega)).kept_ gx2 (fun g h e => by have := LG1 g h; have := LX2 g e; omega)
      have oG2 : Own w12 w5.heap.size 3 1 g2 vs.length m4 (iv vs) := (((OG2.out.below_ (B := w6.heap.size) (by repeat' (first | (with_reducible exact Below.refl _ _) | (with_reducible assumption) | (with_reducible refine Below.alloc ?_ ?_ _) | (with_reducible refine Below.drew ?_) | (with_reducible refine below_drewN ?_ _) | (with_reducible refine Below.setCell ?_ ?_ _) | (refine bstep (by with_reducible assumption) ?_) | go_size)) (Nat.le_refl _)).alloc_ ob).kept_ gx1 (fun g h e => by have := LG2 g h; have := LX1 g e; omega)).kept_ gx2 (fun g h e => by have := LG2 g h; have := LX2 g e; omega)
      have oY : Own w12 (w4.heap.size + 1) 3 1 y bs.length k6 (iv bs) := (((OY.out.below_ (B := w5.heap.size) (by repeat' (first | (with_reducible exact Below.refl _ _) | (with_reducible assumption) | (with_reducible refine Below.alloc ?_ ?_ _) | (with_reducible refine Below.drew ?_) | (with_reducible refine below_drewN ?_ _) | (with_reducible refine Below.setCell ?_ ?_ _) | (refine bstep (by with_reducible assumption) ?_) | go_size)) (Nat.le_refl _)).alloc_ ob).kept_ gx1 (fun g h e => by have := LY g h; have := LX1 g e; omega)).kept_ gx2 (fun g h e => by have := LY g h; have := LX2 g e; omega)
      clear bA11 bS11 bG11 HB11 HB311 hb7 hb8 hb9 hb10 hb11 gx1 gx2 ox1' ox2'
      go_wp2_with fail
      refine (lawsMarkIntS (w4.heap.size + 1) y k6 bs _ w12 (by omega) (by omega) (by omega) oY).mono ?_
      rintro e w13 ⟨rfl, oY', gy⟩
      have hs13 := gy.size
      have hB13 : Below w.heap.size w w13 := below_grown HB12.out gy (by omega) (fun g h => by have := LY g h; omega)
      have hB313 : Below w3.heap.size w3 w13 := below_grown HB312.out gy (by omega) (fun g h => by have := LY g h; omega)
      have bA13 := bA12.kept gy (fun h => by have := LY _ h; omega)
      have bS13 := bS12.kept gy (fun h => by have := LY _ h; omega)
      have bG13 := bG12.kept gy (fun h => by have := LY _ h; omega)
      have OG1' := Lib.hid (oG1.kept_ gy (fun g h e => by have := LG1 g h; have := LY g e; omega))
      have OG2' := Lib.hid (oG2.kept_ gy (fun g h e => by have := LG2 g h; have := LY g e; omega))
      clear bA12 bS12 bG12 HB12 HB312 oG1 oG2 oY oY' gy LX1 LX2
      have cS := bS13.1
      have cS' := bS13.2
      have cG := bG13.1
      have cG' := bG13.2
      have hk0 : (0 : Int) ≤ 1 + xs.length + ys.length + bs.length := by omega
      have hk1 : decide ((1 : Int) + xs.length + ys.length + bs.length < 0) = false := by simp; omega
      go_wp2_with fail
      refine (lawsEqDisk g1 g2 s1 s2 m3 m4 m1 m2 us vs _ (by omega) (by omega) OG1'.out.src OG2'.out.src (OS1.out.src.below (B := w3.heap.size) hB313 (Nat.le_refl _)) (OS2.out.src.below (B := w3.heap.size) hB313 (Nat.le_refl _))).mono ?_
      rintro e w14 ⟨rfl, hb14⟩
      have hs14 := hb14.size
      have bA14 := bA13.below hb14 (by omega)
      have bS14 := bS13.below hb14 (by omega)
      have bG14 := bG13.below hb14 (by omega)
      have HB314 : Hid (Below w3.heap.size w3 w14) := hB313.trans (hb14.mono hB313.size)
      have HB14 : Hid (Below w.heap.size w w14) := hB13.trans (hb14.mono hB13.size)
      clear cS cS' cG cG'
      have cG := bG14.1
      have cG' := bG14.2
      clear bA13 bS13 bG13 hk1
      go_wp2_with fail
      refine (lawsMarkDisk w5.heap.size g1 g2 m3 m4 us vs _ (by omega) (by omega) (OG1'.out.below_ hb14 (Nat.le_refl _)) (OG2'.out.below_ hb14 (Nat.le_refl _)) DG.out).mono ?_
      rintro e w15 ⟨ob2, W15, rfl, gg1, gg2, om1, om2⟩
      have hsW15 := gg1.size
      have hs15 := gg2.size
      simp only [World.size_alloc] at hsW15
      have HB15 : Hid (Below w.heap.size w w15) := below_grown (below_grown (HB14.out.alloc (by omega) ob2) gg1 (by simp; omega) (fun g h => by have := LG1 g h; omega)) gg2 (by omega) (fun g h => by have := LG2 g h; omega)
      have HB315 : Hid (Below w3.heap.size w3 w15) := below_grown (below_grown (HB314.out.alloc (by omega) ob2) gg1 (by simp; omega) (fun g h => by have := LG1 g h; omega)) gg2 (by omega) (fun g h => by have := LG2 g h; omega)
      have bA15 := ((bA14.alloc ob2).kept gg1 (fun h => by have := LG1 _ h; omega)).kept gg2 (fun h => by have := LG2 _ h; omega)
      have bS15 := ((bS14.alloc ob2).kept gg1 (fun h => by have := LG1 _ h; omega)).kept gg2 (fun h => by have := LG2 _ h; omega)
      have bG15 := ((bG14.alloc ob2).kept gg1 (fun h => by have := LG1 _ h; omega)).kept gg2 (fun h => by have := LG2 _ h; omega)
      have OM1 := Lib.hid om1
      have OM2 := Lib.hid om2
      clear cG cG' bA14 bS14 bG14 HB14 HB314 hb14 gg1 gg2 om1 om2 hB13 hB313
      have cG := bG15.1
      have cG' := bG15.2
      have hB15 := HB15.out
      have hq0 : (0 : Int) ≤ 1 + us.length + vs.length := by omega
      have hq1 : ((1 : Int) + us.length + vs.length != 1 + us.length + vs.length) = false := by simp
      go_wp2_with fail
      refine (lawsHeldDisk g1 g2 us.length vs.length m3 m4 _ (by omega) (by omega) OM1.out.src OM2.out.src).mono ?_
      rintro e w16 ⟨rfl, hb16⟩
      have hs16 := hb16.size
      have bA16 := bA15.below hb16 (by omega)
      have bS16 := bS15.below hb16 (by omega)
      have bG16 := bG15.below hb16 (by omega)
      clear cG cG' bA15 bS15 bG15
      have cA := bA16.1
      have cA' := bA16.2
      go_wp2_with fail
      refine (KA.out _ (H1.out.below (B := w.heap.size) (by repeat' (first | (with_reducible exact Below.refl _ _) | (with_reducible assumption) | (with_reducible refine Below.alloc ?_ ?_ _) | (with_reducible refine Below.drew ?_) | (with_reducible refine below_drewN ?_ _) | (with_reducible refine Below.setCell ?_ ?_ _) | (refine bstep (by with_reducible assumption) ?_) | go_size)) (Nat.le_refl _)) (H2.out.below (B := w.heap.size) (by repeat' (first | (with_reducible exact Below.refl _ _) | (with_reducible assumption) | (with_reducible refine Below.alloc ?_ ?_ _) | (with_reducible refine Below.drew ?_) | (with_reducible refine below_drewN ?_ _) | (with_reducible refine Below.setCell ?_ ?_ _) | (refine bstep (by with_reducible assumption) ?_) | go_size)) (Nat.le_refl _))).out.mono ?_
      unfold DkC
      rintro e w17 ⟨p5, j5, p6, j6, rfl, op5, op6, _, hb17, np5, np6⟩
      have bS17 := bS16.below hb17 (by omega)
      have bG17 := bG16.below hb17 (by omega)
      have OP5 := Lib.hid op5
      have OP6 := Lib.hid op6
      have hs17 := hb17.size
      clear op5 op6 cA cA' bA16 bS16 bG16
      go_wp2_with fail
      refine (KB.out _ (H3.out.below (B := w.heap.size) (by repeat' (first | (with_reducible exact Below.refl _ _) | (with_reducible assumption) | (with_reducible refine Below.alloc ?_ ?_ _) | (with_reducible refine Below.drew ?_) | (with_reducible refine below_drewN ?_ _) | (with_reducible refine Below.setCell ?_ ?_ _) | (refine bstep (by with_reducible assumption) ?_) | go_size)) (Nat.le_refl _))).out.mono ?_
      rintro e w18 ⟨q5, j7, rfl, oq5, hb18, nq5⟩
      have bS18 := bS17.below hb18 (by omega)
      have bG18 := bG17.below hb18 (by omega)
      have OQ5 := Lib.hid oq5
      have hs18 := hb18.size
      clear oq5 bS17 bG17
      go_wp2_with fail
      refine (KI.out _ _ _ _ _ _ _ (OP5.out.src.below (B := w17.heap.size) (by repeat' (first | (with_reducible exact Below.refl _ _) | (with_reducible assumption) | (with_reducible refine Below.alloc ?_ ?_ _) | (with_reducible refine Below.drew ?_) | (with_reducible refine below_drewN ?_ _) | (with_reducible refine Below.setCell ?_ ?_ _) | (refine bstep (by with_reducible assumption) ?_) | go_size)) (Nat.le_refl _)) (OP6.out.src.below (B := w17.heap.size) (by repeat' (first | (with_reducible exact Below.refl _ _) | (with_reducible assumption) | (with_reducible refine Below.alloc ?_ ?_ _) | (with_reducible refine Below.drew ?_) | (with_reducible refine below_drewN ?_ _) | (with_reducible refine Below.setCell ?_ ?_ _) | (refine bstep (by with_reducible assumption) ?_) | go_size)) (Nat.le_refl _)) OQ5.out.src np5 np6).out.mono ?_
      unfold DwP
      rintro e w19 ⟨e1, i1, e2, i2, rfl, oe1, oe2, _, hb19⟩
      have bS19 := bS18.below hb19 (by omega)
      have bG19 := bG18.below hb19 (by omega)
      have OE1 := Lib.hid oe1
      have OE2 := Lib.hid oe2
      have hs19 := hb19.size
      clear oe1 oe2 bS18 bG18
      dsimp only at OE1 OE2 ⊢
      have HB1519 : Hid (Below w15.heap.size w15 (w19.alloc (.cells #[.slice e1 us.length i1, .slice e2 vs.length i2] 63))) := by
        clear hB15
        apply Lib.hid
        exact (by repeat' (first | (with_reducible exact Below.refl _ _) | (with_reducible assumption) | (with_reducible refine Below.alloc ?_ ?_ _) | (with_reducible refine Below.drew ?_) | (with_reducible refine below_drewN ?_ _) | (with_reducible refine Below.setCell ?_ ?_ _) | (refine bstep (by with_reducible assumption) ?_) | go_size))
      have hl19_00 : w3.heap.size < w19.heap.size := (by omega); have hl19_01 : w3.heap.size < w19.heap.size + 1 := (by omega); have hl19_02 : w3.heap.size < w19.heap.size + 1 + 1 := (by omega); have hn19_00 : ¬ w3.heap.size = w19.heap.size := (by omega); have hn19_01 : ¬ w3.heap.size = w19.heap.size + 1 := (by omega)
      have cS := bS19.1
      have cS' := bS19.2
      go_wp2_with fail
      refine (lawsEqDisk e1 e2 s1 s2 i1 i2 m1 m2 us vs _ (by omega) (by omega) (OE1.out.src.below (B := w19.heap.size) (by repeat' (first | (with_reducible exact Below.refl _ _) | (with_reducible assumption) | (with_reducible refine Below.alloc ?_ ?_ _) | (with_reducible refine Below.drew ?_) | (with_reducible refine below_drewN ?_ _) | (with_reducible refine Below.setCell ?_ ?_ _) | (refine bstep (by with_reducible assumption) ?_) | go_size)) (Nat.le_refl _)) (OE2.out.src.below (B := w19.heap.size) (by repeat' (first | (with_reducible exact Below.refl _ _) | (with_reducible assumption) | (with_reducible refine Below.alloc ?_ ?_ _) | (with_reducible refine Below.drew ?_) | (with_reducible refine below_drewN ?_ _) | (with_reducible refine Below.setCell ?_ ?_ _) | (refine bstep (by with_reducible assumption) ?_) | go_size)) (Nat.le_refl _)) (OS1.out.src.below (B := w3.heap.size) (HB315.out.trans (Below.mono (B := w15.heap.size) HB1519.out HB315.out.size)) (Nat.le_refl _)) (OS2.out.src.below (B := w3.heap.size) (HB315.out.trans (Below.mono (B := w15.heap.size) HB1519.out HB315.out.size)) (Nat.le_refl _))).mono ?_
      rintro e w20 ⟨rfl, hb20⟩
      have bG20 := (bG19.alloc (.cells #[.slice e1 us.length i1, .slice e2 vs.length i2] 63)).below hb20 (by simp; omega)
      have cG := bG20.1
      have cG' := bG20.2
      clear cS cS' bS19 bG19
      go_wp2_with fail
      refine (lawsHeldDisk g1 g2 us.length vs.length m3 m4 _ (by omega) (by omega) (OM1.out.src.below (B := w15.heap.size) (by repeat' (first | (with_reducible exact Below.refl _ _) | (with_reducible assumption) | (with_reducible refine Below.alloc ?_ ?_ _) | (with_reducible refine Below.drew ?_) | (with_reducible refine below_drewN ?_ _) | (with_reducible refine Below.setCell ?_ ?_ _) | (refine bstep (by with_reducible assumption) ?_) | go_size)) (Nat.le_refl _)) (OM2.out.src.below (B := w15.heap.size) (by repeat' (first | (with_reducible exact Below.refl _ _) | (with_reducible assumption) | (with_reducible refine Below.alloc ?_ ?_ _) | (with_reducible refine Below.drew ?_) | (with_reducible refine below_drewN ?_ _) | (with_reducible refine Below.setCell ?_ ?_ _) | (refine bstep (by with_reducible assumption) ?_) | go_size)) (Nat.le_refl _))).mono ?_
      rintro e w21 ⟨rfl, hb21⟩
      go_wp2
      go_ret
      exact ⟨rfl, (by repeat' (first | (with_reducible exact Below.refl _ _) | (with_reducible assumption) | (with_reducible refine Below.alloc ?_ ?_ _) | (with_reducible refine Below.drew ?_) | (with_reducible refine below_drewN ?_ _) | (with_reducible refine Below.setCell ?_ ?_ _) | (refine bstep (by with_reducible assumption) ?_) | go_size))⟩
  · have hl3' : (1048576 : Int) < bs.length := by omega
    go_enter Try.func12, Try.ntmps12
    go_wp2
    go_ret
    exact ⟨rfl, (by repeat' (first | (with_reducible exact Below.refl _ _) | (with_reducible assumption) | (with_reducible refine Below.alloc ?_ ?_ _) | (with_reducible refine Below.drew ?_) | (with_reducible refine below_drewN ?_ _) | (with_reducible refine Below.setCell ?_ ?_ _) | (refine bstep (by with_reducible assumption) ?_) | go_size))⟩
end Go.Proofs.Ytlanonimjbhjnaa
