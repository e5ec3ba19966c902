/- Disks: validity, copies, writing, both texts. No statement of the seat is proved here. -/
import Derived.Deep.RegionHeld3
import Derived.Deep.RegionLaw
import Derived.Test.YtlanonimjbhjnaaRows
import Derived.WalkKit
import Derived.WalkSpells
import Derived.WalkLawsBesides
import Derived.Lib.Hide
import Derived.Handy
import Derived.BigQuiet
import Derived.Deep.QuietTactic
import Derived.Test.YtlanonimjbhjnaaLib
import Derived.Test.YtlanonimjbhjnaaOwn
import Derived.Test.YtlanonimjbhjnaaJobs
import Derived.Test.YtlanonimjbhjnaaCodes
import Derived.Test.YtlanonimjbhjnaaCodes2
import Derived.Test.YtlanonimjbhjnaaCodes3
import Derived.Test.YtlanonimjbhjnaaFrames
import Derived.Test.YtlanonimjbhjnaaFrames2
set_option linter.unusedSimpArgs false
set_option linter.unusedVariables false
namespace Go.Proofs.Ytlanonimjbhjnaa
open Go.RowKit

theorem bvI (ao : Option Addr) (c : Nat) (xs : List Int) (w : World) (hl : xs.length ≤ 1048576) (h : Sl w ao xs) :
    Calls Try.prog 53 #[.slice ao xs.length c] w fun e w' => e = .returned (.bool (bytesOk xs)) ∧ w = w' := by
  obtain ⟨b, o, ha, hi⟩ := h.ints
  exact implBytesValid ao b o c xs w (by simp only [maxLen]; omega) ha hi
theorem bvS (ao : Option Addr) (c : Nat) (xs : List Int) (w : World) (hl : xs.length ≤ 4194304) (h : Sl w ao xs) :
    Calls Try.prog 51 #[.slice ao xs.length c] w fun e w' => e = .returned (.bool (bytesOk xs)) ∧ w = w' := by
  obtain ⟨b, o, ha, hi⟩ := h.ints
  exact specBytesValid ao b o c xs w (by simp only [maxLen]; omega) ha hi

abbrev dk (a1 : Option Addr) (n1 c1 : Nat) (a2 : Option Addr) (n2 c2 : Nat) : Value := .agg #[.slice a1 n1 c1, .slice a2 n2 c2]
def diskOk (xs ys : List Int) : Bool := bytesOk xs && bytesOk ys && decide (xs.length + ys.length ≤ 2000)

set_option maxRecDepth 100000 in
set_option maxHeartbeats 1000000 in
theorem implDiskValid (a1 a2 : Option Addr) (c1 c2 : Nat) (xs ys : List Int) (w : World) (hl1 : xs.length ≤ 1048576) (hl2 : ys.length ≤ 1048576) (h1 : Sl w a1 xs) (h2 : Sl w a2 ys) :
    Calls Try.prog 72 #[dk a1 xs.length c1 a2 ys.length c2] w fun e w' => e = .returned (.bool (diskOk xs ys)) ∧ Below w.heap.size w w' := by
  have B1 := fun o => Lib.hid (bvI a1 c1 xs (w.alloc o) hl1 (h1.alloc o))
  have B2 := fun o => Lib.hid (bvI a2 c2 ys (w.alloc o) hl2 (h2.alloc o))
  cases hx : bytesOk xs
  · rw [hx] at B1
    have HE : Hid (diskOk xs ys = false) := by unfold Hid diskOk; rw [hx]; rfl
    clear hx
    have B1 := Lib.hid B1; have B2 := Lib.hid B2
    go_enter Try.func72, Try.ntmps72
    go_wp2_with (go_at_call 53; refine (B1.out _).out.mono ?_; rintro e w1 ⟨rfl, rfl⟩)
    go_ret
    exact ⟨ret_bool HE.out.symm, (by repeat' (first | (with_reducible exact Below.refl _ _) | (with_reducible assumption) | (with_reducible refine Below.alloc ?_ ?_ _) | (with_reducible refine Below.drew ?_) | (with_reducible refine below_drewN ?_ _) | (with_reducible refine Below.setCell ?_ ?_ _) | (refine bstep (by with_reducible assumption) ?_) | go_size))⟩
  · cases hy : bytesOk ys
    · rw [hx] at B1
      rw [hy] at B2
      have HE : Hid (diskOk xs ys = false) := by unfold Hid diskOk; rw [hx, hy]; rfl
      clear hx hy
      have C1 := Lib.hid B1; have C2 := Lib.hid B2
      clear B1 B2
      go_enter Try.func72, Try.ntmps72
      go_wp2_with (go_at_call 53; first | ((with_reducible refine (C1.out _).out.mono ?_); rintro e w1 ⟨rfl, rfl⟩) | ((with_reducible refine (C2.out _).out.mono ?_); rintro e w1 ⟨rfl, rfl⟩))
      go_ret
      exact ⟨ret_bool HE.out.symm, (by repeat' (first | (with_reducible exact Below.refl _ _) | (with_reducible assumption) | (with_reducible refine Below.alloc ?_ ?_ _) | (with_reducible refine Below.drew ?_) | (with_reducible refine below_drewN ?_ _) | (with_reducible refine Below.setCell ?_ ?_ _) | (refine bstep (by with_reducible assumption) ?_) | go_size))⟩
    · rw [hx] at B1
      rw [hy] at B2
      have HE : Hid (diskOk xs ys = decide (((xs.length : Int) + ys.length) ≤ 2000)) := by unfold Hid diskOk; rw [hx, hy]; simp; omega
      clear hx hy
      have C1 := Lib.hid B1; have C2 := Lib.hid B2
      clear B1 B2
      go_enter Try.func72, Try.ntmps72
      go_wp2_with (go_at_call 53; first | ((with_reducible refine (C1.out _).out.mono ?_); rintro e w1 ⟨rfl, rfl⟩) | ((with_reducible refine (C2.out _).out.mono ?_); rintro e w1 ⟨rfl, rfl⟩))
      go_ret
      exact ⟨ret_bool HE.out.symm, (by repeat' (first | (with_reducible exact Below.refl _ _) | (with_reducible assumption) | (with_reducible refine Below.alloc ?_ ?_ _) | (with_reducible refine Below.drew ?_) | (with_reducible refine below_drewN ?_ _) | (with_reducible refine Below.setCell ?_ ?_ _) | (refine bstep (by with_reducible assumption) ?_) | go_size))⟩

set_option maxRecDepth 100000 in
set_option maxHeartbeats 1000000 in
theorem specDiskValid (a1 a2 : Option Addr) (c1 c2 : Nat) (xs ys : List Int) (w : World) (hl1 : xs.length ≤ 1048576) (hl2 : ys.length ≤ 1048576) (h1 : Sl w a1 xs) (h2 : Sl w a2 ys) :
    Calls Try.prog 69 #[dk a1 xs.length c1 a2 ys.length c2] w fun e w' => e = .returned (.bool (diskOk xs ys)) ∧ Below w.heap.size w w' := by
  by_cases hx : xs.length ≤ 2000
  · by_cases hy : ys.length ≤ 2000
    · have HE : Hid (diskOk xs ys = bytesOk (xs ++ ys)) := by
        unfold Hid diskOk bytesOk
        rw [Bool.eq_iff_iff]
        simp only [Bool.and_eq_true, decide_eq_true_eq, List.length_append, List.all_append]
        constructor
        · rintro ⟨⟨⟨_, h1⟩, ⟨_, h2⟩⟩, h3⟩; exact ⟨h3, h1, h2⟩
        · rintro ⟨h3, h1, h2⟩; exact ⟨⟨⟨hx, h1⟩, ⟨hy, h2⟩⟩, h3⟩
      have d1 : decide ((xs.length : Int) ≤ 2000) = true := by simp; omega
      have d2 : decide ((ys.length : Int) ≤ 2000) = true := by simp; omega
      have H1 := Lib.hid h1
      have H2 := Lib.hid h2
      clear h1 h2
      go_enter Try.func69, Try.ntmps69
      have HB : ∀ (W : World) (ao : Option Addr) (n c : Nat), n = xs.length + ys.length → Src W ao n 1 ([] ++ iv xs ++ iv ys) → Hid (Calls Try.prog 51 #[.slice ao n c] W fun e w' => e = .returned (.bool (diskOk xs ys)) ∧ W = w') := by
        intro W ao n c hn h
        subst hn
        rw [List.nil_append, ← List.map_append] at h
        apply Lib.hid
        rw [HE.out, show xs.length + ys.length = (xs ++ ys).length by simp]
        exact bvS ao c (xs ++ ys) W (by simp; omega) (by rw [show xs.length + ys.length = (xs ++ ys).length by simp] at h; exact h)
      have HB := Lib.hid HB
      go_wp2
      go_region_held3 (fun w' => w'.cell? ⟨w.heap.size, 0, none⟩ = some (.slice a1 xs.length c1) ∧ w'.cell? ⟨w.heap.size, 1, none⟩ = some (.slice a2 ys.length c2)) (go_keep) (first | (go_simp; go_at_call 51; (with_reducible refine (HB.out w4 ao4 (xs.length + ys.length) c4 rfl O4.out.src).out.mono ?_); rintro e w5 ⟨rfl, rfl⟩) | (refine step_appG _ el_int (by simp [go_sem]) (.tmp 14) (.tmp 16) (by rfl) (w.heap.size + 1) (by rfl) (own_new0 (by simp) (by simp)) (by rfl) ((H1.out.alloc _).alloc _) (oneCell_iv _) (by simp only [maxLen]; omega) (by omega) (by simp) ?_; intro ao3 c3 w3 hown3 hg3 hat3 hz3; obtain ⟨hcc3, hff3⟩ := gcell (rb := w.heap.size + 1) hg3; have hb3 : Below w.heap.size w w3 := (by refine below_gb (g := w.heap.size + 1) ?_ hg3 ?_ ?_ <;> first | omega | (simp; done) | (simp; omega) | exact (by repeat' (first | (with_reducible exact Below.refl _ _) | (with_reducible assumption) | (with_reducible refine Below.alloc ?_ ?_ _) | (with_reducible refine Below.drew ?_) | (with_reducible refine below_drewN ?_ _) | (with_reducible refine Below.setCell ?_ ?_ _) | (refine bstep (by with_reducible assumption) ?_) | go_size))); have hzz3 := hg3.size; (try simp only [World.size_alloc] at hzz3); have hlt3 : w.heap.size < w3.heap.size := (by simp at hzz3; omega); have O3 := Lib.hid hown3; clear hown3 hat3 hz3) | (refine step_appG _ el_int (by simp [go_sem]) (.tmp 17) (.tmp 19) (by rfl) (w.heap.size + 1) (by rfl) O3.out (by rfl) (H2.out.below hb3 (Nat.le_refl _)) (oneCell_iv _) (by simp only [maxLen]; omega) (by omega) (by omega) ?_; intro ao4 c4 w4 hown4 hg4 hat4 hz4; obtain ⟨hcc4, hff4⟩ := O3.out.far hg4; have hb4 : Below w.heap.size w w4 := hb3.grown hg4 hb3.size (fun g hg => by have := (O3.out.lt_ g hg).1; omega); have O4 := Lib.hid (own_len hown4 (show 0 + xs.length + ys.length = xs.length + ys.length by omega) rfl); clear hown4 hat4 hz4))
      go_wp2
      go_ret
      exact ⟨rfl, (by repeat' (first | (with_reducible exact Below.refl _ _) | (with_reducible assumption) | (with_reducible refine Below.alloc ?_ ?_ _) | (with_reducible refine Below.drew ?_) | (with_reducible refine below_drewN ?_ _) | (with_reducible refine Below.setCell ?_ ?_ _) | (refine bstep (by with_reducible assumption) ?_) | go_size))⟩
    · have d1 : decide ((xs.length : Int) ≤ 2000) = true := by simp; omega
      have d2 : decide ((ys.length : Int) ≤ 2000) = false := by simp; omega
      have HE : Hid (diskOk xs ys = false) := by unfold Hid diskOk; rw [Bool.and_eq_false_iff]; right; simp; omega
      clear h1 h2
      go_enter Try.func69, Try.ntmps69
      go_wp2
      go_quiet (fail)
      go_wp2
      go_ret
      exact ⟨ret_bool HE.out.symm, (by repeat' (first | (with_reducible exact Below.refl _ _) | (with_reducible assumption) | (with_reducible refine Below.alloc ?_ ?_ _) | (with_reducible refine Below.drew ?_) | (with_reducible refine below_drewN ?_ _) | (with_reducible refine Below.setCell ?_ ?_ _) | (refine bstep (by with_reducible assumption) ?_) | go_size))⟩
  · have d1 : decide ((xs.length : Int) ≤ 2000) = false := by simp; omega
    have HE : Hid (diskOk xs ys = false) := by unfold Hid diskOk; rw [Bool.and_eq_false_iff]; right; simp; omega
    clear h1 h2
    go_enter Try.func69, Try.ntmps69
    go_wp2
    go_quiet (fail)
    go_wp2
    go_ret
    exact ⟨ret_bool HE.out.symm, (by repeat' (first | (with_reducible exact Below.refl _ _) | (with_reducible assumption) | (with_reducible refine Below.alloc ?_ ?_ _) | (with_reducible refine Below.drew ?_) | (with_reducible refine below_drewN ?_ _) | (with_reducible refine Below.setCell ?_ ?_ _) | (refine bstep (by with_reducible assumption) ?_) | go_size))⟩

/-- What a function leaves that hands back a disk in memory of its own. -/
def DkP (w : World) (xs ys : List Int) (e : Ending) (w' : World) (v : Value → Value) : Prop :=
  ∃ a1 c1 a2 c2, e = .returned (v (dk a1 xs.length c1 a2 ys.length c2)) ∧ Own w' w.heap.size 3 1 a1 xs.length c1 (iv xs) ∧ Own w' w.heap.size 3 1 a2 ys.length c2 (iv ys) ∧
    (∀ g, blk a1 = some g → blk a2 ≠ some g) ∧ Below w.heap.size w w'

set_option maxRecDepth 100000 in
set_option maxHeartbeats 2000000 in
theorem implDiskCopied (a1 a2 : Option Addr) (c1 c2 : Nat) (xs ys : List Int) (w : World) (hl1 : xs.length ≤ 1048576) (hl2 : ys.length ≤ 1048576) (h1 : Sl w a1 xs) (h2 : Sl w a2 ys) (hz1 : a1 = none → c1 = 0) (hz2 : a2 = none → c2 = 0) :
    Calls Try.prog 74 #[dk a1 xs.length c1 a2 ys.length c2] w fun e w' => DkP w xs ys e w' id := by
  have K1 := fun W (h : Sl W a1 xs) => Lib.hid (sliceClone a1 c1 xs W hl1 h hz1)
  have K2 := fun W (h : Sl W a2 ys) => Lib.hid (sliceClone a2 c2 ys W hl2 h hz2)
  have K1 := Lib.hid K1
  have K2 := Lib.hid K2
  have H1 := Lib.hid h1
  have H2 := Lib.hid h2
  clear h1 h2 hz1 hz2
  go_enter Try.func74, Try.ntmps74
  go_wp2
  go_region_held3 (fun w' => w'.cell? ⟨w.heap.size, 0, none⟩ = some (.slice a1 xs.length c1) ∧ w'.cell? ⟨w.heap.size, 1, none⟩ = some (.slice a2 ys.length c2)) (go_keep) (first | (go_simp; go_at_call 75; (with_reducible refine (K1.out _ (H1.out.below (B := w.heap.size) ?_ (Nat.le_refl _))).out.mono ?_); (exact (by repeat' (first | (with_reducible exact Below.refl _ _) | (with_reducible assumption) | (with_reducible refine Below.alloc ?_ ?_ _) | (with_reducible refine Below.drew ?_) | (with_reducible refine below_drewN ?_ _) | (with_reducible refine Below.setCell ?_ ?_ _) | (refine bstep (by with_reducible assumption) ?_) | go_size))); rintro e w3 ⟨ao3, c3, rfl, hown3, hb3, hn3⟩; obtain ⟨hc3, hf3⟩ := bcell hb3; (try simp only [World.size_drew, World.size_drewN] at hc3 hf3); have hz3 := hb3.size; (try simp only [World.size_alloc, World.size_setCell, World.size_drew, World.size_drewN] at hz3); have hl3_00 : w.heap.size < w3.heap.size := (by omega); have hl3_01 : w.heap.size < w3.heap.size + 1 := (by omega); have hl3_02 : w.heap.size < w3.heap.size + 1 + 1 := (by omega); have hn3_00 : ¬ w.heap.size = w3.heap.size := (by omega); have hn3_01 : ¬ w.heap.size = w3.heap.size + 1 := (by omega); have hl3_10 : w.heap.size + 1 < w3.heap.size := (by omega); have hl3_11 : w.heap.size + 1 < w3.heap.size + 1 := (by omega); have hl3_12 : w.heap.size + 1 < w3.heap.size + 1 + 1 := (by omega); have hn3_10 : ¬ w.heap.size + 1 = w3.heap.size := (by omega); have hn3_11 : ¬ w.heap.size + 1 = w3.heap.size + 1 := (by omega); have hO3 := Lib.hid (hown3.mono_ (base' := w.heap.size) (by first | omega | (simp; done) | (simp; omega) | go_size)); have hO3p := Lib.hid hown3; clear hown3) | (go_simp; go_at_call 75; (with_reducible refine (K2.out _ (H2.out.below (B := w.heap.size) ?_ (Nat.le_refl _))).out.mono ?_); (exact (by repeat' (first | (with_reducible exact Below.refl _ _) | (with_reducible assumption) | (with_reducible refine Below.alloc ?_ ?_ _) | (with_reducible refine Below.drew ?_) | (with_reducible refine below_drewN ?_ _) | (with_reducible refine Below.setCell ?_ ?_ _) | (refine bstep (by with_reducible assumption) ?_) | go_size))); rintro e w4 ⟨ao4, c4, rfl, hown4, hb4, hn4⟩; obtain ⟨hc4, hf4⟩ := bcell hb4; (try simp only [World.size_drew, World.size_drewN] at hc4 hf4); have hz4 := hb4.size; (try simp only [World.size_alloc, World.size_setCell, World.size_drew, World.size_drewN] at hz4); have hl4_00 : w.heap.size < w4.heap.size := (by omega); have hl4_01 : w.heap.size < w4.heap.size + 1 := (by omega); have hl4_02 : w.heap.size < w4.heap.size + 1 + 1 := (by omega); have hn4_00 : ¬ w.heap.size = w4.heap.size := (by omega); have hn4_01 : ¬ w.heap.size = w4.heap.size + 1 := (by omega); have hl4_10 : w.heap.size + 1 < w4.heap.size := (by omega); have hl4_11 : w.heap.size + 1 < w4.heap.size + 1 := (by omega); have hl4_12 : w.heap.size + 1 < w4.heap.size + 1 + 1 := (by omega); have hn4_10 : ¬ w.heap.size + 1 = w4.heap.size := (by omega); have hn4_11 : ¬ w.heap.size + 1 = w4.heap.size + 1 := (by omega); have hO4 := Lib.hid (hown4.mono_ (base' := w.heap.size) (by first | omega | (simp; done) | (simp; omega) | go_size)); have hO4p := Lib.hid hown4; clear hown4))
  all_goals
    have hne3 : blk ao3 ≠ some (w.heap.size + 1) := fun e => by have h := (hO3p.out.lt_ _ e).1; (try simp at h); omega
    have hne4 : blk ao4 ≠ some (w.heap.size + 1) := fun e => by have h := (hO4p.out.lt_ _ e).1; (try simp at h); omega
    have hdis : ∀ g, blk ao3 = some g → blk ao4 ≠ some g := fun g h3 h4 => by have := hO3p.out.lt_ g h3; have := hO4p.out.lt_ g h4; omega
    have hOa := hO3.out
    have hOb := hO4.out
    go_wp2
    refine bodyPost_ret (v := dk ao3 xs.length c3 ao4 ys.length c4) (by simp [results, Try.results74, go_sem, *]) rfl ⟨ao3, c3, ao4, c4, rfl, (by repeat' (first | (with_reducible assumption) | (with_reducible apply Own.alloc_) | (with_reducible apply Own.drew_) | (with_reducible apply Own.drewN_) | (refine Own.below_ ?_ (by with_reducible assumption) ?_) | (with_reducible refine Own.set_other ?_ ?_ _) | go_size | omega)), (by repeat' (first | (with_reducible assumption) | (with_reducible apply Own.alloc_) | (with_reducible apply Own.drew_) | (with_reducible apply Own.drewN_) | (refine Own.below_ ?_ (by with_reducible assumption) ?_) | (with_reducible refine Own.set_other ?_ ?_ _) | go_size | omega)), hdis, (by repeat' (first | (with_reducible exact Below.refl _ _) | (with_reducible assumption) | (with_reducible refine Below.alloc ?_ ?_ _) | (with_reducible refine Below.drew ?_) | (with_reducible refine below_drewN ?_ _) | (with_reducible refine Below.setCell ?_ ?_ _) | (refine bstep (by with_reducible assumption) ?_) | go_size))⟩

def DkS (w : World) (xs ys : List Int) (e : Ending) (w' : World) : Prop :=
  ∃ a1 c1 a2 c2, e = .returned (dk a1 xs.length c1 a2 ys.length c2) ∧ Own w' w.heap.size 3 1 a1 xs.length c1 (iv xs) ∧ Own w' w.heap.size 3 1 a2 ys.length c2 (iv ys) ∧ (∀ g, blk a1 = some g → blk a2 ≠ some g) ∧ Below w.heap.size w w'

set_option maxRecDepth 100000 in
set_option maxHeartbeats 4000000 in
theorem specL3Copy (a1 a2 : Option Addr) (c1 c2 : Nat) (xs ys : List Int) (w : World) (hl1 : xs.length ≤ 1048576) (hl2 : ys.length ≤ 1048576) (h1 : Sl w a1 xs) (h2 : Sl w a2 ys) :
    Calls Try.prog 70 #[dk a1 xs.length c1 a2 ys.length c2] w (DkS w xs ys) := by
  have H1 := Lib.hid h1
  have H2 := Lib.hid h2
  clear h1 h2
  go_enter Try.func70, Try.ntmps70
  go_wp2
  go_region_held3 (fun w' => w'.cell? ⟨w.heap.size, 0, none⟩ = some (.slice a1 xs.length c1) ∧ w'.cell? ⟨w.heap.size, 1, none⟩ = some (.slice a2 ys.length c2)) (go_keep) (first | (refine step_app (cs := []) _ el_int rfl (.tmp 3) (.tmp 5) (by rfl) (w.heap.size + 2) (by rfl) (by repeat' (first | (with_reducible assumption) | (with_reducible apply Own.drew_) | ((with_reducible refine own_new0 ?_ ?_) <;> first | (with_reducible rfl) | omega | (simp; done) | (simp; omega)) | (with_reducible apply Own.alloc_) | (with_reducible apply Own.drew_) | (refine Own.kept_ ?_ (by with_reducible assumption) ?_) | (intro g hg1 hg2; simp [blk] at hg1 hg2; try omega))) (by rfl) (H1.out.below (B := w.heap.size) (by repeat' (first | (with_reducible exact Below.refl _ _) | (with_reducible assumption) | (with_reducible refine Below.alloc ?_ ?_ _) | (with_reducible refine Below.drew ?_) | (with_reducible refine below_drewN ?_ _) | (with_reducible refine Below.setCell ?_ ?_ _) | (refine bstep (by with_reducible assumption) ?_) | go_size)) (Nat.le_refl _)) (oneCell_iv _) (by simp only [maxLen]; omega) (by omega) (by first | omega | (simp; done) | (simp; omega) | go_size) ?_; intro ao3 c3 w3 hown3 hg3 hat3 hz3; obtain ⟨hc3, hf3⟩ := gcellB hg3; (try simp only [World.size_drew, World.size_drewN] at hc3 hf3); have hs3 := hg3.size; (try simp only [World.size_alloc, World.size_setCell, World.size_drew, World.size_drewN] at hs3); have hb3 : Below (w.heap.size) w w3 := (by refine below_grown ?_ hg3 ?_ ?_ <;> first | (intro g hg; simp [blk] at hg; omega) | omega | (simp; done) | (simp; omega) | exact (by repeat' (first | (with_reducible exact Below.refl _ _) | (with_reducible assumption) | (with_reducible refine Below.alloc ?_ ?_ _) | (with_reducible refine Below.drew ?_) | (with_reducible refine below_drewN ?_ _) | (with_reducible refine Below.setCell ?_ ?_ _) | (refine bstep (by with_reducible assumption) ?_) | go_size))); have hl3_00 : w.heap.size < w3.heap.size := (by omega); have hl3_01 : w.heap.size < w3.heap.size + 1 := (by omega); have hl3_02 : w.heap.size < w3.heap.size + 1 + 1 := (by omega); have hn3_00 : ¬ w.heap.size = w3.heap.size := (by omega); have hn3_01 : ¬ w.heap.size = w3.heap.size + 1 := (by omega); have hl3_10 : w.heap.size + 1 < w3.heap.size := (by omega); have hl3_11 : w.heap.size + 1 < w3.heap.size + 1 := (by omega); have hl3_12 : w.heap.size + 1 < w3.heap.size + 1 + 1 := (by omega); have hn3_10 : ¬ w.heap.size + 1 = w3.heap.size := (by omega); have hn3_11 : ¬ w.heap.size + 1 = w3.heap.size + 1 := (by omega); have hO3 := Lib.hid (own_len hown3 (Nat.zero_add _) (List.nil_append _)); have hB3 := hown3.lt_; have hA3 := hat_num hat3; (try simp only [World.size_alloc, World.size_setCell, World.size_drew, World.size_drewN] at hA3); clear hown3 hz3 hat3) | (refine step_app (cs := []) _ el_int rfl (.tmp 7) (.tmp 9) (by rfl) (w.heap.size + 2) (by rfl) (by repeat' (first | (with_reducible assumption) | (with_reducible apply Own.drew_) | ((with_reducible refine own_new0 ?_ ?_) <;> first | (with_reducible rfl) | omega | (simp; done) | (simp; omega)) | (with_reducible apply Own.alloc_) | (with_reducible apply Own.drew_) | (refine Own.kept_ ?_ (by with_reducible assumption) ?_) | (intro g hg1 hg2; simp [blk] at hg1 hg2; try omega))) (by rfl) (H2.out.below (B := w.heap.size) (by repeat' (first | (with_reducible exact Below.refl _ _) | (with_reducible assumption) | (with_reducible refine Below.alloc ?_ ?_ _) | (with_reducible refine Below.drew ?_) | (with_reducible refine below_drewN ?_ _) | (with_reducible refine Below.setCell ?_ ?_ _) | (refine bstep (by with_reducible assumption) ?_) | go_size)) (Nat.le_refl _)) (oneCell_iv _) (by simp only [maxLen]; omega) (by omega) (by first | omega | (simp; done) | (simp; omega) | go_size) ?_; intro ao4 c4 w4 hown4 hg4 hat4 hz4; obtain ⟨hc4, hf4⟩ := gcellB hg4; (try simp only [World.size_drew, World.size_drewN] at hc4 hf4); have hs4 := hg4.size; (try simp only [World.size_alloc, World.size_setCell, World.size_drew, World.size_drewN] at hs4); have hb4 : Below (w.heap.size) w w4 := (by refine below_grown ?_ hg4 ?_ ?_ <;> first | (intro g hg; simp [blk] at hg; omega) | omega | (simp; done) | (simp; omega) | exact (by repeat' (first | (with_reducible exact Below.refl _ _) | (with_reducible assumption) | (with_reducible refine Below.alloc ?_ ?_ _) | (with_reducible refine Below.drew ?_) | (with_reducible refine below_drewN ?_ _) | (with_reducible refine Below.setCell ?_ ?_ _) | (refine bstep (by with_reducible assumption) ?_) | go_size))); have hl4_00 : w.heap.size < w4.heap.size := (by omega); have hl4_01 : w.heap.size < w4.heap.size + 1 := (by omega); have hl4_02 : w.heap.size < w4.heap.size + 1 + 1 := (by omega); have hn4_00 : ¬ w.heap.size = w4.heap.size := (by omega); have hn4_01 : ¬ w.heap.size = w4.heap.size + 1 := (by omega); have hl4_10 : w.heap.size + 1 < w4.heap.size := (by omega); have hl4_11 : w.heap.size + 1 < w4.heap.size + 1 := (by omega); have hl4_12 : w.heap.size + 1 < w4.heap.size + 1 + 1 := (by omega); have hn4_10 : ¬ w.heap.size + 1 = w4.heap.size := (by omega); have hn4_11 : ¬ w.heap.size + 1 = w4.heap.size + 1 := (by omega); have hO4 := Lib.hid (own_len hown4 (Nat.zero_add _) (List.nil_append _)); have hB4 := hown4.lt_; have hA4 := hat_num hat4; (try simp only [World.size_alloc, World.size_setCell, World.size_drew, World.size_drewN] at hA4); clear hown4 hz4 hat4))
  all_goals
    go_wp2
    have hOa := hO3.out
    have hOb := hO4.out
    have D : ∀ g, blk ao3 = some g → blk ao4 ≠ some g := fun g h3 h4 => by have := hA3 g h3; have := hA4 g h4; have := hB3 g h3; have := hB4 g h4; omega
    have hne3 : blk ao3 ≠ some (w.heap.size + 1) := fun e => by have := (hB3 _ e).1; omega
    have hne4 : blk ao4 ≠ some (w.heap.size + 1) := fun e => by have := (hB4 _ e).1; omega
    refine bodyPost_ret (v := dk ao3 xs.length c3 ao4 ys.length c4) (by simp [results, Try.results70, go_sem, *]) rfl ⟨ao3, c3, ao4, c4, rfl, ?_, ?_, D, (by repeat' (first | (with_reducible exact Below.refl _ _) | (with_reducible assumption) | (with_reducible refine Below.alloc ?_ ?_ _) | (with_reducible refine Below.drew ?_) | (with_reducible refine below_drewN ?_ _) | (with_reducible refine Below.setCell ?_ ?_ _) | (refine bstep (by with_reducible assumption) ?_) | go_size))⟩
    all_goals
      refine Own.mono_ (base := w.heap.size + 2) ?_ (by omega)
      repeat' (first | (with_reducible assumption) | (with_reducible apply Own.drew_) | (with_reducible apply Own.drewN_) | (with_reducible apply Own.alloc_) | (with_reducible refine Own.set_other ?_ ?_ _) | (refine Own.kept_ ?_ (by with_reducible assumption) ?_) | (refine Own.below_ ?_ (by with_reducible assumption) ?_) | (exact Nat.le_refl _) | omega)
      all_goals (intro g h3 h4; simp [blk] at h4; first | (have h5 := hA3 g h3; have h6 := hB3 g h3; omega) | (have h5 := hA4 g h3; have h6 := hB4 g h3; omega))

def dwR (xs ys bs : List Int) : List Int × List Int × Bool :=
  if diskOk xs ys = true then if bodyOk bs = true ∧ xs.length + ys.length + (frameOf bs).length ≤ 2000 then (xs, ys ++ frameOf bs, true) else (xs, ys, false) else ([], [], false)
def DwP (w : World) (r : List Int × List Int × Bool) (e : Ending) (w' : World) : Prop :=
  ∃ a1 c1 a2 c2, e = .returned (.tuple #[dk a1 r.1.length c1 a2 r.2.1.length c2, .bool r.2.2]) ∧ Own w' w.heap.size 3 1 a1 r.1.length c1 (iv r.1) ∧ Own w' w.heap.size 3 1 a2 r.2.1.length c2 (iv r.2.1) ∧
    (∀ g, blk a1 = some g → blk a2 ≠ some g) ∧ Below w.heap.size w w'

set_option maxRecDepth 100000 in
set_option maxHeartbeats 4000000 in
theorem implDiskWrite (a1 a2 b : Option Addr) (c1 c2 d : Nat) (xs ys bs : List Int) (w : World) (hl1 : xs.length ≤ 1048576) (hl2 : ys.length ≤ 1048576) (hl3 : bs.length ≤ 1048576) (h1 : Sl w a1 xs) (h2 : Sl w a2 ys) (h3 : Sl w b bs)
    (hz1 : a1 = none → c1 = 0) (hz2 : a2 = none → c2 = 0) :
    Calls Try.prog 41 #[dk a1 xs.length c1 a2 ys.length c2, .slice b bs.length d] w (DwP w (dwR xs ys bs)) := by
  have fin : ∀ r, dwR xs ys bs = r → ∀ e w', DwP w r e w' → DwP w (dwR xs ys bs) e w' := fun r hr e w' h => by rw [hr]; exact h
  have FIN := Lib.hid fin
  clear fin
  have KV := fun W (g1 : Sl W a1 xs) (g2 : Sl W a2 ys) => Lib.hid (implDiskValid a1 a2 c1 c2 xs ys W hl1 hl2 g1 g2)
  cases hv : diskOk xs ys
  · have HR : Hid (dwR xs ys bs = ([], [], false)) := by unfold Hid dwR; rw [hv]; rfl
    rw [hv] at KV
    have KV := Lib.hid KV
    have H1 := Lib.hid h1
    have H2 := Lib.hid h2
    clear h1 h2 h3 hv hz1 hz2
    go_enter Try.func41, Try.ntmps41
    go_wp2_with (first | (go_at_call 72; (with_reducible refine (KV.out _ ((H1.out.alloc _).alloc _) ((H2.out.alloc _).alloc _)).out.mono ?_); rintro e w1 ⟨rfl, hb1⟩; (obtain ⟨hc1, hf1⟩ := bcell hb1); (try simp only [World.size_drew, World.size_drewN] at hc1 hf1); have hz1 := hb1.size; (try simp only [World.size_alloc, World.size_setCell, World.size_drew, World.size_drewN] at hz1); have hl1_0 : w.heap.size < w1.heap.size := (by omega); have hl1_1 : w.heap.size + 1 < w1.heap.size := (by omega)))
    exact bodyPost_ret (v := .tuple #[dk none 0 0 none 0 0, .bool false]) (by simp [results, Try.results41, go_sem, *]) rfl (FIN.out _ HR.out _ _ ⟨none, 0, none, 0, rfl, Own.nil_ _ _ _ _, Own.nil_ _ _ _ _, by simp [blk], (by repeat' (first | (with_reducible exact Below.refl _ _) | (with_reducible assumption) | (with_reducible refine Below.alloc ?_ ?_ _) | (with_reducible refine Below.drew ?_) | (with_reducible refine below_drewN ?_ _) | (with_reducible refine Below.setCell ?_ ?_ _) | (refine bstep (by with_reducible assumption) ?_) | go_size))⟩)
  · have hbd : xs.length + ys.length ≤ 2000 := by unfold diskOk at hv; simp at hv; omega
    have KF := fun W (g : Sl W b bs) => Lib.hid (implFrameOf b d bs W (by simp only [maxLen]; omega) g)
    have KC := fun W (g1 : Sl W a1 xs) (g2 : Sl W a2 ys) => Lib.hid (implDiskCopied a1 a2 c1 c2 xs ys W hl1 hl2 g1 g2 hz1 hz2)
    have K1 := fun W (h : Sl W a1 xs) => Lib.hid (sliceClone a1 c1 xs W hl1 h hz1)
    have hfl := frame_len bs
    have HR0 := fun (h : ¬ (bodyOk bs = true ∧ xs.length + ys.length + (frameOf bs).length ≤ 2000)) => (show dwR xs ys bs = (xs, ys, false) by unfold dwR; rw [hv, if_pos rfl, if_neg h])
    have HR1 := fun (h : (bodyOk bs = true ∧ xs.length + ys.length + (frameOf bs).length ≤ 2000)) => (show dwR xs ys bs = (xs, ys ++ frameOf bs, true) by unfold dwR; rw [hv, if_pos rfl, if_pos h])
    rw [hv] at KV
    generalize frameOf bs = fs at *
    generalize bodyOk bs = bk at *
    have HR0 := Lib.hid HR0
    have HR1 := Lib.hid HR1
    have KV := Lib.hid KV
    have KF := Lib.hid KF
    have KC := Lib.hid KC
    have K1 := Lib.hid K1
    have H1 := Lib.hid h1
    have H2 := Lib.hid h2
    have H3 := Lib.hid h3
    clear h1 h2 h3 hv hz1 hz2
    have hq := fun (W : World) a (n c : Nat) => Lib.run_eql_slice_nil (P := Try.prog) W 32 3 a n c 0 0 Try.underlying32
    cases bk
    · have HR : Hid (dwR xs ys bs = (xs, ys, false)) := HR0.out (by simp)
      go_enter Try.func41, Try.ntmps41
      go_wp2_with (first | (go_at_call 72; (with_reducible refine (KV.out _ ((H1.out.alloc _).alloc _) ((H2.out.alloc _).alloc _)).out.mono ?_); rintro e w1 ⟨rfl, hb1⟩; (obtain ⟨hc1, hf1⟩ := bcell hb1); (try simp only [World.size_drew, World.size_drewN] at hc1 hf1); have hz1 := hb1.size; (try simp only [World.size_alloc, World.size_setCell, World.size_drew, World.size_drewN] at hz1); have hl1_0 : w.heap.size < w1.heap.size := (by omega); have hl1_1 : w.heap.size + 1 < w1.heap.size := (by omega)) | (go_at_call 73; (with_reducible refine (KF.out _ (H3.out.below (B := w.heap.size) ?_ (Nat.le_refl _))).out.mono ?_); (exact (by repeat' (first | (with_reducible exact Below.refl _ _) | (with_reducible assumption) | (with_reducible refine Below.alloc ?_ ?_ _) | (with_reducible refine Below.drew ?_) | (with_reducible refine below_drewN ?_ _) | (with_reducible refine Below.setCell ?_ ?_ _) | (refine bstep (by with_reducible assumption) ?_) | go_size))); rintro e w2 ⟨ao2, k2, rfl, hown2, hb2, hn2⟩; obtain rfl : ao2 = none := (by simpa using hn2); (obtain ⟨hc2, hf2⟩ := bcell hb2); (try simp only [World.size_drew, World.size_drewN] at hc2 hf2); have hz2 := hb2.size; (try simp only [World.size_alloc, World.size_setCell, World.size_drew, World.size_drewN] at hz2); have hl2_00 : w.heap.size < w2.heap.size := (by omega); have hl2_01 : w.heap.size < w2.heap.size + 1 := (by omega); have hl2_02 : w.heap.size < w2.heap.size + 1 + 1 := (by omega); have hn2_00 : ¬ w.heap.size = w2.heap.size := (by omega); have hn2_01 : ¬ w.heap.size = w2.heap.size + 1 := (by omega); have hl2_10 : w.heap.size + 1 < w2.heap.size := (by omega); have hl2_11 : w.heap.size + 1 < w2.heap.size + 1 := (by omega); have hl2_12 : w.heap.size + 1 < w2.heap.size + 1 + 1 := (by omega); have hn2_10 : ¬ w.heap.size + 1 = w2.heap.size := (by omega); have hn2_11 : ¬ w.heap.size + 1 = w2.heap.size + 1 := (by omega); have HO2 := Lib.hid hown2; clear hn2 hown2) | (go_at_call 74; (with_reducible refine (KC.out _ (H1.out.below (B := w.heap.size) ?_ (Nat.le_refl _)) (H2.out.below (B := w.heap.size) ?_ (Nat.le_refl _))).out.mono ?_); (exact (by repeat' (first | (with_reducible exact Below.refl _ _) | (with_reducible assumption) | (with_reducible refine Below.alloc ?_ ?_ _) | (with_reducible refine Below.drew ?_) | (with_reducible refine below_drewN ?_ _) | (with_reducible refine Below.setCell ?_ ?_ _) | (refine bstep (by with_reducible assumption) ?_) | go_size))); (exact (by repeat' (first | (with_reducible exact Below.refl _ _) | (with_reducible assumption) | (with_reducible refine Below.alloc ?_ ?_ _) | (with_reducible refine Below.drew ?_) | (with_reducible refine below_drewN ?_ _) | (with_reducible refine Below.setCell ?_ ?_ _) | (refine bstep (by with_reducible assumption) ?_) | go_size))); rintro e w3 ⟨a3, k3, a4, k4, rfl, hown3, hown4, hdis, hb3⟩; (obtain ⟨hc3, hf3⟩ := bcell hb3); (try simp only [World.size_drew, World.size_drewN] at hc3 hf3); have hz3 := hb3.size; (try simp only [World.size_alloc, World.size_setCell, World.size_drew, World.size_drewN] at hz3); have hl3_0 : w.heap.size < w3.heap.size := (by omega); have hl3_1 : w.heap.size + 1 < w3.heap.size := (by omega); have HO3 := Lib.hid (hown3.mono_ (base' := w.heap.size + 2) (by first | omega | (simp; done) | (simp; omega) | go_size)); have HO4 := Lib.hid (hown4.mono_ (base' := w.heap.size + 2) (by first | omega | (simp; done) | (simp; omega) | go_size)); have HD := Lib.hid hdis; clear hdis hown3 hown4))
      have hX3 : blk a3 ≠ some (w.heap.size + 1) := fun e => by have := (HO3.out.lt_ _ e).1; omega
      have hX4 : blk a4 ≠ some (w.heap.size + 1) := fun e => by have := (HO4.out.lt_ _ e).1; omega
      exact bodyPost_ret (v := .tuple #[dk a3 xs.length k3 a4 ys.length k4, .bool false]) (by simp [results, Try.results41, go_sem, *]) rfl (FIN.out _ HR.out _ _ ⟨a3, k3, a4, k4, rfl, Own.mono_ (by have h := HO3.out; repeat' (first | (with_reducible assumption) | (with_reducible apply Own.drew_) | (with_reducible apply Own.drewN_) | (with_reducible apply Own.alloc_) | (with_reducible refine Own.set_other ?_ ?_ _) | (refine Own.kept_ ?_ (by with_reducible assumption) ?_) | (refine Own.below_ ?_ (by with_reducible assumption) ?_) | (exact Nat.le_refl _) | omega)) (show w.heap.size ≤ w.heap.size + 2 by omega), Own.mono_ (by have h := HO4.out; repeat' (first | (with_reducible assumption) | (with_reducible apply Own.drew_) | (with_reducible apply Own.drewN_) | (with_reducible apply Own.alloc_) | (with_reducible refine Own.set_other ?_ ?_ _) | (refine Own.kept_ ?_ (by with_reducible assumption) ?_) | (refine Own.below_ ?_ (by with_reducible assumption) ?_) | (exact Nat.le_refl _) | omega)) (show w.heap.size ≤ w.heap.size + 2 by omega), HD.out, (by repeat' (first | (with_reducible exact Below.refl _ _) | (with_reducible assumption) | (with_reducible refine Below.alloc ?_ ?_ _) | (with_reducible refine Below.drew ?_) | (with_reducible refine below_drewN ?_ _) | (with_reducible refine Below.setCell ?_ ?_ _) | (refine bstep (by with_reducible assumption) ?_) | go_size))⟩)
      
    · by_cases hfit : xs.length + ys.length + fs.length ≤ 2000
      · have HR : Hid (dwR xs ys bs = (xs, ys ++ fs, true)) := HR1.out ⟨rfl, hfit⟩
        have KK : ∀ B W (ao2 : Option Addr) (k2 : Nat), Sl W a2 ys → Sl W ao2 fs → W.cell? ⟨B, 0, none⟩ = some (.slice a2 ys.length c2) → W.cell? ⟨B, 1, none⟩ = some (.slice ao2 fs.length k2) → Hid (Calls Try.prog 76 #[.slice (some ⟨B, 0, none⟩) 2 2] W (SlP W (ys ++ fs))) :=
          fun B W ao2 k2 g1 g2 g3 g4 => Lib.hid (sliceConcat B a2 ao2 c2 k2 ys fs W hl2 (by omega) g1 g2 g3 g4)
        have KK := Lib.hid KK
        go_enter Try.func41, Try.ntmps41
        go_wp2_with (first | (go_at_call 72; (with_reducible refine (KV.out _ ((H1.out.alloc _).alloc _) ((H2.out.alloc _).alloc _)).out.mono ?_); rintro e w1 ⟨rfl, hb1⟩; (obtain ⟨hc1, hf1⟩ := bcell hb1); (try simp only [World.size_drew, World.size_drewN] at hc1 hf1); have hz1 := hb1.size; (try simp only [World.size_alloc, World.size_setCell, World.size_drew, World.size_drewN] at hz1); have hl1_0 : w.heap.size < w1.heap.size := (by omega); have hl1_1 : w.heap.size + 1 < w1.heap.size := (by omega)) | (go_at_call 73; (with_reducible refine (KF.out _ (H3.out.below (B := w.heap.size) ?_ (Nat.le_refl _))).out.mono ?_); (exact (by repeat' (first | (with_reducible exact Below.refl _ _) | (with_reducible assumption) | (with_reducible refine Below.alloc ?_ ?_ _) | (with_reducible refine Below.drew ?_) | (with_reducible refine below_drewN ?_ _) | (with_reducible refine Below.setCell ?_ ?_ _) | (refine bstep (by with_reducible assumption) ?_) | go_size))); rintro e w2 ⟨ao2, k2, rfl, hown2, hb2, hn2⟩; obtain ⟨ad2, rfl⟩ : ∃ x, ao2 = some x := Option.ne_none_iff_exists'.1 (fun h => by have := hn2.1 h; cases this); (obtain ⟨hc2, hf2⟩ := bcell hb2); (try simp only [World.size_drew, World.size_drewN] at hc2 hf2); have hz2 := hb2.size; (try simp only [World.size_alloc, World.size_setCell, World.size_drew, World.size_drewN] at hz2); have hl2_00 : w.heap.size < w2.heap.size := (by omega); have hl2_01 : w.heap.size < w2.heap.size + 1 := (by omega); have hl2_02 : w.heap.size < w2.heap.size + 1 + 1 := (by omega); have hn2_00 : ¬ w.heap.size = w2.heap.size := (by omega); have hn2_01 : ¬ w.heap.size = w2.heap.size + 1 := (by omega); have hl2_10 : w.heap.size + 1 < w2.heap.size := (by omega); have hl2_11 : w.heap.size + 1 < w2.heap.size + 1 := (by omega); have hl2_12 : w.heap.size + 1 < w2.heap.size + 1 + 1 := (by omega); have hn2_10 : ¬ w.heap.size + 1 = w2.heap.size := (by omega); have hn2_11 : ¬ w.heap.size + 1 = w2.heap.size + 1 := (by omega); have HO2 := Lib.hid hown2; clear hn2 hown2))
        go_region_held3 (fun w' => w'.cell? ⟨w.heap.size, 0, none⟩ = some (.slice a1 xs.length c1) ∧ w'.cell? ⟨w.heap.size, 1, none⟩ = some (.slice a2 ys.length c2)) (first | go_keep | (go_split_ands; refine ⟨?_, ?_⟩ <;> (first | go_keep | (rw [hc3 _ _ (by first | omega | (simp; done) | (simp; omega))]; go_keep) | (rw [hc4 _ _ (by first | omega | (simp; done) | (simp; omega))]; go_keep))) | (refine ⟨?_, ?_⟩ <;> (first | go_keep | (rw [hc3 _ _ (by first | omega | (simp; done) | (simp; omega))]; go_keep) | (rw [hc4 _ _ (by first | omega | (simp; done) | (simp; omega))]; go_keep)))) (first | (go_simp; go_at_call 75; (with_reducible refine (K1.out _ (H1.out.below (B := w.heap.size) ?_ (Nat.le_refl _))).out.mono ?_); (exact (by repeat' (first | (with_reducible exact Below.refl _ _) | (with_reducible assumption) | (with_reducible refine Below.alloc ?_ ?_ _) | (with_reducible refine Below.drew ?_) | (with_reducible refine below_drewN ?_ _) | (with_reducible refine Below.setCell ?_ ?_ _) | (refine bstep (by with_reducible assumption) ?_) | go_size))); rintro e w3 ⟨ao3, c3, rfl, hown3, hb3, hn3⟩; obtain ⟨hc3, hf3⟩ := bcell hb3; (try simp only [World.size_drew, World.size_drewN] at hc3 hf3); have hz3 := hb3.size; (try simp only [World.size_alloc, World.size_setCell, World.size_drew, World.size_drewN] at hz3); have hl3_00 : w.heap.size < w3.heap.size := (by omega); have hl3_01 : w.heap.size < w3.heap.size + 1 := (by omega); have hl3_02 : w.heap.size < w3.heap.size + 1 + 1 := (by omega); have hn3_00 : ¬ w.heap.size = w3.heap.size := (by omega); have hn3_01 : ¬ w.heap.size = w3.heap.size + 1 := (by omega); have hl3_10 : w.heap.size + 1 < w3.heap.size := (by omega); have hl3_11 : w.heap.size + 1 < w3.heap.size + 1 := (by omega); have hl3_12 : w.heap.size + 1 < w3.heap.size + 1 + 1 := (by omega); have hn3_10 : ¬ w.heap.size + 1 = w3.heap.size := (by omega); have hn3_11 : ¬ w.heap.size + 1 = w3.heap.size + 1 := (by omega); have hO3 := Lib.hid (hown3.mono_ (base' := w.heap.size) (by first | omega | (simp; done) | (simp; omega) | go_size)); have hO3p := Lib.hid hown3; clear hown3) | (go_simp; go_at_call 76; (with_reducible refine (KK.out _ _ (some ad2) k2 (H2.out.below (B := w.heap.size) ?_ (Nat.le_refl _)) (HO2.out.src.below (B := w2.heap.size) ?_ (Nat.le_refl _)) ?_ ?_).out.mono ?_); (exact (by repeat' (first | (with_reducible exact Below.refl _ _) | (with_reducible assumption) | (with_reducible refine Below.alloc ?_ ?_ _) | (with_reducible refine Below.drew ?_) | (with_reducible refine below_drewN ?_ _) | (with_reducible refine Below.setCell ?_ ?_ _) | (refine bstep (by with_reducible assumption) ?_) | go_size))); (exact (by repeat' (first | (with_reducible exact Below.refl _ _) | (with_reducible assumption) | (with_reducible refine Below.alloc ?_ ?_ _) | (with_reducible refine Below.drew ?_) | (with_reducible refine below_drewN ?_ _) | (with_reducible refine Below.setCell ?_ ?_ _) | (refine bstep (by with_reducible assumption) ?_) | go_size))); (go_keep); (go_keep); unfold SlP; rintro e w4 ⟨ao4, c4, rfl, hown4, hb4⟩; (obtain ⟨hc4, hf4⟩ := bcell hb4); (try simp only [World.size_drew, World.size_drewN] at hc4 hf4); have hz4 := hb4.size; (try simp only [World.size_alloc, World.size_setCell, World.size_drew, World.size_drewN] at hz4); have hl4_00 : w.heap.size < w4.heap.size := (by omega); have hl4_01 : w.heap.size < w4.heap.size + 1 := (by omega); have hl4_02 : w.heap.size < w4.heap.size + 1 + 1 := (by omega); have hn4_00 : ¬ w.heap.size = w4.heap.size := (by omega); have hn4_01 : ¬ w.heap.size = w4.heap.size + 1 := (by omega); have hl4_10 : w.heap.size + 1 < w4.heap.size := (by omega); have hl4_11 : w.heap.size + 1 < w4.heap.size + 1 := (by omega); have hl4_12 : w.heap.size + 1 < w4.heap.size + 1 + 1 := (by omega); have hn4_10 : ¬ w.heap.size + 1 = w4.heap.size := (by omega); have hn4_11 : ¬ w.heap.size + 1 = w4.heap.size + 1 := (by omega); have hO4 := Lib.hid (hown4.mono_ (base' := w.heap.size) (by first | omega | (simp; done) | (simp; omega) | go_size)); have hO4p := Lib.hid hown4; clear hown4))
        all_goals
          go_wp2
          have hne3 : blk ao3 ≠ some (w.heap.size + 1) := fun e => by have h := (hO3p.out.lt_ _ e).1; (try simp at h); omega
          have hne4 : blk ao4 ≠ some (w.heap.size + 1) := fun e => by have h := (hO4p.out.lt_ _ e).1; (try simp at h); omega
          have hdis : ∀ g, blk ao3 = some g → blk ao4 ≠ some g := fun g h3 h4 => by have h5 := hO3p.out.lt_ g h3; have h6 := hO4p.out.lt_ g h4; (try simp at h5); (try simp at h6); omega
          have hOa := hO3.out
          have hOb : Own w4 w.heap.size 3 1 ao4 (ys ++ fs).length c4 (iv (ys ++ fs)) := own_len hO4.out (by simp) rfl
          refine bodyPost_ret (v := .tuple #[dk ao3 xs.length c3 ao4 (ys.length + fs.length) c4, .bool true]) (by simp [results, Try.results41, go_sem, *]) rfl (FIN.out _ HR.out _ _ ⟨ao3, c3, ao4, c4, by simp [dk], ?_, ?_, hdis, (by repeat' (first | (with_reducible exact Below.refl _ _) | (with_reducible assumption) | (with_reducible refine Below.alloc ?_ ?_ _) | (with_reducible refine Below.drew ?_) | (with_reducible refine below_drewN ?_ _) | (with_reducible refine Below.setCell ?_ ?_ _) | (refine bstep (by with_reducible assumption) ?_) | go_size))⟩)
          · show Own _ _ _ _ ao3 xs.length c3 (iv xs)
            repeat' (first | (with_reducible assumption) | (with_reducible apply Own.drew_) | (with_reducible apply Own.drewN_) | (with_reducible apply Own.alloc_) | (with_reducible refine Own.set_other ?_ ?_ _) | (refine Own.kept_ ?_ (by with_reducible assumption) ?_) | (refine Own.below_ ?_ (by with_reducible assumption) ?_) | (exact Nat.le_refl _) | omega)
          · show Own _ _ _ _ ao4 (ys ++ fs).length c4 (iv (ys ++ fs))
            repeat' (first | (with_reducible assumption) | (with_reducible apply Own.drew_) | (with_reducible apply Own.drewN_) | (with_reducible apply Own.alloc_) | (with_reducible refine Own.set_other ?_ ?_ _) | (refine Own.kept_ ?_ (by with_reducible assumption) ?_) | (refine Own.below_ ?_ (by with_reducible assumption) ?_) | (exact Nat.le_refl _) | omega)
      · have HR : Hid (dwR xs ys bs = (xs, ys, false)) := HR0.out (fun h => hfit h.2)
        go_enter Try.func41, Try.ntmps41
        go_wp2_with (first | (go_at_call 72; (with_reducible refine (KV.out _ ((H1.out.alloc _).alloc _) ((H2.out.alloc _).alloc _)).out.mono ?_); rintro e w1 ⟨rfl, hb1⟩; (obtain ⟨hc1, hf1⟩ := bcell hb1); (try simp only [World.size_drew, World.size_drewN] at hc1 hf1); have hz1 := hb1.size; (try simp only [World.size_alloc, World.size_setCell, World.size_drew, World.size_drewN] at hz1); have hl1_0 : w.heap.size < w1.heap.size := (by omega); have hl1_1 : w.heap.size + 1 < w1.heap.size := (by omega)) | (go_at_call 73; (with_reducible refine (KF.out _ (H3.out.below (B := w.heap.size) ?_ (Nat.le_refl _))).out.mono ?_); (exact (by repeat' (first | (with_reducible exact Below.refl _ _) | (with_reducible assumption) | (with_reducible refine Below.alloc ?_ ?_ _) | (with_reducible refine Below.drew ?_) | (with_reducible refine below_drewN ?_ _) | (with_reducible refine Below.setCell ?_ ?_ _) | (refine bstep (by with_reducible assumption) ?_) | go_size))); rintro e w2 ⟨ao2, k2, rfl, hown2, hb2, hn2⟩; obtain ⟨ad2, rfl⟩ : ∃ x, ao2 = some x := Option.ne_none_iff_exists'.1 (fun h => by have := hn2.1 h; cases this); (obtain ⟨hc2, hf2⟩ := bcell hb2); (try simp only [World.size_drew, World.size_drewN] at hc2 hf2); have hz2 := hb2.size; (try simp only [World.size_alloc, World.size_setCell, World.size_drew, World.size_drewN] at hz2); have hl2_00 : w.heap.size < w2.heap.size := (by omega); have hl2_01 : w.heap.size < w2.heap.size + 1 := (by omega); have hl2_02 : w.heap.size < w2.heap.size + 1 + 1 := (by omega); have hn2_00 : ¬ w.heap.size = w2.heap.size := (by omega); have hn2_01 : ¬ w.heap.size = w2.heap.size + 1 := (by omega); have hl2_10 : w.heap.size + 1 < w2.heap.size := (by omega); have hl2_11 : w.heap.size + 1 < w2.heap.size + 1 := (by omega); have hl2_12 : w.heap.size + 1 < w2.heap.size + 1 + 1 := (by omega); have hn2_10 : ¬ w.heap.size + 1 = w2.heap.size := (by omega); have hn2_11 : ¬ w.heap.size + 1 = w2.heap.size + 1 := (by omega); have HO2 := Lib.hid hown2; clear hn2 hown2) | (go_at_call 74; (with_reducible refine (KC.out _ (H1.out.below (B := w.heap.size) ?_ (Nat.le_refl _)) (H2.out.below (B := w.heap.size) ?_ (Nat.le_refl _))).out.mono ?_); (exact (by repeat' (first | (with_reducible exact Below.refl _ _) | (with_reducible assumption) | (with_reducible refine Below.alloc ?_ ?_ _) | (with_reducible refine Below.drew ?_) | (with_reducible refine below_drewN ?_ _) | (with_reducible refine Below.setCell ?_ ?_ _) | (refine bstep (by with_reducible assumption) ?_) | go_size))); (exact (by repeat' (first | (with_reducible exact Below.refl _ _) | (with_reducible assumption) | (with_reducible refine Below.alloc ?_ ?_ _) | (with_reducible refine Below.drew ?_) | (with_reducible refine below_drewN ?_ _) | (with_reducible refine Below.setCell ?_ ?_ _) | (refine bstep (by with_reducible assumption) ?_) | go_size))); rintro e w3 ⟨a3, k3, a4, k4, rfl, hown3, hown4, hdis, hb3⟩; (obtain ⟨hc3, hf3⟩ := bcell hb3); (try simp only [World.size_drew, World.size_drewN] at hc3 hf3); have hz3 := hb3.size; (try simp only [World.size_alloc, World.size_setCell, World.size_drew, World.size_drewN] at hz3); have hl3_0 : w.heap.size < w3.heap.size := (by omega); have hl3_1 : w.heap.size + 1 < w3.heap.size := (by omega); have HO3 := Lib.hid (hown3.mono_ (base' := w.heap.size + 2) (by first | omega | (simp; done) | (simp; omega) | go_size)); have HO4 := Lib.hid (hown4.mono_ (base' := w.heap.size + 2) (by first | omega | (simp; done) | (simp; omega) | go_size)); have HD := Lib.hid hdis; clear hdis hown3 hown4))
        have hX3 : blk a3 ≠ some (w.heap.size + 1) := fun e => by have := (HO3.out.lt_ _ e).1; omega
        have hX4 : blk a4 ≠ some (w.heap.size + 1) := fun e => by have := (HO4.out.lt_ _ e).1; omega
        exact bodyPost_ret (v := .tuple #[dk a3 xs.length k3 a4 ys.length k4, .bool false]) (by simp [results, Try.results41, go_sem, *]) rfl (FIN.out _ HR.out _ _ ⟨a3, k3, a4, k4, rfl, Own.mono_ (by have h := HO3.out; repeat' (first | (with_reducible assumption) | (with_reducible apply Own.drew_) | (with_reducible apply Own.drewN_) | (with_reducible apply Own.alloc_) | (with_reducible refine Own.set_other ?_ ?_ _) | (refine Own.kept_ ?_ (by with_reducible assumption) ?_) | (refine Own.below_ ?_ (by with_reducible assumption) ?_) | (exact Nat.le_refl _) | omega)) (show w.heap.size ≤ w.heap.size + 2 by omega), Own.mono_ (by have h := HO4.out; repeat' (first | (with_reducible assumption) | (with_reducible apply Own.drew_) | (with_reducible apply Own.drewN_) | (with_reducible apply Own.alloc_) | (with_reducible refine Own.set_other ?_ ?_ _) | (refine Own.kept_ ?_ (by with_reducible assumption) ?_) | (refine Own.below_ ?_ (by with_reducible assumption) ?_) | (exact Nat.le_refl _) | omega)) (show w.heap.size ≤ w.heap.size + 2 by omega), HD.out, (by repeat' (first | (with_reducible exact Below.refl _ _) | (with_reducible assumption) | (with_reducible refine Below.alloc ?_ ?_ _) | (with_reducible refine Below.drew ?_) | (with_reducible refine below_drewN ?_ _) | (with_reducible refine Below.setCell ?_ ?_ _) | (refine bstep (by with_reducible assumption) ?_) | go_size))⟩)
        
end Go.Proofs.Ytlanonimjbhjnaa
