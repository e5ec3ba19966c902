/- Drawn programs and jobs. No statement of the seat is proved here. -/
import Derived.Deep.DeepCutAuto
import Derived.Deep.CutBlock
import Derived.Test.YtlanonimjbhjnaaRows
import Derived.WalkKit
import Derived.WalkSpells
import Derived.WalkLawsBesides
import Derived.Lib.Hide
import Derived.Handy
import Derived.BigQuiet
import Derived.Deep.QuietTactic
import Derived.Test.YtlanonimjbhjnaaLib
import Derived.Test.YtlanonimjbhjnaaOwn
import Derived.Test.YtlanonimjbhjnaaJobs
import Derived.Test.YtlanonimjbhjnaaCodes
import Derived.Test.YtlanonimjbhjnaaCodes2
import Derived.Test.YtlanonimjbhjnaaDraw
set_option linter.unusedSimpArgs false
set_option linter.unusedVariables false
namespace Go.Proofs.Ytlanonimjbhjnaa
open Go.RowKit

theorem Dr.at' {w W : World} {rb N : Nat} (h : Dr w rb N) (hb : Below w.heap.size w W) : Dr W rb N := h.below hb (Nat.le_refl _)

theorem pick2 (rb N : Nat) (w : World) (hN : N ≤ 1000000) (hD : Dr w rb N) :
    Calls Try.prog 60 #[.pointer (some ⟨rb, 0, none⟩), .int .i64 2] w fun e w' => ∃ m : Int, e = .returned (.int .i64 m) ∧ Dr w' rb (N + 1) ∧ w.grownBy w' (some rb) ∧ (m = 0 ∨ m = 1) :=
  (pick rb N 2 w hN hD).mono fun e w' ⟨m, h1, h2, h3, h4, h5, h6⟩ => ⟨m, h1, h2, h3, by omega⟩
theorem pick3 (rb N : Nat) (w : World) (hN : N ≤ 1000000) (hD : Dr w rb N) :
    Calls Try.prog 60 #[.pointer (some ⟨rb, 0, none⟩), .int .i64 3] w fun e w' => ∃ m : Int, e = .returned (.int .i64 m) ∧ Dr w' rb (N + 1) ∧ w.grownBy w' (some rb) ∧ (m = 0 ∨ m = 1 ∨ m = 2) :=
  (pick rb N 3 w hN hD).mono fun e w' ⟨m, h1, h2, h3, h4, h5, h6⟩ => ⟨m, h1, h2, h3, by omega⟩

/-- Three numbers in block B. -/
structure PAt (w : World) (B : Nat) (K S R : Int) : Prop where
  c0 : w.cell? ⟨B, 0, none⟩ = some (.int .i64 K)
  c1 : w.cell? ⟨B, 1, none⟩ = some (.int .i64 S)
  c2 : w.cell? ⟨B, 2, none⟩ = some (.int .i64 R)
  f : ∀ i, w.frozen? ⟨B, i, none⟩ = false
  b0 : -10000 ≤ K ∧ K ≤ 10000
  b1 : -10000 ≤ S ∧ S ≤ 10000
  b2 : -10000 ≤ R ∧ R ≤ 10000
theorem PAt.keep {w w' : World} {B : Nat} {K S R : Int} (h : PAt w B K S R) (hc : ∀ o, w'.cell? ⟨B, o, none⟩ = w.cell? ⟨B, o, none⟩) (hf : ∀ o, w'.frozen? ⟨B, o, none⟩ = w.frozen? ⟨B, o, none⟩) : PAt w' B K S R :=
  ⟨(hc 0).trans h.c0, (hc 1).trans h.c1, (hc 2).trans h.c2, fun i => (hf i).trans (h.f i), h.b0, h.b1, h.b2⟩
theorem PAt.lt {w : World} {B : Nat} {K S R : Int} (h : PAt w B K S R) : B < w.heap.size := World.block_lt_of_cell? w _ h.c0
theorem PAt.gb {w w' : World} {B rb : Nat} {K S R : Int} (h : PAt w B K S R) (hg : w.grownBy w' (some rb)) (hne : ¬ B = rb) : PAt w' B K S R :=
  h.keep (fun o => (gcell hg).1 B o h.lt hne) (fun o => (gcell hg).2 B o h.lt hne)
theorem PAt.gb2 {w w' : World} {B rb : Nat} {K S R : Int} (hg : w.grownBy w' (some rb)) (h : PAt w B K S R) (hne : ¬ B = rb) : PAt w' B K S R := h.gb hg hne
theorem PAt.alloc {w : World} {B : Nat} {K S R : Int} (h : PAt w B K S R) (o : Obj) : PAt (w.alloc o) B K S R :=
  h.keep (fun i => World.cell?_alloc_lt w o _ h.lt) (fun i => World.frozen?_alloc_old w o _ (by have := h.lt; simp only [ne_eq]; omega))
theorem PAt.new (w : World) (T : Nat) (K S R : Int) (h0 : -10000 ≤ K ∧ K ≤ 10000) (h1 : -10000 ≤ S ∧ S ≤ 10000) (h2 : -10000 ≤ R ∧ R ≤ 10000) : PAt (w.alloc (.cells #[.int .i64 K, .int .i64 S, .int .i64 R] T)) w.heap.size K S R :=
  ⟨by rw [World.cell?_alloc_at _ _ _ _ rfl]; rfl, by rw [World.cell?_alloc_at _ _ _ _ rfl]; rfl, by rw [World.cell?_alloc_at _ _ _ _ rfl]; rfl, fun i => frozen_new _ _ _ _, h0, h1, h2⟩
theorem PAt.set0 {w : World} {B : Nat} {K S R : Int} (h : PAt w B K S R) (v : Int) (hv : -10000 ≤ v ∧ v ≤ 10000) : PAt (w.setCell ⟨B, 0, none⟩ (.int .i64 v)) B v S R :=
  ⟨World.cell?_setCell_same w _ _ h.c0, (World.cell?_setCell_other w _ _ _ (by simp)).trans h.c1, (World.cell?_setCell_other w _ _ _ (by simp)).trans h.c2, fun i => by rw [World.frozen?_setCell]; exact h.f i, hv, h.b1, h.b2⟩
theorem PAt.set1 {w : World} {B : Nat} {K S R : Int} (h : PAt w B K S R) (v : Int) (hv : -10000 ≤ v ∧ v ≤ 10000) : PAt (w.setCell ⟨B, 1, none⟩ (.int .i64 v)) B K v R :=
  ⟨(World.cell?_setCell_other w _ _ _ (by simp)).trans h.c0, World.cell?_setCell_same w _ _ h.c1, (World.cell?_setCell_other w _ _ _ (by simp)).trans h.c2, fun i => by rw [World.frozen?_setCell]; exact h.f i, h.b0, hv, h.b2⟩
theorem PAt.set2 {w : World} {B : Nat} {K S R : Int} (h : PAt w B K S R) (v : Int) (hv : -10000 ≤ v ∧ v ≤ 10000) : PAt (w.setCell ⟨B, 2, none⟩ (.int .i64 v)) B K S v :=
  ⟨(World.cell?_setCell_other w _ _ _ (by simp)).trans h.c0, (World.cell?_setCell_other w _ _ _ (by simp)).trans h.c1, World.cell?_setCell_same w _ _ h.c2, fun i => by rw [World.frozen?_setCell]; exact h.f i, h.b0, h.b1, hv⟩

/-- What a call that drew leaves: the reader stands; a block of three numbers; else nothing that was there has turned. -/
def PRel (W0 : World) (rb B M : Nat) (wc : World) : Prop := ∃ K S R, PAt wc B K S R ∧ Dr wc rb M ∧ W0.grownBy wc (some rb)
def ProgPost (w : World) (rb M : Nat) (e : Ending) (w' : World) : Prop :=
  ∃ k s r : Int, e = .returned (.agg #[.int .i64 k, .int .i64 s, .int .i64 r]) ∧ (-10000 ≤ k ∧ k ≤ 10000) ∧ (-10000 ≤ s ∧ s ≤ 10000) ∧ (-10000 ≤ r ∧ r ≤ 10000) ∧ Dr w' rb M ∧ w.grownBy w' (some rb)
set_option maxRecDepth 100000 in
set_option maxHeartbeats 2000000 in
theorem l20Program (rb N : Nat) (n many : Int) (w : World) (hN : N ≤ 100000) (hD : Dr w rb N) (hn : I64 n) (hm : 0 ≤ many ∧ many ≤ 1000) :
    Calls Try.prog 79 #[.pointer (some ⟨rb, 0, none⟩), .int .i64 many, .int .i64 n] w (ProgPost w rb (N + 10)) := by
  have hrb := hD.lt
  have hr0 : ¬ w.heap.size = rb := by omega
  have hr1 : ¬ w.heap.size + 1 = rb := by omega
  go_enter Try.func79, Try.ntmps79
  go_wp2_with fail
  refine (pick rb (N) _ _ (by omega) (Dr.below (B := w.heap.size) hD (by repeat' (first | (with_reducible exact Below.refl _ _) | (with_reducible assumption) | (with_reducible refine Below.alloc ?_ ?_ _) | (with_reducible refine Below.drew ?_) | (with_reducible refine below_drewN ?_ _) | (with_reducible refine Below.setCell ?_ ?_ _) | (refine bstep (by with_reducible assumption) ?_) | go_size)) (Nat.le_refl _))).mono ?_
  rintro e w1 ⟨m1, rfl, hD1, hg1, hm10, hm11, hm12⟩
  obtain ⟨hc1, hf1⟩ := gcell hg1
  have hz1 := hg1.size; try simp only [World.size_alloc, World.size_setCell, World.size_drew, World.size_drewN] at hz1
  have hG1 : w.grownBy w1 (some rb) := gb_trans (gb_of_below (by repeat' (first | (with_reducible exact Below.refl _ _) | (with_reducible assumption) | (with_reducible refine Below.alloc ?_ ?_ _) | (with_reducible refine Below.drew ?_) | (with_reducible refine below_drewN ?_ _) | (with_reducible refine Below.setCell ?_ ?_ _) | (refine bstep (by with_reducible assumption) ?_) | go_size)) _) hg1
  have hrB : ¬ w1.heap.size = rb := by omega
  go_upto_block 0 with (fail)
  go_cut [] (PRel (w.alloc (Obj.cells #[Value.int IntKind.i64 0, Value.int IntKind.i64 0, Value.int IntKind.i64 0] 27)) rb w1.heap.size (N + 3))
  case first =>
    go_wp2_with (first | (go_at_call 60; (with_reducible refine (pick2 rb _ _ ?_ (by repeat' (first | (with_reducible assumption) | (with_reducible apply Dr.alloc) | (with_reducible apply Dr.set) | (with_reducible apply Dr.drewN) | (with_reducible apply Dr.drew) | (apply Dr.below2 (by with_reducible assumption)) | (apply Dr.gbg2 (by with_reducible assumption)) | omega | go_size))).mono ?_); (first | omega | (simp only []; omega)); rintro e w2 ⟨m2, rfl, hD2, hg2, hm2⟩; have hnr2 := Nat.ne_of_gt hD2.lt; obtain ⟨hc2, hf2⟩ := gcell hg2; have hz2 := hg2.size; (try simp only [World.size_alloc, World.size_setCell, World.size_drew, World.size_drewN] at hz2); have hlt2_0 : w.heap.size < w2.heap.size := (by omega); have hle2_0 : w.heap.size ≤ w2.heap.size := (by omega); have hlt2_1 : w1.heap.size < w2.heap.size := (by omega); have hle2_1 : w1.heap.size ≤ w2.heap.size := (by omega); rcases hm2 with rfl | rfl) | (go_at_call 60; (with_reducible refine (pick3 rb _ _ ?_ (by repeat' (first | (with_reducible assumption) | (with_reducible apply Dr.alloc) | (with_reducible apply Dr.set) | (with_reducible apply Dr.drewN) | (with_reducible apply Dr.drew) | (apply Dr.below2 (by with_reducible assumption)) | (apply Dr.gbg2 (by with_reducible assumption)) | omega | go_size))).mono ?_); (first | omega | (simp only []; omega)); rintro e w2 ⟨m2, rfl, hD2, hg2, hm2⟩; have hnr2 := Nat.ne_of_gt hD2.lt; obtain ⟨hc2, hf2⟩ := gcell hg2; have hz2 := hg2.size; (try simp only [World.size_alloc, World.size_setCell, World.size_drew, World.size_drewN] at hz2); have hlt2_0 : w.heap.size < w2.heap.size := (by omega); have hle2_0 : w.heap.size ≤ w2.heap.size := (by omega); have hlt2_1 : w1.heap.size < w2.heap.size := (by omega); have hle2_1 : w1.heap.size ≤ w2.heap.size := (by omega); rcases hm2 with rfl | rfl | rfl) | (go_at_call 60; (with_reducible refine (pick rb _ _ _ ?_ (by repeat' (first | (with_reducible assumption) | (with_reducible apply Dr.alloc) | (with_reducible apply Dr.set) | (with_reducible apply Dr.drewN) | (with_reducible apply Dr.drew) | (apply Dr.below2 (by with_reducible assumption)) | (apply Dr.gbg2 (by with_reducible assumption)) | omega | go_size))).mono ?_); (first | omega | (simp only []; omega)); rintro e w2 ⟨m2, rfl, hD2, hg2, hm20, hm21, hm22⟩; have hnr2 := Nat.ne_of_gt hD2.lt; obtain ⟨hc2, hf2⟩ := gcell hg2; have hz2 := hg2.size; (try simp only [World.size_alloc, World.size_setCell, World.size_drew, World.size_drewN] at hz2); have hlt2_0 : w.heap.size < w2.heap.size := (by omega); have hle2_0 : w.heap.size ≤ w2.heap.size := (by omega); have hlt2_1 : w1.heap.size < w2.heap.size := (by omega); have hle2_1 : w1.heap.size ≤ w2.heap.size := (by omega)))
    all_goals
      go_meet
      case rel =>
        repeat apply Exists.intro
        refine ⟨(by repeat' (first | (with_reducible assumption) | (with_reducible apply PAt.new) | (with_reducible apply PAt.set0) | (with_reducible apply PAt.set1) | (with_reducible apply PAt.set2) | (with_reducible apply PAt.alloc) | (apply PAt.gb2 (by with_reducible assumption)) | omega | go_size)), Dr.mono (by repeat' (first | (with_reducible assumption) | (with_reducible apply Dr.alloc) | (with_reducible apply Dr.set) | (with_reducible apply Dr.drewN) | (with_reducible apply Dr.drew) | (apply Dr.below2 (by with_reducible assumption)) | (apply Dr.gbg2 (by with_reducible assumption)) | omega | go_size)) (by omega), (by repeat' (first | (with_reducible assumption) | (with_reducible exact gb_refl _ _) | (with_reducible refine gb_alloc ?_ _) | (with_reducible refine gb_drew ?_) | (with_reducible refine gb_drewN ?_ _) | (with_reducible refine gb_set ?_ ?_ _) | (refine gb_trans ?_ (by with_reducible assumption)) | (refine gb_below ?_ (by with_reducible assumption) ?_) | (with_reducible exact Or.inl rfl) | (apply Or.inr; go_size) | go_size))⟩
  case rest =>
    obtain ⟨K, S, R, hP, hD3, hG3⟩ := hcut
    have hPc0 := hP.c0
    have hPc1 := hP.c1
    have hPc2 := hP.c2
    have hPf := hP.f
    have hPl := hP.lt
    have hPb0 := hP.b0
    have hPb1 := hP.b1
    have hPb2 := hP.b2
    have hz3 := hG3.size
    simp only [World.size_alloc] at hz3
    go_upto_if 36 with (first | (go_at_call 64; refine (odd rb (N + 3) n _ (by omega) hD3 hn).mono ?_; rintro e w4 ⟨bb, rfl, hD4, hg4⟩; obtain ⟨hc4, hf4⟩ := gcell hg4; have hz4 := hg4.size; have hl4 : w1.heap.size < w4.heap.size := (by omega); have hnr4 := Nat.ne_of_gt hD4.lt))
    go_cut [] (PRel (w.alloc (Obj.cells #[Value.int IntKind.i64 0, Value.int IntKind.i64 0, Value.int IntKind.i64 0] 27)) rb w1.heap.size (N + 6))
    case first =>
      go_wp2_with (first | (go_at_call 60; (with_reducible refine (pick2 rb _ _ ?_ (by repeat' (first | (with_reducible assumption) | (with_reducible apply Dr.alloc) | (with_reducible apply Dr.set) | (with_reducible apply Dr.drewN) | (with_reducible apply Dr.drew) | (apply Dr.below2 (by with_reducible assumption)) | (apply Dr.gbg2 (by with_reducible assumption)) | omega | go_size))).mono ?_); (first | omega | (simp only []; omega)); rintro e w5 ⟨m5, rfl, hD5, hg5, hm5⟩; have hnr5 := Nat.ne_of_gt hD5.lt; obtain ⟨hc5, hf5⟩ := gcell hg5; have hz5 := hg5.size; (try simp only [World.size_alloc, World.size_setCell, World.size_drew, World.size_drewN] at hz5); have hlt5_0 : w.heap.size < w5.heap.size := (by omega); have hle5_0 : w.heap.size ≤ w5.heap.size := (by omega); have hlt5_1 : w1.heap.size < w5.heap.size := (by omega); have hle5_1 : w1.heap.size ≤ w5.heap.size := (by omega); rcases hm5 with rfl | rfl) | (go_at_call 60; (with_reducible refine (pick3 rb _ _ ?_ (by repeat' (first | (with_reducible assumption) | (with_reducible apply Dr.alloc) | (with_reducible apply Dr.set) | (with_reducible apply Dr.drewN) | (with_reducible apply Dr.drew) | (apply Dr.below2 (by with_reducible assumption)) | (apply Dr.gbg2 (by with_reducible assumption)) | omega | go_size))).mono ?_); (first | omega | (simp only []; omega)); rintro e w5 ⟨m5, rfl, hD5, hg5, hm5⟩; have hnr5 := Nat.ne_of_gt hD5.lt; obtain ⟨hc5, hf5⟩ := gcell hg5; have hz5 := hg5.size; (try simp only [World.size_alloc, World.size_setCell, World.size_drew, World.size_drewN] at hz5); have hlt5_0 : w.heap.size < w5.heap.size := (by omega); have hle5_0 : w.heap.size ≤ w5.heap.size := (by omega); have hlt5_1 : w1.heap.size < w5.heap.size := (by omega); have hle5_1 : w1.heap.size ≤ w5.heap.size := (by omega); rcases hm5 with rfl | rfl | rfl) | (go_at_call 60; (with_reducible refine (pick rb _ _ _ ?_ (by repeat' (first | (with_reducible assumption) | (with_reducible apply Dr.alloc) | (with_reducible apply Dr.set) | (with_reducible apply Dr.drewN) | (with_reducible apply Dr.drew) | (apply Dr.below2 (by with_reducible assumption)) | (apply Dr.gbg2 (by with_reducible assumption)) | omega | go_size))).mono ?_); (first | omega | (simp only []; omega)); rintro e w5 ⟨m5, rfl, hD5, hg5, hm50, hm51, hm52⟩; have hnr5 := Nat.ne_of_gt hD5.lt; obtain ⟨hc5, hf5⟩ := gcell hg5; have hz5 := hg5.size; (try simp only [World.size_alloc, World.size_setCell, World.size_drew, World.size_drewN] at hz5); have hlt5_0 : w.heap.size < w5.heap.size := (by omega); have hle5_0 : w.heap.size ≤ w5.heap.size := (by omega); have hlt5_1 : w1.heap.size < w5.heap.size := (by omega); have hle5_1 : w1.heap.size ≤ w5.heap.size := (by omega)))
      all_goals
        go_meet
        case rel =>
          repeat apply Exists.intro
          refine ⟨(by repeat' (first | (with_reducible assumption) | (with_reducible apply PAt.new) | (with_reducible apply PAt.set0) | (with_reducible apply PAt.set1) | (with_reducible apply PAt.set2) | (with_reducible apply PAt.alloc) | (apply PAt.gb2 (by with_reducible assumption)) | omega | go_size)), Dr.mono (by repeat' (first | (with_reducible assumption) | (with_reducible apply Dr.alloc) | (with_reducible apply Dr.set) | (with_reducible apply Dr.drewN) | (with_reducible apply Dr.drew) | (apply Dr.below2 (by with_reducible assumption)) | (apply Dr.gbg2 (by with_reducible assumption)) | omega | go_size)) (by omega), (by repeat' (first | (with_reducible assumption) | (with_reducible exact gb_refl _ _) | (with_reducible refine gb_alloc ?_ _) | (with_reducible refine gb_drew ?_) | (with_reducible refine gb_drewN ?_ _) | (with_reducible refine gb_set ?_ ?_ _) | (refine gb_trans ?_ (by with_reducible assumption)) | (refine gb_below ?_ (by with_reducible assumption) ?_) | (with_reducible exact Or.inl rfl) | (apply Or.inr; go_size) | go_size))⟩
    case rest =>
      obtain ⟨K2, S2, R2, hP2, hD6, hG6⟩ := hcut
      have hPc20 := hP2.c0
      have hPc21 := hP2.c1
      have hPc22 := hP2.c2
      obtain ⟨hc6, hf6⟩ := gcell hG6
      have hz6 := hG6.size
      simp only [World.size_alloc] at hz6
      clear hPc0 hPc1 hPc2 hc1 hf1 hc4 hf4
      have hne : ¬ w.heap.size = w1.heap.size := by omega
      go_wp2
      refine bodyPost_ret (by simp [results, Try.results79, go_sem, hc6, hf6, hz6, hr0, hne]) rfl ⟨K2, S2, R2, rfl, hP2.b0, hP2.b1, hP2.b2, Dr.mono (by repeat' (first | (with_reducible assumption) | (with_reducible apply Dr.alloc) | (with_reducible apply Dr.set) | (with_reducible apply Dr.drewN) | (with_reducible apply Dr.drew) | (apply Dr.below2 (by with_reducible assumption)) | (apply Dr.gbg2 (by with_reducible assumption)) | omega | go_size)) (by omega), ?_⟩
      exact gb_set (gb_set (gb_set (gb_trans (gb_of_below (by repeat' (first | (with_reducible exact Below.refl _ _) | (with_reducible assumption) | (with_reducible refine Below.alloc ?_ ?_ _) | (with_reducible refine Below.drew ?_) | (with_reducible refine below_drewN ?_ _) | (with_reducible refine Below.setCell ?_ ?_ _) | (refine bstep (by with_reducible assumption) ?_) | go_size)) _) hG6) (.inr (by simp)) _) (.inr (by simp)) _) (.inr (by simp)) _

set_option maxRecDepth 100000 in
set_option maxHeartbeats 2000000 in
theorem l20Workers (rb N : Nat) (n : Int) (w : World) (hN : N ≤ 100000) (hD : Dr w rb N) (hn : I64 n) :
    Calls Try.prog 80 #[.pointer (some ⟨rb, 0, none⟩), .int .i64 n] w (IntPost w rb (N + 2) (-1) 7) := by
  have hrb := hD.lt
  go_enter Try.func80, Try.ntmps80
  go_wp2_with (first | (go_at_call 64; refine (odd rb N n _ (by omega) hD hn).mono ?_; rintro e w4 ⟨bb, rfl, hD4, hg4⟩; have hnr4 := Nat.ne_of_gt hD4.lt) | (go_at_call 60; (with_reducible refine (pick2 rb _ _ ?_ (by repeat' (first | (with_reducible assumption) | (with_reducible apply Dr.alloc) | (with_reducible apply Dr.set) | (with_reducible apply Dr.drewN) | (with_reducible apply Dr.drew) | (apply Dr.below2 (by with_reducible assumption)) | (apply Dr.gbg2 (by with_reducible assumption)) | omega | go_size))).mono ?_); (first | omega | (simp only []; omega)); rintro e w5 ⟨m5, rfl, hD5, hg5, hm5⟩; have hnr5 := Nat.ne_of_gt hD5.lt; obtain ⟨hc5, hf5⟩ := gcell hg5; have hz5 := hg5.size; (try simp only [World.size_alloc, World.size_setCell, World.size_drew, World.size_drewN] at hz5); rcases hm5 with rfl | rfl) | (go_at_call 60; (with_reducible refine (pick3 rb _ _ ?_ (by repeat' (first | (with_reducible assumption) | (with_reducible apply Dr.alloc) | (with_reducible apply Dr.set) | (with_reducible apply Dr.drewN) | (with_reducible apply Dr.drew) | (apply Dr.below2 (by with_reducible assumption)) | (apply Dr.gbg2 (by with_reducible assumption)) | omega | go_size))).mono ?_); (first | omega | (simp only []; omega)); rintro e w5 ⟨m5, rfl, hD5, hg5, hm5⟩; have hnr5 := Nat.ne_of_gt hD5.lt; obtain ⟨hc5, hf5⟩ := gcell hg5; have hz5 := hg5.size; (try simp only [World.size_alloc, World.size_setCell, World.size_drew, World.size_drewN] at hz5); rcases hm5 with rfl | rfl | rfl) | (go_at_call 60; (with_reducible refine (pick rb _ _ _ ?_ (by repeat' (first | (with_reducible assumption) | (with_reducible apply Dr.alloc) | (with_reducible apply Dr.set) | (with_reducible apply Dr.drewN) | (with_reducible apply Dr.drew) | (apply Dr.below2 (by with_reducible assumption)) | (apply Dr.gbg2 (by with_reducible assumption)) | omega | go_size))).mono ?_); (first | omega | (simp only []; omega)); rintro e w5 ⟨m5, rfl, hD5, hg5, hm50, hm51, hm52⟩; have hnr5 := Nat.ne_of_gt hD5.lt; obtain ⟨hc5, hf5⟩ := gcell hg5; have hz5 := hg5.size; (try simp only [World.size_alloc, World.size_setCell, World.size_drew, World.size_drewN] at hz5)))
  all_goals
    go_ret
    exact ⟨_, rfl, by omega, by omega, Dr.mono (by repeat' (first | (with_reducible assumption) | (with_reducible apply Dr.alloc) | (with_reducible apply Dr.set) | (with_reducible apply Dr.drewN) | (with_reducible apply Dr.drew) | (apply Dr.below2 (by with_reducible assumption)) | (apply Dr.gbg2 (by with_reducible assumption)) | omega | go_size)) (by omega), (by repeat' (first | (with_reducible assumption) | (with_reducible exact gb_refl _ _) | (with_reducible refine gb_alloc ?_ _) | (with_reducible refine gb_drew ?_) | (with_reducible refine gb_drewN ?_ _) | (with_reducible refine gb_set ?_ ?_ _) | (refine gb_trans ?_ (by with_reducible assumption)) | (refine gb_below ?_ (by with_reducible assumption) ?_) | (with_reducible exact Or.inl rfl) | (apply Or.inr; go_size) | go_size))⟩

def JobPost (w : World) (rb M : Nat) (e : Ending) (w' : World) : Prop :=
  ∃ k s r n : Int, e = .returned (.agg #[.int .i64 k, .int .i64 s, .int .i64 r, .int .i64 n]) ∧ (-10000 ≤ k ∧ k ≤ 10000) ∧ (-10000 ≤ s ∧ s ≤ 10000) ∧ (-10000 ≤ r ∧ r ≤ 10000) ∧ (-10000 ≤ n ∧ n ≤ 10000) ∧ Dr w' rb M ∧ w.grownBy w' (some rb)

set_option maxRecDepth 100000 in
set_option maxHeartbeats 2000000 in
theorem l20Job (rb N : Nat) (n : Int) (w : World) (hN : N ≤ 10000) (hD : Dr w rb N) (hn : I64 n) :
    Calls Try.prog 55 #[.pointer (some ⟨rb, 0, none⟩), .int .i64 n] w (JobPost w rb (N + 12)) := by
  have hrb := hD.lt
  have hr0 : ¬ w.heap.size = rb := by omega
  have hr1 : ¬ w.heap.size + 1 = rb := by omega
  go_enter Try.func55, Try.ntmps55
  go_wp2_with fail
  refine (l20Program rb N n 9 _ (by omega) (by repeat' (first | (with_reducible assumption) | (with_reducible apply Dr.alloc) | (with_reducible apply Dr.set) | (with_reducible apply Dr.drewN) | (with_reducible apply Dr.drew) | (apply Dr.below2 (by with_reducible assumption)) | (apply Dr.gbg2 (by with_reducible assumption)) | omega | go_size)) hn (by omega)).mono ?_
  rintro e w1 ⟨k, s, r, rfl, hk, hs, hr, hD1, hg1⟩
  obtain ⟨hc1, hf1⟩ := gcell hg1
  have hz1 := hg1.size
  simp only [World.size_alloc] at hz1
  go_wp2_with fail
  refine (l20Workers rb (N + 10) n _ (by omega) hD1 hn).mono ?_
  rintro e w2 ⟨v, rfl, hv0, hv1, hD2, hg2⟩
  obtain ⟨hc2, hf2⟩ := gcell hg2
  have hz2 := hg2.size
  have hl1 : w.heap.size < w1.heap.size := by omega
  have hl2 : w.heap.size < w2.heap.size := by omega
  have hl3 : w.heap.size ≤ w2.heap.size := by omega
  have hl4 : ¬ w.heap.size = w2.heap.size := by omega
  go_wp2
  refine bodyPost_ret (by simp [results, Try.results55, go_sem, hc1, hf1, hc2, hf2, hz1, hz2, hr0, hl1, hl2, hl3, hl4]) rfl ⟨k, s, r, v, rfl, hk, hs, hr, by omega, Dr.mono (by repeat' (first | (with_reducible assumption) | (with_reducible apply Dr.alloc) | (with_reducible apply Dr.set) | (with_reducible apply Dr.drewN) | (with_reducible apply Dr.drew) | (apply Dr.below2 (by with_reducible assumption)) | (apply Dr.gbg2 (by with_reducible assumption)) | omega | go_size)) (by omega), ?_⟩
  exact (by repeat' (first | (with_reducible assumption) | (with_reducible exact gb_refl _ _) | (with_reducible refine gb_alloc ?_ _) | (with_reducible refine gb_drew ?_) | (with_reducible refine gb_drewN ?_ _) | (with_reducible refine gb_set ?_ ?_ _) | (refine gb_trans ?_ (by with_reducible assumption)) | (refine gb_below ?_ (by with_reducible assumption) ?_) | (with_reducible exact Or.inl rfl) | (apply Or.inr; go_size) | go_size))

set_option maxRecDepth 100000 in
set_option maxHeartbeats 2000000 in
theorem drawJobValid (ao : Option Addr) (c b o : Nat) (bs : List Int) (w : World) (ha : At ao b o bs.length) (hin : Bytes w b o bs) (hby : ∀ z ∈ bs, 0 ≤ z ∧ z ≤ 255) (hl : bs.length ≤ c) (hc : c ≤ maxLen) :
    Calls Try.prog 21 #[.slice ao bs.length c] w fun e w' => ∃ k s r n : Int, e = .returned (.agg #[.int .i64 k, .int .i64 s, .int .i64 r, .int .i64 n]) ∧ Below w.heap.size w w' := by
  go_enter Try.func21, Try.ntmps21
  go_wp2_with fail
  refine (l20Open ao c b o bs _ ha (hin.keep (keeps_alloc _ _)) hby hl hc).mono ?_
  intro e w1 h
  obtain ⟨h1, hD, hb⟩ := h
  subst h1
  simp only [World.size_alloc] at hD
  (obtain ⟨hc, hf⟩ := bcell hb); have hz := hb.size; (try simp only [World.size_alloc, World.size_setCell, World.size_drew, World.size_drewN] at hz); have hl_0 : w.heap.size < w1.heap.size := (by omega)
  go_wp2_with fail
  refine (l20Job (w.heap.size + 1) 0 3 w1 (by omega) hD (by unfold I64; omega)).mono ?_
  rintro e w2 ⟨k, s, r, n, rfl, _, _, _, _, hD2, hg⟩

  have hb2 := below_gb hb hg hb.size (by simp)
  obtain ⟨hc2, hf2⟩ := bcell hb2
  have hz2 := hb2.size
  simp only [World.size_alloc] at hz2
  go_wp2
  refine bodyPost_ret (by simp [results, Try.results21, go_sem, hc2, hf2]) rfl ⟨k, s, r, n, rfl, ?_⟩
  exact (by repeat' (first | (with_reducible exact Below.refl _ _) | (with_reducible assumption) | (with_reducible refine Below.alloc ?_ ?_ _) | (with_reducible refine Below.drew ?_) | (with_reducible refine below_drewN ?_ _) | (with_reducible refine Below.setCell ?_ ?_ _) | (refine bstep (by with_reducible assumption) ?_) | go_size))
end Go.Proofs.Ytlanonimjbhjnaa
