/- Graphs: copies, dropping a vertex. No statement of the seat is proved here. -/
import Derived.LoopN
import Derived.Lib.SliceRun
import Derived.Deep.RegionHeld3
import Derived.Deep.RegionLaw
import Derived.Test.YtknbeakmnkjkhaaRows
import Derived.WalkKit
import Derived.WalkSpells
import Derived.WalkLawsBesides
import Derived.Lib.Hide
import Derived.Handy
import Derived.BigQuiet
import Derived.Deep.QuietTactic
import Derived.Test.YtknbeakmnkjkhaaLib
import Derived.Test.YtknbeakmnkjkhaaOwn
import Derived.Test.YtknbeakmnkjkhaaJobs
import Derived.Test.YtknbeakmnkjkhaaCodes
import Derived.Test.YtknbeakmnkjkhaaCodes2
import Derived.Test.YtknbeakmnkjkhaaCodes3
import Derived.Test.YtknbeakmnkjkhaaFrames
import Derived.Test.YtknbeakmnkjkhaaFrames2
import Derived.Test.YtknbeakmnkjkhaaGraphs
import Derived.Test.YtknbeakmnkjkhaaGValid
import Derived.Test.YtknbeakmnkjkhaaGValidS
set_option linter.unusedSimpArgs false
set_option linter.unusedVariables false
namespace Go.Proofs.Ytknbeakmnkjkhaa
open Go.RowKit

set_option maxRecDepth 100000 in
set_option maxHeartbeats 600000 in
theorem sliceCloneE (ao : Option Addr) (c : Nat) (xs : List E3) (w : World) (hl : xs.length ≤ 1048576) (h : Src w ao xs.length 3 (ev xs)) (hz : ao = none → c = 0) :
    Calls Try.prog 118 #[.slice ao xs.length c] w fun e w' => ∃ ao' c', e = .returned (.slice ao' xs.length c') ∧ Own w' w.heap.size 47 3 ao' xs.length c' (ev xs) ∧ Below w.heap.size w w' ∧ (ao' = none ↔ ao = none) := by
  cases ao with
  | none =>
    have hx : xs = [] := by
      rcases Nat.eq_zero_or_pos xs.length with h0 | h0
      · exact List.eq_nil_of_length_eq_zero h0
      · obtain ⟨b, o, h1, _⟩ := h.2 h0; cases h1
    subst hx
    obtain rfl := hz rfl
    have hq := fun (W : World) (n c : Nat) => Lib.run_eql_slice_nil (P := Try.prog) W 26 47 none n c 0 0 Try.underlying26
    go_enter Try.func118, Try.ntmps118
    go_wp2
    go_ret
    exact ⟨none, 0, rfl, Own.nil_ _ _ _ _, Below.refl _ _, by simp⟩
  | some a =>
    have HS := Lib.hid h
    clear h hz
    have hq := fun (W : World) (n c : Nat) => Lib.run_eql_slice_nil (P := Try.prog) W 26 47 (some a) n c 0 0 Try.underlying26
    go_enter Try.func118, Try.ntmps118
    go_wp2_with (first | (at_builtin; refine wp_app _ el_edge rfl _ _ rfl w.heap.size rfl (Own.new0 _ _ _ _ (Nat.le_refl _)) rfl (HS.out.alloc _) (oneCell_ev _) (by simp only [maxLen]; omega) (by omega) (by simp) ?_; intro ao1 c1 w1 hown1 hg1 hat1 hz1))
    go_ret
    refine ⟨ao1, c1, by rfl, by simpa using hown1, ((Below.refl _ _).alloc (Nat.le_refl _) _).grown hg1 (by simp) (by intro g hg; simp [blk] at hg; omega), ?_⟩
    rw [hz1]; simp


def GrP (w : World) (m : Int) (es : List E3) (e : Ending) (w' : World) : Prop :=
  ∃ ao c, e = .returned (gr m ao es.length c) ∧ Own w' w.heap.size 47 3 ao es.length c (ev es) ∧ Below w.heap.size w w'

set_option maxRecDepth 100000 in
set_option maxHeartbeats 2000000 in
theorem implGraphCopied (m : Int) (ao : Option Addr) (c : Nat) (es : List E3) (w : World) (hl : es.length ≤ 1048576) (hs : Se w ao es) (hz : ao = none → c = 0) :
    Calls Try.prog 65 #[gr m ao es.length c] w (GrP w m es) := by
  have K1 := Lib.hid (fun W (h : Se W ao es) => Lib.hid (sliceCloneE ao c es W hl h hz))
  have H1 := Lib.hid hs
  clear hs hz
  go_enter Try.func65, Try.ntmps65
  go_wp2
  go_region_held3 (fun w' => w'.cell? ⟨w.heap.size, 0, none⟩ = some (.int .i64 m) ∧ w'.cell? ⟨w.heap.size, 1, none⟩ = some (.slice ao es.length c)) (go_keep) (first | ((try go_simp); go_at_call 118; (with_reducible refine (K1.out _ (H1.out.below (B := w.heap.size) ?_ (Nat.le_refl _))).out.mono ?_); (exact (by repeat' (first | (with_reducible exact Below.refl _ _) | (with_reducible assumption) | (with_reducible refine Below.alloc ?_ ?_ _) | (with_reducible refine Below.drew ?_) | (with_reducible refine below_drewN ?_ _) | (with_reducible refine Below.setCell ?_ ?_ _) | (refine bstep (by with_reducible assumption) ?_) | (refine bstep2 (by with_reducible assumption) (by first | omega | (simp; done) | (simp; omega)) ?_) | go_size))); rintro e w3 ⟨ao3, c3, rfl, hown3, hb3, hn3⟩; obtain ⟨hc3, hf3⟩ := bcell hb3; (try simp only [World.size_drew, World.size_drewN] at hc3 hf3); have hz3 := hb3.size; (try simp only [World.size_alloc, World.size_setCell, World.size_drew, World.size_drewN] at hz3); have hl3_00 : w.heap.size < w3.heap.size := (by omega); have hl3_01 : w.heap.size < w3.heap.size + 1 := (by omega); have hl3_02 : w.heap.size < w3.heap.size + 1 + 1 := (by omega); have hn3_00 : ¬ w.heap.size = w3.heap.size := (by omega); have hn3_01 : ¬ w.heap.size = w3.heap.size + 1 := (by omega); have hl3_10 : w.heap.size + 1 < w3.heap.size := (by omega); have hl3_11 : w.heap.size + 1 < w3.heap.size + 1 := (by omega); have hl3_12 : w.heap.size + 1 < w3.heap.size + 1 + 1 := (by omega); have hn3_10 : ¬ w.heap.size + 1 = w3.heap.size := (by omega); have hn3_11 : ¬ w.heap.size + 1 = w3.heap.size + 1 := (by omega); have hO3 := Lib.hid (hown3.mono_ (base' := w.heap.size) (by first | omega | (simp; done) | (simp; omega) | go_size)); have hO3p := Lib.hid hown3; clear hown3))
  go_wp2
  have hne3 : blk ao3 ≠ some (w.heap.size + 1) := fun e => by have h := (hO3p.out.lt_ _ e).1; (try simp at h); omega
  have hOa := hO3.out
  refine bodyPost_ret (v := gr m ao3 es.length c3) (by simp [results, Try.results65, go_sem, *]) rfl ⟨ao3, c3, rfl, ?_, (by repeat' (first | (with_reducible exact Below.refl _ _) | (with_reducible assumption) | (with_reducible refine Below.alloc ?_ ?_ _) | (with_reducible refine Below.drew ?_) | (with_reducible refine below_drewN ?_ _) | (with_reducible refine Below.setCell ?_ ?_ _) | (refine bstep (by with_reducible assumption) ?_) | (refine bstep2 (by with_reducible assumption) (by first | omega | (simp; done) | (simp; omega)) ?_) | go_size))⟩
  repeat' (first | (with_reducible assumption) | (with_reducible apply Own.drew_) | (with_reducible apply Own.drewN_) | (with_reducible apply Own.alloc_) | (with_reducible refine Own.set_other ?_ ?_ _) | (refine Own.kept_ ?_ (by with_reducible assumption) ?_) | (refine Own.below_ ?_ (by with_reducible assumption) ?_) | (exact Nat.le_refl _) | omega)

set_option maxRecDepth 100000 in
set_option maxHeartbeats 2000000 in
theorem specL1OwnGraph (m : Int) (ao : Option Addr) (c : Nat) (es : List E3) (w : World) (hl : es.length ≤ 1048576) (hs : Se w ao es) :
    Calls Try.prog 61 #[gr m ao es.length c] w (GrP w m es) := by
  have H1 := Lib.hid hs
  clear hs
  go_enter Try.func61, Try.ntmps61
  go_wp2_with (first | (at_builtin; refine wp_app (cs := []) _ el_edge rfl _ _ rfl (w.heap.size + 3) rfl (own_new0 (by simp) (by simp)) rfl (H1.out.below (B := w.heap.size) (by repeat' (first | (with_reducible exact Below.refl _ _) | (with_reducible assumption) | (with_reducible refine Below.alloc ?_ ?_ _) | (with_reducible refine Below.drew ?_) | (with_reducible refine below_drewN ?_ _) | (with_reducible refine Below.setCell ?_ ?_ _) | (refine bstep (by with_reducible assumption) ?_) | (refine bstep2 (by with_reducible assumption) (by first | omega | (simp; done) | (simp; omega)) ?_) | go_size)) (Nat.le_refl _)) (oneCell_ev _) (by simp only [maxLen]; omega) (by omega) (by simp) ?_; intro ao1 c1 w1 hown1 hg1 hat1 hz1; obtain ⟨hc1, hf1⟩ := gcellB hg1; have hB1 := hown1.lt_; have hb1 : Below w.heap.size w w1 := (by refine below_grown ?_ hg1 ?_ ?_ <;> first | (intro g hg; simp [blk] at hg; omega) | omega | (simp; done) | (simp; omega) | exact (by repeat' (first | (with_reducible exact Below.refl _ _) | (with_reducible assumption) | (with_reducible refine Below.alloc ?_ ?_ _) | (with_reducible refine Below.drew ?_) | (with_reducible refine below_drewN ?_ _) | (with_reducible refine Below.setCell ?_ ?_ _) | (refine bstep (by with_reducible assumption) ?_) | (refine bstep2 (by with_reducible assumption) (by first | omega | (simp; done) | (simp; omega)) ?_) | go_size))); have hz1 := hg1.size; (try simp only [World.size_alloc] at hz1); have hl1_00 : w.heap.size < w1.heap.size := (by omega); have hl1_01 : w.heap.size < w1.heap.size + 1 := (by omega); have hl1_02 : w.heap.size < w1.heap.size + 1 + 1 := (by omega); have hn1_00 : ¬ w.heap.size = w1.heap.size := (by omega); have hn1_01 : ¬ w.heap.size = w1.heap.size + 1 := (by omega); have hl1_10 : w.heap.size + 1 < w1.heap.size := (by omega); have hl1_11 : w.heap.size + 1 < w1.heap.size + 1 := (by omega); have hl1_12 : w.heap.size + 1 < w1.heap.size + 1 + 1 := (by omega); have hn1_10 : ¬ w.heap.size + 1 = w1.heap.size := (by omega); have hn1_11 : ¬ w.heap.size + 1 = w1.heap.size + 1 := (by omega); have hl1_20 : w.heap.size + 1 + 1 < w1.heap.size := (by omega); have hl1_21 : w.heap.size + 1 + 1 < w1.heap.size + 1 := (by omega); have hl1_22 : w.heap.size + 1 + 1 < w1.heap.size + 1 + 1 := (by omega); have hn1_20 : ¬ w.heap.size + 1 + 1 = w1.heap.size := (by omega); have hn1_21 : ¬ w.heap.size + 1 + 1 = w1.heap.size + 1 := (by omega); have O1 := Lib.hid (own_len hown1 (Nat.zero_add _) (List.nil_append _)); clear hown1))
  have hne1 : blk ao1 ≠ some (w.heap.size + 1) := fun e => by have h := (hB1 _ e).1; omega
  have hne2 : blk ao1 ≠ some (w.heap.size + 1 + 1) := fun e => by have h := (hB1 _ e).1; omega
  have hO := O1.out.mono_ (base' := w.heap.size) (by omega)
  refine bodyPost_ret (v := gr m ao1 es.length c1) (by simp [results, Try.results61, go_sem, *]) rfl ⟨ao1, c1, rfl, ?_, (by repeat' (first | (with_reducible exact Below.refl _ _) | (with_reducible assumption) | (with_reducible refine Below.alloc ?_ ?_ _) | (with_reducible refine Below.drew ?_) | (with_reducible refine below_drewN ?_ _) | (with_reducible refine Below.setCell ?_ ?_ _) | (refine bstep (by with_reducible assumption) ?_) | (refine bstep2 (by with_reducible assumption) (by first | omega | (simp; done) | (simp; omega)) ?_) | go_size))⟩
  repeat' (first | (with_reducible assumption) | (with_reducible apply Own.drew_) | (with_reducible apply Own.drewN_) | (with_reducible apply Own.alloc_) | (with_reducible refine Own.set_other ?_ ?_ _) | (refine Own.kept_ ?_ (by with_reducible assumption) ?_) | (refine Own.below_ ?_ (by with_reducible assumption) ?_) | (exact Nat.le_refl _) | omega)
end Go.Proofs.Ytknbeakmnkjkhaa
