/- The law FnEdgeBody, walked. -/
import Derived.Test.YtlanonimjbhjnaaRows
import Derived.WalkKit
import Derived.WalkSpells
import Derived.WalkLawsBesides
import Derived.Lib.Hide
import Derived.Handy
import Derived.BigQuiet
import Derived.Deep.QuietTactic
import Derived.Test.YtlanonimjbhjnaaLib
import Derived.Test.YtlanonimjbhjnaaOwn
import Derived.Test.YtlanonimjbhjnaaJobs
import Derived.Test.YtlanonimjbhjnaaCodes
import Derived.Test.YtlanonimjbhjnaaCodes2
import Derived.Test.YtlanonimjbhjnaaCodes3
import Derived.Test.YtlanonimjbhjnaaDraw
import Derived.Test.YtlanonimjbhjnaaLCodes
import Derived.Test.YtlanonimjbhjnaaEdges
import Derived.Test.YtlanonimjbhjnaaLEdge
import Derived.Test.YtlanonimjbhjnaaWriter
import Derived.Test.YtlanonimjbhjnaaEdgeB
set_option linter.unusedSimpArgs false
set_option linter.unusedVariables false
namespace Go.Proofs.Ytlanonimjbhjnaa
open Go.RowKit

set_option maxRecDepth 100000 in
set_option maxHeartbeats 2000000 in
theorem drawEdgeBody (ao : Option Addr) (c b o : Nat) (bs : List Int) (w : World) (ha : At ao b o bs.length) (hin : Bytes w b o bs) (hby : ∀ z ∈ bs, 0 ≤ z ∧ z ≤ 255) (hl : bs.length ≤ c) (hc : c ≤ maxLen) :
    Calls Try.prog 31 #[.slice ao bs.length c] w fun e w' => ∃ x y z : Int, e = .returned (.agg #[.int .i64 x, .int .i64 y, .int .i64 z]) ∧ (-1 ≤ x ∧ x ≤ 1000001) ∧ (-1 ≤ y ∧ y ≤ 1000001) ∧ (0 ≤ z ∧ z ≤ 255) ∧ Below w.heap.size w w' := by
  go_enter Try.func31, Try.ntmps31
  go_wp2_with fail
  refine (l20Open ao c b o bs _ ha (hin.keep (keeps_alloc _ _)) hby hl hc).mono ?_
  rintro e w1 ⟨rfl, hD, hb⟩
  have hz1 := hb.size
  obtain ⟨hc1, hf1⟩ := bcell hb
  simp only [World.size_alloc] at hz1 hD hb hc1 hf1
  go_wp2_with fail
  refine (l20Number (w.heap.size + 1) 0 w1 (by omega) hD).mono ?_
  rintro e w2 ⟨x, rfl, hx0, hx1, hD2, hg2⟩
  obtain ⟨hc2, hf2⟩ := gcell hg2
  have hz2 := hg2.size
  go_wp2_with fail
  refine (l20Number (w.heap.size + 1) 3 w2 (by omega) hD2).mono ?_
  rintro e w3 ⟨y, rfl, hy0, hy1, hD3, hg3⟩
  obtain ⟨hc3, hf3⟩ := gcell hg3
  have hz3 := hg3.size
  go_wp2_with fail
  refine (pick (w.heap.size + 1) 6 256 w3 (by omega) hD3).mono ?_
  rintro e w4 ⟨z, rfl, hD4, hg4, hm0, hm1, hm2⟩
  obtain ⟨hc4, hf4⟩ := gcell hg4
  have hz4 := hg4.size
  have hl1 : w.heap.size < w1.heap.size := by omega
  have hl2 : w.heap.size < w2.heap.size := by omega
  have hl3 : w.heap.size < w3.heap.size := by omega
  have hl4 : w.heap.size < w4.heap.size := by omega
  have hgA := gb_trans (gb_trans hg2 hg3) hg4
  have hbA : Below w.heap.size w w4 := below_gb (((Below.refl w.heap.size w).alloc (Nat.le_refl _) _).trans (hb.mono (by omega))) hgA (by omega) (by omega)
  go_wp2
  refine bodyPost_ret (by simp [results, Try.results31, go_sem, hc1, hf1, hc2, hf2, hc3, hf3, hc4, hf4, hl1, hl2, hl3, hl4]) rfl ⟨x, y, z, rfl, ⟨hx0, hx1⟩, ⟨hy0, hy1⟩, by omega, (by repeat' (first | (with_reducible exact Below.refl _ _) | (with_reducible assumption) | (with_reducible refine Below.alloc ?_ ?_ _) | (with_reducible refine Below.drew ?_) | (with_reducible refine below_drewN ?_ _) | (with_reducible refine Below.setCell ?_ ?_ _) | (refine bstep (by with_reducible assumption) ?_) | go_size))⟩

theorem enc_one {n : Int} (h0 : 0 ≤ n) (h1 : n ≤ 1000000) {l r : List Int} (hb : bytesOk (l ++ (enc n ++ r)) = true) : decAt (l ++ (enc n ++ r)) (l.length : Int) = some (n, ((l.length + (enc n).length : Nat) : Int)) := by
  have hp := enc_pos h0 h1
  rw [decAt_yes hb (by simp; omega), List.drop_left, dec_enc h0 h1 r]
  simp
theorem readE_edgeB {a b c : Int} (ha : fits a = true) (hb : fits b = true) (hc : fits c = true) : readE (enc a ++ enc b ++ enc c) = some (a, b, c) := by
  simp only [fits, decide_eq_true_eq] at ha hb hc
  have h1 := enc_len a
  have h2 := enc_len b
  have h3 := enc_len c
  have hok : bytesOk (enc a ++ enc b ++ enc c) = true := bytesOk_of (fun z hz => by
    simp only [List.mem_append] at hz
    rcases hz with (hz | hz) | hz
    · exact enc_bytes a z hz
    · exact enc_bytes b z hz
    · exact enc_bytes c z hz) (by simp; omega)
  have d1 := enc_one (l := []) (r := enc b ++ enc c) ha.1 ha.2 (by simpa using hok)
  have d2 := enc_one (l := enc a) (r := enc c) hb.1 hb.2 (by simpa using hok)
  have d3 := enc_one (l := enc a ++ enc b) (r := []) hc.1 hc.2 (by simpa using hok)
  simp only [List.nil_append, List.append_nil, List.length_nil, List.append_assoc, Nat.zero_add, List.length_append] at d1 d2 d3
  unfold readE
  rw [List.append_assoc, show (0 : Int) = ((0 : Nat) : Int) from rfl, d1]
  simp only []
  rw [d2]
  simp only []
  rw [d3]
  simp only []
  rw [if_pos (by simp; omega)]
theorem edgeB_len (a b c : Int) : (edgeB a b c).length ≤ 9 := by
  have h1 := enc_len a
  have h2 := enc_len b
  have h3 := enc_len c
  unfold edgeB
  split <;> simp <;> omega
theorem edgeB_read {a b c : Int} (h : (edgeB a b c).length ≠ 0) : readE (edgeB a b c) = some (a, b, c) := by
  unfold edgeB at h ⊢
  split at h
  · rename_i hf
    rw [if_pos hf]
    simp only [Bool.and_eq_true] at hf
    exact readE_edgeB hf.1.1 hf.1.2 hf.2
  · simp at h

set_option maxRecDepth 100000 in
set_option maxHeartbeats 2000000 in
theorem fnEdgeBody (ao : Option Addr) (c b o : Nat) (bs : List Int) (w : World) (ha : At ao b o bs.length) (hin : Bytes w b o bs) (hby : ∀ z ∈ bs, 0 ≤ z ∧ z ≤ 255) (hl : bs.length ≤ c) (hc : c ≤ maxLen) :
    Calls Try.prog 9 #[.slice ao bs.length c] w fun e w' => e = .returned (.bool true) ∧ Below w.heap.size w w' := by
  have hc' := hc
  unfold maxLen at hc'
  by_cases hlen : bs.length ≤ 1048576
  · have hlen2 : ¬ (1048576 : Int) < bs.length := by omega
    go_enter Try.func9, Try.ntmps9
    go_wp2_with fail
    refine (drawEdgeBody ao c b o bs w ha hin hby hl hc).mono ?_
    rintro e w1 ⟨x, y, z, rfl, hx, hy, hz, hb1⟩
    have hz1 := hb1.size
    go_wp2_with fail
    refine (implEdgeBody x y z _).mono ?_
    rintro e w2 ⟨ao2, c2, rfl, hown2, hb2⟩
    obtain ⟨b2, o2, ha2, hi2⟩ := hown2.src.ints'
    clear hown2
    (obtain ⟨hc2, hf2⟩ := bcell hb2); have hz2 := hb2.size; (try simp only [World.size_alloc, World.size_setCell, World.size_drew, World.size_drewN] at hz2); have hl2_0 : w1.heap.size < w2.heap.size := (by omega)
    go_wp2_with fail
    refine (specEdgeBody x y z _).mono ?_
    rintro e w3 ⟨ao3, c3, rfl, hown3, hb3⟩
    obtain ⟨b3, o3, ha3, hi3⟩ := hown3.src.ints'
    clear hown3
    (obtain ⟨hc3, hf3⟩ := bcell hb3); have hz3 := hb3.size; (try simp only [World.size_alloc, World.size_setCell, World.size_drew, World.size_drewN] at hz3); have hl3_0 : w1.heap.size < w3.heap.size := (by omega)
    have hel := edgeB_len x y z
    go_wp2_with fail
    refine (lawsSameInts ao2 ao3 b2 o2 c2 b3 o3 c3 (edgeB x y z) (edgeB x y z) w3 (by simp only [maxLen]; omega) (by simp only [maxLen]; omega) ha2 (hi2.below hb3 (Nat.le_refl _)) ha3 hi3).mono ?_
    rw [decide_eq_true rfl]
    rintro e w4 ⟨rfl, hb4⟩
    (obtain ⟨hc4, hf4⟩ := bcell hb4); have hz4 := hb4.size; (try simp only [World.size_alloc, World.size_setCell, World.size_drew, World.size_drewN] at hz4); have hl4_0 : w1.heap.size < w4.heap.size := (by omega)
    have hi4 := (hi2.below hb3 (Nat.le_refl _)).below hb4 (Nat.le_refl _)
    by_cases hn : (edgeB x y z).length = 0
    · have hp0 : (((edgeB x y z).length : Int) == 0) = true := by rw [hn]; rfl
      clear hn
      generalize (edgeB x y z).length = L at *
      go_wp2_with (first | (go_at_call 23; refine (alive _).mono ?_; rintro e w5 ⟨rfl, hb5⟩))
      all_goals
        go_ret
        exact ⟨ret_bool (by simp; try omega), (by repeat' (first | (with_reducible exact Below.refl _ _) | (with_reducible assumption) | (with_reducible refine Below.alloc ?_ ?_ _) | (with_reducible refine Below.drew ?_) | (with_reducible refine below_drewN ?_ _) | (with_reducible refine Below.setCell ?_ ?_ _) | (refine bstep (by with_reducible assumption) ?_) | go_size))⟩
    · have hp0 : (((edgeB x y z).length : Int) == 0) = false := by rw [beq_eq_false_iff_ne]; omega
      have hD := Lib.hid (implReadEdge ao2 c2 b2 o2 (edgeB x y z) w4 (by simp only [maxLen]; omega) ha2 hi4)
      rw [edgeB_read hn] at hD
      clear hn
      generalize (edgeB x y z).length = L at *
      go_wp2_with fail
      refine hD.out.mono ?_
      rintro e w5 ⟨he5, hb5⟩
      unfold edgeVal at he5
      subst he5
      (obtain ⟨hc5, hf5⟩ := bcell hb5); have hz5 := hb5.size; (try simp only [World.size_alloc, World.size_setCell, World.size_drew, World.size_drewN] at hz5); have hl5_0 : w1.heap.size < w5.heap.size := (by omega)
      go_wp2
      go_ret
      exact ⟨ret_bool (by simp; try omega), (by repeat' (first | (with_reducible exact Below.refl _ _) | (with_reducible assumption) | (with_reducible refine Below.alloc ?_ ?_ _) | (with_reducible refine Below.drew ?_) | (with_reducible refine below_drewN ?_ _) | (with_reducible refine Below.setCell ?_ ?_ _) | (refine bstep (by with_reducible assumption) ?_) | go_size))⟩
  · have hlen2 : (1048576 : Int) < bs.length := by omega
    go_enter Try.func9, Try.ntmps9
    go_wp2
    go_ret
    exact ⟨rfl, Below.refl _ _⟩
end Go.Proofs.Ytlanonimjbhjnaa
