/- The law FnReadEdge, walked. -/
import Derived.Deep.CutBlock
import Derived.Test.YtlanonimjbhjnaaRows
import Derived.WalkKit
import Derived.WalkSpells
import Derived.WalkLawsBesides
import Derived.Lib.Hide
import Derived.Handy
import Derived.BigQuiet
import Derived.Deep.QuietTactic
import Derived.Test.YtlanonimjbhjnaaLib
import Derived.Test.YtlanonimjbhjnaaOwn
import Derived.Test.YtlanonimjbhjnaaJobs
import Derived.Test.YtlanonimjbhjnaaCodes
import Derived.Test.YtlanonimjbhjnaaCodes2
import Derived.Test.YtlanonimjbhjnaaCodes3
import Derived.Test.YtlanonimjbhjnaaDraw
import Derived.Test.YtlanonimjbhjnaaDrawJob
import Derived.Test.YtlanonimjbhjnaaDrawBytes
import Derived.Test.YtlanonimjbhjnaaLCodes
import Derived.Test.YtlanonimjbhjnaaLDecB
import Derived.Test.YtlanonimjbhjnaaEdges
import Derived.Test.YtlanonimjbhjnaaLEdge
import Derived.Test.YtlanonimjbhjnaaWriter
import Derived.Test.YtlanonimjbhjnaaEdgeB
import Derived.Test.YtlanonimjbhjnaaLEdgeB
set_option linter.unusedSimpArgs false
set_option linter.unusedVariables false
namespace Go.Proofs.Ytlanonimjbhjnaa
open Go.RowKit

theorem decAt_canon2 {xs : List Int} {i n j : Int} (h : decAt xs i = some (n, j)) : 0 ≤ i ∧ i < j ∧ j ≤ xs.length ∧ (xs.drop i.toNat).take (j.toNat - i.toNat) = enc n ∧ fits n = true := by
  obtain ⟨h1, h2, h3, h4⟩ := decAt_canon h
  refine ⟨h1, h2, h3, h4, ?_⟩
  by_cases hf : 0 ≤ n ∧ n ≤ 1000000
  · simp [fits, hf]
  · exfalso
    rw [enc_no (by omega)] at h4
    have := congrArg List.length h4
    simp at this
    omega
theorem readE_canon {xs : List Int} {a b c : Int} (h : readE xs = some (a, b, c)) : edgeB a b c = xs := by
  unfold readE at h
  split at h
  · rename_i a1 i h1
    split at h
    · rename_i b1 j h2
      split at h
      · rename_i c1 e h3
        split at h
        · rename_i he
          simp at h
          obtain ⟨rfl, rfl, rfl⟩ := h
          obtain ⟨p1, p2, p3, p4, p5⟩ := decAt_canon2 h1
          obtain ⟨q1, q2, q3, q4, q5⟩ := decAt_canon2 h2
          obtain ⟨r1, r2, r3, r4, r5⟩ := decAt_canon2 h3
          obtain ⟨I, rfl⟩ := Int.eq_ofNat_of_zero_le q1
          obtain ⟨J, rfl⟩ := Int.eq_ofNat_of_zero_le r1
          subst he
          unfold edgeB
          rw [if_pos (by simp [p5, q5, r5]), ← p4, ← q4, ← r4]
          simp only [Int.toNat_natCast, Int.toNat_zero, List.drop_zero, Nat.sub_zero]
          have e1 : xs.take I ++ (xs.drop I).take (J - I) = xs.take J := by
            conv => rhs; rw [show J = I + (J - I) by omega, List.take_add]
          rw [e1]
          have e2 : (xs.drop J).take (xs.length - J) = xs.drop J := List.take_of_length_le (by simp)
          rw [e2, List.take_append_drop]
        · cases h
      · cases h
    · cases h
  · cases h

theorem Own.ints_at {w : World} {base E n c g : Nat} {xs : List Int} (h : Own w base E 1 (some ⟨g, 0, none⟩) n c (iv xs)) : Ints w g 0 xs := fun i hi => by
  have hl := h.length_
  simp at hl
  rw [Nat.zero_add, h.cell_at i (by omega)]
  simp [List.getD, hi]
def ReadPost (w : World) (e : Ending) (w' : World) : Prop :=
  ∃ (xs : List Int) (ao : Option Addr) (c b o : Nat), e = .returned (.slice ao xs.length c) ∧ At ao b o xs.length ∧ Ints w' b o xs ∧ xs.length ≤ 2001 ∧ Below w.heap.size w w'
theorem ReadPost.own {w w' : World} {base : Nat} {xs : List Int} {ao : Option Addr} {c : Nat} (h : Own w' base 3 1 ao xs.length c (iv xs)) (hl : xs.length ≤ 2001) (hb : Below w.heap.size w w') : ReadPost w (.returned (.slice ao xs.length c)) w' :=
  let ⟨b, o, ha, hi⟩ := h.src.ints'
  ⟨xs, ao, c, b, o, rfl, ha, hi, hl, hb⟩

set_option maxRecDepth 100000 in
set_option maxHeartbeats 2000000 in
theorem drawReadEdge (ao : Option Addr) (c b o : Nat) (bs : List Int) (w : World) (ha : At ao b o bs.length) (hin : Bytes w b o bs) (hby : ∀ z ∈ bs, 0 ≤ z ∧ z ≤ 255) (hl : bs.length ≤ c) (hc : c ≤ maxLen) :
    Calls Try.prog 46 #[.slice ao bs.length c] w (ReadPost w) := by
  go_enter Try.func46, Try.ntmps46
  go_wp2_with fail
  refine (l20Open ao c b o bs _ ha hin hby hl hc).mono ?_
  rintro e w1 ⟨rfl, hD, hb⟩
  have hz1 := hb.size
  have hrb := hD.lt
  (go_wp2_with fail); (refine (pick w.heap.size (0) _ _ (by omega) (Dr.below (B := w1.heap.size) hD (by repeat' (first | (with_reducible exact Below.refl _ _) | (with_reducible assumption) | (with_reducible refine Below.alloc ?_ ?_ _) | (with_reducible refine Below.drew ?_) | (with_reducible refine below_drewN ?_ _) | (with_reducible refine Below.setCell ?_ ?_ _) | (refine bstep (by with_reducible assumption) ?_) | go_size)) (Nat.le_refl _))).mono ?_); (rintro e w2 ⟨m2, rfl, hD2, hg2, hm20, hm21, hm22⟩); (obtain ⟨hc2, hf2⟩ := gcell hg2); (have hz2 := hg2.size); (try simp only [World.size_alloc, World.size_setCell, World.size_drew, World.size_drewN] at hz2); (have hG2 : w1.grownBy w2 (some w.heap.size) := gb_trans (gb_of_below (by repeat' (first | (with_reducible exact Below.refl _ _) | (with_reducible assumption) | (with_reducible refine Below.alloc ?_ ?_ _) | (with_reducible refine Below.drew ?_) | (with_reducible refine below_drewN ?_ _) | (with_reducible refine Below.setCell ?_ ?_ _) | (refine bstep (by with_reducible assumption) ?_) | go_size)) _) hg2)
  (go_wp2_with fail); (refine (pick w.heap.size (0 + 1) _ _ (by omega) (Dr.below (B := w2.heap.size) hD2 (by repeat' (first | (with_reducible exact Below.refl _ _) | (with_reducible assumption) | (with_reducible refine Below.alloc ?_ ?_ _) | (with_reducible refine Below.drew ?_) | (with_reducible refine below_drewN ?_ _) | (with_reducible refine Below.setCell ?_ ?_ _) | (refine bstep (by with_reducible assumption) ?_) | go_size)) (Nat.le_refl _))).mono ?_); (rintro e w3 ⟨m3, rfl, hD3, hg3, hm30, hm31, hm32⟩); (obtain ⟨hc3, hf3⟩ := gcell hg3); (have hz3 := hg3.size); (try simp only [World.size_alloc, World.size_setCell, World.size_drew, World.size_drewN] at hz3); (have hG3 : w2.grownBy w3 (some w.heap.size) := gb_trans (gb_of_below (by repeat' (first | (with_reducible exact Below.refl _ _) | (with_reducible assumption) | (with_reducible refine Below.alloc ?_ ?_ _) | (with_reducible refine Below.drew ?_) | (with_reducible refine below_drewN ?_ _) | (with_reducible refine Below.setCell ?_ ?_ _) | (refine bstep (by with_reducible assumption) ?_) | go_size)) _) hg3)
  (go_wp2_with fail); (refine (pick w.heap.size (0 + 1 + 1) _ _ (by omega) (Dr.below (B := w3.heap.size) hD3 (by repeat' (first | (with_reducible exact Below.refl _ _) | (with_reducible assumption) | (with_reducible refine Below.alloc ?_ ?_ _) | (with_reducible refine Below.drew ?_) | (with_reducible refine below_drewN ?_ _) | (with_reducible refine Below.setCell ?_ ?_ _) | (refine bstep (by with_reducible assumption) ?_) | go_size)) (Nat.le_refl _))).mono ?_); (rintro e w4 ⟨m4, rfl, hD4, hg4, hm40, hm41, hm42⟩); (obtain ⟨hc4, hf4⟩ := gcell hg4); (have hz4 := hg4.size); (try simp only [World.size_alloc, World.size_setCell, World.size_drew, World.size_drewN] at hz4); (have hG4 : w3.grownBy w4 (some w.heap.size) := gb_trans (gb_of_below (by repeat' (first | (with_reducible exact Below.refl _ _) | (with_reducible assumption) | (with_reducible refine Below.alloc ?_ ?_ _) | (with_reducible refine Below.drew ?_) | (with_reducible refine below_drewN ?_ _) | (with_reducible refine Below.setCell ?_ ?_ _) | (refine bstep (by with_reducible assumption) ?_) | go_size)) _) hg4)
  have hm32 : m3 * 99 ≤ 25245 := by omega
  have hG := gb_trans (gb_trans hG2 hG3) hG4
  go_wp2_with fail
  refine (specEdgeBody m2 (m3 * 99) m4 _).mono ?_
  rintro e w5 ⟨ao5, c5, rfl, hown5, hb5⟩
  have hz5 := hb5.size
  have hel := edgeB_len m2 (m3 * 99) m4
  have hep : 1 < (edgeB m2 (m3 * 99) m4).length := by
    unfold edgeB
    rw [if_pos (by simp [fits]; omega)]
    have := enc_pos hm20 (by omega)
    have := enc_pos hm40 (by omega)
    simp; omega
  have hD5 := hD4.below hb5 (Nat.le_refl _)
  have hG5 := gb_below hG hb5 (by omega)
  generalize edgeB m2 (m3 * 99) m4 = ys at *
  have HO5 := Lib.hid (hown5.mono_ (base' := w1.heap.size) (by omega))
  clear hown5 hG2 hG3 hG4 hg2 hg3 hg4 hc2 hc3 hc4 hf2 hf3 hf4 hb5
  go_wp2_with fail
  refine (odd w.heap.size _ 3 w5 (by omega) hD5 (by unfold I64; omega)).mono ?_
  rintro e w6 ⟨bb, rfl, hD6, hg6⟩
  have hz6 := hg6.size
  have HO6 := Lib.hid (HO5.out.gbr hg6 (by omega))
  have hG6 := gb_trans hG5 hg6
  have hb6 : Below w.heap.size w w6 := below_gb hb hG6 (by omega) (Nat.le_refl _)
  cases bb
  · go_wp2
    go_ret
    exact .own HO6.out (by omega) hb6
  · (go_wp2_with fail); (refine (pick w.heap.size (_) _ _ (by omega) (Dr.below (B := w6.heap.size) hD6 (by repeat' (first | (with_reducible exact Below.refl _ _) | (with_reducible assumption) | (with_reducible refine Below.alloc ?_ ?_ _) | (with_reducible refine Below.drew ?_) | (with_reducible refine below_drewN ?_ _) | (with_reducible refine Below.setCell ?_ ?_ _) | (refine bstep (by with_reducible assumption) ?_) | go_size)) (Nat.le_refl _))).mono ?_); (rintro e w7 ⟨m7, rfl, hD7, hg7, hm70, hm71, hm72⟩); (obtain ⟨hc7, hf7⟩ := gcell hg7); (have hz7 := hg7.size); (try simp only [World.size_alloc, World.size_setCell, World.size_drew, World.size_drewN] at hz7); (have hG7 : w6.grownBy w7 (some w.heap.size) := gb_trans (gb_of_below (by repeat' (first | (with_reducible exact Below.refl _ _) | (with_reducible assumption) | (with_reducible refine Below.alloc ?_ ?_ _) | (with_reducible refine Below.drew ?_) | (with_reducible refine below_drewN ?_ _) | (with_reducible refine Below.setCell ?_ ?_ _) | (refine bstep (by with_reducible assumption) ?_) | go_size)) _) hg7)
    have HO7 := Lib.hid (HO6.out.gbr hG7 (by omega))
    have hG7' := gb_trans hG6 hG7
    have hb7 : Below w.heap.size w w7 := below_gb hb hG7' (by omega) (Nat.le_refl _)
    obtain ⟨g, hag, hgl, hgl2⟩ := HO7.out.form_.resolve_left (by rintro ⟨_, h, _⟩; omega)
    have hcap := HO7.out.cap_
    unfold maxLen at hcap
    subst hag
    clear hc7 hf7
    have h4 : m7 = 0 ∨ m7 = 1 ∨ m7 = 2 ∨ m7 = 3 := by omega
    rcases h4 with rfl | rfl | rfl | rfl
    · have h1c : (1 : Int) ≤ ys.length := by omega
      have h2c : ¬ c5 - 1 = 0 := by omega
      have h3c : ¬ c5 = 1 := by omega
      go_wp2
      go_ret
      refine ⟨ys.drop 1, some ⟨g, 1, none⟩, c5 - 1, g, 1, by rw [List.length_drop]; rfl, .mk _ _ _, ?_, by simp; omega, hb7⟩
      have h := (HO7.out.ints_at).sub 1 (ys.length - 1) (by omega)
      rw [List.take_of_length_le (by simp)] at h
      simpa using h
    · (go_wp2_with fail); (refine (pick w.heap.size (_) _ _ (by omega) (Dr.below (B := w7.heap.size) hD7 (by repeat' (first | (with_reducible exact Below.refl _ _) | (with_reducible assumption) | (with_reducible refine Below.alloc ?_ ?_ _) | (with_reducible refine Below.drew ?_) | (with_reducible refine below_drewN ?_ _) | (with_reducible refine Below.setCell ?_ ?_ _) | (refine bstep (by with_reducible assumption) ?_) | go_size)) (Nat.le_refl _))).mono ?_); (rintro e w8 ⟨m8, rfl, hD8, hg8, hm80, hm81, hm82⟩); (obtain ⟨hc8, hf8⟩ := gcell hg8); (have hz8 := hg8.size); (try simp only [World.size_alloc, World.size_setCell, World.size_drew, World.size_drewN] at hz8); (have hG8 : w7.grownBy w8 (some w.heap.size) := gb_trans (gb_of_below (by repeat' (first | (with_reducible exact Below.refl _ _) | (with_reducible assumption) | (with_reducible refine Below.alloc ?_ ?_ _) | (with_reducible refine Below.drew ?_) | (with_reducible refine below_drewN ?_ _) | (with_reducible refine Below.setCell ?_ ?_ _) | (refine bstep (by with_reducible assumption) ?_) | go_size)) _) hg8)
      have HO8 := Lib.hid (HO7.out.gbr hG8 (by omega))
      have hb8 : Below w.heap.size w w8 := below_gb hb (gb_trans hG7' hG8) (by omega) (Nat.le_refl _)
      clear hc8 hf8
      go_wp2_with (first | (at_builtin; refine wp_app _ el_int rfl _ _ rfl w1.heap.size rfl (HO8.out.alloc_ _) rfl (Src.new _ _ _ 1 rfl) (by simp [Value.oneCell']) (by simp only [maxLen]; omega) (by omega) (by simp; omega) ?_; intro ao9 c9 w9 hown9 hg9 hat9 hz9))
      go_ret
      have hl9 : (ys ++ [m8]).length = ys.length + 1 := by simp
      have h9 : Own w9 w1.heap.size 3 1 ao9 (ys ++ [m8]).length c9 (iv (ys ++ [m8])) := by rw [hl9]; simpa [iv] using hown9
      rw [← hl9]
      exact .own h9 (by omega) ((hb8.alloc (by omega) _).grown hg9 (by simp; omega) (fun k hk => by simp [blk] at hk; omega))
    · (go_wp2_with fail); (refine (pick w.heap.size (_) _ _ (by omega) (Dr.below (B := w7.heap.size) hD7 (by repeat' (first | (with_reducible exact Below.refl _ _) | (with_reducible assumption) | (with_reducible refine Below.alloc ?_ ?_ _) | (with_reducible refine Below.drew ?_) | (with_reducible refine below_drewN ?_ _) | (with_reducible refine Below.setCell ?_ ?_ _) | (refine bstep (by with_reducible assumption) ?_) | go_size)) (Nat.le_refl _))).mono ?_); (rintro e w8 ⟨m8, rfl, hD8, hg8, hm80, hm81, hm82⟩); (obtain ⟨hc8, hf8⟩ := gcell hg8); (have hz8 := hg8.size); (try simp only [World.size_alloc, World.size_setCell, World.size_drew, World.size_drewN] at hz8); (have hG8 : w7.grownBy w8 (some w.heap.size) := gb_trans (gb_of_below (by repeat' (first | (with_reducible exact Below.refl _ _) | (with_reducible assumption) | (with_reducible refine Below.alloc ?_ ?_ _) | (with_reducible refine Below.drew ?_) | (with_reducible refine below_drewN ?_ _) | (with_reducible refine Below.setCell ?_ ?_ _) | (refine bstep (by with_reducible assumption) ?_) | go_size)) _) hg8)
      obtain ⟨k, rfl⟩ := Int.eq_ofNat_of_zero_le hm80
      have hk : k < ys.length := by omega
      (go_wp2_with fail); (refine (pick w.heap.size (_) _ _ (by omega) (Dr.below (B := w8.heap.size) hD8 (by repeat' (first | (with_reducible exact Below.refl _ _) | (with_reducible assumption) | (with_reducible refine Below.alloc ?_ ?_ _) | (with_reducible refine Below.drew ?_) | (with_reducible refine below_drewN ?_ _) | (with_reducible refine Below.setCell ?_ ?_ _) | (refine bstep (by with_reducible assumption) ?_) | go_size)) (Nat.le_refl _))).mono ?_); (rintro e w9 ⟨m9, rfl, hD9, hg9, hm90, hm91, hm92⟩); (obtain ⟨hc9, hf9⟩ := gcell hg9); (have hz9 := hg9.size); (try simp only [World.size_alloc, World.size_setCell, World.size_drew, World.size_drewN] at hz9); (have hG9 : w8.grownBy w9 (some w.heap.size) := gb_trans (gb_of_below (by repeat' (first | (with_reducible exact Below.refl _ _) | (with_reducible assumption) | (with_reducible refine Below.alloc ?_ ?_ _) | (with_reducible refine Below.drew ?_) | (with_reducible refine below_drewN ?_ _) | (with_reducible refine Below.setCell ?_ ?_ _) | (refine bstep (by with_reducible assumption) ?_) | go_size)) _) hg9)
      have HO9 := Lib.hid ((HO7.out.gbr hG8 (by omega)).gbr hG9 (by omega))
      have hb9 : Below w.heap.size w w9 := below_gb hb (gb_trans (gb_trans hG7' hG8) hG9) (by omega) (Nat.le_refl _)
      clear hc8 hf8 hc9 hf9
      have hcell := HO9.out.cell_at k (by omega)
      have hfr := HO9.out.frozen_at k
      have hkl : (k : Int) < ys.length := by omega
      rw [List.getElem?_map, List.getElem?_eq_getElem hk, Option.map_some] at hcell
      go_wp2
      go_ret
      have h9 : Own (w9.setCell ⟨g, k, none⟩ (.int .i64 m9)) w1.heap.size 3 1 (some ⟨g, 0, none⟩) (ys.set k m9).length c5 (iv (ys.set k m9)) := by
        have h := HO9.out.set_at k (.int .i64 m9)
        rw [List.length_set]
        simpa [iv, List.map_set] using h
      have hl9 : (ys.set k m9).length = ys.length := List.length_set
      rw [← hl9]
      exact .own h9 (by omega) (by repeat' (first | (with_reducible exact Below.refl _ _) | (with_reducible assumption) | (with_reducible refine Below.alloc ?_ ?_ _) | (with_reducible refine Below.drew ?_) | (with_reducible refine below_drewN ?_ _) | (with_reducible refine Below.setCell ?_ ?_ _) | (refine bstep (by with_reducible assumption) ?_) | go_size))
    · go_wp2_with fail
      refine (l20Bytes w.heap.size _ 2 w7 (by omega) hD7 (by unfold I64; omega)).mono ?_
      rintro e w8 ⟨zs, ao8, c8, rfl, hown8, hzl, _, _, hg8⟩
      have HO8 := Lib.hid hown8
      clear hown8
      go_wp2
      go_ret
      exact .own HO8.out (by omega) (below_gb hb (gb_trans hG7' hg8) (by omega) (Nat.le_refl _))

set_option maxRecDepth 100000 in
set_option maxHeartbeats 2000000 in
theorem fnReadEdge (ao : Option Addr) (c b o : Nat) (bs : List Int) (w : World) (ha : At ao b o bs.length) (hin : Bytes w b o bs) (hby : ∀ z ∈ bs, 0 ≤ z ∧ z ≤ 255) (hl : bs.length ≤ c) (hc : c ≤ maxLen) :
    Calls Try.prog 13 #[.slice ao bs.length c] w fun e w' => e = .returned (.bool true) ∧ Below w.heap.size w w' := by
  have hc' := hc
  unfold maxLen at hc'
  by_cases hlen : bs.length ≤ 1048576
  · have hlen2 : ¬ (1048576 : Int) < bs.length := by omega
    go_enter Try.func13, Try.ntmps13
    go_wp2_with fail
    refine (drawReadEdge ao c b o bs w ha hin hby hl hc).mono ?_
    rintro e w1 ⟨xs, ao1, c1, b1, o1, rfl, ha1, hi1, hxl, hb1⟩
    have hz1 := hb1.size
    have HI := Lib.hid (implReadEdge ao1 c1 b1 o1 xs w1 (by simp only [maxLen]; omega) ha1 hi1)
    have hS := fun W (hb : Below w1.heap.size w1 W) => Lib.hid (specReadEdge ao1 c1 b1 o1 xs W (by simp only [maxLen]; omega) ha1 (hi1.below hb (Nat.le_refl _)))
    have HCN := fun x y z (h : readE xs = some (x, y, z)) => Lib.hid (readE_canon h)
    generalize hr : readE xs = r at *
    clear hr
    have HS := Lib.hid hS
    clear hS
    have HC := Lib.hid HCN
    clear HCN
    go_wp2_with fail
    refine HI.out.mono ?_
    rintro e w2 ⟨he2, hb2⟩
    have hz2 := hb2.size
    rcases r with _ | ⟨x, y, z⟩
    · unfold edgeVal at he2
      subst he2
      go_wp2_with fail
      refine (HS.out _ (hb2.alloc (by omega) _)).out.mono ?_
      rintro e w3 ⟨he3, hb3⟩
      unfold edgeVal at he3
      subst he3
      (obtain ⟨hc3, hf3⟩ := bcell hb3); have hz3 := hb3.size; (try simp only [World.size_alloc, World.size_setCell, World.size_drew, World.size_drewN] at hz3); have hl3_0 : w2.heap.size < w3.heap.size := (by omega)
      go_wp2_with (first | (go_at_call 23; refine (alive _).mono ?_; rintro e w7 ⟨rfl, hb7⟩))
      go_ret
      exact ⟨rfl, (by repeat' (first | (with_reducible exact Below.refl _ _) | (with_reducible assumption) | (with_reducible refine Below.alloc ?_ ?_ _) | (with_reducible refine Below.drew ?_) | (with_reducible refine below_drewN ?_ _) | (with_reducible refine Below.setCell ?_ ?_ _) | (refine bstep (by with_reducible assumption) ?_) | go_size))⟩
    · have hed := (HC.out x y z rfl).out
      unfold edgeVal at he2
      subst he2
      go_wp2_with fail
      refine (HS.out _ (hb2.alloc (by omega) _)).out.mono ?_
      rintro e w3 ⟨he3, hb3⟩
      unfold edgeVal at he3
      subst he3
      (obtain ⟨hc3, hf3⟩ := bcell hb3); have hz3 := hb3.size; (try simp only [World.size_alloc, World.size_setCell, World.size_drew, World.size_drewN] at hz3); have hl3_0 : w2.heap.size < w3.heap.size := (by omega)
      go_wp2_with fail
      have HE := fun W => Lib.hid (implEdgeBody x y z W)
      rw [hed] at HE
      refine (HE _).out.mono ?_
      rintro e w4 ⟨ao4, c4, rfl, hown4, hb4⟩
      obtain ⟨b4, o4, ha4, hi4⟩ := hown4.src.ints'
      clear hown4 HE
      go_wp2_with fail
      refine (lawsSameInts ao4 ao1 b4 o4 c4 b1 o1 c1 xs xs w4 (by simp only [maxLen]; omega) (by simp only [maxLen]; omega) ha4 hi4 ha1 (hi1.below (B := w1.heap.size) (by repeat' (first | (with_reducible exact Below.refl _ _) | (with_reducible assumption) | (with_reducible refine Below.alloc ?_ ?_ _) | (with_reducible refine Below.drew ?_) | (with_reducible refine below_drewN ?_ _) | (with_reducible refine Below.setCell ?_ ?_ _) | (refine bstep (by with_reducible assumption) ?_) | go_size)) (Nat.le_refl _))).mono ?_
      rw [decide_eq_true rfl]
      rintro e w5 ⟨rfl, hb5⟩
      go_wp2
      go_ret
      exact ⟨rfl, (by repeat' (first | (with_reducible exact Below.refl _ _) | (with_reducible assumption) | (with_reducible refine Below.alloc ?_ ?_ _) | (with_reducible refine Below.drew ?_) | (with_reducible refine below_drewN ?_ _) | (with_reducible refine Below.setCell ?_ ?_ _) | (refine bstep (by with_reducible assumption) ?_) | go_size))⟩
  · have hlen2 : (1048576 : Int) < bs.length := by omega
    go_enter Try.func13, Try.ntmps13
    go_wp2
    go_ret
    exact ⟨rfl, Below.refl _ _⟩
end Go.Proofs.Ytlanonimjbhjnaa
