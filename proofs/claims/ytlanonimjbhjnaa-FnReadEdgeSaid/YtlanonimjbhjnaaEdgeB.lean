/- Records of edges: EdgeBody, both texts. No statement of the seat is proved here. -/
import Derived.Test.YtlanonimjbhjnaaRows
import Derived.WalkKit
import Derived.WalkSpells
import Derived.WalkLawsBesides
import Derived.Lib.Hide
import Derived.Handy
import Derived.BigQuiet
import Derived.Deep.QuietTactic
import Derived.Test.YtlanonimjbhjnaaLib
import Derived.Test.YtlanonimjbhjnaaOwn
import Derived.Test.YtlanonimjbhjnaaJobs
import Derived.Test.YtlanonimjbhjnaaCodes
import Derived.Test.YtlanonimjbhjnaaCodes2
import Derived.Test.YtlanonimjbhjnaaCodes3
import Derived.Test.YtlanonimjbhjnaaWriter
set_option linter.unusedSimpArgs false
set_option linter.unusedVariables false
namespace Go.Proofs.Ytlanonimjbhjnaa
open Go.RowKit

def fits (n : Int) : Bool := decide (0 ≤ n ∧ n ≤ 1000000)
def edgeB (a b c : Int) : List Int := if fits a && fits b && fits c then enc a ++ enc b ++ enc c else []
theorem bcellB {B : Nat} {W w1 : World} (hb : Below B W w1) : (∀ b o, b < B → w1.cell? ⟨b, o, none⟩ = W.cell? ⟨b, o, none⟩) ∧ (∀ b o, b < B → w1.frozen? ⟨b, o, none⟩ = W.frozen? ⟨b, o, none⟩) :=
  ⟨fun b o h => hb.cell (p := ⟨b, o, none⟩) h, fun b o h => hb.frozen (p := ⟨b, o, none⟩) h⟩

set_option maxRecDepth 100000 in
set_option maxHeartbeats 1000000 in
theorem implNumberFits (n : Int) (w : World) : Calls Try.prog 61 #[.int .i64 n] w fun e w' => e = .returned (.bool (fits n)) ∧ w = w' := by
  go_enter Try.func61, Try.ntmps61
  go_wp2
  all_goals (go_ret; exact ⟨ret_bool (bool_of_iff (by simp_all [fits] <;> omega)), rfl⟩)

theorem Wr.first (w : World) (T : Nat) : Wr (w.alloc (.cells #[.slice none 0 0] T)) w.heap.size w.heap.size [] :=
  ⟨none, 0, by rw [World.cell?_alloc_at _ _ _ _ rfl]; rfl, frozen_new _ _ _ _, Own.nil_ _ _ _ _, Nat.le_refl _, fun g h => by simp [blk] at h⟩

def SlPost (w : World) (xs : List Int) (e : Ending) (w' : World) : Prop := ∃ ao c, e = .returned (.slice ao xs.length c) ∧ Own w' w.heap.size 3 1 ao xs.length c (iv xs) ∧ Below w.heap.size w w'

set_option maxRecDepth 100000 in
set_option maxHeartbeats 2000000 in
theorem implEdgeBody (a b c : Int) (w : World) : Calls Try.prog 32 #[.agg #[.int .i64 a, .int .i64 b, .int .i64 c]] w (SlPost w (edgeB a b c)) := by
  have fin : ∀ xs, edgeB a b c = xs → ∀ e w', SlPost w xs e w' → SlPost w (edgeB a b c) e w' := fun xs hx e w' h => by rw [hx]; exact h
  have FIN := Lib.hid fin
  clear fin
  by_cases hf : (fits a && fits b && fits c) = true
  · have HE : Hid (edgeB a b c = enc a ++ enc b ++ enc c) := by unfold Hid edgeB; rw [if_pos hf]
    simp only [Bool.and_eq_true] at hf
    obtain ⟨⟨h1, h2⟩, h3⟩ := hf
    have LA := enc_len a
    have LB := enc_len b
    have LC := enc_len c
    have hW0 := Wr.first (w.alloc (.cells #[.int .i64 a, .int .i64 b, .int .i64 c] 47)) 86
    simp only [World.size_alloc] at hW0
    go_enter Try.func32, Try.ntmps32
    go_wp2_with (first | (go_at_call 61; refine (implNumberFits _ _).mono ?_; rintro e w1 ⟨rfl, rfl⟩) | (go_at_call 62; refine (writerPut (w.heap.size + 1) (w.heap.size + 1) [] a _ (by simp) hW0).mono ?_; rintro e w1 ⟨rfl, hW1, hb1⟩; (obtain ⟨hc1, hf1⟩ := bcellB hb1); have hs1 := hb1.size; clear hW0))
    refine (writerPut (w.heap.size + 1) (w.heap.size + 1) _ b _ (by simp; omega) hW1).mono ?_
    rintro e w2 ⟨rfl, hW2, hb2⟩
    obtain ⟨hc2, hf2⟩ := bcellB hb2
    have hs2 := hb2.size
    simp only [World.size_alloc] at hs1
    clear hW1
    go_wp2_with fail
    refine (writerPut (w.heap.size + 1) (w.heap.size + 1) _ c _ (by simp; omega) hW2).mono ?_
    rintro e w3 ⟨rfl, hW3, hb3⟩
    have hs3 := hb3.size
    clear hW2 hc2 hf2 hc1 hf1
    obtain ⟨ao, cc, hc0, hf0, hown, hB, hne⟩ := hW3
    have HO := Lib.hid hown
    clear hown hne
    rw [List.nil_append] at HO hc0
    have HL : Hid (enc a ++ enc b ++ enc c = edgeB a b c) := HE.out.symm
    rw [HL.out] at HO hc0
    clear HE HL
    go_wp2
    go_ret
    exact ⟨ao, cc, rfl, HO.out.mono_ (by omega), (((((Below.refl w.heap.size w).alloc (Nat.le_refl _) _).alloc (by simp) _).trans (hb1.mono (by omega))).trans (hb2.mono (by omega))).trans (hb3.mono (by omega))⟩
  · have HE : Hid (edgeB a b c = []) := by unfold Hid edgeB; rw [if_neg hf]
    cases h1 : fits a
    · have H1 := Lib.hid h1
      have HF := fun w => Lib.hid (implNumberFits a w)
      rw [h1] at HF
      clear h1 hf
      go_enter Try.func32, Try.ntmps32
      go_wp2_with (first | (go_at_call 61; refine (HF _).out.mono ?_; rintro e w1 ⟨rfl, rfl⟩))
      go_ret
      exact FIN.out [] HE.out _ _ ⟨none, 0, rfl, Own.nil_ _ _ _ _, (by repeat' (first | (with_reducible exact Below.refl _ _) | (with_reducible assumption) | (with_reducible refine Below.alloc ?_ ?_ _) | (with_reducible refine Below.drew ?_) | (with_reducible refine below_drewN ?_ _) | (with_reducible refine Below.setCell ?_ ?_ _) | (refine bstep (by with_reducible assumption) ?_) | go_size))⟩
    · cases h2 : fits b
      · have HF := fun w => Lib.hid (implNumberFits a w)
        have HG := fun w => Lib.hid (implNumberFits b w)
        rw [h1] at HF
        rw [h2] at HG
        have HF := Lib.hid HF
        have HG := Lib.hid HG
        clear h1 h2 hf
        go_enter Try.func32, Try.ntmps32
        go_wp2_with fail
        refine (HF.out _).out.mono ?_
        rintro e w1 ⟨rfl, rfl⟩
        go_wp2_with fail
        refine (HG.out _).out.mono ?_
        rintro e w1 ⟨rfl, rfl⟩
        go_wp2
        go_ret
        exact FIN.out [] HE.out _ _ ⟨none, 0, rfl, Own.nil_ _ _ _ _, (by repeat' (first | (with_reducible exact Below.refl _ _) | (with_reducible assumption) | (with_reducible refine Below.alloc ?_ ?_ _) | (with_reducible refine Below.drew ?_) | (with_reducible refine below_drewN ?_ _) | (with_reducible refine Below.setCell ?_ ?_ _) | (refine bstep (by with_reducible assumption) ?_) | go_size))⟩
      · have h3 : fits c = false := by simpa [h1, h2] using hf
        have HF := fun w => Lib.hid (implNumberFits a w)
        have HG := fun w => Lib.hid (implNumberFits b w)
        have HK := fun w => Lib.hid (implNumberFits c w)
        rw [h1] at HF
        rw [h2] at HG
        rw [h3] at HK
        have HF := Lib.hid HF
        have HG := Lib.hid HG
        have HK := Lib.hid HK
        clear h1 h2 h3 hf
        go_enter Try.func32, Try.ntmps32
        go_wp2_with fail
        refine (HF.out _).out.mono ?_
        rintro e w1 ⟨rfl, rfl⟩
        go_wp2_with fail
        refine (HG.out _).out.mono ?_
        rintro e w1 ⟨rfl, rfl⟩
        go_wp2_with fail
        refine (HK.out _).out.mono ?_
        rintro e w1 ⟨rfl, rfl⟩
        go_wp2
        go_ret
        exact FIN.out [] HE.out _ _ ⟨none, 0, rfl, Own.nil_ _ _ _ _, (by repeat' (first | (with_reducible exact Below.refl _ _) | (with_reducible assumption) | (with_reducible refine Below.alloc ?_ ?_ _) | (with_reducible refine Below.drew ?_) | (with_reducible refine below_drewN ?_ _) | (with_reducible refine Below.setCell ?_ ?_ _) | (refine bstep (by with_reducible assumption) ?_) | go_size))⟩

theorem enc_len0 (n : Int) : (((enc n).length : Int) == 0) = !fits n := by
  by_cases h : 0 ≤ n ∧ n ≤ 1000000
  · have := enc_pos h.1 h.2
    rw [show fits n = true by simp [fits, h], Bool.not_true, beq_eq_false_iff_ne]
    omega
  · rw [enc_no (by omega), show fits n = false by simp [fits]; omega]
    rfl

set_option maxRecDepth 100000 in
set_option maxHeartbeats 2000000 in
theorem specEdgeBody (a b c : Int) (w : World) : Calls Try.prog 33 #[.agg #[.int .i64 a, .int .i64 b, .int .i64 c]] w (SlPost w (edgeB a b c)) := by
  have fin : ∀ xs, edgeB a b c = xs → ∀ e w', SlPost w xs e w' → SlPost w (edgeB a b c) e w' := fun xs hx e w' h => by rw [hx]; exact h
  have FIN := Lib.hid fin
  clear fin
  have LA := enc_len a
  have LB := enc_len b
  have LC := enc_len c
  go_enter Try.func33, Try.ntmps33
  go_wp2_with fail
  refine (specEncodeNumber a _).mono ?_
  rintro e w1 ⟨ao1, c1, rfl, hown1, hb1⟩
  have HO1 := Lib.hid (hown1.mono_ (base' := w.heap.size) (by simp))
  clear hown1
  (obtain ⟨hc1, hf1⟩ := bcell hb1); have hz1 := hb1.size; (try simp only [World.size_alloc, World.size_setCell, World.size_drew, World.size_drewN] at hz1); have hl1_0 : w.heap.size < w1.heap.size := (by omega)
  go_wp2_with fail
  refine (specEncodeNumber b _).mono ?_
  rintro e w2 ⟨ao2, c2, rfl, hown2, hb2⟩
  have HO2 := Lib.hid hown2
  clear hown2
  (obtain ⟨hc2, hf2⟩ := bcell hb2); have hz2 := hb2.size; (try simp only [World.size_alloc, World.size_setCell, World.size_drew, World.size_drewN] at hz2); have hl2_0 : w.heap.size < w2.heap.size := (by omega)
  go_wp2_with fail
  refine (specEncodeNumber c _).mono ?_
  rintro e w3 ⟨ao3, c3, rfl, hown3, hb3⟩
  have HO3 := Lib.hid hown3
  clear hown3
  (obtain ⟨hc3, hf3⟩ := bcell hb3); have hz3 := hb3.size; (try simp only [World.size_alloc, World.size_setCell, World.size_drew, World.size_drewN] at hz3); have hl3_0 : w.heap.size < w3.heap.size := (by omega)
  have hA := enc_len0 a
  have hB := enc_len0 b
  have hC := enc_len0 c
  cases h1 : fits a
  · rw [h1] at hA
    have HE : Hid (edgeB a b c = []) := by unfold Hid edgeB; rw [h1]; rfl
    clear hB hC h1
    go_wp2
    go_ret
    exact FIN.out [] HE.out _ _ ⟨_, 0, rfl, (Own.new0 _ _ _ _ (Nat.le_refl _)).mono_ (by omega), (by repeat' (first | (with_reducible exact Below.refl _ _) | (with_reducible assumption) | (with_reducible refine Below.alloc ?_ ?_ _) | (with_reducible refine Below.drew ?_) | (with_reducible refine below_drewN ?_ _) | (with_reducible refine Below.setCell ?_ ?_ _) | (refine bstep (by with_reducible assumption) ?_) | go_size))⟩
  · rw [h1] at hA
    cases h2 : fits b
    · rw [h2] at hB
      have HE : Hid (edgeB a b c = []) := by unfold Hid edgeB; rw [h1, h2]; rfl
      clear hC h1 h2
      go_wp2
      go_ret
      exact FIN.out [] HE.out _ _ ⟨_, 0, rfl, (Own.new0 _ _ _ _ (Nat.le_refl _)).mono_ (by omega), (by repeat' (first | (with_reducible exact Below.refl _ _) | (with_reducible assumption) | (with_reducible refine Below.alloc ?_ ?_ _) | (with_reducible refine Below.drew ?_) | (with_reducible refine below_drewN ?_ _) | (with_reducible refine Below.setCell ?_ ?_ _) | (refine bstep (by with_reducible assumption) ?_) | go_size))⟩
    · rw [h2] at hB
      cases h3 : fits c
      · rw [h3] at hC
        have HE : Hid (edgeB a b c = []) := by unfold Hid edgeB; rw [h1, h2, h3]; rfl
        clear h1 h2 h3
        go_wp2
        go_ret
        exact FIN.out [] HE.out _ _ ⟨_, 0, rfl, (Own.new0 _ _ _ _ (Nat.le_refl _)).mono_ (by omega), (by repeat' (first | (with_reducible exact Below.refl _ _) | (with_reducible assumption) | (with_reducible refine Below.alloc ?_ ?_ _) | (with_reducible refine Below.drew ?_) | (with_reducible refine below_drewN ?_ _) | (with_reducible refine Below.setCell ?_ ?_ _) | (refine bstep (by with_reducible assumption) ?_) | go_size))⟩
      · rw [h3] at hC
        have HE : Hid (edgeB a b c = enc a ++ enc b ++ enc c) := by unfold Hid edgeB; rw [h1, h2, h3]; rfl
        clear h1 h2 h3
        go_wp2_with (first | (at_builtin; refine wp_app _ el_int rfl (.tmp 29) (.tmp 30) rfl w.heap.size rfl ((HO1.out.below_ hb2 (Nat.le_refl _)).below_ hb3 (Nat.le_refl _)) rfl (HO2.out.src.below hb3 (Nat.le_refl _)) (oneCell_iv _) (by simp only [maxLen]; omega) (by omega) (by omega) ?_; intro ao7 c7 w7 hown7 hg7 hat7 hz7; have HO7 := Lib.hid hown7; have HZ7 := Lib.hid hz7; clear hown7 hz7) | (at_builtin; refine wp_app _ el_int rfl (.tmp 31) (.tmp 32) rfl w.heap.size rfl HO7.out rfl (HO3.out.kept_ hg7 (fun g h3 h1 => by have := (HO3.out.lt_ g h3).1; have := (HO1.out.lt_ g h1).2; omega)).src (oneCell_iv _) (by simp only [maxLen]; omega) (by omega) (by have := hg7.size; omega) ?_; intro ao8 c8 w8 hown8 hg8 hat8 hz8; have HO8 := Lib.hid hown8; have HZ8 := Lib.hid hz8; clear hown8 hz8))
        go_ret
        have h8 := HO8.out
        have hl8 : (enc a).length + (enc b).length + (enc c).length = (edgeB a b c).length := by rw [HE.out]; simp only [List.length_append]
        rw [hl8, show iv (enc a) ++ iv (enc b) ++ iv (enc c) = iv (edgeB a b c) by rw [HE.out]; simp] at h8
        have hb7 : Below w.heap.size w w7 := below_grown (by repeat' (first | (with_reducible exact Below.refl _ _) | (with_reducible assumption) | (with_reducible refine Below.alloc ?_ ?_ _) | (with_reducible refine Below.drew ?_) | (with_reducible refine below_drewN ?_ _) | (with_reducible refine Below.setCell ?_ ?_ _) | (refine bstep (by with_reducible assumption) ?_) | go_size)) hg7 (by omega) (fun g hg => (HO1.out.lt_ g hg).1)
        have hb8 : Below w.heap.size w w8 := below_grown hb7 hg8 hb7.size (fun g hg => (HO7.out.lt_ g hg).1)
        exact ⟨ao8, c8, by rw [← hl8]; rfl, h8, hb8⟩
end Go.Proofs.Ytlanonimjbhjnaa
