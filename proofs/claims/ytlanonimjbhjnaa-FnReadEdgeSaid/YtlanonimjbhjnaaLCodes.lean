/- The laws on numbers as bytes, walked: FnEncodeNumber, FnCodesJoin. -/
import Derived.Test.YtlanonimjbhjnaaRows
import Derived.WalkKit
import Derived.WalkSpells
import Derived.WalkLawsBesides
import Derived.Lib.Hide
import Derived.Handy
import Derived.BigQuiet
import Derived.Deep.QuietTactic
import Derived.Test.YtlanonimjbhjnaaLib
import Derived.Test.YtlanonimjbhjnaaOwn
import Derived.Test.YtlanonimjbhjnaaJobs
import Derived.Test.YtlanonimjbhjnaaCodes
import Derived.Test.YtlanonimjbhjnaaCodes2
import Derived.Test.YtlanonimjbhjnaaCodes3
import Derived.Test.YtlanonimjbhjnaaDraw
set_option linter.unusedSimpArgs false
set_option linter.unusedVariables false
namespace Go.Proofs.Ytlanonimjbhjnaa
open Go.RowKit

theorem dec_enc {n : Int} (h0 : 0 ≤ n) (h1 : n ≤ 1000000) (r : List Int) : dec (enc n ++ r) = some (n, (enc n).length) := by
  unfold enc dec
  rw [if_neg (by omega)]
  split
  · simp [decF]
    rw [if_neg (by omega), if_pos h1]
  · split
    · simp only [List.cons_append, List.nil_append, decF]
      rw [if_pos (by omega), if_neg (by omega), if_neg (by omega), if_pos (by omega)]
      simp; omega
    · simp only [List.cons_append, List.nil_append, decF]
      rw [if_pos (by omega), if_pos (by omega), if_neg (by omega), if_neg (by omega), if_pos (by omega)]
      simp; omega
theorem enc_bytes (n : Int) : ∀ z ∈ enc n, 0 ≤ z ∧ z ≤ 255 := by
  unfold enc
  split
  · simp
  · split
    · intro z hz; simp at hz; omega
    · split
      · intro z hz; simp at hz; omega
      · intro z hz; simp at hz; omega
theorem bytesOk_of {l : List Int} (h : ∀ z ∈ l, 0 ≤ z ∧ z ≤ 255) (hl : l.length ≤ 2000) : bytesOk l = true := by
  simp [bytesOk, hl, byteOk]
  intro z hz
  exact h z hz
theorem decAt_enc {n : Int} (h0 : 0 ≤ n) (h1 : n ≤ 1000000) : decAt (enc n) 0 = some (n, ((enc n).length : Int)) := by
  have hp := enc_pos h0 h1
  have := enc_len n
  have h := decAt_yes (i := 0) (bytesOk_of (enc_bytes n) (by omega)) hp
  rw [List.drop_zero] at h
  have h2 := dec_enc h0 h1 []
  rw [List.append_nil] at h2
  rw [h2] at h
  simpa using h

set_option maxRecDepth 100000 in
set_option maxHeartbeats 1000000 in
theorem fnEncodeNumber (ao : Option Addr) (c b o : Nat) (bs : List Int) (w : World) (ha : At ao b o bs.length) (hin : Bytes w b o bs) (hby : ∀ z ∈ bs, 0 ≤ z ∧ z ≤ 255) (hl : bs.length ≤ c) (hc : c ≤ maxLen) :
    Calls Try.prog 7 #[.slice ao bs.length c] w fun e w' => e = .returned (.bool true) ∧ Below w.heap.size w w' := by
  have hc' := hc
  unfold maxLen at hc'
  by_cases hlen : bs.length ≤ 1048576
  · have hlen2 : ¬ (1048576 : Int) < bs.length := by omega
    go_enter Try.func7, Try.ntmps7
    go_wp2_with fail
    refine (drawEncodeNumber ao c b o bs w ha hin hby hl hc).mono ?_
    rintro e w1 ⟨n, rfl, hn0, hn1, hb1⟩
    go_wp2_with fail
    refine (implEncodeNumber n w1).mono ?_
    rintro e w2 ⟨ao2, c2, rfl, hown2, hb2, hz2⟩
    obtain ⟨b2, o2, ha2, hi2⟩ := hown2.src.ints'
    have hz2 := Lib.hid hz2
    clear hown2
    go_wp2_with fail
    refine (specEncodeNumber n w2).mono ?_
    rintro e w3 ⟨ao3, c3, rfl, hown3, hb3⟩
    obtain ⟨b3, o3, ha3, hi3⟩ := hown3.src.ints'
    clear hown3
    have hel := enc_len n
    go_wp2_with fail
    refine (lawsSameInts ao2 ao3 b2 o2 c2 b3 o3 c3 (enc n) (enc n) w3 (by simp only [maxLen]; omega) (by simp only [maxLen]; omega) ha2 (hi2.below hb3 (Nat.le_refl _)) ha3 hi3).mono ?_
    rw [decide_eq_true rfl]
    rintro e w4 ⟨rfl, hb4⟩
    by_cases hn : 0 ≤ n ∧ n ≤ 1000000
    · have hp := enc_pos hn.1 hn.2
      have hD := Lib.hid (implDecodeNumber ao2 c2 b2 o2 (enc n) 0 w4 (by simp only [maxLen]; omega) ha2 ((hi2.below hb3 (Nat.le_refl _)).below hb4 (Nat.le_refl _)))
      rw [decAt_enc hn.1 hn.2] at hD
      have hp0 : (((enc n).length : Int) == 0) = false := by rw [beq_eq_false_iff_ne]; omega
      generalize (enc n).length = L at *
      go_wp2_with fail
      refine hD.out.mono ?_
      unfold decVal
      rintro e w5 ⟨rfl, hb5⟩
      go_wp2
      go_ret
      exact ⟨ret_bool (by simp; try omega), (by repeat' (first | (with_reducible exact Below.refl _ _) | (with_reducible assumption) | (with_reducible refine Below.alloc ?_ ?_ _) | (with_reducible refine Below.drew ?_) | (with_reducible refine below_drewN ?_ _) | (with_reducible refine Below.setCell ?_ ?_ _) | (refine bstep (by with_reducible assumption) ?_) | go_size))⟩
    · have he := Lib.hid (enc_no (m := n) (by omega))
      have hp0 : (((enc n).length : Int) == 0) = true := by rw [he.out]; rfl
      generalize (enc n).length = L at *
      go_wp2_with (first | (go_at_call 23; refine (alive _).mono ?_; rintro e w5 ⟨rfl, hb5⟩))
      all_goals
        go_ret
        exact ⟨ret_bool (by simp; try omega), (by repeat' (first | (with_reducible exact Below.refl _ _) | (with_reducible assumption) | (with_reducible refine Below.alloc ?_ ?_ _) | (with_reducible refine Below.drew ?_) | (with_reducible refine below_drewN ?_ _) | (with_reducible refine Below.setCell ?_ ?_ _) | (refine bstep (by with_reducible assumption) ?_) | go_size))⟩
  · have hlen2 : (1048576 : Int) < bs.length := by omega
    go_enter Try.func7, Try.ntmps7
    go_wp2
    go_ret
    exact ⟨rfl, Below.refl _ _⟩

theorem enc_two {a b : Int} (ha0 : 0 ≤ a) (ha1 : a ≤ 1000000) (hb0 : 0 ≤ b) (hb1 : b ≤ 1000000) :
    decAt (enc a ++ enc b) 0 = some (a, ((enc a).length : Int)) ∧ decAt (enc a ++ enc b) ((enc a).length : Int) = some (b, (((enc a).length + (enc b).length : Nat) : Int)) := by
  have hpa := enc_pos ha0 ha1
  have hpb := enc_pos hb0 hb1
  have hla := enc_len a
  have hlb := enc_len b
  have hok : bytesOk (enc a ++ enc b) = true := bytesOk_of (fun z hz => by
    rcases List.mem_append.1 hz with h | h
    · exact enc_bytes a z h
    · exact enc_bytes b z h) (by simp; omega)
  constructor
  · have h := decAt_yes (i := 0) hok (by simp; omega)
    rw [List.drop_zero, dec_enc ha0 ha1] at h
    simpa using h
  · have h := decAt_yes (i := (enc a).length) hok (by simp; omega)
    have h2 := dec_enc hb0 hb1 []
    rw [List.append_nil] at h2
    rw [List.drop_left, h2] at h
    simpa using h

set_option maxRecDepth 100000 in
set_option maxHeartbeats 1000000 in
theorem fnCodesJoin (ao ao' : Option Addr) (c b o c' b' o' : Nat) (bs bs' : List Int) (w : World) (ha : At ao b o bs.length) (hin : Bytes w b o bs) (hby : ∀ z ∈ bs, 0 ≤ z ∧ z ≤ 255) (hl : bs.length ≤ c) (hc : c ≤ maxLen)
    (ha' : At ao' b' o' bs'.length) (hin' : Bytes w b' o' bs') (hby' : ∀ z ∈ bs', 0 ≤ z ∧ z ≤ 255) (hl' : bs'.length ≤ c') (hc' : c' ≤ maxLen) :
    Calls Try.prog 6 #[.slice ao bs.length c, .slice ao' bs'.length c'] w fun e w' => e = .returned (.bool true) ∧ Below w.heap.size w w' := by
  have hm : bs.length ≤ 9223372036854775807 ∧ bs'.length ≤ 9223372036854775807 := by unfold maxLen at hc hc'; omega
  obtain ⟨hm1, hm2⟩ := hm
  by_cases hlen : bs.length ≤ 1048576 ∧ bs'.length ≤ 1048576
  · have hlen2 : ¬ (1048576 : Int) < bs.length := by omega
    have hlen3 : ¬ (1048576 : Int) < bs'.length := by omega
    go_enter Try.func6, Try.ntmps6
    go_wp2_with fail
    refine (drawEncodeNumber ao c b o bs w ha hin hby hl hc).mono ?_
    rintro e w1 ⟨n, rfl, hn0, hn1, hb1⟩
    go_wp2_with fail
    refine (drawEncodeNumber ao' c' b' o' bs' w1 ha' (hin'.keep (keeps_below hb1 (Nat.le_refl _))) hby' hl' hc').mono ?_
    rintro e w2 ⟨m, rfl, hm0, hm1, hb2⟩
    go_wp2_with fail
    refine (implEncodeNumber n w2).mono ?_
    rintro e w3 ⟨ao3, c3, rfl, hown3, hb3, hz3⟩
    obtain ⟨b3, o3, ha3, hi3⟩ := hown3.src.ints'
    have HO3 := Lib.hid hown3
    have hz3 := Lib.hid hz3
    clear hown3
    go_wp2_with fail
    refine (specEncodeNumber n w3).mono ?_
    rintro e w4 ⟨ao4, c4, rfl, hown4, hb4⟩
    obtain ⟨b4, o4, ha4, hi4⟩ := hown4.src.ints'
    clear hown4
    have hel := enc_len n
    have hem := enc_len m
    go_wp2_with fail
    refine (lawsSameInts ao3 ao4 b3 o3 c3 b4 o4 c4 (enc n) (enc n) w4 (by simp only [maxLen]; omega) (by simp only [maxLen]; omega) ha3 (hi3.below hb4 (Nat.le_refl _)) ha4 hi4).mono ?_
    rw [decide_eq_true rfl]
    rintro e w5 ⟨rfl, hb5⟩
    go_wp2_with fail
    refine (implEncodeNumber m w5).mono ?_
    rintro e w6 ⟨ao6, c6, rfl, hown6, hb6, hz6⟩
    have HO6 := Lib.hid hown6
    have hz6 := Lib.hid hz6
    clear hown6
    by_cases hn : 0 ≤ n ∧ n ≤ 1000000
    · have hp := enc_pos hn.1 hn.2
      have hp0 : (((enc n).length : Int) == 0) = false := by rw [beq_eq_false_iff_ne]; omega
      by_cases hmm : 0 ≤ m ∧ m ≤ 1000000
      · have hq := enc_pos hmm.1 hmm.2
        have hq0 : (((enc m).length : Int) == 0) = false := by rw [beq_eq_false_iff_ne]; omega
        have E2 := Lib.hid (enc_two hn.1 hn.2 hmm.1 hmm.2)
        have S3 : Hid (Src w6 ao3 (enc n).length 1 (iv (enc n))) := ((HO3.out.src.below hb4 (Nat.le_refl _)).below hb5 (Nat.le_refl _)).below hb6 (Nat.le_refl _)
        have HN := Lib.hid hz3
        clear hz3 hz6
        go_wp2_with (first | (at_builtin; refine wp_app _ el_int rfl (.tmp 46) (.tmp 47) rfl w6.heap.size rfl (Own.new0 _ _ _ _ (Nat.le_refl _)) rfl (S3.out.alloc _) (oneCell_iv _) (by simp only [maxLen]; omega) (by omega) (by simp) ?_; intro ao7 c7 w7 hown7 hg7 hat7 hz7; rw [Nat.zero_add, List.nil_append] at hown7; have HO7 := Lib.hid hown7; have hb7 : Below w6.heap.size w6 w7 := below_gb ((Below.refl _ _).alloc (Nat.le_refl _) _) hg7 (by simp) (Nat.le_refl _); clear hown7) | (at_builtin; refine wp_app _ el_int rfl (.tmp 48) (.tmp 49) rfl w6.heap.size rfl HO7.out rfl (HO6.out.src.below hb7 (Nat.le_refl _)) (oneCell_iv _) (by simp only [maxLen]; omega) (by omega) hb7.size ?_; intro ao8 c8 w8 hown8 hg8 hat8 hz8; have HO8 := Lib.hid hown8; clear hown8))
        have hb8 : Below w6.heap.size w6 w8 := below_grown hb7 hg8 hb7.size (fun g hg => (HO7.out.lt_ g hg).1)
        have HL : Hid ((enc n).length + (enc m).length = (enc n ++ enc m).length) := by simp [Hid]
        have h8 := HO8.out
        rw [show iv (enc n) ++ iv (enc m) = iv (enc n ++ enc m) by simp] at h8
        obtain ⟨b8, o8, ha8, hi8⟩ := h8.src.ints'
        rw [HL.out] at h8
        have HO9 := Lib.hid h8
        clear h8
        have hD1 := Lib.hid (implDecodeNumber ao8 c8 b8 o8 (enc n ++ enc m) 0 w8 (by simp [maxLen]; omega) ha8 hi8)
        have hD2 := fun W (hb : Below w8.heap.size w8 W) => Lib.hid (implDecodeNumber ao8 c8 b8 o8 (enc n ++ enc m) (((enc n).length : Nat) : Int) W (by simp [maxLen]; omega) ha8 (hi8.below hb (Nat.le_refl _)))
        rw [E2.out.1, ← HL.out] at hD1
        rw [E2.out.2, ← HL.out] at hD2
        have HD2 := Lib.hid hD2
        clear hD2
        refine hD1.out.mono ?_
        unfold decVal
        rintro e w9 ⟨rfl, hb9⟩
        go_wp2_with fail
        refine (HD2.out w9 hb9).out.mono ?_
        unfold decVal
        rintro e w10 ⟨rfl, hb10⟩
        go_wp2
        go_ret
        exact ⟨ret_bool (by simp), (by repeat' (first | (with_reducible exact Below.refl _ _) | (with_reducible assumption) | (with_reducible refine Below.alloc ?_ ?_ _) | (with_reducible refine Below.drew ?_) | (with_reducible refine below_drewN ?_ _) | (with_reducible refine Below.setCell ?_ ?_ _) | (refine bstep (by with_reducible assumption) ?_) | go_size))⟩
      · have he := Lib.hid (enc_no (m := m) (by omega))
        have hq0 : (((enc m).length : Int) == 0) = true := by rw [he.out]; rfl
        have HN := Lib.hid hz3
        clear hz3 hz6
        go_wp2_with (first | (go_at_call 23; refine (alive _).mono ?_; rintro e w7 ⟨rfl, hb7⟩))
        go_ret
        exact ⟨rfl, (by repeat' (first | (with_reducible exact Below.refl _ _) | (with_reducible assumption) | (with_reducible refine Below.alloc ?_ ?_ _) | (with_reducible refine Below.drew ?_) | (with_reducible refine below_drewN ?_ _) | (with_reducible refine Below.setCell ?_ ?_ _) | (refine bstep (by with_reducible assumption) ?_) | go_size))⟩
    · have he := Lib.hid (enc_no (m := n) (by omega))
      have hp0 : (((enc n).length : Int) == 0) = true := by rw [he.out]; rfl
      have HN := Lib.hid hz3
      clear hz3 hz6
      go_wp2_with (first | (go_at_call 23; refine (alive _).mono ?_; rintro e w7 ⟨rfl, hb7⟩))
      go_ret
      exact ⟨rfl, (by repeat' (first | (with_reducible exact Below.refl _ _) | (with_reducible assumption) | (with_reducible refine Below.alloc ?_ ?_ _) | (with_reducible refine Below.drew ?_) | (with_reducible refine below_drewN ?_ _) | (with_reducible refine Below.setCell ?_ ?_ _) | (refine bstep (by with_reducible assumption) ?_) | go_size))⟩
  · by_cases hlen2 : bs.length ≤ 1048576
    · have h1 : ¬ (1048576 : Int) < bs.length := by omega
      have h2 : (1048576 : Int) < bs'.length := by omega
      go_enter Try.func6, Try.ntmps6
      go_wp2
      go_ret
      exact ⟨rfl, Below.refl _ _⟩
    · have h1 : (1048576 : Int) < bs.length := by omega
      go_enter Try.func6, Try.ntmps6
      go_wp2
      go_ret
      exact ⟨rfl, Below.refl _ _⟩
end Go.Proofs.Ytlanonimjbhjnaa
