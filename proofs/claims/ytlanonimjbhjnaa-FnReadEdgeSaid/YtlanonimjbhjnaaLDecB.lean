/- The law FnDecodeNumber, walked. -/
import Derived.Deep.RegionHeld3
import Derived.Test.YtlanonimjbhjnaaRows
import Derived.WalkKit
import Derived.WalkSpells
import Derived.WalkLawsBesides
import Derived.Lib.Hide
import Derived.Handy
import Derived.BigQuiet
import Derived.Deep.QuietTactic
import Derived.Test.YtlanonimjbhjnaaLib
import Derived.Test.YtlanonimjbhjnaaOwn
import Derived.Test.YtlanonimjbhjnaaJobs
import Derived.Test.YtlanonimjbhjnaaCodes
import Derived.Test.YtlanonimjbhjnaaCodes2
import Derived.Test.YtlanonimjbhjnaaCodes3
import Derived.Test.YtlanonimjbhjnaaDraw
import Derived.Test.YtlanonimjbhjnaaDrawJob
import Derived.Test.YtlanonimjbhjnaaDrawBytes
set_option linter.unusedSimpArgs false
set_option linter.unusedVariables false
namespace Go.Proofs.Ytlanonimjbhjnaa
open Go.RowKit

theorem Own.take_ {w : World} {base E size n c g : Nat} {cs : List Value} (h : Own w base E size (some ⟨g, 0, none⟩) n c cs) (m : Nat) (hm : m ≤ n) : Own w base E size (some ⟨g, 0, none⟩) m c (cs.take (m * size)) := by
  obtain ⟨hl, h⟩ := h
  have hms : m * size ≤ n * size := Nat.mul_le_mul_right _ hm
  refine ⟨by rw [List.length_take]; omega, ?_⟩
  rcases h with ⟨hv, _⟩ | ⟨g', cap, cur, hv, hb, hh, hnc, hcm, hcs, htk⟩
  · simp at hv
  · simp at hv
    obtain ⟨rfl, rfl⟩ := hv
    exact .inr ⟨g, c, cur, rfl, hb, hh, by omega, hcm, hcs, by rw [← htk, List.take_take, Nat.min_eq_left hms]⟩

theorem enc1 {n a : Int} (h : n = a) (h0 : 0 ≤ a) (h1 : a < 128) : enc n = [a] := by
  subst h
  unfold enc
  rw [if_neg (by omega), if_pos (by omega)]
theorem enc2 {n a b : Int} (h : n = a - 128 + b * 128) (h0 : 128 ≤ a) (h1 : a ≤ 255) (h2 : 0 < b) (h3 : b < 128) : enc n = [a, b] := by
  unfold enc
  rw [if_neg (by omega), if_neg (by omega), if_pos (by omega), show n % 128 + 128 = a by omega, show n / 128 = b by omega]
theorem enc3 {n a b c : Int} (h : n = a - 128 + (b - 128) * 128 + c * 16384) (h0 : 128 ≤ a) (h1 : a ≤ 255) (h2 : 128 ≤ b) (h3 : b ≤ 255) (h4 : 0 < c) (h5 : n ≤ 1000000) : enc n = [a, b, c] := by
  unfold enc
  rw [if_neg (by omega), if_neg (by omega), if_neg (by omega), show n % 128 + 128 = a by omega, show n / 128 % 128 + 128 = b by omega, show n / 128 / 128 = c by omega]
theorem dec_canon {l : List Int} {n : Int} {k : Nat} (hb : ∀ z ∈ l, 0 ≤ z ∧ z ≤ 255) (h : dec l = some (n, k)) : l.take k = enc n ∧ k ≤ l.length ∧ 0 < k ∧ 0 ≤ n ∧ n ≤ 1000000 := by
  unfold dec at h
  rcases l with _ | ⟨a, l⟩
  · simp [decF] at h
  have ha := hb a (by simp)
  simp only [decF] at h
  by_cases h1 : 128 ≤ a
  · rw [if_pos h1] at h
    rcases l with _ | ⟨b, l⟩
    · simp [decF] at h
    have hb' := hb b (by simp)
    simp only [decF] at h
    by_cases h2 : 128 ≤ b
    · rw [if_pos h2] at h
      rcases l with _ | ⟨c, l⟩
      · simp [decF] at h
      have hc := hb c (by simp)
      simp only [decF] at h
      by_cases h3 : 128 ≤ c
      · rw [if_pos h3] at h; cases h
      rw [if_neg h3] at h
      split at h
      · cases h
      · split at h
        · injection h with h
          injection h with h4 h5
          subst h5
          rename_i hz hle
          refine ⟨?_, by simp, by omega, by omega, by omega⟩
          rw [enc3 (a := a) (b := b) (c := c) (by omega) h1 (by omega) h2 (by omega) (by omega) (by omega)]
          simp
        · cases h
    · rw [if_neg h2] at h
      split at h
      · cases h
      · split at h
        · injection h with h
          injection h with h4 h5
          subst h5
          rename_i hz hle
          refine ⟨?_, by simp, by omega, by omega, by omega⟩
          rw [enc2 (a := a) (b := b) (by omega) h1 (by omega) (by omega) (by omega)]
          simp
        · cases h
  · rw [if_neg h1] at h
    split at h
    · cases h
    · split at h
      · injection h with h
        injection h with h4 h5
        subst h5
        refine ⟨?_, by simp, by omega, by omega, by omega⟩
        rw [enc1 (a := a) (by omega) (by omega) (by omega)]
        simp
      · cases h

def DecPost (w : World) (e : Ending) (w' : World) : Prop :=
  ∃ (xs : List Int) (ao : Option Addr) (c : Nat) (i : Int), e = .returned (.tuple #[.slice ao xs.length c, .int .i64 i]) ∧ Own w' w.heap.size 3 1 ao xs.length c (iv xs) ∧ xs.length ≤ 2010 ∧ -1 ≤ i ∧ i ≤ 2010 ∧ Below w.heap.size w w'
set_option maxRecDepth 100000 in
set_option maxHeartbeats 2000000 in
theorem drawDecodeNumber (ao : Option Addr) (c b o : Nat) (bs : List Int) (w : World) (ha : At ao b o bs.length) (hin : Bytes w b o bs) (hby : ∀ z ∈ bs, 0 ≤ z ∧ z ≤ 255) (hl : bs.length ≤ c) (hc : c ≤ maxLen) :
    Calls Try.prog 34 #[.slice ao bs.length c] w (DecPost w) := by
  go_enter Try.func34, Try.ntmps34
  go_wp2_with fail
  refine (l20Open ao c b o bs _ ha hin hby hl hc).mono ?_
  rintro e w1 ⟨rfl, hD, hb⟩
  have hz1 := hb.size
  have hrb := hD.lt
  go_wp2_with fail
  refine (l20Bytes w.heap.size 0 12 w1 (by omega) hD (by unfold I64; omega)).mono ?_
  rintro e w2 ⟨xs, ao2, c2, rfl, hown2, hxl, hxs, hD2, hg2⟩
  have hz2 := hg2.size
  have HO2 := Lib.hid (hown2)
  clear hown2
  go_wp2_with fail
  refine (l20Number w.heap.size _ w2 (by omega) hD2).mono ?_
  rintro e w3 ⟨n, rfl, hn0, hn1, hD3, hg3⟩
  have hz3 := hg3.size
  have HO3 := Lib.hid (HO2.out.gbr hg3 (by omega))
  go_wp2_with fail
  refine (specEncodeNumber n w3).mono ?_
  rintro e w4 ⟨ao4, c4, rfl, hown4, hb4⟩
  have hz4 := hb4.size
  have hel := enc_len n
  have HO4 := Lib.hid hown4
  have HP4 := Lib.hid (HO3.out.below_ hb4 (Nat.le_refl _))
  have hD4 := hD3.below hb4 (Nat.le_refl _)
  have hG4 := gb_below (gb_trans hg2 hg3) hb4 (by omega)
  clear hown4
  go_wp2_with (first | (at_builtin; refine wp_app _ el_int rfl _ _ rfl w1.heap.size rfl HP4.out rfl HO4.out.src (oneCell_iv _) (by simp only [maxLen]; omega) (by omega) (by omega) ?_; intro ao5 c5 w5 hown5 hg5 hat5 hz5))
  have hD5 := hD4.gbo hg5 (fun g hg => by have := (HP4.out.lt_ g hg).1; omega)
  have hG5 : w1.grownBy w5 (some w.heap.size) := gb_own hG4 hg5 (fun g hg => (HP4.out.lt_ g hg).1)
  have HY : Hid (iv xs ++ iv (enc n) = iv (xs ++ enc n) ∧ xs.length + (enc n).length = (xs ++ enc n).length) := by simp [Hid]
  rw [HY.out.1, HY.out.2] at hown5
  have hyl : (xs ++ enc n).length ≤ 2004 := by rw [← HY.out.2]; omega
  have HL := Lib.hid HY.out.2
  rw [HL.out]
  have hxl2 : (xs.length : Int) ≤ 2010 := by omega
  clear HY HL hxs hn0 hn1 hel HO2 HO3 HO4 HP4 hG4 hD4 hD3 hD2 hg3 hg2 hb4
  generalize xs ++ enc n = ys at *
  generalize xs.length = N at *
  have hz5 := hg5.size
  have HO5 := Lib.hid hown5
  clear hown5 hg5
  go_wp2_with fail
  refine (odd w.heap.size _ 3 w5 (by omega) hD5 (by unfold I64; omega)).mono ?_
  rintro e w6 ⟨bb, rfl, hD6, hg6⟩
  have hz6 := hg6.size
  have HO6 := Lib.hid (HO5.out.gbr hg6 (by omega))
  have hG6 := gb_trans hG5 hg6
  cases bb
  rotate_left 1
  go_wp2_with fail
  refine (pick w.heap.size _ 14 w6 (by omega) hD6).mono ?_
  rintro e w7 ⟨m7, rfl, hDx, hg7, hm70, hm71, hm72⟩
  have hzx := hg7.size
  have HOx := Lib.hid (HO6.out.gbr hg7 (by omega))
  have hGx := gb_trans hG6 hg7
  have hix : -1 ≤ m7 - 1 ∧ m7 - 1 ≤ 2010 := by omega
  rotate_left 1
  have hDx := hD6
  have hzx := hz6
  have HOx := HO6
  have hGx := hG6
  have hix : -1 ≤ (N : Int) ∧ (N : Int) ≤ 2010 := by omega
  all_goals
    go_wp2_with fail
    refine (odd w.heap.size _ 6 _ (by omega) hDx (by unfold I64; omega)).mono ?_
    rintro e w8 ⟨bb, rfl, hD8, hg8⟩
    have hz8 := hg8.size
    have HO8 := Lib.hid (HOx.out.gbr hg8 (by omega))
    have hG8 := gb_trans hGx hg8
    have hb8 : Below w.heap.size w w8 := below_gb hb hG8 (by omega) (Nat.le_refl _)
    cases bb
    · go_wp2
      go_ret2
      exact ⟨ys, _, _, _, rfl, HO8.out.mono_ (by omega), by omega, hix.1, hix.2, hb8⟩
    · by_cases h0 : 0 < ys.length
      · obtain ⟨g, hag, hgl, _⟩ := HO8.out.form_.resolve_left (by rintro ⟨_, h, _⟩; omega)
        have hcap := HO8.out.cap_
        subst hag
        have HT := Lib.hid (HO8.out.take_ (ys.length - 1) (by omega))
        go_wp2_with (first | (at_builtin; refine wp_app _ el_int rfl _ _ rfl w1.heap.size rfl (HT.out.alloc_ _) rfl (Src.new _ _ _ 2 rfl) (by simp [Value.oneCell']) (by simp only [maxLen]; omega) (by omega) (by simp; omega) ?_; intro ao9 c9 w9 hown9 hg9 hat9 hz9))
        go_ret2
        have hlen : (ys.take (ys.length - 1) ++ [128, 0]).length = ys.length - 1 + 2 := by simp
        refine ⟨ys.take (ys.length - 1) ++ [128, 0], ao9, c9, _, by rw [hlen]; rfl, ?_, by omega, hix.1, hix.2, (hb8.alloc (by omega) _).grown hg9 (by simp; omega) (fun k hk => by simp [blk] at hk; omega)⟩
        rw [hlen]
        have h9 := hown9.mono_ (base' := w.heap.size) (by omega)
        simpa [iv, List.map_take] using h9
      · go_wp2
        go_ret2
        exact ⟨ys, _, _, _, rfl, HO8.out.mono_ (by omega), by omega, hix.1, hix.2, hb8⟩

theorem Ints.sub {w : World} {b o : Nat} {xs : List Int} (h : Ints w b o xs) (I m : Nat) (hm : I + m ≤ xs.length) : Ints w b (o + I) ((xs.drop I).take m) := by
  intro k hk
  rw [List.length_take, List.length_drop] at hk
  have h1 := h (I + k) (by omega)
  rw [show o + I + k = o + (I + k) by omega, h1]
  simp [List.getD, List.getElem?_take, show k < m by omega]
theorem decAt_canon {xs : List Int} {i n j : Int} (h : decAt xs i = some (n, j)) : 0 ≤ i ∧ i < j ∧ j ≤ xs.length ∧ (xs.drop i.toNat).take (j.toNat - i.toNat) = enc n := by
  unfold decAt at h
  split at h
  · rename_i hc
    obtain ⟨h1, h2, h3⟩ := hc
    cases hd : dec (xs.drop i.toNat) with
    | none => rw [hd] at h; cases h
    | some p =>
      obtain ⟨m, k⟩ := p
      rw [hd] at h
      simp at h
      obtain ⟨rfl, rfl⟩ := h
      have hb : ∀ z ∈ xs.drop i.toNat, 0 ≤ z ∧ z ≤ 255 := fun z hz => by
        obtain ⟨q, hq, rfl⟩ := List.getElem_of_mem (List.mem_of_mem_drop hz)
        exact bytesOk_get h1 q hq
      obtain ⟨c1, c2, c3, c4, c5⟩ := dec_canon hb hd
      rw [List.length_drop] at c2
      refine ⟨h2, by omega, by omega, ?_⟩
      rw [show (i + (k : Int)).toNat - i.toNat = k by omega]
      exact c1
  · cases h

set_option maxRecDepth 100000 in
set_option maxHeartbeats 2000000 in
theorem fnDecodeNumber (ao : Option Addr) (c b o : Nat) (bs : List Int) (w : World) (ha : At ao b o bs.length) (hin : Bytes w b o bs) (hby : ∀ z ∈ bs, 0 ≤ z ∧ z ≤ 255) (hl : bs.length ≤ c) (hc : c ≤ maxLen) :
    Calls Try.prog 10 #[.slice ao bs.length c] w fun e w' => e = .returned (.bool true) ∧ Below w.heap.size w w' := by
  have hc' := hc
  unfold maxLen at hc'
  by_cases hlen : bs.length ≤ 1048576
  · have hlen2 : ¬ (1048576 : Int) < bs.length := by omega
    go_enter Try.func10, Try.ntmps10
    go_wp2_with fail
    refine (drawDecodeNumber ao c b o bs w ha hin hby hl hc).mono ?_
    rintro e w1 ⟨xs, ao1, c1, i, rfl, hown1, hxl, hi0, hi1, hb1⟩
    have hcap := hown1.cap_
    unfold maxLen at hcap
    obtain ⟨b1, o1, ha1, hi1'⟩ := hown1.src.ints'
    have HO1 := Lib.hid hown1
    clear hown1
    have hD := Lib.hid (implDecodeNumber ao1 c1 b1 o1 xs i w1 (by simp only [maxLen]; omega) ha1 hi1')
    have hS := fun W (hb : Below w1.heap.size w1 W) => Lib.hid (specDecodeNumber ao1 c1 b1 o1 xs i W (by simp only [maxLen]; omega) ha1 (hi1'.below hb (Nat.le_refl _)))
    have HCN := fun n j (h : decAt xs i = some (n, j)) => Lib.hid (decAt_canon h)
    generalize hr : decAt xs i = r at *
    clear hr
    have HS := Lib.hid hS
    clear hS
    have HC := Lib.hid HCN
    clear HCN
    go_wp2_with fail
    refine hD.out.mono ?_
    rcases r with _ | ⟨n, j⟩
    · unfold decVal
      rintro e w2 ⟨rfl, hb2⟩
      go_wp2_with fail
      refine (HS.out w2 hb2).out.mono ?_
      unfold decVal
      rintro e w3 ⟨rfl, rfl⟩
      go_wp2_with (first | (go_at_call 23; refine (alive _).mono ?_; rintro e w7 ⟨rfl, hb7⟩))
      go_ret
      exact ⟨rfl, (by repeat' (first | (with_reducible exact Below.refl _ _) | (with_reducible assumption) | (with_reducible refine Below.alloc ?_ ?_ _) | (with_reducible refine Below.drew ?_) | (with_reducible refine below_drewN ?_ _) | (with_reducible refine Below.setCell ?_ ?_ _) | (refine bstep (by with_reducible assumption) ?_) | go_size))⟩
    · obtain ⟨k0, k1, k2, k3⟩ := (HC.out n j rfl).out
      obtain ⟨I, rfl⟩ := Int.eq_ofNat_of_zero_le k0
      obtain ⟨J, rfl⟩ := Int.eq_ofNat_of_zero_le (show 0 ≤ j by omega)
      have k1' : I < J := by omega
      have k2' : J ≤ xs.length := by omega
      have K3 := Lib.hid k3
      clear k3
      unfold decVal
      rintro e w2 ⟨rfl, hb2⟩
      go_wp2_with fail
      refine (HS.out w2 hb2).out.mono ?_
      unfold decVal
      rintro e w3 ⟨rfl, rfl⟩
      go_wp2_with fail
      have HE := Lib.hid (fun W => implEncodeNumber n W)
      have hel := enc_len n
      have a1 : ao1 = some ⟨b1, o1, none⟩ := ha1.resolve_left (by omega)
      subst a1
      have hIJ : (I : Int) < (J : Int) := by omega
      have hJL : (J : Int) ≤ xs.length := by omega
      have hI0 : (0 : Int) ≤ (I : Int) := by omega
      have hsub := hi1'.sub I (J - I) (by omega)
      have k4 : (xs.drop I).take (J - I) = enc n := by simpa using K3.out
      rw [k4] at hsub
      have hJI : (enc n).length = J - I := by rw [← k4, List.length_take, List.length_drop]; omega
      clear k4
      have HQ : Hid (∀ (ao5 : Option Addr) (b5 o5 c5 : Nat) (W : World), At ao5 b5 o5 (enc n).length → Ints W b5 o5 (enc n) → Ints W b1 (o1 + I) (enc n) →
          Calls Try.prog 26 #[.slice ao5 (enc n).length c5, .slice (some ⟨b1, o1 + I, none⟩) (J - I) (c1 - I)] W fun e w' => e = .returned (.bool true) ∧ Below W.heap.size W w') := by
        intro ao5 b5 o5 c5 W h1 h2 h3
        rw [← hJI]
        exact (lawsSameInts ao5 (some ⟨b1, o1 + I, none⟩) b5 o5 c5 b1 (o1 + I) (c1 - I) (enc n) (enc n) W (by simp only [maxLen]; omega) (by simp only [maxLen]; omega) h1 h2 (.mk _ _ _) h3).mono (by rw [decide_eq_true rfl]; exact fun e w' h => h)
      have HSB := Lib.hid hsub
      clear hsub hJI
      have f1 : (I : Int) ≤ (J : Int) := by omega
      have f2 : (J : Int) ≤ (c1 : Int) := by omega
      have f3 : I ≤ J := by omega
      have f4 : J ≤ c1 := by omega
      have f5 : (I : Int) ≤ (c1 : Int) := by omega
      have f6 : ¬ (c1 : Int) < (J : Int) := by omega
      have f7 : ¬ (J : Int) < (I : Int) := by omega
      have f8 : (0 : Int) ≤ (J : Int) := by omega
      go_region_held3 (fun _ => True) (exact trivial) (first | (go_at_call 25; refine (HE.out _).mono ?_; rintro e w5 ⟨ao5, c5, rfl, hown5, hb5, hz5⟩; have HZ5 := Lib.hid hz5; clear hz5; obtain ⟨b5, o5, ha5, hi5⟩ := hown5.src.ints'; clear hown5) | (go_at_call 26; refine (HQ.out _ b5 o5 _ _ ha5 hi5 (HSB.out.below (B := w1.heap.size) (by repeat' (first | (with_reducible exact Below.refl _ _) | (with_reducible assumption) | (with_reducible refine Below.alloc ?_ ?_ _) | (with_reducible refine Below.drew ?_) | (with_reducible refine below_drewN ?_ _) | (with_reducible refine Below.setCell ?_ ?_ _) | (refine bstep (by with_reducible assumption) ?_) | go_size)) (Nat.le_refl _))).mono ?_; rintro e w6 ⟨rfl, hb6⟩))
      all_goals
        go_wp2
        go_ret
        exact ⟨rfl, (by repeat' (first | (with_reducible exact Below.refl _ _) | (with_reducible assumption) | (with_reducible refine Below.alloc ?_ ?_ _) | (with_reducible refine Below.drew ?_) | (with_reducible refine below_drewN ?_ _) | (with_reducible refine Below.setCell ?_ ?_ _) | (refine bstep (by with_reducible assumption) ?_) | go_size))⟩
  · have hlen2 : (1048576 : Int) < bs.length := by omega
    go_enter Try.func10, Try.ntmps10
    go_wp2
    go_ret
    exact ⟨rfl, Below.refl _ _⟩
end Go.Proofs.Ytlanonimjbhjnaa