/- The reader from which the laws draw their inputs. No statement of the seat is proved here. -/
import Derived.Test.YtlanonimjbhjnaaRows
import Derived.WalkKit
import Derived.WalkSpells
import Derived.WalkLawsBesides
import Derived.Lib.Hide
import Derived.Handy
import Derived.BigQuiet
import Derived.Deep.QuietTactic
import Derived.Test.YtlanonimjbhjnaaLib
import Derived.Test.YtlanonimjbhjnaaOwn
import Derived.Test.YtlanonimjbhjnaaJobs
import Derived.Test.YtlanonimjbhjnaaCodes
import Derived.Test.YtlanonimjbhjnaaCodes2
set_option linter.unusedSimpArgs false
set_option linter.unusedVariables false
namespace Go.Proofs.Ytlanonimjbhjnaa
open Go.RowKit

theorem sz_u8 (w : World) : (sizeOf 5).run Try.prog w = .ok 1 w := by kernel_rfl

theorem ofInt_i64 (a : Nat) (ha : a < 9223372036854775808) : (BitVec.ofInt 64 (a : Int)).toNat = a := by
  rw [BitVec.ofInt_natCast, BitVec.toNat_ofNat]; exact Nat.mod_eq_of_lt (by omega)
theorem i64_xor_nat (a b : Nat) (ha : a < 9223372036854775808) (hb : b < 9223372036854775808) : bits .xor .i64 (a : Int) (b : Int) = ((a ^^^ b : Nat) : Int) := by
  have hx : a ^^^ b < 2 ^ 63 := Nat.xor_lt_two_pow (by omega) (by omega)
  show IntKind.i64.wrap ((BitVec.ofInt 64 (a : Int) ^^^ BitVec.ofInt 64 (b : Int)).toNat : Int) = _
  rw [BitVec.toNat_xor, ofInt_i64 a ha, ofInt_i64 b hb, IntKind.wrap_i64]
  omega
/-- A reader of draws in block rb, that stands at most at place N. -/
def Dr (w : World) (rb N : Nat) : Prop := ∃ (ao : Option Addr) (c b o : Nat) (bs : List Int) (p : Nat), Rdr w rb (.slice ao bs.length c) (p : Int) ∧ p ≤ N ∧ At ao b o bs.length ∧ Bytes w b o bs ∧
  (∀ z ∈ bs, 0 ≤ z ∧ z ≤ 255) ∧ bs.length ≤ 2000 ∧ (bs = [] ∨ b < rb)
theorem Dr.lt {w : World} {rb N : Nat} (h : Dr w rb N) : rb < w.heap.size := by
  obtain ⟨_, _, _, _, _, _, hR, _⟩ := h
  exact hR.lt
theorem Dr.below {w w' : World} {rb N B : Nat} (h : Dr w rb N) (hb : Below B w w') (hB : w.heap.size ≤ B) : Dr w' rb N := by
  have hlt := h.lt
  obtain ⟨ao, c, b, o, bs, p, hR, hp, ha, hin, h2, h3, h4⟩ := h
  exact ⟨ao, c, b, o, bs, p, hR.below hb (by omega), hp, ha, hin.keep (keeps_below hb hB), h2, h3, h4⟩
theorem Dr.gbg {w w' : World} {rb N g : Nat} (h : Dr w rb N) (hg : w.grownBy w' (some g)) (hr : rb < g) : Dr w' rb N := by
  have hlt := h.lt
  obtain ⟨ao, c, b, o, bs, p, ⟨h0, h1, h2⟩, hp, ha, hin, h3, h4, h5⟩ := h
  exact ⟨ao, c, b, o, bs, p, ⟨(gb_cell hg hlt (by omega)).trans h0, (gb_cell hg hlt (by omega)).trans h1, (World.frozen?_of_block (a := ⟨rb, 1, none⟩) (hg.block rb hlt (fun e => by simp at e; omega))).trans h2⟩, hp, ha,
    hin.grown hg (h5.imp id (fun h => by omega)), h3, h4, h5⟩
theorem Dr.set {w : World} {rb N : Nat} (h : Dr w rb N) {p : Addr} (u : Value) (hr : rb < p.block) : Dr (w.setCell p u) rb N := h.gbg (gb_set (gb_refl w (some p.block)) (.inl rfl) u) hr
theorem Dr.alloc {w : World} {rb N : Nat} (h : Dr w rb N) (o : Obj) : Dr (w.alloc o) rb N := h.below ((Below.refl _ _).alloc (Nat.le_refl _) o) (Nat.le_refl _)
theorem Dr.drewN {w : World} {rb N : Nat} (h : Dr w rb N) (m : Nat) : Dr (w.drewN m) rb N := h.below (below_drewN (Below.refl w.heap.size w) m) (Nat.le_refl _)
theorem Dr.drew {w : World} {rb N : Nat} (h : Dr w rb N) : Dr w.drew rb N := h.below (Below.drew (Below.refl w.heap.size w)) (Nat.le_refl _)
theorem Dr.gbg2 {w w' : World} {rb N g : Nat} (hg : w.grownBy w' (some g)) (h : Dr w rb N) (hr : rb < g) : Dr w' rb N := h.gbg hg hr
theorem Dr.below2 {w w' : World} {rb N B : Nat} (hb : Below B w w') (h : Dr w rb N) (hB : w.heap.size ≤ B) : Dr w' rb N := h.below hb hB
theorem Dr.mono {w : World} {rb N M : Nat} (h : Dr w rb N) (hM : N ≤ M) : Dr w rb M := by
  obtain ⟨ao, c, b, o, bs, p, hR, hp, r⟩ := h
  exact ⟨ao, c, b, o, bs, p, hR, by omega, r⟩

def PickPost (w : World) (rb N : Nat) (n : Int) (e : Ending) (w' : World) : Prop :=
  ∃ m : Int, e = .returned (.int .i64 m) ∧ Dr w' rb (N + 1) ∧ w.grownBy w' (some rb) ∧ 0 ≤ m ∧ (m < n ∨ m = 0) ∧ (m < n ∨ n < 1)

set_option maxRecDepth 100000 in
set_option maxHeartbeats 1000000 in
theorem pick (rb N : Nat) (n : Int) (w : World) (hN : N ≤ 1000000) (hD : Dr w rb N) :
    Calls Try.prog 60 #[.pointer (some ⟨rb, 0, none⟩), .int .i64 n] w (PickPost w rb N n) := by
  obtain ⟨ao, c, b, o, bs, p, hR, hp, ha, hin, hby, hl, hne⟩ := hD
  obtain ⟨hc0, hc1, hf1⟩ := hR
  have hix := ha.ix (c := c) Try.underlying38 sz_u8
  have hR2 : ∀ m, Rdr ((w.setCell ⟨rb, 1, none⟩ (.int .i64 ((p : Int) + 1))).drewN m) rb (.slice ao bs.length c) ((p + 1 : Nat) : Int) := fun m => Rdr.set ⟨hc0, hc1, hf1⟩ _ m
  have hg2 : ∀ m, w.grownBy ((w.setCell ⟨rb, 1, none⟩ (.int .i64 ((p : Int) + 1))).drewN m) (some rb) := fun m => gb_drewN (gb_set (gb_refl _ _) (.inl rfl) _) m
  have hD2 : ∀ m, Dr ((w.setCell ⟨rb, 1, none⟩ (.int .i64 ((p : Int) + 1))).drewN m) rb (N + 1) := fun m => ⟨ao, c, b, o, bs, p + 1, hR2 m, by omega, ha, hin.grown (hg2 m) (hne.imp id (fun h => by omega)), hby, hl, hne⟩
  have HF : Hid (∀ (v : Int) m, 0 ≤ v → (v < n ∨ v = 0) → (v < n ∨ n < 1) → PickPost w rb N n (.returned (.int .i64 v)) ((w.setCell ⟨rb, 1, none⟩ (.int .i64 ((p : Int) + 1))).drewN m)) := fun v m h1 h2 h3 => ⟨v, rfl, hD2 m, hg2 m, h1, h2, h3⟩
  clear hR2 hg2 hD2
  by_cases hn : n < 1
  · go_enter Try.func60, Try.ntmps60
    go_wp2
    go_ret
    exact HF.out 0 0 (by omega) (.inr rfl) (.inr hn)
  · by_cases h0 : bs.length = 0
    · have hlb0 : ((bs.length : Int) == 0) = true := by simp [h0]
      clear h0
      go_enter Try.func60, Try.ntmps60
      go_wp2
      go_ret
      exact HF.out 0 0 (by omega) (.inr rfl) (.inl (by omega))
    · have hlb0 : ((bs.length : Int) == 0) = false := by rw [beq_eq_false_iff_ne]; omega
      have hbr : b ≠ rb := by
        rcases hne with h | h
        · subst h; simp at h0
        · omega
      by_cases hk : p < bs.length
      · have hcb := hin p hk
        obtain ⟨hz0, hz1⟩ := hby bs[p] (List.getElem_mem hk)
        rw [List.getD_eq_getElem?_getD, List.getElem?_eq_getElem hk, Option.getD_some] at hcb
        generalize bs[p] = z at *
        go_enter Try.func60, Try.ntmps60
        go_wp2
        go_ret
        exact HF.out (z % n) 0 (Int.emod_nonneg _ (by omega)) (.inl (Int.emod_lt_of_pos _ (by omega))) (.inl (Int.emod_lt_of_pos _ (by omega)))
      · have hm1 : p % bs.length < bs.length := Nat.mod_lt _ (by omega)
        have hm2 : (p * 7 + 3) % bs.length < bs.length := Nat.mod_lt _ (by omega)
        have hcb1 := hin _ hm1
        have hcb2 := hin _ hm2
        obtain ⟨hz0, hz1⟩ := hby _ (List.getElem_mem hm1)
        obtain ⟨hy0, hy1⟩ := hby _ (List.getElem_mem hm2)
        rw [List.getD_eq_getElem?_getD, List.getElem?_eq_getElem hm1, Option.getD_some] at hcb1
        rw [List.getD_eq_getElem?_getD, List.getElem?_eq_getElem hm2, Option.getD_some] at hcb2
        generalize bs[p % bs.length] = z at *
        generalize bs[(p * 7 + 3) % bs.length] = y at *
        have hq0 : p / bs.length ≤ p := Nat.div_le_self _ _
        have e1 : (p : Int).tmod (bs.length : Int) = ((p % bs.length : Nat) : Int) := (Int.ofNat_tmod p bs.length).symm
        have e2 : ((p : Int) * 7 + 3).tmod (bs.length : Int) = (((p * 7 + 3) % bs.length : Nat) : Int) := (Int.ofNat_tmod (p * 7 + 3) bs.length).symm
        have e3 : (p : Int).tdiv (bs.length : Int) = ((p / bs.length : Nat) : Int) := (Int.ofNat_tdiv p bs.length).symm
        have e1' : (p : Int) % (bs.length : Int) = ((p % bs.length : Nat) : Int) := rfl
        have e2' : ((p : Int) * 7 + 3) % (bs.length : Int) = (((p * 7 + 3) % bs.length : Nat) : Int) := rfl
        have e3' : (p : Int) / (bs.length : Int) = ((p / bs.length : Nat) : Int) := rfl
        generalize p % bs.length = r1 at *
        generalize (p * 7 + 3) % bs.length = r2 at *
        generalize p / bs.length = q at *
        have w1 : IntKind.i64.wrap ((p : Int) * 7) = (p : Int) * 7 := IntWalk.i64_in _ (by omega)
        have w2 : IntKind.i64.wrap ((p : Int) * 7 + 3) = (p : Int) * 7 + 3 := IntWalk.i64_in _ (by omega)
        have w3 : IntKind.i64.wrap (z * 131) = z * 131 := IntWalk.i64_in _ (by omega)
        have w4 : IntKind.i64.wrap (y * 1117) = y * 1117 := IntWalk.i64_in _ (by omega)
        have w5 : IntKind.i64.wrap (z * 131 + y * 1117) = z * 131 + y * 1117 := IntWalk.i64_in _ (by omega)
        have w6 : IntKind.i64.wrap ((p : Int) * 29) = (p : Int) * 29 := IntWalk.i64_in _ (by omega)
        have w7 : IntKind.i64.wrap (z * 131 + y * 1117 + (p : Int) * 29) = z * 131 + y * 1117 + (p : Int) * 29 := IntWalk.i64_in _ (by omega)
        have w8 : IntKind.i64.wrap ((q : Int) * 53) = (q : Int) * 53 := IntWalk.i64_in _ (by omega)
        have w9 : IntKind.i64.wrap (z * 131 + y * 1117 + (p : Int) * 29 + (q : Int) * 53) = z * 131 + y * 1117 + (p : Int) * 29 + (q : Int) * 53 := IntWalk.i64_in _ (by omega)
        have i1 : (r1 : Int) < bs.length := by omega
        have i2 : (r2 : Int) < bs.length := by omega
        go_enter Try.func60, Try.ntmps60
        go_wp2
        go_quiet (fail)
        obtain ⟨X, hX⟩ := Int.eq_ofNat_of_zero_le (show 0 ≤ z * 131 + y * 1117 + (p : Int) * 29 + (q : Int) * 53 by omega)
        have hXl : X < 1000000000 := by omega
        rw [hX]
        have hx1 := i64_xor_nat X (X / 64) (by omega) (by omega)
        clear e1 e2 e3 e1' e2' e3' w1 w2 w3 w4 w5 w6 w7 w8 w9 i1 i2 hX hcb1 hcb2
        go_wp2
        go_ret
        have hx2 : (bits .xor .i64 (X : Int) ((X : Int) / 64)).tmod n = ((X ^^^ X / 64 : Nat) : Int) % n := by
          rw [show (X : Int) / 64 = ((X / 64 : Nat) : Int) from rfl, hx1, Int.tmod_eq_emod_of_nonneg (by omega)]
        show PickPost w rb N n (.returned (.int .i64 ((bits .xor .i64 (X : Int) ((X : Int) / 64)).tmod n))) _
        rw [hx2]
        exact HF.out _ _ (Int.emod_nonneg _ (by omega)) (.inl (Int.emod_lt_of_pos _ (by omega))) (.inl (Int.emod_lt_of_pos _ (by omega)))
theorem dr_gb {a w : World} {rb g : Nat} (h : a.grownBy w (some rb)) {w' : World} (k : w.grownBy w' (some g)) (hg : g = rb ∨ a.heap.size ≤ g) : a.grownBy w' (some rb) :=
  ⟨k.os.trans h.os, k.tape.trans h.tape, k.output.trans h.output, Nat.le_trans h.size k.size, fun i hi hne => (k.block i (Nat.lt_of_lt_of_le hi h.size) (fun e => by
    simp at e; rcases hg with hg | hg
    · exact hne (by rw [e, hg])
    · omega)).trans (h.block i hi hne)⟩

theorem tab_cell {w3 : World} {g : Nat} (cs : List Int) {m : Int} (h : ∀ j, w3.cell? ⟨g, j, none⟩ = ((cs.map (Value.int .i64)).toArray)[j]?) (h0 : 0 ≤ m) (h1 : m < cs.length) :
    ∃ v, w3.cell? ⟨g, m.toNat, none⟩ = some (.int .i64 v) ∧ v ∈ cs := by
  have hm : m.toNat < cs.length := by omega
  refine ⟨cs[m.toNat], ?_, List.getElem_mem hm⟩
  rw [h]
  simp [hm]

def OddPost (w : World) (rb N : Nat) (e : Ending) (w' : World) : Prop := ∃ b : Bool, e = .returned (.bool b) ∧ Dr w' rb N ∧ w.grownBy w' (some rb)
set_option maxRecDepth 100000 in
set_option maxHeartbeats 1000000 in
theorem odd (rb N : Nat) (n : Int) (w : World) (hN : N ≤ 1000000) (hD : Dr w rb N) (hn : I64 n) :
    Calls Try.prog 64 #[.pointer (some ⟨rb, 0, none⟩), .int .i64 n] w (OddPost w rb (N + 1)) := by
  unfold I64 at hn
  by_cases h : 0 < n
  · go_enter Try.func64, Try.ntmps64
    go_wp2_with fail
    refine (pick rb N _ _ hN hD).mono ?_
    rintro e w1 ⟨m, rfl, hD1, hg1, hm0, hm1, hm2⟩
    go_wp2
    go_ret
    exact ⟨_, rfl, hD1, hg1⟩
  · go_enter Try.func64, Try.ntmps64
    go_wp2
    go_ret
    exact ⟨_, rfl, hD.mono (by omega), gb_refl _ _⟩

/-- A number is drawn. -/
def IntPost (w : World) (rb N : Nat) (lo hi : Int) (e : Ending) (w' : World) : Prop := ∃ v : Int, e = .returned (.int .i64 v) ∧ lo ≤ v ∧ v ≤ hi ∧ Dr w' rb N ∧ w.grownBy w' (some rb)
set_option maxRecDepth 100000 in
set_option maxHeartbeats 1000000 in
theorem l20Number (rb N : Nat) (w : World) (hN : N ≤ 100000) (hD : Dr w rb N) :
    Calls Try.prog 58 #[.pointer (some ⟨rb, 0, none⟩)] w (IntPost w rb (N + 3) (-1) 1000001) := by
  have hrb := hD.lt
  go_enter Try.func58, Try.ntmps58
  go_wp2_with fail
  refine (pick rb (N) _ _ (by omega) (Dr.below (B := w.heap.size) hD (by repeat' (first | (with_reducible exact Below.refl _ _) | (with_reducible assumption) | (with_reducible refine Below.alloc ?_ ?_ _) | (with_reducible refine Below.drew ?_) | (with_reducible refine below_drewN ?_ _) | (with_reducible refine Below.setCell ?_ ?_ _) | (refine bstep (by with_reducible assumption) ?_) | go_size)) (Nat.le_refl _))).mono ?_
  rintro e w1 ⟨m1, rfl, hD1, hg1, hm10, hm11, hm12⟩
  obtain ⟨hc1, hf1⟩ := gcell hg1
  have hz1 := hg1.size; try simp only [World.size_alloc, World.size_setCell, World.size_drew, World.size_drewN] at hz1
  have hG1 : w.grownBy w1 (some rb) := gb_trans (gb_of_below (by repeat' (first | (with_reducible exact Below.refl _ _) | (with_reducible assumption) | (with_reducible refine Below.alloc ?_ ?_ _) | (with_reducible refine Below.drew ?_) | (with_reducible refine below_drewN ?_ _) | (with_reducible refine Below.setCell ?_ ?_ _) | (refine bstep (by with_reducible assumption) ?_) | go_size)) _) hg1
  go_wp2_with fail
  refine (pick rb (N + 1) _ _ (by omega) (Dr.below (B := w1.heap.size) hD1 (by repeat' (first | (with_reducible exact Below.refl _ _) | (with_reducible assumption) | (with_reducible refine Below.alloc ?_ ?_ _) | (with_reducible refine Below.drew ?_) | (with_reducible refine below_drewN ?_ _) | (with_reducible refine Below.setCell ?_ ?_ _) | (refine bstep (by with_reducible assumption) ?_) | go_size)) (Nat.le_refl _))).mono ?_
  rintro e w2 ⟨m2, rfl, hD2, hg2, hm20, hm21, hm22⟩
  obtain ⟨hc2, hf2⟩ := gcell hg2
  have hz2 := hg2.size; try simp only [World.size_alloc, World.size_setCell, World.size_drew, World.size_drewN] at hz2
  have hG2 : w1.grownBy w2 (some rb) := gb_trans (gb_of_below (by repeat' (first | (with_reducible exact Below.refl _ _) | (with_reducible assumption) | (with_reducible refine Below.alloc ?_ ?_ _) | (with_reducible refine Below.drew ?_) | (with_reducible refine below_drewN ?_ _) | (with_reducible refine Below.setCell ?_ ?_ _) | (refine bstep (by with_reducible assumption) ?_) | go_size)) _) hg2
  go_wp2_with fail
  refine (pick rb (N + 1 + 1) _ _ (by omega) (Dr.below (B := w2.heap.size) hD2 (by repeat' (first | (with_reducible exact Below.refl _ _) | (with_reducible assumption) | (with_reducible refine Below.alloc ?_ ?_ _) | (with_reducible refine Below.drew ?_) | (with_reducible refine below_drewN ?_ _) | (with_reducible refine Below.setCell ?_ ?_ _) | (refine bstep (by with_reducible assumption) ?_) | go_size)) (Nat.le_refl _))).mono ?_
  rintro e w3 ⟨m3, rfl, hD3, hg3, hm30, hm31, hm32⟩
  obtain ⟨hc3, hf3⟩ := gcell hg3
  have hz3 := hg3.size; try simp only [World.size_alloc, World.size_setCell, World.size_drew, World.size_drewN] at hz3
  have hG3 : w2.grownBy w3 (some rb) := gb_trans (gb_of_below (by repeat' (first | (with_reducible exact Below.refl _ _) | (with_reducible assumption) | (with_reducible refine Below.alloc ?_ ?_ _) | (with_reducible refine Below.drew ?_) | (with_reducible refine below_drewN ?_ _) | (with_reducible refine Below.setCell ?_ ?_ _) | (refine bstep (by with_reducible assumption) ?_) | go_size)) _) hg3
  obtain ⟨k, hk, hk2⟩ := tab_cell (w3 := w3) (g := w2.heap.size + 1) [0, 0, 1, 1, 2, 3, 4, 5, 6, 7, 8] (m := m3) (fun j => by rw [hc3 _ _ (by simp only [World.size_alloc]; omega) (by omega)]; simp [go_sem]) hm30 (by simp; omega)
  have hk3 : 0 ≤ k ∧ k ≤ 8 := by simp at hk2; omega
  obtain ⟨v, hv, hv2⟩ := tab_cell (w3 := w3) (g := w2.heap.size) [m1, m2 * 3900, 127, 128, 16383, 16384, 1000000, 1000001, -1] (m := k) (fun j => by rw [hc3 _ _ (by simp only [World.size_alloc]; omega) (by omega)]; simp [go_sem]) hk3.1 (by simp; omega)
  have hv3 : -1 ≤ v ∧ v ≤ 1000001 := by simp at hv2; omega
  clear hk2 hv2 hc1 hc2 hc3 hf1 hf2 hf3
  go_wp2
  go_ret
  exact ⟨v, rfl, hv3.1, hv3.2, hD3, gb_trans (gb_trans hG1 hG2) hG3⟩

/-! ### the reader itself -/
set_option maxRecDepth 100000 in
set_option maxHeartbeats 1000000 in
theorem l20Open (ao : Option Addr) (c b o : Nat) (bs : List Int) (w : World) (ha : At ao b o bs.length) (hin : Bytes w b o bs) (hby : ∀ z ∈ bs, 0 ≤ z ∧ z ≤ 255) (hl : bs.length ≤ c) (hc : c ≤ maxLen) :
    Calls Try.prog 56 #[.slice ao bs.length c] w fun e w' => e = .returned (.pointer (some ⟨w.heap.size, 0, none⟩)) ∧ Dr w' w.heap.size 0 ∧ Below w.heap.size w w' := by
  unfold maxLen at hc
  by_cases h : bs.length ≤ 2000
  · have h' : ¬ (2000 : Int) < bs.length := by omega
    go_enter Try.func56, Try.ntmps56
    go_wp2
    go_ret
    refine ⟨rfl, ⟨ao, c, b, o, bs, 0, Rdr.new _ _ _ _, Nat.le_refl _, ha, hin.keep (keeps_alloc _ _), hby, h, ?_⟩, (by repeat' (first | (with_reducible exact Below.refl _ _) | (with_reducible assumption) | (with_reducible refine Below.alloc ?_ ?_ _) | (with_reducible refine Below.drew ?_) | (with_reducible refine below_drewN ?_ _) | (with_reducible refine Below.setCell ?_ ?_ _) | (refine bstep (by with_reducible assumption) ?_) | go_size))⟩
    rcases Nat.eq_zero_or_pos bs.length with h0 | h0
    · exact .inl (List.eq_nil_of_length_eq_zero h0)
    · exact .inr (hin.lt h0)
  · have h' : (2000 : Int) < bs.length := by omega
    have hb := hin.lt (by omega)
    have ha2 : ao = some ⟨b, o, none⟩ := ha.resolve_left (by omega)
    have htl : (bs.take 2000).length = 2000 := by rw [List.length_take]; omega
    subst ha2
    go_enter Try.func56, Try.ntmps56
    go_wp2
    go_ret
    have hne : ¬ c = 0 := by omega
    refine ⟨rfl, ⟨some ⟨b, o, none⟩, c, b, o, bs.take 2000, 0, by rw [htl]; exact Rdr.new _ _ _ _, Nat.le_refl _, .mk _ _ _, ?_, fun z hz => hby z (List.mem_of_mem_take hz), by omega, .inr hb⟩, (by repeat' (first | (with_reducible exact Below.refl _ _) | (with_reducible assumption) | (with_reducible refine Below.alloc ?_ ?_ _) | (with_reducible refine Below.drew ?_) | (with_reducible refine below_drewN ?_ _) | (with_reducible refine Below.setCell ?_ ?_ _) | (refine bstep (by with_reducible assumption) ?_) | go_size))⟩
    intro i hi
    rw [htl] at hi
    have h1 := hin i (by omega)
    rw [World.cell?_alloc_lt _ _ _ (World.block_lt_of_cell? w _ h1), h1]
    simp [List.getD, List.getElem?_take, hi]

set_option maxRecDepth 100000 in
set_option maxHeartbeats 1000000 in
theorem drawEncodeNumber (ao : Option Addr) (c b o : Nat) (bs : List Int) (w : World) (ha : At ao b o bs.length) (hin : Bytes w b o bs) (hby : ∀ z ∈ bs, 0 ≤ z ∧ z ≤ 255) (hl : bs.length ≤ c) (hc : c ≤ maxLen) :
    Calls Try.prog 24 #[.slice ao bs.length c] w fun e w' => ∃ v : Int, e = .returned (.int .i64 v) ∧ -1 ≤ v ∧ v ≤ 1000001 ∧ Below w.heap.size w w' := by
  go_enter Try.func24, Try.ntmps24
  go_wp2_with fail
  refine (l20Open ao c b o bs w ha hin hby hl hc).mono ?_
  rintro e w1 ⟨rfl, hD, hb⟩
  go_wp2_with fail
  refine (l20Number w.heap.size 0 w1 (by omega) hD).mono ?_
  rintro e w2 ⟨v, rfl, h0, h1, _, hg⟩
  go_wp2
  go_ret
  exact ⟨v, rfl, h0, h1, below_gb hb hg hb.size (Nat.le_refl _)⟩
end Go.Proofs.Ytlanonimjbhjnaa
