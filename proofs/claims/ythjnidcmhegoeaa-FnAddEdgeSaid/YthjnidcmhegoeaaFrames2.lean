/- Frames: CheckSum (the model's), FrameOf, both texts. No statement of the seat is proved here. -/
import Derived.Lib.AppendZerosOnto
import Derived.LoopN
import Derived.Lib.SliceRun
import Derived.Test.YthjnidcmhegoeaaRows
import Derived.WalkKit
import Derived.WalkSpells
import Derived.WalkLawsBesides
import Derived.Lib.Hide
import Derived.Handy
import Derived.BigQuiet
import Derived.Deep.QuietTactic
import Derived.Test.YthjnidcmhegoeaaLib
import Derived.Test.YthjnidcmhegoeaaOwn
import Derived.Test.YthjnidcmhegoeaaJobs
import Derived.Test.YthjnidcmhegoeaaCodes3
set_option linter.unusedSimpArgs false
set_option linter.unusedVariables false
namespace Go.Proofs.Ythjnidcmhegoeaa
open Go.RowKit

/-! ## Frames -/
set_option maxRecDepth 100000 in
set_option maxHeartbeats 600000 in
theorem specCheckSum (ao : Option Addr) (b o c : Nat) (xs : List Int) (w : World) (hl : xs.length ≤ maxLen) (ha : At ao b o xs.length) (h : Ints w b o xs) :
    Calls Try.prog 146 #[.slice ao xs.length c] w fun e w' => e = .returned (.int .i64 (sumOf xs)) ∧ w = w' := by
  have hix := ha.ix (c := c) Try.underlying56 sz_int
  cases hv : bytesOk xs
  · go_enter Try.func146, Try.ntmps146
    go_wp2_with (first | (go_at_call 111; refine (specBytesValid ao b o c xs w hl ha h).mono ?_; rw [hv]; rintro e w1 ⟨rfl, rfl⟩))
    go_ret
    exact ⟨ret_int (by simp [sumOf, hv]), rfl⟩
  · have hl2 := bytesOk_len hv
    have HR : Hid (sumOf xs = (xs.drop 0).foldl sumStep 7) := by simp [Hid, sumOf, hv]
    have HV := Lib.hid hv
    clear hv
    go_enter Try.func146, Try.ntmps146
    go_wp2_with fail
    refine (specBytesValid ao b o c xs w hl ha h).mono ?_
    rw [HV.out]
    rintro e w1 ⟨rfl, rfl⟩
    unfold maxLen at hl
    go_wp2
    go_loop [3, 4] (fun s i => ∃ (k : Nat) (t : Int), k ≤ xs.length ∧ i = .int .i64 k ∧ s = .int .i64 t ∧ 0 ≤ t ∧ t ≤ 250 ∧ Hid (sumOf xs = (xs.drop k).foldl sumStep t)) (fun _ i => xs.length - (intOf i).toNat)
    case atStart => exact ⟨0, 7, Nat.zero_le _, rfl, rfl, by omega, by omega, HR⟩
    case round =>
      obtain ⟨k, t, hk, rfl, rfl, ht0, ht1, HP⟩ := hrel
      clear HR
      by_cases hlt : k < xs.length
      · have hc := h k hlt
        have HD : Hid (xs.drop k = xs[k] :: xs.drop (k + 1)) := List.drop_eq_getElem_cons hlt
        obtain ⟨hb0, hb1⟩ := bytesOk_get HV.out k hlt
        go_wp2
        go_round
        case rel => exact ⟨k + 1, sumStep t xs[k], by omega, by go_num, rfl, (sumStep_bd _ _).1, (sumStep_bd _ _).2, by have h1 := HP.out; rw [HD.out, List.foldl_cons] at h1; exact h1⟩
        case measure => simp [intOf]; omega
      · go_wp2
        go_ret
        exact ⟨ret_int (by rw [HP.out, List.drop_of_length_le (by omega)]; rfl), rfl⟩

def bodyOk (xs : List Int) : Bool := bytesOk xs && decide (1 ≤ xs.length) && decide (xs.length ≤ 100)
def frameOf (xs : List Int) : List Int := if bodyOk xs then (xs.length : Int) :: xs ++ [sumOf xs] else []
theorem frame_len (xs : List Int) : (frameOf xs).length ≤ 102 := by
  unfold frameOf
  split
  · rename_i h
    simp [bodyOk] at h
    simp; omega
  · simp
theorem frame_pos {xs : List Int} (h : bodyOk xs = true) : (frameOf xs).length = xs.length + 2 := by
  unfold frameOf
  rw [if_pos h]
  simp

set_option maxRecDepth 100000 in
set_option maxHeartbeats 600000 in
theorem implBodyValid (ao : Option Addr) (b o c : Nat) (xs : List Int) (w : World) (hl : xs.length ≤ maxLen) (ha : At ao b o xs.length) (h : Ints w b o xs) :
    Calls Try.prog 133 #[.slice ao xs.length c] w fun e w' => e = .returned (.bool (bodyOk xs)) ∧ w = w' := by
  have hl' := hl
  unfold maxLen at hl'
  cases hv : bytesOk xs
  all_goals
    have HV := Lib.hid hv
    have HB := Lib.hid (implBytesValid ao b o c xs w hl ha h)
    rw [hv] at HB
    clear hv
    by_cases h1 : 1 ≤ xs.length
    · by_cases h2 : xs.length ≤ 100
      · have i1 : (1 : Int) ≤ xs.length := by omega
        have i2 : (xs.length : Int) ≤ 100 := by omega
        have d1 : decide ((1 : Int) ≤ xs.length) = true := by simp; omega
        have d2 : decide ((xs.length : Int) ≤ 100) = true := by simp; omega
        go_enter Try.func133, Try.ntmps133
        go_wp2_with (first | (go_at_call 93; refine HB.out.mono ?_; rintro e w1 ⟨rfl, rfl⟩))
        go_ret
        exact ⟨ret_bool (by simp [bodyOk, HV.out, h1, h2]), rfl⟩
      · have i1 : (1 : Int) ≤ xs.length := by omega
        have i2 : ¬ (xs.length : Int) ≤ 100 := by omega
        have i3 : (100 : Int) < xs.length := by omega
        go_enter Try.func133, Try.ntmps133
        go_wp2_with (first | (go_at_call 93; refine HB.out.mono ?_; rintro e w1 ⟨rfl, rfl⟩))
        go_ret
        exact ⟨ret_bool (by simp [bodyOk, HV.out, h1, h2]), rfl⟩
    · have i1 : ¬ (1 : Int) ≤ xs.length := by omega
      have i3 : (xs.length : Int) < 1 := by omega
      go_enter Try.func133, Try.ntmps133
      go_wp2_with (first | (go_at_call 93; refine HB.out.mono ?_; rintro e w1 ⟨rfl, rfl⟩))
      go_ret
      exact ⟨ret_bool (by simp [bodyOk, h1]), rfl⟩
/-! ## Frames2 -/
/-- n numbers can be read from the address ao on. -/
abbrev Sl (w : World) (ao : Option Addr) (xs : List Int) : Prop := Src w ao xs.length 1 (iv xs)
theorem Sl.nil (w : World) (ao : Option Addr) : Sl w ao [] := Src.empty _ _ _
theorem Own.sl {w : World} {base n c : Nat} {ao : Option Addr} {xs : List Int} (h : Own w base 3 1 ao n c (iv xs)) : Sl w ao xs := by
  have hn : n = xs.length := by have := h.length_; simp at this; omega
  subst hn
  exact h.src

theorem Own.take_ {w : World} {base E size n c m : Nat} {ao : Option Addr} {cs : List Value} (h : Own w base E size ao n c cs) (hm : m ≤ n) : Own w base E size ao m c (cs.take (m * size)) := by
  have hle : m * size ≤ n * size := Nat.mul_le_mul_right _ hm
  have hl := h.1
  refine ⟨by rw [List.length_take]; omega, ?_⟩
  rcases h.2 with ⟨hv, hn⟩ | ⟨g, cap, cur, hv, hg, hh, hnc, hcm, hcs, ht⟩
  · simp at hv
    exact .inl ⟨by simp [hv]; omega, by omega⟩
  · simp at hv
    refine .inr ⟨g, cap, cur, by simp [hv], hg, hh, by omega, hcm, hcs, ?_⟩
    rw [← ht, List.take_take, Nat.min_eq_left hle]

/-- What a function leaves that hands back numbers in memory of its own. -/
def SlP (w : World) (xs : List Int) (e : Ending) (w' : World) : Prop :=
  ∃ ao c, e = .returned (.slice ao xs.length c) ∧ Own w' w.heap.size 3 1 ao xs.length c (iv xs) ∧ Below w.heap.size w w'

set_option maxRecDepth 100000 in
set_option maxHeartbeats 600000 in
theorem sliceClone (ao : Option Addr) (c : Nat) (xs : List Int) (w : World) (hl : xs.length ≤ 1048576) (h : Src w ao xs.length 1 (iv xs)) (hz : ao = none → c = 0) :
    Calls Try.prog 117 #[.slice ao xs.length c] w fun e w' => ∃ ao' c', e = .returned (.slice ao' xs.length c') ∧ Own w' w.heap.size 3 1 ao' xs.length c' (iv xs) ∧ Below w.heap.size w w' ∧ (ao' = none ↔ ao = none) := by
  cases ao with
  | none =>
    have hx : xs = [] := by
      rcases Nat.eq_zero_or_pos xs.length with h0 | h0
      · exact List.eq_nil_of_length_eq_zero h0
      · obtain ⟨b, o, h1, _⟩ := h.2 h0; cases h1
    subst hx
    obtain rfl := hz rfl
    have hq := fun (W : World) (n c : Nat) => Lib.run_eql_slice_nil (P := Try.prog) W 56 3 none n c 0 0 Try.underlying56
    go_enter Try.func117, Try.ntmps117
    go_wp2
    go_ret
    exact ⟨none, 0, rfl, Own.nil_ _ _ _ _, Below.refl _ _, by simp⟩
  | some a =>
    have HS := Lib.hid h
    clear h hz
    have hq := fun (W : World) (n c : Nat) => Lib.run_eql_slice_nil (P := Try.prog) W 56 3 (some a) n c 0 0 Try.underlying56
    go_enter Try.func117, Try.ntmps117
    go_wp2_with (first | (at_builtin; refine wp_app _ el_int rfl _ _ rfl w.heap.size rfl (Own.new0 _ _ _ _ (Nat.le_refl _)) rfl (HS.out.alloc _) (oneCell_iv _) (by simp only [maxLen]; omega) (by omega) (by simp) ?_; intro ao1 c1 w1 hown1 hg1 hat1 hz1))
    go_ret
    refine ⟨ao1, c1, by rfl, by simpa using hown1, ((Below.refl _ _).alloc (Nat.le_refl _) _).grown hg1 (by simp) (by intro g hg; simp [blk] at hg; omega), ?_⟩
    rw [hz1]; simp


theorem own_cap {E G : Nat} (w : World) (X : Array Value) (hX : X.size = G) (hG : G ≤ maxLen) : Own (w.alloc (.cells X E)).drew w.heap.size E 1 (some ⟨w.heap.size, 0, none⟩) 0 G [] :=
  ⟨by simp, .inr ⟨w.heap.size, G, X, rfl, Nat.le_refl _, heap_alloc_new w _, Nat.zero_le _, hG, by omega, by simp⟩⟩

set_option maxRecDepth 100000 in
set_option maxHeartbeats 1000000 in
theorem sliceGrow (n : Nat) (w : World) (hn : n ≤ 4194304) :
    Calls Try.prog 149 #[.slice none 0 0, .int .i64 n] w fun e w' => ∃ ao c, e = .returned (.slice ao 0 c) ∧ Own w' w.heap.size 3 1 ao 0 c [] ∧ Below w.heap.size w w' := by
  by_cases h0 : n = 0
  · subst h0
    go_enter Try.func149, Try.ntmps149
    go_wp2
    go_ret
    exact ⟨none, 0, rfl, Own.nil_ _ _ _ _, Below.refl _ _⟩
  · obtain ⟨i, hi, hz, hsz, hby⟩ := (el_int).info
    have hp : (0 : Int) < n := by omega
    have hold : (Builtin.firstCells i.size 0 (.slice none 0 0)).run Try.prog w.drew = .ok (([] : List Value)).toArray w.drew := by
      rw [hsz]; exact run_firstCells_none w.drew 1 0 0 0
    have hf : Builtin.nextslicecap (0 + n) 0 * i.bytes ≤ 281474976710656 := by
      rw [hby]; exact growslice_fits (by omega) (by omega)
    have hr := fun ty => Lib.run_append_grow_zeros (P := Try.prog) w 56 3 ty 3 i (.int .i64 0) .i64 .i64 Try.underlying56 Try.underlying3 hi hz none 0 0 [] hold n (by omega) (by rw [hsz]; omega) (by omega) (by omega) (by rw [hby]; omega) hf
    rw [Nat.zero_add] at hr
    have hG1 : n ≤ grownCap w n 0 3 := grownCap_ge w _ _ _
    have hG2 := grownCap_le_maxLen w n 0 3 (by unfold maxLen; omega)
    generalize grownCap w n 0 3 = G at *
    have hGm : G ≤ 9223372036854775807 := by unfold maxLen at hG2; omega
    have HG := Lib.hid hG2
    clear hold hf hi hz hsz hby hG2
    go_enter Try.func149, Try.ntmps149
    go_wp2_with (at_builtin; refine Lib.wpList_append_run _ rfl _ _ _ _ rfl _ _ rfl rfl _ _ (hr _) ?_)
    all_goals
      go_ret
      refine ⟨_, _, rfl, ?_, ?_⟩
      · exact own_cap _ _ (by simp [Builtin.zeroCells, show (Value.int IntKind.i64 0).cells = #[.int .i64 0] from rfl]; try omega) HG.out
      · exact (by repeat' (first | (with_reducible exact Below.refl _ _) | (with_reducible assumption) | (with_reducible refine Below.alloc ?_ ?_ _) | (with_reducible refine Below.drew ?_) | (with_reducible refine below_drewN ?_ _) | (with_reducible refine Below.setCell ?_ ?_ _) | (refine bstep (by with_reducible assumption) ?_) | (refine bstep2 (by with_reducible assumption) (by first | omega | (simp; done) | (simp; omega)) ?_) | go_size))

theorem sz_ints (w : World) : (sizeOf 56).run Try.prog w = .ok 1 w := by kernel_rfl

set_option maxRecDepth 100000 in
set_option maxHeartbeats 1000000 in
theorem sliceConcat (B : Nat) (a1 a2 : Option Addr) (c1 c2 : Nat) (xs ys : List Int) (w : World) (hx : xs.length ≤ 1048576) (hy : ys.length ≤ 1048576) (h1 : Sl w a1 xs) (h2 : Sl w a2 ys)
    (hc1 : w.cell? ⟨B, 0, none⟩ = some (.slice a1 xs.length c1)) (hc2 : w.cell? ⟨B, 1, none⟩ = some (.slice a2 ys.length c2)) :
    Calls Try.prog 138 #[.slice (some ⟨B, 0, none⟩) 2 2] w (SlP w (xs ++ ys)) := by
  have hBw := World.block_lt_of_cell? w _ hc1
  have H1 := Lib.hid h1
  have H2 := Lib.hid h2
  clear h1 h2
  have hs := sz_ints
  go_enter Try.func138, Try.ntmps138
  go_wp2
  refine wp_loop_rounds 3 ?_
  rw [rounds_succ]
  go_wp2
  rw [rounds_succ]
  go_wp2
  rw [rounds_succ]
  go_wp2_with fail
  refine (sliceGrow (xs.length + ys.length) _ (by omega)).mono ?_
  rintro e w1 ⟨ao1, k1, rfl, hown1, hb1⟩
  have hc1' := (hb1.cell (p := ⟨B, 0, none⟩) hBw).trans hc1
  have hc2' := (hb1.cell (p := ⟨B, 1, none⟩) hBw).trans hc2
  have hz1 := hb1.size
  have C2 := Lib.hid hc2
  clear hc1 hc2
  go_wp2
  have O1 := Lib.hid hown1
  clear hown1
  refine wp_loop_rounds 3 ?_
  rw [rounds_succ]
  go_wp2_with (first | (at_builtin; refine wp_app _ el_int rfl (.tmp 31) (.tmp 32) rfl w.heap.size rfl O1.out rfl (H1.out.below hb1 (Nat.le_refl _)) (oneCell_iv _) (by simp only [maxLen]; omega) (by omega) (by omega) ?_; intro ao2 k2 w2 hown2 hg2 hat2 hz2))
  have hb2 : Below w.heap.size w w2 := hb1.grown hg2 hb1.size (fun g hg => (O1.out.lt_ g hg).1)
  have hzz2 := hg2.size
  rw [Nat.zero_add, List.nil_append] at hown2
  have hc3 := (hb2.cell (p := ⟨B, 1, none⟩) hBw).trans C2.out
  clear hc1' hc2'
  rw [rounds_succ]
  go_wp2_with (first | (at_builtin; refine wp_app _ el_int rfl (.tmp 31) (.tmp 32) rfl w.heap.size rfl hown2 rfl (H2.out.below hb2 (Nat.le_refl _)) (oneCell_iv _) (by simp only [maxLen]; omega) (by omega) (by omega) ?_; intro ao3 k3 w3 hown3 hg3 hat3 hz3))
  have hb3 : Below w.heap.size w w3 := hb2.grown hg3 hb2.size (fun g hg => (hown2.lt_ g hg).1)
  have O3 := Lib.hid hown3
  clear hown3 hown2
  rw [rounds_succ]
  go_wp2
  go_ret
  refine ⟨ao3, k3, by rw [List.length_append]; simp, ?_, hb3⟩
  have h := O3.out
  simpa [iv] using h

end Go.Proofs.Ythjnidcmhegoeaa
