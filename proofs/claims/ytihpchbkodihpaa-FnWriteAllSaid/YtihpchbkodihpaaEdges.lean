/- Edges as records: writing and reading. No statement of the seat is proved here. -/
import Derived.Test.YtihpchbkodihpaaRows
import Derived.WalkKit
import Derived.WalkSpells
import Derived.WalkLawsBesides
import Derived.Lib.Hide
import Derived.Handy
import Derived.BigQuiet
import Derived.Deep.QuietTactic
import Derived.Test.YtihpchbkodihpaaLib
import Derived.Test.YtihpchbkodihpaaOwn
import Derived.Test.YtihpchbkodihpaaJobs
import Derived.Test.YtihpchbkodihpaaCodes3
set_option linter.unusedSimpArgs false
set_option linter.unusedVariables false
namespace Go.Proofs.Ytihpchbkodihpaa
open Go.RowKit

/-- The edge that a record is. -/
def readE (xs : List Int) : Option (Int × Int × Int) :=
  match decAt xs 0 with
  | some (a, i) => match decAt xs i with
    | some (b, j) => match decAt xs j with
      | some (c, e) => if e = (xs.length : Int) then some (a, b, c) else none
      | none => none
    | none => none
  | none => none
def edgeVal : Option (Int × Int × Int) → Value
  | some (a, b, c) => .tuple #[.agg #[.int .i64 a, .int .i64 b, .int .i64 c], .bool true]
  | none => .tuple #[.agg #[.int .i64 0, .int .i64 0, .int .i64 0], .bool false]

def EdgePost (w : World) (r : Option (Int × Int × Int)) (e : Ending) (w' : World) : Prop := e = .returned (edgeVal r) ∧ Below w.heap.size w w'

set_option maxRecDepth 100000 in
set_option maxHeartbeats 2000000 in
theorem specReadEdge (ao : Option Addr) (c b o : Nat) (xs : List Int) (w : World) (hl : xs.length ≤ maxLen) (ha : At ao b o xs.length) (hin : Ints w b o xs) :
    Calls Try.prog 72 #[.slice ao xs.length c] w (EdgePost w (readE xs)) := by
  have HS : Hid (∀ (i : Int) (r : Option (Int × Int)), decAt xs i = r → Calls Try.prog 71 #[.slice ao xs.length c, .int .i64 i] (w.alloc (.cells #[.int .i64 0, .int .i64 0, .int .i64 0] 45)) fun e w' => e = .returned (decVal r) ∧ (w.alloc (.cells #[.int .i64 0, .int .i64 0, .int .i64 0] 45)) = w') := by
    intro i r hr
    rw [← hr]
    exact specDecodeNumber ao c b o xs i _ hl ha (hin.keep (keeps_alloc _ _))
  have hl' := hl
  unfold maxLen at hl'
  have fin : ∀ r, readE xs = r → ∀ e w', EdgePost w r e w' → EdgePost w (readE xs) e w' := fun r hr e w' h => by rw [hr]; exact h
  have FIN := Lib.hid fin
  clear fin
  rcases h1 : decAt xs 0 with _ | ⟨a1, i1⟩
  all_goals
    have H1 := Lib.hid h1
    clear h1
  · have HR : Hid (readE xs = none) := by unfold Hid readE; rw [H1.out]
    (go_enter Try.func72, Try.ntmps72); (go_wp2_with (first | (go_at_call 71; first | ((with_reducible refine (HS.out _ _ H1.out).mono ?_); unfold decVal; rintro e w1 ⟨rfl, rfl⟩)))); exact bodyPost_ret (v := edgeVal none) (by simp [results, Try.results72, go_sem, edgeVal]) rfl (FIN.out _ HR.out _ _ ⟨rfl, (by repeat' (first | (with_reducible exact Below.refl _ _) | (with_reducible assumption) | (with_reducible refine Below.alloc ?_ ?_ _) | (with_reducible refine Below.drew ?_) | (with_reducible refine below_drewN ?_ _) | (with_reducible refine Below.setCell ?_ ?_ _) | (refine bstep (by with_reducible assumption) ?_) | (refine bstep2 (by with_reducible assumption) (by first | omega | (simp; done) | (simp; omega)) ?_) | go_size))⟩)
  · rcases h2 : decAt xs i1 with _ | ⟨a2, i2⟩
    all_goals
      have H2 := Lib.hid h2
      clear h2
    · have HR : Hid (readE xs = none) := by unfold Hid readE; rw [H1.out]; simp only []; rw [H2.out]
      (go_enter Try.func72, Try.ntmps72); (go_wp2_with (first | (go_at_call 71; first | ((with_reducible refine (HS.out _ _ H1.out).mono ?_); unfold decVal; rintro e w1 ⟨rfl, rfl⟩) | ((with_reducible refine (HS.out _ _ H2.out).mono ?_); unfold decVal; rintro e w1 ⟨rfl, rfl⟩)))); exact bodyPost_ret (v := edgeVal none) (by simp [results, Try.results72, go_sem, edgeVal]) rfl (FIN.out _ HR.out _ _ ⟨rfl, (by repeat' (first | (with_reducible exact Below.refl _ _) | (with_reducible assumption) | (with_reducible refine Below.alloc ?_ ?_ _) | (with_reducible refine Below.drew ?_) | (with_reducible refine below_drewN ?_ _) | (with_reducible refine Below.setCell ?_ ?_ _) | (refine bstep (by with_reducible assumption) ?_) | (refine bstep2 (by with_reducible assumption) (by first | omega | (simp; done) | (simp; omega)) ?_) | go_size))⟩)
    · rcases h3 : decAt xs i2 with _ | ⟨a3, i3⟩
      all_goals
        have H3 := Lib.hid h3
        clear h3
      · have HR : Hid (readE xs = none) := by unfold Hid readE; rw [H1.out]; simp only []; rw [H2.out]; simp only []; rw [H3.out]
        (go_enter Try.func72, Try.ntmps72); (go_wp2_with (first | (go_at_call 71; first | ((with_reducible refine (HS.out _ _ H1.out).mono ?_); unfold decVal; rintro e w1 ⟨rfl, rfl⟩) | ((with_reducible refine (HS.out _ _ H2.out).mono ?_); unfold decVal; rintro e w1 ⟨rfl, rfl⟩) | ((with_reducible refine (HS.out _ _ H3.out).mono ?_); unfold decVal; rintro e w1 ⟨rfl, rfl⟩)))); exact bodyPost_ret (v := edgeVal none) (by simp [results, Try.results72, go_sem, edgeVal]) rfl (FIN.out _ HR.out _ _ ⟨rfl, (by repeat' (first | (with_reducible exact Below.refl _ _) | (with_reducible assumption) | (with_reducible refine Below.alloc ?_ ?_ _) | (with_reducible refine Below.drew ?_) | (with_reducible refine below_drewN ?_ _) | (with_reducible refine Below.setCell ?_ ?_ _) | (refine bstep (by with_reducible assumption) ?_) | (refine bstep2 (by with_reducible assumption) (by first | omega | (simp; done) | (simp; omega)) ?_) | go_size))⟩)
      · by_cases he : i3 = (xs.length : Int)
        · have HR : Hid (readE xs = some (a1, a2, a3)) := by unfold Hid readE; rw [H1.out]; simp only []; rw [H2.out]; simp only []; rw [H3.out]; simp only []; rw [if_pos he]
          have hne : (i3 != (xs.length : Int)) = false := by simp [he]
          clear he
          (go_enter Try.func72, Try.ntmps72); (go_wp2_with (first | (go_at_call 71; first | ((with_reducible refine (HS.out _ _ H1.out).mono ?_); unfold decVal; rintro e w1 ⟨rfl, rfl⟩) | ((with_reducible refine (HS.out _ _ H2.out).mono ?_); unfold decVal; rintro e w1 ⟨rfl, rfl⟩) | ((with_reducible refine (HS.out _ _ H3.out).mono ?_); unfold decVal; rintro e w1 ⟨rfl, rfl⟩)))); exact bodyPost_ret (v := edgeVal (some (a1, a2, a3))) (by simp [results, Try.results72, go_sem, edgeVal]) rfl (FIN.out _ HR.out _ _ ⟨rfl, (by repeat' (first | (with_reducible exact Below.refl _ _) | (with_reducible assumption) | (with_reducible refine Below.alloc ?_ ?_ _) | (with_reducible refine Below.drew ?_) | (with_reducible refine below_drewN ?_ _) | (with_reducible refine Below.setCell ?_ ?_ _) | (refine bstep (by with_reducible assumption) ?_) | (refine bstep2 (by with_reducible assumption) (by first | omega | (simp; done) | (simp; omega)) ?_) | go_size))⟩)
        · have HR : Hid (readE xs = none) := by unfold Hid readE; rw [H1.out]; simp only []; rw [H2.out]; simp only []; rw [H3.out]; simp only []; rw [if_neg he]
          have hne : (i3 != (xs.length : Int)) = true := by simp [he]
          clear he
          (go_enter Try.func72, Try.ntmps72); (go_wp2_with (first | (go_at_call 71; first | ((with_reducible refine (HS.out _ _ H1.out).mono ?_); unfold decVal; rintro e w1 ⟨rfl, rfl⟩) | ((with_reducible refine (HS.out _ _ H2.out).mono ?_); unfold decVal; rintro e w1 ⟨rfl, rfl⟩) | ((with_reducible refine (HS.out _ _ H3.out).mono ?_); unfold decVal; rintro e w1 ⟨rfl, rfl⟩)))); exact bodyPost_ret (v := edgeVal none) (by simp [results, Try.results72, go_sem, edgeVal]) rfl (FIN.out _ HR.out _ _ ⟨rfl, (by repeat' (first | (with_reducible exact Below.refl _ _) | (with_reducible assumption) | (with_reducible refine Below.alloc ?_ ?_ _) | (with_reducible refine Below.drew ?_) | (with_reducible refine below_drewN ?_ _) | (with_reducible refine Below.setCell ?_ ?_ _) | (refine bstep (by with_reducible assumption) ?_) | (refine bstep2 (by with_reducible assumption) (by first | omega | (simp; done) | (simp; omega)) ?_) | go_size))⟩)

theorem decAt_dec {xs : List Int} (h : bytesOk xs = true) (i : Nat) : decAt xs i = (dec (xs.drop i)).map fun p => (p.1, (i : Int) + p.2) := by
  by_cases hi : i < xs.length
  · exact decAt_yes h hi
  · rw [decAt_no (.inr (.inr (by omega))), List.drop_of_length_le (by omega)]
    rfl
/-- What 'number' left, said by decAt. -/
theorem num_decAt {xs : List Int} (h : bytesOk xs = true) {i j : Nat} {v : Int} {ok : Bool} (hy : ∀ n k, dec (xs.drop i) = some (n, k) → ok = true ∧ v = n ∧ j = i + k) (hn : dec (xs.drop i) = none → ok = false) :
    decAt xs i = if ok = true then some (v, (j : Int)) else none := by
  rw [decAt_dec h]
  cases hd : dec (xs.drop i) with
  | none => rw [hn hd]; rfl
  | some p =>
    obtain ⟨h1, h2, h3⟩ := hy p.1 p.2 hd
    rw [h1, h2, h3]
    simp

set_option maxRecDepth 100000 in
set_option maxHeartbeats 2000000 in
theorem implReadEdge (ao : Option Addr) (c b o : Nat) (xs : List Int) (w : World) (hl : xs.length ≤ maxLen) (ha : At ao b o xs.length) (hin : Ints w b o xs) :
    Calls Try.prog 75 #[.slice ao xs.length c] w (EdgePost w (readE xs)) := by
  have HV := fun w' (h : Ints w' b o xs) => Lib.hid (implBytesValid ao b o c xs w' hl ha h)
  have fin : ∀ r, readE xs = r → ∀ e w', EdgePost w r e w' → EdgePost w (readE xs) e w' := fun r hr e w' h => by rw [hr]; exact h
  have FIN := Lib.hid fin
  clear fin
  cases hv : bytesOk xs
  · have HR : Hid (readE xs = none) := by unfold Hid readE; rw [decAt_no (.inl hv)]
    have HW := Lib.hid HV
    rw [hv] at HW
    clear HV hv
    go_enter Try.func75, Try.ntmps75
    go_wp2_with (first | (go_at_call 90; refine (HW.out _ (hin.keep (keeps_alloc _ _))).out.mono ?_; rintro e w1 ⟨rfl, rfl⟩))
    exact bodyPost_ret (v := edgeVal none) (by simp [results, Try.results75, go_sem, edgeVal]) rfl (FIN.out _ HR.out _ _ ⟨rfl, (by repeat' (first | (with_reducible exact Below.refl _ _) | (with_reducible assumption) | (with_reducible refine Below.alloc ?_ ?_ _) | (with_reducible refine Below.drew ?_) | (with_reducible refine below_drewN ?_ _) | (with_reducible refine Below.setCell ?_ ?_ _) | (refine bstep (by with_reducible assumption) ?_) | (refine bstep2 (by with_reducible assumption) (by first | omega | (simp; done) | (simp; omega)) ?_) | go_size))⟩)
  · have hl2 := bytesOk_len hv
    have hby := Lib.hid (bytesOk_get hv)
    have HW := Lib.hid HV
    rw [hv] at HW
    clear HV
    have HVV := Lib.hid hv
    clear hv
    have hbw : xs = [] ∨ b < w.heap.size := by
      rcases Nat.eq_zero_or_pos xs.length with h0 | h0
      · exact .inl (List.eq_nil_of_length_eq_zero h0)
      · exact .inr (hin.lt h0)
    have hbne : xs = [] ∨ b ≠ w.heap.size + 1 := hbw.imp id (fun h => by omega)
    have HB := Lib.hid hbw
    have HBN := Lib.hid hbne
    clear hbw hbne
    go_enter Try.func75, Try.ntmps75
    go_wp2_with (first | (go_at_call 90; refine (HW.out _ (hin.keep (keeps_alloc _ _))).out.mono ?_; rintro e w1 ⟨rfl, rfl⟩))
    have hin1 := (hin.keep (keeps_alloc w (.cells #[.int .i64 0, .int .i64 0, .int .i64 0] 45))).keep (keeps_alloc (w.alloc (.cells #[.int .i64 0, .int .i64 0, .int .i64 0] 45)) (.cells #[.slice ao xs.length c, .int .i64 0] 100))
    have hR0 := Rdr.new (w.alloc (.cells #[.int .i64 0, .int .i64 0, .int .i64 0] 45)) (.slice ao xs.length c) 0 100
    rw [World.size_alloc] at hR0
    refine (byteNumber (w.heap.size + 1) ao c b o xs 0 _ (by omega) hl2 ha hin1 hby.out HBN.out hR0).mono ?_
    rintro e w1 ⟨v1, ok1, j1, rfl, hR1, hg1, hle1, hy1, hn1⟩
    have D1 := Lib.hid (num_decAt HVV.out hy1 hn1)
    clear hy1 hn1 hR0
    have hin2 := hin1.grown hg1 HBN.out
    go_wp2_with fail
    refine (byteNumber (w.heap.size + 1) ao c b o xs j1 _ (by omega) hl2 ha hin2 hby.out HBN.out hR1).mono ?_
    rintro e w2 ⟨v2, ok2, j2, rfl, hR2, hg2, hle2, hy2, hn2⟩
    have D2 := Lib.hid (num_decAt HVV.out hy2 hn2)
    clear hy2 hn2
    have hin3 := hin2.grown hg2 HBN.out
    go_wp2_with fail
    refine (byteNumber (w.heap.size + 1) ao c b o xs j2 _ (by omega) hl2 ha hin3 hby.out HBN.out hR2).mono ?_
    rintro e w3 ⟨v3, ok3, j3, rfl, hR3, hg3, hle3, hy3, hn3⟩
    have D3 := Lib.hid (num_decAt HVV.out hy3 hn3)
    clear hy3 hn3
    have hgA := gb_trans (gb_trans hg1 hg2) hg3
    have hbA : Below w.heap.size w w3 := below_gb (((Below.refl w.heap.size w).alloc (Nat.le_refl _) _).alloc (by simp) _) hgA (by simp) (by omega)
    obtain ⟨hcA, hfA⟩ := gcell hgA
    have hzA := hgA.size
    simp only [World.size_alloc] at hzA
    have hlA : w.heap.size < w3.heap.size := by omega
    have hin1 := Lib.hid hin1
    have hin2 := Lib.hid hin2
    have hin3 := Lib.hid hin3
    clear hin
    have hd3 := hR3
    cases ok1
    · have HR : Hid (readE xs = none) := by unfold Hid readE; have := D1.out; simp at this; rw [this]
      go_wp2
      exact bodyPost_ret (v := edgeVal none) (by simp [results, Try.results75, go_sem, edgeVal, hcA, hfA, hlA]) rfl (FIN.out _ HR.out _ _ ⟨rfl, (by repeat' (first | (with_reducible exact Below.refl _ _) | (with_reducible assumption) | (with_reducible refine Below.alloc ?_ ?_ _) | (with_reducible refine Below.drew ?_) | (with_reducible refine below_drewN ?_ _) | (with_reducible refine Below.setCell ?_ ?_ _) | (refine bstep (by with_reducible assumption) ?_) | (refine bstep2 (by with_reducible assumption) (by first | omega | (simp; done) | (simp; omega)) ?_) | go_size))⟩)
    · cases ok2
      · have HR : Hid (readE xs = none) := by unfold Hid readE; have h1 := D1.out; have h2 := D2.out; simp at h1 h2; rw [h1]; simp only []; rw [h2]
        go_wp2
        exact bodyPost_ret (v := edgeVal none) (by simp [results, Try.results75, go_sem, edgeVal, hcA, hfA, hlA]) rfl (FIN.out _ HR.out _ _ ⟨rfl, (by repeat' (first | (with_reducible exact Below.refl _ _) | (with_reducible assumption) | (with_reducible refine Below.alloc ?_ ?_ _) | (with_reducible refine Below.drew ?_) | (with_reducible refine below_drewN ?_ _) | (with_reducible refine Below.setCell ?_ ?_ _) | (refine bstep (by with_reducible assumption) ?_) | (refine bstep2 (by with_reducible assumption) (by first | omega | (simp; done) | (simp; omega)) ?_) | go_size))⟩)
      · cases ok3
        · have HR : Hid (readE xs = none) := by unfold Hid readE; have h1 := D1.out; have h2 := D2.out; have h3 := D3.out; simp at h1 h2 h3; rw [h1]; simp only []; rw [h2]; simp only []; rw [h3]
          go_wp2
          exact bodyPost_ret (v := edgeVal none) (by simp [results, Try.results75, go_sem, edgeVal, hcA, hfA, hlA]) rfl (FIN.out _ HR.out _ _ ⟨rfl, (by repeat' (first | (with_reducible exact Below.refl _ _) | (with_reducible assumption) | (with_reducible refine Below.alloc ?_ ?_ _) | (with_reducible refine Below.drew ?_) | (with_reducible refine below_drewN ?_ _) | (with_reducible refine Below.setCell ?_ ?_ _) | (refine bstep (by with_reducible assumption) ?_) | (refine bstep2 (by with_reducible assumption) (by first | omega | (simp; done) | (simp; omega)) ?_) | go_size))⟩)
        · go_wp2_with fail
          refine (byteDone (w.heap.size + 1) ao xs.length c j3 _ hR3).mono ?_
          rintro e w4 ⟨rfl, m, rfl⟩
          by_cases he : j3 = xs.length
          · have HR : Hid (readE xs = some (v1, v2, v3)) := by unfold Hid readE; have h1 := D1.out; have h2 := D2.out; have h3 := D3.out; simp at h1 h2 h3; rw [h1]; simp only []; rw [h2]; simp only []; rw [h3]; simp [he]
            have hne : ((j3 : Int) == (xs.length : Int)) = true := by simp [he]
            clear he
            go_wp2
            exact bodyPost_ret (v := edgeVal (some (v1, v2, v3))) (by simp [results, Try.results75, go_sem, edgeVal, hcA, hfA, hlA]) rfl (FIN.out _ HR.out _ _ ⟨rfl, (by repeat' (first | (with_reducible exact Below.refl _ _) | (with_reducible assumption) | (with_reducible refine Below.alloc ?_ ?_ _) | (with_reducible refine Below.drew ?_) | (with_reducible refine below_drewN ?_ _) | (with_reducible refine Below.setCell ?_ ?_ _) | (refine bstep (by with_reducible assumption) ?_) | (refine bstep2 (by with_reducible assumption) (by first | omega | (simp; done) | (simp; omega)) ?_) | go_size))⟩)
          · have HR : Hid (readE xs = none) := by unfold Hid readE; have h1 := D1.out; have h2 := D2.out; have h3 := D3.out; simp at h1 h2 h3; rw [h1]; simp only []; rw [h2]; simp only []; rw [h3]; simp; omega
            have hne : ((j3 : Int) == (xs.length : Int)) = false := by simp; omega
            clear he
            go_wp2
            exact bodyPost_ret (v := edgeVal none) (by simp [results, Try.results75, go_sem, edgeVal, hcA, hfA, hlA]) rfl (FIN.out _ HR.out _ _ ⟨rfl, (by repeat' (first | (with_reducible exact Below.refl _ _) | (with_reducible assumption) | (with_reducible refine Below.alloc ?_ ?_ _) | (with_reducible refine Below.drew ?_) | (with_reducible refine below_drewN ?_ _) | (with_reducible refine Below.setCell ?_ ?_ _) | (refine bstep (by with_reducible assumption) ?_) | (refine bstep2 (by with_reducible assumption) (by first | omega | (simp; done) | (simp; omega)) ?_) | go_size))⟩)
end Go.Proofs.Ytihpchbkodihpaa
