/- GraphValid of the reference. No statement of the seat is proved here. -/
import Derived.LoopN
import Derived.Deep.RegionHeld3
import Derived.Test.YtknbeakmnkjkhaaRows
import Derived.WalkKit
import Derived.WalkSpells
import Derived.WalkLawsBesides
import Derived.Lib.Hide
import Derived.Handy
import Derived.BigQuiet
import Derived.Deep.QuietTactic
import Derived.Test.YtknbeakmnkjkhaaLib
import Derived.Test.YtknbeakmnkjkhaaOwn
import Derived.Test.YtknbeakmnkjkhaaJobs
import Derived.Test.YtknbeakmnkjkhaaCodes
import Derived.Test.YtknbeakmnkjkhaaCodes2
import Derived.Test.YtknbeakmnkjkhaaCodes3
import Derived.Test.YtknbeakmnkjkhaaFrames
import Derived.Test.YtknbeakmnkjkhaaFrames2
import Derived.Test.YtknbeakmnkjkhaaGraphs
import Derived.Test.YtknbeakmnkjkhaaGValid
set_option linter.unusedSimpArgs false
set_option linter.unusedVariables false
namespace Go.Proofs.Ytknbeakmnkjkhaa
open Go.RowKit

theorem quiet_left {P : Program} {f : FuncId} {args : Array Value} {w : World} {n : Nat} {v : Value}
    (h : Calls P f args (w.drewN n) fun e w' => e = .returned v ∧ w.drewN n = w') : Calls P f args (w.drewN n) fun e w'' => e = .returned v ∧ ∃ m, w'' = w.drewN m :=
  h.mono fun _ _ ⟨he, hm⟩ => ⟨he, n, hm.symm⟩
def inU (u v : Int) : Bool := decide (0 ≤ v ∧ v ≤ u)
theorem gOk_spec (m : Int) (es : List E3) : gOk m es = (decide (0 ≤ m ∧ m ≤ 16) && decide (es.length ≤ 40) && chain (inU (IntKind.i64.wrap (m - 1))) none es) := by
  unfold gOk
  by_cases h : 0 ≤ m ∧ m ≤ 16
  · rw [IntWalk.i64_in _ (by omega), chain_congr (P := hasV m) (Q := inU (m - 1)) (fun v => by unfold hasV inU; rw [Bool.eq_iff_iff]; simp; omega)]
  · simp [h]

set_option maxRecDepth 100000 in
set_option maxHeartbeats 4000000 in
theorem specGraphValid (m : Int) (ao : Option Addr) (c : Nat) (es : List E3) (w : World) (hl : es.length ≤ maxLen) (hs : Se w ao es) :
    Calls Try.prog 51 #[gr m ao es.length c] w fun e w' => e = .returned (.bool (gOk m es)) ∧ Below w.heap.size w w' := by
  have hl' := hl
  unfold maxLen at hl'
  have HG := Lib.hid (gOk_spec m es)
  generalize hu : IntKind.i64.wrap (m - 1) = u at *
  have KH := Lib.hid (fun v lo hi W => Lib.hid (specL1In v lo hi W))
  have KC := Lib.hid (fun x y W => Lib.hid (specL4Before x y W))
  obtain ⟨b, o, ha, hE⟩ := hs.edges
  have hix := ha.ixN (c := c) 3 Try.underlying26 sz_edge
  have HS := Lib.hid hE
  have hlt0 : 0 < es.length → b < w.heap.size := fun h => hE.lt h
  have HLT := Lib.hid hlt0
  clear hs hE ha hlt0
  go_enter Try.func51, Try.ntmps51
  go_wp2
  go_loopw [3, 4] (fun i _ wr => ∃ k : Nat, k ≤ es.length ∧ i = .int .i64 k ∧ Below (w.heap.size + 1) (w.alloc (.cells #[.int .i64 m, .slice ao es.length c] 28)) wr ∧ Hid (chain (inU u) none es = chain (inU u) (prevE es k) (es.drop k))) (fun i _ _ => es.length - (intOf i).toNat)
  case atStart => exact ⟨0, Nat.zero_le _, rfl, by simpa using Below.refl (w.heap.size + 1) _, rfl⟩
  case round =>
    obtain ⟨k, hk, rfl, hb, HP⟩ := hrel
    have hcg0 : wr.cell? ⟨w.heap.size, 0, none⟩ = some (.int .i64 m) := (hb.cell (p := ⟨w.heap.size, 0, none⟩) (by simp)).trans (cell_lit rfl rfl)
    have hcg1 : wr.cell? ⟨w.heap.size, 1, none⟩ = some (.slice ao es.length c) := (hb.cell (p := ⟨w.heap.size, 1, none⟩) (by simp)).trans (cell_lit rfl rfl)
    have hsz := hb.size
    try simp only [World.size_alloc] at hsz
    have hg0 : w.heap.size < wr.heap.size := by omega
    have hHb : Below w.heap.size w wr := ((Below.refl w.heap.size w).alloc (Nat.le_refl _) _).trans (hb.mono (Nat.le_succ _))
    by_cases hlt : k < es.length
    · have hlti : (k : Int) < es.length := by omega
      have hbw := HLT.out (by omega)
      have hEr : Edg wr b o es := HS.out.keep (fun a ha2 => (hb.cell (p := a) (Nat.lt_succ_of_lt ha2)).trans (World.cell?_alloc_lt _ _ _ ha2))
      obtain ⟨hc0, hc1, hc2⟩ := hEr k hlt
      have hbr : b < wr.heap.size := by omega
      have HD : Hid (chain (inU u) none es = (eOk (inU u) es[k] && ordOk (prevE es k) es[k] && chain (inU u) (prevE es (k + 1)) (es.drop (k + 1)))) := by unfold Hid; rw [HP.out, chain_step hlt]
      clear HP
      have hpr : 0 < k → ∃ q, prevE es k = some q ∧ wr.cell? ⟨b, o + (k - 1) * 3, none⟩ = some (.int .i64 q.1) ∧ wr.cell? ⟨b, o + (k - 1) * 3 + 1, none⟩ = some (.int .i64 q.2.1) ∧ wr.cell? ⟨b, o + (k - 1) * 3 + 2, none⟩ = some (.int .i64 q.2.2) := by
        intro h0
        obtain ⟨j, rfl⟩ : ∃ j, k = j + 1 := ⟨k - 1, by omega⟩
        exact ⟨es[j], by simp [prevE, show j < es.length by omega], hEr j (by omega)⟩
      have HPR := Lib.hid hpr
      clear hpr hEr
      generalize hek : es[k] = e at *
      clear hek
      obtain ⟨ea, eb, ec⟩ := e
      dsimp only at hc0 hc1 hc2
      have hKA : ∀ t, inU u ea = t → Hid (∀ W, Calls Try.prog 62 #[.int .i64 ea, .int .i64 0, .int .i64 u] W fun e w' => e = .returned (.bool t) ∧ W = w') := fun t ht W => by have h := (KH.out ea 0 u W).out; unfold inU at ht; rw [ht] at h; exact h
      have hKB : ∀ t, inU u eb = t → Hid (∀ W, Calls Try.prog 62 #[.int .i64 eb, .int .i64 0, .int .i64 u] W fun e w' => e = .returned (.bool t) ∧ W = w') := fun t ht W => by have h := (KH.out eb 0 u W).out; unfold inU at ht; rw [ht] at h; exact h
      have hKW : ∀ t, decide (0 ≤ ec ∧ ec ≤ 20) = t → Hid (∀ W, Calls Try.prog 62 #[.int .i64 ec, .int .i64 0, .int .i64 20] W fun e w' => e = .returned (.bool t) ∧ W = w') := fun t ht W => by have h := (KH.out ec 0 20 W).out; rw [ht] at h; exact h
      have HKA := Lib.hid hKA
      have HKB := Lib.hid hKB
      have HKW := Lib.hid hKW
      clear hKA hKB hKW
      cases hA : inU u ea
      · have KA := HKA.out false hA
        have HA := Lib.hid hA
        clear hA
        go_wp2
        go_quiet ((first | (go_at_call 62; first | (with_reducible exact quiet_left (KA.out _)))))
        go_wp2
        go_ret
        exact ⟨ret_bool (by rw [HG.out, HD.out]; simp [eOk, HA.out]), (by repeat' (first | (with_reducible exact Below.refl _ _) | (with_reducible assumption) | (with_reducible refine Below.alloc ?_ ?_ _) | (with_reducible refine Below.drew ?_) | (with_reducible refine below_drewN ?_ _) | (with_reducible refine Below.setCell ?_ ?_ _) | (refine bstep (by with_reducible assumption) ?_) | (refine bstep2 (by with_reducible assumption) (by first | omega | (simp; done) | (simp; omega)) ?_) | go_size))⟩
      · have KA := HKA.out true hA
        have HA := Lib.hid hA
        clear hA
        cases hB : inU u eb
        · have KB := HKB.out false hB
          have HB := Lib.hid hB
          clear hB
          go_wp2
          go_quiet ((first | (go_at_call 62; first | (with_reducible exact quiet_left (KA.out _)) | (with_reducible exact quiet_left (KB.out _)))))
          go_wp2
          go_ret
          exact ⟨ret_bool (by rw [HG.out, HD.out]; simp [eOk, HB.out]), (by repeat' (first | (with_reducible exact Below.refl _ _) | (with_reducible assumption) | (with_reducible refine Below.alloc ?_ ?_ _) | (with_reducible refine Below.drew ?_) | (with_reducible refine below_drewN ?_ _) | (with_reducible refine Below.setCell ?_ ?_ _) | (refine bstep (by with_reducible assumption) ?_) | (refine bstep2 (by with_reducible assumption) (by first | omega | (simp; done) | (simp; omega)) ?_) | go_size))⟩
        · have KB := HKB.out true hB
          have HB := Lib.hid hB
          clear hB
          by_cases hq : ea = eb
          · have hqb : (ea == eb) = true := by simp [hq]
            have HQ := Lib.hid hq
            clear hq
            go_wp2
            go_quiet ((first | (go_at_call 62; first | (with_reducible exact quiet_left (KA.out _)) | (with_reducible exact quiet_left (KB.out _)))))
            go_wp2
            go_ret
            exact ⟨ret_bool (by rw [HG.out, HD.out]; simp [eOk, HQ.out]), (by repeat' (first | (with_reducible exact Below.refl _ _) | (with_reducible assumption) | (with_reducible refine Below.alloc ?_ ?_ _) | (with_reducible refine Below.drew ?_) | (with_reducible refine below_drewN ?_ _) | (with_reducible refine Below.setCell ?_ ?_ _) | (refine bstep (by with_reducible assumption) ?_) | (refine bstep2 (by with_reducible assumption) (by first | omega | (simp; done) | (simp; omega)) ?_) | go_size))⟩
          · have hqb : (ea == eb) = false := by simp [hq]
            have HQ := Lib.hid hq
            clear hq
            cases hW : decide (0 ≤ ec ∧ ec ≤ 20)
            · have KW := HKW.out false hW
              have HW := Lib.hid hW
              clear hW
              go_wp2
              go_quiet ((first | (go_at_call 62; first | (with_reducible exact quiet_left (KA.out _)) | (with_reducible exact quiet_left (KB.out _)) | (with_reducible exact quiet_left (KW.out _)))))
              go_wp2
              go_ret
              exact ⟨ret_bool (by rw [HG.out, HD.out]; simp only [eOk, HW.out, Bool.and_false, Bool.false_and]), (by repeat' (first | (with_reducible exact Below.refl _ _) | (with_reducible assumption) | (with_reducible refine Below.alloc ?_ ?_ _) | (with_reducible refine Below.drew ?_) | (with_reducible refine below_drewN ?_ _) | (with_reducible refine Below.setCell ?_ ?_ _) | (refine bstep (by with_reducible assumption) ?_) | (refine bstep2 (by with_reducible assumption) (by first | omega | (simp; done) | (simp; omega)) ?_) | go_size))⟩
            · have KW := HKW.out true hW
              have HOK : Hid (eOk (inU u) (ea, eb, ec) = true) := by unfold Hid; simp only [eOk, HA.out, HB.out, hW]; simp [HQ.out]
              clear hW
              by_cases hk0 : k = 0
              · subst hk0
                simp only [Nat.zero_mul, Nat.add_zero] at hc0 hc1 hc2
                go_wp2
                go_quiet ((first | (go_at_call 62; first | (with_reducible exact quiet_left (KA.out _)) | (with_reducible exact quiet_left (KB.out _)) | (with_reducible exact quiet_left (KW.out _)))))
                go_wp2
                go_roundw
                case rel => exact ⟨1, by omega, by go_num, (by repeat' (first | (with_reducible exact Below.refl _ _) | (with_reducible assumption) | (with_reducible refine Below.alloc ?_ ?_ _) | (with_reducible refine Below.drew ?_) | (with_reducible refine below_drewN ?_ _) | (with_reducible refine Below.setCell ?_ ?_ _) | (refine bstep (by with_reducible assumption) ?_) | (refine bstep2 (by with_reducible assumption) (by first | omega | (simp; done) | (simp; omega)) ?_) | go_size)), by unfold Hid; rw [HD.out, HOK.out]; simp [ordOk, prevE]⟩
                case measure => simp [intOf]; omega
              · have hk0' : 0 < k := by omega
                obtain ⟨q, hqp, hq0, hq1, hq2⟩ := HPR.out hk0'
                have HQP := Lib.hid hqp
                clear hqp hk0
                obtain ⟨qa, qb, qc⟩ := q
                dsimp only at hq0 hq1 hq2
                have hkn : ((k : Int) - 1).toNat = k - 1 := by omega
                have hk1 : (1 : Int) ≤ k := by omega
                have hk2 : (k : Int) - 1 < es.length := by omega
                have hkw : IntKind.i64.wrap ((k : Int) - 1) = (k : Int) - 1 := IntWalk.i64_in _ (by omega)
                have hkd : decide ((0 : Int) < k) = true := by simp; omega
                have hg1 : w.heap.size < wr.heap.size + 1 := by omega
                have hbr1 : b < wr.heap.size + 1 := by omega
                have KQ : Hid (∀ W, Calls Try.prog 79 #[.agg #[.int .i64 qa, .int .i64 qb, .int .i64 qc], .agg #[.int .i64 ea, .int .i64 eb, .int .i64 ec]] W fun e w' => e = .returned (.bool (before (qa, qb, qc) (ea, eb, ec))) ∧ Below W.heap.size W w') := fun W => (KC.out (qa, qb, qc) (ea, eb, ec) W).out
                cases hbf : before (qa, qb, qc) (ea, eb, ec)
                all_goals
                  rw [hbf] at KQ
                  have HBF := Lib.hid hbf
                  clear hbf
                  go_wp2
                  go_region_held3 (fun w' => w'.cell? ⟨w.heap.size, 0, none⟩ = some (.int .i64 m) ∧ w'.cell? ⟨w.heap.size, 1, none⟩ = some (.slice ao es.length c) ∧ w'.cell? ⟨b, o + (k - 1) * 3, none⟩ = some (.int .i64 qa) ∧ w'.cell? ⟨b, o + (k - 1) * 3 + 1, none⟩ = some (.int .i64 qb) ∧ w'.cell? ⟨b, o + (k - 1) * 3 + 2, none⟩ = some (.int .i64 qc) ∧ w'.cell? ⟨wr.heap.size, 0, none⟩ = some (.int .i64 ea) ∧ w'.cell? ⟨wr.heap.size, 1, none⟩ = some (.int .i64 eb) ∧ w'.cell? ⟨wr.heap.size, 2, none⟩ = some (.int .i64 ec)) (go_keep) (first | ((try go_simp); go_at_call 62; first | ((with_reducible refine (KA.out _).mono ?_); rintro e w3 ⟨rfl, rfl⟩) | ((with_reducible refine (KB.out _).mono ?_); rintro e w3 ⟨rfl, rfl⟩) | ((with_reducible refine (KW.out _).mono ?_); rintro e w3 ⟨rfl, rfl⟩)) | ((try go_simp); go_at_call 79; (with_reducible refine (KQ.out _).mono ?_); rintro e w3 ⟨rfl, hb3⟩; (obtain ⟨hc3, hf3⟩ := bcell hb3); (try simp only [World.size_drew, World.size_drewN] at hc3 hf3); have hz3 := hb3.size; (try simp only [World.size_alloc, World.size_setCell, World.size_drew, World.size_drewN] at hz3)))
                  go_wp2
                · go_ret
                  exact ⟨ret_bool (by rw [HG.out, HD.out, HOK.out, HQP.out]; simp [ordOk, HBF.out]), (by repeat' (first | (with_reducible exact Below.refl _ _) | (with_reducible assumption) | (with_reducible refine Below.alloc ?_ ?_ _) | (with_reducible refine Below.drew ?_) | (with_reducible refine below_drewN ?_ _) | (with_reducible refine Below.setCell ?_ ?_ _) | (refine bstep (by with_reducible assumption) ?_) | (refine bstep2 (by with_reducible assumption) (by first | omega | (simp; done) | (simp; omega)) ?_) | go_size))⟩
                · go_roundw
                  case rel => exact ⟨k + 1, by omega, by go_num, (by repeat' (first | (with_reducible exact Below.refl _ _) | (with_reducible assumption) | (with_reducible refine Below.alloc ?_ ?_ _) | (with_reducible refine Below.drew ?_) | (with_reducible refine below_drewN ?_ _) | (with_reducible refine Below.setCell ?_ ?_ _) | (refine bstep (by with_reducible assumption) ?_) | (refine bstep2 (by with_reducible assumption) (by first | omega | (simp; done) | (simp; omega)) ?_) | go_size)), by unfold Hid; rw [HD.out, HOK.out, HQP.out]; simp [ordOk, HBF.out]⟩
                  case measure => simp [intOf]; omega
    · by_cases hm : 0 ≤ m ∧ m ≤ 16
      · have KM : Hid (∀ W, Calls Try.prog 62 #[.int .i64 m, .int .i64 0, .int .i64 16] W fun e w' => e = .returned (.bool true) ∧ W = w') := fun W => by have h := (KH.out m 0 16 W).out; rw [decide_eq_true hm] at h; exact h
        have HM := Lib.hid hm
        clear hm
        go_wp2_with (first | (go_at_call 62; refine (KM.out _).mono ?_; rintro e w1 ⟨rfl, rfl⟩))
        go_ret
        exact ⟨ret_bool (by rw [HG.out, HP.out, chain_end (by omega), decide_eq_true HM.out, Bool.true_and, Bool.and_true, Bool.eq_iff_iff]; simp; omega), (by repeat' (first | (with_reducible exact Below.refl _ _) | (with_reducible assumption) | (with_reducible refine Below.alloc ?_ ?_ _) | (with_reducible refine Below.drew ?_) | (with_reducible refine below_drewN ?_ _) | (with_reducible refine Below.setCell ?_ ?_ _) | (refine bstep (by with_reducible assumption) ?_) | (refine bstep2 (by with_reducible assumption) (by first | omega | (simp; done) | (simp; omega)) ?_) | go_size))⟩
      · have KM : Hid (∀ W, Calls Try.prog 62 #[.int .i64 m, .int .i64 0, .int .i64 16] W fun e w' => e = .returned (.bool false) ∧ W = w') := fun W => by have h := (KH.out m 0 16 W).out; rw [decide_eq_false hm] at h; exact h
        have HM := Lib.hid hm
        clear hm
        go_wp2_with (first | (go_at_call 62; refine (KM.out _).mono ?_; rintro e w1 ⟨rfl, rfl⟩))
        go_ret
        exact ⟨ret_bool (by rw [HG.out, decide_eq_false HM.out, Bool.false_and, Bool.false_and]), (by repeat' (first | (with_reducible exact Below.refl _ _) | (with_reducible assumption) | (with_reducible refine Below.alloc ?_ ?_ _) | (with_reducible refine Below.drew ?_) | (with_reducible refine below_drewN ?_ _) | (with_reducible refine Below.setCell ?_ ?_ _) | (refine bstep (by with_reducible assumption) ?_) | (refine bstep2 (by with_reducible assumption) (by first | omega | (simp; done) | (simp; omega)) ?_) | go_size))⟩
end Go.Proofs.Ytknbeakmnkjkhaa
