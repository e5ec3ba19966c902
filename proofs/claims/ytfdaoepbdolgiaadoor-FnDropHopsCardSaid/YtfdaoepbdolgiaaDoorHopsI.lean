/- HopsRight of the program: its parts. No statement of the seat is proved here. -/
import Derived.Test.YtfdaoepbdolgiaaDoorRows
import Derived.WalkKit
import Derived.WalkSpells
import Derived.WalkLawsBesides
import Derived.Lib.Hide
import Derived.Handy
import Derived.BigQuiet
import Derived.Deep.QuietTactic
import Derived.Test.YtfdaoepbdolgiaaDoorLib
import Derived.Test.YtfdaoepbdolgiaaDoorOwn
import Derived.Test.YtfdaoepbdolgiaaDoorJobs
import Derived.Test.YtfdaoepbdolgiaaDoorCodes3
import Derived.Test.YtfdaoepbdolgiaaDoorFrames2
import Derived.Test.YtfdaoepbdolgiaaDoorGraphs
import Derived.Test.YtfdaoepbdolgiaaDoorGValid
import Derived.Test.YtfdaoepbdolgiaaDoorHopsR
import Derived.Test.YtfdaoepbdolgiaaDoorMasks
set_option linter.unusedSimpArgs false
set_option linter.unusedVariables false
namespace Go.Proofs.YtfdaoepbdolgiaaDoor
open Go.RowKit

set_option maxRecDepth 100000 in
set_option maxHeartbeats 400000 in
theorem hopsAdd (e : E3) (w : World) : Calls Tryd.prog 50 #[ed e] w fun r w' => r = .returned (.int .i64 1) ∧ Below w.heap.size w w' := by
  obtain ⟨a, b, c⟩ := e
  go_enter Tryd.func50, Tryd.ntmps50
  go_wp2
  go_ret
  exact ⟨rfl, (by repeat' (first | (with_reducible exact Below.refl _ _) | (with_reducible assumption) | (with_reducible refine Below.alloc ?_ ?_ _) | (with_reducible refine Below.drew ?_) | (with_reducible refine below_drewN ?_ _) | (with_reducible refine Below.setCell ?_ ?_ _) | (refine bstep (by with_reducible assumption) ?_) | (refine bstep2 (by with_reducible assumption) (by first | omega | (simp; done) | (simp; omega)) ?_) | go_size))⟩

set_option maxRecDepth 100000 in
set_option maxHeartbeats 2000000 in
theorem implEdgesKeepH (m : Int) (ao vo : Option Addr) (c vc : Nat) (es : List E3) (vs : List Int) (w : World) (hl : es.length ≤ 1048576) (hlv : vs.length ≤ 1048576) (hs : Se w ao es) (hv : Sl w vo vs)
    (hI : ∀ z ∈ vs, I64 z) (hg : ∀ e ∈ es, (0 ≤ e.1 ∧ e.1 < (vs.length : Int)) ∧ (0 ≤ e.2.1 ∧ e.2.1 < (vs.length : Int))) :
    Calls Tryd.prog 49 #[gr m ao es.length c, .slice vo vs.length vc, .func (.func 50) #[] #[]] w fun e w' => e = .returned (.bool (es.all (kp vs 1))) ∧ Below w.heap.size w w' := by
  obtain ⟨b, o, ha, hE⟩ := hs.edges
  obtain ⟨bv, ov, hav, hiv⟩ := hv.ints
  have hix := ha.ixN (c := c) 3 Tryd.underlying23 sz_edge
  have hixv := hav.ix (c := vc) Tryd.underlying28 sz_int
  have HS := Lib.hid hE
  have HV := Lib.hid hiv
  have HG := Lib.hid hg
  have KA := Lib.hid (fun x y z W => Lib.hid (hopsAdd (x, y, z) W))
  have HLT := Lib.hid (fun (h : 0 < es.length) => hE.lt h)
  clear hs hv hE hiv ha hav hg
  go_enter Tryd.func49, Tryd.ntmps49
  go_wp2
  go_loopw [8, 9, 10, 14] (fun _ _ _ i wr => ∃ k : Nat, k ≤ es.length ∧ i = .int .i64 k ∧ Below w.heap.size w wr ∧ Hid (es.all (kp vs 1) = (es.drop k).all (kp vs 1))) (fun _ _ _ i _ => es.length - (intOf i).toNat)
  case atStart => exact ⟨0, Nat.zero_le _, rfl, (by repeat' (first | (with_reducible exact Below.refl _ _) | (with_reducible assumption) | (with_reducible refine Below.alloc ?_ ?_ _) | (with_reducible refine Below.drew ?_) | (with_reducible refine below_drewN ?_ _) | (with_reducible refine Below.setCell ?_ ?_ _) | (refine bstep (by with_reducible assumption) ?_) | (refine bstep2 (by with_reducible assumption) (by first | omega | (simp; done) | (simp; omega)) ?_) | go_size)), rfl⟩
  case round =>
    obtain ⟨k, hk, rfl, hb, HP⟩ := hrel
    have hsz := hb.size
    by_cases hlt : k < es.length
    · have hlti : (k : Int) < es.length := by omega
      have hEr : Edg wr b o es := HS.out.below hb (Nat.le_refl _)
      obtain ⟨hc0, hc1, hc2⟩ := hEr k hlt
      have hbr : b < wr.heap.size := hEr.lt (by omega)
      obtain ⟨⟨f0, f1⟩, ⟨t0, t1⟩⟩ := HG.out es[k] (List.getElem_mem hlt)
      have HD : Hid (es.drop k = es[k] :: es.drop (k + 1)) := List.drop_eq_getElem_cons hlt
      have hIr : Ints wr bv ov vs := HV.out.below hb (Nat.le_refl _)
      generalize es[k] = e at *
      obtain ⟨ea, eb, ec⟩ := e
      dsimp only at hc0 hc1 hc2 f0 f1 t0 t1
      have hv0 := hIr ea.toNat (by omega)
      have hv1 := hIr eb.toNat (by omega)
      have hbv : bv < wr.heap.size := hIr.lt (by omega)
      have HK : Hid (kp vs 1 (ea, eb, ec) = (decide (vs.getD ea.toNat 0 < 0) || (decide (0 ≤ vs.getD eb.toNat 0) && decide (vs.getD eb.toNat 0 - 1 ≤ vs.getD ea.toNat 0)))) := rfl
      have hyI : vs.getD eb.toNat 0 ≤ 9223372036854775807 := by
        rw [List.getD_eq_getElem?_getD, List.getElem?_eq_getElem (by omega)]
        exact (hI _ (List.getElem_mem _)).2
      generalize vs.getD ea.toNat 0 = x at *
      generalize vs.getD eb.toNat 0 = y at *
      clear hEr hIr
      go_wp2
      go_quiet (fail)
      by_cases hx : x < 0
      · go_wp2
        go_roundw
        case rel => exact ⟨k + 1, by omega, by go_num, (by repeat' (first | (with_reducible exact Below.refl _ _) | (with_reducible assumption) | (with_reducible refine Below.alloc ?_ ?_ _) | (with_reducible refine Below.drew ?_) | (with_reducible refine below_drewN ?_ _) | (with_reducible refine Below.setCell ?_ ?_ _) | (refine bstep (by with_reducible assumption) ?_) | (refine bstep2 (by with_reducible assumption) (by first | omega | (simp; done) | (simp; omega)) ?_) | go_size)), by unfold Hid; rw [HP.out, HD.out, List.all_cons, HK.out]; simp [hx]⟩
        case measure => simp [intOf]; omega
      · have hx' : 0 ≤ x := by omega
        by_cases hy : y < 0
        · go_wp2
          go_ret
          exact ⟨ret_bool (by rw [HP.out, HD.out, List.all_cons, HK.out]; simp; intros; omega), (by repeat' (first | (with_reducible exact Below.refl _ _) | (with_reducible assumption) | (with_reducible refine Below.alloc ?_ ?_ _) | (with_reducible refine Below.drew ?_) | (with_reducible refine below_drewN ?_ _) | (with_reducible refine Below.setCell ?_ ?_ _) | (refine bstep (by with_reducible assumption) ?_) | (refine bstep2 (by with_reducible assumption) (by first | omega | (simp; done) | (simp; omega)) ?_) | go_size))⟩
        · have hy' : 0 ≤ y := by omega
          have hyw : IntKind.i64.wrap (y - 1) = y - 1 := IntWalk.i64_in _ (by omega)
          by_cases hk : x < y - 1
          · go_wp2_with (first | (go_at_call 50; refine (KA.out _ _ _ _).out.mono ?_; rintro r w3 ⟨rfl, hb3⟩))
            go_ret
            exact ⟨ret_bool (by rw [HP.out, HD.out, List.all_cons, HK.out]; simp; intros; omega), (by repeat' (first | (with_reducible exact Below.refl _ _) | (with_reducible assumption) | (with_reducible refine Below.alloc ?_ ?_ _) | (with_reducible refine Below.drew ?_) | (with_reducible refine below_drewN ?_ _) | (with_reducible refine Below.setCell ?_ ?_ _) | (refine bstep (by with_reducible assumption) ?_) | (refine bstep2 (by with_reducible assumption) (by first | omega | (simp; done) | (simp; omega)) ?_) | go_size))⟩
          · have hk' : y - 1 ≤ x := by omega
            go_wp2_with (first | (go_at_call 50; refine (KA.out _ _ _ _).out.mono ?_; rintro r w3 ⟨rfl, hb3⟩))
            go_roundw
            case rel => exact ⟨k + 1, by omega, by go_num, (by repeat' (first | (with_reducible exact Below.refl _ _) | (with_reducible assumption) | (with_reducible refine Below.alloc ?_ ?_ _) | (with_reducible refine Below.drew ?_) | (with_reducible refine below_drewN ?_ _) | (with_reducible refine Below.setCell ?_ ?_ _) | (refine bstep (by with_reducible assumption) ?_) | (refine bstep2 (by with_reducible assumption) (by first | omega | (simp; done) | (simp; omega)) ?_) | go_size)), by unfold Hid; rw [HP.out, HD.out, List.all_cons, HK.out]; simp [hy', hk']⟩
            case measure => simp [intOf]; omega
    · go_wp2
      go_ret
      exact ⟨ret_bool (by rw [HP.out, List.drop_of_length_le (by omega)]; rfl), hb⟩
end Go.Proofs.YtfdaoepbdolgiaaDoor
