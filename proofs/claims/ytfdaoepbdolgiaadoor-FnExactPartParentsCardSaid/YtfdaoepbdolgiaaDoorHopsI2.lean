/- HopsRight of the program: its parts. No statement of the seat is proved here. -/
import Derived.Deep.RegionHeld3
import Derived.Test.YtfdaoepbdolgiaaDoorRows
import Derived.WalkKit
import Derived.WalkSpells
import Derived.WalkLawsBesides
import Derived.Lib.Hide
import Derived.Handy
import Derived.BigQuiet
import Derived.Deep.QuietTactic
import Derived.Test.YtfdaoepbdolgiaaDoorLib
import Derived.Test.YtfdaoepbdolgiaaDoorOwn
import Derived.Test.YtfdaoepbdolgiaaDoorJobs
import Derived.Test.YtfdaoepbdolgiaaDoorCodes3
import Derived.Test.YtfdaoepbdolgiaaDoorFrames2
import Derived.Test.YtfdaoepbdolgiaaDoorGraphs
import Derived.Test.YtfdaoepbdolgiaaDoorGValid
import Derived.Test.YtfdaoepbdolgiaaDoorHopsR
import Derived.Test.YtfdaoepbdolgiaaDoorMasks
set_option linter.unusedSimpArgs false
set_option linter.unusedVariables false
namespace Go.Proofs.YtfdaoepbdolgiaaDoor
open Go.RowKit

/-! ## HopsI -/
set_option maxRecDepth 100000 in
set_option maxHeartbeats 400000 in
theorem hopsAdd (e : E3) (w : World) : Calls Tryd.prog 50 #[ed e] w fun r w' => r = .returned (.int .i64 1) ∧ Below w.heap.size w w' := by
  obtain ⟨a, b, c⟩ := e
  go_enter Tryd.func50, Tryd.ntmps50
  go_wp2
  go_ret
  exact ⟨rfl, (by repeat' (first | (with_reducible exact Below.refl _ _) | (with_reducible assumption) | (with_reducible refine Below.alloc ?_ ?_ _) | (with_reducible refine Below.drew ?_) | (with_reducible refine below_drewN ?_ _) | (with_reducible refine Below.setCell ?_ ?_ _) | (refine bstep (by with_reducible assumption) ?_) | (refine bstep2 (by with_reducible assumption) (by first | omega | (simp; done) | (simp; omega)) ?_) | go_size))⟩

set_option maxRecDepth 100000 in
set_option maxHeartbeats 2000000 in
theorem implEdgesKeepH (m : Int) (ao vo : Option Addr) (c vc : Nat) (es : List E3) (vs : List Int) (w : World) (hl : es.length ≤ 1048576) (hlv : vs.length ≤ 1048576) (hs : Se w ao es) (hv : Sl w vo vs)
    (hI : ∀ z ∈ vs, I64 z) (hg : ∀ e ∈ es, (0 ≤ e.1 ∧ e.1 < (vs.length : Int)) ∧ (0 ≤ e.2.1 ∧ e.2.1 < (vs.length : Int))) :
    Calls Tryd.prog 49 #[gr m ao es.length c, .slice vo vs.length vc, .func (.func 50) #[] #[]] w fun e w' => e = .returned (.bool (es.all (kp vs 1))) ∧ Below w.heap.size w w' := by
  obtain ⟨b, o, ha, hE⟩ := hs.edges
  obtain ⟨bv, ov, hav, hiv⟩ := hv.ints
  have hix := ha.ixN (c := c) 3 Tryd.underlying23 sz_edge
  have hixv := hav.ix (c := vc) Tryd.underlying28 sz_int
  have HS := Lib.hid hE
  have HV := Lib.hid hiv
  have HG := Lib.hid hg
  have KA := Lib.hid (fun x y z W => Lib.hid (hopsAdd (x, y, z) W))
  have HLT := Lib.hid (fun (h : 0 < es.length) => hE.lt h)
  clear hs hv hE hiv ha hav hg
  go_enter Tryd.func49, Tryd.ntmps49
  go_wp2
  go_loopw [8, 9, 10, 14] (fun _ _ _ i wr => ∃ k : Nat, k ≤ es.length ∧ i = .int .i64 k ∧ Below w.heap.size w wr ∧ Hid (es.all (kp vs 1) = (es.drop k).all (kp vs 1))) (fun _ _ _ i _ => es.length - (intOf i).toNat)
  case atStart => exact ⟨0, Nat.zero_le _, rfl, (by repeat' (first | (with_reducible exact Below.refl _ _) | (with_reducible assumption) | (with_reducible refine Below.alloc ?_ ?_ _) | (with_reducible refine Below.drew ?_) | (with_reducible refine below_drewN ?_ _) | (with_reducible refine Below.setCell ?_ ?_ _) | (refine bstep (by with_reducible assumption) ?_) | (refine bstep2 (by with_reducible assumption) (by first | omega | (simp; done) | (simp; omega)) ?_) | go_size)), rfl⟩
  case round =>
    obtain ⟨k, hk, rfl, hb, HP⟩ := hrel
    have hsz := hb.size
    by_cases hlt : k < es.length
    · have hlti : (k : Int) < es.length := by omega
      have hEr : Edg wr b o es := HS.out.below hb (Nat.le_refl _)
      obtain ⟨hc0, hc1, hc2⟩ := hEr k hlt
      have hbr : b < wr.heap.size := hEr.lt (by omega)
      obtain ⟨⟨f0, f1⟩, ⟨t0, t1⟩⟩ := HG.out es[k] (List.getElem_mem hlt)
      have HD : Hid (es.drop k = es[k] :: es.drop (k + 1)) := List.drop_eq_getElem_cons hlt
      have hIr : Ints wr bv ov vs := HV.out.below hb (Nat.le_refl _)
      generalize es[k] = e at *
      obtain ⟨ea, eb, ec⟩ := e
      dsimp only at hc0 hc1 hc2 f0 f1 t0 t1
      have hv0 := hIr ea.toNat (by omega)
      have hv1 := hIr eb.toNat (by omega)
      have hbv : bv < wr.heap.size := hIr.lt (by omega)
      have HK : Hid (kp vs 1 (ea, eb, ec) = (decide (vs.getD ea.toNat 0 < 0) || (decide (0 ≤ vs.getD eb.toNat 0) && decide (vs.getD eb.toNat 0 - 1 ≤ vs.getD ea.toNat 0)))) := rfl
      have hyI : vs.getD eb.toNat 0 ≤ 9223372036854775807 := by
        rw [List.getD_eq_getElem?_getD, List.getElem?_eq_getElem (by omega)]
        exact (hI _ (List.getElem_mem _)).2
      generalize vs.getD ea.toNat 0 = x at *
      generalize vs.getD eb.toNat 0 = y at *
      clear hEr hIr
      go_wp2
      go_quiet (fail)
      by_cases hx : x < 0
      · go_wp2
        go_roundw
        case rel => exact ⟨k + 1, by omega, by go_num, (by repeat' (first | (with_reducible exact Below.refl _ _) | (with_reducible assumption) | (with_reducible refine Below.alloc ?_ ?_ _) | (with_reducible refine Below.drew ?_) | (with_reducible refine below_drewN ?_ _) | (with_reducible refine Below.setCell ?_ ?_ _) | (refine bstep (by with_reducible assumption) ?_) | (refine bstep2 (by with_reducible assumption) (by first | omega | (simp; done) | (simp; omega)) ?_) | go_size)), by unfold Hid; rw [HP.out, HD.out, List.all_cons, HK.out]; simp [hx]⟩
        case measure => simp [intOf]; omega
      · have hx' : 0 ≤ x := by omega
        by_cases hy : y < 0
        · go_wp2
          go_ret
          exact ⟨ret_bool (by rw [HP.out, HD.out, List.all_cons, HK.out]; simp; intros; omega), (by repeat' (first | (with_reducible exact Below.refl _ _) | (with_reducible assumption) | (with_reducible refine Below.alloc ?_ ?_ _) | (with_reducible refine Below.drew ?_) | (with_reducible refine below_drewN ?_ _) | (with_reducible refine Below.setCell ?_ ?_ _) | (refine bstep (by with_reducible assumption) ?_) | (refine bstep2 (by with_reducible assumption) (by first | omega | (simp; done) | (simp; omega)) ?_) | go_size))⟩
        · have hy' : 0 ≤ y := by omega
          have hyw : IntKind.i64.wrap (y - 1) = y - 1 := IntWalk.i64_in _ (by omega)
          by_cases hk : x < y - 1
          · go_wp2_with (first | (go_at_call 50; refine (KA.out _ _ _ _).out.mono ?_; rintro r w3 ⟨rfl, hb3⟩))
            go_ret
            exact ⟨ret_bool (by rw [HP.out, HD.out, List.all_cons, HK.out]; simp; intros; omega), (by repeat' (first | (with_reducible exact Below.refl _ _) | (with_reducible assumption) | (with_reducible refine Below.alloc ?_ ?_ _) | (with_reducible refine Below.drew ?_) | (with_reducible refine below_drewN ?_ _) | (with_reducible refine Below.setCell ?_ ?_ _) | (refine bstep (by with_reducible assumption) ?_) | (refine bstep2 (by with_reducible assumption) (by first | omega | (simp; done) | (simp; omega)) ?_) | go_size))⟩
          · have hk' : y - 1 ≤ x := by omega
            go_wp2_with (first | (go_at_call 50; refine (KA.out _ _ _ _).out.mono ?_; rintro r w3 ⟨rfl, hb3⟩))
            go_roundw
            case rel => exact ⟨k + 1, by omega, by go_num, (by repeat' (first | (with_reducible exact Below.refl _ _) | (with_reducible assumption) | (with_reducible refine Below.alloc ?_ ?_ _) | (with_reducible refine Below.drew ?_) | (with_reducible refine below_drewN ?_ _) | (with_reducible refine Below.setCell ?_ ?_ _) | (refine bstep (by with_reducible assumption) ?_) | (refine bstep2 (by with_reducible assumption) (by first | omega | (simp; done) | (simp; omega)) ?_) | go_size)), by unfold Hid; rw [HP.out, HD.out, List.all_cons, HK.out]; simp [hy', hk']⟩
            case measure => simp [intOf]; omega
    · go_wp2
      go_ret
      exact ⟨ret_bool (by rw [HP.out, List.drop_of_length_le (by omega)]; rfl), hb⟩
/-! ## HopsI2 -/
def hopsOk (m : Int) (es : List E3) (s : Int) (vs : List Int) : Bool := gOk m es && hasV m s && decide ((vs.length : Int) = m) && hopsI vs.length es s vs
theorem vset_all {n : Nat} (p : Int → Bool) : (vset n).all p = ((List.range n).all fun (i : Nat) => p (i : Int)) := by
  unfold vset
  rw [List.all_map]
  rfl

theorem hopsI_no1 {n : Nat} {es : List E3} {s : Int} {vs : List Int} {k : Nat} (hk : k < n) (h : c1 s vs k = false) : hopsI n es s vs = false := by
  unfold hopsI
  rw [show (vset n).all (c1 s vs) = false from ?_]
  · rfl
  · rw [List.all_eq_false]
    exact ⟨k, mem_vset.2 ⟨by omega, by omega⟩, by simp [h]⟩
/-- Does an edge give vertex u its bit? -/
def lkB (vs : List Int) (u : Int) (e : E3) : Bool := decide (0 < val vs e.2.1) && (decide (e.2.1 = u) && decide (val vs e.1 = val vs e.2.1 - 1))
theorem lkB_lk (vs : List Int) (es : List E3) (u : Int) (h : 0 < val vs u) : es.any (lkB vs u) = es.any (lk vs u) := by
  congr 1
  funext e
  unfold lkB lk
  rw [Bool.eq_iff_iff]
  simp only [Bool.and_eq_true, decide_eq_true_eq]
  constructor
  · rintro ⟨_, h1, h2⟩; subst h1; exact ⟨rfl, h2⟩
  · rintro ⟨h1, h2⟩; subst h1; exact ⟨h, rfl, h2⟩
theorem c1_at (s : Int) (vs : List Int) (k : Nat) : c1 s vs k = (decide (-1 ≤ vs.getD k 0) && (vs.getD k 0 == 0) == ((k : Int) == s)) := by
  unfold c1 val
  rw [Int.toNat_natCast]
  congr 1

set_option maxRecDepth 100000 in
set_option maxHeartbeats 4000000 in
theorem implHopsRight (m : Int) (ao vo : Option Addr) (c vc : Nat) (es : List E3) (s : Int) (vs : List Int) (w : World) (hl : es.length ≤ 1048576) (hlv : vs.length ≤ 1048576) (hs : Se w ao es) (hv : Sl w vo vs) (hI : ∀ z ∈ vs, I64 z) :
    Calls Tryd.prog 16 #[gr m ao es.length c, .int .i64 s, .slice vo vs.length vc] w fun e w' => e = .returned (.bool (hopsOk m es s vs)) ∧ Below w.heap.size w w' := by
  have KV := Lib.hid (fun W (g : Se W ao es) => Lib.hid (implGraphValid m ao c es W (by simp only [maxLen]; omega) g))
  have KH := Lib.hid (fun W => Lib.hid (implHas m ao es.length c s W))
  have H1 := Lib.hid hs
  have H2 := Lib.hid hv
  cases h1 : gOk m es
  · have HR : Hid (hopsOk m es s vs = false) := by unfold Hid hopsOk; rw [h1]; rfl
    have KV' : ∀ W (g : Se W ao es), Hid (Calls Tryd.prog 23 #[gr m ao es.length c] W fun e w' => e = .returned (.bool false) ∧ Below W.heap.size W w') := fun W g => by have h := (KV.out W g); rw [h1] at h; exact h
    have KV' := Lib.hid KV'
    clear h1 hs hv
    go_enter Tryd.func16, Tryd.ntmps16
    go_wp2_with fail
    refine (KV'.out _ (H1.out.below (B := w.heap.size) (by repeat' (first | (with_reducible exact Below.refl _ _) | (with_reducible assumption) | (with_reducible refine Below.alloc ?_ ?_ _) | (with_reducible refine Below.drew ?_) | (with_reducible refine below_drewN ?_ _) | (with_reducible refine Below.setCell ?_ ?_ _) | (refine bstep (by with_reducible assumption) ?_) | (refine bstep2 (by with_reducible assumption) (by first | omega | (simp; done) | (simp; omega)) ?_) | go_size)) (Nat.le_refl _))).out.mono ?_
    rintro e w1 ⟨rfl, hb1⟩
    (obtain ⟨hc1, hf1⟩ := bcell hb1); (try simp only [World.size_drew, World.size_drewN] at hc1 hf1); have hz1 := hb1.size; (try simp only [World.size_alloc, World.size_setCell, World.size_drew, World.size_drewN] at hz1); have hl1_0 : w.heap.size < w1.heap.size := (by omega)
    go_wp2
    go_ret
    exact ⟨ret_bool HR.out.symm, (by repeat' (first | (with_reducible exact Below.refl _ _) | (with_reducible assumption) | (with_reducible refine Below.alloc ?_ ?_ _) | (with_reducible refine Below.drew ?_) | (with_reducible refine below_drewN ?_ _) | (with_reducible refine Below.setCell ?_ ?_ _) | (refine bstep (by with_reducible assumption) ?_) | (refine bstep2 (by with_reducible assumption) (by first | omega | (simp; done) | (simp; omega)) ?_) | go_size))⟩
  · have KV' : ∀ W (g : Se W ao es), Hid (Calls Tryd.prog 23 #[gr m ao es.length c] W fun e w' => e = .returned (.bool true) ∧ Below W.heap.size W w') := fun W g => by have h := (KV.out W g); rw [h1] at h; exact h
    have KV' := Lib.hid KV'
    cases h2 : hasV m s
    · have HR : Hid (hopsOk m es s vs = false) := by unfold Hid hopsOk; rw [h1, h2]; rfl
      have KH' : ∀ W, Hid (Calls Tryd.prog 43 #[gr m ao es.length c, .int .i64 s] W fun e w' => e = .returned (.bool false) ∧ Below W.heap.size W w') := fun W => by have h := (KH.out W); rw [h2] at h; exact h
      have KH' := Lib.hid KH'
      clear h1 h2 hs hv
      go_enter Tryd.func16, Tryd.ntmps16
      go_wp2_with fail
      refine (KV'.out _ (H1.out.below (B := w.heap.size) (by repeat' (first | (with_reducible exact Below.refl _ _) | (with_reducible assumption) | (with_reducible refine Below.alloc ?_ ?_ _) | (with_reducible refine Below.drew ?_) | (with_reducible refine below_drewN ?_ _) | (with_reducible refine Below.setCell ?_ ?_ _) | (refine bstep (by with_reducible assumption) ?_) | (refine bstep2 (by with_reducible assumption) (by first | omega | (simp; done) | (simp; omega)) ?_) | go_size)) (Nat.le_refl _))).out.mono ?_
      rintro e w1 ⟨rfl, hb1⟩
      (obtain ⟨hc1, hf1⟩ := bcell hb1); (try simp only [World.size_drew, World.size_drewN] at hc1 hf1); have hz1 := hb1.size; (try simp only [World.size_alloc, World.size_setCell, World.size_drew, World.size_drewN] at hz1); have hl1_0 : w.heap.size < w1.heap.size := (by omega)
      go_wp2_with fail
      refine (KH'.out _).out.mono ?_
      rintro e w2 ⟨rfl, hb2⟩
      (obtain ⟨hc2, hf2⟩ := bcell hb2); (try simp only [World.size_drew, World.size_drewN] at hc2 hf2); have hz2 := hb2.size; (try simp only [World.size_alloc, World.size_setCell, World.size_drew, World.size_drewN] at hz2); have hl2_0 : w.heap.size < w2.heap.size := (by omega)
      go_wp2
      go_ret
      exact ⟨ret_bool HR.out.symm, (by repeat' (first | (with_reducible exact Below.refl _ _) | (with_reducible assumption) | (with_reducible refine Below.alloc ?_ ?_ _) | (with_reducible refine Below.drew ?_) | (with_reducible refine below_drewN ?_ _) | (with_reducible refine Below.setCell ?_ ?_ _) | (refine bstep (by with_reducible assumption) ?_) | (refine bstep2 (by with_reducible assumption) (by first | omega | (simp; done) | (simp; omega)) ?_) | go_size))⟩
    · have KH' : ∀ W, Hid (Calls Tryd.prog 43 #[gr m ao es.length c, .int .i64 s] W fun e w' => e = .returned (.bool true) ∧ Below W.heap.size W w') := fun W => by have h := (KH.out W); rw [h2] at h; exact h
      have KH' := Lib.hid KH'
      have hge := gOk_edges h1
      have hm16 : m ≤ 16 := by unfold gOk at h1; simp at h1; omega
      by_cases h3 : (vs.length : Int) = m
      · have HR : Hid (hopsOk m es s vs = hopsI vs.length es s vs) := by unfold Hid hopsOk; rw [h1, h2, decide_eq_true h3]; rfl
        have KE := Lib.hid (fun W (g : Se W ao es) (g' : Sl W vo vs) => Lib.hid (implEdgesKeepH m ao vo c vc es vs W hl hlv g g' hI (fun e he => by have := hge e he; omega)))
        have h3b : ((vs.length : Int) != m) = false := by simp [h3]
        have hvl : vs.length ≤ 16 := by omega
        have HG := Lib.hid (fun e he => (hge e he))
        obtain ⟨bv, ov, hav, hiv⟩ := hv.ints
        have hixv := hav.ix (c := vc) Tryd.underlying28 sz_int
        have HV := Lib.hid hiv
        have H3 := Lib.hid h3
        clear h1 h2 h3 hs hv hge hiv hav
        go_enter Tryd.func16, Tryd.ntmps16
        go_wp2_with fail
        refine (KV'.out _ (H1.out.below (B := w.heap.size) (by repeat' (first | (with_reducible exact Below.refl _ _) | (with_reducible assumption) | (with_reducible refine Below.alloc ?_ ?_ _) | (with_reducible refine Below.drew ?_) | (with_reducible refine below_drewN ?_ _) | (with_reducible refine Below.setCell ?_ ?_ _) | (refine bstep (by with_reducible assumption) ?_) | (refine bstep2 (by with_reducible assumption) (by first | omega | (simp; done) | (simp; omega)) ?_) | go_size)) (Nat.le_refl _))).out.mono ?_
        rintro e w1 ⟨rfl, hb1⟩
        (obtain ⟨hc1, hf1⟩ := bcell hb1); (try simp only [World.size_drew, World.size_drewN] at hc1 hf1); have hz1 := hb1.size; (try simp only [World.size_alloc, World.size_setCell, World.size_drew, World.size_drewN] at hz1); have hl1_0 : w.heap.size < w1.heap.size := (by omega)
        go_wp2_with fail
        refine (KH'.out _).out.mono ?_
        rintro e w2 ⟨rfl, hb2⟩
        (obtain ⟨hc2, hf2⟩ := bcell hb2); (try simp only [World.size_drew, World.size_drewN] at hc2 hf2); have hz2 := hb2.size; (try simp only [World.size_alloc, World.size_setCell, World.size_drew, World.size_drewN] at hz2); have hl2_0 : w.heap.size < w2.heap.size := (by omega)
        go_wp2
        go_loop [7, 8, 32] (fun _ _ i => ∃ k : Nat, k ≤ vs.length ∧ i = .int .i64 k ∧ Hid (∀ j : Nat, j < k → c1 s vs j = true)) (fun _ _ i => vs.length - (intOf i).toNat)
        case atStart => exact ⟨0, Nat.zero_le _, rfl, fun j hj => by omega⟩
        case round =>
          obtain ⟨k, hk, rfl, HP⟩ := hrel
          by_cases hlt : k < vs.length
          · have hc := HV.out.below (B := w.heap.size) (w' := w2) (by repeat' (first | (with_reducible exact Below.refl _ _) | (with_reducible assumption) | (with_reducible refine Below.alloc ?_ ?_ _) | (with_reducible refine Below.drew ?_) | (with_reducible refine below_drewN ?_ _) | (with_reducible refine Below.setCell ?_ ?_ _) | (refine bstep (by with_reducible assumption) ?_) | (refine bstep2 (by with_reducible assumption) (by first | omega | (simp; done) | (simp; omega)) ?_) | go_size)) (Nat.le_refl _) k hlt
            have hcs : c1 s vs k = false → hopsI vs.length es s vs = false := fun h => hopsI_no1 hlt h
            have HCS := Lib.hid hcs
            have HC1 := Lib.hid (c1_at s vs k)
            have hlti : (k : Int) < vs.length := by omega
            clear hcs
            generalize vs.getD k 0 = x at *
            by_cases hx : x < -1
            · go_wp2
              go_ret
              exact ⟨ret_bool (by rw [HR.out, HCS.out (by rw [HC1.out]; simp; intros; omega)]), (by repeat' (first | (with_reducible exact Below.refl _ _) | (with_reducible assumption) | (with_reducible refine Below.alloc ?_ ?_ _) | (with_reducible refine Below.drew ?_) | (with_reducible refine below_drewN ?_ _) | (with_reducible refine Below.setCell ?_ ?_ _) | (refine bstep (by with_reducible assumption) ?_) | (refine bstep2 (by with_reducible assumption) (by first | omega | (simp; done) | (simp; omega)) ?_) | go_size))⟩
            · have hx' : -1 ≤ x := by omega
              cases h0 : (x == 0)
              all_goals
                cases h4 : ((k : Int) == s)
                all_goals
                  have HCC : Hid (c1 s vs k = ((x == 0) == ((k : Int) == s))) := by unfold Hid; rw [HC1.out]; simp [hx']
                  have HH0 := Lib.hid h0
                  have HH4 := Lib.hid h4
                  first
                  | (go_wp2
                     go_ret
                     exact ⟨ret_bool (by rw [HR.out, HCS.out (by rw [HCC.out, HH0.out, HH4.out]; rfl)]), (by repeat' (first | (with_reducible exact Below.refl _ _) | (with_reducible assumption) | (with_reducible refine Below.alloc ?_ ?_ _) | (with_reducible refine Below.drew ?_) | (with_reducible refine below_drewN ?_ _) | (with_reducible refine Below.setCell ?_ ?_ _) | (refine bstep (by with_reducible assumption) ?_) | (refine bstep2 (by with_reducible assumption) (by first | omega | (simp; done) | (simp; omega)) ?_) | go_size))⟩)
                  | (go_wp2
                     go_round
                     case rel => exact ⟨k + 1, by omega, by go_num, fun j hj => by
                       rcases Nat.lt_or_ge j k with hjk | hjk
                       · exact HP.out j hjk
                       · obtain rfl : j = k := by omega
                         rw [HCC.out, HH0.out, HH4.out]; rfl⟩
                     case measure => simp [intOf]; omega)
          · have HA : Hid ((vset vs.length).all (c1 s vs) = true) := by
              unfold Hid
              rw [List.all_eq_true]
              intro v hv
              obtain ⟨g0, g1⟩ := mem_vset.1 hv
              obtain ⟨j, rfl⟩ := Int.eq_ofNat_of_zero_le g0
              exact HP.out j (by omega)
            cases hkp : es.all (kp vs 1)
            · have HF : Hid (hopsI vs.length es s vs = false) := by unfold Hid hopsI; rw [HA.out, hkp]; rfl
              have KE' := Lib.hid (KE.out w2 (H1.out.below (B := w.heap.size) (by repeat' (first | (with_reducible exact Below.refl _ _) | (with_reducible assumption) | (with_reducible refine Below.alloc ?_ ?_ _) | (with_reducible refine Below.drew ?_) | (with_reducible refine below_drewN ?_ _) | (with_reducible refine Below.setCell ?_ ?_ _) | (refine bstep (by with_reducible assumption) ?_) | (refine bstep2 (by with_reducible assumption) (by first | omega | (simp; done) | (simp; omega)) ?_) | go_size)) (Nat.le_refl _)) (H2.out.below (B := w.heap.size) (by repeat' (first | (with_reducible exact Below.refl _ _) | (with_reducible assumption) | (with_reducible refine Below.alloc ?_ ?_ _) | (with_reducible refine Below.drew ?_) | (with_reducible refine below_drewN ?_ _) | (with_reducible refine Below.setCell ?_ ?_ _) | (refine bstep (by with_reducible assumption) ?_) | (refine bstep2 (by with_reducible assumption) (by first | omega | (simp; done) | (simp; omega)) ?_) | go_size)) (Nat.le_refl _)))
              rw [hkp] at KE'
              clear hkp
              go_wp2_with fail
              refine KE'.out.out.mono ?_
              rintro e w3 ⟨rfl, hb3⟩
              go_wp2
              go_ret
              exact ⟨ret_bool (by rw [HR.out, HF.out]), (by repeat' (first | (with_reducible exact Below.refl _ _) | (with_reducible assumption) | (with_reducible refine Below.alloc ?_ ?_ _) | (with_reducible refine Below.drew ?_) | (with_reducible refine below_drewN ?_ _) | (with_reducible refine Below.setCell ?_ ?_ _) | (refine bstep (by with_reducible assumption) ?_) | (refine bstep2 (by with_reducible assumption) (by first | omega | (simp; done) | (simp; omega)) ?_) | go_size))⟩
            · have HF : Hid (hopsI vs.length es s vs = (vset vs.length).all (fd es vs)) := by unfold Hid hopsI; rw [HA.out, hkp]; rfl
              have KE' := Lib.hid (KE.out w2 (H1.out.below (B := w.heap.size) (by repeat' (first | (with_reducible exact Below.refl _ _) | (with_reducible assumption) | (with_reducible refine Below.alloc ?_ ?_ _) | (with_reducible refine Below.drew ?_) | (with_reducible refine below_drewN ?_ _) | (with_reducible refine Below.setCell ?_ ?_ _) | (refine bstep (by with_reducible assumption) ?_) | (refine bstep2 (by with_reducible assumption) (by first | omega | (simp; done) | (simp; omega)) ?_) | go_size)) (Nat.le_refl _)) (H2.out.below (B := w.heap.size) (by repeat' (first | (with_reducible exact Below.refl _ _) | (with_reducible assumption) | (with_reducible refine Below.alloc ?_ ?_ _) | (with_reducible refine Below.drew ?_) | (with_reducible refine below_drewN ?_ _) | (with_reducible refine Below.setCell ?_ ?_ _) | (refine bstep (by with_reducible assumption) ?_) | (refine bstep2 (by with_reducible assumption) (by first | omega | (simp; done) | (simp; omega)) ?_) | go_size)) (Nat.le_refl _)))
              rw [hkp] at KE'
              clear hkp
              go_wp2_with fail
              refine KE'.out.out.mono ?_
              rintro e w3 ⟨rfl, hb3⟩
              (obtain ⟨hc3, hf3⟩ := bcell hb3); (try simp only [World.size_drew, World.size_drewN] at hc3 hf3); have hz3 := hb3.size; (try simp only [World.size_alloc, World.size_setCell, World.size_drew, World.size_drewN] at hz3); have hl3_0 : w.heap.size < w3.heap.size := (by omega)
              go_wp2
              obtain ⟨b, o, ha, hE⟩ := (H1.out.below (B := w.heap.size) (w' := w3) (by repeat' (first | (with_reducible exact Below.refl _ _) | (with_reducible assumption) | (with_reducible refine Below.alloc ?_ ?_ _) | (with_reducible refine Below.drew ?_) | (with_reducible refine below_drewN ?_ _) | (with_reducible refine Below.setCell ?_ ?_ _) | (refine bstep (by with_reducible assumption) ?_) | (refine bstep2 (by with_reducible assumption) (by first | omega | (simp; done) | (simp; omega)) ?_) | go_size)) (Nat.le_refl _) : Se w3 ao es).edges
              have hix := ha.ixN (c := c) 3 Tryd.underlying23 sz_edge
              have HS := Lib.hid hE
              have HV3 := Lib.hid (HV.out.below (B := w.heap.size) (w' := w3) (by repeat' (first | (with_reducible exact Below.refl _ _) | (with_reducible assumption) | (with_reducible refine Below.alloc ?_ ?_ _) | (with_reducible refine Below.drew ?_) | (with_reducible refine below_drewN ?_ _) | (with_reducible refine Below.setCell ?_ ?_ _) | (refine bstep (by with_reducible assumption) ?_) | (refine bstep2 (by with_reducible assumption) (by first | omega | (simp; done) | (simp; omega)) ?_) | go_size)) (Nat.le_refl _))
              have hB3 : Hid (Below w.heap.size w w3) := (by repeat' (first | (with_reducible exact Below.refl _ _) | (with_reducible assumption) | (with_reducible refine Below.alloc ?_ ?_ _) | (with_reducible refine Below.drew ?_) | (with_reducible refine below_drewN ?_ _) | (with_reducible refine Below.setCell ?_ ?_ _) | (refine bstep (by with_reducible assumption) ?_) | (refine bstep2 (by with_reducible assumption) (by first | omega | (simp; done) | (simp; omega)) ?_) | go_size))
              clear hE ha
              go_loopw [9, 11, 55] (fun mm _ i wr => ∃ k M : Nat, k ≤ es.length ∧ M < 4294967296 ∧ mm = .int .u32 M ∧ i = .int .i64 k ∧ Below w3.heap.size w3 wr ∧ Hid (∀ u : Nat, u ≤ 31 → M.testBit u = (es.take k).any (lkB vs u))) (fun _ _ i _ => es.length - (intOf i).toNat)
              case atStart => exact ⟨0, 0, Nat.zero_le _, by omega, rfl, rfl, Below.refl _ _, fun u _ => by simp⟩
              case round =>
                obtain ⟨k, M, hk2, hM, rfl, rfl, hb, HM⟩ := hrel
                have hsz := hb.size
                by_cases hlt2 : k < es.length
                · have hlti : (k : Int) < es.length := by omega
                  have hEr : Edg wr b o es := HS.out.below hb (Nat.le_refl _)
                  obtain ⟨hc0, hc1, hc2⟩ := hEr k hlt2
                  have hbr : b < wr.heap.size := hEr.lt (by omega)
                  have hgk := HG.out es[k] (List.getElem_mem hlt2)
                  have hm3 := H3.out
                  have HT : Hid (es.take (k + 1) = es.take k ++ [es[k]]) := by unfold Hid; rw [List.take_succ_eq_append_getElem hlt2]
                  generalize es[k] = e at *
                  obtain ⟨ea, eb, ec⟩ := e
                  dsimp only at hc0 hc1 hc2 hgk
                  obtain ⟨na, rfl⟩ := Int.eq_ofNat_of_zero_le hgk.1.1
                  obtain ⟨nb, rfl⟩ := Int.eq_ofNat_of_zero_le hgk.2.1.1
                  have hna : na < vs.length := by omega
                  have hnb : nb < vs.length := by omega
                  have hIr : Ints wr bv ov vs := HV3.out.below hb (Nat.le_refl _)
                  have hv0 := hIr na hna
                  have hv1 := hIr nb hnb
                  have hbv : bv < wr.heap.size := hIr.lt (by omega)
                  have HL : Hid (∀ u : Nat, lkB vs u ((na : Int), (nb : Int), ec) = (decide (0 < vs.getD nb 0) && (decide ((nb : Int) = (u : Int)) && decide (vs.getD na 0 = vs.getD nb 0 - 1)))) := fun u => by unfold lkB val; simp
                  have hyI : vs.getD nb 0 ≤ 9223372036854775807 := by
                    rw [List.getD_eq_getElem?_getD, List.getElem?_eq_getElem hnb]
                    exact (hI _ (List.getElem_mem _)).2
                  have hnai : (na : Int) < vs.length := by omega
                  have hnbi : (nb : Int) < vs.length := by omega
                  generalize vs.getD na 0 = x at *
                  generalize vs.getD nb 0 = y at *
                  have KM := Lib.hid (fun W => Lib.hid (implMaskOf nb W (by omega)))
                  clear hEr hIr hgk hm3
                  by_cases hy : 0 < y
                  · have hyd : decide (0 < y) = true := by simp [hy]
                    have hyw : IntKind.i64.wrap (y - 1) = y - 1 := IntWalk.i64_in _ (by omega)
                    have hy0 : 0 < y := hy
                    by_cases hxy : x = y - 1
                    · have hxb : (x == y - 1) = true := by simp [hxy]
                      have HXY := Lib.hid hxy
                      clear hxy
                      have hN := pow_lt32 (show nb ≤ 31 by omega)
                      have HOr : Hid (∀ u : Nat, (M ||| 2 ^ nb).testBit u = (M.testBit u || decide (nb = u))) := fun u => by rw [Nat.testBit_or, Nat.testBit_two_pow]
                      have HN : Hid (bits .or .u32 (M : Int) ((2 ^ nb : Nat) : Int) = ((M ||| 2 ^ nb : Nat) : Int)) := u32_or_nat M (2 ^ nb) hM hN
                      have hMN : M ||| 2 ^ nb < 4294967296 := Nat.or_lt_two_pow (n := 32) (by omega) (by omega)
                      generalize M ||| 2 ^ nb = M2 at *
                      generalize 2 ^ nb = N2 at *
                      go_wp2
                      go_quiet (fail)
                      go_wp2_with fail
                      refine (KM.out _).out.mono ?_
                      rintro r w4 ⟨rfl, rfl⟩
                      go_wp2
                      go_roundw
                      case rel => exact ⟨k + 1, M2, by omega, hMN, by rw [HN.out], by go_num, (by repeat' (first | (with_reducible exact Below.refl _ _) | (with_reducible assumption) | (with_reducible refine Below.alloc ?_ ?_ _) | (with_reducible refine Below.drew ?_) | (with_reducible refine below_drewN ?_ _) | (with_reducible refine Below.setCell ?_ ?_ _) | (refine bstep (by with_reducible assumption) ?_) | (refine bstep2 (by with_reducible assumption) (by first | omega | (simp; done) | (simp; omega)) ?_) | go_size)), fun u hu => by rw [HT.out, List.any_append, ← HM.out u hu, HOr.out u]; congr 1; simp only [List.any_cons, List.any_nil, HL.out u, Bool.or_false]; rw [hyd, decide_eq_true HXY.out]; simp; omega⟩
                      case measure => simp [intOf]; omega
                    · have hxb : (x == y - 1) = false := by simp [hxy]
                      have HXY := Lib.hid hxy
                      clear hxy
                      go_wp2
                      go_quiet (fail)
                      go_wp2
                      go_roundw
                      case rel => exact ⟨k + 1, M, by omega, hM, rfl, by go_num, (by repeat' (first | (with_reducible exact Below.refl _ _) | (with_reducible assumption) | (with_reducible refine Below.alloc ?_ ?_ _) | (with_reducible refine Below.drew ?_) | (with_reducible refine below_drewN ?_ _) | (with_reducible refine Below.setCell ?_ ?_ _) | (refine bstep (by with_reducible assumption) ?_) | (refine bstep2 (by with_reducible assumption) (by first | omega | (simp; done) | (simp; omega)) ?_) | go_size)), fun u hu => by rw [HT.out, List.any_append, ← HM.out u hu]; rw [show [((na : Int), (nb : Int), ec)].any (lkB vs u) = false by simp only [List.any_cons, List.any_nil, HL.out u, Bool.or_false]; rw [decide_eq_false HXY.out]; simp, Bool.or_false]⟩
                      case measure => simp [intOf]; omega
                  · have hy' : y ≤ 0 := by omega
                    have hyd : decide (0 < y) = false := by simp; omega
                    go_wp2
                    go_quiet (fail)
                    go_wp2
                    go_roundw
                    case rel => exact ⟨k + 1, M, by omega, hM, rfl, by go_num, (by repeat' (first | (with_reducible exact Below.refl _ _) | (with_reducible assumption) | (with_reducible refine Below.alloc ?_ ?_ _) | (with_reducible refine Below.drew ?_) | (with_reducible refine below_drewN ?_ _) | (with_reducible refine Below.setCell ?_ ?_ _) | (refine bstep (by with_reducible assumption) ?_) | (refine bstep2 (by with_reducible assumption) (by first | omega | (simp; done) | (simp; omega)) ?_) | go_size)), fun u hu => by rw [HT.out, List.any_append, ← HM.out u hu]; rw [show [((na : Int), (nb : Int), ec)].any (lkB vs u) = false by simp only [List.any_cons, List.any_nil, HL.out u, Bool.or_false]; rw [decide_eq_false (by omega)]; rfl, Bool.or_false]⟩
                    case measure => simp [intOf]; omega
                · have HMM : Hid (∀ u : Nat, u ≤ 31 → M.testBit u = es.any (lkB vs u)) := fun u hu => by rw [HM.out u hu, List.take_of_length_le (by omega)]
                  clear HM
                  have hiv4 := HV3.out.below hb (Nat.le_refl _)
                  have HV4 := Lib.hid hiv4
                  clear hiv4
                  go_wp2
                  go_loop [12, 13, 87] (fun _ _ i => ∃ j : Nat, j ≤ vs.length ∧ i = .int .i64 j ∧ Hid (∀ v : Nat, v < j → fd es vs v = true)) (fun _ _ i => vs.length - (intOf i).toNat)
                  case atStart => exact ⟨0, Nat.zero_le _, rfl, fun v hv => by omega⟩
                  case round =>
                    obtain ⟨j, hj, rfl, HQ⟩ := hrel
                    by_cases hlt3 : j < vs.length
                    · have hcv := HV4.out j hlt3
                      have hlti3 : (j : Int) < vs.length := by omega
                      have HV0 : Hid (val vs j = vs.getD j 0) := by unfold Hid val; simp
                      have hfd : fd es vs j = false → hopsI vs.length es s vs = false := fun h => by
                        rw [HF.out, List.all_eq_false]
                        exact ⟨j, mem_vset.2 ⟨by omega, by omega⟩, by simp [h]⟩
                      have HFD := Lib.hid hfd
                      have HFE : Hid (0 < val vs j → fd es vs j = M.testBit j) := fun h => by rw [HMM.out j (by omega), lkB_lk vs es j h]; unfold fd; rw [decide_eq_false (by omega), Bool.false_or]
                      have HFN : Hid (¬ 0 < val vs j → fd es vs j = true) := fun h => by unfold fd; rw [decide_eq_true (by omega), Bool.true_or]
                      have KB := Lib.hid (fun W => Lib.hid (implMaskHas M j W hM (by omega)))
                      clear hfd
                      have HX := HV0
                      generalize vs.getD j 0 = x at *
                      by_cases hx : 0 < x
                      · cases hb2 : M.testBit j
                        all_goals
                          rw [hb2] at KB
                          have HB2 := Lib.hid hb2
                          have HX2 : Hid (0 < val vs j) := by unfold Hid; rw [HX.out]; exact hx
                          clear hb2
                        · go_wp2_with (first | (go_at_call 52; refine (KB.out _).out.mono ?_; rintro r w5 ⟨rfl, rfl⟩))
                          go_ret
                          exact ⟨ret_bool (by rw [HR.out, HFD.out (by rw [HFE.out HX2.out, HB2.out])]), hB3.out.trans (hb.mono hB3.out.size)⟩
                        · go_wp2_with (first | (go_at_call 52; refine (KB.out _).out.mono ?_; rintro r w5 ⟨rfl, rfl⟩))
                          go_round
                          case rel => exact ⟨j + 1, by omega, by go_num, fun v hv => by
                            rcases Nat.lt_or_ge v j with h | h
                            · exact HQ.out v h
                            · obtain rfl : v = j := by omega
                              rw [HFE.out HX2.out, HB2.out]⟩
                          case measure => simp [intOf]; omega
                      · have hx' : x ≤ 0 := by omega
                        have HX2 : Hid (¬ 0 < val vs j) := by unfold Hid; rw [HX.out]; omega
                        go_wp2
                        go_round
                        case rel => exact ⟨j + 1, by omega, by go_num, fun v hv => by
                          rcases Nat.lt_or_ge v j with h | h
                          · exact HQ.out v h
                          · obtain rfl : v = j := by omega
                            exact HFN.out HX2.out⟩
                        case measure => simp [intOf]; omega
                    · go_wp2
                      go_ret
                      exact ⟨ret_bool (by rw [HR.out, HF.out, eq_comm, List.all_eq_true]; intro v hv; obtain ⟨g0, g1⟩ := mem_vset.1 hv; obtain ⟨u, rfl⟩ := Int.eq_ofNat_of_zero_le g0; exact HQ.out u (by omega)), hB3.out.trans (hb.mono hB3.out.size)⟩
      · have HR : Hid (hopsOk m es s vs = false) := by unfold Hid hopsOk; rw [h1, h2, decide_eq_false h3]; rfl
        have h3b : ((vs.length : Int) != m) = true := by simp [h3]
        clear h1 h2 h3 hs hv
        go_enter Tryd.func16, Tryd.ntmps16
        go_wp2_with fail
        refine (KV'.out _ (H1.out.below (B := w.heap.size) (by repeat' (first | (with_reducible exact Below.refl _ _) | (with_reducible assumption) | (with_reducible refine Below.alloc ?_ ?_ _) | (with_reducible refine Below.drew ?_) | (with_reducible refine below_drewN ?_ _) | (with_reducible refine Below.setCell ?_ ?_ _) | (refine bstep (by with_reducible assumption) ?_) | (refine bstep2 (by with_reducible assumption) (by first | omega | (simp; done) | (simp; omega)) ?_) | go_size)) (Nat.le_refl _))).out.mono ?_
        rintro e w1 ⟨rfl, hb1⟩
        (obtain ⟨hc1, hf1⟩ := bcell hb1); (try simp only [World.size_drew, World.size_drewN] at hc1 hf1); have hz1 := hb1.size; (try simp only [World.size_alloc, World.size_setCell, World.size_drew, World.size_drewN] at hz1); have hl1_0 : w.heap.size < w1.heap.size := (by omega)
        go_wp2_with fail
        refine (KH'.out _).out.mono ?_
        rintro e w2 ⟨rfl, hb2⟩
        (obtain ⟨hc2, hf2⟩ := bcell hb2); (try simp only [World.size_drew, World.size_drewN] at hc2 hf2); have hz2 := hb2.size; (try simp only [World.size_alloc, World.size_setCell, World.size_drew, World.size_drewN] at hz2); have hl2_0 : w.heap.size < w2.heap.size := (by omega)
        go_wp2
        go_ret
        exact ⟨ret_bool HR.out.symm, (by repeat' (first | (with_reducible exact Below.refl _ _) | (with_reducible assumption) | (with_reducible refine Below.alloc ?_ ?_ _) | (with_reducible refine Below.drew ?_) | (with_reducible refine below_drewN ?_ _) | (with_reducible refine Below.setCell ?_ ?_ _) | (refine bstep (by with_reducible assumption) ?_) | (refine bstep2 (by with_reducible assumption) (by first | omega | (simp; done) | (simp; omega)) ?_) | go_size))⟩
end Go.Proofs.YtfdaoepbdolgiaaDoor
