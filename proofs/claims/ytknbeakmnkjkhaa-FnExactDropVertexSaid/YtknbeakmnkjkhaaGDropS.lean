/- Dropping a vertex, the reference. No statement of the seat is proved here. -/
import Derived.LoopN
import Derived.Deep.RegionHeld3
import Derived.Deep.RegionLaw
import Derived.Test.YtknbeakmnkjkhaaRows
import Derived.WalkKit
import Derived.WalkSpells
import Derived.WalkLawsBesides
import Derived.Lib.Hide
import Derived.Handy
import Derived.BigQuiet
import Derived.Deep.QuietTactic
import Derived.Test.YtknbeakmnkjkhaaLib
import Derived.Test.YtknbeakmnkjkhaaOwn
import Derived.Test.YtknbeakmnkjkhaaJobs
import Derived.Test.YtknbeakmnkjkhaaCodes
import Derived.Test.YtknbeakmnkjkhaaCodes2
import Derived.Test.YtknbeakmnkjkhaaCodes3
import Derived.Test.YtknbeakmnkjkhaaFrames
import Derived.Test.YtknbeakmnkjkhaaFrames2
import Derived.Test.YtknbeakmnkjkhaaGraphs
import Derived.Test.YtknbeakmnkjkhaaGValid
import Derived.Test.YtknbeakmnkjkhaaGValidS
import Derived.Test.YtknbeakmnkjkhaaGCopy
import Derived.Test.YtknbeakmnkjkhaaGDrop
set_option linter.unusedSimpArgs false
set_option linter.unusedVariables false
namespace Go.Proofs.Ytknbeakmnkjkhaa
open Go.RowKit

theorem Bx.set0 {w : World} {b : Nat} {u v : Value} (h : Bx w b u v) (x : Value) : Bx (w.setCell ⟨b, 0, none⟩ x) b x v :=
  ⟨World.cell?_setCell_same w _ _ h.c0, (World.cell?_setCell_other w _ _ _ (by simp)).trans h.c1, by rw [World.frozen?_setCell]; exact h.f0, by rw [World.frozen?_setCell]; exact h.f1⟩
theorem Bx.set_other {w : World} {b : Nat} {u v : Value} (h : Bx w b u v) {p : Addr} (hp : p.block ≠ b) (x : Value) : Bx (w.setCell p x) b u v :=
  ⟨(World.cell?_setCell_other w _ _ _ (fun e => hp (by first | (rw [e]; done) | (rw [← e]; done) | (cases e; rfl)))).trans h.c0, (World.cell?_setCell_other w _ _ _ (fun e => hp (by first | (rw [e]; done) | (rw [← e]; done) | (cases e; rfl)))).trans h.c1, by rw [World.frozen?_setCell]; exact h.f0, by rw [World.frozen?_setCell]; exact h.f1⟩
theorem Bx.drew {w : World} {b : Nat} {u v : Value} (h : Bx w b u v) : Bx w.drew b u v := ⟨h.c0, h.c1, h.f0, h.f1⟩
def fltV (m v : Int) (e : E3) : Bool := offV v e || !hasV m v
theorem flt_res (m : Int) (es : List E3) (v : Int) (h : gOk m es = true) : dropR m es v = (m, es.filter (fltV m v), hasV m v) := by
  unfold dropR
  rw [if_pos h]
  split
  · rename_i hh
    rw [hh, show fltV m v = offV v from funext fun e => by simp [fltV, hh]]
  · rename_i hh
    have hh : hasV m v = false := by simpa using hh
    rw [hh, show fltV m v = fun _ => true from funext fun e => by simp [fltV, hh]]
    rw [List.filter_eq_self.2 (fun _ _ => rfl)]

set_option maxRecDepth 100000 in
set_option maxHeartbeats 4000000 in
theorem specDropVertex (m : Int) (ao : Option Addr) (c : Nat) (es : List E3) (v : Int) (w : World) (hl : es.length ≤ 1048576) (hs : Se w ao es) :
    Calls Try.prog 16 #[gr m ao es.length c, .int .i64 v] w (GwP w (dropR m es v)) := by
  have fin : ∀ r, dropR m es v = r → ∀ e w', GwP w r e w' → GwP w (dropR m es v) e w' := fun r hr e w' h => by rw [hr]; exact h
  have FIN := Lib.hid fin
  clear fin
  have KO := Lib.hid (fun W (g : Se W ao es) => Lib.hid (specL1OwnGraph m ao c es W hl g))
  have KV := fun a k W (g : Se W a es) => Lib.hid (specGraphValid m a k es W (by simp only [maxLen]; omega) g)
  have H1 := Lib.hid hs
  cases hv : gOk m es
  · have HR : Hid (dropR m es v = (0, [], false)) := by unfold Hid dropR; rw [hv]; rfl
    rw [hv] at KV
    have KV := Lib.hid KV
    clear hs hv
    go_enter Try.func16, Try.ntmps16
    go_wp2_with fail
    refine (KO.out _ (H1.out.below (B := w.heap.size) (by repeat' (first | (with_reducible exact Below.refl _ _) | (with_reducible assumption) | (with_reducible refine Below.alloc ?_ ?_ _) | (with_reducible refine Below.drew ?_) | (with_reducible refine below_drewN ?_ _) | (with_reducible refine Below.setCell ?_ ?_ _) | (refine bstep (by with_reducible assumption) ?_) | (refine bstep2 (by with_reducible assumption) (by first | omega | (simp; done) | (simp; omega)) ?_) | go_size)) (Nat.le_refl _))).out.mono ?_
    unfold GrP
    rintro e w1 ⟨a1, k1, rfl, hown1, hb1⟩
    (obtain ⟨hc1, hf1⟩ := bcell hb1); (try simp only [World.size_drew, World.size_drewN] at hc1 hf1); have hz1 := hb1.size; (try simp only [World.size_alloc, World.size_setCell, World.size_drew, World.size_drewN] at hz1); have hl1_0 : w.heap.size < w1.heap.size := (by omega); have hl1_1 : w.heap.size + 1 < w1.heap.size := (by omega)
    have hX1 : blk a1 ≠ some w.heap.size := fun e => by have h := (hown1.lt_ _ e).1; (try simp at h); omega
    have O1 := Lib.hid hown1
    clear hown1
    go_wp2_with fail
    refine (KV.out _ _ _ (((O1.out.set_other hX1 _).set_other hX1 _).src)).out.mono ?_
    rintro e w2 ⟨rfl, hb2⟩
    (obtain ⟨hc2, hf2⟩ := bcell hb2); (try simp only [World.size_drew, World.size_drewN] at hc2 hf2); have hz2 := hb2.size; (try simp only [World.size_alloc, World.size_setCell, World.size_drew, World.size_drewN] at hz2); have hl2_0 : w.heap.size < w2.heap.size := (by omega); have hl2_1 : w.heap.size + 1 < w2.heap.size := (by omega)
    go_wp2
    exact bodyPost_ret (v := .tuple #[gr 0 none 0 0, .bool false]) (by simp [results, Try.results16, go_sem, *]) rfl (FIN.out _ HR.out _ _ ⟨none, 0, rfl, Own.nil_ _ _ _ _, (by repeat' (first | (with_reducible exact Below.refl _ _) | (with_reducible assumption) | (with_reducible refine Below.alloc ?_ ?_ _) | (with_reducible refine Below.drew ?_) | (with_reducible refine below_drewN ?_ _) | (with_reducible refine Below.setCell ?_ ?_ _) | (refine bstep (by with_reducible assumption) ?_) | (refine bstep2 (by with_reducible assumption) (by first | omega | (simp; done) | (simp; omega)) ?_) | go_size))⟩)
  · have HR := Lib.hid (flt_res m es v hv)
    have hln : es.length ≤ 40 := by unfold gOk at hv; simp at hv; exact hv.1.2
    have hm0 : 0 ≤ m := by unfold gOk at hv; simp at hv; omega
    have hm1 : m ≤ 16 := by unfold gOk at hv; simp at hv; omega
    have KI : Hid (∀ W, Calls Try.prog 62 #[.int .i64 v, .int .i64 0, .int .i64 (m - 1)] W fun e w' => e = .returned (.bool (hasV m v)) ∧ W = w') := fun W => by
      have h := specL1In v 0 (m - 1) W
      rw [show decide (0 ≤ v ∧ v ≤ m - 1) = hasV m v by unfold hasV; rw [Bool.eq_iff_iff]; simp; omega] at h
      exact h
    have hF : ∀ e : E3, fltV m v e = (offV v e || !hasV m v) := fun e => rfl
    have HF := Lib.hid hF
    rw [hv] at KV
    have KV := Lib.hid KV
    clear hs hv hF
    generalize fltV m v = flt at *
    generalize hasV m v = q at *
    go_enter Try.func16, Try.ntmps16
    go_wp2_with fail
    refine (KO.out _ (H1.out.below (B := w.heap.size) (by repeat' (first | (with_reducible exact Below.refl _ _) | (with_reducible assumption) | (with_reducible refine Below.alloc ?_ ?_ _) | (with_reducible refine Below.drew ?_) | (with_reducible refine below_drewN ?_ _) | (with_reducible refine Below.setCell ?_ ?_ _) | (refine bstep (by with_reducible assumption) ?_) | (refine bstep2 (by with_reducible assumption) (by first | omega | (simp; done) | (simp; omega)) ?_) | go_size)) (Nat.le_refl _))).out.mono ?_
    unfold GrP
    rintro e w1 ⟨a1, k1, rfl, hown1, hb1⟩
    (obtain ⟨hc1, hf1⟩ := bcell hb1); (try simp only [World.size_drew, World.size_drewN] at hc1 hf1); have hz1 := hb1.size; (try simp only [World.size_alloc, World.size_setCell, World.size_drew, World.size_drewN] at hz1); have hl1_0 : w.heap.size < w1.heap.size := (by omega); have hl1_1 : w.heap.size + 1 < w1.heap.size := (by omega)
    have hX1 : blk a1 ≠ some w.heap.size := fun e => by have h := (hown1.lt_ _ e).1; (try simp at h); omega
    have O1 := Lib.hid hown1
    clear hown1
    have bG1 := (Bx.new w (.int .i64 m) (.slice ao es.length c) 28 rfl).alloc (.cells #[.int .i64 0, .slice none 0 0] 28) |>.below hb1 (by simp)
    have bR1 := (Bx.new (w.alloc (.cells #[.int .i64 m, .slice ao es.length c] 28)) (.int .i64 0) (.slice none 0 0) 28 (N := w.heap.size + 1) (by simp)).below hb1 (by simp)
    have OS := Lib.hid ((O1.out.set_other (a := ⟨w.heap.size, 0, none⟩) hX1 (.int .i64 m)).set_other (a := ⟨w.heap.size, 1, none⟩) hX1 (.slice a1 es.length k1))
    have bG2 := ((bG1.set0 (.int .i64 m)).set1 (.slice a1 es.length k1))
    have bR2 := ((bR1.set_other (p := ⟨w.heap.size, 0, none⟩) (by simp) (.int .i64 m)).set_other (p := ⟨w.heap.size, 1, none⟩) (by simp) (.slice a1 es.length k1))
    go_wp2_with fail
    refine (KV.out _ _ _ OS.out.src).out.mono ?_
    rintro e w2 ⟨rfl, hb2⟩
    have bG : Bx w2 w.heap.size (.int .i64 m) (.slice a1 es.length k1) := bG2.below hb2 (by simp; omega)
    have bR : Bx w2 (w.heap.size + 1) (.int .i64 0) (.slice none 0 0) := bR2.below hb2 (by simp; omega)
    have hz2 := hb2.size
    simp only [World.size_setCell] at hz2
    have O2 := OS.out.below_ hb2 (Nat.le_refl _)
    have hB2 : Hid (Below w.heap.size w w2) := (by repeat' (first | (with_reducible exact Below.refl _ _) | (with_reducible assumption) | (with_reducible refine Below.alloc ?_ ?_ _) | (with_reducible refine Below.drew ?_) | (with_reducible refine below_drewN ?_ _) | (with_reducible refine Below.setCell ?_ ?_ _) | (refine bstep (by with_reducible assumption) ?_) | (refine bstep2 (by with_reducible assumption) (by first | omega | (simp; done) | (simp; omega)) ?_) | go_size))
    obtain ⟨b, o, ha, hE⟩ := Src.edges O2.src
    have hix := ha.ixN (c := k1) 3 Try.underlying26 sz_edge
    have HS := Lib.hid hE
    have HLT := Lib.hid (fun (h : 0 < es.length) => hE.lt h)
    have hlg : w.heap.size < w2.heap.size := by omega
    have hlr : w.heap.size + 1 < w2.heap.size := by omega
    clear hc1 hf1 hb1 hz1 hb2 O2 hE ha hl1_0 hl1_1 bG1 bR1 bG2 bR2 OS
    have cg0 := bG.c0
    have cg1 := bG.c1
    go_wp2
    go_loopw [7] (fun i wr => ∃ (k : Nat) (acc : List E3) (a : Option Addr) (d : Nat), k ≤ es.length ∧ acc.length ≤ k ∧ i = .int .i64 k ∧ Bx wr w2.heap.size (.int .i64 m) (.slice a acc.length d) ∧ Hid (Own wr (w2.heap.size + 1) 47 3 a acc.length d (ev acc)) ∧ Below w2.heap.size w2 wr ∧ Hid (es.filter flt = acc ++ (es.drop k).filter flt)) (fun i _ => es.length - (intOf i).toNat)
    case atStart => exact ⟨0, [], none, 0, Nat.zero_le _, Nat.zero_le _, rfl, Bx.new _ _ _ _ rfl, Own.nil_ _ _ _ _, (by repeat' (first | (with_reducible exact Below.refl _ _) | (with_reducible assumption) | (with_reducible refine Below.alloc ?_ ?_ _) | (with_reducible refine Below.drew ?_) | (with_reducible refine below_drewN ?_ _) | (with_reducible refine Below.setCell ?_ ?_ _) | (refine bstep (by with_reducible assumption) ?_) | (refine bstep2 (by with_reducible assumption) (by first | omega | (simp; done) | (simp; omega)) ?_) | go_size)), rfl⟩
    case round =>
      obtain ⟨k, acc, a, d, hk, hak, rfl, bL, HO, hb, HP⟩ := hrel
      have hsr := hb.size
      have bGr := bG.below hb hlg
      have bRr := bR.below hb hlr
      have cg0 := bGr.c0
      have cg1 := bGr.c1
      have cl0 := bL.c0
      have cl1 := bL.c1
      have fl1 := bL.f1
      have hll := bL.lt
      have BL := Lib.hid bL
      have BR := Lib.hid bRr
      clear bL bGr
      by_cases hlt : k < es.length
      · have hlti : (k : Int) < es.length := by omega
        have hEr : Edg wr b o es := HS.out.below hb (Nat.le_refl _)
        obtain ⟨hc0, hc1, hc2⟩ := hEr k hlt
        have hbr : b < wr.heap.size := hEr.lt (by omega)
        have HD : Hid ((es.drop k).filter flt = (if flt es[k] = true then [es[k]] else []) ++ (es.drop (k + 1)).filter flt) := by
          unfold Hid; rw [List.drop_eq_getElem_cons hlt, List.filter_cons]; split <;> simp
        clear hEr bRr
        generalize es[k] = e at *
        obtain ⟨ea, eb, ec⟩ := e
        dsimp only at hc0 hc1 hc2
        by_cases h1 : ea = v
        · have h1b : (ea != v) = false := by simp [h1]
          have HN := Lib.hid (show offV v (ea, eb, ec) = false by simp [offV, h1])
          clear h1
          cases q
          · go_wp2_with (first | (go_at_call 62; refine (KI.out _).mono ?_; rintro e w3 ⟨rfl, rfl⟩))
            go_region_law (first | (refine step_app (cs := ev acc) _ el_edge rfl (.tmp 51) (.tmp 57) (by rfl) (w2.heap.size + 1) (by rfl) (by have h := HO.out; repeat' (first | (with_reducible assumption) | (with_reducible apply Own.drew_) | (with_reducible apply Own.drewN_) | (with_reducible apply Own.alloc_) | (with_reducible refine Own.set_other ?_ ?_ _) | (refine Own.kept_ ?_ (by with_reducible assumption) ?_) | (refine Own.below_ ?_ (by with_reducible assumption) ?_) | (exact Nat.le_refl _) | omega)) (by rfl) (Src.newN (m := 1) (by simp) rfl) (by simp [Value.oneCell']) (by simp only [maxLen]; omega) (by omega) (by simp; omega) ?_; intro ao3 c3 w3 hown3 hg3 hat3 hz3; have bL3 : Bx w3 w2.heap.size (.int .i64 m) (.slice a acc.length d) := (by first | exact Bx.far (BL.out.alloc _).drew (HO.out.alloc_ _).drew_ hg3 (Nat.lt_succ_self _) | exact Bx.far (BL.out.alloc _) (HO.out.alloc_ _) hg3 (Nat.lt_succ_self _) | exact Bx.far (BL.out.drew.alloc _) (HO.out.drew_.alloc_ _) hg3 (Nat.lt_succ_self _)); have cl0 := bL3.c0; have cl1 := bL3.c1; have fl1 := bL3.f1; have hb3 : Below w2.heap.size w2 w3 := (by refine below_grown ?_ hg3 ?_ ?_ <;> first | (intro g hg; have := (HO.out.lt_ g hg).1; omega) | omega | (simp; done) | (simp; omega) | exact (by repeat' (first | (with_reducible exact Below.refl _ _) | (with_reducible assumption) | (with_reducible refine Below.alloc ?_ ?_ _) | (with_reducible refine Below.drew ?_) | (with_reducible refine below_drewN ?_ _) | (with_reducible refine Below.setCell ?_ ?_ _) | (refine bstep (by with_reducible assumption) ?_) | (refine bstep2 (by with_reducible assumption) (by first | omega | (simp; done) | (simp; omega)) ?_) | go_size))); have BL3 := Lib.hid bL3; have O3 := Lib.hid (own_len hown3 rfl (show _ = ev (acc ++ [(ea, eb, ec)]) by rw [ev_append]; rfl)); clear bL3 hown3 hg3 hat3 hz3))
            all_goals
              go_wp2
              go_roundw
              case rel =>
                have hne : blk ao3 ≠ some w2.heap.size := fun e => by have := (O3.out.lt_ _ e).1; omega
                refine ⟨k + 1, acc ++ [(ea, eb, ec)], ao3, c3, by omega, by simp; omega, by go_num, ?_, ?_, (by repeat' (first | (with_reducible exact Below.refl _ _) | (with_reducible assumption) | (with_reducible refine Below.alloc ?_ ?_ _) | (with_reducible refine Below.drew ?_) | (with_reducible refine below_drewN ?_ _) | (with_reducible refine Below.setCell ?_ ?_ _) | (refine bstep (by with_reducible assumption) ?_) | (refine bstep2 (by with_reducible assumption) (by first | omega | (simp; done) | (simp; omega)) ?_) | go_size)), by unfold Hid; rw [HP.out, HD.out, HF.out, HN.out]; simp⟩
                · have h := BL3.out.set1 (.slice ao3 (acc.length + 1) c3)
                  simpa using h
                · exact Lib.hid (own_len (O3.out.set_other hne _) (by simp) rfl)
              case measure => simp [intOf]; omega
          · go_wp2_with (first | (go_at_call 62; refine (KI.out _).mono ?_; rintro e w3 ⟨rfl, rfl⟩))
            go_roundw
            case rel => exact ⟨k + 1, acc, a, d, by omega, by omega, by go_num, BL.out, HO, hb, by unfold Hid; rw [HP.out, HD.out, HF.out, HN.out]; simp⟩
            case measure => simp [intOf]; omega
        · have h1b : (ea != v) = true := by simp [h1]
          by_cases h2 : eb = v
          · have h2b : (eb != v) = false := by simp [h2]
            have HN := Lib.hid (show offV v (ea, eb, ec) = false by simp [offV, h2])
            clear h1 h2
            cases q
            · go_wp2_with (first | (go_at_call 62; refine (KI.out _).mono ?_; rintro e w3 ⟨rfl, rfl⟩))
              go_region_law (first | (refine step_app (cs := ev acc) _ el_edge rfl (.tmp 51) (.tmp 57) (by rfl) (w2.heap.size + 1) (by rfl) (by have h := HO.out; repeat' (first | (with_reducible assumption) | (with_reducible apply Own.drew_) | (with_reducible apply Own.drewN_) | (with_reducible apply Own.alloc_) | (with_reducible refine Own.set_other ?_ ?_ _) | (refine Own.kept_ ?_ (by with_reducible assumption) ?_) | (refine Own.below_ ?_ (by with_reducible assumption) ?_) | (exact Nat.le_refl _) | omega)) (by rfl) (Src.newN (m := 1) (by simp) rfl) (by simp [Value.oneCell']) (by simp only [maxLen]; omega) (by omega) (by simp; omega) ?_; intro ao3 c3 w3 hown3 hg3 hat3 hz3; have bL3 : Bx w3 w2.heap.size (.int .i64 m) (.slice a acc.length d) := (by first | exact Bx.far (BL.out.alloc _).drew (HO.out.alloc_ _).drew_ hg3 (Nat.lt_succ_self _) | exact Bx.far (BL.out.alloc _) (HO.out.alloc_ _) hg3 (Nat.lt_succ_self _) | exact Bx.far (BL.out.drew.alloc _) (HO.out.drew_.alloc_ _) hg3 (Nat.lt_succ_self _)); have cl0 := bL3.c0; have cl1 := bL3.c1; have fl1 := bL3.f1; have hb3 : Below w2.heap.size w2 w3 := (by refine below_grown ?_ hg3 ?_ ?_ <;> first | (intro g hg; have := (HO.out.lt_ g hg).1; omega) | omega | (simp; done) | (simp; omega) | exact (by repeat' (first | (with_reducible exact Below.refl _ _) | (with_reducible assumption) | (with_reducible refine Below.alloc ?_ ?_ _) | (with_reducible refine Below.drew ?_) | (with_reducible refine below_drewN ?_ _) | (with_reducible refine Below.setCell ?_ ?_ _) | (refine bstep (by with_reducible assumption) ?_) | (refine bstep2 (by with_reducible assumption) (by first | omega | (simp; done) | (simp; omega)) ?_) | go_size))); have BL3 := Lib.hid bL3; have O3 := Lib.hid (own_len hown3 rfl (show _ = ev (acc ++ [(ea, eb, ec)]) by rw [ev_append]; rfl)); clear bL3 hown3 hg3 hat3 hz3))
              all_goals
                go_wp2
                go_roundw
                case rel =>
                  have hne : blk ao3 ≠ some w2.heap.size := fun e => by have := (O3.out.lt_ _ e).1; omega
                  refine ⟨k + 1, acc ++ [(ea, eb, ec)], ao3, c3, by omega, by simp; omega, by go_num, ?_, ?_, (by repeat' (first | (with_reducible exact Below.refl _ _) | (with_reducible assumption) | (with_reducible refine Below.alloc ?_ ?_ _) | (with_reducible refine Below.drew ?_) | (with_reducible refine below_drewN ?_ _) | (with_reducible refine Below.setCell ?_ ?_ _) | (refine bstep (by with_reducible assumption) ?_) | (refine bstep2 (by with_reducible assumption) (by first | omega | (simp; done) | (simp; omega)) ?_) | go_size)), by unfold Hid; rw [HP.out, HD.out, HF.out, HN.out]; simp⟩
                  · have h := BL3.out.set1 (.slice ao3 (acc.length + 1) c3)
                    simpa using h
                  · exact Lib.hid (own_len (O3.out.set_other hne _) (by simp) rfl)
                case measure => simp [intOf]; omega
            · go_wp2_with (first | (go_at_call 62; refine (KI.out _).mono ?_; rintro e w3 ⟨rfl, rfl⟩))
              go_roundw
              case rel => exact ⟨k + 1, acc, a, d, by omega, by omega, by go_num, BL.out, HO, hb, by unfold Hid; rw [HP.out, HD.out, HF.out, HN.out]; simp⟩
              case measure => simp [intOf]; omega
          · have h2b : (eb != v) = true := by simp [h2]
            have HN := Lib.hid (show offV v (ea, eb, ec) = true by simp [offV, h1, h2])
            clear h1 h2
            go_wp2
            go_region_law (first | (refine step_app (cs := ev acc) _ el_edge rfl (.tmp 51) (.tmp 57) (by rfl) (w2.heap.size + 1) (by rfl) (by have h := HO.out; repeat' (first | (with_reducible assumption) | (with_reducible apply Own.drew_) | (with_reducible apply Own.drewN_) | (with_reducible apply Own.alloc_) | (with_reducible refine Own.set_other ?_ ?_ _) | (refine Own.kept_ ?_ (by with_reducible assumption) ?_) | (refine Own.below_ ?_ (by with_reducible assumption) ?_) | (exact Nat.le_refl _) | omega)) (by rfl) (Src.newN (m := 1) (by simp) rfl) (by simp [Value.oneCell']) (by simp only [maxLen]; omega) (by omega) (by simp; omega) ?_; intro ao3 c3 w3 hown3 hg3 hat3 hz3; have bL3 : Bx w3 w2.heap.size (.int .i64 m) (.slice a acc.length d) := (by first | exact Bx.far (BL.out.alloc _).drew (HO.out.alloc_ _).drew_ hg3 (Nat.lt_succ_self _) | exact Bx.far (BL.out.alloc _) (HO.out.alloc_ _) hg3 (Nat.lt_succ_self _) | exact Bx.far (BL.out.drew.alloc _) (HO.out.drew_.alloc_ _) hg3 (Nat.lt_succ_self _)); have cl0 := bL3.c0; have cl1 := bL3.c1; have fl1 := bL3.f1; have hb3 : Below w2.heap.size w2 w3 := (by refine below_grown ?_ hg3 ?_ ?_ <;> first | (intro g hg; have := (HO.out.lt_ g hg).1; omega) | omega | (simp; done) | (simp; omega) | exact (by repeat' (first | (with_reducible exact Below.refl _ _) | (with_reducible assumption) | (with_reducible refine Below.alloc ?_ ?_ _) | (with_reducible refine Below.drew ?_) | (with_reducible refine below_drewN ?_ _) | (with_reducible refine Below.setCell ?_ ?_ _) | (refine bstep (by with_reducible assumption) ?_) | (refine bstep2 (by with_reducible assumption) (by first | omega | (simp; done) | (simp; omega)) ?_) | go_size))); have BL3 := Lib.hid bL3; have O3 := Lib.hid (own_len hown3 rfl (show _ = ev (acc ++ [(ea, eb, ec)]) by rw [ev_append]; rfl)); clear bL3 hown3 hg3 hat3 hz3))
            all_goals
              go_wp2
              go_roundw
              case rel =>
                have hne : blk ao3 ≠ some w2.heap.size := fun e => by have := (O3.out.lt_ _ e).1; omega
                refine ⟨k + 1, acc ++ [(ea, eb, ec)], ao3, c3, by omega, by simp; omega, by go_num, ?_, ?_, (by repeat' (first | (with_reducible exact Below.refl _ _) | (with_reducible assumption) | (with_reducible refine Below.alloc ?_ ?_ _) | (with_reducible refine Below.drew ?_) | (with_reducible refine below_drewN ?_ _) | (with_reducible refine Below.setCell ?_ ?_ _) | (refine bstep (by with_reducible assumption) ?_) | (refine bstep2 (by with_reducible assumption) (by first | omega | (simp; done) | (simp; omega)) ?_) | go_size)), by unfold Hid; rw [HP.out, HD.out, HF.out, HN.out]; simp⟩
                · have h := BL3.out.set1 (.slice ao3 (acc.length + 1) c3)
                  simpa using h
                · exact Lib.hid (own_len (O3.out.set_other hne _) (by simp) rfl)
              case measure => simp [intOf]; omega
      · have HX : Hid (es.filter flt = acc) := by unfold Hid; rw [HP.out, List.drop_of_length_le (by omega)]; simp
        have r0 := bRr.c0
        have r1 := bRr.c1
        have r2 := bRr.f0
        have r3 := bRr.f1
        have hne : blk a ≠ some (w.heap.size + 1) := fun e => by have := (HO.out.lt_ _ e).1; omega
        have hO := HO.out.mono_ (show w.heap.size ≤ w2.heap.size + 1 by omega)
        have hBB : Below w.heap.size w wr := hB2.out.trans (hb.mono hB2.out.size)
        have hn12 : ¬ w2.heap.size = w.heap.size + 1 := by omega
        have hn13 : ¬ w.heap.size + 1 = w2.heap.size := by omega
        have hmw : IntKind.i64.wrap (m - 1) = m - 1 := IntWalk.i64_in _ (by omega)
        go_wp2
        go_region_held3 (fun w' => w'.cell? ⟨w2.heap.size, 0, none⟩ = some (.int .i64 m) ∧ w'.cell? ⟨w2.heap.size, 1, none⟩ = some (.slice a acc.length d) ∧ w'.cell? ⟨w.heap.size, 0, none⟩ = some (.int .i64 m)) (go_keep) (first | ((try go_simp); go_at_call 62; (with_reducible refine (KI.out _).mono ?_); rintro e w3 ⟨rfl, rfl⟩))
        all_goals
          go_wp2
          refine bodyPost_ret (v := .tuple #[gr m a acc.length d, .bool q]) (by simp [results, Try.results16, go_sem, *]) rfl (FIN.out _ HR.out _ _ ?_)
          rw [HX.out]
          refine ⟨a, d, rfl, ?_, ?_⟩
          · repeat' (first | (with_reducible assumption) | (with_reducible apply Own.drew_) | (with_reducible apply Own.drewN_) | (with_reducible apply Own.alloc_) | (with_reducible refine Own.set_other ?_ ?_ _) | (refine Own.kept_ ?_ (by with_reducible assumption) ?_) | (refine Own.below_ ?_ (by with_reducible assumption) ?_) | (exact Nat.le_refl _) | omega)
          · exact (by repeat' (first | (with_reducible exact Below.refl _ _) | (with_reducible assumption) | (with_reducible refine Below.alloc ?_ ?_ _) | (with_reducible refine Below.drew ?_) | (with_reducible refine below_drewN ?_ _) | (with_reducible refine Below.setCell ?_ ?_ _) | (refine bstep (by with_reducible assumption) ?_) | (refine bstep2 (by with_reducible assumption) (by first | omega | (simp; done) | (simp; omega)) ?_) | go_size))
end Go.Proofs.Ytknbeakmnkjkhaa
