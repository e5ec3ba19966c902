/- Dropping a vertex, both texts. No statement of the seat is proved here. -/
import Derived.LoopN
import Derived.Deep.RegionHeld3
import Derived.Deep.RegionLaw
import Derived.Test.YtknbeakmnkjkhaaRows
import Derived.WalkKit
import Derived.WalkSpells
import Derived.WalkLawsBesides
import Derived.Lib.Hide
import Derived.Handy
import Derived.BigQuiet
import Derived.Deep.QuietTactic
import Derived.Test.YtknbeakmnkjkhaaLib
import Derived.Test.YtknbeakmnkjkhaaOwn
import Derived.Test.YtknbeakmnkjkhaaJobs
import Derived.Test.YtknbeakmnkjkhaaCodes
import Derived.Test.YtknbeakmnkjkhaaCodes2
import Derived.Test.YtknbeakmnkjkhaaCodes3
import Derived.Test.YtknbeakmnkjkhaaFrames
import Derived.Test.YtknbeakmnkjkhaaFrames2
import Derived.Test.YtknbeakmnkjkhaaGraphs
import Derived.Test.YtknbeakmnkjkhaaGValid
import Derived.Test.YtknbeakmnkjkhaaGValidS
import Derived.Test.YtknbeakmnkjkhaaGCopy
set_option linter.unusedSimpArgs false
set_option linter.unusedVariables false
namespace Go.Proofs.Ytknbeakmnkjkhaa
open Go.RowKit

/-- Two cells of block b that may be written. -/
structure Bx (w : World) (b : Nat) (u v : Value) : Prop where
  c0 : w.cell? ⟨b, 0, none⟩ = some u
  c1 : w.cell? ⟨b, 1, none⟩ = some v
  f0 : w.frozen? ⟨b, 0, none⟩ = false
  f1 : w.frozen? ⟨b, 1, none⟩ = false
theorem Bx.lt {w : World} {b : Nat} {u v : Value} (h : Bx w b u v) : b < w.heap.size := World.block_lt_of_cell? w _ h.c0
theorem Bx.new (w : World) (u v : Value) (T : Nat) {N : Nat} (hN : w.heap.size = N) : Bx (w.alloc (.cells #[u, v] T)) N u v := by
  subst hN
  exact ⟨cell_lit rfl rfl, cell_lit rfl rfl, frozen_new _ _ _ _, frozen_new _ _ _ _⟩
theorem Bx.below {w w' : World} {b B : Nat} {u v : Value} (h : Bx w b u v) (hb : Below B w w') (hB : b < B) : Bx w' b u v :=
  ⟨(hb.cell (p := ⟨b, 0, none⟩) hB).trans h.c0, (hb.cell (p := ⟨b, 1, none⟩) hB).trans h.c1, (hb.frozen (p := ⟨b, 0, none⟩) hB).trans h.f0, (hb.frozen (p := ⟨b, 1, none⟩) hB).trans h.f1⟩
theorem Bx.alloc {w : World} {b : Nat} {u v : Value} (h : Bx w b u v) (o : Obj) : Bx (w.alloc o) b u v := h.below ((Below.refl _ _).alloc (Nat.le_refl _) o) h.lt
theorem Bx.far {w w' : World} {b base E size n c : Nat} {u v : Value} {ao : Option Addr} {cs : List Value} (h : Bx w b u v) (hO : Own w base E size ao n c cs) (hg : w.grownBy w' (blk ao)) (hB : b < base) : Bx w' b u v := by
  obtain ⟨hc, hf⟩ := hO.far hg
  have hl := h.lt
  exact ⟨(hc _ _ hB hl).trans h.c0, (hc _ _ hB hl).trans h.c1, (hf _ _ hB hl).trans h.f0, (hf _ _ hB hl).trans h.f1⟩
theorem Bx.set1 {w : World} {b : Nat} {u v : Value} (h : Bx w b u v) (x : Value) : Bx (w.setCell ⟨b, 1, none⟩ x) b u x :=
  ⟨(World.cell?_setCell_other w _ _ _ (by simp)).trans h.c0, World.cell?_setCell_same w _ _ h.c1, by rw [World.frozen?_setCell]; exact h.f0, by rw [World.frozen?_setCell]; exact h.f1⟩

def offV (v : Int) (e : E3) : Bool := decide (e.1 ≠ v) && decide (e.2.1 ≠ v)
def dropR (m : Int) (es : List E3) (v : Int) : Int × List E3 × Bool := if gOk m es = true then if hasV m v = true then (m, es.filter (offV v), true) else (m, es, false) else (0, [], false)
def GwP (w : World) (r : Int × List E3 × Bool) (e : Ending) (w' : World) : Prop :=
  ∃ ao c, e = .returned (.tuple #[gr r.1 ao r.2.1.length c, .bool r.2.2]) ∧ Own w' w.heap.size 47 3 ao r.2.1.length c (ev r.2.1) ∧ Below w.heap.size w w'

set_option maxRecDepth 100000 in
set_option maxHeartbeats 4000000 in
theorem implDropVertex (m : Int) (ao : Option Addr) (c : Nat) (es : List E3) (v : Int) (w : World) (hl : es.length ≤ 1048576) (hs : Se w ao es) (hz : ao = none → c = 0) :
    Calls Try.prog 18 #[gr m ao es.length c, .int .i64 v] w (GwP w (dropR m es v)) := by
  have fin : ∀ r, dropR m es v = r → ∀ e w', GwP w r e w' → GwP w (dropR m es v) e w' := fun r hr e w' h => by rw [hr]; exact h
  have FIN := Lib.hid fin
  clear fin
  have KV := fun W (g : Se W ao es) => Lib.hid (implGraphValid m ao c es W (by simp only [maxLen]; omega) g)
  cases hv : gOk m es
  · have HR : Hid (dropR m es v = (0, [], false)) := by unfold Hid dropR; rw [hv]; rfl
    rw [hv] at KV
    have KV := Lib.hid KV
    have H1 := Lib.hid hs
    clear hs hv hz
    go_enter Try.func18, Try.ntmps18
    go_wp2_with (first | (go_at_call 37; (with_reducible refine (KV.out _ ((H1.out.alloc _).alloc _)).out.mono ?_); rintro e w1 ⟨rfl, hb1⟩; (obtain ⟨hc1, hf1⟩ := bcell hb1); (try simp only [World.size_drew, World.size_drewN] at hc1 hf1); have hz1 := hb1.size; (try simp only [World.size_alloc, World.size_setCell, World.size_drew, World.size_drewN] at hz1); have hl1_0 : w.heap.size < w1.heap.size := (by omega); have hl1_1 : w.heap.size + 1 < w1.heap.size := (by omega)))
    exact bodyPost_ret (v := .tuple #[gr 0 none 0 0, .bool false]) (by simp [results, Try.results18, go_sem, *]) rfl (FIN.out _ HR.out _ _ ⟨none, 0, rfl, Own.nil_ _ _ _ _, (by repeat' (first | (with_reducible exact Below.refl _ _) | (with_reducible assumption) | (with_reducible refine Below.alloc ?_ ?_ _) | (with_reducible refine Below.drew ?_) | (with_reducible refine below_drewN ?_ _) | (with_reducible refine Below.setCell ?_ ?_ _) | (refine bstep (by with_reducible assumption) ?_) | (refine bstep2 (by with_reducible assumption) (by first | omega | (simp; done) | (simp; omega)) ?_) | go_size))⟩)
  · rw [hv] at KV
    have KV := Lib.hid KV
    have KC := Lib.hid (fun W (g : Se W ao es) => Lib.hid (implGraphCopied m ao c es W hl g hz))
    have KH := fun W => Lib.hid (implHas m ao es.length c v W)
    have H1 := Lib.hid hs
    cases hh : hasV m v
    · have HR : Hid (dropR m es v = (m, es, false)) := by unfold Hid dropR; rw [hv, hh]; rfl
      rw [hh] at KH
      have KH := Lib.hid KH
      clear hs hv hh hz
      go_enter Try.func18, Try.ntmps18
      go_wp2_with (first | (go_at_call 37; (with_reducible refine (KV.out _ ((H1.out.alloc _).alloc _)).out.mono ?_); rintro e w1 ⟨rfl, hb1⟩; (obtain ⟨hc1, hf1⟩ := bcell hb1); (try simp only [World.size_drew, World.size_drewN] at hc1 hf1); have hz1 := hb1.size; (try simp only [World.size_alloc, World.size_setCell, World.size_drew, World.size_drewN] at hz1); have hl1_0 : w.heap.size < w1.heap.size := (by omega); have hl1_1 : w.heap.size + 1 < w1.heap.size := (by omega)) | (go_at_call 64; (with_reducible refine (KH.out _).out.mono ?_); rintro e w2 ⟨rfl, hb2⟩; (obtain ⟨hc2, hf2⟩ := bcell hb2); (try simp only [World.size_drew, World.size_drewN] at hc2 hf2); have hz2 := hb2.size; (try simp only [World.size_alloc, World.size_setCell, World.size_drew, World.size_drewN] at hz2); have hl2_0 : w.heap.size < w2.heap.size := (by omega); have hl2_1 : w.heap.size + 1 < w2.heap.size := (by omega)) | (go_at_call 65; (with_reducible refine (KC.out _ (H1.out.below (B := w.heap.size) ?_ (Nat.le_refl _))).out.mono ?_); (exact (by repeat' (first | (with_reducible exact Below.refl _ _) | (with_reducible assumption) | (with_reducible refine Below.alloc ?_ ?_ _) | (with_reducible refine Below.drew ?_) | (with_reducible refine below_drewN ?_ _) | (with_reducible refine Below.setCell ?_ ?_ _) | (refine bstep (by with_reducible assumption) ?_) | (refine bstep2 (by with_reducible assumption) (by first | omega | (simp; done) | (simp; omega)) ?_) | go_size))); unfold GrP; rintro e w3 ⟨a3, k3, rfl, hown3, hb3⟩; (obtain ⟨hc3, hf3⟩ := bcell hb3); (try simp only [World.size_drew, World.size_drewN] at hc3 hf3); have hz3 := hb3.size; (try simp only [World.size_alloc, World.size_setCell, World.size_drew, World.size_drewN] at hz3); have hl3_0 : w.heap.size < w3.heap.size := (by omega); have hl3_1 : w.heap.size + 1 < w3.heap.size := (by omega); have HO3 := Lib.hid (hown3.mono_ (base' := w.heap.size + 2) (by first | omega | (simp; done) | (simp; omega) | go_size)); clear hown3))
      have hX3 : blk a3 ≠ some (w.heap.size + 1) := fun e => by have := (HO3.out.lt_ _ e).1; omega
      exact bodyPost_ret (v := .tuple #[gr m a3 es.length k3, .bool false]) (by simp [results, Try.results18, go_sem, *]) rfl (FIN.out _ HR.out _ _ ⟨a3, k3, rfl, Own.mono_ (by have h := HO3.out; repeat' (first | (with_reducible assumption) | (with_reducible apply Own.drew_) | (with_reducible apply Own.drewN_) | (with_reducible apply Own.alloc_) | (with_reducible refine Own.set_other ?_ ?_ _) | (refine Own.kept_ ?_ (by with_reducible assumption) ?_) | (refine Own.below_ ?_ (by with_reducible assumption) ?_) | (exact Nat.le_refl _) | omega)) (show w.heap.size ≤ w.heap.size + 2 by omega), (by repeat' (first | (with_reducible exact Below.refl _ _) | (with_reducible assumption) | (with_reducible refine Below.alloc ?_ ?_ _) | (with_reducible refine Below.drew ?_) | (with_reducible refine below_drewN ?_ _) | (with_reducible refine Below.setCell ?_ ?_ _) | (refine bstep (by with_reducible assumption) ?_) | (refine bstep2 (by with_reducible assumption) (by first | omega | (simp; done) | (simp; omega)) ?_) | go_size))⟩)
    · have HR : Hid (dropR m es v = (m, es.filter (offV v), true)) := by unfold Hid dropR; rw [hv, hh]; rfl
      have hln : es.length ≤ 40 := by unfold gOk at hv; simp at hv; exact hv.1.2
      rw [hh] at KH
      have KH := Lib.hid KH
      clear hs hv hh hz
      go_enter Try.func18, Try.ntmps18
      go_wp2_with (first | (go_at_call 37; (with_reducible refine (KV.out _ ((H1.out.alloc _).alloc _)).out.mono ?_); rintro e w1 ⟨rfl, hb1⟩; (obtain ⟨hc1, hf1⟩ := bcell hb1); (try simp only [World.size_drew, World.size_drewN] at hc1 hf1); have hz1 := hb1.size; (try simp only [World.size_alloc, World.size_setCell, World.size_drew, World.size_drewN] at hz1); have hl1_0 : w.heap.size < w1.heap.size := (by omega); have hl1_1 : w.heap.size + 1 < w1.heap.size := (by omega)))
      refine (KH.out _).out.mono ?_
      rintro e w2 ⟨rfl, hb2⟩
      have bG : Bx w2 w.heap.size (.int .i64 m) (.slice ao es.length c) := (((Bx.new w (.int .i64 m) (.slice ao es.length c) 28 rfl).alloc _).below hb1 (by simp)).below hb2 (by omega)
      have bR : Bx w2 (w.heap.size + 1) (.int .i64 0) (.slice none 0 0) := ((Bx.new (w.alloc (.cells #[.int .i64 m, .slice ao es.length c] 28)) (.int .i64 0) (.slice none 0 0) 28 (by simp)).below hb1 (by simp)).below hb2 (by omega)
      have hz2 := hb2.size
      have hs2 := H1.out.below (B := w.heap.size) (w' := w2) (by repeat' (first | (with_reducible exact Below.refl _ _) | (with_reducible assumption) | (with_reducible refine Below.alloc ?_ ?_ _) | (with_reducible refine Below.drew ?_) | (with_reducible refine below_drewN ?_ _) | (with_reducible refine Below.setCell ?_ ?_ _) | (refine bstep (by with_reducible assumption) ?_) | (refine bstep2 (by with_reducible assumption) (by first | omega | (simp; done) | (simp; omega)) ?_) | go_size)) (Nat.le_refl _)
      have hB2 : Hid (Below w.heap.size w w2) := (by repeat' (first | (with_reducible exact Below.refl _ _) | (with_reducible assumption) | (with_reducible refine Below.alloc ?_ ?_ _) | (with_reducible refine Below.drew ?_) | (with_reducible refine below_drewN ?_ _) | (with_reducible refine Below.setCell ?_ ?_ _) | (refine bstep (by with_reducible assumption) ?_) | (refine bstep2 (by with_reducible assumption) (by first | omega | (simp; done) | (simp; omega)) ?_) | go_size))
      obtain ⟨b, o, ha, hE⟩ := Src.edges hs2
      have hix := ha.ixN (c := c) 3 Try.underlying26 sz_edge
      have HS := Lib.hid hE
      have HLT := Lib.hid (fun (h : 0 < es.length) => hE.lt h)
      have hlg : w.heap.size < w2.heap.size := by omega
      have hlr : w.heap.size + 1 < w2.heap.size := by omega
      clear hc1 hf1 hb1 hz1 hb2 hs2 hE ha hl1_0 hl1_1
      have cg0 := bG.c0
      have cg1 := bG.c1
      go_wp2
      go_loopw [8, 25] (fun _ i wr => ∃ (k : Nat) (acc : List E3) (a : Option Addr) (d : Nat), k ≤ es.length ∧ acc.length ≤ k ∧ i = .int .i64 k ∧ Bx wr w2.heap.size (.int .i64 m) (.slice a acc.length d) ∧ Hid (Own wr (w2.heap.size + 1) 47 3 a acc.length d (ev acc)) ∧ Below w2.heap.size w2 wr ∧ Hid (es.filter (offV v) = acc ++ (es.drop k).filter (offV v))) (fun _ i _ => es.length - (intOf i).toNat)
      case atStart => exact ⟨0, [], none, 0, Nat.zero_le _, Nat.zero_le _, rfl, Bx.new _ _ _ _ rfl, Own.nil_ _ _ _ _, (by repeat' (first | (with_reducible exact Below.refl _ _) | (with_reducible assumption) | (with_reducible refine Below.alloc ?_ ?_ _) | (with_reducible refine Below.drew ?_) | (with_reducible refine below_drewN ?_ _) | (with_reducible refine Below.setCell ?_ ?_ _) | (refine bstep (by with_reducible assumption) ?_) | (refine bstep2 (by with_reducible assumption) (by first | omega | (simp; done) | (simp; omega)) ?_) | go_size)), rfl⟩
      case round =>
        obtain ⟨k, acc, a, d, hk, hak, rfl, bL, HO, hb, HP⟩ := hrel
        have hsr := hb.size
        have bGr := bG.below hb hlg
        have bRr := bR.below hb hlr
        have cl0 := bL.c0
        have cl1 := bL.c1
        have fl1 := bL.f1
        have hll := bL.lt
        have BL := Lib.hid bL
        have BR := Lib.hid bRr
        clear bL cg0 cg1 bGr
        by_cases hlt : k < es.length
        · have hlti : (k : Int) < es.length := by omega
          have hEr : Edg wr b o es := HS.out.below hb (Nat.le_refl _)
          obtain ⟨hc0, hc1, hc2⟩ := hEr k hlt
          have hbr : b < wr.heap.size := hEr.lt (by omega)
          have HD : Hid ((es.drop k).filter (offV v) = (if offV v es[k] = true then [es[k]] else []) ++ (es.drop (k + 1)).filter (offV v)) := by
            unfold Hid; rw [List.drop_eq_getElem_cons hlt, List.filter_cons]; split <;> simp
          clear hEr bRr
          generalize es[k] = e at *
          obtain ⟨ea, eb, ec⟩ := e
          dsimp only at hc0 hc1 hc2
          have hskip : offV v (ea, eb, ec) = false → Hid (es.filter (offV v) = acc ++ (es.drop (k + 1)).filter (offV v)) := fun h => by unfold Hid; rw [HP.out, HD.out, h]; simp
          have HSK := Lib.hid hskip
          clear hskip
          by_cases h1 : ea = v
          · have h1b : (ea != v) = false := by simp [h1]
            have HN := Lib.hid (show offV v (ea, eb, ec) = false by simp [offV, h1])
            clear h1
            go_wp2
            go_roundw
            case rel => exact ⟨k + 1, acc, a, d, by omega, by omega, by go_num, BL.out.alloc _, HO.out.alloc_ _, (by repeat' (first | (with_reducible exact Below.refl _ _) | (with_reducible assumption) | (with_reducible refine Below.alloc ?_ ?_ _) | (with_reducible refine Below.drew ?_) | (with_reducible refine below_drewN ?_ _) | (with_reducible refine Below.setCell ?_ ?_ _) | (refine bstep (by with_reducible assumption) ?_) | (refine bstep2 (by with_reducible assumption) (by first | omega | (simp; done) | (simp; omega)) ?_) | go_size)), HSK.out HN.out⟩
            case measure => simp [intOf]; omega
          · have h1b : (ea != v) = true := by simp [h1]
            by_cases h2 : eb = v
            · have h2b : (eb != v) = false := by simp [h2]
              have HN := Lib.hid (show offV v (ea, eb, ec) = false by simp [offV, h2])
              clear h1 h2
              go_wp2
              go_roundw
              case rel => exact ⟨k + 1, acc, a, d, by omega, by omega, by go_num, BL.out.alloc _, HO.out.alloc_ _, (by repeat' (first | (with_reducible exact Below.refl _ _) | (with_reducible assumption) | (with_reducible refine Below.alloc ?_ ?_ _) | (with_reducible refine Below.drew ?_) | (with_reducible refine below_drewN ?_ _) | (with_reducible refine Below.setCell ?_ ?_ _) | (refine bstep (by with_reducible assumption) ?_) | (refine bstep2 (by with_reducible assumption) (by first | omega | (simp; done) | (simp; omega)) ?_) | go_size)), HSK.out HN.out⟩
              case measure => simp [intOf]; omega
            · have h2b : (eb != v) = true := by simp [h2]
              have HN := Lib.hid (show offV v (ea, eb, ec) = true by simp [offV, h1, h2])
              clear h1 h2
              go_wp2_with (first | (at_builtin; refine wp_app (cs := ev acc) _ el_edge rfl (.tmp 40) (.tmp 42) rfl (w2.heap.size + 1) rfl ((HO.out.alloc_ _).alloc_ _) rfl (Src.newN (m := 1) (by simp) rfl) (by simp [Value.oneCell']) (by simp only [maxLen]; omega) (by omega) (by simp; omega) ?_; intro ao3 c3 w3 hown3 hg3 hat3 hz3; have bL3 := Bx.far ((BL.out.alloc _).alloc _) ((HO.out.alloc_ _).alloc_ _) hg3 (Nat.lt_succ_self _); have cl0 := bL3.c0; have cl1 := bL3.c1; have fl1 := bL3.f1; have hb3 : Below w2.heap.size w2 w3 := ((hb.alloc hb.size _).alloc (by simp; omega) _).grown hg3 (by simp; omega) (fun g hg => by have := (HO.out.lt_ g hg).1; omega); have BL3 := Lib.hid bL3; have O3 := Lib.hid (own_len hown3 rfl (show _ = ev (acc ++ [(ea, eb, ec)]) by rw [ev_append]; rfl)); clear bL3 hown3 hg3 hat3 hz3))
              go_roundw
              case rel =>
                have hne : blk ao3 ≠ some w2.heap.size := fun e => by have := (O3.out.lt_ _ e).1; omega
                refine ⟨k + 1, acc ++ [(ea, eb, ec)], ao3, c3, by omega, by simp; omega, by go_num, ?_, ?_, (by repeat' (first | (with_reducible exact Below.refl _ _) | (with_reducible assumption) | (with_reducible refine Below.alloc ?_ ?_ _) | (with_reducible refine Below.drew ?_) | (with_reducible refine below_drewN ?_ _) | (with_reducible refine Below.setCell ?_ ?_ _) | (refine bstep (by with_reducible assumption) ?_) | (refine bstep2 (by with_reducible assumption) (by first | omega | (simp; done) | (simp; omega)) ?_) | go_size)), by unfold Hid; rw [HP.out, HD.out, HN.out]; simp⟩
                · have h := BL3.out.set1 (.slice ao3 (acc.length + 1) c3)
                  simpa using h
                · exact Lib.hid (own_len (O3.out.set_other hne _) (by simp) rfl)
              case measure => simp [intOf]; omega
        · have HX : Hid (es.filter (offV v) = acc) := by unfold Hid; rw [HP.out, List.drop_of_length_le (by omega)]; simp
          have r0 := bRr.c0
          have r1 := bRr.c1
          have r2 := bRr.f0
          have r3 := bRr.f1
          go_wp2
          have hne : blk a ≠ some (w.heap.size + 1) := fun e => by have := (HO.out.lt_ _ e).1; omega
          have hO := HO.out.mono_ (show w.heap.size ≤ w2.heap.size + 1 by omega)
          have hBB : Below w.heap.size w wr := hB2.out.trans (hb.mono hB2.out.size)
          refine bodyPost_ret (v := .tuple #[gr m a acc.length d, .bool true]) (by simp [results, Try.results18, go_sem, *]) rfl (FIN.out _ HR.out _ _ ?_)
          rw [HX.out]
          refine ⟨a, d, rfl, ?_, ?_⟩
          · repeat' (first | (with_reducible assumption) | (with_reducible apply Own.drew_) | (with_reducible apply Own.drewN_) | (with_reducible apply Own.alloc_) | (with_reducible refine Own.set_other ?_ ?_ _) | (refine Own.kept_ ?_ (by with_reducible assumption) ?_) | (refine Own.below_ ?_ (by with_reducible assumption) ?_) | (exact Nat.le_refl _) | omega)
          · exact (by repeat' (first | (with_reducible exact Below.refl _ _) | (with_reducible assumption) | (with_reducible refine Below.alloc ?_ ?_ _) | (with_reducible refine Below.drew ?_) | (with_reducible refine below_drewN ?_ _) | (with_reducible refine Below.setCell ?_ ?_ _) | (refine bstep (by with_reducible assumption) ?_) | (refine bstep2 (by with_reducible assumption) (by first | omega | (simp; done) | (simp; omega)) ?_) | go_size))
end Go.Proofs.Ytknbeakmnkjkhaa
