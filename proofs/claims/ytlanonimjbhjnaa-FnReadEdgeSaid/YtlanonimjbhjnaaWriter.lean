/- The writer of numbers. No statement of the seat is proved here. -/
import Derived.Deep.RegionLaw
import Derived.Test.YtlanonimjbhjnaaRows
import Derived.WalkKit
import Derived.WalkSpells
import Derived.WalkLawsBesides
import Derived.Lib.Hide
import Derived.Handy
import Derived.BigQuiet
import Derived.Deep.QuietTactic
import Derived.Test.YtlanonimjbhjnaaLib
import Derived.Test.YtlanonimjbhjnaaOwn
import Derived.Test.YtlanonimjbhjnaaJobs
import Derived.Test.YtlanonimjbhjnaaCodes
import Derived.Test.YtlanonimjbhjnaaCodes2
set_option linter.unusedSimpArgs false
set_option linter.unusedVariables false
namespace Go.Proofs.Ytlanonimjbhjnaa
open Go.RowKit

/-- A writer in block wb holds the numbers xs, in a row of its own; both lie from block B on. -/
def Wr (w : World) (B wb : Nat) (xs : List Int) : Prop :=
  ∃ ao c, w.cell? ⟨wb, 0, none⟩ = some (.slice ao xs.length c) ∧ w.frozen? ⟨wb, 0, none⟩ = false ∧ Own w B 3 1 ao xs.length c (iv xs) ∧ B ≤ wb ∧ (∀ g, blk ao = some g → g ≠ wb)

def PutPost (w : World) (B wb : Nat) (xs : List Int) (e : Ending) (w' : World) : Prop := e = .returned (.tuple #[]) ∧ Wr w' B wb xs ∧ Below B w w'

set_option maxRecDepth 100000 in
set_option maxHeartbeats 2000000 in
theorem writerPut (B wb : Nat) (xs : List Int) (k : Int) (w : World) (hl : xs.length ≤ 100000) (hW : Wr w B wb xs) :
    Calls Try.prog 62 #[.pointer (some ⟨wb, 0, none⟩), .int .i64 k] w (PutPost w B wb (xs ++ enc k)) := by
  obtain ⟨ao, c, hc0, hf0, hown, hB, hne⟩ := hW
  have hlt := World.block_lt_of_cell? w _ hc0
  have hlt : wb < w.heap.size := hlt
  have HO := Lib.hid hown
  clear hown
  have HNE := Lib.hid hne
  clear hne
  have HE := Lib.hid (fun W => implEncodeNumber k W)
  go_enter Try.func62, Try.ntmps62
  go_region_law (first | (refine step_app _ el_int rfl (.tmp 8) (.tmp 10) rfl B rfl (HO.out.drew_.below_ hb1 (by simp)) rfl hown1.out.src (oneCell_iv _) (by simp only [maxLen]; omega) (by omega) hl2 ?_; intro ao2 c2 w2 hown2 hg2 hat2 hz2; have HO2 := Lib.hid hown2; clear hown2; have hne2 : some wb ≠ blk ao := (fun e => HNE.out wb e.symm rfl); have hcw : w2.cell? ⟨wb, 0, none⟩ = some (.slice ao xs.length c) := ((World.cell?_of_block (a := ⟨wb, 0, none⟩) (hg2.block wb hl1 hne2)).trans ((hc1 wb 0 hlt).trans hc0)); have hfw : w2.frozen? ⟨wb, 0, none⟩ = false := ((World.frozen?_of_block (a := ⟨wb, 0, none⟩) (hg2.block wb hl1 hne2)).trans ((hf1 wb 0 hlt).trans hf0)); clear hz2 hne2) | (go_simp; go_at_call 25; refine (HE.out _).mono ?_; rintro e w1 ⟨ao1, c1, rfl, hown1, hb1, hn1⟩; have hown1 := Lib.hid hown1; (obtain ⟨hc1, hf1⟩ := bcell hb1); have hz1 := hb1.size; (try simp only [World.size_drew, World.size_drewN] at hz1); have hl1 : wb < w1.heap.size := (by omega); have hl2 : B ≤ w1.heap.size := (by omega); have hL := enc_len k; have hcx : w1.cell? ⟨wb, 0, none⟩ = some (.slice ao xs.length c) := ((hc1 wb 0 hlt).trans hc0); have hfx : w1.frozen? ⟨wb, 0, none⟩ = false := ((hf1 wb 0 hlt).trans hf0)))
  all_goals
    go_end0
    refine ⟨rfl, ⟨ao2, c2, ?_, ?_, ?_, hB, ?_⟩, ?_⟩
    · rw [World.cell?_setCell_same w2 _ _ hcw, List.length_append]
    · rw [World.frozen?_setCell]; exact hfw
    · have h := HO2.out
      rw [show iv xs ++ iv (enc k) = iv (xs ++ enc k) by simp] at h
      rw [List.length_append]
      refine h.set_other ?_ _
      intro e
      rcases hat2 with h2 | h2 <;> rw [h2] at e
      · exact HNE.out wb e rfl
      · simp at e; omega
    · intro g hg e
      subst e
      rcases hat2 with h2 | h2 <;> rw [h2] at hg
      · exact HNE.out _ hg rfl
      · simp at hg; omega
    · have h1 : Below B w w1 := ⟨hb1.os, hb1.tape, hb1.output, hz1, fun i hi => hb1.block i (by show i < w.heap.size; omega)⟩
      have h2 : Below B w w2 := h1.grown hg2 hl2 (fun g hg => (HO.out.lt_ g hg).1)
      exact h2.setCell hB _
end Go.Proofs.Ytlanonimjbhjnaa
