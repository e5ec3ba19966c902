/- Parts of graphs, as plain data: PartsRight holds for the least vertices alone. No statement of the seat is proved here. -/
import Derived.Test.YtfdaoepbdolgiaaDoorTy
import Derived.Lib.Hide
import Derived.Test.YtfdaoepbdolgiaaDoorDPart
import Derived.Test.YtfdaoepbdolgiaaDoorDParts
set_option linter.unusedSimpArgs false
set_option linter.unusedVariables false
namespace Go.Proofs.YtfdaoepbdolgiaaDoor.Abs
open Go.RowKit
open R (val row ref)

theorem dV_val (vs : List Int) : dV vs = Go.Proofs.YtfdaoepbdolgiaaDoor.val vs := rfl
theorem partsOk_vI {m : Nat} {es : List E3} {vs fs : List Int} (h : partsOk (m : Int) es vs fs = true) : gOk (m : Int) es = true ∧ vs.length = m ∧ fs.length = m ∧ (∀ e ∈ es, Go.Proofs.YtfdaoepbdolgiaaDoor.val vs e.1 = Go.Proofs.YtfdaoepbdolgiaaDoor.val vs e.2.1) ∧ ∀ v : Int, 0 ≤ v → v < (m : Int) → Parts.vI m (Go.Proofs.YtfdaoepbdolgiaaDoor.val vs) (Go.Proofs.YtfdaoepbdolgiaaDoor.val fs) (nr m es) v = true := by
  unfold partsOk at h
  rw [Bool.and_eq_true, Bool.and_eq_true, Bool.and_eq_true, Bool.and_eq_true, decide_eq_true_eq, decide_eq_true_eq, List.all_eq_true, List.all_eq_true] at h
  obtain ⟨⟨⟨hg, hl1⟩, hl2⟩, hE, hV⟩ := h
  have hm1 : vs.length = m := by omega
  refine ⟨hg, hm1, by omega, fun e he => ?_, fun v h0 h1 => ?_⟩
  · have := hE e he
    unfold partE at this
    exact of_decide_eq_true this
  · have := hV v.toNat (by rw [List.mem_range]; omega)
    rw [Int.toNat_of_nonneg h0, pI_vI (dV vs) (dV fs) hg hl1 h0 h1, hm1] at this
    exact this
theorem vI_near {m : Nat} {es : List E3} {v p : Int} (h : nr (m : Int) es v p = true) : adj es v p = true := by
  unfold nr at h; rw [Bool.and_eq_true] at h; exact h.2
theorem climb_cn {m : Nat} {es : List E3} {d f : Int → Int} (hV : ∀ v : Int, 0 ≤ v → v < (m : Int) → Parts.vI m d f (nr m es) v = true) {R : Int} : ∀ (n : Nat) (u : Int), 0 ≤ u → u < (m : Int) → d u = R → Costs.climb m R f n u = true → cn es R u
  | 0, u, _, _, _, h => by
    unfold Costs.climb at h
    have := of_decide_eq_true h
    rw [this]; exact cn_refl _ _
  | n + 1, u, h0, h1, hd, h => by
    by_cases hu : u = R
    · rw [hu]; exact cn_refl _ _
    · unfold Costs.climb at h
      rw [decide_eq_false hu, Bool.false_or, Bool.and_eq_true] at h
      obtain ⟨e1, e2, e3, e4, e5⟩ := Parts.vI_of (hV u h0 h1) (fun e => hu (by rw [← hd, e]))
      have ha := vI_near e3
      have hp : 0 ≤ f u ∧ f u < (m : Int) := by unfold nr hasV at e3; simp at e3; omega
      exact cn_trans (climb_cn hV n (f u) hp.1 hp.2 (by rw [e4, hd]) h.2) (cn_symm (cn_adj ha))
theorem partsOk_least {m : Nat} {es : List E3} {vs fs : List Int} (h : partsOk (m : Int) es vs fs = true) : vs = leastP m es := by
  obtain ⟨hg, hl, hl2, hE, hV⟩ := partsOk_vI h
  have hIn : Inside m es := fun e he => by have := gOk_edges hg e he; exact ⟨this.1, this.2.1⟩
  have hle : ∀ v : Int, 0 ≤ v → v < (m : Int) → Go.Proofs.YtfdaoepbdolgiaaDoor.val vs v ≤ v ∧ (0 ≤ Go.Proofs.YtfdaoepbdolgiaaDoor.val vs v ∧ Go.Proofs.YtfdaoepbdolgiaaDoor.val vs v < (m : Int)) ∧ cn es (Go.Proofs.YtfdaoepbdolgiaaDoor.val vs v) v := fun v h0 h1 => by
    by_cases hv : Go.Proofs.YtfdaoepbdolgiaaDoor.val vs v = v
    · rw [hv]; exact ⟨Int.le_refl _, ⟨h0, h1⟩, cn_refl _ _⟩
    · obtain ⟨e1, e2, e3, e4, e5⟩ := Parts.vI_of (hV v h0 h1) hv
      have ha := vI_near e3
      have hp := (adj_in hIn ha).2
      exact ⟨e1, e2, cn_trans (climb_cn hV m _ hp.1 hp.2 e4 e5) (cn_symm (cn_adj ha))⟩
  refine IsL.uniq ⟨hl, fun v h0 h1 => (hle v h0 h1).2, fun v h0 h1 u hc hu => ?_⟩ (leastP_ok hIn)
  have hui := cn_in hIn ⟨h0, h1⟩ (cn_symm hc)
  have h2 : Go.Proofs.YtfdaoepbdolgiaaDoor.val vs v = Go.Proofs.YtfdaoepbdolgiaaDoor.val vs u := cn_same (f := Go.Proofs.YtfdaoepbdolgiaaDoor.val vs) hE hc
  rw [h2]
  exact (hle u hui.1 hui.2).1
theorem climb_own {m : Nat} {es : List E3} {L P : List Int} (hL : IsL m es L) (hP : IsPP m es L P) (hI : Inside m es) {R : Int} : ∀ (n : Nat) (u : Int), 0 ≤ u → u < (m : Int) → Go.Proofs.YtfdaoepbdolgiaaDoor.val L u = R → dst m es L u ≤ n → Costs.climb m R (Go.Proofs.YtfdaoepbdolgiaaDoor.val P) n u = true
  | 0, u, h0, h1, hu, hd => by
    have := dst_lt hL hI h0 h1
    have := (dst_zero hL hI h0 h1).1 (by omega)
    unfold Costs.climb
    exact decide_eq_true (by rw [← hu, this])
  | n + 1, u, h0, h1, hu, hd => by
    unfold Costs.climb
    by_cases hr : Go.Proofs.YtfdaoepbdolgiaaDoor.val L u = u
    · rw [decide_eq_true (by rw [← hu, hr] : u = R)]; rfl
    · obtain ⟨p1, p2, _⟩ := hP.par u h0 h1 hr
      have hp := (adj_in hI p1).2
      rw [climb_own hL hP hI n _ hp.1 hp.2 (by rw [← hu]; exact (hL.const hI hp.1 hp.2 (cn_adj p1)).symm) (by omega), decide_eq_false (show ¬ u < 0 by omega), decide_eq_false (show ¬ u ≥ (m : Int) by omega)]
      simp
theorem partsOk_own {m : Nat} {es : List E3} {L P : List Int} (hg : gOk (m : Int) es = true) (hL : IsL m es L) (hP : IsPP m es L P) : partsOk (m : Int) es L P = true := by
  have hIn : Inside m es := fun e he => by have := gOk_edges hg e he; exact ⟨this.1, this.2.1⟩
  have hl := hL.len
  unfold partsOk
  rw [hg, decide_eq_true (by omega : (L.length : Int) = (m : Int)), decide_eq_true (by rw [hP.len] : (P.length : Int) = (m : Int)), Bool.true_and, Bool.true_and, Bool.true_and, Bool.and_eq_true, List.all_eq_true, List.all_eq_true]
  refine ⟨fun e he => ?_, fun v hv => ?_⟩
  · have hi := hIn e he
    unfold partE
    exact decide_eq_true (hL.const hIn hi.2.1 hi.2.2 (cn_adj (mem_symE.1 ⟨e, List.mem_append.2 (.inl he), rfl, rfl⟩)))
  · have hvm : v < m := by rw [List.mem_range] at hv; omega
    rw [pI_vI (dV L) (dV P) hg (by omega) (by omega) (by omega), hl]
    unfold Parts.vI
    by_cases hr : dV L (v : Int) = (v : Int)
    · rw [if_pos hr]
      exact decide_eq_true (hP.root (v : Int) (by omega) (by omega) hr)
    · rw [if_neg hr]
      obtain ⟨p1, p2, _⟩ := hP.par (v : Int) (by omega) (by omega) hr
      have hp := (adj_in hIn p1).2
      have hc := (hL.con (v : Int) (by omega) (by omega)).1
      have h1 := hL.le (v := (v : Int)) (by omega) (by omega)
      have hcn := (hL.const hIn hp.1 hp.2 (cn_adj p1)).symm
      have hlt := dst_lt hL hIn (v := Go.Proofs.YtfdaoepbdolgiaaDoor.val P (v : Int)) hp.1 hp.2
      have hcl := climb_own hL hP hIn (R := Go.Proofs.YtfdaoepbdolgiaaDoor.val L (v : Int)) m (Go.Proofs.YtfdaoepbdolgiaaDoor.val P (v : Int)) hp.1 hp.2 hcn (by omega)
      rw [dV_val, dV_val, hcl, decide_eq_true h1, decide_eq_true hc, decide_eq_true hcn]
      unfold nr hasV
      rw [p1]
      simp
      omega
end Go.Proofs.YtfdaoepbdolgiaaDoor.Abs
