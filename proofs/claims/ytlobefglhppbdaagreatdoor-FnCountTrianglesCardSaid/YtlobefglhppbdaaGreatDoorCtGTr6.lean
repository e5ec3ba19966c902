/- A round of the program for triangles, vertex by vertex. No statement of the seat is proved here. -/
import Derived.Lib.Hide
import Derived.Test.YtlobefglhppbdaaGreatDoorCtTy
import Derived.Test.YtlobefglhppbdaaGreatDoorCtGTr5
set_option linter.unusedSimpArgs false
set_option linter.unusedVariables false
namespace Go.Proofs.YtlobefglhppbdaaGreatDoor.Abs
open Go.RowKit
open R (val row ref)
set_option linter.unusedSectionVars false
section
variable (m : Int) (es : List E3) (st : Sta)
def skipV (v : Int) : Prop := st.gs.getD v.toNat false = false ∧ valsT v st.ms = []
instance (v : Int) : Decidable (skipV st v) := by unfold skipV; exact inferInstance
def zV (v : Int) : Int := if skipV st v then dV st.vs v else (stepV m es 5 0 0 st.r v (dV st.vs v) (valsT v st.ms)).1
def xV (v : Int) : List E3 := if skipV st v then [] else (stepV m es 5 0 0 st.r v (dV st.vs v) (valsT v st.ms)).2.1
end
theorem stepV_f (m : Int) (es : List E3) (r v value : Int) (l : List Int) : (stepV m es 5 0 0 r v value l).2.2 = false := by
  unfold stepV
  rw [if_neg oM, if_neg oM, if_neg oM, if_neg oM]
  split
  · rfl
  · split <;> rfl
theorem set_app {α : Type} {L : List α} {vs : List α} {k : Nat} (hL : L.length = k) (hk : k < vs.length) (z : α) : (L ++ vs.drop k).set k z = (L ++ [z]) ++ vs.drop (k + 1) := by
  rw [List.set_append_right _ _ oM, hL, Nat.sub_self, List.drop_eq_getElem_cons hk, List.set_cons_zero, List.append_assoc]
  rfl
theorem someT {m : Int} {M : Nat} (hm : m = (M : Int)) (es : List E3) (st : Sta) (hv : st.vs.length = M) (hg : st.gs.length = M) : ∀ k, k ≤ M →
    someF m es 5 0 0 st ((allV m).take k) = ⟨((allV m).take k).map (zV m es st) ++ st.vs.drop k, List.replicate k false ++ st.gs.drop k, ((allV m).take k).flatMap (xV m es st)⟩
  | 0, _ => by simp [someF]
  | k + 1, hk => by
    have hM := allV_M m hm
    have hl : k < (allV m).length := by omega
    have ih := someT hm es st hv hg k oM
    have hva := allV_at m hm hl
    have hlen : (((allV m).take k).map (zV m es st)).length = k := by rw [List.length_map, List.length_take]; omega
    rw [someF_snoc hl, ih, List.take_succ_eq_append_getElem hl, hva, List.map_append, List.flatMap_append]
    unfold someSt
    by_cases hs : skipV st (k : Int)
    · have hz : zV m es st (k : Int) = dV st.vs (k : Int) := by unfold zV; rw [if_pos hs]
      have hx : xV m es st (k : Int) = [] := by unfold xV; rw [if_pos hs]
      have hs' := hs
      unfold skipV at hs'
      rw [if_pos hs']
      have hgk : st.gs[k]'oM = false := by
        have := hs'.1
        rw [Int.toNat_natCast, List.getD_eq_getElem?_getD, List.getElem?_eq_getElem oM] at this
        exact this
      have hvk : dV st.vs (k : Int) = st.vs[k]'oM := by
        unfold dV
        rw [Int.toNat_natCast, List.getD_eq_getElem?_getD, List.getElem?_eq_getElem oM]; rfl
      have d1 : st.vs.drop k = st.vs[k]'oM :: st.vs.drop (k + 1) := List.drop_eq_getElem_cons oM
      have d2 : st.gs.drop k = st.gs[k]'oM :: st.gs.drop (k + 1) := List.drop_eq_getElem_cons oM
      rw [d1, d2, hgk, ← hvk]
      simp only [List.map_cons, List.map_nil, List.flatMap_cons, List.flatMap_nil, hz, hx, List.append_nil, List.append_assoc, List.singleton_append, List.replicate_succ', Acc.mk.injEq, true_and]
    · have hs' := hs
      unfold skipV at hs'
      rw [if_neg hs']
      have hz : zV m es st (k : Int) = (stepV m es 5 0 0 st.r (k : Int) (dV st.vs (k : Int)) (valsT (k : Int) st.ms)).1 := by unfold zV; rw [if_neg hs]
      have hx : xV m es st (k : Int) = (stepV m es 5 0 0 st.r (k : Int) (dV st.vs (k : Int)) (valsT (k : Int) st.ms)).2.1 := by unfold xV; rw [if_neg hs]
      dsimp only
      rw [stepV_f, ← hz, ← hx, Int.toNat_natCast, set_app hlen oM, set_app (by simp) oM]
      simp only [List.map_cons, List.map_nil, List.flatMap_cons, List.flatMap_nil, List.append_nil, List.replicate_succ']
theorem nextT {m : Int} {M : Nat} (hm : m = (M : Int)) (es : List E3) (st : Sta) (hv : st.vs.length = M) (hg : st.gs.length = M) :
    nextS m es 5 0 0 st = ⟨st.r + 1, (allV m).map (zV m es st), List.replicate M false, sortL ((allV m).flatMap (xV m es st))⟩ ∧ (someF m es 5 0 0 st (allV m)).out = (allV m).flatMap (xV m es st) := by
  have h := someT hm es st hv hg M (Nat.le_refl _)
  have hM := allV_M m hm
  rw [List.take_of_length_le oM] at h
  unfold nextS
  rw [h]
  refine ⟨?_, rfl⟩
  rw [List.drop_of_length_le oM, List.drop_of_length_le oM, List.append_nil, List.append_nil]
theorem xV_to {m : Int} {es : List E3} {M : Nat} (hg : gOk m es = true) (hm : m = (M : Int)) (st : Sta) (v : Int) : ∀ x ∈ xV m es st v, 0 ≤ x.1 ∧ x.1 < m := by
  have key : ∀ (a b : Int), ∀ x ∈ sendTo (grL m es v) a b, 0 ≤ x.1 ∧ x.1 < m := fun a b x hx => by
    unfold sendTo at hx
    rw [List.mem_map] at hx
    obtain ⟨w, hw, rfl⟩ := hx
    exact grL_lt hg hm hw
  intro x hx
  unfold xV at hx
  split at hx
  · cases hx
  · unfold stepV at hx
    rw [if_neg oM, if_neg oM, if_neg oM, if_neg oM] at hx
    split at hx
    · exact key _ _ x hx
    · split at hx
      · dsimp only at hx
        rw [List.mem_flatMap] at hx
        obtain ⟨y, _, hy⟩ := hx
        exact key _ _ x hy
      · cases hx
end Go.Proofs.YtlobefglhppbdaaGreatDoor.Abs
