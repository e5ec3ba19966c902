/- Channels as plain data: marks of nil rows, runs. No statement of the seat is proved here. -/
import Derived.Test.YtjjeihcmiofkmaaTy
import Derived.Lib.Hide
import Derived.Test.YtjjeihcmiofkmaaAChO
import Derived.Test.YtjjeihcmiofkmaaChP
set_option linter.unusedSimpArgs false
set_option linter.unusedVariables false
namespace Go.Proofs.Ytjjeihcmiofkmaa.Abs
open Go.RowKit
open R (val row ref)

def zeroCh : Ch := ⟨[], 0, [], [], []⟩
/-- The marks say true: nil rows are empty. -/
structure Nils (nV nG nP nR : Bool) (c : Ch) : Prop where
  v : nV = true → c.vs = []
  g : nG = true → c.got = []
  p : nP = true → c.ps = []
  r : nR = true → c.rs = []
theorem st_nils {nV nG nP nR : Bool} {c : Ch} (h : Nils nV nG nP nR c) (s : Int) : Nils nV (stG nG c s) (stP nP c s) (stR nR c s) (c.step s).1 := by
  have hv : (c.step s).1.vs = c.vs := by
    unfold Ch.step
    split
    · unfold Ch.send; split <;> rfl
    · split
      · unfold Ch.packet; split
        · rfl
        · (repeat' split) <;> rfl
      · split
        · unfold Ch.receipt; split <;> rfl
        · split
          · unfold Ch.receiptStep; split <;> rfl
          · rfl
  refine ⟨fun hn => by rw [hv]; exact h.v hn, fun hn => ?_, fun hn => ?_, fun hn => ?_⟩
  · unfold stG at hn
    simp only [Bool.and_eq_true, Bool.not_eq_true', Bool.and_eq_false_iff, decide_eq_false_iff_not] at hn
    obtain ⟨h1, h2⟩ := hn
    have hg := h.g h1
    unfold Ch.step
    split
    · unfold Ch.send; split <;> exact hg
    · split
      · rename_i hs
        rcases h2 with h2 | h2
        · exact absurd hs h2
        · unfold Ch.packet
          split
          · exact hg
          · rename_i p t hps
            unfold pkApp at h2
            rw [hps] at h2
            simp only [Bool.and_eq_false_iff, decide_eq_false_iff_not] at h2
            split
            · rename_i h1s
              rcases h2 with h2 | h2
              · exact absurd h1s h2
              · dsimp only; rw [if_neg h2]; exact hg
            · (repeat' split) <;> exact hg
      · split
        · unfold Ch.receipt; split <;> exact hg
        · split
          · unfold Ch.receiptStep; split <;> exact hg
          · exact hg
  · unfold stP at hn
    simp only [Bool.and_eq_true, Bool.not_eq_true', Bool.and_eq_false_iff, decide_eq_false_iff_not] at hn
    obtain ⟨h1, h2⟩ := hn
    have hp := h.p h1
    unfold Ch.step
    split
    · rename_i hs
      rcases h2 with h2 | h2
      · exact absurd hs h2
      · unfold Ch.send at h2 ⊢
        split at h2
        · rename_i hc; rw [if_pos hc]; exact hp
        · cases h2
    · split
      · unfold Ch.packet; rw [hp]; exact hp
      · split
        · unfold Ch.receipt; split <;> exact hp
        · split
          · unfold Ch.receiptStep; split <;> exact hp
          · exact hp
  · unfold stR at hn
    simp only [Bool.and_eq_true, Bool.not_eq_true', Bool.and_eq_false_iff, decide_eq_false_iff_not] at hn
    obtain ⟨h1, h2⟩ := hn
    have hr := h.r h1
    unfold Ch.step
    split
    · unfold Ch.send; split <;> exact hr
    · split
      · unfold Ch.packet; split
        · exact hr
        · (repeat' split) <;> exact hr
      · split
        · rename_i hs
          rcases h2 with h2 | h2
          · exact absurd hs h2
          · unfold Ch.receipt at h2 ⊢
            split at h2
            · rename_i hc; rw [if_pos hc]; exact hr
            · cases h2
        · split
          · unfold Ch.receiptStep; rw [hr]; exact hr
          · exact hr
/-- What ChannelStep hands back. -/
def stepR (c : Ch) (s : Int) : Ch × Bool := if c.ok = true then c.step s else (zeroCh, false)
/-- The marks of its rows. -/
def stNil (c : Ch) (s : Int) (nV nG nP nR : Bool) : Bool × Bool × Bool × Bool := if c.ok = true then (nV, stG nG c s, stP nP c s, stR nR c s) else (true, true, true, true)
end Go.Proofs.Ytjjeihcmiofkmaa.Abs
