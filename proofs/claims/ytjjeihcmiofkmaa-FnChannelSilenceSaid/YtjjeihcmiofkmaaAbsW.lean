/- Walks in parts: a state between two pieces of code. No statement of the seat is proved here. -/
import Derived.Test.YtjjeihcmiofkmaaAbsV
set_option linter.unusedSimpArgs false
set_option linter.unusedVariables false
namespace Go.Proofs.Ytjjeihcmiofkmaa.Abs
open Go.RowKit
open R (val row ref)
theorem aw_mono {P : Program} {c : Code} {s : St} {Q Q' : Exit → St → Prop} (h : AW P c s Q) (hq : ∀ e s', Q e s' → Q' e s') : AW P c s Q' := fun w0 a w hs => wp_mono (h w0 a w hs) fun e a w ⟨s', h1, h2⟩ => ⟨s', hq _ _ h1, h2⟩
/-- The first piece ends in what says as much as s1; the second starts from s1. -/
theorem aw_cut {P : Program} {x y : Code} {s : St} {Q : Exit → St → Prop} (s1 : St) (h1 : AW P x s (Thn (fun s' => Weak s' s1) Q)) (h2 : AW P y s1 Q) : AW P (.seq x y) s Q :=
  aw_seq (aw_mono h1 (fun e s' h => by cases e <;> first | exact aw_weak h h2 | exact h))
/-- A loop whose end says as much as s1. -/
theorem aw_loopCut {P : Program} {c y : Code} {i : Nat} {s : St} {Q : Exit → St → Prop} (s1 : St) (h1 : AW P (.loop c) s (Blk i (Thn (fun s' => Weak s' s1) Q))) (h2 : AW P y s1 Q) : AW P (.loop c) s (Blk i (Thn (fun s' => AW P y s' Q) Q)) :=
  aw_mono h1 (fun e s' h => by
    cases e <;> first
      | exact aw_weak h h2
      | exact h
      | (simp only [Blk] at h ⊢
         split at h
         · rename_i he; rw [if_pos he]; exact aw_weak h h2
         · rename_i he; rw [if_neg he]; exact h))
theorem weak_refl (s : St) : Weak s s := fun _ _ _ h => h
end Go.Proofs.Ytjjeihcmiofkmaa.Abs
