/- Edges as records: writing and reading. No statement of the seat is proved here. -/
import Derived.Test.YtmkijbfiilpccaaRows
import Derived.WalkKit
import Derived.WalkSpells
import Derived.WalkLawsBesides
import Derived.Lib.Hide
import Derived.Handy
import Derived.BigQuiet
import Derived.Deep.QuietTactic
import Derived.Test.YtmkijbfiilpccaaXlLib
import Derived.Test.YtmkijbfiilpccaaXlOwn
import Derived.Test.YtmkijbfiilpccaaXlJobs
import Derived.Test.YtmkijbfiilpccaaXlCodes3
set_option linter.unusedSimpArgs false
set_option linter.unusedVariables false
set_option maxRecDepth 100000
set_option maxHeartbeats 2000000
namespace Go.Proofs.Ytmkijbfiilpccaa
open Go.RowKit
def readE (xs : List Int) : Option (Int × Int × Int) :=
 match decAt xs 0 with
 | some (a,i)=>match decAt xs i with
  | some (b,j)=>match decAt xs j with
   | some (c,e)=>if e = (xs.length : Int) then some (a,b,c) else none
   | none=>none
  | none=>none
 | none=>none
def edgeVal : Option (Int × Int × Int) → Value
 | some (a,b,c)=>.tuple #[.agg #[.int .i64 a,.int .i64 b,.int .i64 c],.bool true]
 | none=>.tuple #[.agg #[.int .i64 0,.int .i64 0,.int .i64 0],.bool false]
def EdgePost (w : World) (r : Option (Int × Int × Int)) (e : Ending) (w' : World) : Prop:=e = .returned (edgeVal r) ∧ Below w.heap.size w w'
theorem specReadEdge (ao : Option Addr) (c b o : Nat) (xs : List Int) (w : World) (hl : xs.length ≤ maxLen) (ha : At ao b o xs.length) (hin : Ints w b o xs) :
  Calls Try.prog 60 #[.slice ao xs.length c] w (EdgePost w (readE xs)):=by
 have HS : Hid (∀ (i : Int) (r : Option (Int × Int)),decAt xs i = r → Calls Try.prog 59 #[.slice ao xs.length c,.int .i64 i] (w.alloc (.cells #[.int .i64 0,.int .i64 0,.int .i64 0] 73)) fun e w'=>e = .returned (decVal r) ∧ (w.alloc (.cells #[.int .i64 0,.int .i64 0,.int .i64 0] 73)) = w'):=by
  intro i r hr
  rw [← hr]
  exact specDecodeNumber ao c b o xs i _ hl ha (hin.keep (keeps_alloc _ _))
 have hl':=hl
 unfold maxLen at hl'
 have fin : ∀ r,readE xs = r → ∀ e w',EdgePost w r e w' → EdgePost w (readE xs) e w':=fun r hr e w' h=>by rw [hr]; exact h
 have FIN:=Lib.hid fin
 clear fin
 rcases h1 : decAt xs 0 with _ | ⟨a1,i1⟩
 all_goals
  have H1:=Lib.hid h1
  clear h1
 ·have HR : Hid (readE xs = none):=by unfold Hid readE; rw [H1.out]
  (go_enter Try.func60,Try.ntmps60);(go_wp2_with (first|(go_at_call 59;first|((with_reducible refine (HS.out _ _ H1.out).mono ?_);unfold decVal;rintro e w1 ⟨rfl,rfl⟩))));exact bodyPost_ret (v:=edgeVal none) (by simp [results,Try.results60,go_sem,edgeVal]) rfl (FIN.out _ HR.out _ _ ⟨rfl,(by repeat' (first|(with_reducible exact Below.refl _ _)|(with_reducible assumption)|(with_reducible refine Below.alloc ?_ ?_ _)|(with_reducible refine Below.drew ?_)|(with_reducible refine below_drewN ?_ _)|(with_reducible refine Below.setCell ?_ ?_ _)|(refine bstep (by with_reducible assumption) ?_)|(refine bstep2 (by with_reducible assumption) (by first|omega|(simp;done)|(simp;omega)) ?_)|go_size))⟩)
 ·rcases h2 : decAt xs i1 with _ | ⟨a2,i2⟩
  all_goals
   have H2:=Lib.hid h2
   clear h2
  ·have HR : Hid (readE xs = none):=by unfold Hid readE; rw [H1.out]; simp only []; rw [H2.out]
   (go_enter Try.func60,Try.ntmps60);(go_wp2_with (first|(go_at_call 59;first|((with_reducible refine (HS.out _ _ H1.out).mono ?_);unfold decVal;rintro e w1 ⟨rfl,rfl⟩)|((with_reducible refine (HS.out _ _ H2.out).mono ?_);unfold decVal;rintro e w1 ⟨rfl,rfl⟩))));exact bodyPost_ret (v:=edgeVal none) (by simp [results,Try.results60,go_sem,edgeVal]) rfl (FIN.out _ HR.out _ _ ⟨rfl,(by repeat' (first|(with_reducible exact Below.refl _ _)|(with_reducible assumption)|(with_reducible refine Below.alloc ?_ ?_ _)|(with_reducible refine Below.drew ?_)|(with_reducible refine below_drewN ?_ _)|(with_reducible refine Below.setCell ?_ ?_ _)|(refine bstep (by with_reducible assumption) ?_)|(refine bstep2 (by with_reducible assumption) (by first|omega|(simp;done)|(simp;omega)) ?_)|go_size))⟩)
  ·rcases h3 : decAt xs i2 with _ | ⟨a3,i3⟩
   all_goals
    have H3:=Lib.hid h3
    clear h3
   ·have HR : Hid (readE xs = none):=by unfold Hid readE; rw [H1.out]; simp only []; rw [H2.out]; simp only []; rw [H3.out]
    (go_enter Try.func60,Try.ntmps60);(go_wp2_with (first|(go_at_call 59;first|((with_reducible refine (HS.out _ _ H1.out).mono ?_);unfold decVal;rintro e w1 ⟨rfl,rfl⟩)|((with_reducible refine (HS.out _ _ H2.out).mono ?_);unfold decVal;rintro e w1 ⟨rfl,rfl⟩)|((with_reducible refine (HS.out _ _ H3.out).mono ?_);unfold decVal;rintro e w1 ⟨rfl,rfl⟩))));exact bodyPost_ret (v:=edgeVal none) (by simp [results,Try.results60,go_sem,edgeVal]) rfl (FIN.out _ HR.out _ _ ⟨rfl,(by repeat' (first|(with_reducible exact Below.refl _ _)|(with_reducible assumption)|(with_reducible refine Below.alloc ?_ ?_ _)|(with_reducible refine Below.drew ?_)|(with_reducible refine below_drewN ?_ _)|(with_reducible refine Below.setCell ?_ ?_ _)|(refine bstep (by with_reducible assumption) ?_)|(refine bstep2 (by with_reducible assumption) (by first|omega|(simp;done)|(simp;omega)) ?_)|go_size))⟩)
   ·by_cases he : i3 = (xs.length : Int)
    ·have HR : Hid (readE xs = some (a1,a2,a3)):=by unfold Hid readE; rw [H1.out]; simp only []; rw [H2.out]; simp only []; rw [H3.out]; simp only []; rw [if_pos he]
     have hne : (i3 != (xs.length : Int)) = false:=by simp [he]
     clear he
     (go_enter Try.func60,Try.ntmps60);(go_wp2_with (first|(go_at_call 59;first|((with_reducible refine (HS.out _ _ H1.out).mono ?_);unfold decVal;rintro e w1 ⟨rfl,rfl⟩)|((with_reducible refine (HS.out _ _ H2.out).mono ?_);unfold decVal;rintro e w1 ⟨rfl,rfl⟩)|((with_reducible refine (HS.out _ _ H3.out).mono ?_);unfold decVal;rintro e w1 ⟨rfl,rfl⟩))));exact bodyPost_ret (v:=edgeVal (some (a1,a2,a3))) (by simp [results,Try.results60,go_sem,edgeVal]) rfl (FIN.out _ HR.out _ _ ⟨rfl,(by repeat' (first|(with_reducible exact Below.refl _ _)|(with_reducible assumption)|(with_reducible refine Below.alloc ?_ ?_ _)|(with_reducible refine Below.drew ?_)|(with_reducible refine below_drewN ?_ _)|(with_reducible refine Below.setCell ?_ ?_ _)|(refine bstep (by with_reducible assumption) ?_)|(refine bstep2 (by with_reducible assumption) (by first|omega|(simp;done)|(simp;omega)) ?_)|go_size))⟩)
    ·have HR : Hid (readE xs = none):=by unfold Hid readE; rw [H1.out]; simp only []; rw [H2.out]; simp only []; rw [H3.out]; simp only []; rw [if_neg he]
     have hne : (i3 != (xs.length : Int)) = true:=by simp [he]
     clear he
     (go_enter Try.func60,Try.ntmps60);(go_wp2_with (first|(go_at_call 59;first|((with_reducible refine (HS.out _ _ H1.out).mono ?_);unfold decVal;rintro e w1 ⟨rfl,rfl⟩)|((with_reducible refine (HS.out _ _ H2.out).mono ?_);unfold decVal;rintro e w1 ⟨rfl,rfl⟩)|((with_reducible refine (HS.out _ _ H3.out).mono ?_);unfold decVal;rintro e w1 ⟨rfl,rfl⟩))));exact bodyPost_ret (v:=edgeVal none) (by simp [results,Try.results60,go_sem,edgeVal]) rfl (FIN.out _ HR.out _ _ ⟨rfl,(by repeat' (first|(with_reducible exact Below.refl _ _)|(with_reducible assumption)|(with_reducible refine Below.alloc ?_ ?_ _)|(with_reducible refine Below.drew ?_)|(with_reducible refine below_drewN ?_ _)|(with_reducible refine Below.setCell ?_ ?_ _)|(refine bstep (by with_reducible assumption) ?_)|(refine bstep2 (by with_reducible assumption) (by first|omega|(simp;done)|(simp;omega)) ?_)|go_size))⟩)
end Go.Proofs.Ytmkijbfiilpccaa
