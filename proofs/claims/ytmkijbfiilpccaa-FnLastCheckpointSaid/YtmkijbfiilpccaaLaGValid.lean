/- Frames: CheckSum (the model's), FrameOf, both texts. No statement of the seat is proved here. -/
import Derived.Lib.AppendZerosOnto
import Derived.LoopN
import Derived.Lib.SliceRun
import Derived.Test.YtmkijbfiilpccaaRows
import Derived.WalkKit
import Derived.WalkSpells
import Derived.WalkLawsBesides
import Derived.Lib.Hide
import Derived.Handy
import Derived.BigQuiet
import Derived.Deep.QuietTactic
import Derived.Deep.RegionHeld3
import Derived.Test.YtmkijbfiilpccaaLaLib
import Derived.Test.YtmkijbfiilpccaaLaOwn
import Derived.Test.YtmkijbfiilpccaaLaJobs
import Derived.Test.YtmkijbfiilpccaaLaCodes3
set_option linter.unusedSimpArgs false
set_option linter.unusedVariables false
set_option maxRecDepth 100000
set_option maxHeartbeats 600000
namespace Go.Proofs.Ytmkijbfiilpccaa
open Go.RowKit
def bodyOk (xs : List Int) : Bool:=bytesOk xs && decide (1 ≤ xs.length) && decide (xs.length ≤ 100)
theorem implBodyValid (ao : Option Addr) (b o c : Nat) (xs : List Int) (w : World) (hl : xs.length ≤ maxLen) (ha : At ao b o xs.length) (h : Ints w b o xs) :
  Calls Try.prog 84 #[.slice ao xs.length c] w fun e w'=>e = .returned (.bool (bodyOk xs)) ∧ w = w':=by
 have hl':=hl
 unfold maxLen at hl'
 cases hv : bytesOk xs
 all_goals
  have HV:=Lib.hid hv
  have HB:=Lib.hid (implBytesValid ao b o c xs w hl ha h)
  rw [hv] at HB
  clear hv
  by_cases h1 : 1 ≤ xs.length
  ·by_cases h2 : xs.length ≤ 100
   ·have i1 : (1 : Int) ≤ xs.length:=by omega
    have i2 : (xs.length : Int) ≤ 100:=by omega
    have d1 : decide ((1 : Int) ≤ xs.length) = true:=by simp; omega
    have d2 : decide ((xs.length : Int) ≤ 100) = true:=by simp; omega
    go_enter Try.func84,Try.ntmps84
    go_wp2_with (first|(go_at_call 77;refine HB.out.mono ?_;rintro e w1 ⟨rfl,rfl⟩))
    go_ret
    exact ⟨Zb7 (by simp [bodyOk,HV.out,h1,h2]),rfl⟩
   ·have i1 : (1 : Int) ≤ xs.length:=by omega
    have i2 : ¬ (xs.length : Int) ≤ 100:=by omega
    have i3 : (100 : Int) < xs.length:=by omega
    go_enter Try.func84,Try.ntmps84
    go_wp2_with (first|(go_at_call 77;refine HB.out.mono ?_;rintro e w1 ⟨rfl,rfl⟩))
    go_ret
    exact ⟨Zb7 (by simp [bodyOk,HV.out,h1,h2]),rfl⟩
  ·have i1 : ¬ (1 : Int) ≤ xs.length:=by omega
   have i3 : (xs.length : Int) < 1:=by omega
   go_enter Try.func84,Try.ntmps84
   go_wp2_with (first|(go_at_call 77;refine HB.out.mono ?_;rintro e w1 ⟨rfl,rfl⟩))
   go_ret
   exact ⟨Zb7 (by simp [bodyOk,h1]),rfl⟩
end Go.Proofs.Ytmkijbfiilpccaa
set_option linter.unusedSimpArgs false
set_option linter.unusedVariables false
namespace Go.Proofs.Ytmkijbfiilpccaa
open Go.RowKit
abbrev E3:=Int × Int × Int
def ev : List E3 → List Value
 | []=>[]
 | e :: t=>.int .i64 e.1 :: .int .i64 e.2.1 :: .int .i64 e.2.2 :: ev t
theorem ev_get : ∀ (es : List E3) (k : Nat) (h : k < es.length),(ev es)[k * 3]? = some (.int .i64 es[k].1) ∧ (ev es)[k * 3 + 1]? = some (.int .i64 es[k].2.1) ∧ (ev es)[k * 3 + 2]? = some (.int .i64 es[k].2.2)
 | e :: t,0,_=>⟨rfl,rfl,rfl⟩
 | e :: t,k + 1,h=>by
  have:=ev_get t k (by simpa using h)
  rw [show (k + 1) * 3 = k * 3 + 1 + 1 + 1 by omega]
  simpa [ev] using this
abbrev Se (w : World) (ao : Option Addr) (es : List E3) : Prop:=Src w ao es.length 3 (ev es)
def Edg (w : World) (b o : Nat) (es : List E3) : Prop:=∀ k (h : k < es.length),w.cell? ⟨b,o + k * 3,none⟩ = some (.int .i64 es[k].1) ∧ w.cell? ⟨b,o + k * 3 + 1,none⟩ = some (.int .i64 es[k].2.1) ∧ w.cell? ⟨b,o + k * 3 + 2,none⟩ = some (.int .i64 es[k].2.2)
theorem Src.edges {w : World} {ao : Option Addr} {es : List E3} (h : Se w ao es) : ∃ b o,At ao b o es.length ∧ Edg w b o es:=by
 obtain ⟨b,o,ha,hc⟩:=h.at_
 refine ⟨b,o,ha,fun k hk=>?_⟩
 obtain ⟨h0,h1,h2⟩:=ev_get es k hk
 exact ⟨hc _ _ h0,by rw [Nat.add_assoc]; exact hc _ _ h1,by rw [Nat.add_assoc]; exact hc _ _ h2⟩
def hasV (m v : Int) : Bool:=decide (0 ≤ v ∧ v < m)
def before (a b : E3) : Bool:=decide (a.1 < b.1 ∨ a.1 = b.1 ∧ a.2.1 < b.2.1)
def cmpI (a b : Int) : Int:=if a < b then -1 else if b < a then 1 else 0
def orI (x y : Int) : Int:=if x = 0 then y else x
end Go.Proofs.Ytmkijbfiilpccaa
set_option linter.unusedSimpArgs false
set_option linter.unusedVariables false
namespace Go.Proofs.Ytmkijbfiilpccaa
open Go.RowKit
def eOk (P : Int → Bool) (e : E3) : Bool:=P e.1 && P e.2.1 && decide (e.1 ≠ e.2.1) && decide (0 ≤ e.2.2 ∧ e.2.2 ≤ 20)
def ordOk : Option E3 → E3 → Bool
 | none,_=>true
 | some q,e=>before q e
def chain (P : Int → Bool) : Option E3 → List E3 → Bool
 | _,[]=>true
 | p,e :: t=>eOk P e && ordOk p e && chain P (some e) t
def gOk (m : Int) (es : List E3) : Bool:=decide (0 ≤ m ∧ m ≤ 16) && decide (es.length ≤ 40) && chain (hasV m) none es
def prevE (es : List E3) : Nat → Option E3
 | 0=>none
 | j + 1=>es[j]?
theorem Zcl {P : Int → Bool} {es : List E3} {k : Nat} (h : k < es.length) : chain P (prevE es k) (es.drop k) = (eOk P es[k] && ordOk (prevE es k) es[k] && chain P (prevE es (k + 1)) (es.drop (k + 1))):=by
 rw [List.drop_eq_getElem_cons h]
 simp [chain,prevE,h]
theorem chain_end {P : Int → Bool} {es : List E3} {k : Nat} (h : es.length ≤ k) : chain P (prevE es k) (es.drop k) = true:=by
 rw [List.drop_of_length_le h]; rfl
theorem chain_congr {P Q : Int → Bool} (h : ∀ v,P v = Q v) : ∀ p es,chain P p es = chain Q p es
 | _,[]=>rfl
 | p,e :: t=>by simp [chain,eOk,h,chain_congr h (some e) t]
end Go.Proofs.Ytmkijbfiilpccaa
