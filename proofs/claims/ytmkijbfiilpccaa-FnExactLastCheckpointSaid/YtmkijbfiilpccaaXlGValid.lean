/- Graphs in memory; small tests of edges. No statement of the seat is proved here. -/
import Derived.LoopN
import Derived.Deep.RegionHeld3
import Derived.Test.YtmkijbfiilpccaaRows
import Derived.WalkKit
import Derived.WalkSpells
import Derived.WalkLawsBesides
import Derived.Lib.Hide
import Derived.Handy
import Derived.BigQuiet
import Derived.Deep.QuietTactic
import Derived.Test.YtmkijbfiilpccaaXlLib
import Derived.Test.YtmkijbfiilpccaaXlOwn
import Derived.Test.YtmkijbfiilpccaaXlJobs
import Derived.Test.YtmkijbfiilpccaaXlCodes3
import Derived.Test.YtmkijbfiilpccaaXlFrames2
set_option linter.unusedSimpArgs false
set_option linter.unusedVariables false
namespace Go.Proofs.Ytmkijbfiilpccaa
open Go.RowKit
abbrev E3:=Int × Int × Int
def ev : List E3 → List Value
 | []=>[]
 | e :: t=>.int .i64 e.1 :: .int .i64 e.2.1 :: .int .i64 e.2.2 :: ev t
theorem ev_get : ∀ (es : List E3) (k : Nat) (h : k < es.length),(ev es)[k * 3]? = some (.int .i64 es[k].1) ∧ (ev es)[k * 3 + 1]? = some (.int .i64 es[k].2.1) ∧ (ev es)[k * 3 + 2]? = some (.int .i64 es[k].2.2)
 | e :: t,0,_=>⟨rfl,rfl,rfl⟩
 | e :: t,k + 1,h=>by
  have:=ev_get t k (by simpa using h)
  rw [show (k + 1) * 3 = k * 3 + 1 + 1 + 1 by omega]
  simpa [ev] using this
abbrev Se (w : World) (ao : Option Addr) (es : List E3) : Prop:=Src w ao es.length 3 (ev es)
def Edg (w : World) (b o : Nat) (es : List E3) : Prop:=∀ k (h : k < es.length),w.cell? ⟨b,o + k * 3,none⟩ = some (.int .i64 es[k].1) ∧ w.cell? ⟨b,o + k * 3 + 1,none⟩ = some (.int .i64 es[k].2.1) ∧ w.cell? ⟨b,o + k * 3 + 2,none⟩ = some (.int .i64 es[k].2.2)
theorem Src.edges {w : World} {ao : Option Addr} {es : List E3} (h : Se w ao es) : ∃ b o,At ao b o es.length ∧ Edg w b o es:=by
 obtain ⟨b,o,ha,hc⟩:=h.at_
 refine ⟨b,o,ha,fun k hk=>?_⟩
 obtain ⟨h0,h1,h2⟩:=ev_get es k hk
 exact ⟨hc _ _ h0,by rw [Nat.add_assoc]; exact hc _ _ h1,by rw [Nat.add_assoc]; exact hc _ _ h2⟩
def cmpI (a b : Int) : Int:=if a < b then -1 else if b < a then 1 else 0
def orI (x y : Int) : Int:=if x = 0 then y else x
end Go.Proofs.Ytmkijbfiilpccaa
set_option linter.unusedSimpArgs false
set_option linter.unusedVariables false
namespace Go.Proofs.Ytmkijbfiilpccaa
open Go.RowKit
def prevE (es : List E3) : Nat → Option E3
 | 0=>none
 | j + 1=>es[j]?
end Go.Proofs.Ytmkijbfiilpccaa
