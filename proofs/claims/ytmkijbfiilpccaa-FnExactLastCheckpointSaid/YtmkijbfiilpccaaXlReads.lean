/- What an argument that can be read as data looks like in memory. No statement of the seat is proved here. -/
import Derived.Test.YtmkijbfiilpccaaRows
import Derived.WalkKit
import Derived.ProofKit
import Derived.Lib.SmallJoins
import Derived.Handy
import Derived.Test.YtmkijbfiilpccaaXlLib
set_option linter.unusedSimpArgs false
set_option linter.unusedVariables false
namespace Go.Proofs.Ytmkijbfiilpccaa
open Go.ChangeShapes Go.WideShapes Go.ChangeAt Go.RowKit
theorem i64_of_wf {n : Int} (h : (Lit.int .i64 n).wf = true) : I64 n:=by
 simp [Lit.wf,IntKind.min,IntKind.max,IntKind.signed,IntKind.bits] at h
 unfold I64; omega
section
variable {H : Type} {enc : TypeId × Value → H} {W : World} {base fuel : Nat} {spare : Nat → Bool} {held : Bool} {cs : List Value} {x : DataW H × List MemPlace}
theorem rd_int (h : DataW.trod enc Try.prog W base spare held fuel 3 cs = some x) : ∃ n,cs = [.int .i64 n] ∧ I64 n:=by
 obtain ⟨n,h1,_,h2⟩:=DataW.trod_int Try.underlying3 h
 exact ⟨n,h1,i64_of_wf h2⟩
theorem addr_of_cell {w : World} {a : Addr} {v : Value} (h : w.cell? a = some v) : a = ⟨a.block,a.off,none⟩:=by
 unfold World.cell? at h
 cases hs : a.spot with
 | none=>cases a; simp_all
 | some s=>simp [hs] at h; split at h<;>simp_all
end
end Go.Proofs.Ytmkijbfiilpccaa
