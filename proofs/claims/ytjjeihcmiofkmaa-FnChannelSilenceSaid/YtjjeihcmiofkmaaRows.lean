/-
  No cell of these rows narrows 'for every input' (looked for: loops, veiled, ifaces, maps, wideKeys, modest, calm, conditions, laid).
  DERIVED. THE GIVEN ROWS OF THIS SEAT. 7 by the template 'for every input the law returns true; each argument reads behind the call as it read before'; 0 by the template 'total and deterministic' (their statements: YtjjeihcmiofkmaaTotals.lean).
  GIVEN WITH THE SEED: the statements are not yours to turn. If you find one false, say at which input.
  Laid BY PROGRAM, IN A SANDBOX (cutbox-rows.mjs): the forced cells as the released guide's own fill.sh prints them over the translation 7deebcc062f39fb4… (all of the seat's roots in one cut). By AI agents, Wed Nov 11 2026. No macro, syntax, notation, axiom, sorry.
-/
import Derived.Test.YtjjeihcmiofkmaaChecked
import GoSem.Claim
import GoSem.ClaimJoined
import GoSem.ClaimMapViews
import Derived.JoinedTies
import Derived.KernelRfl
namespace Go.Proofs.Ytjjeihcmiofkmaa
/- THE CELL 'sum', in the pinned program and in every row, IS THE sha256 OF THE DUMP (.gsa) THAT YtjjeihcmiofkmaaProg.lean LOADS. Nothing in Lean hashes anything: it is a label: what it is worth is what the hold of that sum in a sandbox is worth. -/
noncomputable def Try.pinned : Pinned := { name := "ytjjeihcmiofkmaa", sum := "7deebcc062f39fb4d5a94bd6362b11c44a8f8849670a5a95590ca25b8214f1e1", checked := Try.checked }
namespace Rows
def none {H : Type} : Left H := { results := [], args := [] }

/-- 'laws.FnWriteAll': WHATEVER THE INPUT: true; the input reads as it did. -/
def fnWriteAllSpec : ChangeSpec := { name := "fnWriteAll", fn := fun _ => fun
  | [d] => { results := [.lit (.bool true)], args := [d] }
  | _ => none }
def fnWriteAllRow : OpenClaim := { program := "ytjjeihcmiofkmaa", sum := "7deebcc062f39fb4d5a94bd6362b11c44a8f8849670a5a95590ca25b8214f1e1", func := "loop.example/graphcluster/laws.FnWriteAll", spec := "fnWriteAll", unfollowed := true, recurses := true, apart := false }
def FnWriteAllSaid : Prop := fnWriteAllRow.holds Try.pinned (OpenSpec.ofChange fnWriteAllSpec)

/-- ITS FALSE NEIGHBOUR: 'it returns false'. Refute it at one input. -/
def fnWriteAllWrong : ChangeSpec := { name := "fnWriteAll", fn := fun _ => fun
  | [d] => { results := [.lit (.bool false)], args := [d] }
  | _ => none }
def FnWriteAllWrongFalsely : Prop := fnWriteAllRow.holds Try.pinned (OpenSpec.ofChange fnWriteAllWrong)

/-- 'laws.FnChannelStep': WHATEVER THE INPUT: true; the input reads as it did. -/
def fnChannelStepSpec : ChangeSpec := { name := "fnChannelStep", fn := fun _ => fun
  | [d] => { results := [.lit (.bool true)], args := [d] }
  | _ => none }
def fnChannelStepRow : OpenClaim := { program := "ytjjeihcmiofkmaa", sum := "7deebcc062f39fb4d5a94bd6362b11c44a8f8849670a5a95590ca25b8214f1e1", func := "loop.example/graphcluster/laws.FnChannelStep", spec := "fnChannelStep", apart := false }
def FnChannelStepSaid : Prop := fnChannelStepRow.holds Try.pinned (OpenSpec.ofChange fnChannelStepSpec)

/-- ITS FALSE NEIGHBOUR: 'it returns false'. Refute it at one input. -/
def fnChannelStepWrong : ChangeSpec := { name := "fnChannelStep", fn := fun _ => fun
  | [d] => { results := [.lit (.bool false)], args := [d] }
  | _ => none }
def FnChannelStepWrongFalsely : Prop := fnChannelStepRow.holds Try.pinned (OpenSpec.ofChange fnChannelStepWrong)

/-- 'laws.FnChannelQuiet': WHATEVER THE INPUT: true; the input reads as it did. -/
def fnChannelQuietSpec : ChangeSpec := { name := "fnChannelQuiet", fn := fun _ => fun
  | [d] => { results := [.lit (.bool true)], args := [d] }
  | _ => none }
def fnChannelQuietRow : OpenClaim := { program := "ytjjeihcmiofkmaa", sum := "7deebcc062f39fb4d5a94bd6362b11c44a8f8849670a5a95590ca25b8214f1e1", func := "loop.example/graphcluster/laws.FnChannelQuiet", spec := "fnChannelQuiet", apart := false }
def FnChannelQuietSaid : Prop := fnChannelQuietRow.holds Try.pinned (OpenSpec.ofChange fnChannelQuietSpec)

/-- ITS FALSE NEIGHBOUR: 'it returns false'. Refute it at one input. -/
def fnChannelQuietWrong : ChangeSpec := { name := "fnChannelQuiet", fn := fun _ => fun
  | [d] => { results := [.lit (.bool false)], args := [d] }
  | _ => none }
def FnChannelQuietWrongFalsely : Prop := fnChannelQuietRow.holds Try.pinned (OpenSpec.ofChange fnChannelQuietWrong)

/-- 'laws.FnChannelRun': WHATEVER THE INPUT: true; the input reads as it did. -/
def fnChannelRunSpec : ChangeSpec := { name := "fnChannelRun", fn := fun _ => fun
  | [d] => { results := [.lit (.bool true)], args := [d] }
  | _ => none }
def fnChannelRunRow : OpenClaim := { program := "ytjjeihcmiofkmaa", sum := "7deebcc062f39fb4d5a94bd6362b11c44a8f8849670a5a95590ca25b8214f1e1", func := "loop.example/graphcluster/laws.FnChannelRun", spec := "fnChannelRun", apart := false }
def FnChannelRunSaid : Prop := fnChannelRunRow.holds Try.pinned (OpenSpec.ofChange fnChannelRunSpec)

/-- ITS FALSE NEIGHBOUR: 'it returns false'. Refute it at one input. -/
def fnChannelRunWrong : ChangeSpec := { name := "fnChannelRun", fn := fun _ => fun
  | [d] => { results := [.lit (.bool false)], args := [d] }
  | _ => none }
def FnChannelRunWrongFalsely : Prop := fnChannelRunRow.holds Try.pinned (OpenSpec.ofChange fnChannelRunWrong)

/-- 'laws.FnChannelDone': WHATEVER THE INPUT: true; the input reads as it did. -/
def fnChannelDoneSpec : ChangeSpec := { name := "fnChannelDone", fn := fun _ => fun
  | [d] => { results := [.lit (.bool true)], args := [d] }
  | _ => none }
def fnChannelDoneRow : OpenClaim := { program := "ytjjeihcmiofkmaa", sum := "7deebcc062f39fb4d5a94bd6362b11c44a8f8849670a5a95590ca25b8214f1e1", func := "loop.example/graphcluster/laws.FnChannelDone", spec := "fnChannelDone", apart := false }
def FnChannelDoneSaid : Prop := fnChannelDoneRow.holds Try.pinned (OpenSpec.ofChange fnChannelDoneSpec)

/-- ITS FALSE NEIGHBOUR: 'it returns false'. Refute it at one input. -/
def fnChannelDoneWrong : ChangeSpec := { name := "fnChannelDone", fn := fun _ => fun
  | [d] => { results := [.lit (.bool false)], args := [d] }
  | _ => none }
def FnChannelDoneWrongFalsely : Prop := fnChannelDoneRow.holds Try.pinned (OpenSpec.ofChange fnChannelDoneWrong)

/-- 'laws.FnChannelSilence': WHATEVER THE INPUT: true; the input reads as it did. -/
def fnChannelSilenceSpec : ChangeSpec := { name := "fnChannelSilence", fn := fun _ => fun
  | [d] => { results := [.lit (.bool true)], args := [d] }
  | _ => none }
def fnChannelSilenceRow : OpenClaim := { program := "ytjjeihcmiofkmaa", sum := "7deebcc062f39fb4d5a94bd6362b11c44a8f8849670a5a95590ca25b8214f1e1", func := "loop.example/graphcluster/laws.FnChannelSilence", spec := "fnChannelSilence", apart := false }
def FnChannelSilenceSaid : Prop := fnChannelSilenceRow.holds Try.pinned (OpenSpec.ofChange fnChannelSilenceSpec)

/-- ITS FALSE NEIGHBOUR: 'it returns false'. Refute it at one input. -/
def fnChannelSilenceWrong : ChangeSpec := { name := "fnChannelSilence", fn := fun _ => fun
  | [d] => { results := [.lit (.bool false)], args := [d] }
  | _ => none }
def FnChannelSilenceWrongFalsely : Prop := fnChannelSilenceRow.holds Try.pinned (OpenSpec.ofChange fnChannelSilenceWrong)

/-- 'laws.FnChannelPrefix': WHATEVER THE INPUT: true; the input reads as it did. -/
def fnChannelPrefixSpec : ChangeSpec := { name := "fnChannelPrefix", fn := fun _ => fun
  | [d] => { results := [.lit (.bool true)], args := [d] }
  | _ => none }
def fnChannelPrefixRow : OpenClaim := { program := "ytjjeihcmiofkmaa", sum := "7deebcc062f39fb4d5a94bd6362b11c44a8f8849670a5a95590ca25b8214f1e1", func := "loop.example/graphcluster/laws.FnChannelPrefix", spec := "fnChannelPrefix", apart := false }
def FnChannelPrefixSaid : Prop := fnChannelPrefixRow.holds Try.pinned (OpenSpec.ofChange fnChannelPrefixSpec)

/-- ITS FALSE NEIGHBOUR: 'it returns false'. Refute it at one input. -/
def fnChannelPrefixWrong : ChangeSpec := { name := "fnChannelPrefix", fn := fun _ => fun
  | [d] => { results := [.lit (.bool false)], args := [d] }
  | _ => none }
def FnChannelPrefixWrongFalsely : Prop := fnChannelPrefixRow.holds Try.pinned (OpenSpec.ofChange fnChannelPrefixWrong)

/- THE SECOND FORM. 'bulk': how many values and letters a reading holds, each counted each time it is reached (what is shared counts as often as it is met; a slice's spare places count too). A statement '..UptoSaid' is the law's where the arguments, and the package variables that the reading takes, are together of bulk at most 1048576: NARROWER than '..Said'. Prove '..Said' where nothing that the law and all that it calls make is longer than what came in: it says more and counts as full. Else prove '..UptoSaid'. A law counts once. -/
mutual
def uptoBulk {H : Type} : DataW H → Nat
  | .lit (.string bytes) => bytes.length + 1
  | .lit _ => 1
  | .nil => 1
  | .ptr d => uptoBulk d + 1
  | .slice elems spare => uptoBulkAll elems + uptoBulkAll spare + 1
  | .agg parts => uptoBulkAll parts + 1
  | .iface _ d => uptoBulk d + 1
  | .map entries => uptoBulkEntries entries + 1
  | .held _ => 1
def uptoBulkAll {H : Type} : List (DataW H) → Nat
  | [] => 0
  | d :: r => uptoBulk d + uptoBulkAll r
def uptoBulkEntries {H : Type} : List (Lit × DataW H) → Nat
  | [] => 0
  | x :: r => uptoBulkEntry x + uptoBulkEntries r
def uptoBulkEntry {H : Type} : Lit × DataW H → Nat
  | (.string bytes, d) => bytes.length + uptoBulk d + 1
  | (_, d) => uptoBulk d + 1
 end
def uptoSmall : (H : Type) → List (DataW H) → Bool := fun _ ds => decide (uptoBulkAll ds ≤ 1048576)
def OpenSpec.upto (s : _root_.Go.ChangeSpec) : _root_.Go.OpenSpec := { _root_.Go.OpenSpec.ofChange s with cond := some uptoSmall }

/-- 'laws.FnWriteAll', WHERE WHAT IT READS IS OF BULK AT MOST 1048576: true; the input reads as it did. -/
def fnWriteAllUptoRow : OpenClaim := { program := "ytjjeihcmiofkmaa", sum := "7deebcc062f39fb4d5a94bd6362b11c44a8f8849670a5a95590ca25b8214f1e1", func := "loop.example/graphcluster/laws.FnWriteAll", spec := "fnWriteAll", unfollowed := true, recurses := true, apart := false, narrowed := true }
def FnWriteAllUptoSaid : Prop := fnWriteAllUptoRow.holds Try.pinned (OpenSpec.upto fnWriteAllSpec)

/-- 'laws.FnChannelStep', WHERE WHAT IT READS IS OF BULK AT MOST 1048576: true; the input reads as it did. -/
def fnChannelStepUptoRow : OpenClaim := { program := "ytjjeihcmiofkmaa", sum := "7deebcc062f39fb4d5a94bd6362b11c44a8f8849670a5a95590ca25b8214f1e1", func := "loop.example/graphcluster/laws.FnChannelStep", spec := "fnChannelStep", apart := false, narrowed := true }
def FnChannelStepUptoSaid : Prop := fnChannelStepUptoRow.holds Try.pinned (OpenSpec.upto fnChannelStepSpec)

/-- 'laws.FnChannelQuiet', WHERE WHAT IT READS IS OF BULK AT MOST 1048576: true; the input reads as it did. -/
def fnChannelQuietUptoRow : OpenClaim := { program := "ytjjeihcmiofkmaa", sum := "7deebcc062f39fb4d5a94bd6362b11c44a8f8849670a5a95590ca25b8214f1e1", func := "loop.example/graphcluster/laws.FnChannelQuiet", spec := "fnChannelQuiet", apart := false, narrowed := true }
def FnChannelQuietUptoSaid : Prop := fnChannelQuietUptoRow.holds Try.pinned (OpenSpec.upto fnChannelQuietSpec)

/-- 'laws.FnChannelRun', WHERE WHAT IT READS IS OF BULK AT MOST 1048576: true; the input reads as it did. -/
def fnChannelRunUptoRow : OpenClaim := { program := "ytjjeihcmiofkmaa", sum := "7deebcc062f39fb4d5a94bd6362b11c44a8f8849670a5a95590ca25b8214f1e1", func := "loop.example/graphcluster/laws.FnChannelRun", spec := "fnChannelRun", apart := false, narrowed := true }
def FnChannelRunUptoSaid : Prop := fnChannelRunUptoRow.holds Try.pinned (OpenSpec.upto fnChannelRunSpec)

/-- 'laws.FnChannelDone', WHERE WHAT IT READS IS OF BULK AT MOST 1048576: true; the input reads as it did. -/
def fnChannelDoneUptoRow : OpenClaim := { program := "ytjjeihcmiofkmaa", sum := "7deebcc062f39fb4d5a94bd6362b11c44a8f8849670a5a95590ca25b8214f1e1", func := "loop.example/graphcluster/laws.FnChannelDone", spec := "fnChannelDone", apart := false, narrowed := true }
def FnChannelDoneUptoSaid : Prop := fnChannelDoneUptoRow.holds Try.pinned (OpenSpec.upto fnChannelDoneSpec)

/-- 'laws.FnChannelSilence', WHERE WHAT IT READS IS OF BULK AT MOST 1048576: true; the input reads as it did. -/
def fnChannelSilenceUptoRow : OpenClaim := { program := "ytjjeihcmiofkmaa", sum := "7deebcc062f39fb4d5a94bd6362b11c44a8f8849670a5a95590ca25b8214f1e1", func := "loop.example/graphcluster/laws.FnChannelSilence", spec := "fnChannelSilence", apart := false, narrowed := true }
def FnChannelSilenceUptoSaid : Prop := fnChannelSilenceUptoRow.holds Try.pinned (OpenSpec.upto fnChannelSilenceSpec)

/-- 'laws.FnChannelPrefix', WHERE WHAT IT READS IS OF BULK AT MOST 1048576: true; the input reads as it did. -/
def fnChannelPrefixUptoRow : OpenClaim := { program := "ytjjeihcmiofkmaa", sum := "7deebcc062f39fb4d5a94bd6362b11c44a8f8849670a5a95590ca25b8214f1e1", func := "loop.example/graphcluster/laws.FnChannelPrefix", spec := "fnChannelPrefix", apart := false, narrowed := true }
def FnChannelPrefixUptoSaid : Prop := fnChannelPrefixUptoRow.holds Try.pinned (OpenSpec.upto fnChannelPrefixSpec)

end Rows
end Go.Proofs.Ytjjeihcmiofkmaa
