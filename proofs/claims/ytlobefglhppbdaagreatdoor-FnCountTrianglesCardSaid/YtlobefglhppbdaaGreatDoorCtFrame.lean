/- The frame of every law of the seat: from a contract 'the call returns true, nothing that was there has turned' to the row's post. No statement of the seat is proved here. -/
import Derived.Test.YtlobefglhppbdaaGreatDoorRows
import Derived.WalkKit
import Derived.ProofKit
import Derived.Lib.SmallJoins
import Derived.Handy
import Derived.Test.YtlobefglhppbdaaGreatDoorCtLib
set_option linter.unusedSimpArgs false
set_option linter.unusedVariables false
namespace Go.Proofs.YtlobefglhppbdaaGreatDoor
open Go.ChangeShapes Go.WideShapes Go.ChangeAt Go.RowKit
theorem own_knob : ownKnob Tryz.prog.godebug = none := by kernel_rfl
section
variable {H : Type} {enc : TypeId × Value → H} {P : Program}
theorem trodAll_stays (hl : laidOutB P = true) {W W' : World} (hb : Below W.heap.size W W') :
    ∀ {ts : List TypeId} {vs : List Value} {ds : List (DataW H)} {p : List MemPlace} (sp : Nat → Bool), (∀ t ∈ ts, P.readableRec t = true ∧ t < P.types.size) →
      DataW.TrodAll enc P W 0 (fun _ => true) true ts vs ds p → (∀ x ∈ p, x.block < W.heap.size) → (∀ x ∈ p, sp x.block = true) → DataW.TrodAll enc P W' 0 sp true ts vs ds p
  | [], vs, ds, p, sp, _, h, _, _ => by
    obtain ⟨rfl, rfl, rfl⟩ := trodAll_nil h
    exact trodAll_mk0
  | t :: ts, vs, ds, p, sp, hr, h, hlt, hsp => by
    obtain ⟨v, vs, d, ds, p1, q1, rfl, rfl, rfl, h0, r0⟩ := trodAll_cons h
    obtain ⟨hrr, hrow⟩ := hr t (by simp)
    exact ⟨p1, q1, WideElems.Trod_stays hl hrr hrow h0 (fun x hx => hb.same (hlt x (by simp [hx]))) (fun x hx => hsp x (by simp [hx])),
      trodAll_stays hl hb sp (fun t ht => hr t (by simp [ht])) r0 (fun x hx => hlt x (by simp [hx])) (fun x hx => hsp x (by simp [hx])), rfl⟩
theorem trodAll_length : ∀ {ts : List TypeId} {vs : List Value} {ds : List (DataW H)} {p : List MemPlace} {W : World} {sp : Nat → Bool}, DataW.TrodAll enc P W 0 sp true ts vs ds p → ds.length = ts.length
  | [], vs, ds, p, _, _, h => by
    obtain ⟨rfl, rfl, rfl⟩ := trodAll_nil h
    rfl
  | t :: ts, vs, ds, p, _, _, h => by
    obtain ⟨v, vs, d, ds, p1, q1, rfl, rfl, rfl, h0, r0⟩ := trodAll_cons h
    simp [trodAll_length r0]
theorem law_post {f : FuncId} {fn : Func} {s : ChangeSpec} {W : World} {args : Array Value} {ds gs : List (DataW H)} {before : List MemPlace} {tb : TypeId}
    (hW : DataW.Whole enc P fn.params.toList s.vars false W args.toList ds gs before) (hvars : s.vars = []) (hres : fn.resultTypes = #[tb])
    (hspec : ∀ (H : Type) (ds : List (DataW H)), ds.length = fn.params.toList.length → s.fn H (ds ++ []) = { results := [.lit (.bool true)], args := ds })
    (hl : laidOutB P = true) (hr : ∀ t ∈ fn.params.toList, P.readableRec t = true ∧ t < P.types.size) (hu : P.underlying tb = some .bool)
    (hc : Calls P f args W fun e w' => e = .returned (.bool true) ∧ Below W.heap.size W w') :
    Calls P f args W fun e W' => ∃ v, e = .returned v ∧ s.post enc P fn false true false false W args v W' := by
  refine hc.mono fun e W' ⟨he, hb⟩ => ⟨_, he, ?_⟩
  have hW' := hW
  rw [hvars] at hW'
  obtain ⟨p, q, hA, hV, hpq, hfz, hnd⟩ := hW'
  obtain ⟨rfl, rfl⟩ := trodVars_none hV
  have hlt : ∀ x ∈ before, x.block < W.heap.size := fun x hx => hW.lt x hx
  have hp : before = p := by rw [hpq, List.append_nil]
  subst hp
  have hsp := hspec H ds (trodAll_length hA)
  refine ⟨ds, [], before, [], before, [], hW, ?_, ?_, ?_, hb.frame _, fun h => by cases h⟩
  · rw [hsp, hres]
    exact trodAll_mk1 (shut_bool hu _)
  · rw [hsp]
    exact trodAll_stays hl hb _ hr hA hlt (fun x hx => by simpa using hlt x hx)
  · rw [hvars, hsp]
    rfl
end
end Go.Proofs.YtlobefglhppbdaaGreatDoor
