/- Messages in order by states. No statement of the seat is proved here. -/
import Derived.Lib.Hide
import Derived.Test.YtlobefglhppbdaaGreatDoorCtTy
import Derived.Test.YtlobefglhppbdaaGreatDoorCtGOrd
import Derived.Test.YtlobefglhppbdaaGreatDoorCtIInO
import Derived.Test.YtlobefglhppbdaaGreatDoorCtAList
set_option linter.unusedSimpArgs false
set_option linter.unusedVariables false
namespace Go.Proofs.YtlobefglhppbdaaGreatDoor.Abs
open Go.RowKit
open R (val row ref)
theorem leM_iff (x y : E3) : Go.Proofs.YtlobefglhppbdaaGreatDoor.leM x y = true ↔ nbf x y := by
  unfold Go.Proofs.YtlobefglhppbdaaGreatDoor.leM
  rw [Bool.not_eq_true', ← Bool.not_eq_true, Go.Proofs.YtlobefglhppbdaaGreatDoor.lt3, nbf_iff]
theorem outM_sort (ms : List E3) : Go.Proofs.YtlobefglhppbdaaGreatDoor.outM ms = sortM ms := by
  unfold Go.Proofs.YtlobefglhppbdaaGreatDoor.outM Go.Proofs.YtlobefglhppbdaaGreatDoor.outF
  have hperm := List.mergeSort_perm (Go.Proofs.YtlobefglhppbdaaGreatDoor.keysF ms) (fun x y => decide (x ≤ y))
  refine sortM_buckets ?_ ?_ ?_
  · have h1 : ((Go.Proofs.YtlobefglhppbdaaGreatDoor.keysF ms).mergeSort fun x y => decide (x ≤ y)).Pairwise fun a b => decide (a ≤ b) = true := List.pairwise_mergeSort (by intro a b c h1 h2; simp at *; omega) (by intro a b; simp; omega) _
    have h2 : ((Go.Proofs.YtlobefglhppbdaaGreatDoor.keysF ms).mergeSort fun x y => decide (x ≤ y)).Nodup := hperm.nodup_iff.2 (Go.Proofs.YtlobefglhppbdaaGreatDoor.keys_nodup ms)
    exact (h1.and h2).imp fun h => by have := of_decide_eq_true h.1; have := h.2; omega
  · intro m hm
    rw [hperm.mem_iff, Go.Proofs.YtlobefglhppbdaaGreatDoor.mem_keys]
    intro e
    have : m ∈ Go.Proofs.YtlobefglhppbdaaGreatDoor.bkM m.1 ms := by unfold Go.Proofs.YtlobefglhppbdaaGreatDoor.bkM; rw [List.mem_filter]; exact ⟨hm, by simp⟩
    rw [e] at this; cases this
  · intro t _
    refine ⟨List.mergeSort_perm _ _, ?_⟩
    have h1 : ((Go.Proofs.YtlobefglhppbdaaGreatDoor.bkM t ms).mergeSort Go.Proofs.YtlobefglhppbdaaGreatDoor.leM).Pairwise fun a b => Go.Proofs.YtlobefglhppbdaaGreatDoor.leM a b = true := List.pairwise_mergeSort (by intro a b c h1 h2; rw [leM_iff] at *; exact nbf_trans h1 h2) (by intro a b; rw [Bool.or_eq_true, leM_iff, leM_iff]; exact nbf_total a b) _
    exact h1.imp fun h => (leM_iff _ _).1 h
theorem own_resM {w' : World} {base base' c : Nat} {ao : Option Addr} {es : List E3} {nil : Bool} (h : Own w' base 105 3 ao es.length c (Go.Proofs.YtlobefglhppbdaaGreatDoor.ev es)) (hb : base' ≤ base) (hn : ao = none ↔ nil = true) : (row nil 3 (edges es)).p ⟨w', fun b => b < base'⟩ (.slice ao es.length c) := by
  obtain ⟨b, o, ha, hi⟩ := Src.edges h.src
  rcases h.form_ with ⟨rfl, h0, rfl⟩ | ⟨g, rfl, hg1, hg2⟩
  · refine row_p.2 ⟨none, 0, by rw [edges_len], by rw [edges_len]; simp only [maxLen]; omega, hn.symm, fun _ => rfl, fun hp => by rw [edges_len] at hp; omega⟩
  · have hcap := h.cap_
    refine row_p.2 ⟨_, c, by rw [edges_len], by rw [edges_len]; exact hcap, hn.symm, fun h => by (cases h), fun hp => ⟨g, 0, rfl, hg2, ?_, fun i e he => ?_⟩⟩
    · show ¬ g < base'
      omega
    · unfold edges at he
      rw [List.getElem?_map, Option.map_eq_some_iff] at he
      obtain ⟨z, hz1, rfl⟩ := he
      obtain ⟨hil, hzz⟩ := List.getElem?_eq_some_iff.1 hz1
      obtain ⟨c0, c1, c2⟩ := hi i hil
      rw [hzz] at c0 c1 c2
      have ha' := ha.resolve_left oM
      injection ha' with ha'
      injection ha' with hb ho
      subst hb ho
      refine ⟨rfl, fun j r hj => ?_⟩
      match j, hj with
      | 0, hj => obtain rfl : int z.1 = r := by simpa [P0.rs, edgeP] using hj
                 exact ⟨_, c0, (val_p (c := ⟨w', fun b => b < base'⟩)).2 ⟨rfl, rfl⟩⟩
      | 1, hj => obtain rfl : int z.2.1 = r := by simpa [P0.rs, edgeP] using hj
                 exact ⟨_, c1, (val_p (c := ⟨w', fun b => b < base'⟩)).2 ⟨rfl, rfl⟩⟩
      | 2, hj => obtain rfl : int z.2.2 = r := by simpa [P0.rs, edgeP] using hj
                 exact ⟨_, c2, (val_p (c := ⟨w', fun b => b < base'⟩)).2 ⟨rfl, rfl⟩⟩
      | j + 3, hj => simp [P0.rs, edgeP] at hj
theorem f_inOrder (nil : Bool) (ms : List E3) (hl : ms.length ≤ 2000) (hI : ∀ e ∈ ms, 0 ≤ e.1 ∧ e.1 ≤ 100) : Fn Tryz.prog 54 [.one (row nil 3 (edges ms))] (.v (.one (row false 3 (edges (sortM ms))))) := by
  refine ⟨ent_of Tryz.func54 kRf rfl, fun w vs _ hA => ?_⟩
  match vs, hA with
  | [v], ⟨h1, _⟩ =>
    obtain ⟨ao, cap, rfl, hs, _⟩ := edges_arg h1
    refine (Go.Proofs.YtlobefglhppbdaaGreatDoor.implInOrder ao cap ms w hl hI hs).mono ?_
    rintro e w' ⟨oao, oc, rfl, hO, hne, hb⟩
    refine ⟨_, rfl, ?_, hb⟩
    rw [outM_sort] at hO ⊢
    exact own_resM hO (Nat.le_refl _) ⟨fun h => absurd h hne, fun h => by cases h⟩
end Go.Proofs.YtlobefglhppbdaaGreatDoor.Abs
