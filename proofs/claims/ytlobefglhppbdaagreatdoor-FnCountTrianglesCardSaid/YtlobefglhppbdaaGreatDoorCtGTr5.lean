/- How many messages a round can send. No statement of the seat is proved here. -/
import Derived.Lib.Hide
import Derived.Test.YtlobefglhppbdaaGreatDoorCtTy
import Derived.Test.YtlobefglhppbdaaGreatDoorCtGOrd
import Derived.Test.YtlobefglhppbdaaGreatDoorCtGNear
set_option linter.unusedSimpArgs false
set_option linter.unusedVariables false
namespace Go.Proofs.YtlobefglhppbdaaGreatDoor.Abs
open Go.RowKit
open R (val row ref)
theorem allV_nodup (m : Int) : (allV m).Nodup := by
  unfold allV
  exact List.Pairwise.map _ (fun a b h h' => h oM) List.nodup_range
theorem sum_le {α : Type} (f g : α → Nat) : ∀ ws : List α, (∀ v ∈ ws, f v ≤ g v) → (ws.map f).sum ≤ (ws.map g).sum
  | [], _ => Nat.le_refl _
  | w :: ws, h => by
    have h1 := h w (by simp)
    have h2 := sum_le f g ws (fun v hv => h v (by simp [hv]))
    simp only [List.map_cons, List.sum_cons]; omega
theorem sum_const (c : Nat) : ∀ ws : List Int, (ws.map fun _ => c).sum = ws.length * c
  | [] => by simp
  | w :: ws => by rw [List.map_cons, List.sum_cons, sum_const c ws, List.length_cons, Nat.add_mul]; omega
theorem sum_mul (c : Nat) (f : Int → Nat) : ∀ ws : List Int, (ws.map fun v => f v * c).sum = (ws.map f).sum * c
  | [] => by simp
  | w :: ws => by rw [List.map_cons, List.sum_cons, sum_mul c f ws, List.map_cons, List.sum_cons, Nat.add_mul]
theorem nearL_nodup (m : Int) (es : List E3) (v : Int) : (nearL m es v).Nodup := by
  unfold nearL
  split
  · exact (allV_nodup m).filter _
  · exact List.nodup_nil
end Go.Proofs.YtlobefglhppbdaaGreatDoor.Abs
set_option linter.unusedSimpArgs false
set_option linter.unusedVariables false
namespace Go.Proofs.YtlobefglhppbdaaGreatDoor.Abs
open Go.RowKit
open R (val row ref)
set_option linter.unusedSectionVars false
section
variable (U : List Int) (R : Int → Int → Bool)
def leT (v : Int) : List Int := U.filter fun w => decide (w < v) && R v w
def grT (v : Int) : List Int := U.filter fun w => decide (v < w) && R v w
def pairsT : List Int → Nat
  | [] => 0
  | x :: l => (l.filter (R x)).length + pairsT l
def triT (l : List Int) : Nat := (l.map fun b => (l.filter fun a => decide (a < b) && R b a).length).sum
end
theorem sum_add (f g : Int → Nat) : ∀ l : List Int, (l.map fun x => f x + g x).sum = (l.map f).sum + (l.map g).sum
  | [] => rfl
  | x :: l => by simp only [List.map_cons, List.sum_cons, sum_add f g l]; omega
theorem sum_zero (f : Int → Nat) : ∀ l : List Int, (∀ x ∈ l, f x = 0) → (l.map f).sum = 0
  | [], _ => rfl
  | x :: l, h => by rw [List.map_cons, List.sum_cons, h x (by simp), sum_zero f l (fun y hy => h y (by simp [hy]))]
theorem sum_eq (f g : Int → Nat) : ∀ l : List Int, (∀ x ∈ l, f x = g x) → (l.map f).sum = (l.map g).sum
  | [], _ => rfl
  | x :: l, h => by rw [List.map_cons, List.map_cons, List.sum_cons, List.sum_cons, h x (by simp), sum_eq f g l (fun y hy => h y (by simp [hy]))]
theorem sum_ite (p : Int → Bool) : ∀ l : List Int, (l.map fun x => if p x then 1 else 0).sum = (l.filter p).length
  | [] => rfl
  | x :: l => by
    rw [List.map_cons, List.sum_cons, sum_ite p l, List.filter_cons]
    split <;> simp <;> omega
theorem sum_filter (p : Int → Bool) (f : Int → Nat) : ∀ l : List Int, ((l.filter p).map f).sum = (l.map fun x => if p x then f x else 0).sum
  | [] => rfl
  | x :: l => by
    rw [List.map_cons, List.sum_cons, ← sum_filter p f l, List.filter_cons]
    split <;> simp
theorem sum_swap (F : Int → Int → Nat) : ∀ l k : List Int, (l.map fun x => (k.map fun y => F x y).sum).sum = (k.map fun y => (l.map fun x => F x y).sum).sum
  | [], k => (sum_zero _ k (fun _ _ => rfl)).symm
  | x :: l, k => by
    simp only [List.map_cons, List.sum_cons]
    rw [sum_swap F l k, ← sum_add]
theorem tri_pairs {R : Int → Int → Bool} (hR : ∀ a b, R a b = R b a) : ∀ l : List Int, l.Pairwise (· < ·) → triT R l = pairsT R l
  | [], _ => rfl
  | x :: l, hs => by
    rw [List.pairwise_cons] at hs
    have ih := tri_pairs hR l hs.2
    unfold triT at ih ⊢
    rw [List.map_cons, List.sum_cons, pairsT]
    have e0 : ((x :: l).filter fun a => decide (a < x) && R x a).length = 0 := by
      rw [List.length_eq_zero_iff, List.filter_eq_nil_iff]
      intro a ha
      rcases List.mem_cons.1 ha with rfl | ha
      · simp
      · have := hs.1 a ha
        simp; intro h; omega
    have e1 : (l.map fun b => ((x :: l).filter fun a => decide (a < b) && R b a).length).sum = (l.map fun b => (if R x b then 1 else 0) + (l.filter fun a => decide (a < b) && R b a).length).sum := by
      refine sum_eq _ _ l fun b hb => ?_
      have hxb := hs.1 b hb
      rw [List.filter_cons, hR x b]
      cases hq : R b x <;> simp [hq, hxb] <;> omega
    rw [e0, e1, sum_add, sum_ite (R x) l, ih]
    omega
theorem le_gr_swap {R : Int → Int → Bool} (hR : ∀ a b, R a b = R b a) (U : List Int) (f : Int → Nat) : (U.map fun v => ((leT U R v).map f).sum).sum = (U.map fun b => (grT U R b).length * f b).sum := by
  unfold leT
  rw [sum_eq _ (fun v => (U.map fun b => if (decide (b < v) && R v b) = true then f b else 0).sum) U (fun v _ => sum_filter _ f U), sum_swap]
  refine sum_eq _ _ U fun b _ => ?_
  have h1 : (U.map fun v => if (decide (b < v) && R v b) = true then f b else 0).sum = (U.map fun v => (if (decide (b < v) && R b v) = true then 1 else 0) * f b).sum := by
    refine sum_eq _ _ U fun v _ => ?_
    rw [hR v b]
    split <;> simp
  rw [h1, sum_mul, sum_ite (fun v => decide (b < v) && R b v) U]
  rfl
theorem gr_le_sum {R : Int → Int → Bool} (hR : ∀ a b, R a b = R b a) (U : List Int) : (U.map fun v => (grT U R v).length).sum = (U.map fun v => (leT U R v).length).sum := by
  have h := le_gr_swap hR U (fun _ => 1)
  have h1 : (U.map fun v => ((leT U R v).map fun _ => 1).sum).sum = (U.map fun v => (leT U R v).length).sum := sum_eq _ _ U fun v _ => by rw [sum_const]; omega
  have h2 : (U.map fun b => (grT U R b).length * 1).sum = (U.map fun b => (grT U R b).length).sum := sum_eq _ _ U fun v _ => by omega
  omega
theorem tri_paths {R : Int → Int → Bool} (hR : ∀ a b, R a b = R b a) (U : List Int) : (U.map fun v => triT R (leT U R v)).sum ≤ (U.map fun b => (leT U R b).length * (grT U R b).length).sum := by
  have h := le_gr_swap hR U (fun b => (leT U R b).length)
  have h2 : (U.map fun b => (grT U R b).length * (leT U R b).length).sum = (U.map fun b => (leT U R b).length * (grT U R b).length).sum := sum_eq _ _ U fun v _ => Nat.mul_comm _ _
  rw [← h2, ← h]
  refine sum_le _ _ U fun v _ => ?_
  unfold triT
  refine sum_le _ _ _ fun b _ => ?_
  unfold leT
  rw [List.filter_filter]
  rw [← List.countP_eq_length_filter, ← List.countP_eq_length_filter]
  refine List.countP_mono_left fun a _ ha => ?_
  simp only [Bool.and_eq_true, decide_eq_true_eq] at ha ⊢
  exact ⟨ha.1.1, ha.1.2⟩
theorem near_split {R : Int → Int → Bool} (U : List Int) (v : Int) (hv : R v v = false) : (U.filter (R v)).length = (leT U R v).length + (grT U R v).length := by
  unfold leT grT
  induction U with
  | nil => rfl
  | cons x U ih =>
    rw [List.filter_cons, List.filter_cons, List.filter_cons]
    rcases Int.lt_trichotomy x v with h | h | h
    · have h2 : ¬ v < x := by omega
      cases hq : R v x <;> simp [h, h2, hq] <;> omega
    · subst h
      simp [hv]; omega
    · have h2 : ¬ x < v := by omega
      cases hq : R v x <;> simp [h, h2, hq] <;> omega
end Go.Proofs.YtlobefglhppbdaaGreatDoor.Abs
set_option linter.unusedSimpArgs false
set_option linter.unusedVariables false
namespace Go.Proofs.YtlobefglhppbdaaGreatDoor.Abs
open Go.RowKit
open R (val row ref)
def doneS (st : Sta) : Bool := !st.gs.any id && (st.ok && st.ms.isEmpty)
def startS (m : Nat) : Sta := ⟨0, List.replicate m 0, List.replicate m true, []⟩
def runF (m : Int) (es : List E3) (k s r : Int) : Nat → Sta → Option (List Sta)
  | 0, _ => none
  | f + 1, st => if doneS st then some [] else match stepS m es k s r st with
    | none => none
    | some x => (runF m es k s r f x).map (x :: ·)
theorem stepS_lim {m : Int} {es : List E3} {k s r : Int} {st x : Sta} (h : stepS m es k s r st = some x) : st.r ≤ 99 ∧ 0 ≤ st.r ∧ x.r = st.r + 1 := by
  have h1 := stepS_r h
  have h2 := stepS_ok h
  unfold stOk at h2
  simp only [Bool.and_eq_true, decide_eq_true_eq, inR] at h2
  unfold stepS at h
  split at h
  · rename_i h3
    have h3 := h3.2.2
    unfold stOk at h3
    simp only [Bool.and_eq_true, decide_eq_true_eq, inR] at h3
    omega
  · cases h
theorem runF_more {m : Int} {es : List E3} {k s r : Int} : ∀ (f : Nat) (st : Sta) (f' : Nat), 101 ≤ f + st.r → f ≤ f' → runF m es k s r f' st = runF m es k s r f st
  | 0, st, f', h, _ => by
    have : ∀ f', runF m es k s r f' st = none ∨ doneS st = true := fun f' => by
      cases f' with
      | zero => exact .inl rfl
      | succ f' =>
        by_cases hd : doneS st = true
        · exact .inr hd
        · refine .inl ?_
          unfold runF
          rw [if_neg hd]
          cases hs : stepS m es k s r st with
          | none => rfl
          | some x => have := stepS_lim hs; omega
    rcases this f' with h1 | h1
    · rw [h1]; rfl
    · exfalso
      unfold doneS Sta.ok stOk at h1
      simp only [Bool.and_eq_true, decide_eq_true_eq, inR] at h1
      omega
  | f + 1, st, f', h, hf => by
    obtain ⟨g, rfl⟩ : ∃ g, f' = g + 1 := ⟨f' - 1, by omega⟩
    unfold runF
    split
    · rfl
    · cases hs : stepS m es k s r st with
      | none => rfl
      | some x =>
        have := stepS_lim hs
        dsimp only
        rw [runF_more f x g oM oM]
def runS (m : Int) (es : List E3) (k s r : Int) (st : Sta) : Option (List Sta) := runF m es k s r 102 st
theorem runS_done {m : Int} {es : List E3} {k s r : Int} {st : Sta} (h : doneS st = true) : runS m es k s r st = some [] := by unfold runS runF; rw [if_pos h]
theorem runS_step {m : Int} {es : List E3} {k s r : Int} {st x : Sta} (h : doneS st = false) (hs : stepS m es k s r st = some x) : runS m es k s r st = (runS m es k s r x).map (x :: ·) := by
  have := stepS_lim hs
  unfold runS
  rw [runF_more 101 x 102 oM oM]
  conv => lhs; unfold runF
  rw [if_neg (by simp [h]), hs]
theorem runF_last {m : Int} {es : List E3} {k s r : Int} : ∀ (f : Nat) (st : Sta) (L : List Sta), runF m es k s r f st = some L → doneS ((st :: L).getLast (by simp)) = true
  | 0, _, _, h => by cases h
  | f + 1, st, L, h => by
    unfold runF at h
    split at h
    · rename_i hd
      injection h with h
      subst h
      exact hd
    · split at h
      · cases h
      · rename_i x hx
        cases hr : runF m es k s r f x with
        | none => rw [hr] at h; cases h
        | some L' =>
          rw [hr] at h
          injection h with h
          subst h
          rw [List.getLast_cons (by simp)]
          exact runF_last f x L' hr
theorem runF_r {m : Int} {es : List E3} {k s r : Int} : ∀ (f : Nat) (st : Sta) (L : List Sta), runF m es k s r f st = some L → ((st :: L).getLast (by simp)).r = st.r + L.length
  | 0, _, _, h => by cases h
  | f + 1, st, L, h => by
    unfold runF at h
    split at h
    · injection h with h
      subst h
      simp
    · split at h
      · cases h
      · rename_i x hx
        cases hr : runF m es k s r f x with
        | none => rw [hr] at h; cases h
        | some L' =>
          rw [hr] at h
          injection h with h
          subst h
          rw [List.getLast_cons (by simp), runF_r f x L' hr, stepS_r hx, List.length_cons]
          push_cast; omega
end Go.Proofs.YtlobefglhppbdaaGreatDoor.Abs
set_option linter.unusedSimpArgs false
set_option linter.unusedVariables false
namespace Go.Proofs.YtlobefglhppbdaaGreatDoor.Abs
open Go.RowKit
open R (val row ref)
set_option linter.unusedSectionVars false
section
variable (m : Int) (es : List E3)
def leL (v : Int) : List Int := (nearL m es v).filter fun w => decide (w < v)
theorem stepV0 (v value : Int) (l : List Int) : stepV m es 5 0 0 0 v value l = (0, sendTo (grL m es v) v v, false) := by simp [stepV]
theorem stepV1 (v value : Int) (l : List Int) : stepV m es 5 0 0 1 v value l = (0, l.flatMap fun x => sendTo (grL m es v) x v, false) := by simp [stepV]
theorem stepV2 (v value : Int) (l : List Int) : stepV m es 5 0 0 2 v value l = ((((l.countP fun x => (nearL m es v).any fun z => decide (z = x)) : Nat) : Int), [], false) := by simp [stepV]
theorem allV_at {M : Nat} (hm : m = (M : Int)) {k : Nat} (h : k < (allV m).length) : (allV m)[k] = (k : Int) := by
  have h2 : (allV m)[k]? = some (k : Int) := by
    have hl : k < m.toNat := by rw [allV_len] at h; exact h
    unfold allV
    rw [List.getElem?_map, List.getElem?_range hl]; rfl
  rw [List.getElem?_eq_getElem h] at h2
  injection h2
theorem allV_M {M : Nat} (hm : m = (M : Int)) : (allV m).length = M := by rw [allV_len, hm]; simp
def out0 (k : Nat) : List E3 := ((allV m).take k).flatMap fun v => sendTo (grL m es v) v v
theorem out0_succ {k : Nat} (h : k < (allV m).length) : out0 m es (k + 1) = out0 m es k ++ sendTo (grL m es (allV m)[k]) (allV m)[k] (allV m)[k] := by
  unfold out0
  rw [List.take_succ_eq_append_getElem h, List.flatMap_append]
  simp
theorem set_rep {α : Type} (M k : Nat) (a : α) : (List.replicate M a).set k a = List.replicate M a := by
  refine List.ext_getElem (by simp) fun i h1 h2 => ?_
  rw [List.getElem_set]
  split <;> simp
theorem set_mix {α : Type} (M k : Nat) (a b : α) (h : k < M) : (List.replicate k a ++ List.replicate (M - k) b).set k a = List.replicate (k + 1) a ++ List.replicate (M - (k + 1)) b := by
  rw [List.set_append_right _ _ (by simp), List.length_replicate, Nat.sub_self, show M - k = (M - (k + 1)) + 1 by omega, List.replicate_succ, List.set_cons_zero, List.replicate_succ', List.append_assoc]
  rfl
theorem someF0 {M : Nat} (hm : m = (M : Int)) : ∀ k, k ≤ M → someF m es 5 0 0 (startS M) ((allV m).take k) = ⟨List.replicate M 0, List.replicate k false ++ List.replicate (M - k) true, out0 m es k⟩
  | 0, _ => by simp [someF, startS, out0]
  | k + 1, hk => by
    have hl : k < (allV m).length := by rw [allV_M m hm]; omega
    have ih := someF0 hm k oM
    have hv := allV_at m hm hl
    rw [someF_snoc hl, ih, out0_succ m es hl, hv]
    unfold someSt
    have hg : (startS M).gs.getD ((k : Int)).toNat false = true := by
      unfold startS
      simp [show k < M by omega]
    rw [if_neg (by rw [hg]; simp)]
    have hr : (startS M).r = 0 := rfl
    rw [hr, stepV0]
    dsimp only
    rw [Int.toNat_natCast, set_rep, set_mix M k false true oM]
def msg0 : List E3 := out0 m es (allV m).length
def S1 (M : Nat) : Sta := ⟨1, List.replicate M 0, List.replicate M false, sortL (msg0 m es)⟩
theorem next0 {M : Nat} (hm : m = (M : Int)) : nextS m es 5 0 0 (startS M) = S1 m es M := by
  have h := someF0 m es hm M (Nat.le_refl _)
  have hM := allV_M m hm
  rw [List.take_of_length_le oM] at h
  unfold nextS S1 msg0
  rw [h, hM, Nat.sub_self]
  simp [startS]
def out1 (ms : List E3) (k : Nat) : List E3 := ((allV m).take k).flatMap fun v => (valsT v ms).flatMap fun x => sendTo (grL m es v) x v
theorem out1_succ (ms : List E3) {k : Nat} (h : k < (allV m).length) : out1 m es ms (k + 1) = out1 m es ms k ++ (valsT (allV m)[k] ms).flatMap fun x => sendTo (grL m es (allV m)[k]) x (allV m)[k] := by
  unfold out1
  rw [List.take_succ_eq_append_getElem h, List.flatMap_append]
  simp
theorem someF1 {M : Nat} (hm : m = (M : Int)) (ms : List E3) : ∀ k, k ≤ M → someF m es 5 0 0 ⟨1, List.replicate M 0, List.replicate M false, ms⟩ ((allV m).take k) = ⟨List.replicate M 0, List.replicate M false, out1 m es ms k⟩
  | 0, _ => by simp [someF, out1]
  | k + 1, hk => by
    have hl : k < (allV m).length := by rw [allV_M m hm]; omega
    have ih := someF1 hm ms k oM
    have hv := allV_at m hm hl
    rw [someF_snoc hl, ih, out1_succ m es ms hl, hv]
    unfold someSt
    by_cases hq : valsT (k : Int) ms = []
    · rw [if_pos ⟨by rw [Int.toNat_natCast, List.getD_eq_getElem?_getD, List.getElem?_replicate]; split <;> rfl, hq⟩, hq]
      simp
    · rw [if_neg (fun h => hq h.2)]
      dsimp only
      rw [stepV1]
      dsimp only
      rw [Int.toNat_natCast, set_rep, set_rep]
def msg1 (ms : List E3) : List E3 := out1 m es ms (allV m).length
theorem next1 {M : Nat} (hm : m = (M : Int)) (ms : List E3) : nextS m es 5 0 0 ⟨1, List.replicate M 0, List.replicate M false, ms⟩ = ⟨2, List.replicate M 0, List.replicate M false, sortL (msg1 m es ms)⟩ := by
  have h := someF1 m es hm ms M (Nat.le_refl _)
  have hM := allV_M m hm
  rw [List.take_of_length_le oM] at h
  unfold nextS msg1
  rw [h, hM]
  simp
theorem fold2 (st : Sta) (hr : st.r = 2) : ∀ (ws : List Int) (A : Acc), (ws.foldl (someSt m es 5 0 0 st) A).out = A.out
  | [], A => rfl
  | w :: ws, A => by
    rw [List.foldl_cons, fold2 st hr ws]
    unfold someSt
    split
    · rfl
    · rw [hr, stepV2]; simp
theorem out2 {M : Nat} (ms : List E3) : (someF m es 5 0 0 ⟨2, List.replicate M 0, List.replicate M false, ms⟩ (allV m)).out = [] := by
  unfold someF
  rw [fold2 m es _ rfl]
end
end Go.Proofs.YtlobefglhppbdaaGreatDoor.Abs
set_option linter.unusedSimpArgs false
set_option linter.unusedVariables false
namespace Go.Proofs.YtlobefglhppbdaaGreatDoor.Abs
open Go.RowKit
open R (val row ref)
set_option linter.unusedSectionVars false
theorem adj_comm (es : List E3) (a b : Int) : adj es a b = adj es b a := by
  unfold adj
  congr 1
  funext e
  unfold adjE
  rw [Bool.or_comm]
section
variable {m : Int} {es : List E3} (hg : gOk m es = true)
include hg
theorem nearL_eq (v : Int) : nearL m es v = (allV m).filter (adj es v) := by unfold nearL; rw [if_pos hg]; rfl
theorem grL_eq (v : Int) : grL m es v = grT (allV m) (adj es) v := by unfold grL grT; rw [nearL_eq hg, List.filter_filter]
theorem leL_eq (v : Int) : leL m es v = leT (allV m) (adj es) v := by unfold leL leT; rw [nearL_eq hg, List.filter_filter]
theorem edges_sum : ((allV m).map fun v => (grL m es v).length).sum = ((allV m).map fun v => (leL m es v).length).sum := by
  have h := gr_le_sum (adj_comm es) (allV m)
  rw [sum_eq _ (fun v => (grT (allV m) (adj es) v).length) _ (fun v _ => by rw [grL_eq hg]), h]
  exact sum_eq _ _ _ (fun v _ => by rw [leL_eq hg])
theorem vals0 (v : Int) (hv : v ∈ allV m) : (valsT v (msg0 m es)).length = (leL m es v).length := by
  have h1 : ∀ l : List Int, (valsT v (l.flatMap fun u => sendTo (grL m es u) u u)).length = (l.map fun u => if (decide (u < v) && adj es u v) = true then 1 else 0).sum := by
    intro l
    induction l with
    | nil => rfl
    | cons u l ih =>
      rw [List.flatMap_cons, List.map_cons, List.sum_cons, ← ih]
      unfold valsT
      rw [List.filter_append, List.map_append, List.length_append]
      congr 1
      rw [List.length_map]
      unfold sendTo
      rw [List.filter_map, List.length_map]
      have hnd : (grL m es u).Nodup := (nearL_nodup m es u).filter _
      have hmem : v ∈ grL m es u ↔ (decide (u < v) && adj es u v) = true := by
        unfold grL
        rw [List.mem_filter, nearL_eq hg, List.mem_filter, Bool.and_eq_true]
        exact ⟨fun h => ⟨h.2, h.1.2⟩, fun h => ⟨⟨hv, h.2⟩, h.1⟩⟩
      have hcnt : ((grL m es u).filter ((fun m : E3 => decide (m.1 = v)) ∘ fun w => (w, u, u))).length = if v ∈ grL m es u then 1 else 0 := by
        have e : ((fun m : E3 => decide (m.1 = v)) ∘ fun w : Int => (w, u, u)) = fun w => decide (w = v) := rfl
        rw [e]
        generalize grL m es u = g at *
        clear hmem
        induction g with
        | nil => rfl
        | cons x g ihg =>
          rw [List.nodup_cons] at hnd
          rw [List.filter_cons]
          by_cases hx : x = v
          · subst hx
            have := ihg hnd.2
            rw [if_neg hnd.1] at this
            simp [this]
          · have := ihg hnd.2
            have hx2 : ¬ v = x := fun h => hx h.symm
            simp [hx, hx2, this]
      rw [hcnt]
      by_cases h : v ∈ grL m es u
      · rw [if_pos h, if_pos (hmem.1 h)]
      · rw [if_neg h, if_neg (fun h' => h (hmem.2 h'))]
  unfold msg0 out0
  rw [List.take_of_length_le (Nat.le_refl _), h1, sum_ite (fun u => decide (u < v) && adj es u v), leL_eq hg]
  unfold leT
  congr 1
  exact List.filter_congr fun u _ => by rw [adj_comm es u v]
theorem msg0_len : (msg0 m es).length = ((allV m).map fun v => (grL m es v).length).sum := by
  unfold msg0 out0
  rw [List.take_of_length_le (Nat.le_refl _), List.length_flatMap]
  exact sum_eq _ _ _ (fun v _ => sendTo_len _ _ _)
theorem valsT_perm {v : Int} {a b : List E3} (h : a.Perm b) : (valsT v a).length = (valsT v b).length := by
  unfold valsT
  exact ((h.filter _).map _).length_eq
theorem msg1_len (ms : List E3) (hms : ms.Perm (msg0 m es)) : (msg1 m es ms).length = ((allV m).map fun v => (leL m es v).length * (grL m es v).length).sum := by
  unfold msg1 out1
  rw [List.take_of_length_le (Nat.le_refl _), List.length_flatMap]
  refine sum_eq _ _ _ (fun v hv => ?_)
  rw [flatS_len, valsT_perm hg hms, vals0 hg v hv]
theorem mem_allV {M : Nat} (hm : m = (M : Int)) {v : Int} (h : v ∈ allV m) : 0 ≤ v ∧ v < m := by
  unfold allV at h
  rw [List.mem_map] at h
  obtain ⟨i, hi, rfl⟩ := h
  rw [List.mem_range] at hi
  omega
theorem grL_lt {M : Nat} (hm : m = (M : Int)) {v w : Int} (h : w ∈ grL m es v) : 0 ≤ w ∧ w < m := by
  unfold grL at h
  rw [List.mem_filter, nearL_eq hg, List.mem_filter] at h
  exact mem_allV hg hm h.1.1
theorem grL_M {M : Nat} (hm : m = (M : Int)) (v : Int) : (grL m es v).length ≤ M := by
  rw [grL_eq hg]; unfold grT
  exact Nat.le_trans (List.length_filter_le _ _) (by rw [allV_M m hm]; exact Nat.le_refl _)
theorem leL_M {M : Nat} (hm : m = (M : Int)) (v : Int) : (leL m es v).length ≤ M := by
  rw [leL_eq hg]; unfold leT
  exact Nat.le_trans (List.length_filter_le _ _) (by rw [allV_M m hm]; exact Nat.le_refl _)
theorem sort_ok {M : Nat} (hm : m = (M : Int)) (h16 : M ≤ 16) (r : Int) (hr : 0 ≤ r ∧ r ≤ 100) (vs : List Int) (hvl : vs.length = M) (hv : ∀ v ∈ vs, valIn v = true) (ms : List E3) (hl : ms.length ≤ 2000) (hin : ∀ x ∈ ms, 0 ≤ x.1 ∧ x.1 < m ∧ 0 ≤ x.2.1 ∧ x.2.1 < m ∧ 0 ≤ x.2.2 ∧ x.2.2 < m) :
    stOk m r vs (List.replicate M false).length (sortL ms) = true := by
  have hs : sortL ms = sortM ms := by unfold sortL; rw [if_pos hl]
  unfold stOk
  rw [msOk_none, hs]
  have h1 : srt (sortM ms) = true := (srt_iff _).2 fun j hj => by
    have := List.pairwise_iff_getElem.1 (sortM_ord ms) j (j + 1) oM hj oM
    exact this
  have h2 : (sortM ms).all (msgIn (m - 1)) = true := by
    rw [List.all_eq_true]
    intro x hx
    have hx' : x ∈ ms := sortL_mem (by rw [hs]; exact hx)
    have := hin x hx'
    unfold msgIn inR
    simp
    omega
  have h3 : (sortM ms).length ≤ 2000 := by rw [sortM_len]; exact hl
  have h4 : vs.all valIn = true := List.all_eq_true.2 hv
  simp only [h1, h2, h4, h3, hvl, List.length_replicate, Bool.and_true, decide_true, Bool.and_eq_true, decide_eq_true_eq, inR]
  omega
end
end Go.Proofs.YtlobefglhppbdaaGreatDoor.Abs
set_option linter.unusedSimpArgs false
set_option linter.unusedVariables false
namespace Go.Proofs.YtlobefglhppbdaaGreatDoor.Abs
open Go.RowKit
open R (val row ref)
set_option linter.unusedSectionVars false
def okM (m : Int) (M : Nat) (ms : List E3) : Prop := ms.length ≤ 2000 ∧ ∀ x ∈ ms, 0 ≤ x.1 ∧ x.1 < m ∧ 0 ≤ x.2.1 ∧ x.2.1 < m ∧ 0 ≤ x.2.2 ∧ x.2.2 < m
theorem fold2inv (m : Int) (es : List E3) {M : Nat} (st : Sta) (hr : st.r = 2) (hl : st.ms.length ≤ 2000) : ∀ (ws : List Int) (A : Acc), A.vs.length = M → (∀ v ∈ A.vs, valIn v = true) → A.gs = List.replicate M false →
    (ws.foldl (someSt m es 5 0 0 st) A).vs.length = M ∧ (∀ v ∈ (ws.foldl (someSt m es 5 0 0 st) A).vs, valIn v = true) ∧ (ws.foldl (someSt m es 5 0 0 st) A).gs = List.replicate M false
  | [], A, h1, h2, h3 => ⟨h1, h2, h3⟩
  | w :: ws, A, h1, h2, h3 => by
    rw [List.foldl_cons]
    refine fold2inv m es st hr hl ws _ ?_ ?_ ?_
    · rw [(someSt_out m es 5 0 0 st A w).2.1, h1]
    · unfold someSt
      split
      · exact h2
      · dsimp only
        intro v hv
        rcases List.mem_or_eq_of_mem_set hv with hv | rfl
        · exact h2 v hv
        · rw [hr, stepV2]
          dsimp only
          have h4 := List.countP_le_length (p := fun x => (nearL m es w).any fun z => decide (z = x)) (l := valsT w st.ms)
          have h5 := valsT_len w st.ms
          unfold valIn inR
          simp only [decide_eq_true_eq]
          omega
    · unfold someSt
      split
      · exact h3
      · dsimp only
        rw [hr, stepV2, h3, set_rep]
section
variable {m : Int} {es : List E3} (hg : gOk m es = true) {M : Nat} (hm : m = (M : Int)) (h7 : M ≤ 7)
include hg hm
theorem okM0 (h7 : M ≤ 7) : okM m M (msg0 m es) := by
  constructor
  · rw [msg0_len hg]
    refine Nat.le_trans (sum_le _ (fun _ => 7) _ fun v _ => Nat.le_trans (grL_M hg hm v) h7) ?_
    rw [sum_const, allV_M m hm]; omega
  · intro x hx
    unfold msg0 out0 at hx
    rw [List.mem_flatMap] at hx
    obtain ⟨v, hv, hx⟩ := hx
    have hv := mem_allV hg hm (List.mem_of_mem_take hv)
    unfold sendTo at hx
    rw [List.mem_map] at hx
    obtain ⟨w, hw, rfl⟩ := hx
    have hw := grL_lt hg hm hw
    exact ⟨hw.1, hw.2, hv.1, hv.2, hv.1, hv.2⟩
theorem okMs {ms : List E3} (h : okM m M ms) : okM m M (sortL ms) := ⟨(sortL_len ms).2, fun x hx => h.2 x (sortL_mem hx)⟩
theorem okM1 {ms : List E3} (h7 : M ≤ 7) (h : okM m M ms) (hp : ms.Perm (msg0 m es)) : okM m M (msg1 m es ms) := by
  constructor
  · rw [msg1_len hg ms hp]
    refine Nat.le_trans (sum_le _ (fun _ => 49) _ fun v _ => ?_) ?_
    · have h1 := Nat.le_trans (leL_M hg hm v) h7
      have h2 := Nat.le_trans (grL_M hg hm v) h7
      exact Nat.mul_le_mul h1 h2
    · rw [sum_const, allV_M m hm]; omega
  · intro x hx
    unfold msg1 out1 at hx
    rw [List.mem_flatMap] at hx
    obtain ⟨v, hv, hx⟩ := hx
    have hv := mem_allV hg hm (List.mem_of_mem_take hv)
    rw [List.mem_flatMap] at hx
    obtain ⟨y, hy, hx⟩ := hx
    obtain ⟨e, he, _, rfl⟩ := valsT_mem hy
    have he := h.2 e he
    unfold sendTo at hx
    rw [List.mem_map] at hx
    obtain ⟨w, hw, rfl⟩ := hx
    have hw := grL_lt hg hm hw
    exact ⟨hw.1, hw.2, he.2.2.1, he.2.2.2.1, hv.1, hv.2⟩
theorem step_some {st x : Sta} {out : List E3} (hn : nextS m es 5 0 0 st = x) (hout : (someF m es 5 0 0 st (allV m)).out.length ≤ 2000) (hs : stOk m st.r st.vs st.gs.length st.ms = true) (hx : stOk m x.r x.vs x.gs.length x.ms = true) : stepS m es 5 0 0 st = some x := by
  unfold stepS
  rw [if_pos ⟨hg, by simp [progOk], hs⟩, if_pos ⟨hout, by rw [hn]; exact hx⟩, hn]
theorem rep_val (M : Nat) : ∀ v ∈ List.replicate M (0 : Int), valIn v = true := fun v hv => by
  rw [(List.mem_replicate.1 hv).2]; rfl
def SM (M : Nat) (r : Int) (vs : List Int) (ms : List E3) : Sta := ⟨r, vs, List.replicate M false, ms⟩
omit hg in
theorem done_SM {r : Int} {vs : List Int} {ms : List E3} (hvl : vs.length = M) (h : stOk m r vs M ms = true) : doneS (SM M r vs ms) = ms.isEmpty := by
  unfold doneS SM Sta.ok
  dsimp only
  rw [List.length_replicate, hvl, ← hm, h]
  simp
theorem tri_run (h0 : 0 < M) (h7 : M ≤ 7) : ∃ L : List Sta, runS m es 5 0 0 (startS M) = some L ∧ (∀ s ∈ L, s.ms.length ≤ 2000) ∧ ∃ rest, (L.map fun s => s.ms.length) = ((allV m).map fun v => (grL m es v).length).sum :: rest ∧
    ((rest = [] ∧ ((allV m).map fun v => (leL m es v).length * (grL m es v).length).sum = 0) ∨ ∃ r2, rest = ((allV m).map fun v => (leL m es v).length * (grL m es v).length).sum :: r2) := by
  have hS := fun r hr vs hvl hv (ms : List E3) (h : okM m M ms) => sort_ok hg hm oM r hr vs hvl hv ms h.1 h.2
  have hnil : okM m M [] := ⟨by simp, fun x hx => by cases hx⟩
  have hp0 := okM0 hg hm h7
  have hl0 : (List.replicate M (0 : Int)).length = M := List.length_replicate
  have hst0 : stOk m (startS M).r (startS M).vs (startS M).gs.length (startS M).ms = true := by
    have := hS 0 oM (List.replicate M 0) hl0 (rep_val hg hm M) [] hnil
    unfold startS
    rw [List.length_replicate] at this ⊢
    exact this
  have hst1 := hS 1 oM (List.replicate M 0) hl0 (rep_val hg hm M) _ hp0
  have hout0 : (someF m es 5 0 0 (startS M) (allV m)).out = msg0 m es := by
    have h := someF0 m es hm M (Nat.le_refl _)
    have hM := allV_M m hm
    rw [List.take_of_length_le oM] at h
    rw [h]; unfold msg0; rw [hM]
  have e1 : stepS m es 5 0 0 (startS M) = some (S1 m es M) := step_some hg hm (out := []) (next0 m es hm) (by rw [hout0]; exact hp0.1) hst0 hst1
  have hd0 : doneS (startS M) = false := by
    unfold doneS startS
    have : (List.replicate M true).any id = true := by
      rw [List.any_eq_true]; exact ⟨true, by rw [List.mem_replicate]; exact ⟨by omega, rfl⟩, rfl⟩
    dsimp only
    rw [this]; rfl
  rw [List.length_replicate] at hst1
  have hd1 : doneS (S1 m es M) = (sortL (msg0 m es)).isEmpty := done_SM hm hl0 hst1
  have hsl : ∀ ms : List E3, ms.length ≤ 2000 → (sortL ms).length = ms.length ∧ (sortL ms).Perm ms := fun ms h => by
    unfold sortL; rw [if_pos h]; exact ⟨sortM_len ms, sortM_perm ms⟩
  have l0 := hsl _ hp0.1
  have hE := msg0_len hg (m := m) (es := es)
  have hM := allV_M m hm
  by_cases hz : sortL (msg0 m es) = []
  · have hz0 : (msg0 m es).length = 0 := by rw [← l0.1, hz]; rfl
    refine ⟨[S1 m es M], ?_, ?_, [], ?_, .inl ⟨rfl, ?_⟩⟩
    · rw [runS_step hd0 e1, runS_done (by rw [hd1, hz]; rfl)]; rfl
    · intro s hs
      rw [List.mem_singleton] at hs; subst hs
      show (sortL _).length ≤ 2000
      rw [hz]; simp
    · show [(sortL (msg0 m es)).length] = _
      rw [l0.1, hE]
    · refine sum_zero _ _ fun v hv => ?_
      have : (grL m es v).length = 0 := by
        rw [hE] at hz0
        have := List.sum_eq_zero_iff_forall_eq_nat.1 hz0 (grL m es v).length (List.mem_map.2 ⟨v, hv, rfl⟩)
        exact this
      rw [this, Nat.mul_zero]
  · have hd1' : doneS (S1 m es M) = false := by rw [hd1]; cases h : sortL (msg0 m es) with
      | nil => exact absurd h hz
      | cons a l => rfl
    have hq0 := okMs hg hm hp0
    have hq1 := okM1 hg hm h7 hq0 l0.2
    have hst2 := hS 2 oM (List.replicate M 0) hl0 (rep_val hg hm M) _ hq1
    have hout1 : (someF m es 5 0 0 (S1 m es M) (allV m)).out = msg1 m es (sortL (msg0 m es)) := by
      have h := someF1 m es hm (sortL (msg0 m es)) M (Nat.le_refl _)
      rw [List.take_of_length_le oM] at h
      unfold S1; rw [h]; unfold msg1; rw [hM]
    have e2 : stepS m es 5 0 0 (S1 m es M) = some (SM M 2 (List.replicate M 0) (sortL (msg1 m es (sortL (msg0 m es))))) := step_some hg hm (out := []) (next1 m es hm _) (by rw [hout1]; exact hq1.1) (by show stOk m 1 _ (List.replicate M false).length _ = true; rw [List.length_replicate]; exact hst1) hst2
    have hP := msg1_len hg (m := m) (es := es) _ l0.2
    have l1 := hsl _ hq1.1
    generalize hX : msg1 m es (sortL (msg0 m es)) = X1 at *
    rw [List.length_replicate] at hst2
    have hd2 : doneS (SM M 2 (List.replicate M 0) (sortL X1)) = (sortL X1).isEmpty := done_SM hm hl0 hst2
    by_cases hz1 : sortL X1 = []
    · refine ⟨[S1 m es M, SM M 2 (List.replicate M 0) (sortL X1)], ?_, ?_, [X1.length], ?_, .inr ⟨[], by rw [hP]⟩⟩
      · rw [runS_step hd0 e1, runS_step hd1' e2, runS_done (by rw [hd2, hz1]; rfl)]; rfl
      · intro s hs
        rw [List.mem_cons, List.mem_singleton] at hs
        rcases hs with rfl | rfl
        · exact hq0.1
        · exact (sortL_len _).2
      · show [(sortL (msg0 m es)).length, (sortL X1).length] = _
        rw [l0.1, l1.1, hE]
    · have hd2' : doneS (SM M 2 (List.replicate M 0) (sortL X1)) = false := by rw [hd2]; cases h : sortL X1 with
        | nil => exact absurd h hz1
        | cons a l => rfl
      have ho := out2 m es (M := M) (sortL X1)
      obtain ⟨i1, i2, i3⟩ := fold2inv m es (M := M) (SM M 2 (List.replicate M 0) (sortL X1)) rfl (sortL_len _).2 (allV m) ⟨List.replicate M 0, List.replicate M false, []⟩ hl0 (rep_val hg hm M) rfl
      have hn3 : nextS m es 5 0 0 (SM M 2 (List.replicate M 0) (sortL X1)) = SM M 3 (someF m es 5 0 0 (SM M 2 (List.replicate M 0) (sortL X1)) (allV m)).vs [] := by
        unfold nextS
        show (⟨2 + 1, _, (someF m es 5 0 0 (SM M 2 (List.replicate M 0) (sortL X1)) (allV m)).gs, sortL (someF m es 5 0 0 ⟨2, List.replicate M 0, List.replicate M false, sortL X1⟩ (allV m)).out⟩ : Sta) = _
        rw [ho, show (someF m es 5 0 0 (SM M 2 (List.replicate M 0) (sortL X1)) (allV m)).gs = List.replicate M false from i3]
        rfl
      have hst3 := hS 3 oM _ i1 i2 [] hnil
      have e3 := step_some hg hm (out := []) hn3 (by show (someF m es 5 0 0 ⟨2, List.replicate M 0, List.replicate M false, sortL X1⟩ (allV m)).out.length ≤ 2000; rw [ho]; simp) (by show stOk m 2 _ (List.replicate M false).length _ = true; rw [List.length_replicate]; exact hst2) hst3
      rw [List.length_replicate] at hst3
      refine ⟨[S1 m es M, SM M 2 (List.replicate M 0) (sortL X1), SM M 3 (someF m es 5 0 0 (SM M 2 (List.replicate M 0) (sortL X1)) (allV m)).vs []], ?_, ?_, [X1.length, 0], ?_, .inr ⟨[0], by rw [hP]⟩⟩
      · rw [runS_step hd0 e1, runS_step hd1' e2, runS_step hd2' e3, runS_done (show doneS (SM M 3 (someF m es 5 0 0 (SM M 2 (List.replicate M 0) (sortL X1)) (allV m)).vs []) = true from done_SM hm i1 hst3)]; rfl
      · intro s hs
        rw [List.mem_cons, List.mem_cons, List.mem_singleton] at hs
        rcases hs with rfl | rfl | rfl
        · exact hq0.1
        · exact (sortL_len _).2
        · simp [SM]
      · show [(sortL (msg0 m es)).length, (sortL X1).length, ([] : List E3).length] = _
        rw [l0.1, l1.1, hE]; rfl
end
end Go.Proofs.YtlobefglhppbdaaGreatDoor.Abs
set_option linter.unusedSimpArgs false
set_option linter.unusedVariables false
namespace Go.Proofs.YtlobefglhppbdaaGreatDoor.Abs
open Go.RowKit
open R (val row ref)
set_option linter.unusedSectionVars false
theorem bitsR_srt (x : Nat) : (bitsR x).Pairwise (· < ·) := by
  induction x using Nat.strongRecOn with
  | _ x ih =>
    by_cases h : x = 0
    · rw [h, bitsR_zero]; exact List.Pairwise.nil
    · have h0 : 0 < x := by omega
      rw [bitsR_pos h0, List.pairwise_cons]
      refine ⟨fun u hu => ?_, ih _ (drp_lt h0)⟩
      rw [mem_bitsR, drp_bit h0] at hu
      obtain ⟨h1, h2⟩ := hu
      simp at h2
      obtain ⟨q, hq⟩ := lsb_spec h0
      have h3 := h2.1
      have h4 := h2.2
      generalize lsb x = k at *
      rw [hq, tb_low] at h3
      split at h3
      · have := of_decide_eq_true h3
        omega
      · omega
theorem srt_eq : ∀ {a b : List Int}, a.Pairwise (· < ·) → b.Pairwise (· < ·) → (∀ u, u ∈ a ↔ u ∈ b) → a = b
  | [], [], _, _, _ => rfl
  | [], y :: b, _, _, h => absurd ((h y).2 (by simp)) (by simp)
  | x :: a, [], _, _, h => absurd ((h x).1 (by simp)) (by simp)
  | x :: a, y :: b, ha, hb, h => by
    rw [List.pairwise_cons] at ha hb
    have e : x = y := by
      rcases List.mem_cons.1 ((h x).1 (by simp)) with e | h1
      · exact e
      · rcases List.mem_cons.1 ((h y).2 (by simp)) with e | h2
        · exact e.symm
        · have := ha.1 y h2; have := hb.1 x h1; omega
    subst e
    rw [srt_eq ha.2 hb.2 fun u => ?_]
    constructor
    · intro hu
      rcases List.mem_cons.1 ((h u).1 (by simp [hu])) with e | h1
      · have := ha.1 u hu; omega
      · exact h1
    · intro hu
      rcases List.mem_cons.1 ((h u).2 (by simp [hu])) with e | h1
      · have := hb.1 u hu; omega
      · exact h1
theorem bitsR_eq {x : Nat} {l : List Int} (hs : l.Pairwise (· < ·)) (h : ∀ u, u ∈ l ↔ 0 ≤ u ∧ x.testBit u.toNat = true) : bitsR x = l :=
  srt_eq (bitsR_srt x) hs fun u => by rw [mem_bitsR, h u]
def belowN (x v : Nat) : Nat := x &&& (2 ^ v - 1)
def andNN (a b : Nat) : Nat := (BitVec.ofNat 32 a &&& ~~~(BitVec.ofNat 32 b)).toNat
def aboveN (x v : Nat) : Nat := andNN x (2 ^ v ||| (2 ^ v - 1))
theorem below_bit (x v p : Nat) : (belowN x v).testBit p = (x.testBit p && decide (p < v)) := by
  unfold belowN
  rw [Nat.testBit_and, Nat.testBit_two_pow_sub_one]
theorem andNN_bit {a b : Nat} (ha : a < 4294967296) (p : Nat) : (andNN a b).testBit p = (a.testBit p && !b.testBit p) := by
  unfold andNN
  rw [BitVec.testBit_toNat, BitVec.getLsbD_and, BitVec.getLsbD_not, BitVec.getLsbD_ofNat, BitVec.getLsbD_ofNat]
  by_cases hp : p < 32
  · simp [hp]
  · have : a.testBit p = false := Nat.testBit_lt_two_pow (Nat.lt_of_lt_of_le ha (by
      have : 2 ^ 32 ≤ 2 ^ p := Nat.pow_le_pow_right oM oM
      omega))
    simp [hp, this]
theorem above_bit {x v : Nat} (hx : x < 4294967296) (p : Nat) : (aboveN x v).testBit p = (x.testBit p && decide (v < p)) := by
  unfold aboveN
  rw [andNN_bit hx, Nat.testBit_or, Nat.testBit_two_pow, Nat.testBit_two_pow_sub_one]
  congr 1
  rw [Bool.eq_iff_iff]; simp; omega
theorem andNN_lt (a b : Nat) : andNN a b < 4294967296 := by unfold andNN; exact BitVec.isLt _
theorem aboveN_lt (x v : Nat) : aboveN x v < 4294967296 := andNN_lt _ _
theorem allV_srt (m : Int) : (allV m).Pairwise (· < ·) := by
  unfold allV
  exact List.Pairwise.map _ (fun a b (h : a < b) => by omega) List.pairwise_lt_range
theorem mem_allV2 {m v : Int} : v ∈ allV m ↔ 0 ≤ v ∧ v < m := by
  unfold allV
  rw [List.mem_map]
  constructor
  · rintro ⟨i, hi, rfl⟩
    rw [List.mem_range] at hi
    omega
  · rintro ⟨h1, h2⟩
    exact ⟨v.toNat, by rw [List.mem_range]; omega, by omega⟩
section
variable {m : Int} {es : List E3} (hg : gOk m es = true) {M : Nat} (hm : m = (M : Int))
include hg hm
theorem in_M : ∀ e ∈ es, (0 ≤ e.1 ∧ e.1 < (M : Int)) ∧ (0 ≤ e.2.1 ∧ e.2.1 < (M : Int)) := fun e he => by
  have h1 := gOk_edges hg e he
  omega
theorem near_tb (v p : Nat) : ((nearM M es).getD v 0).testBit p = adj es v p := nearM_bit (by have := gOk_mC hg; omega) (in_M hg hm) v p
theorem near_sm (v : Nat) : (nearM M es).getD v 0 < 4294967296 := by
  have h1 : (nextM M es).length = M ∧ Sm (nextM M es) := next_ok M (by have := gOk_mC hg; omega) es (in_M hg hm) _ (by simp) (fun i => by rw [List.getD_eq_getElem?_getD, List.getElem?_replicate]; split <;> simp)
  exact (near_ok M (by have := gOk_mC hg; omega) es (in_M hg hm) _ h1.1 h1.2).2 v
theorem near_len : (nearM M es).length = M := by
  have h1 : (nextM M es).length = M ∧ Sm (nextM M es) := next_ok M (by have := gOk_mC hg; omega) es (in_M hg hm) _ (by simp) (fun i => by rw [List.getD_eq_getElem?_getD, List.getElem?_replicate]; split <;> simp)
  exact (near_ok M (by have := gOk_mC hg; omega) es (in_M hg hm) _ h1.1 h1.2).1
theorem adj_lt {v u : Int} (h : adj es v u = true) : 0 ≤ u ∧ u < m := by
  unfold adj at h
  rw [List.any_eq_true] at h
  obtain ⟨e, he, h⟩ := h
  have := in_M hg hm e he
  unfold adjE at h
  simp only [Bool.or_eq_true, Bool.and_eq_true, decide_eq_true_eq] at h
  omega
theorem bits_near (v : Nat) : bitsR ((nearM M es).getD v 0) = nearL m es v := by
  rw [nearL_eq hg]
  refine bitsR_eq ((allV_srt m).filter _) fun u => ?_
  rw [List.mem_filter, mem_allV2, near_tb hg hm]
  constructor
  · rintro ⟨⟨h1, h2⟩, h3⟩
    exact ⟨h1, by rw [Int.toNat_of_nonneg h1]; exact h3⟩
  · rintro ⟨h1, h2⟩
    rw [Int.toNat_of_nonneg h1] at h2
    exact ⟨adj_lt hg hm h2, h2⟩
theorem bits_above (v : Nat) : bitsR (aboveN ((nearM M es).getD v 0) v) = grL m es v := by
  unfold grL
  rw [nearL_eq hg]
  refine bitsR_eq (((allV_srt m).filter _).filter _) fun u => ?_
  rw [List.mem_filter, List.mem_filter, mem_allV2, above_bit (near_sm hg hm v), near_tb hg hm]
  constructor
  · rintro ⟨⟨⟨h1, h2⟩, h3⟩, h4⟩
    refine ⟨h1, ?_⟩
    rw [Int.toNat_of_nonneg h1, h3]
    simp at h4 ⊢; omega
  · rintro ⟨h1, h2⟩
    rw [Int.toNat_of_nonneg h1, Bool.and_eq_true] at h2
    exact ⟨⟨adj_lt hg hm h2.1, h2.1⟩, by have := of_decide_eq_true h2.2; simp; omega⟩
theorem bits_below (v : Nat) : bitsR (belowN ((nearM M es).getD v 0) v) = leL m es v := by
  unfold leL
  rw [nearL_eq hg]
  refine bitsR_eq (((allV_srt m).filter _).filter _) fun u => ?_
  rw [List.mem_filter, List.mem_filter, mem_allV2, below_bit, near_tb hg hm]
  constructor
  · rintro ⟨⟨⟨h1, h2⟩, h3⟩, h4⟩
    refine ⟨h1, ?_⟩
    rw [Int.toNat_of_nonneg h1, h3]
    simp at h4 ⊢; omega
  · rintro ⟨h1, h2⟩
    rw [Int.toNat_of_nonneg h1, Bool.and_eq_true] at h2
    exact ⟨⟨adj_lt hg hm h2.1, h2.1⟩, by have := of_decide_eq_true h2.2; simp; omega⟩
theorem bits_tri (v b : Nat) : bitsR (belowN (belowN ((nearM M es).getD v 0) v &&& (nearM M es).getD b 0) b) = (leL m es v).filter fun a : Int => decide (a < (b : Int)) && adj es b a := by
  unfold leL
  rw [nearL_eq hg]
  refine bitsR_eq ((((allV_srt m).filter _).filter _).filter _) fun u => ?_
  rw [List.mem_filter, List.mem_filter, List.mem_filter, mem_allV2, below_bit, Nat.testBit_and, below_bit, near_tb hg hm, near_tb hg hm]
  constructor
  · rintro ⟨⟨⟨⟨h1, h2⟩, h3⟩, h4⟩, h5⟩
    refine ⟨h1, ?_⟩
    rw [Bool.and_eq_true] at h5
    rw [Int.toNat_of_nonneg h1, h3, h5.2]
    simp at h4 h5 ⊢; omega
  · rintro ⟨h1, h2⟩
    rw [Int.toNat_of_nonneg h1] at h2
    simp only [Bool.and_eq_true, decide_eq_true_eq] at h2
    refine ⟨⟨⟨adj_lt hg hm h2.1.1.1, h2.1.1.1⟩, by simp; omega⟩, ?_⟩
    rw [h2.1.2]; simp; omega
omit hm in
theorem near_srt (v : Int) : (nearL m es v).Pairwise (· < ·) := by rw [nearL_eq hg]; exact (allV_srt m).filter _
end
def jSum (R : Int → Int → Bool) (v x : Int) : List Int → Nat
  | [] => 0
  | y :: l => if y < v then (if R x y then 1 else 0) + jSum R v x l else 0
def iSum (R : Int → Int → Bool) (v : Int) : List Int → Nat
  | [] => 0
  | x :: l => jSum R v x l + iSum R v l
theorem jSum_eq (R : Int → Int → Bool) (v x : Int) : ∀ l : List Int, l.Pairwise (· < ·) → jSum R v x l = ((l.filter fun w => decide (w < v)).filter (R x)).length
  | [], _ => rfl
  | y :: l, hs => by
    rw [List.pairwise_cons] at hs
    unfold jSum
    by_cases h : y < v
    · rw [if_pos h, jSum_eq R v x l hs.2, List.filter_cons]
      simp only [h, decide_true, if_true]
      rw [List.filter_cons]
      split <;> simp <;> omega
    · rw [if_neg h]
      have : (y :: l).filter (fun w => decide (w < v)) = [] := by
        rw [List.filter_eq_nil_iff]
        intro w hw
        rcases List.mem_cons.1 hw with rfl | hw
        · simpa using h
        · have := hs.1 w hw; simp; omega
      rw [this]; rfl
theorem iSum_eq (R : Int → Int → Bool) (v : Int) : ∀ l : List Int, l.Pairwise (· < ·) → iSum R v l = pairsT R (l.filter fun w => decide (w < v))
  | [], _ => rfl
  | x :: l, hs => by
    have hs' := hs
    rw [List.pairwise_cons] at hs
    unfold iSum
    rw [jSum_eq R v x l hs.2, iSum_eq R v l hs.2, List.filter_cons]
    by_cases h : x < v
    · simp only [h, decide_true, if_true]
      rfl
    · have : l.filter (fun w => decide (w < v)) = [] := by
        rw [List.filter_eq_nil_iff]
        intro w hw
        have := hs.1 w hw; simp; omega
      simp [h, this, pairsT]
def triV (m : Int) (es : List E3) (v : Int) : Nat := triT (adj es) (leL m es v)
theorem triV_i {m : Int} {es : List E3} (hg : gOk m es = true) (v : Int) : iSum (adj es) v (nearL m es v) = triV m es v := by
  rw [iSum_eq _ _ _ (near_srt hg v)]
  unfold triV leL
  rw [tri_pairs (adj_comm es) _ ((near_srt hg v).filter _)]
theorem tri_le {m : Int} {es : List E3} (hg : gOk m es = true) : ((allV m).map fun v => triV m es v).sum ≤ ((allV m).map fun v => (leL m es v).length * (grL m es v).length).sum := by
  have h := tri_paths (adj_comm es) (allV m)
  rw [sum_eq (fun v => triV m es v) (fun v => triT (adj es) (leT (allV m) (adj es) v)) _ (fun v _ => by unfold triV; rw [leL_eq hg]), sum_eq (fun v => (leL m es v).length * (grL m es v).length) (fun b => (leT (allV m) (adj es) b).length * (grT (allV m) (adj es) b).length) _ (fun v _ => by rw [leL_eq hg, grL_eq hg])]
  exact h
end Go.Proofs.YtlobefglhppbdaaGreatDoor.Abs
