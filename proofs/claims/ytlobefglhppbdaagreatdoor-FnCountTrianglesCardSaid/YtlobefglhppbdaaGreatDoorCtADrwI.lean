/- By states: division, remainder, xor, numbers of bytes. No statement of the seat is proved here. -/
import Derived.Lib.Hide
import Derived.Test.YtlobefglhppbdaaGreatDoorCtTy
import Derived.Test.YtlobefglhppbdaaGreatDoorCtAbsX
import Derived.Test.YtlobefglhppbdaaGreatDoorCtADat
set_option linter.unusedSimpArgs false
set_option linter.unusedVariables false
set_option maxRecDepth 100000
set_option maxHeartbeats 2000000
namespace Go.Proofs.YtlobefglhppbdaaGreatDoor.Abs
open Go.RowKit
open R (val row ref)
theorem k_rem {P : Program} {l : List (Nat × D)} {h : List (Nat × Ob)} {o : Oper} {n n' : Bool} {k : IntKind} {p q : Int} {t t' : TypeId} {x y : Operand} (ho : o.op = .binOp .rem t x y t') (hx : evO l x = some (.one (.r n (R.val (.int k p))))) (hy : evO l y = some (.one (.r n' (R.val (.int k q))))) (hq : q ≠ 0) : Loc P (lookH h) (evD (look l)) o (.one (.r true (R.val (.int k (p.tmod q))))) :=
  loc_rem t t' x y ho (evO_spec hx) (evO_spec hy) hq
theorem k_div {P : Program} {l : List (Nat × D)} {h : List (Nat × Ob)} {o : Oper} {n n' : Bool} {k : IntKind} {p q : Int} {t t' : TypeId} {x y : Operand} (ho : o.op = .binOp .quo t x y t') (hx : evO l x = some (.one (.r n (R.val (.int k p))))) (hy : evO l y = some (.one (.r n' (R.val (.int k q))))) (hq : q ≠ 0) : Loc P (lookH h) (evD (look l)) o (.one (.r true (R.val (.int k (k.wrap (p.tdiv q)))))) :=
  loc_div t t' x y ho (evO_spec hx) (evO_spec hy) hq
theorem bv64 (a : Nat) (ha : a < 9223372036854775808) : (BitVec.ofInt 64 (a : Int)).toNat = a := by
  rw [BitVec.ofInt_natCast, BitVec.toNat_ofNat]; exact Nat.mod_eq_of_lt oM
theorem xor64 (a b : Nat) (ha : a < 9223372036854775808) (hb : b < 9223372036854775808) : bits .xor .i64 (a : Int) (b : Int) = ((a ^^^ b : Nat) : Int) := by
  have hx : a ^^^ b < 2 ^ 63 := Nat.xor_lt_two_pow oM oM
  show IntKind.i64.wrap ((BitVec.ofInt 64 (a : Int) ^^^ BitVec.ofInt 64 (b : Int)).toNat : Int) = _
  rw [BitVec.toNat_xor, bv64 a ha, bv64 b hb, IntKind.wrap_i64]
  omega
theorem k_xor {P : Program} {l : List (Nat × D)} {h : List (Nat × Ob)} {o : Oper} {m m' : Bool} {p q : Int} {t t' : TypeId} {x y : Operand} (ho : o.op = .binOp .xor t x y t') (hx : evO l x = some (.one (.r m (R.val (.int .i64 p))))) (hy : evO l y = some (.one (.r m' (R.val (.int .i64 q))))) :
    Loc P (lookH h) (evD (look l)) o (.one (.r true (R.val (.int .i64 (bits .xor .i64 p q))))) :=
  loc_run fun base a w ι own hw he hH => by
    have h1 := he x (by rw [ho]; simp [Op.operands])
    have h2 := he y (by rw [ho]; simp [Op.operands])
    rw [evO_spec hx] at h1
    rw [evO_spec hy] at h2
    have e1 : a.eval x = .int .i64 p := ((val_p (c := Cx.young ⟨w, own⟩ base m)).1 h1).1
    have e2 : a.eval y = .int .i64 q := ((val_p (c := Cx.young ⟨w, own⟩ base m')).1 h2).1
    refine ⟨.int .i64 (bits .xor .i64 p q), ?_, rfl, rfl⟩
    unfold execOp
    rw [ho]
    simp only [e1, e2]
    simp [eqGuard, binOp, Op.intArith, Op.intCmp, go_sem]
theorem k_conv {P : Program} {l : List (Nat × D)} {h : List (Nat × Ob)} {o : Oper} {m : Bool} {k k' : IntKind} {p : Int} {t t' : TypeId} {x : Operand} (ht : P.underlying t = some (.int k)) (ht' : P.underlying t' = some (.int k')) (ho : o.op = .convert t t' x) (hx : evO l x = some (.one (.r m (R.val (.int k p))))) :
    Loc P (lookH h) (evD (look l)) o (.one (.r true (R.val (.int k' (k'.wrap p))))) :=
  loc_run fun base a w ι own hw he hH => by
    have h1 := he x (by rw [ho]; simp [Op.operands])
    rw [evO_spec hx] at h1
    have e1 : a.eval x = .int k p := ((val_p (c := Cx.young ⟨w, own⟩ base m)).1 h1).1
    refine ⟨.int k' (k'.wrap p), ?_, rfl, rfl⟩
    unfold execOp
    rw [ho]
    simp only [e1]
    simp [convert, underlying, ht, ht', Conv.intToInt, go_sem]
theorem u_u8 : Tryz.prog.underlying 5 = some (.int .u8) := by kernel_rfl
theorem u_i64 : Tryz.prog.underlying 3 = some (.int .i64) := by kernel_rfl
abbrev byP (b : Int) : P0 := .one (R.val (.int .u8 b))
def bys (bs : List Int) : List P0 := bs.map byP
theorem bys_len (bs : List Int) : (bys bs).length = bs.length := List.length_map ..
def Byte (bs : List Int) : Prop := ∀ z ∈ bs, 0 ≤ z ∧ z ≤ 255
theorem bys_at {bs : List Int} {i : Int} (h0 : 0 ≤ i) (h1 : i < bs.length) : (bys bs)[i.toNat]? = some (byP (dV bs i)) := by
  have h : i.toNat < bs.length := by omega
  unfold bys dV
  rw [List.getElem?_map, List.getElem?_eq_getElem h, List.getD_eq_getElem?_getD, List.getElem?_eq_getElem h]; rfl
theorem byte_at {bs : List Int} (hb : Byte bs) {i : Int} (h0 : 0 ≤ i) (h1 : i < bs.length) : 0 ≤ dV bs i ∧ dV bs i ≤ 255 := by
  have h : i.toNat < bs.length := by omega
  unfold dV
  rw [List.getD_eq_getElem?_getD, List.getElem?_eq_getElem h]
  exact hb _ (List.getElem_mem h)
def rdH (k : Nat) (m1 m2 nb : Bool) (bs : List Int) (p : Int) : List (Nat × Ob) := [(k, .var 62 [.r m1 (row nb 1 (bys bs)), .r m2 (int p)])]
theorem pick_ex (bs : List Int) (p n : Int) (hB : Byte bs) (hl : bs.length ≤ 2000) (hp0 : 0 ≤ p) (hp : p ≤ 1000000) :
    ∃ v : Int, (0 ≤ v ∧ (v < n ∨ v = 0)) ∧ ∀ m1 m2 nb, FnS Tryz.prog 29 [.one (.ptr 1000000000 0 0 0), .one (.r false (int n))] (rdH 1000000000 m1 m2 nb bs p) (.one (.r true (int v))) (rdH 1000000000 m1 true nb bs (p + 1)) := by
  have hlb := bys_len bs
  have hw1 : IntKind.i64.wrap (p + 1) = p + 1 := IntWalk.i64_in _ oM
  have hw2 : IntKind.i64.wrap (p + 1 - 1) = p := by rw [IntWalk.i64_in _ oM]; omega
  unfold rdH
  by_cases hn : n < 1
  · refine ⟨0, ⟨Int.le_refl _, .inr rfl⟩, ?_⟩
    intro m1 m2 nb
    refine fnS_of (l := [.tmp 4]) Tryz.func29 kRf rfl Tryz.ntmps29 rfl rfl ?_; simp only [dEnv, Nat.reduceAdd]
    repeat' (first|refine wk ?_|(refine wkB ?_ ?_<;>intro hg_<;>try exact wkX)|fail)
    rw [hw1]
    exact ret_D [] rfl sbH (retD_int rfl rfl rfl)
  by_cases h0 : bs.length = 0
  · refine ⟨0, ⟨Int.le_refl _, .inr rfl⟩, ?_⟩
    intro m1 m2 nb
    refine fnS_of (l := [.tmp 4]) Tryz.func29 kRf rfl Tryz.ntmps29 rfl rfl ?_; simp only [dEnv, Nat.reduceAdd]
    repeat' (first|refine wk ?_|(refine wkB ?_ ?_<;>intro hg_<;>try exact wkX)|fail)
    rw [hw1]
    exact ret_D [] rfl sbH (retD_int rfl rfl rfl)
  have hw3 : IntKind.i64.wrap (IntKind.i64.wrap (p + 1) - 1) = p := by rw [hw1, hw2]
  have hL : 0 < (bs.length : Int) := by omega
  by_cases hk : p < bs.length
  · obtain ⟨z0, z1⟩ := byte_at hB hp0 hk
    have hz : IntKind.i64.wrap (dV bs p) = dV bs p := IntWalk.i64_in _ oM
    refine ⟨(dV bs p).tmod n, ⟨Int.tmod_nonneg _ z0, .inl (Int.tmod_lt_of_pos _ oM)⟩, ?_⟩
    intro m1 m2 nb
    refine fnS_of (l := [.tmp 4]) Tryz.func29 kRf rfl Tryz.ntmps29 rfl rfl ?_; simp only [dEnv, Nat.reduceAdd]
    repeat' (first|refine wk ?_|((first|refine' w_q rfl rfl ?xa rfl ?_|refine' v_q rfl rfl ?xa rfl ?_|refine' w_yes rfl rfl (lookO_spec rfl) rfl ?xa rfl ?_|refine' v_yes rfl rfl (lookO_spec rfl) rfl ?xa rfl ?_);case xa => first|exact k_index tbOk rfl rfl rfl rfl oM (by exact bys_at oM oM)|exact k_conv u_u8 u_i64 rfl rfl|exact k_rem rfl rfl rfl oM)|(refine wkB ?_ ?_<;>intro hg_<;>try exact wkX)|fail)
    rw [hw1]
    exact ret_D [] rfl sbH (retD_int rfl rfl (by rw [hw2, hz]))
  · have t1 : 0 ≤ p.tmod bs.length ∧ p.tmod bs.length < bs.length := ⟨Int.tmod_nonneg _ hp0, Int.tmod_lt_of_pos _ hL⟩
    have t2 : 0 ≤ (p * 7 + 3).tmod bs.length ∧ (p * 7 + 3).tmod bs.length < bs.length := ⟨Int.tmod_nonneg _ oM, Int.tmod_lt_of_pos _ hL⟩
    have a1 : IntKind.i64.wrap (p * 7) = p * 7 := IntWalk.i64_in _ oM
    have a2 : IntKind.i64.wrap (p * 7 + 3) = p * 7 + 3 := IntWalk.i64_in _ oM
    obtain ⟨z0, z1⟩ := byte_at hB t1.1 t1.2
    obtain ⟨y0, y1⟩ := byte_at hB t2.1 t2.2
    have q0 : 0 ≤ p.tdiv bs.length := Int.tdiv_nonneg hp0 oM
    have q1 : p.tdiv bs.length ≤ p := Int.tdiv_le_self _ hp0
    have hm1 : 0 ≤ Int.tmod (IntKind.i64.wrap (IntKind.i64.wrap (p + 1) - 1)) ((bys bs).length : Int) ∧ Int.tmod (IntKind.i64.wrap (IntKind.i64.wrap (p + 1) - 1)) ((bys bs).length : Int) < bs.length := by rw [hw3, hlb]; exact t1
    have hm2 : 0 ≤ Int.tmod (IntKind.i64.wrap (IntKind.i64.wrap (IntKind.i64.wrap (IntKind.i64.wrap (p + 1) - 1) * 7) + 3)) ((bys bs).length : Int) ∧ Int.tmod (IntKind.i64.wrap (IntKind.i64.wrap (IntKind.i64.wrap (IntKind.i64.wrap (p + 1) - 1) * 7) + 3)) ((bys bs).length : Int) < bs.length := by rw [hw3, a1, a2, hlb]; exact t2
    have hX : ∃ X : Int, X = dV bs (p.tmod bs.length) * 131 + dV bs ((p * 7 + 3).tmod bs.length) * 1117 + p * 29 + p.tdiv bs.length * 53 := ⟨_, rfl⟩
    obtain ⟨X, hX⟩ := hX
    have hXr : 0 ≤ X ∧ X ≤ 1000000000 := by omega
    have b1 : IntKind.i64.wrap (dV bs (p.tmod bs.length)) = dV bs (p.tmod bs.length) := IntWalk.i64_in _ oM
    have b2 : IntKind.i64.wrap (dV bs ((p * 7 + 3).tmod bs.length)) = dV bs ((p * 7 + 3).tmod bs.length) := IntWalk.i64_in _ oM
    have b3 : IntKind.i64.wrap (dV bs (p.tmod bs.length) * 131) = dV bs (p.tmod bs.length) * 131 := IntWalk.i64_in _ oM
    have b4 : IntKind.i64.wrap (dV bs ((p * 7 + 3).tmod bs.length) * 1117) = dV bs ((p * 7 + 3).tmod bs.length) * 1117 := IntWalk.i64_in _ oM
    have b5 : IntKind.i64.wrap (dV bs (p.tmod bs.length) * 131 + dV bs ((p * 7 + 3).tmod bs.length) * 1117) = dV bs (p.tmod bs.length) * 131 + dV bs ((p * 7 + 3).tmod bs.length) * 1117 := IntWalk.i64_in _ oM
    have b6 : IntKind.i64.wrap (p * 29) = p * 29 := IntWalk.i64_in _ oM
    have b7 : IntKind.i64.wrap (dV bs (p.tmod bs.length) * 131 + dV bs ((p * 7 + 3).tmod bs.length) * 1117 + p * 29) = dV bs (p.tmod bs.length) * 131 + dV bs ((p * 7 + 3).tmod bs.length) * 1117 + p * 29 := IntWalk.i64_in _ oM
    have b8 : IntKind.i64.wrap (p.tdiv bs.length) = p.tdiv bs.length := IntWalk.i64_in _ oM
    have b9 : IntKind.i64.wrap (p.tdiv bs.length * 53) = p.tdiv bs.length * 53 := IntWalk.i64_in _ oM
    have b10 : IntKind.i64.wrap (dV bs (p.tmod bs.length) * 131 + dV bs ((p * 7 + 3).tmod bs.length) * 1117 + p * 29 + p.tdiv bs.length * 53) = X := by rw [← hX]; exact IntWalk.i64_in _ oM
    have c0 : 0 ≤ X.tdiv 64 := Int.tdiv_nonneg hXr.1 oM
    have c1 : X.tdiv 64 ≤ X := Int.tdiv_le_self _ hXr.1
    have c2 : IntKind.i64.wrap (X.tdiv 64) = X.tdiv 64 := IntWalk.i64_in _ oM
    have hN : 0 ≤ bits .xor .i64 X (X.tdiv 64) := by
      have e := xor64 X.toNat (X.tdiv 64).toNat oM oM
      rw [Int.toNat_of_nonneg hXr.1, Int.toNat_of_nonneg c0] at e
      rw [e]; omega
    refine ⟨(bits .xor .i64 X (X.tdiv 64)).tmod n, ⟨Int.tmod_nonneg _ hN, .inl (Int.tmod_lt_of_pos _ oM)⟩, ?_⟩
    intro m1 m2 nb
    refine fnS_of (l := [.tmp 4]) Tryz.func29 kRf rfl Tryz.ntmps29 rfl rfl ?_; simp only [dEnv, Nat.reduceAdd]
    repeat' (first|refine wk ?_|((first|refine' w_q rfl rfl ?xa rfl ?_|refine' v_q rfl rfl ?xa rfl ?_|refine' w_yes rfl rfl (lookO_spec rfl) rfl ?xa rfl ?_|refine' v_yes rfl rfl (lookO_spec rfl) rfl ?xa rfl ?_);case xa => first|exact k_index tbOk rfl rfl rfl rfl hm1.1 (by exact bys_at hm1.1 hm1.2)|exact k_index tbOk rfl rfl rfl rfl hm2.1 (by exact bys_at hm2.1 hm2.2)|exact k_conv u_u8 u_i64 rfl rfl|exact k_rem rfl rfl rfl oM|exact k_div rfl rfl rfl oM|exact k_xor rfl rfl rfl)|(refine wkB ?_ ?_<;>intro hg_<;>try exact wkX)|fail)
    rw [hw1]
    exact ret_D [] rfl sbH (retD_int rfl rfl (by simp only [hw2, hlb, a1, a2, b1, b2, b3, b4, b5, b6, b7, b8, b9, b10, c2]))
open Classical in
noncomputable def pickV (bs : List Int) (p n : Int) : Int :=
  if h : Byte bs ∧ bs.length ≤ 2000 ∧ 0 ≤ p ∧ p ≤ 1000000 then Classical.choose (pick_ex bs p n h.1 h.2.1 h.2.2.1 h.2.2.2) else 0
theorem f_pick {bs : List Int} (p n : Int) (hB : Byte bs) (hl : bs.length ≤ 2000) (hp0 : 0 ≤ p) (hp : p ≤ 1000000) (m1 m2 nb : Bool) : FnS Tryz.prog 29 [.one (.ptr 1000000000 0 0 0), .one (.r false (int n))] (rdH 1000000000 m1 m2 nb bs p) (.one (.r true (int (pickV bs p n)))) (rdH 1000000000 m1 true nb bs (p + 1)) := by
  unfold pickV
  rw [dif_pos ⟨hB, hl, hp0, hp⟩]
  exact (Classical.choose_spec (pick_ex bs p n hB hl hp0 hp)).2 m1 m2 nb
theorem pickV_in (bs : List Int) (p n : Int) : 0 ≤ pickV bs p n ∧ (pickV bs p n < n ∨ pickV bs p n = 0) := by
  unfold pickV
  split
  · rename_i h
    exact (Classical.choose_spec (pick_ex bs p n h.1 h.2.1 h.2.2.1 h.2.2.2)).1
  · exact ⟨Int.le_refl _, .inr rfl⟩
noncomputable def oddV (bs : List Int) (p n : Int) : Bool := pickV bs p n == n - 1
theorem f_odd {bs : List Int} (p n : Int) (hn : 0 < n) (hn2 : n ≤ 1000000) (hB : Byte bs) (hl : bs.length ≤ 2000) (hp0 : 0 ≤ p) (hp : p ≤ 1000000) (m1 m2 nb : Bool) : FnS Tryz.prog 32 [.one (.ptr 1000000000 0 0 0), .one (.r false (int n))] (rdH 1000000000 m1 m2 nb bs p) (.one (.r true (bool (oddV bs p n)))) (rdH 1000000000 m1 true nb bs (p + 1)) := by
  have K := f_pick p n hB hl hp0 hp m1 m2 nb
  have hw : IntKind.i64.wrap (n - 1) = n - 1 := IntWalk.i64_in _ oM
  unfold rdH at *
  refine fnS_of (l := [.tmp 4]) Tryz.func32 kRf rfl Tryz.ntmps32 rfl rfl ?_; simp only [dEnv, Nat.reduceAdd]
  repeat' (first|refine wk ?_|((first|refine' w_ey rfl rfl (lookO_spec rfl) ?xa ?xb ?xc ?xe ?_|refine' v_ey rfl rfl (lookO_spec rfl) ?xa ?xb ?xc ?xe ?_);(case xa => exact e_callS [] K rfl ⟨asD_ren (evO_spec rfl), asE, trivial⟩ sbH rfl);(case xb|xc|xe=>rfl);try refine wkD ?_)|(refine wkB ?_ ?_<;>intro hg_<;>try exact wkX)|fail)
  all_goals first
    | exact ret_D [] rfl sbH (retD_bool rfl rfl (by unfold oddV;rw [hw]))
    | fail
theorem f_open (nb : Bool) (bs : List Int) (hl : bs.length ≤ 1048576) : FnS Tryz.prog 15 [.one (.r false (row nb 1 (bys bs)))] [] (.one (.ptr 2000001 0 0 0)) (rdH 2000001 false true nb (bs.take 2000) 0) := by
  have hlb := bys_len bs
  have ht : bys (bs.take 2000) = (bys bs).take 2000 := by unfold bys; rw [List.map_take]
  unfold rdH
  rw [ht]
  refine fnS_of (l := [.tmp 2]) Tryz.func15 kRf rfl Tryz.ntmps15 rfl rfl ?_; simp only [dEnv, Nat.reduceAdd]
  repeat' (first|refine wk ?_|((first|refine' w_q rfl rfl ?xa rfl ?_|refine' v_q rfl rfl ?xa rfl ?_|refine' w_yes rfl rfl (lookO_spec rfl) rfl ?xa rfl ?_|refine' v_yes rfl rfl (lookO_spec rfl) rfl ?xa rfl ?_);case xa => exact k_slice (a := 0) (b := 2000) tbOk rfl rfl rfl rfl ⟨_, evO_spec rfl⟩ oM oM)|(refine wkB ?_ ?_<;>intro hg_<;>try exact wkX)|fail)
  · rw [Nat.sub_zero, List.drop_zero]
    exact ret_D [(2000001, 10)] rfl sbH (retD_tmp rfl (imp_refl rfl))
  · rw [List.take_of_length_le oM]
    exact ret_D [(2000001, 10)] rfl sbH (retD_tmp rfl (imp_refl rfl))
theorem cAr_own0 {H : Nat → Option Ob} {k n sz : Nat} {E : TypeId} {els : List P0} {new : Bool} (hk : H k = some (.sl E sz new els)) (hn : n = els.length) : CAr H (.own k 0 n sz) (row false sz els) := by
  have := cAr_own (H := H) (j := 0) (n := n) hk oM
  rwa [List.drop_zero, List.take_of_length_le oM] at this
theorem cell_int {m : Bool} {k : IntKind} {a b : Int} (h : a = b) : Cell.r m (.val (.int k a)) = .r m (.val (.int k b)) := by rw [h]
theorem cell_own {k n n' sz : Nat} (h : n = n') : Cell.own k 0 n sz = .own k 0 n' sz := by rw [h]
end Go.Proofs.YtlobefglhppbdaaGreatDoor.Abs
