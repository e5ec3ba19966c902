/- Calls through interface values, by states. No statement of the seat is proved here. -/
import Derived.Test.YthjnidcmhegoeaaDoorTy
import Derived.Lib.Hide
import Derived.Test.YthjnidcmhegoeaaDoorAbsX
import Derived.Test.YthjnidcmhegoeaaDoorADat
set_option linter.unusedSimpArgs false
set_option linter.unusedVariables false
namespace Go.Proofs.YthjnidcmhegoeaaDoor.Abs
open Go.RowKit
open R (val row ref)

/-- A call, however it finds its function: with effect. -/
theorem e_callG {P : Program} {H : Nat → Option Ob} {ev : Operand → D} {o : Oper} {f : FuncId} {args : List D} {d : D} {h h' : List (Nat × Ob)} (ρ : List (Nat × Nat)) (hf : FnS P f args h d h')
    (hgo : ∀ (base : Nat) (a : Act) (w : World) (ι : Nat → Nat × Nat) (own : Nat → Prop), (∀ k ob, H k = some ob → own (ι k).1 ∧ ob.p ι base ⟨w, own⟩ (ι k)) → (∀ x ∈ o.op.operands, (ev x).p ι base ⟨w, own⟩ (a.eval x)) → ∃ vs : List Value, (execOp a.eval o).run P w = .ok (.enter f vs.toArray) w ∧ DArgs (fun k => ι (ren ρ k)) base ⟨w, own⟩ vs args)
    (hh : SubHR ρ H h) (hok : okS ρ d h h' = true) : Eff P H ev o (d.ren ρ) (mapN ρ (keys h)) (mapN ρ (lowN (keys h'))) (someU ρ h' ++ noneU ρ (keys h)) := by
  unfold okS at hok
  simp only [Bool.and_eq_true, List.all_eq_true, Bool.or_eq_true, memB_spec, Nat.blt_eq] at hok
  obtain ⟨⟨⟨⟨hinj, hnd⟩, hcl⟩, hpn⟩, hdn⟩ := hok
  have hρ : ∀ a ∈ keys h ++ keys h', ∀ b ∈ keys h ++ keys h', ren ρ a = ren ρ b → a = b := fun a ha b hb e => by
    unfold injN at hinj
    have := List.all_eq_true.1 (List.all_eq_true.1 hinj a ha) b hb
    rw [e] at this
    simpa using this
  intro base a w ι own hown hbase hev hH hHi K Q hK
  obtain ⟨vs, hrun, hvs⟩ := hgo base a w ι own hH hev
  unfold Oper.wp
  rw [hrun, Oper.upon_enter]
  refine (hf.2 base w (fun k => ι (ren ρ k)) own _ hown hbase (fun k ob hk => ?_) (fun k k' ob ob' hk hk' e => ?_) hvs).mono ?_
  · obtain ⟨g1, g2⟩ := hh.get k ob hk
    obtain ⟨q1, q2⟩ := hH _ _ g1
    exact ⟨q1, Ob.ren_p q2⟩
  · have := hHi _ _ _ _ (hh.get k ob hk).1 (hh.get k' ob' hk').1 e
    exact hρ k (List.mem_append_left _ (lookH_keys hk)) k' (List.mem_append_left _ (lookH_keys hk')) this
  · rintro e w' ⟨v, ιc, own', rfl, hc⟩
    let ι' : Nat → Nat × Nat := fun k => match invN ρ (lowN (keys h')) k with | some m => ιc m | none => ι k
    have hι : ∀ m ∈ keys h', ι' (ren ρ m) = ιc m := fun m hm => by
      show (match invN ρ (lowN (keys h')) (ren ρ m) with | some m => ιc m | none => ι (ren ρ m)) = ιc m
      cases hi : invN ρ (lowN (keys h')) (ren ρ m) with
      | some m' =>
        obtain ⟨h1, h2⟩ := invN_some hi
        rw [hρ m' (List.mem_append_right _ (mem_lowN.1 h1).1) m (List.mem_append_right _ hm) h2]
      | none =>
        have hge : pinned ≤ m := by
          rcases Nat.lt_or_ge m pinned with hlt | hge
          · exact absurd rfl (invN_none hi m (mem_lowN.2 ⟨hm, hlt⟩))
          · exact hge
        have hmk : m ∈ keys h := by
          rcases hpn m hm with h1 | h1
          · omega
          · exact h1
        exact (hc.pin m hge hmk).symm
    refine hK v w' ι' own' ⟨hc.os, hc.tape, hc.output, hc.size, fun b hb hn => hc.block b hb (fun k hk => hn (ren ρ k) (mem_mapN.2 ⟨k, hk, rfl⟩)), hc.sized, fun b hb hn => hc.own1 b hb (fun k hk => hn (ren ρ k) (mem_mapN.2 ⟨k, hk, rfl⟩)), hc.own2, fun b hb => (hc.own3 b hb).2, fun k hk => ?_, ?_, fun k ob hU => ?_, fun k ob k' ob' hU hU' e => ?_⟩
    · show (match invN ρ (lowN (keys h')) k with | some m => ιc m | none => ι k) = ι k
      cases hi : invN ρ (lowN (keys h')) k with
      | some m => obtain ⟨h1, h2⟩ := invN_some hi; exact absurd (mem_mapN.2 ⟨m, h1, h2⟩) hk
      | none => rfl
    · exact D.p_ren (D.p_on (fun u hu => hι u (hdn u (d_names hu))) hc.val)
    · rcases List.mem_append.1 hU with hU | hU
      · obtain ⟨m, om, h1, rfl, rfl⟩ := mem_someU hU
        have hl := lookH_mem hnd h1
        obtain ⟨q1, q2, q3⟩ := hc.named m om hl
        have hmk := lookH_keys hl
        rw [hι m hmk]
        refine ⟨q1, Ob.p_ren (Ob.p_on (fun u hu => hι u (closedB_spec hcl m om h1 u hu)) q2), ?_⟩
        rcases q3 with q3 | ⟨k0, hk0, q3⟩
        · exact .inl q3
        · exact .inr ⟨ren ρ k0, mem_mapN.2 ⟨k0, hk0, rfl⟩, q3⟩
      · exact absurd hU not_noneU
    · rcases List.mem_append.1 hU with hU | hU
      · rcases List.mem_append.1 hU' with hU' | hU'
        · obtain ⟨m, om, h1, rfl, rfl⟩ := mem_someU hU
          obtain ⟨m', om', h1', rfl, rfl⟩ := mem_someU hU'
          have hl := lookH_mem hnd h1
          have hl' := lookH_mem hnd h1'
          rw [hι m (lookH_keys hl), hι m' (lookH_keys hl')] at e
          rw [hc.inj m m' om om' hl hl' e]
        · exact absurd hU' not_noneU
      · exact absurd hU not_noneU
/-- A call, however it finds its function: quiet. -/
theorem k_callG {P : Program} {H : Nat → Option Ob} {ev : Operand → D} {o : Oper} {f : FuncId} {res : Res} {ys : List P0} (hf : Fn P f ys res)
    (hgo : ∀ (base : Nat) (a : Act) (w : World) (ι : Nat → Nat × Nat) (own : Nat → Prop), (∀ k ob, H k = some ob → own (ι k).1 ∧ ob.p ι base ⟨w, own⟩ (ι k)) → (∀ x ∈ o.op.operands, (ev x).p ι base ⟨w, own⟩ (a.eval x)) → ∃ vs : List Value, (execOp a.eval o).run P w = .ok (.enter f vs.toArray) w ∧ Args ⟨w, fun _ => False⟩ vs ys) : Loc P H ev o res.d := by
  intro base a w ι own hown hbase hev hH _ K Q hK
  obtain ⟨vs, hrun, hA⟩ := hgo base a w ι own hH hev
  unfold Oper.wp
  rw [hrun, Oper.upon_enter]
  refine (hf.2 w _ (hbase.2.mono hbase.1) hA).mono ?_
  rintro e w' ⟨v, rfl, hp, hb⟩
  have hx : Cx.Ext ⟨w', fun b => b < w.heap.size⟩ (Cx.young ⟨w', own⟩ base true) := Cx.Ext.sub rfl (by
    intro b hb'
    rcases hb' with h | h
    · exact (hown b h).2
    · exact Nat.lt_of_lt_of_le h hbase.1)
  exact hK v w' ι own (Chg.quiet hown hb (Res.d_p (Res.mono hx hp)))
/-- The interface value of a pointer. -/
def ifP (T : TypeId) : List Value → Value
  | [v] => .iface T v
  | _ => .nilIface
theorem run_inv {P : Program} {o : Oper} {a : Act} {w : World} {r : Operand} {xs : List Operand} {tys : Array TypeId} {name : String} {T : TypeId} {v u : Value} {f : FuncId} (ho : o.op = .call { callee := .invoke r name, args := xs.toArray, argTypes := tys }) (hr : a.eval r = .iface T v)
    (hm : (method (P.types.size + Made.depth) T v name).run P w = .ok (f, u) w) (he : Ent P f) : (execOp a.eval o).run P w = .ok (.enter f (u :: xs.map a.eval).toArray) w := by
  unfold execOp
  rw [ho]
  simp [resolve, hr, invoke, callMethod, hm, he _ _]
  exact List.take_of_length_le (by simp)
section
variable {P : Program} {l : List (Nat × D)} {h : List (Nat × Ob)} {o : Oper} {f : FuncId} {r : Operand} {xs : List Operand} {tys : Array TypeId} {name : String} {T : TypeId} {k : Nat}
theorem recv_p {a : Act} {w : World} {ι : Nat → Nat × Nat} {own : Nat → Prop} {base : Nat} (hx : evO l r = some (.one (.clo (ifP T) [(k, 0)]))) (h0 : (evD (look l) r).p ι base ⟨w, own⟩ (a.eval r)) : a.eval r = .iface T (.pointer (some ⟨(ι k).1, (ι k).2, none⟩)) := by
  rw [evO_spec hx] at h0
  exact h0.1
/-- A call of a method with a value receiver by an interface value that holds a pointer: quiet. -/
theorem k_invV {res : Res} {y0 : P0} {ys : List P0} {E t : TypeId} {c0 : Cell} {cs : List Cell} (hf : Fn P f (y0 :: ys) res) (ho : o.op = .call { callee := .invoke r name, args := xs.toArray, argTypes := tys }) (hx : evO l r = some (.one (.clo (ifP T) [(k, 0)]))) (hk : lookHO h k = some (.var E (c0 :: cs))) (h0 : AsArg (lookH h) (.one c0) y0)
    (hT : tyOf P t = some (false, 1)) (hm : ∀ (w : World) (b : Addr) (v : Value), (loadVar t b).run P w = .ok v w → (method (P.types.size + Made.depth) T (.pointer (some b)) name).run P w = .ok (f, v) w) (ha : AsArgs (lookH h) (evD (look l)) xs ys) : Loc P (lookH h) (evD (look l)) o res.d :=
  k_callG hf fun base a w ι own hH hev => by
    have e1 := recv_p hx (hev r (by rw [ho]; simp [Op.operands, Call.operands]))
    obtain ⟨_, arr, g1, g2, g3⟩ := hH k _ (lookHO_spec hk)
    obtain ⟨u, hu, hp⟩ := g3 0 c0 rfl
    have hl : (loadVar t ⟨(ι k).1, (ι k).2, none⟩).run P w = .ok u w := loadVar_one hT (by
      rw [cell_of_arr g1]; exact hu)
    exact ⟨_, run_inv ho e1 (hm w _ u hl) hf.1, h0 ι base w own u hH hp, args_of hH xs ys (fun x hx => hev x (by rw [ho]; simp [Op.operands, Call.operands, hx])) ha⟩
/-- The same with effect. -/
theorem e_invV {d d0 : D} {ds : List D} {h1 h' : List (Nat × Ob)} {E t : TypeId} {c0 : Cell} {cs : List Cell} (ρ : List (Nat × Nat)) (hf : FnS P f (d0 :: ds) h1 d h') (ho : o.op = .call { callee := .invoke r name, args := xs.toArray, argTypes := tys }) (hx : evO l r = some (.one (.clo (ifP T) [(k, 0)]))) (hk : lookHO h k = some (.var E (c0 :: cs))) (h0 : AsD (.one c0) d0 ρ)
    (hT : tyOf P t = some (false, 1)) (hm : ∀ (w : World) (b : Addr) (v : Value), (loadVar t b).run P w = .ok v w → (method (P.types.size + Made.depth) T (.pointer (some b)) name).run P w = .ok (f, v) w) (ha : AsDs ρ (evD (look l)) xs ds) (hh : SubHR ρ (lookH h) h1) (hok : okS ρ d h1 h' = true) : Eff P (lookH h) (evD (look l)) o (d.ren ρ) (mapN ρ (keys h1)) (mapN ρ (lowN (keys h'))) (someU ρ h' ++ noneU ρ (keys h1)) :=
  e_callG ρ hf (fun base a w ι own hH hev => by
    have e1 := recv_p hx (hev r (by rw [ho]; simp [Op.operands, Call.operands]))
    obtain ⟨_, arr, g1, g2, g3⟩ := hH k _ (lookHO_spec hk)
    obtain ⟨u, hu, hp⟩ := g3 0 c0 rfl
    have hl : (loadVar t ⟨(ι k).1, (ι k).2, none⟩).run P w = .ok u w := loadVar_one hT (by
      rw [cell_of_arr g1]; exact hu)
    exact ⟨_, run_inv ho e1 (hm w _ u hl) hf.1, h0 ι base _ u hp, dargs_of xs ds (fun x hx => hev x (by rw [ho]; simp [Op.operands, Call.operands, hx])) ha⟩) hh hok
/-- A call of a method with a pointer receiver, with effect. -/
theorem e_invP {d d0 : D} {ds : List D} {h1 h' : List (Nat × Ob)} (ρ : List (Nat × Nat)) (hf : FnS P f (d0 :: ds) h1 d h') (ho : o.op = .call { callee := .invoke r name, args := xs.toArray, argTypes := tys }) (hx : evO l r = some (.one (.clo (ifP T) [(k, 0)]))) (h0 : AsD (.one (.ptr k 0 0 0)) d0 ρ)
    (hm : ∀ (w : World) (b : Addr), (method (P.types.size + Made.depth) T (.pointer (some b)) name).run P w = .ok (f, .pointer (some b)) w) (ha : AsDs ρ (evD (look l)) xs ds) (hh : SubHR ρ (lookH h) h1) (hok : okS ρ d h1 h' = true) : Eff P (lookH h) (evD (look l)) o (d.ren ρ) (mapN ρ (keys h1)) (mapN ρ (lowN (keys h'))) (someU ρ h' ++ noneU ρ (keys h1)) :=
  e_callG ρ hf (fun base a w ι own hH hev => by
    have e1 := recv_p hx (hev r (by rw [ho]; simp [Op.operands, Call.operands]))
    exact ⟨_, run_inv ho e1 (hm w _) hf.1, h0 ι base _ _ (by simp [D.p, Cell.p]), dargs_of xs ds (fun x hx => hev x (by rw [ho]; simp [Op.operands, Call.operands, hx])) ha⟩) hh hok
theorem pair_val {ι : Nat → Nat × Nat} {base : Nat} {cx : Cx} {m1 m2 : Bool} {c v : Int} {x : Value} (h : (D.agg [.r m1 (int c), .r m2 (int v)]).p ι base cx x) : x = .agg #[.int .i64 c, .int .i64 v] := by
  obtain ⟨vs, e1, n1, g1⟩ := h
  obtain ⟨v0, q0, r0⟩ := g1 0 _ rfl
  obtain ⟨v1, q1, r1⟩ := g1 1 _ rfl
  have s0 : v0 = .int .i64 c := ((val_p (c := Cx.young cx base m1)).1 r0).1
  have s1 : v1 = .int .i64 v := ((val_p (c := Cx.young cx base m2)).1 r1).1
  have hv : vs = [v0, v1] := by
    match vs, n1 with
    | [p, q], _ => simp at q0 q1; rw [q0, q1]
  rw [e1, hv, s0, s1]
/-- An interface value made of a pointer to a variable. -/
theorem k_ifP {H : Nat → Option Ob} {x : Operand} {u : TypeDesc} (hu : P.underlying T = some u) (hni : ∀ ms, u ≠ .interface ms) (ho : o.op = .makeInterface T x) (hx : evO l x = some (.one (.ptr k 0 0 0))) : Loc P H (evD (look l)) o (.one (.clo (ifP T) [(k, 0)])) :=
  loc_run fun base a w ι own hw he hH => by
    have h1 := he x (by rw [ho]; simp [Op.operands])
    rw [evO_spec hx] at h1
    have e1 : a.eval x = .pointer (some ⟨(ι k).1, (ι k).2, none⟩) := h1
    refine ⟨.iface T (.pointer (some ⟨(ι k).1, (ι k).2, none⟩)), ?_, rfl, rfl⟩
    unfold execOp
    rw [ho]
    simp only [e1]
    unfold Instr.makeInterface
    cases u <;> first | exact absurd rfl (hni _) | simp [run_underlying hu]
/-- An interface value made of a pair of numbers. -/
theorem k_ifA {H : Nat → Option Ob} {x : Operand} {u : TypeDesc} {m1 m2 : Bool} {c v : Int} (hu : P.underlying T = some u) (hni : ∀ ms, u ≠ .interface ms) (ho : o.op = .makeInterface T x) (hx : evO l x = some (.agg [.r m1 (int c), .r m2 (int v)])) : Loc P H (evD (look l)) o (.one (.r true (R.val (.iface T (.agg #[.int .i64 c, .int .i64 v]))))) :=
  loc_run fun base a w ι own hw he hH => by
    have h1 := he x (by rw [ho]; simp [Op.operands])
    rw [evO_spec hx] at h1
    have e1 : a.eval x = .agg #[.int .i64 c, .int .i64 v] := pair_val h1
    refine ⟨.iface T (.agg #[.int .i64 c, .int .i64 v]), ?_, rfl, rfl⟩
    unfold execOp
    rw [ho]
    simp only [e1]
    unfold Instr.makeInterface
    cases u <;> first | exact absurd rfl (hni _) | simp [run_underlying hu]
theorem k_assert {H : Nat → Option Ob} {x : Operand} {u : TypeDesc} {m : Bool} {c v : Int} {xT : TypeId} (hu : P.underlying T = some u) (hni : ∀ ms, u ≠ .interface ms) (ho : o.op = .typeAssert x xT T true) (hx : evO l x = some (.one (.r m (R.val (.iface T (.agg #[.int .i64 c, .int .i64 v])))))) : Loc P H (evD (look l)) o (.tup true [P0.agg [int c, int v], .one (bool true)]) :=
  loc_run fun base a w ι own hw he hH => by
    have h1 := he x (by rw [ho]; simp [Op.operands])
    rw [evO_spec hx] at h1
    have e1 : a.eval x = .iface T (.agg #[.int .i64 c, .int .i64 v]) := ((val_p (c := Cx.young ⟨w, own⟩ base m)).1 h1).1
    refine ⟨.tuple #[.agg #[.int .i64 c, .int .i64 v], .bool true], ?_, ?_⟩
    · unfold execOp
      rw [ho]
      simp only [e1]
      unfold Instr.typeAssert
      cases u <;> first | exact absurd rfl (hni _) | simp [run_underlying hu]
    · refine ⟨[.agg #[.int .i64 c, .int .i64 v], .bool true], rfl, rfl, fun j y hj => ?_⟩
      match j, hj with
      | 0, hj =>
        obtain rfl : P0.agg [int c, int v] = y := by simpa using hj
        refine ⟨_, rfl, [.int .i64 c, .int .i64 v], rfl, rfl, fun i r hr => ?_⟩
        match i, hr with
        | 0, hr => obtain rfl : int c = r := by simpa using hr
                   exact ⟨_, rfl, val_p.2 ⟨rfl, rfl⟩⟩
        | 1, hr => obtain rfl : int v = r := by simpa using hr
                   exact ⟨_, rfl, val_p.2 ⟨rfl, rfl⟩⟩
        | i + 2, hr => simp at hr
      | 1, hj =>
        obtain rfl : P0.one (bool true) = y := by simpa using hj
        exact ⟨_, rfl, val_p.2 ⟨rfl, rfl⟩⟩
      | j + 2, hj => simp at hj
end
end Go.Proofs.YthjnidcmhegoeaaDoor.Abs
