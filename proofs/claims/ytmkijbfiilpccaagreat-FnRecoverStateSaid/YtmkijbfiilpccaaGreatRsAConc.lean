/- Disks and services by states. No statement of the seat is proved here. -/
import Derived.Lib.Hide
import Derived.Deep.RegionHeld3
import Derived.Deep.RegionLaw
import Derived.Test.YtmkijbfiilpccaaGreatRsTy
import Derived.Test.YtmkijbfiilpccaaGreatRsAGraph
import Derived.Test.YtmkijbfiilpccaaGreatRsARound
import Derived.Test.YtmkijbfiilpccaaGreatRsDiskV
set_option linter.unusedSimpArgs false
set_option linter.unusedVariables false
set_option maxRecDepth 100000
set_option maxHeartbeats 1000000
namespace Go.Proofs.YtmkijbfiilpccaaGreat.Abs
open Go.RowKit
open R (val row ref)
abbrev diskP (n1 : Bool) (xs : List Int) (n2 : Bool) (ys : List Int) : P0:=.agg [row n1 1 (ints xs),row n2 1 (ints ys)]
theorem disk_arg {c : Cx} {v : Value} {n1 n2 : Bool} {xs ys : List Int} (h : (diskP n1 xs n2 ys).p c v) : ∃ a1 c1 a2 c2,v = .agg #[.slice a1 xs.length c1,.slice a2 ys.length c2] ∧ Sl c.w a1 xs ∧ Sl c.w a2 ys:=by
 obtain ⟨vs,h1,h2,h3⟩:=h
 obtain ⟨u0,e0,p0⟩:=h3 0 _ rfl
 obtain ⟨u1,e1,p1⟩:=h3 1 _ rfl
 obtain ⟨a1,c1,f1,g1,_⟩:=ints_arg p0
 obtain ⟨a2,c2,f2,g2,_⟩:=ints_arg p1
 have hv : vs = [u0,u1]:=by
  match vs,h2,e0,e1 with
  | [a,b],_,e0,e1=>simp at e0 e1; rw [e0,e1]
 subst hv f1 f2
 exact ⟨a1,c1,a2,c2,h1,g1,g2⟩
theorem Zcd (n1 n2 : Bool) (xs ys : List Int) (hl : xs.length ≤ 1048576) (hl' : ys.length ≤ 1048576) : Fn Tryz.prog 25 [diskP n1 xs n2 ys] (.v (.one (bool (diskOk xs ys)))):=by
 refine ⟨ent_of Tryz.func25 kRf rfl,fun w vs _ hA=>?_⟩
 match vs,hA with
 | [v],⟨h1,_⟩ =>
  obtain ⟨a1,c1,a2,c2,rfl,g1,g2⟩:=disk_arg h1
  refine (implDiskValid a1 a2 c1 c2 xs ys w hl hl' g1 g2).mono ?_
  rintro e w' ⟨rfl,hb⟩
  exact ⟨_,rfl,bool_res _ _,hb⟩
theorem Zce (n1 n2 : Bool) (xs ys : List Int) (hl : xs.length ≤ 1048576) (hl' : ys.length ≤ 1048576) : Fn Tryz.prog 9 [diskP n1 xs n2 ys] (.v (.one (bool (diskOk xs ys)))):=by
 refine ⟨ent_of Tryz.func9 kRf rfl,fun w vs _ hA=>?_⟩
 match vs,hA with
 | [v],⟨h1,_⟩ =>
  obtain ⟨a1,c1,a2,c2,rfl,g1,g2⟩:=disk_arg h1
  refine (specDiskValid a1 a2 c1 c2 xs ys w hl hl' g1 g2).mono ?_
  rintro e w' ⟨rfl,hb⟩
  exact ⟨_,rfl,bool_res _ _,hb⟩
end Go.Proofs.YtmkijbfiilpccaaGreat.Abs
set_option linter.unusedSimpArgs false
set_option linter.unusedVariables false
namespace Go.Proofs.YtmkijbfiilpccaaGreat.Abs
open Go.RowKit
open R (val row ref)
theorem sliceGrowN (n : Nat) (w : World) (hn : n ≤ 4194304) :
  Calls Tryz.prog 96 #[.slice none 0 0,.int .i64 n] w fun e w'=>∃ ao c,e = .returned (.slice ao 0 c) ∧ Own w' w.heap.size 3 1 ao 0 c [] ∧ Below w.heap.size w w' ∧ (ao = none ↔ n = 0):=by
 by_cases h0 : n = 0
 ·subst h0
  go_enter Tryz.func96,Tryz.ntmps96
  go_wp2
  go_ret
  exact ⟨none,0,rfl,Own.nil_ _ _ _ _,Below.refl _ _,by simp⟩
 ·obtain ⟨i,hi,hz,hsz,hby⟩:=(el_int).info
  have hp : (0 : Int) < n:=by omega
  have hold : (Builtin.firstCells i.size 0 (.slice none 0 0)).run Tryz.prog w.drew = .ok (([] : List Value)).toArray w.drew:=by
   rw [hsz]; exact run_firstCells_none w.drew 1 0 0 0
  have hf : Builtin.nextslicecap (0 + n) 0 * i.bytes ≤ 281474976710656:=by
   rw [hby]; exact growslice_fits oM oM
  have hr:=fun ty=>Lib.run_append_grow_zeros (P:=Tryz.prog) w 26 3 ty 3 i (.int .i64 0) .i64 .i64 Tryz.underlying26 Tryz.underlying3 hi hz none 0 0 [] hold n oM (by rw [hsz]; omega) oM oM (by rw [hby]; omega) hf
  rw [Nat.zero_add] at hr
  have hG1 : n ≤ grownCap w n 0 3:=grownCap_ge w _ _ _
  have hG2:=grownCap_le_maxLen w n 0 3 (by unfold maxLen; omega)
  generalize grownCap w n 0 3 = G at *
  have hGm : G ≤ 9223372036854775807:=by unfold maxLen at hG2; omega
  have HG:=Lib.hid hG2
  clear hold hf hi hz hsz hby hG2
  go_enter Tryz.func96,Tryz.ntmps96
  go_wp2_with (at_builtin; refine Lib.wpList_append_run _ rfl _ _ _ _ rfl _ _ rfl rfl _ _ (hr _) ?_)
  all_goals
   go_ret
   refine ⟨_,_,rfl,?_,?_,by simp [h0]⟩
   ·exact own_cap _ _ (by simp [Builtin.zeroCells,show (Value.int IntKind.i64 0).cells = #[.int .i64 0] from rfl]; try omega) HG.out
   ·exact (by repeat' (first|(with_reducible exact Below.refl _ _)|(with_reducible assumption)|(with_reducible refine Below.alloc ?_ ?_ _)|(with_reducible refine Below.drew ?_)|(with_reducible refine below_drewN ?_ _)|(with_reducible refine Below.setCell ?_ ?_ _)|(refine bstep (by with_reducible assumption) ?_)|(refine bstep2 (by with_reducible assumption) (by first|omega|(simp;done)|(simp;omega)) ?_)|go_size))
theorem sliceConcatN (B o cp : Nat) (a1 a2 : Option Addr) (c1 c2 : Nat) (xs ys : List Int) (w : World) (hx : xs.length ≤ 1048576) (hy : ys.length ≤ 1048576) (h1 : Sl w a1 xs) (h2 : Sl w a2 ys)
  (hc1 : w.cell? ⟨B,o,none⟩ = some (.slice a1 xs.length c1)) (hc2 : w.cell? ⟨B,o + 1,none⟩ = some (.slice a2 ys.length c2)) :
  Calls Tryz.prog 69 #[.slice (some ⟨B,o,none⟩) 2 cp] w fun e w'=>∃ ao c,e = .returned (.slice ao (xs ++ ys).length c) ∧ Own w' w.heap.size 3 1 ao (xs ++ ys).length c (iv (xs ++ ys)) ∧ Below w.heap.size w w' ∧ (ao = none ↔ xs.length + ys.length = 0):=by
 have hBw:=World.block_lt_of_cell? w _ hc1
 have H1:=Lib.hid h1
 have H2:=Lib.hid h2
 clear h1 h2
 have hs:=sz_ints
 go_enter Tryz.func69,Tryz.ntmps69
 go_wp2
 refine wp_loop_rounds 3 ?_
 rw [rounds_succ]
 go_wp2
 rw [rounds_succ]
 go_wp2
 rw [rounds_succ]
 go_wp2_with fail
 refine (sliceGrowN (xs.length + ys.length) _ oM).mono ?_
 rintro e w1 ⟨ao1,k1,rfl,hown1,hb1,hn1⟩
 have hc1':=(hb1.cell (p:=⟨B,o,none⟩) hBw).trans hc1
 have hc2':=(hb1.cell (p:=⟨B,o + 1,none⟩) hBw).trans hc2
 have hz1:=hb1.size
 have C2:=Lib.hid hc2
 clear hc1 hc2
 go_wp2
 have O1:=Lib.hid hown1
 clear hown1
 refine wp_loop_rounds 3 ?_
 rw [rounds_succ]
 go_wp2_with (first|(at_builtin;refine wp_app _ el_int rfl (.tmp 31) (.tmp 32) rfl w.heap.size rfl O1.out rfl (H1.out.below hb1 (Nat.le_refl _)) (oneCell_iv _) (by simp only [maxLen];omega) oM oM ?_;intro ao2 k2 w2 hown2 hg2 hat2 hz2))
 have hb2 : Below w.heap.size w w2:=hb1.grown hg2 hb1.size (fun g hg=>(O1.out.lt_ g hg).1)
 have hzz2:=hg2.size
 rw [Nat.zero_add,List.nil_append] at hown2
 have hc3:=(hb2.cell (p:=⟨B,o + 1,none⟩) hBw).trans C2.out
 clear hc1' hc2'
 rw [rounds_succ]
 go_wp2_with (first|(at_builtin;refine wp_app _ el_int rfl (.tmp 31) (.tmp 32) rfl w.heap.size rfl hown2 rfl (H2.out.below hb2 (Nat.le_refl _)) (oneCell_iv _) (by simp only [maxLen];omega) oM oM ?_;intro ao3 k3 w3 hown3 hg3 hat3 hz3))
 have hb3 : Below w.heap.size w w3:=hb2.grown hg3 hb2.size (fun g hg=>(hown2.lt_ g hg).1)
 have O3:=Lib.hid hown3
 clear hown3 hown2
 rw [rounds_succ]
 go_wp2
 go_ret
 refine ⟨ao3,k3,by rw [List.length_append]; simp,?_,hb3,?_⟩
 ·have h:=O3.out
  simpa [iv] using h
 ·rw [hz3,hz2,hn1]
  omega
theorem own_res {w' : World} {base c : Nat} {ao : Option Addr} {xs : List Int} {nil : Bool} (h : Own w' base 3 1 ao xs.length c (iv xs)) (hn : ao = none ↔ nil = true) : (P0.one (row nil 1 (ints xs))).p ⟨w',fun b=>b < base⟩ (.slice ao xs.length c):=by
 obtain ⟨b,o,ha,hi⟩:=h.sl.ints
 rcases h.2 with ⟨hv,h0⟩ | ⟨g,cap,cur,hv,hg,hh,hnc,hcm,hcs,ht⟩
 ·simp at hv
  obtain ⟨rfl,h0',rfl⟩:=hv
  refine Za7.2 ⟨none,0,by rw [Zr],by rw [Zr]; simp only [maxLen]; omega,hn.symm,fun _=>rfl,fun hp=>by rw [Zr] at hp; omega⟩
 ·simp at hv
  obtain ⟨rfl,rfl⟩:=hv
  refine Za7.2 ⟨_,c,by rw [Zr],by rw [Zr]; exact ⟨hnc,hcm⟩,hn.symm,fun h=>by (cases h),fun hp=>⟨g,0,rfl,lt_of_heap hh,?_,fun i e he=>?_⟩⟩
  ·show ¬ g < base
   omega
  ·unfold ints at he
   rw [List.getElem?_map,Option.map_eq_some_iff] at he
   obtain ⟨z,hz1,rfl⟩:=he
   refine ⟨rfl,fun j r hj=>?_⟩
   match j,hj with
   | 0,hj =>
    obtain rfl : int z = r:=by simpa [P0.rs] using hj
    obtain ⟨hil,hzz⟩:=List.getElem?_eq_some_iff.1 hz1
    refine ⟨.int .i64 z,?_,(Zaj (c:=⟨w',fun b=>b < base⟩)).2 ⟨rfl,rfl⟩⟩
    have:=hi i hil
    rw [List.getD_eq_getElem?_getD,hz1] at this
    have ha':=ha.resolve_left oM
    injection ha' with ha'
    injection ha' with hb ho
    subst hb ho
    show w'.cell? ⟨g,0 + i * 1 + 0,none⟩ = _
    rw [Nat.mul_one,Nat.add_zero]
    exact this
   | j + 1,hj=>simp [P0.rs] at hj
def rows2 (n1 : Bool) (xs : List Int) (n2 : Bool) (ys : List Int) : List P0:=[.one (row n1 1 (ints xs)),.one (row n2 1 (ints ys))]
theorem f_concat (n1 n2 : Bool) (xs ys : List Int) (hx : xs.length ≤ 1048576) (hy : ys.length ≤ 1048576) :
  Fn Tryz.prog 69 [.one (row false 1 (rows2 n1 xs n2 ys))] (.v (.one (row (decide (xs.length + ys.length = 0)) 1 (ints (xs ++ ys))))):=by
 refine ⟨ent_of Tryz.func69 kRf rfl,fun w vs _ hA=>?_⟩
 match vs,hA with
 | [v],⟨h1,_⟩ =>
  obtain ⟨ao,cap,rfl,hc,_,_,h5⟩:=Za7.1 h1
  obtain ⟨b,o,rfl,hb,_,hr⟩:=h5 (by unfold rows2; simp)
  obtain ⟨_,g1⟩:=hr 0 _ rfl
  obtain ⟨_,g2⟩:=hr 1 _ rfl
  obtain ⟨u1,e1,p1⟩:=g1 0 _ rfl
  obtain ⟨u2,e2,p2⟩:=g2 0 _ rfl
  obtain ⟨a1,c1,rfl,s1,_⟩:=ints_arg p1
  obtain ⟨a2,c2,rfl,s2,_⟩:=ints_arg p2
  refine (sliceConcatN b o cap a1 a2 c1 c2 xs ys w hx hy s1 s2 ?_ ?_).mono ?_
  ·simpa using e1
  ·simpa using e2
  ·rintro e w' ⟨ao,c,rfl,hO,hB,hn⟩
   exact ⟨_,rfl,own_res hO (by rw [hn]; simp),hB⟩
end Go.Proofs.YtmkijbfiilpccaaGreat.Abs
