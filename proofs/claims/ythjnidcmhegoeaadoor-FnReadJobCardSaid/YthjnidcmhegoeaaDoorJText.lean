/- The program's JobText: what it writes. No statement of the seat is proved here. -/
import Derived.Laws.IdiomStrings
import Derived.Test.YthjnidcmhegoeaaDoorRows
import Derived.WalkKit
import Derived.WalkSpells
import Derived.WalkLawsBesides
import Derived.Lib.Hide
import Derived.Handy
import Derived.BigQuiet
import Derived.Deep.QuietTactic
import Derived.Test.YthjnidcmhegoeaaDoorLib
import Derived.Test.YthjnidcmhegoeaaDoorOwn
import Derived.Test.YthjnidcmhegoeaaDoorJobs
import Derived.Test.YthjnidcmhegoeaaDoorJBld
import Derived.Test.YthjnidcmhegoeaaDoorShelf
import Derived.Test.YthjnidcmhegoeaaDoorAStrP
set_option linter.unusedSimpArgs false
set_option linter.unusedVariables false
namespace Go.Proofs.YthjnidcmhegoeaaDoor
open Go.RowKit

open Go.Lib (IsBuilder BuilderAt byteCells strCells decDigits)
open Abs (jobB kindB midB withB)
theorem jKeep {B : Nat} {W W' : World} {b o : Nat} (h : Below B W W') (hb : b < B) : W'.cell? ⟨b, o, none⟩ = W.cell? ⟨b, o, none⟩ := World.cell?_of_block (a := ⟨b, o, none⟩) (h.block b hb)
theorem jOld {W : World} {b o : Nat} {x : Obj} (hb : b < W.heap.size) : (W.alloc x).cell? ⟨b, o, none⟩ = W.cell? ⟨b, o, none⟩ := World.cell?_of_block (a := ⟨b, o, none⟩) (Lib.alloc_old W x b hb)
theorem jBox {W : World} {vs : Array Value} {T : TypeId} (j : Nat) : (W.alloc (.cells vs T)).cell? ⟨W.heap.size, j, none⟩ = vs[j]? := World.cell?_alloc_mark W vs T (0, 0) j
theorem jBox0 {W : World} {a b c d : Value} {T : TypeId} : (W.alloc (.cells #[a, b, c, d] T)).cell? ⟨W.heap.size, 0, none⟩ = some a := jBox 0
theorem jBox1 {W : World} {a b c d : Value} {T : TypeId} : (W.alloc (.cells #[a, b, c, d] T)).cell? ⟨W.heap.size, 1, none⟩ = some b := jBox 1
theorem jBox2 {W : World} {a b c d : Value} {T : TypeId} : (W.alloc (.cells #[a, b, c, d] T)).cell? ⟨W.heap.size, 2, none⟩ = some c := jBox 2
theorem jBox3 {W : World} {a b c d : Value} {T : TypeId} : (W.alloc (.cells #[a, b, c, d] T)).cell? ⟨W.heap.size, 3, none⟩ = some d := jBox 3
theorem bldW (B b : Nat) (l p : List UInt8) (w : World) (h : IsBuilder tBld tByt B b (byteCells l) w) (hlen : l.length + p.length ≤ 1000000) (hBw : B ≤ w.heap.size) :
    Calls Tryd.prog 43 #[.pointer (some ⟨b, 0, none⟩), .string ⟨p.toArray⟩] w fun e w' => e = .returned (.tuple #[.int .i64 p.length, .nilIface]) ∧ (IsBuilder tBld tByt B b (byteCells (l ++ p)) w' ∧ Below B w w') := by
  have hs : (⟨p.toArray⟩ : ByteArray).size = p.length := by show p.toArray.size = _; simp
  refine (bldWrite B b (byteCells l) ⟨p.toArray⟩ w h (by rw [hs]; unfold byteCells; rw [List.length_map]; omega) hBw).mono ?_
  rintro e w' ⟨rfl, h1, h2⟩
  refine ⟨by rw [hs], .inr ?_, h2⟩
  rw [Lib.byteCells_append]
  exact h1

set_option maxRecDepth 100000 in
set_option maxHeartbeats 4000000 in
theorem jText1 (s r n : Int) (w : World) (h : jobOk 1 s r n = true) :
    Calls Tryd.prog 13 #[.agg #[.int .i64 1, .int .i64 s, .int .i64 r, .int .i64 n]] w fun e w' => e = .returned (.string ⟨(jobB 1 s r n).toArray⟩) ∧ Below w.heap.size w w' := by
  have HJ := fun w => Lib.hid (implJobValid 1 s r n w)
  rw [h] at HJ
  unfold jobOk progOk at h
  simp only [Bool.and_eq_true, decide_eq_true_eq] at h
  obtain ⟨hp, hn1, hn2⟩ := h
  simp at hp
  have hni : n = ((n.toNat : Nat) : Int) := by omega
  have HN := fun w => Lib.hid (Tryd.strconv_Itoa_small n.toNat (by omega) w)
  rw [← hni] at HN
  have hdn := Abs.dig_len (u := n.toNat) (by omega)
  have hmi : s = ((s.toNat : Nat) : Int) := by omega
  have HM := fun w => Lib.hid (Tryd.strconv_Itoa_small s.toNat (by omega) w)
  rw [← hmi] at HM
  have hdm := Abs.dig_len (u := s.toNat) (by omega)
  have hfin : [104, 111, 112, 115] ++ [32] ++ decDigits s.toNat ++ [32, 119, 105, 116, 104, 32] ++ decDigits n.toNat = jobB 1 s r n := by unfold jobB kindB midB withB; simp
  generalize decDigits s.toNat = dm at *
  clear hmi
  generalize decDigits n.toNat = dn at *
  rw [← hfin]
  clear hfin hni hp hn1 hn2
  go_enter Tryd.func13, Tryd.ntmps13
  go_wp2_with fail
  refine (HJ _).out.mono ?_
  rintro e w1 ⟨rfl, hb1⟩
  (obtain ⟨hc1, hf1⟩ := bcell hb1); (try simp only [World.size_drew, World.size_drewN] at hc1 hf1); have hz1 := hb1.size; (try simp only [World.size_alloc, World.size_setCell, World.size_drew, World.size_drewN] at hz1); have hl1_0 : w.heap.size < w1.heap.size := (by omega)
  have hF : IsBuilder tBld tByt w1.heap.size w1.heap.size (byteCells []) (w1.alloc (.cells #[.pointer none, .slice none 0 0] tBld)) := Lib.fresh_isBuilder tBld tByt w1
  have q0 := jKeep hb1 (b := w.heap.size) (o := 0) (by simp)
  have q1 := jKeep hb1 (b := w.heap.size) (o := 1) (by simp)
  have q2 := jKeep hb1 (b := w.heap.size) (o := 2) (by simp)
  have q3 := jKeep hb1 (b := w.heap.size) (o := 3) (by simp)
  simp only [jBox0, jBox1, jBox2, jBox3] at q0 q1 q2 q3
  have g1 : Below w.heap.size w w1 := (by repeat' (first | (with_reducible exact Below.refl _ _) | (with_reducible assumption) | (with_reducible refine Below.alloc ?_ ?_ _) | (with_reducible refine Below.drew ?_) | (with_reducible refine below_drewN ?_ _) | (with_reducible refine Below.setCell ?_ ?_ _) | (refine bstep (by with_reducible assumption) ?_) | (refine bstep2 (by with_reducible assumption) (by first | omega | (simp; done) | (simp; omega)) ?_) | go_size))
  clear hc1 hf1
  go_wp2_with (first | (go_at_call 44; go_in))
  refine (bldW w1.heap.size w1.heap.size [] [104, 111, 112, 115] _ hF (by simp) (by simp)).mono ?_
  rintro e w2 ⟨rfl, hB2, hb2⟩
  have g2 : Below w.heap.size w w2 := (g1.alloc (by omega) _).trans (hb2.mono (by omega))
  have z2 := hb2.size
  (try simp only [World.size_alloc, World.size_drew] at z2)
  have p0 := jKeep hb2 (b := w.heap.size) (o := 0) (by omega)
  have p1 := jKeep hb2 (b := w.heap.size) (o := 1) (by omega)
  have p2 := jKeep hb2 (b := w.heap.size) (o := 2) (by omega)
  have p3 := jKeep hb2 (b := w.heap.size) (o := 3) (by omega)
  rw [jOld (by omega)] at p0 p1 p2 p3
  rw [q0] at p0
  rw [q1] at p1
  rw [q2] at p2
  rw [q3] at p3
  clear q0 q1 q2 q3
  have q0 := p0
  have q1 := p1
  have q2 := p2
  have q3 := p3
  clear p0 p1 p2 p3
  go_wp2_with (first | (go_at_call 45; go_in) | (go_at_call 46; refine (HM _).out.mono ?_; rintro e wI ⟨rfl, rfl⟩))
  refine (bldW w1.heap.size w1.heap.size ([] ++ [104, 111, 112, 115]) [32] _ hB2 (by simp) (by omega)).mono ?_
  rintro e w3 ⟨rfl, hB3, hb3⟩
  have g3 : Below w.heap.size w w3 := g2.trans (hb3.mono (by omega))
  have z3 := hb3.size
  (try simp only [World.size_alloc, World.size_drew] at z3)
  have p0 := jKeep hb3 (b := w.heap.size) (o := 0) (by omega)
  have p1 := jKeep hb3 (b := w.heap.size) (o := 1) (by omega)
  have p2 := jKeep hb3 (b := w.heap.size) (o := 2) (by omega)
  have p3 := jKeep hb3 (b := w.heap.size) (o := 3) (by omega)
  rw [q0] at p0
  rw [q1] at p1
  rw [q2] at p2
  rw [q3] at p3
  clear q0 q1 q2 q3
  have q0 := p0
  have q1 := p1
  have q2 := p2
  have q3 := p3
  clear p0 p1 p2 p3
  go_wp2_with (first | (go_at_call 45; go_in) | (go_at_call 46; refine (HM _).out.mono ?_; rintro e wI ⟨rfl, rfl⟩))
  refine (bldW w1.heap.size w1.heap.size (([] ++ [104, 111, 112, 115]) ++ [32]) dm _ hB3 (by simp; omega) (by omega)).mono ?_
  rintro e w4 ⟨rfl, hB4, hb4⟩
  have g4 : Below w.heap.size w w4 := g3.trans (hb4.mono (by omega))
  have z4 := hb4.size
  (try simp only [World.size_alloc, World.size_drew] at z4)
  have p0 := jKeep hb4 (b := w.heap.size) (o := 0) (by omega)
  have p1 := jKeep hb4 (b := w.heap.size) (o := 1) (by omega)
  have p2 := jKeep hb4 (b := w.heap.size) (o := 2) (by omega)
  have p3 := jKeep hb4 (b := w.heap.size) (o := 3) (by omega)
  rw [q0] at p0
  rw [q1] at p1
  rw [q2] at p2
  rw [q3] at p3
  clear q0 q1 q2 q3
  have q0 := p0
  have q1 := p1
  have q2 := p2
  have q3 := p3
  clear p0 p1 p2 p3
  go_wp2_with (first | (go_at_call 45; go_in) | (go_at_call 46; refine (HN _).out.mono ?_; rintro e wI ⟨rfl, rfl⟩))
  refine (bldW w1.heap.size w1.heap.size ((([] ++ [104, 111, 112, 115]) ++ [32]) ++ dm) [32, 119, 105, 116, 104, 32] _ hB4 (by simp; try omega) (by omega)).mono ?_
  rintro e w5 ⟨rfl, hB5, hb5⟩
  have g5 : Below w.heap.size w w5 := g4.trans (hb5.mono (by omega))
  have z5 := hb5.size
  (try simp only [World.size_alloc, World.size_drew] at z5)
  have p0 := jKeep hb5 (b := w.heap.size) (o := 0) (by omega)
  have p1 := jKeep hb5 (b := w.heap.size) (o := 1) (by omega)
  have p2 := jKeep hb5 (b := w.heap.size) (o := 2) (by omega)
  have p3 := jKeep hb5 (b := w.heap.size) (o := 3) (by omega)
  rw [q0] at p0
  rw [q1] at p1
  rw [q2] at p2
  rw [q3] at p3
  clear q0 q1 q2 q3
  have q0 := p0
  have q1 := p1
  have q2 := p2
  have q3 := p3
  clear p0 p1 p2 p3
  go_wp2_with (first | (go_at_call 45; go_in) | (go_at_call 46; refine (HN _).out.mono ?_; rintro e wI ⟨rfl, rfl⟩))
  refine (bldW w1.heap.size w1.heap.size (((([] ++ [104, 111, 112, 115]) ++ [32]) ++ dm) ++ [32, 119, 105, 116, 104, 32]) dn _ hB5 (by simp; omega) (by omega)).mono ?_
  rintro e w6 ⟨rfl, hB6, hb6⟩
  have g6 : Below w.heap.size w w6 := g5.trans (hb6.mono (by omega))
  have z6 := hb6.size
  (try simp only [World.size_alloc, World.size_drew] at z6)
  have p0 := jKeep hb6 (b := w.heap.size) (o := 0) (by omega)
  have p1 := jKeep hb6 (b := w.heap.size) (o := 1) (by omega)
  have p2 := jKeep hb6 (b := w.heap.size) (o := 2) (by omega)
  have p3 := jKeep hb6 (b := w.heap.size) (o := 3) (by omega)
  rw [q0] at p0
  rw [q1] at p1
  rw [q2] at p2
  rw [q3] at p3
  clear q0 q1 q2 q3
  have q0 := p0
  have q1 := p1
  have q2 := p2
  have q3 := p3
  clear p0 p1 p2 p3
  go_wp2_with fail
  refine (Tryd.Builder_String_any w1.heap.size w1.heap.size _ _ hB6 (by omega)).mono ?_
  rintro e w7 ⟨rfl, hb7⟩
  go_wp2
  go_ret
  exact ⟨by simp, g6.trans (hb7.mono (by omega))⟩
set_option maxRecDepth 100000 in
set_option maxHeartbeats 4000000 in
theorem jText2 (s r n : Int) (w : World) (h : jobOk 2 s r n = true) :
    Calls Tryd.prog 13 #[.agg #[.int .i64 2, .int .i64 s, .int .i64 r, .int .i64 n]] w fun e w' => e = .returned (.string ⟨(jobB 2 s r n).toArray⟩) ∧ Below w.heap.size w w' := by
  have HJ := fun w => Lib.hid (implJobValid 2 s r n w)
  rw [h] at HJ
  unfold jobOk progOk at h
  simp only [Bool.and_eq_true, decide_eq_true_eq] at h
  obtain ⟨hp, hn1, hn2⟩ := h
  simp at hp
  have hni : n = ((n.toNat : Nat) : Int) := by omega
  have HN := fun w => Lib.hid (Tryd.strconv_Itoa_small n.toNat (by omega) w)
  rw [← hni] at HN
  have hdn := Abs.dig_len (u := n.toNat) (by omega)
  have hmi : s = ((s.toNat : Nat) : Int) := by omega
  have HM := fun w => Lib.hid (Tryd.strconv_Itoa_small s.toNat (by omega) w)
  rw [← hmi] at HM
  have hdm := Abs.dig_len (u := s.toNat) (by omega)
  have hfin : [99, 111, 115, 116, 115] ++ [32] ++ decDigits s.toNat ++ [32, 119, 105, 116, 104, 32] ++ decDigits n.toNat = jobB 2 s r n := by unfold jobB kindB midB withB; simp
  generalize decDigits s.toNat = dm at *
  clear hmi
  generalize decDigits n.toNat = dn at *
  rw [← hfin]
  clear hfin hni hp hn1 hn2
  go_enter Tryd.func13, Tryd.ntmps13
  go_wp2_with fail
  refine (HJ _).out.mono ?_
  rintro e w1 ⟨rfl, hb1⟩
  (obtain ⟨hc1, hf1⟩ := bcell hb1); (try simp only [World.size_drew, World.size_drewN] at hc1 hf1); have hz1 := hb1.size; (try simp only [World.size_alloc, World.size_setCell, World.size_drew, World.size_drewN] at hz1); have hl1_0 : w.heap.size < w1.heap.size := (by omega)
  have hF : IsBuilder tBld tByt w1.heap.size w1.heap.size (byteCells []) (w1.alloc (.cells #[.pointer none, .slice none 0 0] tBld)) := Lib.fresh_isBuilder tBld tByt w1
  have q0 := jKeep hb1 (b := w.heap.size) (o := 0) (by simp)
  have q1 := jKeep hb1 (b := w.heap.size) (o := 1) (by simp)
  have q2 := jKeep hb1 (b := w.heap.size) (o := 2) (by simp)
  have q3 := jKeep hb1 (b := w.heap.size) (o := 3) (by simp)
  simp only [jBox0, jBox1, jBox2, jBox3] at q0 q1 q2 q3
  have g1 : Below w.heap.size w w1 := (by repeat' (first | (with_reducible exact Below.refl _ _) | (with_reducible assumption) | (with_reducible refine Below.alloc ?_ ?_ _) | (with_reducible refine Below.drew ?_) | (with_reducible refine below_drewN ?_ _) | (with_reducible refine Below.setCell ?_ ?_ _) | (refine bstep (by with_reducible assumption) ?_) | (refine bstep2 (by with_reducible assumption) (by first | omega | (simp; done) | (simp; omega)) ?_) | go_size))
  clear hc1 hf1
  go_wp2_with (first | (go_at_call 44; go_in))
  refine (bldW w1.heap.size w1.heap.size [] [99, 111, 115, 116, 115] _ hF (by simp) (by simp)).mono ?_
  rintro e w2 ⟨rfl, hB2, hb2⟩
  have g2 : Below w.heap.size w w2 := (g1.alloc (by omega) _).trans (hb2.mono (by omega))
  have z2 := hb2.size
  (try simp only [World.size_alloc, World.size_drew] at z2)
  have p0 := jKeep hb2 (b := w.heap.size) (o := 0) (by omega)
  have p1 := jKeep hb2 (b := w.heap.size) (o := 1) (by omega)
  have p2 := jKeep hb2 (b := w.heap.size) (o := 2) (by omega)
  have p3 := jKeep hb2 (b := w.heap.size) (o := 3) (by omega)
  rw [jOld (by omega)] at p0 p1 p2 p3
  rw [q0] at p0
  rw [q1] at p1
  rw [q2] at p2
  rw [q3] at p3
  clear q0 q1 q2 q3
  have q0 := p0
  have q1 := p1
  have q2 := p2
  have q3 := p3
  clear p0 p1 p2 p3
  go_wp2_with (first | (go_at_call 45; go_in) | (go_at_call 46; refine (HM _).out.mono ?_; rintro e wI ⟨rfl, rfl⟩))
  refine (bldW w1.heap.size w1.heap.size ([] ++ [99, 111, 115, 116, 115]) [32] _ hB2 (by simp) (by omega)).mono ?_
  rintro e w3 ⟨rfl, hB3, hb3⟩
  have g3 : Below w.heap.size w w3 := g2.trans (hb3.mono (by omega))
  have z3 := hb3.size
  (try simp only [World.size_alloc, World.size_drew] at z3)
  have p0 := jKeep hb3 (b := w.heap.size) (o := 0) (by omega)
  have p1 := jKeep hb3 (b := w.heap.size) (o := 1) (by omega)
  have p2 := jKeep hb3 (b := w.heap.size) (o := 2) (by omega)
  have p3 := jKeep hb3 (b := w.heap.size) (o := 3) (by omega)
  rw [q0] at p0
  rw [q1] at p1
  rw [q2] at p2
  rw [q3] at p3
  clear q0 q1 q2 q3
  have q0 := p0
  have q1 := p1
  have q2 := p2
  have q3 := p3
  clear p0 p1 p2 p3
  go_wp2_with (first | (go_at_call 45; go_in) | (go_at_call 46; refine (HM _).out.mono ?_; rintro e wI ⟨rfl, rfl⟩))
  refine (bldW w1.heap.size w1.heap.size (([] ++ [99, 111, 115, 116, 115]) ++ [32]) dm _ hB3 (by simp; omega) (by omega)).mono ?_
  rintro e w4 ⟨rfl, hB4, hb4⟩
  have g4 : Below w.heap.size w w4 := g3.trans (hb4.mono (by omega))
  have z4 := hb4.size
  (try simp only [World.size_alloc, World.size_drew] at z4)
  have p0 := jKeep hb4 (b := w.heap.size) (o := 0) (by omega)
  have p1 := jKeep hb4 (b := w.heap.size) (o := 1) (by omega)
  have p2 := jKeep hb4 (b := w.heap.size) (o := 2) (by omega)
  have p3 := jKeep hb4 (b := w.heap.size) (o := 3) (by omega)
  rw [q0] at p0
  rw [q1] at p1
  rw [q2] at p2
  rw [q3] at p3
  clear q0 q1 q2 q3
  have q0 := p0
  have q1 := p1
  have q2 := p2
  have q3 := p3
  clear p0 p1 p2 p3
  go_wp2_with (first | (go_at_call 45; go_in) | (go_at_call 46; refine (HN _).out.mono ?_; rintro e wI ⟨rfl, rfl⟩))
  refine (bldW w1.heap.size w1.heap.size ((([] ++ [99, 111, 115, 116, 115]) ++ [32]) ++ dm) [32, 119, 105, 116, 104, 32] _ hB4 (by simp; try omega) (by omega)).mono ?_
  rintro e w5 ⟨rfl, hB5, hb5⟩
  have g5 : Below w.heap.size w w5 := g4.trans (hb5.mono (by omega))
  have z5 := hb5.size
  (try simp only [World.size_alloc, World.size_drew] at z5)
  have p0 := jKeep hb5 (b := w.heap.size) (o := 0) (by omega)
  have p1 := jKeep hb5 (b := w.heap.size) (o := 1) (by omega)
  have p2 := jKeep hb5 (b := w.heap.size) (o := 2) (by omega)
  have p3 := jKeep hb5 (b := w.heap.size) (o := 3) (by omega)
  rw [q0] at p0
  rw [q1] at p1
  rw [q2] at p2
  rw [q3] at p3
  clear q0 q1 q2 q3
  have q0 := p0
  have q1 := p1
  have q2 := p2
  have q3 := p3
  clear p0 p1 p2 p3
  go_wp2_with (first | (go_at_call 45; go_in) | (go_at_call 46; refine (HN _).out.mono ?_; rintro e wI ⟨rfl, rfl⟩))
  refine (bldW w1.heap.size w1.heap.size (((([] ++ [99, 111, 115, 116, 115]) ++ [32]) ++ dm) ++ [32, 119, 105, 116, 104, 32]) dn _ hB5 (by simp; omega) (by omega)).mono ?_
  rintro e w6 ⟨rfl, hB6, hb6⟩
  have g6 : Below w.heap.size w w6 := g5.trans (hb6.mono (by omega))
  have z6 := hb6.size
  (try simp only [World.size_alloc, World.size_drew] at z6)
  have p0 := jKeep hb6 (b := w.heap.size) (o := 0) (by omega)
  have p1 := jKeep hb6 (b := w.heap.size) (o := 1) (by omega)
  have p2 := jKeep hb6 (b := w.heap.size) (o := 2) (by omega)
  have p3 := jKeep hb6 (b := w.heap.size) (o := 3) (by omega)
  rw [q0] at p0
  rw [q1] at p1
  rw [q2] at p2
  rw [q3] at p3
  clear q0 q1 q2 q3
  have q0 := p0
  have q1 := p1
  have q2 := p2
  have q3 := p3
  clear p0 p1 p2 p3
  go_wp2_with fail
  refine (Tryd.Builder_String_any w1.heap.size w1.heap.size _ _ hB6 (by omega)).mono ?_
  rintro e w7 ⟨rfl, hb7⟩
  go_wp2
  go_ret
  exact ⟨by simp, g6.trans (hb7.mono (by omega))⟩
set_option maxRecDepth 100000 in
set_option maxHeartbeats 4000000 in
theorem jText3 (s r n : Int) (w : World) (h : jobOk 3 s r n = true) :
    Calls Tryd.prog 13 #[.agg #[.int .i64 3, .int .i64 s, .int .i64 r, .int .i64 n]] w fun e w' => e = .returned (.string ⟨(jobB 3 s r n).toArray⟩) ∧ Below w.heap.size w w' := by
  have HJ := fun w => Lib.hid (implJobValid 3 s r n w)
  rw [h] at HJ
  unfold jobOk progOk at h
  simp only [Bool.and_eq_true, decide_eq_true_eq] at h
  obtain ⟨hp, hn1, hn2⟩ := h
  simp at hp
  have hni : n = ((n.toNat : Nat) : Int) := by omega
  have HN := fun w => Lib.hid (Tryd.strconv_Itoa_small n.toNat (by omega) w)
  rw [← hni] at HN
  have hdn := Abs.dig_len (u := n.toNat) (by omega)
  have hfin : [112, 97, 114, 116, 115] ++ [32, 119, 105, 116, 104, 32] ++ decDigits n.toNat = jobB 3 s r n := by unfold jobB kindB midB withB; simp
  generalize decDigits n.toNat = dn at *
  rw [← hfin]
  clear hfin hni hp hn1 hn2
  go_enter Tryd.func13, Tryd.ntmps13
  go_wp2_with fail
  refine (HJ _).out.mono ?_
  rintro e w1 ⟨rfl, hb1⟩
  (obtain ⟨hc1, hf1⟩ := bcell hb1); (try simp only [World.size_drew, World.size_drewN] at hc1 hf1); have hz1 := hb1.size; (try simp only [World.size_alloc, World.size_setCell, World.size_drew, World.size_drewN] at hz1); have hl1_0 : w.heap.size < w1.heap.size := (by omega)
  have hF : IsBuilder tBld tByt w1.heap.size w1.heap.size (byteCells []) (w1.alloc (.cells #[.pointer none, .slice none 0 0] tBld)) := Lib.fresh_isBuilder tBld tByt w1
  have q0 := jKeep hb1 (b := w.heap.size) (o := 0) (by simp)
  have q1 := jKeep hb1 (b := w.heap.size) (o := 1) (by simp)
  have q2 := jKeep hb1 (b := w.heap.size) (o := 2) (by simp)
  have q3 := jKeep hb1 (b := w.heap.size) (o := 3) (by simp)
  simp only [jBox0, jBox1, jBox2, jBox3] at q0 q1 q2 q3
  have g1 : Below w.heap.size w w1 := (by repeat' (first | (with_reducible exact Below.refl _ _) | (with_reducible assumption) | (with_reducible refine Below.alloc ?_ ?_ _) | (with_reducible refine Below.drew ?_) | (with_reducible refine below_drewN ?_ _) | (with_reducible refine Below.setCell ?_ ?_ _) | (refine bstep (by with_reducible assumption) ?_) | (refine bstep2 (by with_reducible assumption) (by first | omega | (simp; done) | (simp; omega)) ?_) | go_size))
  clear hc1 hf1
  go_wp2_with (first | (go_at_call 44; go_in))
  refine (bldW w1.heap.size w1.heap.size [] [112, 97, 114, 116, 115] _ hF (by simp) (by simp)).mono ?_
  rintro e w2 ⟨rfl, hB2, hb2⟩
  have g2 : Below w.heap.size w w2 := (g1.alloc (by omega) _).trans (hb2.mono (by omega))
  have z2 := hb2.size
  (try simp only [World.size_alloc, World.size_drew] at z2)
  have p0 := jKeep hb2 (b := w.heap.size) (o := 0) (by omega)
  have p1 := jKeep hb2 (b := w.heap.size) (o := 1) (by omega)
  have p2 := jKeep hb2 (b := w.heap.size) (o := 2) (by omega)
  have p3 := jKeep hb2 (b := w.heap.size) (o := 3) (by omega)
  rw [jOld (by omega)] at p0 p1 p2 p3
  rw [q0] at p0
  rw [q1] at p1
  rw [q2] at p2
  rw [q3] at p3
  clear q0 q1 q2 q3
  have q0 := p0
  have q1 := p1
  have q2 := p2
  have q3 := p3
  clear p0 p1 p2 p3
  go_wp2_with (first | (go_at_call 45; go_in) | (go_at_call 46; refine (HN _).out.mono ?_; rintro e wI ⟨rfl, rfl⟩))
  refine (bldW w1.heap.size w1.heap.size ([] ++ [112, 97, 114, 116, 115]) [32, 119, 105, 116, 104, 32] _ hB2 (by simp; try omega) (by omega)).mono ?_
  rintro e w3 ⟨rfl, hB3, hb3⟩
  have g3 : Below w.heap.size w w3 := g2.trans (hb3.mono (by omega))
  have z3 := hb3.size
  (try simp only [World.size_alloc, World.size_drew] at z3)
  have p0 := jKeep hb3 (b := w.heap.size) (o := 0) (by omega)
  have p1 := jKeep hb3 (b := w.heap.size) (o := 1) (by omega)
  have p2 := jKeep hb3 (b := w.heap.size) (o := 2) (by omega)
  have p3 := jKeep hb3 (b := w.heap.size) (o := 3) (by omega)
  rw [q0] at p0
  rw [q1] at p1
  rw [q2] at p2
  rw [q3] at p3
  clear q0 q1 q2 q3
  have q0 := p0
  have q1 := p1
  have q2 := p2
  have q3 := p3
  clear p0 p1 p2 p3
  go_wp2_with (first | (go_at_call 45; go_in) | (go_at_call 46; refine (HN _).out.mono ?_; rintro e wI ⟨rfl, rfl⟩))
  refine (bldW w1.heap.size w1.heap.size (([] ++ [112, 97, 114, 116, 115]) ++ [32, 119, 105, 116, 104, 32]) dn _ hB3 (by simp; omega) (by omega)).mono ?_
  rintro e w4 ⟨rfl, hB4, hb4⟩
  have g4 : Below w.heap.size w w4 := g3.trans (hb4.mono (by omega))
  have z4 := hb4.size
  (try simp only [World.size_alloc, World.size_drew] at z4)
  have p0 := jKeep hb4 (b := w.heap.size) (o := 0) (by omega)
  have p1 := jKeep hb4 (b := w.heap.size) (o := 1) (by omega)
  have p2 := jKeep hb4 (b := w.heap.size) (o := 2) (by omega)
  have p3 := jKeep hb4 (b := w.heap.size) (o := 3) (by omega)
  rw [q0] at p0
  rw [q1] at p1
  rw [q2] at p2
  rw [q3] at p3
  clear q0 q1 q2 q3
  have q0 := p0
  have q1 := p1
  have q2 := p2
  have q3 := p3
  clear p0 p1 p2 p3
  go_wp2_with fail
  refine (Tryd.Builder_String_any w1.heap.size w1.heap.size _ _ hB4 (by omega)).mono ?_
  rintro e w5 ⟨rfl, hb5⟩
  go_wp2
  go_ret
  exact ⟨by simp, g4.trans (hb5.mono (by omega))⟩
set_option maxRecDepth 100000 in
set_option maxHeartbeats 4000000 in
theorem jText4 (s r n : Int) (w : World) (h : jobOk 4 s r n = true) :
    Calls Tryd.prog 13 #[.agg #[.int .i64 4, .int .i64 s, .int .i64 r, .int .i64 n]] w fun e w' => e = .returned (.string ⟨(jobB 4 s r n).toArray⟩) ∧ Below w.heap.size w w' := by
  have HJ := fun w => Lib.hid (implJobValid 4 s r n w)
  rw [h] at HJ
  unfold jobOk progOk at h
  simp only [Bool.and_eq_true, decide_eq_true_eq] at h
  obtain ⟨hp, hn1, hn2⟩ := h
  simp at hp
  have hni : n = ((n.toNat : Nat) : Int) := by omega
  have HN := fun w => Lib.hid (Tryd.strconv_Itoa_small n.toNat (by omega) w)
  rw [← hni] at HN
  have hdn := Abs.dig_len (u := n.toNat) (by omega)
  have hmi : r = ((r.toNat : Nat) : Int) := by omega
  have HM := fun w => Lib.hid (Tryd.strconv_Itoa_small r.toNat (by omega) w)
  rw [← hmi] at HM
  have hdm := Abs.dig_len (u := r.toNat) (by omega)
  have hfin : [108, 97, 98, 101, 108, 115] ++ [32] ++ decDigits r.toNat ++ [32, 119, 105, 116, 104, 32] ++ decDigits n.toNat = jobB 4 s r n := by unfold jobB kindB midB withB; simp
  generalize decDigits r.toNat = dm at *
  clear hmi
  generalize decDigits n.toNat = dn at *
  rw [← hfin]
  clear hfin hni hp hn1 hn2
  go_enter Tryd.func13, Tryd.ntmps13
  go_wp2_with fail
  refine (HJ _).out.mono ?_
  rintro e w1 ⟨rfl, hb1⟩
  (obtain ⟨hc1, hf1⟩ := bcell hb1); (try simp only [World.size_drew, World.size_drewN] at hc1 hf1); have hz1 := hb1.size; (try simp only [World.size_alloc, World.size_setCell, World.size_drew, World.size_drewN] at hz1); have hl1_0 : w.heap.size < w1.heap.size := (by omega)
  have hF : IsBuilder tBld tByt w1.heap.size w1.heap.size (byteCells []) (w1.alloc (.cells #[.pointer none, .slice none 0 0] tBld)) := Lib.fresh_isBuilder tBld tByt w1
  have q0 := jKeep hb1 (b := w.heap.size) (o := 0) (by simp)
  have q1 := jKeep hb1 (b := w.heap.size) (o := 1) (by simp)
  have q2 := jKeep hb1 (b := w.heap.size) (o := 2) (by simp)
  have q3 := jKeep hb1 (b := w.heap.size) (o := 3) (by simp)
  simp only [jBox0, jBox1, jBox2, jBox3] at q0 q1 q2 q3
  have g1 : Below w.heap.size w w1 := (by repeat' (first | (with_reducible exact Below.refl _ _) | (with_reducible assumption) | (with_reducible refine Below.alloc ?_ ?_ _) | (with_reducible refine Below.drew ?_) | (with_reducible refine below_drewN ?_ _) | (with_reducible refine Below.setCell ?_ ?_ _) | (refine bstep (by with_reducible assumption) ?_) | (refine bstep2 (by with_reducible assumption) (by first | omega | (simp; done) | (simp; omega)) ?_) | go_size))
  clear hc1 hf1
  go_wp2_with (first | (go_at_call 44; go_in))
  refine (bldW w1.heap.size w1.heap.size [] [108, 97, 98, 101, 108, 115] _ hF (by simp) (by simp)).mono ?_
  rintro e w2 ⟨rfl, hB2, hb2⟩
  have g2 : Below w.heap.size w w2 := (g1.alloc (by omega) _).trans (hb2.mono (by omega))
  have z2 := hb2.size
  (try simp only [World.size_alloc, World.size_drew] at z2)
  have p0 := jKeep hb2 (b := w.heap.size) (o := 0) (by omega)
  have p1 := jKeep hb2 (b := w.heap.size) (o := 1) (by omega)
  have p2 := jKeep hb2 (b := w.heap.size) (o := 2) (by omega)
  have p3 := jKeep hb2 (b := w.heap.size) (o := 3) (by omega)
  rw [jOld (by omega)] at p0 p1 p2 p3
  rw [q0] at p0
  rw [q1] at p1
  rw [q2] at p2
  rw [q3] at p3
  clear q0 q1 q2 q3
  have q0 := p0
  have q1 := p1
  have q2 := p2
  have q3 := p3
  clear p0 p1 p2 p3
  go_wp2_with (first | (go_at_call 45; go_in) | (go_at_call 46; refine (HM _).out.mono ?_; rintro e wI ⟨rfl, rfl⟩))
  refine (bldW w1.heap.size w1.heap.size ([] ++ [108, 97, 98, 101, 108, 115]) [32] _ hB2 (by simp) (by omega)).mono ?_
  rintro e w3 ⟨rfl, hB3, hb3⟩
  have g3 : Below w.heap.size w w3 := g2.trans (hb3.mono (by omega))
  have z3 := hb3.size
  (try simp only [World.size_alloc, World.size_drew] at z3)
  have p0 := jKeep hb3 (b := w.heap.size) (o := 0) (by omega)
  have p1 := jKeep hb3 (b := w.heap.size) (o := 1) (by omega)
  have p2 := jKeep hb3 (b := w.heap.size) (o := 2) (by omega)
  have p3 := jKeep hb3 (b := w.heap.size) (o := 3) (by omega)
  rw [q0] at p0
  rw [q1] at p1
  rw [q2] at p2
  rw [q3] at p3
  clear q0 q1 q2 q3
  have q0 := p0
  have q1 := p1
  have q2 := p2
  have q3 := p3
  clear p0 p1 p2 p3
  go_wp2_with (first | (go_at_call 45; go_in) | (go_at_call 46; refine (HM _).out.mono ?_; rintro e wI ⟨rfl, rfl⟩))
  refine (bldW w1.heap.size w1.heap.size (([] ++ [108, 97, 98, 101, 108, 115]) ++ [32]) dm _ hB3 (by simp; omega) (by omega)).mono ?_
  rintro e w4 ⟨rfl, hB4, hb4⟩
  have g4 : Below w.heap.size w w4 := g3.trans (hb4.mono (by omega))
  have z4 := hb4.size
  (try simp only [World.size_alloc, World.size_drew] at z4)
  have p0 := jKeep hb4 (b := w.heap.size) (o := 0) (by omega)
  have p1 := jKeep hb4 (b := w.heap.size) (o := 1) (by omega)
  have p2 := jKeep hb4 (b := w.heap.size) (o := 2) (by omega)
  have p3 := jKeep hb4 (b := w.heap.size) (o := 3) (by omega)
  rw [q0] at p0
  rw [q1] at p1
  rw [q2] at p2
  rw [q3] at p3
  clear q0 q1 q2 q3
  have q0 := p0
  have q1 := p1
  have q2 := p2
  have q3 := p3
  clear p0 p1 p2 p3
  go_wp2_with (first | (go_at_call 45; go_in) | (go_at_call 46; refine (HN _).out.mono ?_; rintro e wI ⟨rfl, rfl⟩))
  refine (bldW w1.heap.size w1.heap.size ((([] ++ [108, 97, 98, 101, 108, 115]) ++ [32]) ++ dm) [32, 119, 105, 116, 104, 32] _ hB4 (by simp; try omega) (by omega)).mono ?_
  rintro e w5 ⟨rfl, hB5, hb5⟩
  have g5 : Below w.heap.size w w5 := g4.trans (hb5.mono (by omega))
  have z5 := hb5.size
  (try simp only [World.size_alloc, World.size_drew] at z5)
  have p0 := jKeep hb5 (b := w.heap.size) (o := 0) (by omega)
  have p1 := jKeep hb5 (b := w.heap.size) (o := 1) (by omega)
  have p2 := jKeep hb5 (b := w.heap.size) (o := 2) (by omega)
  have p3 := jKeep hb5 (b := w.heap.size) (o := 3) (by omega)
  rw [q0] at p0
  rw [q1] at p1
  rw [q2] at p2
  rw [q3] at p3
  clear q0 q1 q2 q3
  have q0 := p0
  have q1 := p1
  have q2 := p2
  have q3 := p3
  clear p0 p1 p2 p3
  go_wp2_with (first | (go_at_call 45; go_in) | (go_at_call 46; refine (HN _).out.mono ?_; rintro e wI ⟨rfl, rfl⟩))
  refine (bldW w1.heap.size w1.heap.size (((([] ++ [108, 97, 98, 101, 108, 115]) ++ [32]) ++ dm) ++ [32, 119, 105, 116, 104, 32]) dn _ hB5 (by simp; omega) (by omega)).mono ?_
  rintro e w6 ⟨rfl, hB6, hb6⟩
  have g6 : Below w.heap.size w w6 := g5.trans (hb6.mono (by omega))
  have z6 := hb6.size
  (try simp only [World.size_alloc, World.size_drew] at z6)
  have p0 := jKeep hb6 (b := w.heap.size) (o := 0) (by omega)
  have p1 := jKeep hb6 (b := w.heap.size) (o := 1) (by omega)
  have p2 := jKeep hb6 (b := w.heap.size) (o := 2) (by omega)
  have p3 := jKeep hb6 (b := w.heap.size) (o := 3) (by omega)
  rw [q0] at p0
  rw [q1] at p1
  rw [q2] at p2
  rw [q3] at p3
  clear q0 q1 q2 q3
  have q0 := p0
  have q1 := p1
  have q2 := p2
  have q3 := p3
  clear p0 p1 p2 p3
  go_wp2_with fail
  refine (Tryd.Builder_String_any w1.heap.size w1.heap.size _ _ hB6 (by omega)).mono ?_
  rintro e w7 ⟨rfl, hb7⟩
  go_wp2
  go_ret
  exact ⟨by simp, g6.trans (hb7.mono (by omega))⟩
set_option maxRecDepth 100000 in
set_option maxHeartbeats 4000000 in
theorem jText5 (s r n : Int) (w : World) (h : jobOk 5 s r n = true) :
    Calls Tryd.prog 13 #[.agg #[.int .i64 5, .int .i64 s, .int .i64 r, .int .i64 n]] w fun e w' => e = .returned (.string ⟨(jobB 5 s r n).toArray⟩) ∧ Below w.heap.size w w' := by
  have HJ := fun w => Lib.hid (implJobValid 5 s r n w)
  rw [h] at HJ
  unfold jobOk progOk at h
  simp only [Bool.and_eq_true, decide_eq_true_eq] at h
  obtain ⟨hp, hn1, hn2⟩ := h
  simp at hp
  have hni : n = ((n.toNat : Nat) : Int) := by omega
  have HN := fun w => Lib.hid (Tryd.strconv_Itoa_small n.toNat (by omega) w)
  rw [← hni] at HN
  have hdn := Abs.dig_len (u := n.toNat) (by omega)
  have hfin : [116, 114, 105, 97, 110, 103, 108, 101, 115] ++ [32, 119, 105, 116, 104, 32] ++ decDigits n.toNat = jobB 5 s r n := by unfold jobB kindB midB withB; simp
  generalize decDigits n.toNat = dn at *
  rw [← hfin]
  clear hfin hni hp hn1 hn2
  go_enter Tryd.func13, Tryd.ntmps13
  go_wp2_with fail
  refine (HJ _).out.mono ?_
  rintro e w1 ⟨rfl, hb1⟩
  (obtain ⟨hc1, hf1⟩ := bcell hb1); (try simp only [World.size_drew, World.size_drewN] at hc1 hf1); have hz1 := hb1.size; (try simp only [World.size_alloc, World.size_setCell, World.size_drew, World.size_drewN] at hz1); have hl1_0 : w.heap.size < w1.heap.size := (by omega)
  have hF : IsBuilder tBld tByt w1.heap.size w1.heap.size (byteCells []) (w1.alloc (.cells #[.pointer none, .slice none 0 0] tBld)) := Lib.fresh_isBuilder tBld tByt w1
  have q0 := jKeep hb1 (b := w.heap.size) (o := 0) (by simp)
  have q1 := jKeep hb1 (b := w.heap.size) (o := 1) (by simp)
  have q2 := jKeep hb1 (b := w.heap.size) (o := 2) (by simp)
  have q3 := jKeep hb1 (b := w.heap.size) (o := 3) (by simp)
  simp only [jBox0, jBox1, jBox2, jBox3] at q0 q1 q2 q3
  have g1 : Below w.heap.size w w1 := (by repeat' (first | (with_reducible exact Below.refl _ _) | (with_reducible assumption) | (with_reducible refine Below.alloc ?_ ?_ _) | (with_reducible refine Below.drew ?_) | (with_reducible refine below_drewN ?_ _) | (with_reducible refine Below.setCell ?_ ?_ _) | (refine bstep (by with_reducible assumption) ?_) | (refine bstep2 (by with_reducible assumption) (by first | omega | (simp; done) | (simp; omega)) ?_) | go_size))
  clear hc1 hf1
  go_wp2_with (first | (go_at_call 44; go_in))
  refine (bldW w1.heap.size w1.heap.size [] [116, 114, 105, 97, 110, 103, 108, 101, 115] _ hF (by simp) (by simp)).mono ?_
  rintro e w2 ⟨rfl, hB2, hb2⟩
  have g2 : Below w.heap.size w w2 := (g1.alloc (by omega) _).trans (hb2.mono (by omega))
  have z2 := hb2.size
  (try simp only [World.size_alloc, World.size_drew] at z2)
  have p0 := jKeep hb2 (b := w.heap.size) (o := 0) (by omega)
  have p1 := jKeep hb2 (b := w.heap.size) (o := 1) (by omega)
  have p2 := jKeep hb2 (b := w.heap.size) (o := 2) (by omega)
  have p3 := jKeep hb2 (b := w.heap.size) (o := 3) (by omega)
  rw [jOld (by omega)] at p0 p1 p2 p3
  rw [q0] at p0
  rw [q1] at p1
  rw [q2] at p2
  rw [q3] at p3
  clear q0 q1 q2 q3
  have q0 := p0
  have q1 := p1
  have q2 := p2
  have q3 := p3
  clear p0 p1 p2 p3
  go_wp2_with (first | (go_at_call 45; go_in) | (go_at_call 46; refine (HN _).out.mono ?_; rintro e wI ⟨rfl, rfl⟩))
  refine (bldW w1.heap.size w1.heap.size ([] ++ [116, 114, 105, 97, 110, 103, 108, 101, 115]) [32, 119, 105, 116, 104, 32] _ hB2 (by simp; try omega) (by omega)).mono ?_
  rintro e w3 ⟨rfl, hB3, hb3⟩
  have g3 : Below w.heap.size w w3 := g2.trans (hb3.mono (by omega))
  have z3 := hb3.size
  (try simp only [World.size_alloc, World.size_drew] at z3)
  have p0 := jKeep hb3 (b := w.heap.size) (o := 0) (by omega)
  have p1 := jKeep hb3 (b := w.heap.size) (o := 1) (by omega)
  have p2 := jKeep hb3 (b := w.heap.size) (o := 2) (by omega)
  have p3 := jKeep hb3 (b := w.heap.size) (o := 3) (by omega)
  rw [q0] at p0
  rw [q1] at p1
  rw [q2] at p2
  rw [q3] at p3
  clear q0 q1 q2 q3
  have q0 := p0
  have q1 := p1
  have q2 := p2
  have q3 := p3
  clear p0 p1 p2 p3
  go_wp2_with (first | (go_at_call 45; go_in) | (go_at_call 46; refine (HN _).out.mono ?_; rintro e wI ⟨rfl, rfl⟩))
  refine (bldW w1.heap.size w1.heap.size (([] ++ [116, 114, 105, 97, 110, 103, 108, 101, 115]) ++ [32, 119, 105, 116, 104, 32]) dn _ hB3 (by simp; omega) (by omega)).mono ?_
  rintro e w4 ⟨rfl, hB4, hb4⟩
  have g4 : Below w.heap.size w w4 := g3.trans (hb4.mono (by omega))
  have z4 := hb4.size
  (try simp only [World.size_alloc, World.size_drew] at z4)
  have p0 := jKeep hb4 (b := w.heap.size) (o := 0) (by omega)
  have p1 := jKeep hb4 (b := w.heap.size) (o := 1) (by omega)
  have p2 := jKeep hb4 (b := w.heap.size) (o := 2) (by omega)
  have p3 := jKeep hb4 (b := w.heap.size) (o := 3) (by omega)
  rw [q0] at p0
  rw [q1] at p1
  rw [q2] at p2
  rw [q3] at p3
  clear q0 q1 q2 q3
  have q0 := p0
  have q1 := p1
  have q2 := p2
  have q3 := p3
  clear p0 p1 p2 p3
  go_wp2_with fail
  refine (Tryd.Builder_String_any w1.heap.size w1.heap.size _ _ hB4 (by omega)).mono ?_
  rintro e w5 ⟨rfl, hb5⟩
  go_wp2
  go_ret
  exact ⟨by simp, g4.trans (hb5.mono (by omega))⟩
set_option maxRecDepth 100000 in
set_option maxHeartbeats 4000000 in
theorem jText6 (s r n : Int) (w : World) (h : jobOk 6 s r n = true) :
    Calls Tryd.prog 13 #[.agg #[.int .i64 6, .int .i64 s, .int .i64 r, .int .i64 n]] w fun e w' => e = .returned (.string ⟨(jobB 6 s r n).toArray⟩) ∧ Below w.heap.size w w' := by
  have HJ := fun w => Lib.hid (implJobValid 6 s r n w)
  rw [h] at HJ
  unfold jobOk progOk at h
  simp only [Bool.and_eq_true, decide_eq_true_eq] at h
  obtain ⟨hp, hn1, hn2⟩ := h
  simp at hp
  have hni : n = ((n.toNat : Nat) : Int) := by omega
  have HN := fun w => Lib.hid (Tryd.strconv_Itoa_small n.toNat (by omega) w)
  rw [← hni] at HN
  have hdn := Abs.dig_len (u := n.toNat) (by omega)
  have hmi : r = ((r.toNat : Nat) : Int) := by omega
  have HM := fun w => Lib.hid (Tryd.strconv_Itoa_small r.toNat (by omega) w)
  rw [← hmi] at HM
  have hdm := Abs.dig_len (u := r.toNat) (by omega)
  have hfin : [99, 111, 114, 101, 115] ++ [32] ++ decDigits r.toNat ++ [32, 119, 105, 116, 104, 32] ++ decDigits n.toNat = jobB 6 s r n := by unfold jobB kindB midB withB; simp
  generalize decDigits r.toNat = dm at *
  clear hmi
  generalize decDigits n.toNat = dn at *
  rw [← hfin]
  clear hfin hni hp hn1 hn2
  go_enter Tryd.func13, Tryd.ntmps13
  go_wp2_with fail
  refine (HJ _).out.mono ?_
  rintro e w1 ⟨rfl, hb1⟩
  (obtain ⟨hc1, hf1⟩ := bcell hb1); (try simp only [World.size_drew, World.size_drewN] at hc1 hf1); have hz1 := hb1.size; (try simp only [World.size_alloc, World.size_setCell, World.size_drew, World.size_drewN] at hz1); have hl1_0 : w.heap.size < w1.heap.size := (by omega)
  have hF : IsBuilder tBld tByt w1.heap.size w1.heap.size (byteCells []) (w1.alloc (.cells #[.pointer none, .slice none 0 0] tBld)) := Lib.fresh_isBuilder tBld tByt w1
  have q0 := jKeep hb1 (b := w.heap.size) (o := 0) (by simp)
  have q1 := jKeep hb1 (b := w.heap.size) (o := 1) (by simp)
  have q2 := jKeep hb1 (b := w.heap.size) (o := 2) (by simp)
  have q3 := jKeep hb1 (b := w.heap.size) (o := 3) (by simp)
  simp only [jBox0, jBox1, jBox2, jBox3] at q0 q1 q2 q3
  have g1 : Below w.heap.size w w1 := (by repeat' (first | (with_reducible exact Below.refl _ _) | (with_reducible assumption) | (with_reducible refine Below.alloc ?_ ?_ _) | (with_reducible refine Below.drew ?_) | (with_reducible refine below_drewN ?_ _) | (with_reducible refine Below.setCell ?_ ?_ _) | (refine bstep (by with_reducible assumption) ?_) | (refine bstep2 (by with_reducible assumption) (by first | omega | (simp; done) | (simp; omega)) ?_) | go_size))
  clear hc1 hf1
  go_wp2_with (first | (go_at_call 44; go_in))
  refine (bldW w1.heap.size w1.heap.size [] [99, 111, 114, 101, 115] _ hF (by simp) (by simp)).mono ?_
  rintro e w2 ⟨rfl, hB2, hb2⟩
  have g2 : Below w.heap.size w w2 := (g1.alloc (by omega) _).trans (hb2.mono (by omega))
  have z2 := hb2.size
  (try simp only [World.size_alloc, World.size_drew] at z2)
  have p0 := jKeep hb2 (b := w.heap.size) (o := 0) (by omega)
  have p1 := jKeep hb2 (b := w.heap.size) (o := 1) (by omega)
  have p2 := jKeep hb2 (b := w.heap.size) (o := 2) (by omega)
  have p3 := jKeep hb2 (b := w.heap.size) (o := 3) (by omega)
  rw [jOld (by omega)] at p0 p1 p2 p3
  rw [q0] at p0
  rw [q1] at p1
  rw [q2] at p2
  rw [q3] at p3
  clear q0 q1 q2 q3
  have q0 := p0
  have q1 := p1
  have q2 := p2
  have q3 := p3
  clear p0 p1 p2 p3
  go_wp2_with (first | (go_at_call 45; go_in) | (go_at_call 46; refine (HM _).out.mono ?_; rintro e wI ⟨rfl, rfl⟩))
  refine (bldW w1.heap.size w1.heap.size ([] ++ [99, 111, 114, 101, 115]) [32] _ hB2 (by simp) (by omega)).mono ?_
  rintro e w3 ⟨rfl, hB3, hb3⟩
  have g3 : Below w.heap.size w w3 := g2.trans (hb3.mono (by omega))
  have z3 := hb3.size
  (try simp only [World.size_alloc, World.size_drew] at z3)
  have p0 := jKeep hb3 (b := w.heap.size) (o := 0) (by omega)
  have p1 := jKeep hb3 (b := w.heap.size) (o := 1) (by omega)
  have p2 := jKeep hb3 (b := w.heap.size) (o := 2) (by omega)
  have p3 := jKeep hb3 (b := w.heap.size) (o := 3) (by omega)
  rw [q0] at p0
  rw [q1] at p1
  rw [q2] at p2
  rw [q3] at p3
  clear q0 q1 q2 q3
  have q0 := p0
  have q1 := p1
  have q2 := p2
  have q3 := p3
  clear p0 p1 p2 p3
  go_wp2_with (first | (go_at_call 45; go_in) | (go_at_call 46; refine (HM _).out.mono ?_; rintro e wI ⟨rfl, rfl⟩))
  refine (bldW w1.heap.size w1.heap.size (([] ++ [99, 111, 114, 101, 115]) ++ [32]) dm _ hB3 (by simp; omega) (by omega)).mono ?_
  rintro e w4 ⟨rfl, hB4, hb4⟩
  have g4 : Below w.heap.size w w4 := g3.trans (hb4.mono (by omega))
  have z4 := hb4.size
  (try simp only [World.size_alloc, World.size_drew] at z4)
  have p0 := jKeep hb4 (b := w.heap.size) (o := 0) (by omega)
  have p1 := jKeep hb4 (b := w.heap.size) (o := 1) (by omega)
  have p2 := jKeep hb4 (b := w.heap.size) (o := 2) (by omega)
  have p3 := jKeep hb4 (b := w.heap.size) (o := 3) (by omega)
  rw [q0] at p0
  rw [q1] at p1
  rw [q2] at p2
  rw [q3] at p3
  clear q0 q1 q2 q3
  have q0 := p0
  have q1 := p1
  have q2 := p2
  have q3 := p3
  clear p0 p1 p2 p3
  go_wp2_with (first | (go_at_call 45; go_in) | (go_at_call 46; refine (HN _).out.mono ?_; rintro e wI ⟨rfl, rfl⟩))
  refine (bldW w1.heap.size w1.heap.size ((([] ++ [99, 111, 114, 101, 115]) ++ [32]) ++ dm) [32, 119, 105, 116, 104, 32] _ hB4 (by simp; try omega) (by omega)).mono ?_
  rintro e w5 ⟨rfl, hB5, hb5⟩
  have g5 : Below w.heap.size w w5 := g4.trans (hb5.mono (by omega))
  have z5 := hb5.size
  (try simp only [World.size_alloc, World.size_drew] at z5)
  have p0 := jKeep hb5 (b := w.heap.size) (o := 0) (by omega)
  have p1 := jKeep hb5 (b := w.heap.size) (o := 1) (by omega)
  have p2 := jKeep hb5 (b := w.heap.size) (o := 2) (by omega)
  have p3 := jKeep hb5 (b := w.heap.size) (o := 3) (by omega)
  rw [q0] at p0
  rw [q1] at p1
  rw [q2] at p2
  rw [q3] at p3
  clear q0 q1 q2 q3
  have q0 := p0
  have q1 := p1
  have q2 := p2
  have q3 := p3
  clear p0 p1 p2 p3
  go_wp2_with (first | (go_at_call 45; go_in) | (go_at_call 46; refine (HN _).out.mono ?_; rintro e wI ⟨rfl, rfl⟩))
  refine (bldW w1.heap.size w1.heap.size (((([] ++ [99, 111, 114, 101, 115]) ++ [32]) ++ dm) ++ [32, 119, 105, 116, 104, 32]) dn _ hB5 (by simp; omega) (by omega)).mono ?_
  rintro e w6 ⟨rfl, hB6, hb6⟩
  have g6 : Below w.heap.size w w6 := g5.trans (hb6.mono (by omega))
  have z6 := hb6.size
  (try simp only [World.size_alloc, World.size_drew] at z6)
  have p0 := jKeep hb6 (b := w.heap.size) (o := 0) (by omega)
  have p1 := jKeep hb6 (b := w.heap.size) (o := 1) (by omega)
  have p2 := jKeep hb6 (b := w.heap.size) (o := 2) (by omega)
  have p3 := jKeep hb6 (b := w.heap.size) (o := 3) (by omega)
  rw [q0] at p0
  rw [q1] at p1
  rw [q2] at p2
  rw [q3] at p3
  clear q0 q1 q2 q3
  have q0 := p0
  have q1 := p1
  have q2 := p2
  have q3 := p3
  clear p0 p1 p2 p3
  go_wp2_with fail
  refine (Tryd.Builder_String_any w1.heap.size w1.heap.size _ _ hB6 (by omega)).mono ?_
  rintro e w7 ⟨rfl, hb7⟩
  go_wp2
  go_ret
  exact ⟨by simp, g6.trans (hb7.mono (by omega))⟩
set_option maxRecDepth 100000 in
set_option maxHeartbeats 1000000 in
theorem jTextN (k s r n : Int) (w : World) (h : jobOk k s r n = false) :
    Calls Tryd.prog 13 #[.agg #[.int .i64 k, .int .i64 s, .int .i64 r, .int .i64 n]] w fun e w' => e = .returned (.string ⟨([] : List UInt8).toArray⟩) ∧ Below w.heap.size w w' := by
  have HJ := fun w => Lib.hid (implJobValid k s r n w)
  rw [h] at HJ
  go_enter Tryd.func13, Tryd.ntmps13
  go_wp2_with fail
  refine (HJ _).out.mono ?_
  rintro e w1 ⟨rfl, hb1⟩
  go_wp2
  go_ret
  exact ⟨rfl, (by repeat' (first | (with_reducible exact Below.refl _ _) | (with_reducible assumption) | (with_reducible refine Below.alloc ?_ ?_ _) | (with_reducible refine Below.drew ?_) | (with_reducible refine below_drewN ?_ _) | (with_reducible refine Below.setCell ?_ ?_ _) | (refine bstep (by with_reducible assumption) ?_) | (refine bstep2 (by with_reducible assumption) (by first | omega | (simp; done) | (simp; omega)) ?_) | go_size))⟩
end Go.Proofs.YthjnidcmhegoeaaDoor
