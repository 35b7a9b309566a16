/- Walks: the law's lives: the document's examples. -/
import Derived.Test.YtbpejjmfdhkfhaaGreatDoorPosFacts
set_option linter.unusedVariables false
set_option linter.unusedSimpArgs false
namespace Go.Proofs.YtbpejjmfdhkfhaaGreatDoor
open Go.RowKit

/-- the program's file system at pr, in blocks of F; nothing that stood at the beginning has turned -/
structure Alone [Inhabited XBox] (w0 : World) (pr : Nat) (S : Pz.Fil) (F : Nat → Prop) (w : World) : Prop where
  real : RealF pr S w F
  fl : ∀ k, F k → k < w.heap.size ∧ (k = maxB ∨ w0.heap.size ≤ k)
  below : Below w0.heap.size w0 w
  x : MxX w0
theorem Both.alone [Inhabited XBox] {w0 w : World} {pr rr : Nat} {S T : Pz.Fil} {F G : Nat → Prop} (h : Both w0 pr rr S T F G w) : Alone w0 pr S F w := ⟨h.real, h.fl, h.below, h.x⟩
theorem Alone.keep [Inhabited XBox] {w0 w w' : World} {pr : Nat} {S : Pz.Fil} {F : Nat → Prop} (h : Alone w0 pr S F w) (hb : Below w.heap.size w w') : Alone w0 pr S F w' :=
  { real := (RealF.held _ _).below h.real hb
    fl := fun k hk => ⟨Nat.lt_of_lt_of_le (h.fl k hk).1 hb.size, (h.fl k hk).2⟩
    below := h.below.trans (hb.mono h.below.size)
    x := h.x }
theorem Alone.doReal [Inhabited XBox] {w0 w w' : World} {pr : Nat} {S S' : Pz.Fil} {F : Nat → Prop} (h : Alone w0 pr S F w) (hi : RealF pr S' w' (Gr F w)) (ho : Only F w w') :
    Alone w0 pr S' (fun k => Gr F w k ∧ k < w'.heap.size) w' :=
  { real := (RealF.held _ _).mono hi fun k hk e => ⟨e, hk⟩
    fl := fun k hk => ⟨hk.2, hk.1.elim (fun e => (h.fl k e).2) fun e => Or.inr (Nat.le_trans h.below.size e)⟩
    below := ⟨ho.os.trans h.below.os, ho.tape.trans h.below.tape, ho.output.trans h.below.output, Nat.le_trans h.below.size ho.size, fun k hk => by
      by_cases hm : k = maxB
      · rw [hm]
        exact hi.mxx.2.trans h.x.2.symm
      · exact (ho.block k (Nat.lt_of_lt_of_le hk h.below.size) fun e => (h.fl k e).2.elim hm fun e => by omega).trans (h.below.block k hk)⟩
    x := h.x }
theorem alone_new [Inhabited XBox] {w0 w1 : World} (hx : MxX w0) (hR : RealF (w0.heap.size + 3) newFS w1 (fun k => k = maxB ∨ w0.heap.size ≤ k)) (hb : Below w0.heap.size w0 w1) :
    Alone w0 (w0.heap.size + 3) newFS (fun k => (k = maxB ∨ w0.heap.size ≤ k) ∧ k < w1.heap.size) w1 :=
  { real := (RealF.held _ _).mono hR fun k hk e => ⟨e, hk⟩
    fl := fun k hk => ⟨hk.2, hk.1⟩
    below := hb
    x := hx }

/-- an own block, none of the file system's -/
def Mine (F : Nat → Prop) (g : Nat) (x : Obj) (w : World) : Prop := w.heap[g]? = some x ∧ ¬ F g
theorem Mine.lt {F : Nat → Prop} {g : Nat} {x : Obj} {w : World} (h : Mine F g x w) : g < w.heap.size := (Array.getElem?_eq_some_iff.1 h.1).1
theorem Mine.keep {F : Nat → Prop} {g : Nat} {x : Obj} {w w' : World} (h : Mine F g x w) (hb : Below w.heap.size w w') : Mine F g x w' := ⟨(hb.block g h.lt).trans h.1, h.2⟩
theorem Mine.only {F : Nat → Prop} {g : Nat} {x : Obj} {w w' : World} (h : Mine F g x w) (ho : Only F w w') : Mine (fun k => Gr F w k ∧ k < w'.heap.size) g x w' :=
  ⟨(ho.block g h.lt h.2).trans h.1, fun e => e.1.elim h.2 fun e => Nat.not_lt.2 e h.lt⟩
theorem Mine.make [Inhabited XBox] {w0 w : World} {pr : Nat} {S : Pz.Fil} {F : Nat → Prop} (h : Alone w0 pr S F w) (x : Array Value) (t : Nat) : Mine F w.heap.size (.cells x t (0, 0)) (w.alloc (.cells x t)) :=
  ⟨heap_alloc_new _ _, fun e => Nat.lt_irrefl _ (h.fl _ e).1⟩

/-- a reply's cells -/
def repC (q : Pz.Rep) (A : Option Addr) (c : Nat) : Array Value := #[.int .i64 q.errno, .int .i64 q.fd, .string ⟨q.data.toArray⟩, .slice A q.names.length c, .int .i64 q.kind, .int .i64 q.links, .int .i64 q.size]
theorem Mine.rep {F : Nat → Prop} {g t : Nat} {w : World} {q : Pz.Rep} {A : Option Addr} {c : Nat} (h : Mine F g (.cells (repC q A c) t (0, 0)) w) :
    w.cell? ⟨g, 0, none⟩ = some (.int .i64 q.errno) ∧ w.cell? ⟨g, 1, none⟩ = some (.int .i64 q.fd) ∧ w.cell? ⟨g, 2, none⟩ = some (.string ⟨q.data.toArray⟩) ∧ w.cell? ⟨g, 3, none⟩ = some (.slice A q.names.length c) ∧
      w.cell? ⟨g, 4, none⟩ = some (.int .i64 q.kind) ∧ w.cell? ⟨g, 5, none⟩ = some (.int .i64 q.links) ∧ w.cell? ⟨g, 6, none⟩ = some (.int .i64 q.size) :=
  ⟨cell_of_row w g 0 _ t _ h.1, cell_of_row w g 1 _ t _ h.1, cell_of_row w g 2 _ t _ h.1, cell_of_row w g 3 _ t _ h.1, cell_of_row w g 4 _ t _ h.1, cell_of_row w g 5 _ t _ h.1, cell_of_row w g 6 _ t _ h.1⟩

/-- a call of the program's -/
theorem do_alone [Inhabited XBox] {w0 w : World} {pr : Nat} {S : Pz.Fil} {F : Nat → Prop} (h : Alone w0 pr S F w) (cl kind flags fd off n : Int) (p p2 data : ByteArray) (hcl : I64 cl) (hfd : I64 fd) (hp : p.size ≤ 100000) (hp2 : p2.size ≤ 100000) (hG : Pz.Good 1000 S)
    (R : Pz.Fil × Pz.Rep) (hR : Pz.doA S cl kind p.data.toList p2.data.toList flags fd off n data.data.toList = R) :
    Calls Tryz.prog 7 #[.pointer (some ⟨pr, 0, none⟩), .int .i64 cl, callV kind p p2 flags fd off n data] w fun e w' =>
      ∃ A c F', e = .returned (repV R.2 A c) ∧ Strs w' w.heap.size A R.2.names ∧ Alone w0 pr R.1 F' w' ∧ ∀ g x, Mine F g x w → Mine F' g x w' := by
  subst hR
  refine (fdo_any pr S cl kind flags fd off n p p2 data w F hcl hfd hp hp2 hG h.real).mono ?_
  rintro e w' ⟨A, c, he, hS, hi, ho⟩
  exact ⟨A, c, _, he, hS, h.doReal hi ho, fun g x hm => hm.only ho⟩

namespace Pz
def l1 : Fil × Rep := doA newFS 1 1 [47, 97] [] 1 0 0 0 []
def l2 : Fil × Rep := doA l1.1 1 4 [] [] 0 0 2 0 [120]
def l3 : Fil × Rep := doA l2.1 1 3 [] [] 0 0 0 9 []
def l4 : Fil × Rep := doA l3.1 2 10 [47, 97] [] 0 0 0 0 []
def l5 : Fil × Rep := doA l4.1 1 3 [] [] 0 0 0 9 []
def l6 : Fil × Rep := doA l5.1 1 7 [47, 100] [] 0 0 0 0 []
def l7 : Fil × Rep := doA l6.1 1 11 [47, 100] [47, 100, 47, 101] 0 0 0 0 []
theorem l1_rep : l1.2 = fdR 0 := by kernel_rfl
theorem l2_rep : l2.2 = er 0 := by kernel_rfl
theorem l3_rep : l3.2 = dataR [0, 0, 120] := by kernel_rfl
theorem l4_rep : l4.2 = er 0 := by kernel_rfl
theorem l5_rep : l5.2 = dataR [0, 0, 120] := by kernel_rfl
theorem l6_rep : l6.2 = er 0 := by kernel_rfl
theorem l7_rep : l7.2 = er 15 := by kernel_rfl
theorem l1_good : Good 4 l1.1 ∧ Few l1.1 := do_good new_good.1 new_good.2 _ _ _ _ _ _ _ _ _
theorem l2_good : Good 7 l2.1 ∧ Few l2.1 := do_good l1_good.1 l1_good.2 _ _ _ _ _ _ _ _ _
theorem l3_good : Good 10 l3.1 ∧ Few l3.1 := do_good l2_good.1 l2_good.2 _ _ _ _ _ _ _ _ _
theorem l4_good : Good 13 l4.1 ∧ Few l4.1 := do_good l3_good.1 l3_good.2 _ _ _ _ _ _ _ _ _
theorem l5_good : Good 16 l5.1 ∧ Few l5.1 := do_good l4_good.1 l4_good.2 _ _ _ _ _ _ _ _ _
theorem l6_good : Good 19 l6.1 ∧ Few l6.1 := do_good l5_good.1 l5_good.2 _ _ _ _ _ _ _ _ _
end Pz

theorem i64_1 : I64 1 := by
  show (Lit.int .i64 1).wf = true
  decide
theorem i64_2 : I64 2 := by
  show (Lit.int .i64 2).wf = true
  decide
theorem i64_0 : I64 0 := by
  show (Lit.int .i64 0).wf = true
  decide

set_option maxHeartbeats 4000000 in
set_option maxRecDepth 8192 in
theorem lives_any [Inhabited XBox] (w : World) (hx : MxX w) : Calls Tryz.prog 12 #[] w fun e w' => e = .returned (.bool true) ∧ Below w.heap.size w w' := by
  have HX := Lib.hid hx
  clear hx
  go_enter Tryz.func12, Tryz.ntmps12
  go_wp2_with fail
  refine (fnew_any w HX.out).mono ?_
  rintro e w1 ⟨rfl, hR1, hb1⟩
  have HA0 := Lib.hid (alone_new HX.out hR1 hb1)
  clear hR1 hb1
  obtain ⟨pr, hpr⟩ : ∃ pr, pr = w.heap.size + 3 := ⟨_, rfl⟩
  rw [← hpr] at HA0
  try rw [← hpr]
  clear hpr
  go_wp2_with fail
  refine (do_alone HA0.out 1 1 1 0 0 0 ⟨#[47, 97]⟩ ⟨#[]⟩ ⟨#[]⟩ i64_1 i64_0 (by decide) (by decide) (Pz.new_good.1.mono (by omega)) Pz.l1 rfl).mono ?_
  rintro e w1a ⟨A1, c1, F1, rfl, -, hA, hM⟩
  obtain ⟨q1, hq1⟩ : ∃ q, q = Pz.l1.2 := ⟨_, rfl⟩
  rw [← hq1]
  rw [Pz.l1_rep] at hq1
  have HQ1 := Lib.hid hq1
  clear hq1
  obtain ⟨w1b, hw⟩ : ∃ v, v = w1a.alloc (.cells (repC q1 A1 c1) 36) := ⟨_, rfl⟩
  have hb : Below w1a.heap.size w1a w1b := by rw [hw]; exact (Below.refl _ _).alloc (Nat.le_refl _) _
  have HA1 := Lib.hid (hA.keep hb)
  have M1x1 : Hid (Mine F1 w1a.heap.size (.cells (repC q1 A1 c1) 36 (0, 0)) w1b) := Lib.hid (by rw [hw]; exact Mine.make hA _ _)
  unfold repC at hw
  have HW1 := Lib.hid hw
  clear hA hM hb hw
  unfold repV
  go_wp2_with fail
  rw [← HW1.out]
  refine (do_alone HA1.out 1 4 0 0 2 0 ⟨#[]⟩ ⟨#[]⟩ ⟨#[120]⟩ i64_1 i64_0 (by decide) (by decide) (Pz.l1_good.1.mono (by omega)) Pz.l2 rfl).mono ?_
  rintro e w2a ⟨A2, c2, F2, rfl, -, hA, hM⟩
  obtain ⟨q2, hq2⟩ : ∃ q, q = Pz.l2.2 := ⟨_, rfl⟩
  rw [← hq2]
  rw [Pz.l2_rep] at hq2
  have HQ2 := Lib.hid hq2
  clear hq2
  obtain ⟨w2b, hw⟩ : ∃ v, v = w2a.alloc (.cells (repC q2 A2 c2) 36) := ⟨_, rfl⟩
  have hb : Below w2a.heap.size w2a w2b := by rw [hw]; exact (Below.refl _ _).alloc (Nat.le_refl _) _
  have HA2 := Lib.hid (hA.keep hb)
  have M2x2 : Hid (Mine F2 w2a.heap.size (.cells (repC q2 A2 c2) 36 (0, 0)) w2b) := Lib.hid (by rw [hw]; exact Mine.make hA _ _)
  have M1x2 := Lib.hid ((hM _ _ M1x1.out).keep hb)
  clear M1x1
  unfold repC at hw
  have HW2 := Lib.hid hw
  clear hA hM hb hw
  unfold repV
  go_wp2_with fail
  rw [← HW2.out]
  refine (do_alone HA2.out 1 3 0 0 0 9 ⟨#[]⟩ ⟨#[]⟩ ⟨#[]⟩ i64_1 i64_0 (by decide) (by decide) (Pz.l2_good.1.mono (by omega)) Pz.l3 rfl).mono ?_
  rintro e w3a ⟨A3, c3, F3, rfl, -, hA, hM⟩
  obtain ⟨q3, hq3⟩ : ∃ q, q = Pz.l3.2 := ⟨_, rfl⟩
  rw [← hq3]
  rw [Pz.l3_rep] at hq3
  have HQ3 := Lib.hid hq3
  clear hq3
  obtain ⟨w3b, hw⟩ : ∃ v, v = w3a.alloc (.cells (repC q3 A3 c3) 36) := ⟨_, rfl⟩
  have hb : Below w3a.heap.size w3a w3b := by rw [hw]; exact (Below.refl _ _).alloc (Nat.le_refl _) _
  have HA3 := Lib.hid (hA.keep hb)
  have M3x3 : Hid (Mine F3 w3a.heap.size (.cells (repC q3 A3 c3) 36 (0, 0)) w3b) := Lib.hid (by rw [hw]; exact Mine.make hA _ _)
  have M1x3 := Lib.hid ((hM _ _ M1x2.out).keep hb)
  have M2x3 := Lib.hid ((hM _ _ M2x2.out).keep hb)
  clear M1x2
  clear M2x2
  unfold repC at hw
  have HW3 := Lib.hid hw
  clear hA hM hb hw
  unfold repV
  go_wp2_with fail
  rw [← HW3.out]
  refine (do_alone HA3.out 2 10 0 0 0 0 ⟨#[47, 97]⟩ ⟨#[]⟩ ⟨#[]⟩ i64_2 i64_0 (by decide) (by decide) (Pz.l3_good.1.mono (by omega)) Pz.l4 rfl).mono ?_
  rintro e w4a ⟨A4, c4, F4, rfl, -, hA, hM⟩
  obtain ⟨q4, hq4⟩ : ∃ q, q = Pz.l4.2 := ⟨_, rfl⟩
  rw [← hq4]
  rw [Pz.l4_rep] at hq4
  have HQ4 := Lib.hid hq4
  clear hq4
  obtain ⟨w4b, hw⟩ : ∃ v, v = w4a.alloc (.cells (repC q4 A4 c4) 36) := ⟨_, rfl⟩
  have hb : Below w4a.heap.size w4a w4b := by rw [hw]; exact (Below.refl _ _).alloc (Nat.le_refl _) _
  have HA4 := Lib.hid (hA.keep hb)
  have M4x4 : Hid (Mine F4 w4a.heap.size (.cells (repC q4 A4 c4) 36 (0, 0)) w4b) := Lib.hid (by rw [hw]; exact Mine.make hA _ _)
  have M1x4 := Lib.hid ((hM _ _ M1x3.out).keep hb)
  have M2x4 := Lib.hid ((hM _ _ M2x3.out).keep hb)
  have M3x4 := Lib.hid ((hM _ _ M3x3.out).keep hb)
  clear M1x3
  clear M2x3
  clear M3x3
  unfold repC at hw
  have HW4 := Lib.hid hw
  clear hA hM hb hw
  unfold repV
  go_wp2_with fail
  rw [← HW4.out]
  refine (do_alone HA4.out 1 3 0 0 0 9 ⟨#[]⟩ ⟨#[]⟩ ⟨#[]⟩ i64_1 i64_0 (by decide) (by decide) (Pz.l4_good.1.mono (by omega)) Pz.l5 rfl).mono ?_
  rintro e w5a ⟨A5, c5, F5, rfl, -, hA, hM⟩
  obtain ⟨q5, hq5⟩ : ∃ q, q = Pz.l5.2 := ⟨_, rfl⟩
  rw [← hq5]
  rw [Pz.l5_rep] at hq5
  have HQ5 := Lib.hid hq5
  clear hq5
  obtain ⟨w5b, hw⟩ : ∃ v, v = w5a.alloc (.cells (repC q5 A5 c5) 36) := ⟨_, rfl⟩
  have hb : Below w5a.heap.size w5a w5b := by rw [hw]; exact (Below.refl _ _).alloc (Nat.le_refl _) _
  have HA5 := Lib.hid (hA.keep hb)
  have M5x5 : Hid (Mine F5 w5a.heap.size (.cells (repC q5 A5 c5) 36 (0, 0)) w5b) := Lib.hid (by rw [hw]; exact Mine.make hA _ _)
  have M1x5 := Lib.hid ((hM _ _ M1x4.out).keep hb)
  have M2x5 := Lib.hid ((hM _ _ M2x4.out).keep hb)
  have M3x5 := Lib.hid ((hM _ _ M3x4.out).keep hb)
  have M4x5 := Lib.hid ((hM _ _ M4x4.out).keep hb)
  clear M1x4
  clear M2x4
  clear M3x4
  clear M4x4
  unfold repC at hw
  have HW5 := Lib.hid hw
  clear hA hM hb hw
  unfold repV
  go_wp2_with fail
  rw [← HW5.out]
  refine (do_alone HA5.out 1 7 0 0 0 0 ⟨#[47, 100]⟩ ⟨#[]⟩ ⟨#[]⟩ i64_1 i64_0 (by decide) (by decide) (Pz.l5_good.1.mono (by omega)) Pz.l6 rfl).mono ?_
  rintro e w6a ⟨A6, c6, F6, rfl, -, hA, hM⟩
  obtain ⟨q6, hq6⟩ : ∃ q, q = Pz.l6.2 := ⟨_, rfl⟩
  rw [← hq6]
  rw [Pz.l6_rep] at hq6
  have HQ6 := Lib.hid hq6
  clear hq6
  obtain ⟨w6b, hw⟩ : ∃ v, v = w6a.alloc (.cells (repC q6 A6 c6) 36) := ⟨_, rfl⟩
  have hb : Below w6a.heap.size w6a w6b := by rw [hw]; exact (Below.refl _ _).alloc (Nat.le_refl _) _
  have HA6 := Lib.hid (hA.keep hb)
  have M6x6 : Hid (Mine F6 w6a.heap.size (.cells (repC q6 A6 c6) 36 (0, 0)) w6b) := Lib.hid (by rw [hw]; exact Mine.make hA _ _)
  have M1x6 := Lib.hid ((hM _ _ M1x5.out).keep hb)
  have M2x6 := Lib.hid ((hM _ _ M2x5.out).keep hb)
  have M3x6 := Lib.hid ((hM _ _ M3x5.out).keep hb)
  have M4x6 := Lib.hid ((hM _ _ M4x5.out).keep hb)
  have M5x6 := Lib.hid ((hM _ _ M5x5.out).keep hb)
  clear M1x5
  clear M2x5
  clear M3x5
  clear M4x5
  clear M5x5
  unfold repC at hw
  have HW6 := Lib.hid hw
  clear hA hM hb hw
  unfold repV
  go_wp2_with fail
  rw [← HW6.out]
  refine (do_alone HA6.out 1 11 0 0 0 0 ⟨#[47, 100]⟩ ⟨#[47, 100, 47, 101]⟩ ⟨#[]⟩ i64_1 i64_0 (by decide) (by decide) (Pz.l6_good.1.mono (by omega)) Pz.l7 rfl).mono ?_
  rintro e w7a ⟨A7, c7, F7, rfl, -, hA, hM⟩
  obtain ⟨q7, hq7⟩ : ∃ q, q = Pz.l7.2 := ⟨_, rfl⟩
  rw [← hq7]
  rw [Pz.l7_rep] at hq7
  have HQ7 := Lib.hid hq7
  clear hq7
  obtain ⟨w7b, hw⟩ : ∃ v, v = w7a.alloc (.cells (repC q7 A7 c7) 36) := ⟨_, rfl⟩
  have hb : Below w7a.heap.size w7a w7b := by rw [hw]; exact (Below.refl _ _).alloc (Nat.le_refl _) _
  have HA7 := Lib.hid (hA.keep hb)
  have M7x7 : Hid (Mine F7 w7a.heap.size (.cells (repC q7 A7 c7) 36 (0, 0)) w7b) := Lib.hid (by rw [hw]; exact Mine.make hA _ _)
  have M1x7 := Lib.hid ((hM _ _ M1x6.out).keep hb)
  have M2x7 := Lib.hid ((hM _ _ M2x6.out).keep hb)
  have M3x7 := Lib.hid ((hM _ _ M3x6.out).keep hb)
  have M4x7 := Lib.hid ((hM _ _ M4x6.out).keep hb)
  have M5x7 := Lib.hid ((hM _ _ M5x6.out).keep hb)
  have M6x7 := Lib.hid ((hM _ _ M6x6.out).keep hb)
  have HB := Lib.hid HA7.out.below
  obtain ⟨e10, e11, _⟩ := M1x7.out.rep
  obtain ⟨e20, _⟩ := M2x7.out.rep
  obtain ⟨_, _, e32, _⟩ := M3x7.out.rep
  obtain ⟨e40, _⟩ := M4x7.out.rep
  obtain ⟨_, _, e52, _⟩ := M5x7.out.rep
  obtain ⟨e60, _⟩ := M6x7.out.rep
  obtain ⟨e70, _⟩ := M7x7.out.rep
  rw [HQ1.out] at e10 e11
  rw [HQ2.out] at e20
  rw [HQ3.out] at e32
  rw [HQ4.out] at e40
  rw [HQ5.out] at e52
  rw [HQ6.out] at e60
  rw [HQ7.out] at e70
  unfold repC at hw
  subst hw
  clear hA hM hb HA7 M1x7 M2x7 M3x7 M4x7 M5x7 M6x7 M7x7
  unfold repV
  simp only [Pz.er, Pz.fdR, Pz.dataR] at e10 e11 e20 e32 e40 e52 e60 e70
  go_wp2
  go_ret
  exact ⟨rfl, HB.out⟩

end Go.Proofs.YtbpejjmfdhkfhaaGreatDoor
