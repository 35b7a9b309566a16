/- Walks: the document's Do, a call after another. -/
import Derived.Test.YtbpejjmfdhkfhaaGreatDoorPosRefL
import Derived.Test.YtbpejjmfdhkfhaaGreatDoorPosRefO
import Derived.Test.YtbpejjmfdhkfhaaGreatDoorPosRefP
import Derived.Test.YtbpejjmfdhkfhaaGreatDoorPosRefR
import Derived.Test.YtbpejjmfdhkfhaaGreatDoorPosRefT
set_option linter.unusedVariables false
set_option linter.unusedSimpArgs false
namespace Go.Proofs.YtbpejjmfdhkfhaaGreatDoor
open Go.RowKit

set_option maxHeartbeats 4000000 in
set_option maxRecDepth 8192 in
theorem rdo_1 (r : Nat) (S : Pz.Fil) (cl : Int) (flags fd off n : Int) (p p2 data : ByteArray) (w : World) (F : Nat → Prop) (hc1 : 1 ≤ cl) (hc2 : cl ≤ 8) (R : Pz.Fil × Pz.Rep) (hX : ∀ W G, RefF r S W G → Calls Tryz.prog 33 #[.pointer (some ⟨r, 0, none⟩), .int .i64 cl, callV 1 p p2 flags fd off n data] W (Does (RefF r) R W G)) (hR : RefF r S w F) :
    Calls Tryz.prog 9 #[.pointer (some ⟨r, 0, none⟩), .int .i64 cl, callV 1 p p2 flags fd off n data] w (Does (RefF r) R w F) := by
  have FX := Lib.hid (Fx.start (RefF.held r S) hR #[.int .i64 1, .string p, .string p2, .int .i64 flags, .int .i64 fd, .int .i64 off, .int .i64 n, .string data])
  clear hR
  obtain ⟨S1, e0, e1, e2, e3, e4, e5, e6⟩ := R
  have HX := Lib.hid hX
  clear hX
  unfold callV at HX ⊢
  go_enter Tryz.func9, Tryz.ntmps9
  go_wp2_with fail
  refine (HX.out _ _ FX.out.inv).mono ?_
  rintro e wz ⟨A, cn, rfl, hS, hi, ho⟩
  have FXz := Lib.hid (FX.out.write (RefF.held _ _) hi ho)
  have HSz := Lib.hid (hS.low (B' := w.heap.size + 2) (by first | (simp; done) | (simp; omega) | exact FX.out.st.size))
  clear hS hi ho
  unfold repV
  have fxe := FXz.out
  obtain ⟨c0, c1, c2, c3, c4, c5, c6, hf7⟩ := cells7 fxe.res
  have f0 := hf7 0
  have f1 := hf7 1
  have f2 := hf7 2
  have f3 := hf7 3
  have f4 := hf7 4
  have f5 := hf7 5
  have f6 := hf7 6
  have HG := Lib.hid fxe
  clear hf7 fxe
  go_wp2
  try simp only [Exit.inBlock, Exit.then]
  refine bodyPost_ret (results_cell_row rfl _ _ (w.heap.size + 1) _ _ _ _ rfl (row7 HG.out.res _ _ _ _ _ _ _) Tryz.underlying36 rfl Tryz.infoR) rfl ?_
  exact HG.out.done (RefF.held r) (⟨e0, e1, e2, e3, e4, e5, e6⟩) A cn HSz.out _ _ _ _ _ _ _

set_option maxHeartbeats 4000000 in
set_option maxRecDepth 8192 in
theorem rdo_8 (r : Nat) (S : Pz.Fil) (cl : Int) (flags fd off n : Int) (p p2 data : ByteArray) (w : World) (F : Nat → Prop) (hc1 : 1 ≤ cl) (hc2 : cl ≤ 8) (R : Pz.Fil × Pz.Rep) (hX : ∀ W G, RefF r S W G → Calls Tryz.prog 40 #[.pointer (some ⟨r, 0, none⟩), callV 8 p p2 flags fd off n data] W (Does (RefF r) R W G)) (hR : RefF r S w F) :
    Calls Tryz.prog 9 #[.pointer (some ⟨r, 0, none⟩), .int .i64 cl, callV 8 p p2 flags fd off n data] w (Does (RefF r) R w F) := by
  have FX := Lib.hid (Fx.start (RefF.held r S) hR #[.int .i64 8, .string p, .string p2, .int .i64 flags, .int .i64 fd, .int .i64 off, .int .i64 n, .string data])
  clear hR
  obtain ⟨S1, e0, e1, e2, e3, e4, e5, e6⟩ := R
  have HX := Lib.hid hX
  clear hX
  unfold callV at HX ⊢
  go_enter Tryz.func9, Tryz.ntmps9
  go_wp2_with fail
  refine (HX.out _ _ FX.out.inv).mono ?_
  rintro e wz ⟨A, cn, rfl, hS, hi, ho⟩
  have FXz := Lib.hid (FX.out.write (RefF.held _ _) hi ho)
  have HSz := Lib.hid (hS.low (B' := w.heap.size + 2) (by first | (simp; done) | (simp; omega) | exact FX.out.st.size))
  clear hS hi ho
  unfold repV
  have fxe := FXz.out
  obtain ⟨c0, c1, c2, c3, c4, c5, c6, hf7⟩ := cells7 fxe.res
  have f0 := hf7 0
  have f1 := hf7 1
  have f2 := hf7 2
  have f3 := hf7 3
  have f4 := hf7 4
  have f5 := hf7 5
  have f6 := hf7 6
  have HG := Lib.hid fxe
  clear hf7 fxe
  go_wp2
  try simp only [Exit.inBlock, Exit.then]
  refine bodyPost_ret (results_cell_row rfl _ _ (w.heap.size + 1) _ _ _ _ rfl (row7 HG.out.res _ _ _ _ _ _ _) Tryz.underlying36 rfl Tryz.infoR) rfl ?_
  exact HG.out.done (RefF.held r) (⟨e0, e1, e2, e3, e4, e5, e6⟩) A cn HSz.out _ _ _ _ _ _ _

set_option maxHeartbeats 4000000 in
set_option maxRecDepth 8192 in
theorem rdo_9 (r : Nat) (S : Pz.Fil) (cl : Int) (flags fd off n : Int) (p p2 data : ByteArray) (w : World) (F : Nat → Prop) (hc1 : 1 ≤ cl) (hc2 : cl ≤ 8) (R : Pz.Fil × Pz.Rep) (hX : ∀ W G, RefF r S W G → Calls Tryz.prog 41 #[.pointer (some ⟨r, 0, none⟩), callV 9 p p2 flags fd off n data] W (Does (RefF r) R W G)) (hR : RefF r S w F) :
    Calls Tryz.prog 9 #[.pointer (some ⟨r, 0, none⟩), .int .i64 cl, callV 9 p p2 flags fd off n data] w (Does (RefF r) R w F) := by
  have FX := Lib.hid (Fx.start (RefF.held r S) hR #[.int .i64 9, .string p, .string p2, .int .i64 flags, .int .i64 fd, .int .i64 off, .int .i64 n, .string data])
  clear hR
  obtain ⟨S1, e0, e1, e2, e3, e4, e5, e6⟩ := R
  have HX := Lib.hid hX
  clear hX
  unfold callV at HX ⊢
  go_enter Tryz.func9, Tryz.ntmps9
  go_wp2_with fail
  refine (HX.out _ _ FX.out.inv).mono ?_
  rintro e wz ⟨A, cn, rfl, hS, hi, ho⟩
  have FXz := Lib.hid (FX.out.write (RefF.held _ _) hi ho)
  have HSz := Lib.hid (hS.low (B' := w.heap.size + 2) (by first | (simp; done) | (simp; omega) | exact FX.out.st.size))
  clear hS hi ho
  unfold repV
  have fxe := FXz.out
  obtain ⟨c0, c1, c2, c3, c4, c5, c6, hf7⟩ := cells7 fxe.res
  have f0 := hf7 0
  have f1 := hf7 1
  have f2 := hf7 2
  have f3 := hf7 3
  have f4 := hf7 4
  have f5 := hf7 5
  have f6 := hf7 6
  have HG := Lib.hid fxe
  clear hf7 fxe
  go_wp2
  try simp only [Exit.inBlock, Exit.then]
  refine bodyPost_ret (results_cell_row rfl _ _ (w.heap.size + 1) _ _ _ _ rfl (row7 HG.out.res _ _ _ _ _ _ _) Tryz.underlying36 rfl Tryz.infoR) rfl ?_
  exact HG.out.done (RefF.held r) (⟨e0, e1, e2, e3, e4, e5, e6⟩) A cn HSz.out _ _ _ _ _ _ _

set_option maxHeartbeats 4000000 in
set_option maxRecDepth 8192 in
theorem rdo_11 (r : Nat) (S : Pz.Fil) (cl : Int) (flags fd off n : Int) (p p2 data : ByteArray) (w : World) (F : Nat → Prop) (hc1 : 1 ≤ cl) (hc2 : cl ≤ 8) (R : Pz.Fil × Pz.Rep) (hX : ∀ W G, RefF r S W G → Calls Tryz.prog 43 #[.pointer (some ⟨r, 0, none⟩), callV 11 p p2 flags fd off n data] W (Does (RefF r) R W G)) (hR : RefF r S w F) :
    Calls Tryz.prog 9 #[.pointer (some ⟨r, 0, none⟩), .int .i64 cl, callV 11 p p2 flags fd off n data] w (Does (RefF r) R w F) := by
  have FX := Lib.hid (Fx.start (RefF.held r S) hR #[.int .i64 11, .string p, .string p2, .int .i64 flags, .int .i64 fd, .int .i64 off, .int .i64 n, .string data])
  clear hR
  obtain ⟨S1, e0, e1, e2, e3, e4, e5, e6⟩ := R
  have HX := Lib.hid hX
  clear hX
  unfold callV at HX ⊢
  go_enter Tryz.func9, Tryz.ntmps9
  go_wp2_with fail
  refine (HX.out _ _ FX.out.inv).mono ?_
  rintro e wz ⟨A, cn, rfl, hS, hi, ho⟩
  have FXz := Lib.hid (FX.out.write (RefF.held _ _) hi ho)
  have HSz := Lib.hid (hS.low (B' := w.heap.size + 2) (by first | (simp; done) | (simp; omega) | exact FX.out.st.size))
  clear hS hi ho
  unfold repV
  have fxe := FXz.out
  obtain ⟨c0, c1, c2, c3, c4, c5, c6, hf7⟩ := cells7 fxe.res
  have f0 := hf7 0
  have f1 := hf7 1
  have f2 := hf7 2
  have f3 := hf7 3
  have f4 := hf7 4
  have f5 := hf7 5
  have f6 := hf7 6
  have HG := Lib.hid fxe
  clear hf7 fxe
  go_wp2
  try simp only [Exit.inBlock, Exit.then]
  refine bodyPost_ret (results_cell_row rfl _ _ (w.heap.size + 1) _ _ _ _ rfl (row7 HG.out.res _ _ _ _ _ _ _) Tryz.underlying36 rfl Tryz.infoR) rfl ?_
  exact HG.out.done (RefF.held r) (⟨e0, e1, e2, e3, e4, e5, e6⟩) A cn HSz.out _ _ _ _ _ _ _

set_option maxHeartbeats 4000000 in
set_option maxRecDepth 8192 in
theorem rdo_12 (r : Nat) (S : Pz.Fil) (cl : Int) (flags fd off n : Int) (p p2 data : ByteArray) (w : World) (F : Nat → Prop) (hc1 : 1 ≤ cl) (hc2 : cl ≤ 8) (R : Pz.Fil × Pz.Rep) (hX : ∀ W G, RefF r S W G → Calls Tryz.prog 44 #[.pointer (some ⟨r, 0, none⟩), callV 12 p p2 flags fd off n data] W (Does (RefF r) R W G)) (hR : RefF r S w F) :
    Calls Tryz.prog 9 #[.pointer (some ⟨r, 0, none⟩), .int .i64 cl, callV 12 p p2 flags fd off n data] w (Does (RefF r) R w F) := by
  have FX := Lib.hid (Fx.start (RefF.held r S) hR #[.int .i64 12, .string p, .string p2, .int .i64 flags, .int .i64 fd, .int .i64 off, .int .i64 n, .string data])
  clear hR
  obtain ⟨S1, e0, e1, e2, e3, e4, e5, e6⟩ := R
  have HX := Lib.hid hX
  clear hX
  unfold callV at HX ⊢
  go_enter Tryz.func9, Tryz.ntmps9
  go_wp2_with fail
  refine (HX.out _ _ FX.out.inv).mono ?_
  rintro e wz ⟨A, cn, rfl, hS, hi, ho⟩
  have FXz := Lib.hid (FX.out.write (RefF.held _ _) hi ho)
  have HSz := Lib.hid (hS.low (B' := w.heap.size + 2) (by first | (simp; done) | (simp; omega) | exact FX.out.st.size))
  clear hS hi ho
  unfold repV
  have fxe := FXz.out
  obtain ⟨c0, c1, c2, c3, c4, c5, c6, hf7⟩ := cells7 fxe.res
  have f0 := hf7 0
  have f1 := hf7 1
  have f2 := hf7 2
  have f3 := hf7 3
  have f4 := hf7 4
  have f5 := hf7 5
  have f6 := hf7 6
  have HG := Lib.hid fxe
  clear hf7 fxe
  go_wp2
  try simp only [Exit.inBlock, Exit.then]
  refine bodyPost_ret (results_cell_row rfl _ _ (w.heap.size + 1) _ _ _ _ rfl (row7 HG.out.res _ _ _ _ _ _ _) Tryz.underlying36 rfl Tryz.infoR) rfl ?_
  exact HG.out.done (RefF.held r) (⟨e0, e1, e2, e3, e4, e5, e6⟩) A cn HSz.out _ _ _ _ _ _ _

set_option maxHeartbeats 4000000 in
set_option maxRecDepth 8192 in
theorem rdo_13 (r : Nat) (S : Pz.Fil) (cl : Int) (flags fd off n : Int) (p p2 data : ByteArray) (w : World) (F : Nat → Prop) (hc1 : 1 ≤ cl) (hc2 : cl ≤ 8) (R : Pz.Fil × Pz.Rep) (hX : ∀ W G, RefF r S W G → Calls Tryz.prog 44 #[.pointer (some ⟨r, 0, none⟩), callV 13 p p2 flags fd off n data] W (Does (RefF r) R W G)) (hR : RefF r S w F) :
    Calls Tryz.prog 9 #[.pointer (some ⟨r, 0, none⟩), .int .i64 cl, callV 13 p p2 flags fd off n data] w (Does (RefF r) R w F) := by
  have FX := Lib.hid (Fx.start (RefF.held r S) hR #[.int .i64 13, .string p, .string p2, .int .i64 flags, .int .i64 fd, .int .i64 off, .int .i64 n, .string data])
  clear hR
  obtain ⟨S1, e0, e1, e2, e3, e4, e5, e6⟩ := R
  have HX := Lib.hid hX
  clear hX
  unfold callV at HX ⊢
  go_enter Tryz.func9, Tryz.ntmps9
  go_wp2_with fail
  refine (HX.out _ _ FX.out.inv).mono ?_
  rintro e wz ⟨A, cn, rfl, hS, hi, ho⟩
  have FXz := Lib.hid (FX.out.write (RefF.held _ _) hi ho)
  have HSz := Lib.hid (hS.low (B' := w.heap.size + 2) (by first | (simp; done) | (simp; omega) | exact FX.out.st.size))
  clear hS hi ho
  unfold repV
  have fxe := FXz.out
  obtain ⟨c0, c1, c2, c3, c4, c5, c6, hf7⟩ := cells7 fxe.res
  have f0 := hf7 0
  have f1 := hf7 1
  have f2 := hf7 2
  have f3 := hf7 3
  have f4 := hf7 4
  have f5 := hf7 5
  have f6 := hf7 6
  have HG := Lib.hid fxe
  clear hf7 fxe
  go_wp2
  try simp only [Exit.inBlock, Exit.then]
  refine bodyPost_ret (results_cell_row rfl _ _ (w.heap.size + 1) _ _ _ _ rfl (row7 HG.out.res _ _ _ _ _ _ _) Tryz.underlying36 rfl Tryz.infoR) rfl ?_
  exact HG.out.done (RefF.held r) (⟨e0, e1, e2, e3, e4, e5, e6⟩) A cn HSz.out _ _ _ _ _ _ _

set_option maxHeartbeats 4000000 in
set_option maxRecDepth 8192 in
theorem rdo_2 (r : Nat) (S : Pz.Fil) (cl : Int) (flags fd off n : Int) (p p2 data : ByteArray) (w : World) (F : Nat → Prop) (hc1 : 1 ≤ cl) (hc2 : cl ≤ 8) (hG : Pz.Good 1000 S) (R : Pz.Fil × Pz.Rep) (m : Nat) (hm : Pz.ofd S.O cl fd = m) (hX : ∀ W G, RefF r S W G → Calls Tryz.prog 35 #[.pointer (some ⟨r, 0, none⟩), .int .i64 cl, .int .i64 m, callV 2 p p2 flags fd off n data] W (Does (RefF r) R W G)) (hR : RefF r S w F) :
    Calls Tryz.prog 9 #[.pointer (some ⟨r, 0, none⟩), .int .i64 cl, callV 2 p p2 flags fd off n data] w (Does (RefF r) R w F) := by
  have FX := Lib.hid (Fx.start (RefF.held r S) hR #[.int .i64 2, .string p, .string p2, .int .i64 flags, .int .i64 fd, .int .i64 off, .int .i64 n, .string data])
  clear hR
  obtain ⟨S1, e0, e1, e2, e3, e4, e5, e6⟩ := R
  have HX := Lib.hid hX
  have hOl := hG.o
  have ho := fun W G (hR : RefF r S W G) => of_any 0 r S cl fd W (by omega) hR.is
  rw [hm] at ho
  have HO := Lib.hid ho
  clear hX ho hOl hG hm
  unfold callV at HX ⊢
  have hm1 : (0 : Int) ≤ m := by omega
  go_enter Tryz.func9, Tryz.ntmps9
  go_wp2_with fail
  refine (HO.out _ _ FX.out.inv).mono ?_
  rintro e w1 ⟨rfl, hb1⟩
  have FX1 := Lib.hid (FX.out.read ((RefF.held r) _) hb1)
  clear hb1
  obtain ⟨b0, b1, b2, b3, b4, b5, b6, b7⟩ := FX1.out.c8
  go_wp2_with fail
  refine (HX.out _ _ FX1.out.inv).mono ?_
  rintro e wz ⟨A, cn, rfl, hS, hi, ho⟩
  have FXz := Lib.hid (FX1.out.write (RefF.held _ _) hi ho)
  have HSz := Lib.hid (hS.low (B' := w.heap.size + 2) (by first | (simp; done) | (simp; omega) | exact FX1.out.st.size))
  clear hS hi ho
  unfold repV
  have fxe := FXz.out
  obtain ⟨c0, c1, c2, c3, c4, c5, c6, hf7⟩ := cells7 fxe.res
  have f0 := hf7 0
  have f1 := hf7 1
  have f2 := hf7 2
  have f3 := hf7 3
  have f4 := hf7 4
  have f5 := hf7 5
  have f6 := hf7 6
  have HG := Lib.hid fxe
  clear hf7 fxe
  go_wp2
  try simp only [Exit.inBlock, Exit.then]
  refine bodyPost_ret (results_cell_row rfl _ _ (w.heap.size + 1) _ _ _ _ rfl (row7 HG.out.res _ _ _ _ _ _ _) Tryz.underlying36 rfl Tryz.infoR) rfl ?_
  exact HG.out.done (RefF.held r) (⟨e0, e1, e2, e3, e4, e5, e6⟩) A cn HSz.out _ _ _ _ _ _ _

set_option maxHeartbeats 4000000 in
set_option maxRecDepth 8192 in
theorem rdo_2n (r : Nat) (S : Pz.Fil) (cl : Int) (flags fd off n : Int) (p p2 data : ByteArray) (w : World) (F : Nat → Prop) (hc1 : 1 ≤ cl) (hc2 : cl ≤ 8) (hG : Pz.Good 1000 S) (hm : Pz.ofd S.O cl fd < 0) (hR : RefF r S w F) :
    Calls Tryz.prog 9 #[.pointer (some ⟨r, 0, none⟩), .int .i64 cl, callV 2 p p2 flags fd off n data] w (Does (RefF r) (S, Pz.er 16) w F) := by
  have FX := Lib.hid (Fx.start (RefF.held r S) hR #[.int .i64 2, .string p, .string p2, .int .i64 flags, .int .i64 fd, .int .i64 off, .int .i64 n, .string data])
  clear hR
  have HFail := Lib.hid rfails_any
  have hOl := hG.o
  have ho := fun W G (hR : RefF r S W G) => of_any 0 r S cl fd W (by omega) hR.is
  generalize Pz.ofd S.O cl fd = z at ho hm
  have HO := Lib.hid ho
  clear ho hOl hG
  unfold callV
  go_enter Tryz.func9, Tryz.ntmps9
  go_wp2_with fail
  refine (HO.out _ _ FX.out.inv).mono ?_
  rintro e w1 ⟨rfl, hb1⟩
  have FX1 := Lib.hid (FX.out.read ((RefF.held r) _) hb1)
  clear hb1
  obtain ⟨b0, b1, b2, b3, b4, b5, b6, b7⟩ := FX1.out.c8
  go_wp2_with fail
  refine (HFail.out 16 _).mono ?_
  rintro e wf ⟨rfl, hbf⟩
  have FXF := Lib.hid (FX1.out.read ((RefF.held r) _) hbf)
  unfold replyV
  have fxe := FXF.out
  obtain ⟨c0, c1, c2, c3, c4, c5, c6, hf7⟩ := cells7 fxe.res
  have f0 := hf7 0
  have f1 := hf7 1
  have f2 := hf7 2
  have f3 := hf7 3
  have f4 := hf7 4
  have f5 := hf7 5
  have f6 := hf7 6
  have HG := Lib.hid fxe
  clear hf7 fxe
  go_wp2
  try simp only [Exit.inBlock, Exit.then]
  refine bodyPost_ret (results_cell_row rfl _ _ (w.heap.size + 1) _ _ _ _ rfl (row7 HG.out.res _ _ _ _ _ _ _) Tryz.underlying36 rfl Tryz.infoR) rfl ?_
  exact HG.out.done (RefF.held r) (Pz.er 16) none 0 (Or.inl rfl) _ _ _ _ _ _ _

set_option maxHeartbeats 4000000 in
set_option maxRecDepth 8192 in
theorem rdo_3 (r : Nat) (S : Pz.Fil) (cl : Int) (flags fd off n : Int) (p p2 data : ByteArray) (w : World) (F : Nat → Prop) (hc1 : 1 ≤ cl) (hc2 : cl ≤ 8) (hG : Pz.Good 1000 S) (R : Pz.Fil × Pz.Rep) (m : Nat) (hm : Pz.ofd S.O cl fd = m) (hX : ∀ W G, RefF r S W G → Calls Tryz.prog 35 #[.pointer (some ⟨r, 0, none⟩), .int .i64 cl, .int .i64 m, callV 3 p p2 flags fd off n data] W (Does (RefF r) R W G)) (hR : RefF r S w F) :
    Calls Tryz.prog 9 #[.pointer (some ⟨r, 0, none⟩), .int .i64 cl, callV 3 p p2 flags fd off n data] w (Does (RefF r) R w F) := by
  have FX := Lib.hid (Fx.start (RefF.held r S) hR #[.int .i64 3, .string p, .string p2, .int .i64 flags, .int .i64 fd, .int .i64 off, .int .i64 n, .string data])
  clear hR
  obtain ⟨S1, e0, e1, e2, e3, e4, e5, e6⟩ := R
  have HX := Lib.hid hX
  have hOl := hG.o
  have ho := fun W G (hR : RefF r S W G) => of_any 0 r S cl fd W (by omega) hR.is
  rw [hm] at ho
  have HO := Lib.hid ho
  clear hX ho hOl hG hm
  unfold callV at HX ⊢
  have hm1 : (0 : Int) ≤ m := by omega
  go_enter Tryz.func9, Tryz.ntmps9
  go_wp2_with fail
  refine (HO.out _ _ FX.out.inv).mono ?_
  rintro e w1 ⟨rfl, hb1⟩
  have FX1 := Lib.hid (FX.out.read ((RefF.held r) _) hb1)
  clear hb1
  obtain ⟨b0, b1, b2, b3, b4, b5, b6, b7⟩ := FX1.out.c8
  go_wp2_with fail
  refine (HX.out _ _ FX1.out.inv).mono ?_
  rintro e wz ⟨A, cn, rfl, hS, hi, ho⟩
  have FXz := Lib.hid (FX1.out.write (RefF.held _ _) hi ho)
  have HSz := Lib.hid (hS.low (B' := w.heap.size + 2) (by first | (simp; done) | (simp; omega) | exact FX1.out.st.size))
  clear hS hi ho
  unfold repV
  have fxe := FXz.out
  obtain ⟨c0, c1, c2, c3, c4, c5, c6, hf7⟩ := cells7 fxe.res
  have f0 := hf7 0
  have f1 := hf7 1
  have f2 := hf7 2
  have f3 := hf7 3
  have f4 := hf7 4
  have f5 := hf7 5
  have f6 := hf7 6
  have HG := Lib.hid fxe
  clear hf7 fxe
  go_wp2
  try simp only [Exit.inBlock, Exit.then]
  refine bodyPost_ret (results_cell_row rfl _ _ (w.heap.size + 1) _ _ _ _ rfl (row7 HG.out.res _ _ _ _ _ _ _) Tryz.underlying36 rfl Tryz.infoR) rfl ?_
  exact HG.out.done (RefF.held r) (⟨e0, e1, e2, e3, e4, e5, e6⟩) A cn HSz.out _ _ _ _ _ _ _

set_option maxHeartbeats 4000000 in
set_option maxRecDepth 8192 in
theorem rdo_3n (r : Nat) (S : Pz.Fil) (cl : Int) (flags fd off n : Int) (p p2 data : ByteArray) (w : World) (F : Nat → Prop) (hc1 : 1 ≤ cl) (hc2 : cl ≤ 8) (hG : Pz.Good 1000 S) (hm : Pz.ofd S.O cl fd < 0) (hR : RefF r S w F) :
    Calls Tryz.prog 9 #[.pointer (some ⟨r, 0, none⟩), .int .i64 cl, callV 3 p p2 flags fd off n data] w (Does (RefF r) (S, Pz.er 16) w F) := by
  have FX := Lib.hid (Fx.start (RefF.held r S) hR #[.int .i64 3, .string p, .string p2, .int .i64 flags, .int .i64 fd, .int .i64 off, .int .i64 n, .string data])
  clear hR
  have HFail := Lib.hid rfails_any
  have hOl := hG.o
  have ho := fun W G (hR : RefF r S W G) => of_any 0 r S cl fd W (by omega) hR.is
  generalize Pz.ofd S.O cl fd = z at ho hm
  have HO := Lib.hid ho
  clear ho hOl hG
  unfold callV
  go_enter Tryz.func9, Tryz.ntmps9
  go_wp2_with fail
  refine (HO.out _ _ FX.out.inv).mono ?_
  rintro e w1 ⟨rfl, hb1⟩
  have FX1 := Lib.hid (FX.out.read ((RefF.held r) _) hb1)
  clear hb1
  obtain ⟨b0, b1, b2, b3, b4, b5, b6, b7⟩ := FX1.out.c8
  go_wp2_with fail
  refine (HFail.out 16 _).mono ?_
  rintro e wf ⟨rfl, hbf⟩
  have FXF := Lib.hid (FX1.out.read ((RefF.held r) _) hbf)
  unfold replyV
  have fxe := FXF.out
  obtain ⟨c0, c1, c2, c3, c4, c5, c6, hf7⟩ := cells7 fxe.res
  have f0 := hf7 0
  have f1 := hf7 1
  have f2 := hf7 2
  have f3 := hf7 3
  have f4 := hf7 4
  have f5 := hf7 5
  have f6 := hf7 6
  have HG := Lib.hid fxe
  clear hf7 fxe
  go_wp2
  try simp only [Exit.inBlock, Exit.then]
  refine bodyPost_ret (results_cell_row rfl _ _ (w.heap.size + 1) _ _ _ _ rfl (row7 HG.out.res _ _ _ _ _ _ _) Tryz.underlying36 rfl Tryz.infoR) rfl ?_
  exact HG.out.done (RefF.held r) (Pz.er 16) none 0 (Or.inl rfl) _ _ _ _ _ _ _

set_option maxHeartbeats 4000000 in
set_option maxRecDepth 8192 in
theorem rdo_4 (r : Nat) (S : Pz.Fil) (cl : Int) (flags fd off n : Int) (p p2 data : ByteArray) (w : World) (F : Nat → Prop) (hc1 : 1 ≤ cl) (hc2 : cl ≤ 8) (hG : Pz.Good 1000 S) (R : Pz.Fil × Pz.Rep) (m : Nat) (hm : Pz.ofd S.O cl fd = m) (hX : ∀ W G, RefF r S W G → Calls Tryz.prog 35 #[.pointer (some ⟨r, 0, none⟩), .int .i64 cl, .int .i64 m, callV 4 p p2 flags fd off n data] W (Does (RefF r) R W G)) (hR : RefF r S w F) :
    Calls Tryz.prog 9 #[.pointer (some ⟨r, 0, none⟩), .int .i64 cl, callV 4 p p2 flags fd off n data] w (Does (RefF r) R w F) := by
  have FX := Lib.hid (Fx.start (RefF.held r S) hR #[.int .i64 4, .string p, .string p2, .int .i64 flags, .int .i64 fd, .int .i64 off, .int .i64 n, .string data])
  clear hR
  obtain ⟨S1, e0, e1, e2, e3, e4, e5, e6⟩ := R
  have HX := Lib.hid hX
  have hOl := hG.o
  have ho := fun W G (hR : RefF r S W G) => of_any 0 r S cl fd W (by omega) hR.is
  rw [hm] at ho
  have HO := Lib.hid ho
  clear hX ho hOl hG hm
  unfold callV at HX ⊢
  have hm1 : (0 : Int) ≤ m := by omega
  go_enter Tryz.func9, Tryz.ntmps9
  go_wp2_with fail
  refine (HO.out _ _ FX.out.inv).mono ?_
  rintro e w1 ⟨rfl, hb1⟩
  have FX1 := Lib.hid (FX.out.read ((RefF.held r) _) hb1)
  clear hb1
  obtain ⟨b0, b1, b2, b3, b4, b5, b6, b7⟩ := FX1.out.c8
  go_wp2_with fail
  refine (HX.out _ _ FX1.out.inv).mono ?_
  rintro e wz ⟨A, cn, rfl, hS, hi, ho⟩
  have FXz := Lib.hid (FX1.out.write (RefF.held _ _) hi ho)
  have HSz := Lib.hid (hS.low (B' := w.heap.size + 2) (by first | (simp; done) | (simp; omega) | exact FX1.out.st.size))
  clear hS hi ho
  unfold repV
  have fxe := FXz.out
  obtain ⟨c0, c1, c2, c3, c4, c5, c6, hf7⟩ := cells7 fxe.res
  have f0 := hf7 0
  have f1 := hf7 1
  have f2 := hf7 2
  have f3 := hf7 3
  have f4 := hf7 4
  have f5 := hf7 5
  have f6 := hf7 6
  have HG := Lib.hid fxe
  clear hf7 fxe
  go_wp2
  try simp only [Exit.inBlock, Exit.then]
  refine bodyPost_ret (results_cell_row rfl _ _ (w.heap.size + 1) _ _ _ _ rfl (row7 HG.out.res _ _ _ _ _ _ _) Tryz.underlying36 rfl Tryz.infoR) rfl ?_
  exact HG.out.done (RefF.held r) (⟨e0, e1, e2, e3, e4, e5, e6⟩) A cn HSz.out _ _ _ _ _ _ _

set_option maxHeartbeats 4000000 in
set_option maxRecDepth 8192 in
theorem rdo_4n (r : Nat) (S : Pz.Fil) (cl : Int) (flags fd off n : Int) (p p2 data : ByteArray) (w : World) (F : Nat → Prop) (hc1 : 1 ≤ cl) (hc2 : cl ≤ 8) (hG : Pz.Good 1000 S) (hm : Pz.ofd S.O cl fd < 0) (hR : RefF r S w F) :
    Calls Tryz.prog 9 #[.pointer (some ⟨r, 0, none⟩), .int .i64 cl, callV 4 p p2 flags fd off n data] w (Does (RefF r) (S, Pz.er 16) w F) := by
  have FX := Lib.hid (Fx.start (RefF.held r S) hR #[.int .i64 4, .string p, .string p2, .int .i64 flags, .int .i64 fd, .int .i64 off, .int .i64 n, .string data])
  clear hR
  have HFail := Lib.hid rfails_any
  have hOl := hG.o
  have ho := fun W G (hR : RefF r S W G) => of_any 0 r S cl fd W (by omega) hR.is
  generalize Pz.ofd S.O cl fd = z at ho hm
  have HO := Lib.hid ho
  clear ho hOl hG
  unfold callV
  go_enter Tryz.func9, Tryz.ntmps9
  go_wp2_with fail
  refine (HO.out _ _ FX.out.inv).mono ?_
  rintro e w1 ⟨rfl, hb1⟩
  have FX1 := Lib.hid (FX.out.read ((RefF.held r) _) hb1)
  clear hb1
  obtain ⟨b0, b1, b2, b3, b4, b5, b6, b7⟩ := FX1.out.c8
  go_wp2_with fail
  refine (HFail.out 16 _).mono ?_
  rintro e wf ⟨rfl, hbf⟩
  have FXF := Lib.hid (FX1.out.read ((RefF.held r) _) hbf)
  unfold replyV
  have fxe := FXF.out
  obtain ⟨c0, c1, c2, c3, c4, c5, c6, hf7⟩ := cells7 fxe.res
  have f0 := hf7 0
  have f1 := hf7 1
  have f2 := hf7 2
  have f3 := hf7 3
  have f4 := hf7 4
  have f5 := hf7 5
  have f6 := hf7 6
  have HG := Lib.hid fxe
  clear hf7 fxe
  go_wp2
  try simp only [Exit.inBlock, Exit.then]
  refine bodyPost_ret (results_cell_row rfl _ _ (w.heap.size + 1) _ _ _ _ rfl (row7 HG.out.res _ _ _ _ _ _ _) Tryz.underlying36 rfl Tryz.infoR) rfl ?_
  exact HG.out.done (RefF.held r) (Pz.er 16) none 0 (Or.inl rfl) _ _ _ _ _ _ _

set_option maxHeartbeats 4000000 in
set_option maxRecDepth 8192 in
theorem rdo_5 (r : Nat) (S : Pz.Fil) (cl : Int) (flags fd off n : Int) (p p2 data : ByteArray) (w : World) (F : Nat → Prop) (hc1 : 1 ≤ cl) (hc2 : cl ≤ 8) (hG : Pz.Good 1000 S) (R : Pz.Fil × Pz.Rep) (m : Nat) (hm : Pz.ofd S.O cl fd = m) (hX : ∀ W G, RefF r S W G → Calls Tryz.prog 35 #[.pointer (some ⟨r, 0, none⟩), .int .i64 cl, .int .i64 m, callV 5 p p2 flags fd off n data] W (Does (RefF r) R W G)) (hR : RefF r S w F) :
    Calls Tryz.prog 9 #[.pointer (some ⟨r, 0, none⟩), .int .i64 cl, callV 5 p p2 flags fd off n data] w (Does (RefF r) R w F) := by
  have FX := Lib.hid (Fx.start (RefF.held r S) hR #[.int .i64 5, .string p, .string p2, .int .i64 flags, .int .i64 fd, .int .i64 off, .int .i64 n, .string data])
  clear hR
  obtain ⟨S1, e0, e1, e2, e3, e4, e5, e6⟩ := R
  have HX := Lib.hid hX
  have hOl := hG.o
  have ho := fun W G (hR : RefF r S W G) => of_any 0 r S cl fd W (by omega) hR.is
  rw [hm] at ho
  have HO := Lib.hid ho
  clear hX ho hOl hG hm
  unfold callV at HX ⊢
  have hm1 : (0 : Int) ≤ m := by omega
  go_enter Tryz.func9, Tryz.ntmps9
  go_wp2_with fail
  refine (HO.out _ _ FX.out.inv).mono ?_
  rintro e w1 ⟨rfl, hb1⟩
  have FX1 := Lib.hid (FX.out.read ((RefF.held r) _) hb1)
  clear hb1
  obtain ⟨b0, b1, b2, b3, b4, b5, b6, b7⟩ := FX1.out.c8
  go_wp2_with fail
  refine (HX.out _ _ FX1.out.inv).mono ?_
  rintro e wz ⟨A, cn, rfl, hS, hi, ho⟩
  have FXz := Lib.hid (FX1.out.write (RefF.held _ _) hi ho)
  have HSz := Lib.hid (hS.low (B' := w.heap.size + 2) (by first | (simp; done) | (simp; omega) | exact FX1.out.st.size))
  clear hS hi ho
  unfold repV
  have fxe := FXz.out
  obtain ⟨c0, c1, c2, c3, c4, c5, c6, hf7⟩ := cells7 fxe.res
  have f0 := hf7 0
  have f1 := hf7 1
  have f2 := hf7 2
  have f3 := hf7 3
  have f4 := hf7 4
  have f5 := hf7 5
  have f6 := hf7 6
  have HG := Lib.hid fxe
  clear hf7 fxe
  go_wp2
  try simp only [Exit.inBlock, Exit.then]
  refine bodyPost_ret (results_cell_row rfl _ _ (w.heap.size + 1) _ _ _ _ rfl (row7 HG.out.res _ _ _ _ _ _ _) Tryz.underlying36 rfl Tryz.infoR) rfl ?_
  exact HG.out.done (RefF.held r) (⟨e0, e1, e2, e3, e4, e5, e6⟩) A cn HSz.out _ _ _ _ _ _ _

set_option maxHeartbeats 4000000 in
set_option maxRecDepth 8192 in
theorem rdo_5n (r : Nat) (S : Pz.Fil) (cl : Int) (flags fd off n : Int) (p p2 data : ByteArray) (w : World) (F : Nat → Prop) (hc1 : 1 ≤ cl) (hc2 : cl ≤ 8) (hG : Pz.Good 1000 S) (hm : Pz.ofd S.O cl fd < 0) (hR : RefF r S w F) :
    Calls Tryz.prog 9 #[.pointer (some ⟨r, 0, none⟩), .int .i64 cl, callV 5 p p2 flags fd off n data] w (Does (RefF r) (S, Pz.er 16) w F) := by
  have FX := Lib.hid (Fx.start (RefF.held r S) hR #[.int .i64 5, .string p, .string p2, .int .i64 flags, .int .i64 fd, .int .i64 off, .int .i64 n, .string data])
  clear hR
  have HFail := Lib.hid rfails_any
  have hOl := hG.o
  have ho := fun W G (hR : RefF r S W G) => of_any 0 r S cl fd W (by omega) hR.is
  generalize Pz.ofd S.O cl fd = z at ho hm
  have HO := Lib.hid ho
  clear ho hOl hG
  unfold callV
  go_enter Tryz.func9, Tryz.ntmps9
  go_wp2_with fail
  refine (HO.out _ _ FX.out.inv).mono ?_
  rintro e w1 ⟨rfl, hb1⟩
  have FX1 := Lib.hid (FX.out.read ((RefF.held r) _) hb1)
  clear hb1
  obtain ⟨b0, b1, b2, b3, b4, b5, b6, b7⟩ := FX1.out.c8
  go_wp2_with fail
  refine (HFail.out 16 _).mono ?_
  rintro e wf ⟨rfl, hbf⟩
  have FXF := Lib.hid (FX1.out.read ((RefF.held r) _) hbf)
  unfold replyV
  have fxe := FXF.out
  obtain ⟨c0, c1, c2, c3, c4, c5, c6, hf7⟩ := cells7 fxe.res
  have f0 := hf7 0
  have f1 := hf7 1
  have f2 := hf7 2
  have f3 := hf7 3
  have f4 := hf7 4
  have f5 := hf7 5
  have f6 := hf7 6
  have HG := Lib.hid fxe
  clear hf7 fxe
  go_wp2
  try simp only [Exit.inBlock, Exit.then]
  refine bodyPost_ret (results_cell_row rfl _ _ (w.heap.size + 1) _ _ _ _ rfl (row7 HG.out.res _ _ _ _ _ _ _) Tryz.underlying36 rfl Tryz.infoR) rfl ?_
  exact HG.out.done (RefF.held r) (Pz.er 16) none 0 (Or.inl rfl) _ _ _ _ _ _ _

set_option maxHeartbeats 4000000 in
set_option maxRecDepth 8192 in
theorem rdo_6 (r : Nat) (S : Pz.Fil) (cl : Int) (flags fd off n : Int) (p p2 data : ByteArray) (w : World) (F : Nat → Prop) (hc1 : 1 ≤ cl) (hc2 : cl ≤ 8) (hG : Pz.Good 1000 S) (R : Pz.Fil × Pz.Rep) (m : Nat) (hm : Pz.ofd S.O cl fd = m) (hX : ∀ W G, RefF r S W G → Calls Tryz.prog 35 #[.pointer (some ⟨r, 0, none⟩), .int .i64 cl, .int .i64 m, callV 6 p p2 flags fd off n data] W (Does (RefF r) R W G)) (hR : RefF r S w F) :
    Calls Tryz.prog 9 #[.pointer (some ⟨r, 0, none⟩), .int .i64 cl, callV 6 p p2 flags fd off n data] w (Does (RefF r) R w F) := by
  have FX := Lib.hid (Fx.start (RefF.held r S) hR #[.int .i64 6, .string p, .string p2, .int .i64 flags, .int .i64 fd, .int .i64 off, .int .i64 n, .string data])
  clear hR
  obtain ⟨S1, e0, e1, e2, e3, e4, e5, e6⟩ := R
  have HX := Lib.hid hX
  have hOl := hG.o
  have ho := fun W G (hR : RefF r S W G) => of_any 0 r S cl fd W (by omega) hR.is
  rw [hm] at ho
  have HO := Lib.hid ho
  clear hX ho hOl hG hm
  unfold callV at HX ⊢
  have hm1 : (0 : Int) ≤ m := by omega
  go_enter Tryz.func9, Tryz.ntmps9
  go_wp2_with fail
  refine (HO.out _ _ FX.out.inv).mono ?_
  rintro e w1 ⟨rfl, hb1⟩
  have FX1 := Lib.hid (FX.out.read ((RefF.held r) _) hb1)
  clear hb1
  obtain ⟨b0, b1, b2, b3, b4, b5, b6, b7⟩ := FX1.out.c8
  go_wp2_with fail
  refine (HX.out _ _ FX1.out.inv).mono ?_
  rintro e wz ⟨A, cn, rfl, hS, hi, ho⟩
  have FXz := Lib.hid (FX1.out.write (RefF.held _ _) hi ho)
  have HSz := Lib.hid (hS.low (B' := w.heap.size + 2) (by first | (simp; done) | (simp; omega) | exact FX1.out.st.size))
  clear hS hi ho
  unfold repV
  have fxe := FXz.out
  obtain ⟨c0, c1, c2, c3, c4, c5, c6, hf7⟩ := cells7 fxe.res
  have f0 := hf7 0
  have f1 := hf7 1
  have f2 := hf7 2
  have f3 := hf7 3
  have f4 := hf7 4
  have f5 := hf7 5
  have f6 := hf7 6
  have HG := Lib.hid fxe
  clear hf7 fxe
  go_wp2
  try simp only [Exit.inBlock, Exit.then]
  refine bodyPost_ret (results_cell_row rfl _ _ (w.heap.size + 1) _ _ _ _ rfl (row7 HG.out.res _ _ _ _ _ _ _) Tryz.underlying36 rfl Tryz.infoR) rfl ?_
  exact HG.out.done (RefF.held r) (⟨e0, e1, e2, e3, e4, e5, e6⟩) A cn HSz.out _ _ _ _ _ _ _

set_option maxHeartbeats 4000000 in
set_option maxRecDepth 8192 in
theorem rdo_6n (r : Nat) (S : Pz.Fil) (cl : Int) (flags fd off n : Int) (p p2 data : ByteArray) (w : World) (F : Nat → Prop) (hc1 : 1 ≤ cl) (hc2 : cl ≤ 8) (hG : Pz.Good 1000 S) (hm : Pz.ofd S.O cl fd < 0) (hR : RefF r S w F) :
    Calls Tryz.prog 9 #[.pointer (some ⟨r, 0, none⟩), .int .i64 cl, callV 6 p p2 flags fd off n data] w (Does (RefF r) (S, Pz.er 16) w F) := by
  have FX := Lib.hid (Fx.start (RefF.held r S) hR #[.int .i64 6, .string p, .string p2, .int .i64 flags, .int .i64 fd, .int .i64 off, .int .i64 n, .string data])
  clear hR
  have HFail := Lib.hid rfails_any
  have hOl := hG.o
  have ho := fun W G (hR : RefF r S W G) => of_any 0 r S cl fd W (by omega) hR.is
  generalize Pz.ofd S.O cl fd = z at ho hm
  have HO := Lib.hid ho
  clear ho hOl hG
  unfold callV
  go_enter Tryz.func9, Tryz.ntmps9
  go_wp2_with fail
  refine (HO.out _ _ FX.out.inv).mono ?_
  rintro e w1 ⟨rfl, hb1⟩
  have FX1 := Lib.hid (FX.out.read ((RefF.held r) _) hb1)
  clear hb1
  obtain ⟨b0, b1, b2, b3, b4, b5, b6, b7⟩ := FX1.out.c8
  go_wp2_with fail
  refine (HFail.out 16 _).mono ?_
  rintro e wf ⟨rfl, hbf⟩
  have FXF := Lib.hid (FX1.out.read ((RefF.held r) _) hbf)
  unfold replyV
  have fxe := FXF.out
  obtain ⟨c0, c1, c2, c3, c4, c5, c6, hf7⟩ := cells7 fxe.res
  have f0 := hf7 0
  have f1 := hf7 1
  have f2 := hf7 2
  have f3 := hf7 3
  have f4 := hf7 4
  have f5 := hf7 5
  have f6 := hf7 6
  have HG := Lib.hid fxe
  clear hf7 fxe
  go_wp2
  try simp only [Exit.inBlock, Exit.then]
  refine bodyPost_ret (results_cell_row rfl _ _ (w.heap.size + 1) _ _ _ _ rfl (row7 HG.out.res _ _ _ _ _ _ _) Tryz.underlying36 rfl Tryz.infoR) rfl ?_
  exact HG.out.done (RefF.held r) (Pz.er 16) none 0 (Or.inl rfl) _ _ _ _ _ _ _

end Go.Proofs.YtbpejjmfdhkfhaaGreatDoor
