/- Walks: the program's Do. -/
import Derived.Test.YtbpejjmfdhkfhaaGreatDoorPosRealL
import Derived.Test.YtbpejjmfdhkfhaaGreatDoorPosRealO
import Derived.Test.YtbpejjmfdhkfhaaGreatDoorPosRealT
set_option linter.unusedVariables false
set_option linter.unusedSimpArgs false

namespace Go.Proofs.YtbpejjmfdhkfhaaGreatDoor
open Go.RowKit

set_option maxHeartbeats 1000000 in
set_option maxRecDepth 8192 in
theorem finvalid_any [Inhabited XBox] (r : Nat) (S : Pz.Fil) (kind flags fd off n : Int) (p p2 data : ByteArray) (w : World) (F : Nat → Prop) (hR : RealF r S w F) :
    Calls Tryz.prog 25 #[.pointer (some ⟨r, 0, none⟩), callV kind p p2 flags fd off n data] w (Does (RealF r) (S, Pz.er 15) w F) := by
  have HFail := Lib.hid ffails_any
  have FX := Lib.hid (Fx.start (RealF.held r S) hR #[.int .i64 kind, .string p, .string p2, .int .i64 flags, .int .i64 fd, .int .i64 off, .int .i64 n, .string data])
  clear hR
  unfold callV
  go_enter Tryz.func25, Tryz.ntmps25
  go_wp2_with fail
  refine (HFail.out 15 _).mono ?_
  rintro e wf ⟨rfl, hbf⟩
  have FXF := Lib.hid (FX.out.read ((RealF.held r) _) hbf)
  unfold replyV
  have fxe := FXF.out
  obtain ⟨c0, c1, c2, c3, c4, c5, c6, hf7⟩ := cells7 fxe.res
  have f0 := hf7 0
  have f1 := hf7 1
  have f2 := hf7 2
  have f3 := hf7 3
  have f4 := hf7 4
  have f5 := hf7 5
  have f6 := hf7 6
  have HG := Lib.hid fxe
  clear hf7 fxe
  go_wp2
  try simp only [Exit.inBlock, Exit.then]
  refine bodyPost_ret (results_cell_row rfl _ _ (w.heap.size + 1) _ _ _ _ rfl (row7 HG.out.res _ _ _ _ _ _ _) Tryz.underlying36 rfl Tryz.infoR) rfl ?_
  exact HG.out.done (RealF.held r) (Pz.er 15) none 0 (Or.inl rfl) _ _ _ _ _ _ _

set_option maxHeartbeats 4000000 in
set_option maxRecDepth 8192 in
theorem fdo_bad [Inhabited XBox] (r : Nat) (S : Pz.Fil) (cl : Int) (kind : Int) (flags fd off n : Int) (p p2 data : ByteArray) (w : World) (F : Nat → Prop) (hc : cl < 1 ∨ 8 < cl) (hR : RealF r S w F) :
    Calls Tryz.prog 7 #[.pointer (some ⟨r, 0, none⟩), .int .i64 cl, callV kind p p2 flags fd off n data] w (Does (RealF r) (S, Pz.er 1) w F) := by
  have HIs := Lib.hid (fis_any cl)
  have FX := Lib.hid (Fx.start (RealF.held r S) hR #[.int .i64 kind, .string p, .string p2, .int .i64 flags, .int .i64 fd, .int .i64 off, .int .i64 n, .string data])
  clear hR
  have HFail := Lib.hid ffails_any
  rw [decide_eq_false (by omega)] at HIs
  unfold callV
  clear hc
  go_enter Tryz.func7, Tryz.ntmps7
  go_wp2_with fail
  refine (HIs.out _).mono ?_
  rintro e w1 ⟨rfl, hb1⟩
  have FX1 := Lib.hid (FX.out.read ((RealF.held r) _) hb1)
  clear hb1
  go_wp2_with fail
  refine (HFail.out 1 _).mono ?_
  rintro e wf ⟨rfl, hbf⟩
  have FXF := Lib.hid (FX1.out.read ((RealF.held r) _) hbf)
  unfold replyV
  have fxe := FXF.out
  obtain ⟨c0, c1, c2, c3, c4, c5, c6, hf7⟩ := cells7 fxe.res
  have f0 := hf7 0
  have f1 := hf7 1
  have f2 := hf7 2
  have f3 := hf7 3
  have f4 := hf7 4
  have f5 := hf7 5
  have f6 := hf7 6
  have HG := Lib.hid fxe
  clear hf7 fxe
  go_wp2
  try simp only [Exit.inBlock, Exit.then]
  refine bodyPost_ret (results_cell_row rfl _ _ (w.heap.size + 1) _ _ _ _ rfl (row7 HG.out.res _ _ _ _ _ _ _) Tryz.underlying36 rfl Tryz.infoR) rfl ?_
  exact HG.out.done (RealF.held r) (Pz.er 1) none 0 (Or.inl rfl) _ _ _ _ _ _ _

set_option maxHeartbeats 4000000 in
set_option maxRecDepth 8192 in
theorem fdo_1 [Inhabited XBox] (r : Nat) (S : Pz.Fil) (cl : Int) (flags fd off n : Int) (p p2 data : ByteArray) (w : World) (F : Nat → Prop) (hc1 : 1 ≤ cl) (hc2 : cl ≤ 8) (R : Pz.Fil × Pz.Rep) (hX : ∀ W G, RealF r S W G → Calls Tryz.prog 23 #[.pointer (some ⟨r, 0, none⟩), .int .i64 cl, callV 1 p p2 flags fd off n data] W (Does (RealF r) R W G)) (hR : RealF r S w F) :
    Calls Tryz.prog 7 #[.pointer (some ⟨r, 0, none⟩), .int .i64 cl, callV 1 p p2 flags fd off n data] w (Does (RealF r) R w F) := by
  have HIs := Lib.hid (fis_any cl)
  have FX := Lib.hid (Fx.start (RealF.held r S) hR #[.int .i64 1, .string p, .string p2, .int .i64 flags, .int .i64 fd, .int .i64 off, .int .i64 n, .string data])
  clear hR
  obtain ⟨S1, e0, e1, e2, e3, e4, e5, e6⟩ := R
  have HX := Lib.hid hX
  rw [decide_eq_true (And.intro hc1 hc2)] at HIs
  clear hX
  unfold callV at HX ⊢
  go_enter Tryz.func7, Tryz.ntmps7
  go_wp2_with fail
  refine (HIs.out _).mono ?_
  rintro e w1 ⟨rfl, hb1⟩
  have FX1 := Lib.hid (FX.out.read ((RealF.held r) _) hb1)
  clear hb1
  obtain ⟨b0, b1, b2, b3, b4, b5, b6, b7⟩ := FX1.out.c8
  go_wp2_with fail
  refine (HX.out _ _ FX1.out.inv).mono ?_
  rintro e wz ⟨A, cn, rfl, hS, hi, ho⟩
  have FXz := Lib.hid (FX1.out.write (RealF.held _ _) hi ho)
  have HSz := Lib.hid (hS.low (B' := w.heap.size + 2) FX1.out.st.size)
  clear hS hi ho
  unfold repV
  have fxe := FXz.out
  obtain ⟨c0, c1, c2, c3, c4, c5, c6, hf7⟩ := cells7 fxe.res
  have f0 := hf7 0
  have f1 := hf7 1
  have f2 := hf7 2
  have f3 := hf7 3
  have f4 := hf7 4
  have f5 := hf7 5
  have f6 := hf7 6
  have HG := Lib.hid fxe
  clear hf7 fxe
  go_wp2
  try simp only [Exit.inBlock, Exit.then]
  refine bodyPost_ret (results_cell_row rfl _ _ (w.heap.size + 1) _ _ _ _ rfl (row7 HG.out.res _ _ _ _ _ _ _) Tryz.underlying36 rfl Tryz.infoR) rfl ?_
  exact HG.out.done (RealF.held r) (⟨e0, e1, e2, e3, e4, e5, e6⟩) A cn HSz.out _ _ _ _ _ _ _

set_option maxHeartbeats 4000000 in
set_option maxRecDepth 8192 in
theorem fdo_7 [Inhabited XBox] (r : Nat) (S : Pz.Fil) (cl : Int) (flags fd off n : Int) (p p2 data : ByteArray) (w : World) (F : Nat → Prop) (hc1 : 1 ≤ cl) (hc2 : cl ≤ 8) (R : Pz.Fil × Pz.Rep) (hX : ∀ W G, RealF r S W G → Calls Tryz.prog 26 #[.pointer (some ⟨r, 0, none⟩), callV 7 p p2 flags fd off n data] W (Does (RealF r) R W G)) (hR : RealF r S w F) :
    Calls Tryz.prog 7 #[.pointer (some ⟨r, 0, none⟩), .int .i64 cl, callV 7 p p2 flags fd off n data] w (Does (RealF r) R w F) := by
  have HIs := Lib.hid (fis_any cl)
  have FX := Lib.hid (Fx.start (RealF.held r S) hR #[.int .i64 7, .string p, .string p2, .int .i64 flags, .int .i64 fd, .int .i64 off, .int .i64 n, .string data])
  clear hR
  obtain ⟨S1, e0, e1, e2, e3, e4, e5, e6⟩ := R
  have HX := Lib.hid hX
  rw [decide_eq_true (And.intro hc1 hc2)] at HIs
  clear hX
  unfold callV at HX ⊢
  go_enter Tryz.func7, Tryz.ntmps7
  go_wp2_with fail
  refine (HIs.out _).mono ?_
  rintro e w1 ⟨rfl, hb1⟩
  have FX1 := Lib.hid (FX.out.read ((RealF.held r) _) hb1)
  clear hb1
  obtain ⟨b0, b1, b2, b3, b4, b5, b6, b7⟩ := FX1.out.c8
  go_wp2_with fail
  refine (HX.out _ _ FX1.out.inv).mono ?_
  rintro e wz ⟨A, cn, rfl, hS, hi, ho⟩
  have FXz := Lib.hid (FX1.out.write (RealF.held _ _) hi ho)
  have HSz := Lib.hid (hS.low (B' := w.heap.size + 2) FX1.out.st.size)
  clear hS hi ho
  unfold repV
  have fxe := FXz.out
  obtain ⟨c0, c1, c2, c3, c4, c5, c6, hf7⟩ := cells7 fxe.res
  have f0 := hf7 0
  have f1 := hf7 1
  have f2 := hf7 2
  have f3 := hf7 3
  have f4 := hf7 4
  have f5 := hf7 5
  have f6 := hf7 6
  have HG := Lib.hid fxe
  clear hf7 fxe
  go_wp2
  try simp only [Exit.inBlock, Exit.then]
  refine bodyPost_ret (results_cell_row rfl _ _ (w.heap.size + 1) _ _ _ _ rfl (row7 HG.out.res _ _ _ _ _ _ _) Tryz.underlying36 rfl Tryz.infoR) rfl ?_
  exact HG.out.done (RealF.held r) (⟨e0, e1, e2, e3, e4, e5, e6⟩) A cn HSz.out _ _ _ _ _ _ _

set_option maxHeartbeats 4000000 in
set_option maxRecDepth 8192 in
theorem fdo_8 [Inhabited XBox] (r : Nat) (S : Pz.Fil) (cl : Int) (flags fd off n : Int) (p p2 data : ByteArray) (w : World) (F : Nat → Prop) (hc1 : 1 ≤ cl) (hc2 : cl ≤ 8) (R : Pz.Fil × Pz.Rep) (hX : ∀ W G, RealF r S W G → Calls Tryz.prog 27 #[.pointer (some ⟨r, 0, none⟩), callV 8 p p2 flags fd off n data] W (Does (RealF r) R W G)) (hR : RealF r S w F) :
    Calls Tryz.prog 7 #[.pointer (some ⟨r, 0, none⟩), .int .i64 cl, callV 8 p p2 flags fd off n data] w (Does (RealF r) R w F) := by
  have HIs := Lib.hid (fis_any cl)
  have FX := Lib.hid (Fx.start (RealF.held r S) hR #[.int .i64 8, .string p, .string p2, .int .i64 flags, .int .i64 fd, .int .i64 off, .int .i64 n, .string data])
  clear hR
  obtain ⟨S1, e0, e1, e2, e3, e4, e5, e6⟩ := R
  have HX := Lib.hid hX
  rw [decide_eq_true (And.intro hc1 hc2)] at HIs
  clear hX
  unfold callV at HX ⊢
  go_enter Tryz.func7, Tryz.ntmps7
  go_wp2_with fail
  refine (HIs.out _).mono ?_
  rintro e w1 ⟨rfl, hb1⟩
  have FX1 := Lib.hid (FX.out.read ((RealF.held r) _) hb1)
  clear hb1
  obtain ⟨b0, b1, b2, b3, b4, b5, b6, b7⟩ := FX1.out.c8
  go_wp2_with fail
  refine (HX.out _ _ FX1.out.inv).mono ?_
  rintro e wz ⟨A, cn, rfl, hS, hi, ho⟩
  have FXz := Lib.hid (FX1.out.write (RealF.held _ _) hi ho)
  have HSz := Lib.hid (hS.low (B' := w.heap.size + 2) FX1.out.st.size)
  clear hS hi ho
  unfold repV
  have fxe := FXz.out
  obtain ⟨c0, c1, c2, c3, c4, c5, c6, hf7⟩ := cells7 fxe.res
  have f0 := hf7 0
  have f1 := hf7 1
  have f2 := hf7 2
  have f3 := hf7 3
  have f4 := hf7 4
  have f5 := hf7 5
  have f6 := hf7 6
  have HG := Lib.hid fxe
  clear hf7 fxe
  go_wp2
  try simp only [Exit.inBlock, Exit.then]
  refine bodyPost_ret (results_cell_row rfl _ _ (w.heap.size + 1) _ _ _ _ rfl (row7 HG.out.res _ _ _ _ _ _ _) Tryz.underlying36 rfl Tryz.infoR) rfl ?_
  exact HG.out.done (RealF.held r) (⟨e0, e1, e2, e3, e4, e5, e6⟩) A cn HSz.out _ _ _ _ _ _ _

set_option maxHeartbeats 4000000 in
set_option maxRecDepth 8192 in
theorem fdo_9 [Inhabited XBox] (r : Nat) (S : Pz.Fil) (cl : Int) (flags fd off n : Int) (p p2 data : ByteArray) (w : World) (F : Nat → Prop) (hc1 : 1 ≤ cl) (hc2 : cl ≤ 8) (R : Pz.Fil × Pz.Rep) (hX : ∀ W G, RealF r S W G → Calls Tryz.prog 28 #[.pointer (some ⟨r, 0, none⟩), callV 9 p p2 flags fd off n data] W (Does (RealF r) R W G)) (hR : RealF r S w F) :
    Calls Tryz.prog 7 #[.pointer (some ⟨r, 0, none⟩), .int .i64 cl, callV 9 p p2 flags fd off n data] w (Does (RealF r) R w F) := by
  have HIs := Lib.hid (fis_any cl)
  have FX := Lib.hid (Fx.start (RealF.held r S) hR #[.int .i64 9, .string p, .string p2, .int .i64 flags, .int .i64 fd, .int .i64 off, .int .i64 n, .string data])
  clear hR
  obtain ⟨S1, e0, e1, e2, e3, e4, e5, e6⟩ := R
  have HX := Lib.hid hX
  rw [decide_eq_true (And.intro hc1 hc2)] at HIs
  clear hX
  unfold callV at HX ⊢
  go_enter Tryz.func7, Tryz.ntmps7
  go_wp2_with fail
  refine (HIs.out _).mono ?_
  rintro e w1 ⟨rfl, hb1⟩
  have FX1 := Lib.hid (FX.out.read ((RealF.held r) _) hb1)
  clear hb1
  obtain ⟨b0, b1, b2, b3, b4, b5, b6, b7⟩ := FX1.out.c8
  go_wp2_with fail
  refine (HX.out _ _ FX1.out.inv).mono ?_
  rintro e wz ⟨A, cn, rfl, hS, hi, ho⟩
  have FXz := Lib.hid (FX1.out.write (RealF.held _ _) hi ho)
  have HSz := Lib.hid (hS.low (B' := w.heap.size + 2) FX1.out.st.size)
  clear hS hi ho
  unfold repV
  have fxe := FXz.out
  obtain ⟨c0, c1, c2, c3, c4, c5, c6, hf7⟩ := cells7 fxe.res
  have f0 := hf7 0
  have f1 := hf7 1
  have f2 := hf7 2
  have f3 := hf7 3
  have f4 := hf7 4
  have f5 := hf7 5
  have f6 := hf7 6
  have HG := Lib.hid fxe
  clear hf7 fxe
  go_wp2
  try simp only [Exit.inBlock, Exit.then]
  refine bodyPost_ret (results_cell_row rfl _ _ (w.heap.size + 1) _ _ _ _ rfl (row7 HG.out.res _ _ _ _ _ _ _) Tryz.underlying36 rfl Tryz.infoR) rfl ?_
  exact HG.out.done (RealF.held r) (⟨e0, e1, e2, e3, e4, e5, e6⟩) A cn HSz.out _ _ _ _ _ _ _

set_option maxHeartbeats 4000000 in
set_option maxRecDepth 8192 in
theorem fdo_10 [Inhabited XBox] (r : Nat) (S : Pz.Fil) (cl : Int) (flags fd off n : Int) (p p2 data : ByteArray) (w : World) (F : Nat → Prop) (hc1 : 1 ≤ cl) (hc2 : cl ≤ 8) (R : Pz.Fil × Pz.Rep) (hX : ∀ W G, RealF r S W G → Calls Tryz.prog 29 #[.pointer (some ⟨r, 0, none⟩), callV 10 p p2 flags fd off n data] W (Does (RealF r) R W G)) (hR : RealF r S w F) :
    Calls Tryz.prog 7 #[.pointer (some ⟨r, 0, none⟩), .int .i64 cl, callV 10 p p2 flags fd off n data] w (Does (RealF r) R w F) := by
  have HIs := Lib.hid (fis_any cl)
  have FX := Lib.hid (Fx.start (RealF.held r S) hR #[.int .i64 10, .string p, .string p2, .int .i64 flags, .int .i64 fd, .int .i64 off, .int .i64 n, .string data])
  clear hR
  obtain ⟨S1, e0, e1, e2, e3, e4, e5, e6⟩ := R
  have HX := Lib.hid hX
  rw [decide_eq_true (And.intro hc1 hc2)] at HIs
  clear hX
  unfold callV at HX ⊢
  go_enter Tryz.func7, Tryz.ntmps7
  go_wp2_with fail
  refine (HIs.out _).mono ?_
  rintro e w1 ⟨rfl, hb1⟩
  have FX1 := Lib.hid (FX.out.read ((RealF.held r) _) hb1)
  clear hb1
  obtain ⟨b0, b1, b2, b3, b4, b5, b6, b7⟩ := FX1.out.c8
  go_wp2_with fail
  refine (HX.out _ _ FX1.out.inv).mono ?_
  rintro e wz ⟨A, cn, rfl, hS, hi, ho⟩
  have FXz := Lib.hid (FX1.out.write (RealF.held _ _) hi ho)
  have HSz := Lib.hid (hS.low (B' := w.heap.size + 2) FX1.out.st.size)
  clear hS hi ho
  unfold repV
  have fxe := FXz.out
  obtain ⟨c0, c1, c2, c3, c4, c5, c6, hf7⟩ := cells7 fxe.res
  have f0 := hf7 0
  have f1 := hf7 1
  have f2 := hf7 2
  have f3 := hf7 3
  have f4 := hf7 4
  have f5 := hf7 5
  have f6 := hf7 6
  have HG := Lib.hid fxe
  clear hf7 fxe
  go_wp2
  try simp only [Exit.inBlock, Exit.then]
  refine bodyPost_ret (results_cell_row rfl _ _ (w.heap.size + 1) _ _ _ _ rfl (row7 HG.out.res _ _ _ _ _ _ _) Tryz.underlying36 rfl Tryz.infoR) rfl ?_
  exact HG.out.done (RealF.held r) (⟨e0, e1, e2, e3, e4, e5, e6⟩) A cn HSz.out _ _ _ _ _ _ _

set_option maxHeartbeats 4000000 in
set_option maxRecDepth 8192 in
theorem fdo_11 [Inhabited XBox] (r : Nat) (S : Pz.Fil) (cl : Int) (flags fd off n : Int) (p p2 data : ByteArray) (w : World) (F : Nat → Prop) (hc1 : 1 ≤ cl) (hc2 : cl ≤ 8) (R : Pz.Fil × Pz.Rep) (hX : ∀ W G, RealF r S W G → Calls Tryz.prog 30 #[.pointer (some ⟨r, 0, none⟩), callV 11 p p2 flags fd off n data] W (Does (RealF r) R W G)) (hR : RealF r S w F) :
    Calls Tryz.prog 7 #[.pointer (some ⟨r, 0, none⟩), .int .i64 cl, callV 11 p p2 flags fd off n data] w (Does (RealF r) R w F) := by
  have HIs := Lib.hid (fis_any cl)
  have FX := Lib.hid (Fx.start (RealF.held r S) hR #[.int .i64 11, .string p, .string p2, .int .i64 flags, .int .i64 fd, .int .i64 off, .int .i64 n, .string data])
  clear hR
  obtain ⟨S1, e0, e1, e2, e3, e4, e5, e6⟩ := R
  have HX := Lib.hid hX
  rw [decide_eq_true (And.intro hc1 hc2)] at HIs
  clear hX
  unfold callV at HX ⊢
  go_enter Tryz.func7, Tryz.ntmps7
  go_wp2_with fail
  refine (HIs.out _).mono ?_
  rintro e w1 ⟨rfl, hb1⟩
  have FX1 := Lib.hid (FX.out.read ((RealF.held r) _) hb1)
  clear hb1
  obtain ⟨b0, b1, b2, b3, b4, b5, b6, b7⟩ := FX1.out.c8
  go_wp2_with fail
  refine (HX.out _ _ FX1.out.inv).mono ?_
  rintro e wz ⟨A, cn, rfl, hS, hi, ho⟩
  have FXz := Lib.hid (FX1.out.write (RealF.held _ _) hi ho)
  have HSz := Lib.hid (hS.low (B' := w.heap.size + 2) FX1.out.st.size)
  clear hS hi ho
  unfold repV
  have fxe := FXz.out
  obtain ⟨c0, c1, c2, c3, c4, c5, c6, hf7⟩ := cells7 fxe.res
  have f0 := hf7 0
  have f1 := hf7 1
  have f2 := hf7 2
  have f3 := hf7 3
  have f4 := hf7 4
  have f5 := hf7 5
  have f6 := hf7 6
  have HG := Lib.hid fxe
  clear hf7 fxe
  go_wp2
  try simp only [Exit.inBlock, Exit.then]
  refine bodyPost_ret (results_cell_row rfl _ _ (w.heap.size + 1) _ _ _ _ rfl (row7 HG.out.res _ _ _ _ _ _ _) Tryz.underlying36 rfl Tryz.infoR) rfl ?_
  exact HG.out.done (RealF.held r) (⟨e0, e1, e2, e3, e4, e5, e6⟩) A cn HSz.out _ _ _ _ _ _ _

set_option maxHeartbeats 4000000 in
set_option maxRecDepth 8192 in
theorem fdo_12 [Inhabited XBox] (r : Nat) (S : Pz.Fil) (cl : Int) (flags fd off n : Int) (p p2 data : ByteArray) (w : World) (F : Nat → Prop) (hc1 : 1 ≤ cl) (hc2 : cl ≤ 8) (R : Pz.Fil × Pz.Rep) (hX : ∀ W G, RealF r S W G → Calls Tryz.prog 31 #[.pointer (some ⟨r, 0, none⟩), callV 12 p p2 flags fd off n data] W (Does (RealF r) R W G)) (hR : RealF r S w F) :
    Calls Tryz.prog 7 #[.pointer (some ⟨r, 0, none⟩), .int .i64 cl, callV 12 p p2 flags fd off n data] w (Does (RealF r) R w F) := by
  have HIs := Lib.hid (fis_any cl)
  have FX := Lib.hid (Fx.start (RealF.held r S) hR #[.int .i64 12, .string p, .string p2, .int .i64 flags, .int .i64 fd, .int .i64 off, .int .i64 n, .string data])
  clear hR
  obtain ⟨S1, e0, e1, e2, e3, e4, e5, e6⟩ := R
  have HX := Lib.hid hX
  rw [decide_eq_true (And.intro hc1 hc2)] at HIs
  clear hX
  unfold callV at HX ⊢
  go_enter Tryz.func7, Tryz.ntmps7
  go_wp2_with fail
  refine (HIs.out _).mono ?_
  rintro e w1 ⟨rfl, hb1⟩
  have FX1 := Lib.hid (FX.out.read ((RealF.held r) _) hb1)
  clear hb1
  obtain ⟨b0, b1, b2, b3, b4, b5, b6, b7⟩ := FX1.out.c8
  go_wp2_with fail
  refine (HX.out _ _ FX1.out.inv).mono ?_
  rintro e wz ⟨A, cn, rfl, hS, hi, ho⟩
  have FXz := Lib.hid (FX1.out.write (RealF.held _ _) hi ho)
  have HSz := Lib.hid (hS.low (B' := w.heap.size + 2) FX1.out.st.size)
  clear hS hi ho
  unfold repV
  have fxe := FXz.out
  obtain ⟨c0, c1, c2, c3, c4, c5, c6, hf7⟩ := cells7 fxe.res
  have f0 := hf7 0
  have f1 := hf7 1
  have f2 := hf7 2
  have f3 := hf7 3
  have f4 := hf7 4
  have f5 := hf7 5
  have f6 := hf7 6
  have HG := Lib.hid fxe
  clear hf7 fxe
  go_wp2
  try simp only [Exit.inBlock, Exit.then]
  refine bodyPost_ret (results_cell_row rfl _ _ (w.heap.size + 1) _ _ _ _ rfl (row7 HG.out.res _ _ _ _ _ _ _) Tryz.underlying36 rfl Tryz.infoR) rfl ?_
  exact HG.out.done (RealF.held r) (⟨e0, e1, e2, e3, e4, e5, e6⟩) A cn HSz.out _ _ _ _ _ _ _

set_option maxHeartbeats 4000000 in
set_option maxRecDepth 8192 in
theorem fdo_13 [Inhabited XBox] (r : Nat) (S : Pz.Fil) (cl : Int) (flags fd off n : Int) (p p2 data : ByteArray) (w : World) (F : Nat → Prop) (hc1 : 1 ≤ cl) (hc2 : cl ≤ 8) (R : Pz.Fil × Pz.Rep) (hX : ∀ W G, RealF r S W G → Calls Tryz.prog 31 #[.pointer (some ⟨r, 0, none⟩), callV 13 p p2 flags fd off n data] W (Does (RealF r) R W G)) (hR : RealF r S w F) :
    Calls Tryz.prog 7 #[.pointer (some ⟨r, 0, none⟩), .int .i64 cl, callV 13 p p2 flags fd off n data] w (Does (RealF r) R w F) := by
  have HIs := Lib.hid (fis_any cl)
  have FX := Lib.hid (Fx.start (RealF.held r S) hR #[.int .i64 13, .string p, .string p2, .int .i64 flags, .int .i64 fd, .int .i64 off, .int .i64 n, .string data])
  clear hR
  obtain ⟨S1, e0, e1, e2, e3, e4, e5, e6⟩ := R
  have HX := Lib.hid hX
  rw [decide_eq_true (And.intro hc1 hc2)] at HIs
  clear hX
  unfold callV at HX ⊢
  go_enter Tryz.func7, Tryz.ntmps7
  go_wp2_with fail
  refine (HIs.out _).mono ?_
  rintro e w1 ⟨rfl, hb1⟩
  have FX1 := Lib.hid (FX.out.read ((RealF.held r) _) hb1)
  clear hb1
  obtain ⟨b0, b1, b2, b3, b4, b5, b6, b7⟩ := FX1.out.c8
  go_wp2_with fail
  refine (HX.out _ _ FX1.out.inv).mono ?_
  rintro e wz ⟨A, cn, rfl, hS, hi, ho⟩
  have FXz := Lib.hid (FX1.out.write (RealF.held _ _) hi ho)
  have HSz := Lib.hid (hS.low (B' := w.heap.size + 2) FX1.out.st.size)
  clear hS hi ho
  unfold repV
  have fxe := FXz.out
  obtain ⟨c0, c1, c2, c3, c4, c5, c6, hf7⟩ := cells7 fxe.res
  have f0 := hf7 0
  have f1 := hf7 1
  have f2 := hf7 2
  have f3 := hf7 3
  have f4 := hf7 4
  have f5 := hf7 5
  have f6 := hf7 6
  have HG := Lib.hid fxe
  clear hf7 fxe
  go_wp2
  try simp only [Exit.inBlock, Exit.then]
  refine bodyPost_ret (results_cell_row rfl _ _ (w.heap.size + 1) _ _ _ _ rfl (row7 HG.out.res _ _ _ _ _ _ _) Tryz.underlying36 rfl Tryz.infoR) rfl ?_
  exact HG.out.done (RealF.held r) (⟨e0, e1, e2, e3, e4, e5, e6⟩) A cn HSz.out _ _ _ _ _ _ _

set_option maxHeartbeats 4000000 in
set_option maxRecDepth 8192 in
theorem fdo_none [Inhabited XBox] (r : Nat) (S : Pz.Fil) (cl : Int) (kind : Int) (flags fd off n : Int) (p p2 data : ByteArray) (w : World) (F : Nat → Prop) (hc1 : 1 ≤ cl) (hc2 : cl ≤ 8) (hk : kind < 1 ∨ 13 < kind) (hR : RealF r S w F) :
    Calls Tryz.prog 7 #[.pointer (some ⟨r, 0, none⟩), .int .i64 cl, callV kind p p2 flags fd off n data] w (Does (RealF r) (S, Pz.er 15) w F) := by
  have HIs := Lib.hid (fis_any cl)
  have FX := Lib.hid (Fx.start (RealF.held r S) hR #[.int .i64 kind, .string p, .string p2, .int .i64 flags, .int .i64 fd, .int .i64 off, .int .i64 n, .string data])
  clear hR
  have k1 : (kind == 1) = false := by rw [beq_eq_false_iff_ne]; omega
  have k2 : (kind == 2) = false := by rw [beq_eq_false_iff_ne]; omega
  have k3 : (kind == 3) = false := by rw [beq_eq_false_iff_ne]; omega
  have k4 : (kind == 4) = false := by rw [beq_eq_false_iff_ne]; omega
  have k5 : (kind == 5) = false := by rw [beq_eq_false_iff_ne]; omega
  have k6 : (kind == 6) = false := by rw [beq_eq_false_iff_ne]; omega
  have k7 : (kind == 7) = false := by rw [beq_eq_false_iff_ne]; omega
  have k8 : (kind == 8) = false := by rw [beq_eq_false_iff_ne]; omega
  have k9 : (kind == 9) = false := by rw [beq_eq_false_iff_ne]; omega
  have ka : (kind == 10) = false := by rw [beq_eq_false_iff_ne]; omega
  have kb : (kind == 11) = false := by rw [beq_eq_false_iff_ne]; omega
  have kc : (kind == 12) = false := by rw [beq_eq_false_iff_ne]; omega
  have kd : (kind == 13) = false := by rw [beq_eq_false_iff_ne]; omega
  clear hk
  have HX := Lib.hid fun W G (h : RealF r S W G) => finvalid_any r S kind flags fd off n p p2 data W G h
  obtain ⟨R, hRR⟩ : ∃ R, R = Pz.er 15 := ⟨_, rfl⟩
  rw [← hRR] at HX ⊢
  clear hRR
  obtain ⟨e0, e1, e2, e3, e4, e5, e6⟩ := R
  rw [decide_eq_true (And.intro hc1 hc2)] at HIs
  unfold callV at HX ⊢
  go_enter Tryz.func7, Tryz.ntmps7
  go_wp2_with fail
  refine (HIs.out _).mono ?_
  rintro e w1 ⟨rfl, hb1⟩
  have FX1 := Lib.hid (FX.out.read ((RealF.held r) _) hb1)
  clear hb1
  obtain ⟨b0, b1, b2, b3, b4, b5, b6, b7⟩ := FX1.out.c8
  go_wp2_with fail
  refine (HX.out _ _ FX1.out.inv).mono ?_
  rintro e wz ⟨A, cn, rfl, hS, hi, ho⟩
  have FXz := Lib.hid (FX1.out.write (RealF.held _ _) hi ho)
  have HSz := Lib.hid (hS.low (B' := w.heap.size + 2) FX1.out.st.size)
  clear hS hi ho
  unfold repV
  have fxe := FXz.out
  obtain ⟨c0, c1, c2, c3, c4, c5, c6, hf7⟩ := cells7 fxe.res
  have f0 := hf7 0
  have f1 := hf7 1
  have f2 := hf7 2
  have f3 := hf7 3
  have f4 := hf7 4
  have f5 := hf7 5
  have f6 := hf7 6
  have HG := Lib.hid fxe
  clear hf7 fxe
  go_wp2
  try simp only [Exit.inBlock, Exit.then]
  refine bodyPost_ret (results_cell_row rfl _ _ (w.heap.size + 1) _ _ _ _ rfl (row7 HG.out.res _ _ _ _ _ _ _) Tryz.underlying36 rfl Tryz.infoR) rfl ?_
  exact HG.out.done (RealF.held r) (⟨e0, e1, e2, e3, e4, e5, e6⟩) A cn HSz.out _ _ _ _ _ _ _

end Go.Proofs.YtbpejjmfdhkfhaaGreatDoor
