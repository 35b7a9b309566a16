/- Walks: the program's Do, at an open descriptor. -/
import Derived.Test.YtbpejjmfdhkfhaaGreatDoorPosRealU
import Derived.Test.YtbpejjmfdhkfhaaGreatDoorPosRealQ
set_option linter.unusedVariables false
set_option linter.unusedSimpArgs false
namespace Go.Proofs.YtbpejjmfdhkfhaaGreatDoor
open Go.RowKit

set_option maxHeartbeats 4000000 in
set_option maxRecDepth 8192 in
theorem fdo_2n [Inhabited XBox] (r : Nat) (S : Pz.Fil) (cl : Int) (flags fd off n : Int) (p p2 data : ByteArray) (w : World) (F : Nat → Prop) (hc1 : 1 ≤ cl) (hc2 : cl ≤ 8) (hcl : I64 cl) (hfd : I64 fd) (hz : Pz.ofd S.O cl fd < 0) (hR : RealF r S w F) :
    Calls Tryz.prog 7 #[.pointer (some ⟨r, 0, none⟩), .int .i64 cl, callV 2 p p2 flags fd off n data] w (Does (RealF r) (S, Pz.er 16) w F) := by
  obtain ⟨bo, β, μ, hA⟩ := hR
  have HIs := Lib.hid (fis_any cl)
  have HFail := Lib.hid ffails_any
  have FX := Lib.hid (Fx.start (RA.held r bo β μ S) hA #[.int .i64 2, .string p, .string p2, .int .i64 flags, .int .i64 fd, .int .i64 off, .int .i64 n, .string data])
  have HKey := Lib.hid (key_read hcl hfd)
  have HCl := Lib.hid hcl
  have HFd := Lib.hid hfd
  have HZ := Lib.hid hz
  rw [decide_eq_true (And.intro hc1 hc2)] at HIs
  clear hA hcl hfd hz
  unfold callV
  go_enter Tryz.func7, Tryz.ntmps7
  go_wp2_with fail
  refine (HIs.out _).mono ?_
  rintro e w1 ⟨rfl, hb1⟩
  have FX1 := Lib.hid (FX.out.read ((RA.held r bo β μ) _) hb1)
  clear hb1
  obtain ⟨b0, b1, b2, b3, b4, b5, b6, b7⟩ := FX1.out.c8
  obtain ⟨rc0, rc1⟩ := RealAt.rc FX1.out.inv
  have FX1d := Lib.hid (FX1.out.read (RA.held r bo β μ _) ((Below.refl _ w1).drew))
  go_wp2
  go_still_tail 8, (by kernel_rfl)
  change wpList _ _ _ _ _ w1.drew
  clear b0 b1 b2 b3 b4 b5 b6 b7 rc0 rc1
  generalize w1.drew = w2 at FX1d ⊢
  obtain ⟨DO, hownO, hmO⟩ := RealAt.opn FX1d.out.inv
  have HOwnO := Lib.hid hownO
  have HAt := Lib.hid ((ofd_keys hmO HCl.out HFd.out).1 HZ.out)
  clear hownO hmO
  obtain ⟨b0, b1, b2, b3, b4, b5, b6, b7⟩ := FX1d.out.c8
  go_wp2_with (at_lookup; refine lookup_nil rfl _ _ 63 rfl 67 62 Tryz.keyLaw Tryz.underlying63 (Tryz.zeroP _) _ _ DO rfl HOwnO.out _ _ rfl HKey.out HAt.out ?_)
  go_wp2_with fail
  refine (HFail.out 16 _).mono ?_
  rintro e wf ⟨rfl, hbf⟩
  have FXF := Lib.hid ((FX1d.out.imp RA.toF).read ((RealF.held r) _) hbf)
  unfold replyV
  have fxe := FXF.out
  obtain ⟨c0, c1, c2, c3, c4, c5, c6, hf7⟩ := cells7 fxe.res
  have f0 := hf7 0
  have f1 := hf7 1
  have f2 := hf7 2
  have f3 := hf7 3
  have f4 := hf7 4
  have f5 := hf7 5
  have f6 := hf7 6
  have HG := Lib.hid fxe
  clear hf7 fxe
  go_wp2
  try simp only [Exit.inBlock, Exit.then]
  refine bodyPost_ret (results_cell_row rfl _ _ (w.heap.size + 1) _ _ _ _ rfl (row7 HG.out.res _ _ _ _ _ _ _) Tryz.underlying36 rfl Tryz.infoR) rfl ?_
  exact HG.out.done (RealF.held r) (Pz.er 16) none 0 (Or.inl rfl) _ _ _ _ _ _ _

set_option maxHeartbeats 4000000 in
set_option maxRecDepth 8192 in
theorem fdo_2 [Inhabited XBox] (r : Nat) (S : Pz.Fil) (cl : Int) (m : Nat) (flags fd off n : Int) (p p2 data : ByteArray) (w : World) (F : Nat → Prop) (hc1 : 1 ≤ cl) (hc2 : cl ≤ 8) (hcl : I64 cl) (hfd : I64 fd) (hz : Pz.ofd S.O cl fd = m) (R : Pz.Fil × Pz.Rep)
    (hX : ∀ bo β μ W G, RealAt W G r bo β μ S → Calls Tryz.prog 24 #[.pointer (some ⟨r, 0, none⟩), .int .i64 cl, .pointer (some ⟨β m, 0, none⟩), callV 2 p p2 flags fd off n data] W (Does (RealF r) R W G)) (hR : RealF r S w F) :
    Calls Tryz.prog 7 #[.pointer (some ⟨r, 0, none⟩), .int .i64 cl, callV 2 p p2 flags fd off n data] w (Does (RealF r) R w F) := by
  obtain ⟨bo, β, μ, hA⟩ := hR
  obtain ⟨S1, e0, e1, e2, e3, e4, e5, e6⟩ := R
  have HX := Lib.hid (hX bo β μ)
  clear hX
  unfold callV at HX
  have HIs := Lib.hid (fis_any cl)
  have HFail := Lib.hid ffails_any
  have FX := Lib.hid (Fx.start (RA.held r bo β μ S) hA #[.int .i64 2, .string p, .string p2, .int .i64 flags, .int .i64 fd, .int .i64 off, .int .i64 n, .string data])
  have HKey := Lib.hid (key_read hcl hfd)
  have HCl := Lib.hid hcl
  have HFd := Lib.hid hfd
  have HZ := Lib.hid hz
  rw [decide_eq_true (And.intro hc1 hc2)] at HIs
  clear hA hcl hfd hz
  unfold callV
  go_enter Tryz.func7, Tryz.ntmps7
  go_wp2_with fail
  refine (HIs.out _).mono ?_
  rintro e w1 ⟨rfl, hb1⟩
  have FX1 := Lib.hid (FX.out.read ((RA.held r bo β μ) _) hb1)
  clear hb1
  obtain ⟨b0, b1, b2, b3, b4, b5, b6, b7⟩ := FX1.out.c8
  obtain ⟨rc0, rc1⟩ := RealAt.rc FX1.out.inv
  have FX1d := Lib.hid (FX1.out.read (RA.held r bo β μ _) ((Below.refl _ w1).drew))
  go_wp2
  go_still_tail 8, (by kernel_rfl)
  change wpList _ _ _ _ _ w1.drew
  clear b0 b1 b2 b3 b4 b5 b6 b7 rc0 rc1
  generalize w1.drew = w2 at FX1d ⊢
  obtain ⟨DO, hownO, hmO⟩ := RealAt.opn FX1d.out.inv
  have HOwnO := Lib.hid hownO
  have HAt := Lib.hid ((ofd_keys hmO HCl.out HFd.out).2 m HZ.out)
  clear hownO hmO
  obtain ⟨b0, b1, b2, b3, b4, b5, b6, b7⟩ := FX1d.out.c8
  go_wp2_with (at_lookup; refine lookup_at rfl _ _ 63 rfl 67 62 Tryz.keyLaw Tryz.underlying63 (Tryz.zeroP _) _ _ DO rfl HOwnO.out _ _ rfl HKey.out (β m) HAt.out ?_)
  go_wp2_with fail
  refine (HX.out _ _ FX1d.out.inv).mono ?_
  rintro e wz ⟨A, cn, rfl, hS, hi, ho⟩
  have FXz := Lib.hid ((FX1d.out.imp RA.toF).write (RealF.held _ _) hi ho)
  have HSz := Lib.hid (hS.low (B' := w.heap.size + 2) FX1d.out.st.size)
  clear hS hi ho
  unfold repV
  have fxe := FXz.out
  obtain ⟨c0, c1, c2, c3, c4, c5, c6, hf7⟩ := cells7 fxe.res
  have f0 := hf7 0
  have f1 := hf7 1
  have f2 := hf7 2
  have f3 := hf7 3
  have f4 := hf7 4
  have f5 := hf7 5
  have f6 := hf7 6
  have HG := Lib.hid fxe
  clear hf7 fxe
  go_wp2
  try simp only [Exit.inBlock, Exit.then]
  refine bodyPost_ret (results_cell_row rfl _ _ (w.heap.size + 1) _ _ _ _ rfl (row7 HG.out.res _ _ _ _ _ _ _) Tryz.underlying36 rfl Tryz.infoR) rfl ?_
  exact HG.out.done (RealF.held r) (⟨e0, e1, e2, e3, e4, e5, e6⟩) A cn HSz.out _ _ _ _ _ _ _

set_option maxHeartbeats 4000000 in
set_option maxRecDepth 8192 in
theorem fdo_3n [Inhabited XBox] (r : Nat) (S : Pz.Fil) (cl : Int) (flags fd off n : Int) (p p2 data : ByteArray) (w : World) (F : Nat → Prop) (hc1 : 1 ≤ cl) (hc2 : cl ≤ 8) (hcl : I64 cl) (hfd : I64 fd) (hz : Pz.ofd S.O cl fd < 0) (hR : RealF r S w F) :
    Calls Tryz.prog 7 #[.pointer (some ⟨r, 0, none⟩), .int .i64 cl, callV 3 p p2 flags fd off n data] w (Does (RealF r) (S, Pz.er 16) w F) := by
  obtain ⟨bo, β, μ, hA⟩ := hR
  have HIs := Lib.hid (fis_any cl)
  have HFail := Lib.hid ffails_any
  have FX := Lib.hid (Fx.start (RA.held r bo β μ S) hA #[.int .i64 3, .string p, .string p2, .int .i64 flags, .int .i64 fd, .int .i64 off, .int .i64 n, .string data])
  have HKey := Lib.hid (key_read hcl hfd)
  have HCl := Lib.hid hcl
  have HFd := Lib.hid hfd
  have HZ := Lib.hid hz
  rw [decide_eq_true (And.intro hc1 hc2)] at HIs
  clear hA hcl hfd hz
  unfold callV
  go_enter Tryz.func7, Tryz.ntmps7
  go_wp2_with fail
  refine (HIs.out _).mono ?_
  rintro e w1 ⟨rfl, hb1⟩
  have FX1 := Lib.hid (FX.out.read ((RA.held r bo β μ) _) hb1)
  clear hb1
  obtain ⟨b0, b1, b2, b3, b4, b5, b6, b7⟩ := FX1.out.c8
  obtain ⟨rc0, rc1⟩ := RealAt.rc FX1.out.inv
  have FX1d := Lib.hid (FX1.out.read (RA.held r bo β μ _) ((Below.refl _ w1).drew))
  go_wp2
  go_still_tail 8, (by kernel_rfl)
  change wpList _ _ _ _ _ w1.drew
  clear b0 b1 b2 b3 b4 b5 b6 b7 rc0 rc1
  generalize w1.drew = w2 at FX1d ⊢
  obtain ⟨DO, hownO, hmO⟩ := RealAt.opn FX1d.out.inv
  have HOwnO := Lib.hid hownO
  have HAt := Lib.hid ((ofd_keys hmO HCl.out HFd.out).1 HZ.out)
  clear hownO hmO
  obtain ⟨b0, b1, b2, b3, b4, b5, b6, b7⟩ := FX1d.out.c8
  go_wp2_with (at_lookup; refine lookup_nil rfl _ _ 63 rfl 67 62 Tryz.keyLaw Tryz.underlying63 (Tryz.zeroP _) _ _ DO rfl HOwnO.out _ _ rfl HKey.out HAt.out ?_)
  go_wp2_with fail
  refine (HFail.out 16 _).mono ?_
  rintro e wf ⟨rfl, hbf⟩
  have FXF := Lib.hid ((FX1d.out.imp RA.toF).read ((RealF.held r) _) hbf)
  unfold replyV
  have fxe := FXF.out
  obtain ⟨c0, c1, c2, c3, c4, c5, c6, hf7⟩ := cells7 fxe.res
  have f0 := hf7 0
  have f1 := hf7 1
  have f2 := hf7 2
  have f3 := hf7 3
  have f4 := hf7 4
  have f5 := hf7 5
  have f6 := hf7 6
  have HG := Lib.hid fxe
  clear hf7 fxe
  go_wp2
  try simp only [Exit.inBlock, Exit.then]
  refine bodyPost_ret (results_cell_row rfl _ _ (w.heap.size + 1) _ _ _ _ rfl (row7 HG.out.res _ _ _ _ _ _ _) Tryz.underlying36 rfl Tryz.infoR) rfl ?_
  exact HG.out.done (RealF.held r) (Pz.er 16) none 0 (Or.inl rfl) _ _ _ _ _ _ _

set_option maxHeartbeats 4000000 in
set_option maxRecDepth 8192 in
theorem fdo_3 [Inhabited XBox] (r : Nat) (S : Pz.Fil) (cl : Int) (m : Nat) (flags fd off n : Int) (p p2 data : ByteArray) (w : World) (F : Nat → Prop) (hc1 : 1 ≤ cl) (hc2 : cl ≤ 8) (hcl : I64 cl) (hfd : I64 fd) (hz : Pz.ofd S.O cl fd = m) (R : Pz.Fil × Pz.Rep)
    (hX : ∀ bo β μ W G, RealAt W G r bo β μ S → Calls Tryz.prog 24 #[.pointer (some ⟨r, 0, none⟩), .int .i64 cl, .pointer (some ⟨β m, 0, none⟩), callV 3 p p2 flags fd off n data] W (Does (RealF r) R W G)) (hR : RealF r S w F) :
    Calls Tryz.prog 7 #[.pointer (some ⟨r, 0, none⟩), .int .i64 cl, callV 3 p p2 flags fd off n data] w (Does (RealF r) R w F) := by
  obtain ⟨bo, β, μ, hA⟩ := hR
  obtain ⟨S1, e0, e1, e2, e3, e4, e5, e6⟩ := R
  have HX := Lib.hid (hX bo β μ)
  clear hX
  unfold callV at HX
  have HIs := Lib.hid (fis_any cl)
  have HFail := Lib.hid ffails_any
  have FX := Lib.hid (Fx.start (RA.held r bo β μ S) hA #[.int .i64 3, .string p, .string p2, .int .i64 flags, .int .i64 fd, .int .i64 off, .int .i64 n, .string data])
  have HKey := Lib.hid (key_read hcl hfd)
  have HCl := Lib.hid hcl
  have HFd := Lib.hid hfd
  have HZ := Lib.hid hz
  rw [decide_eq_true (And.intro hc1 hc2)] at HIs
  clear hA hcl hfd hz
  unfold callV
  go_enter Tryz.func7, Tryz.ntmps7
  go_wp2_with fail
  refine (HIs.out _).mono ?_
  rintro e w1 ⟨rfl, hb1⟩
  have FX1 := Lib.hid (FX.out.read ((RA.held r bo β μ) _) hb1)
  clear hb1
  obtain ⟨b0, b1, b2, b3, b4, b5, b6, b7⟩ := FX1.out.c8
  obtain ⟨rc0, rc1⟩ := RealAt.rc FX1.out.inv
  have FX1d := Lib.hid (FX1.out.read (RA.held r bo β μ _) ((Below.refl _ w1).drew))
  go_wp2
  go_still_tail 8, (by kernel_rfl)
  change wpList _ _ _ _ _ w1.drew
  clear b0 b1 b2 b3 b4 b5 b6 b7 rc0 rc1
  generalize w1.drew = w2 at FX1d ⊢
  obtain ⟨DO, hownO, hmO⟩ := RealAt.opn FX1d.out.inv
  have HOwnO := Lib.hid hownO
  have HAt := Lib.hid ((ofd_keys hmO HCl.out HFd.out).2 m HZ.out)
  clear hownO hmO
  obtain ⟨b0, b1, b2, b3, b4, b5, b6, b7⟩ := FX1d.out.c8
  go_wp2_with (at_lookup; refine lookup_at rfl _ _ 63 rfl 67 62 Tryz.keyLaw Tryz.underlying63 (Tryz.zeroP _) _ _ DO rfl HOwnO.out _ _ rfl HKey.out (β m) HAt.out ?_)
  go_wp2_with fail
  refine (HX.out _ _ FX1d.out.inv).mono ?_
  rintro e wz ⟨A, cn, rfl, hS, hi, ho⟩
  have FXz := Lib.hid ((FX1d.out.imp RA.toF).write (RealF.held _ _) hi ho)
  have HSz := Lib.hid (hS.low (B' := w.heap.size + 2) FX1d.out.st.size)
  clear hS hi ho
  unfold repV
  have fxe := FXz.out
  obtain ⟨c0, c1, c2, c3, c4, c5, c6, hf7⟩ := cells7 fxe.res
  have f0 := hf7 0
  have f1 := hf7 1
  have f2 := hf7 2
  have f3 := hf7 3
  have f4 := hf7 4
  have f5 := hf7 5
  have f6 := hf7 6
  have HG := Lib.hid fxe
  clear hf7 fxe
  go_wp2
  try simp only [Exit.inBlock, Exit.then]
  refine bodyPost_ret (results_cell_row rfl _ _ (w.heap.size + 1) _ _ _ _ rfl (row7 HG.out.res _ _ _ _ _ _ _) Tryz.underlying36 rfl Tryz.infoR) rfl ?_
  exact HG.out.done (RealF.held r) (⟨e0, e1, e2, e3, e4, e5, e6⟩) A cn HSz.out _ _ _ _ _ _ _

set_option maxHeartbeats 4000000 in
set_option maxRecDepth 8192 in
theorem fdo_4n [Inhabited XBox] (r : Nat) (S : Pz.Fil) (cl : Int) (flags fd off n : Int) (p p2 data : ByteArray) (w : World) (F : Nat → Prop) (hc1 : 1 ≤ cl) (hc2 : cl ≤ 8) (hcl : I64 cl) (hfd : I64 fd) (hz : Pz.ofd S.O cl fd < 0) (hR : RealF r S w F) :
    Calls Tryz.prog 7 #[.pointer (some ⟨r, 0, none⟩), .int .i64 cl, callV 4 p p2 flags fd off n data] w (Does (RealF r) (S, Pz.er 16) w F) := by
  obtain ⟨bo, β, μ, hA⟩ := hR
  have HIs := Lib.hid (fis_any cl)
  have HFail := Lib.hid ffails_any
  have FX := Lib.hid (Fx.start (RA.held r bo β μ S) hA #[.int .i64 4, .string p, .string p2, .int .i64 flags, .int .i64 fd, .int .i64 off, .int .i64 n, .string data])
  have HKey := Lib.hid (key_read hcl hfd)
  have HCl := Lib.hid hcl
  have HFd := Lib.hid hfd
  have HZ := Lib.hid hz
  rw [decide_eq_true (And.intro hc1 hc2)] at HIs
  clear hA hcl hfd hz
  unfold callV
  go_enter Tryz.func7, Tryz.ntmps7
  go_wp2_with fail
  refine (HIs.out _).mono ?_
  rintro e w1 ⟨rfl, hb1⟩
  have FX1 := Lib.hid (FX.out.read ((RA.held r bo β μ) _) hb1)
  clear hb1
  obtain ⟨b0, b1, b2, b3, b4, b5, b6, b7⟩ := FX1.out.c8
  obtain ⟨rc0, rc1⟩ := RealAt.rc FX1.out.inv
  have FX1d := Lib.hid (FX1.out.read (RA.held r bo β μ _) ((Below.refl _ w1).drew))
  go_wp2
  go_still_tail 8, (by kernel_rfl)
  change wpList _ _ _ _ _ w1.drew
  clear b0 b1 b2 b3 b4 b5 b6 b7 rc0 rc1
  generalize w1.drew = w2 at FX1d ⊢
  obtain ⟨DO, hownO, hmO⟩ := RealAt.opn FX1d.out.inv
  have HOwnO := Lib.hid hownO
  have HAt := Lib.hid ((ofd_keys hmO HCl.out HFd.out).1 HZ.out)
  clear hownO hmO
  obtain ⟨b0, b1, b2, b3, b4, b5, b6, b7⟩ := FX1d.out.c8
  go_wp2_with (at_lookup; refine lookup_nil rfl _ _ 63 rfl 67 62 Tryz.keyLaw Tryz.underlying63 (Tryz.zeroP _) _ _ DO rfl HOwnO.out _ _ rfl HKey.out HAt.out ?_)
  go_wp2_with fail
  refine (HFail.out 16 _).mono ?_
  rintro e wf ⟨rfl, hbf⟩
  have FXF := Lib.hid ((FX1d.out.imp RA.toF).read ((RealF.held r) _) hbf)
  unfold replyV
  have fxe := FXF.out
  obtain ⟨c0, c1, c2, c3, c4, c5, c6, hf7⟩ := cells7 fxe.res
  have f0 := hf7 0
  have f1 := hf7 1
  have f2 := hf7 2
  have f3 := hf7 3
  have f4 := hf7 4
  have f5 := hf7 5
  have f6 := hf7 6
  have HG := Lib.hid fxe
  clear hf7 fxe
  go_wp2
  try simp only [Exit.inBlock, Exit.then]
  refine bodyPost_ret (results_cell_row rfl _ _ (w.heap.size + 1) _ _ _ _ rfl (row7 HG.out.res _ _ _ _ _ _ _) Tryz.underlying36 rfl Tryz.infoR) rfl ?_
  exact HG.out.done (RealF.held r) (Pz.er 16) none 0 (Or.inl rfl) _ _ _ _ _ _ _

set_option maxHeartbeats 4000000 in
set_option maxRecDepth 8192 in
theorem fdo_4 [Inhabited XBox] (r : Nat) (S : Pz.Fil) (cl : Int) (m : Nat) (flags fd off n : Int) (p p2 data : ByteArray) (w : World) (F : Nat → Prop) (hc1 : 1 ≤ cl) (hc2 : cl ≤ 8) (hcl : I64 cl) (hfd : I64 fd) (hz : Pz.ofd S.O cl fd = m) (R : Pz.Fil × Pz.Rep)
    (hX : ∀ bo β μ W G, RealAt W G r bo β μ S → Calls Tryz.prog 24 #[.pointer (some ⟨r, 0, none⟩), .int .i64 cl, .pointer (some ⟨β m, 0, none⟩), callV 4 p p2 flags fd off n data] W (Does (RealF r) R W G)) (hR : RealF r S w F) :
    Calls Tryz.prog 7 #[.pointer (some ⟨r, 0, none⟩), .int .i64 cl, callV 4 p p2 flags fd off n data] w (Does (RealF r) R w F) := by
  obtain ⟨bo, β, μ, hA⟩ := hR
  obtain ⟨S1, e0, e1, e2, e3, e4, e5, e6⟩ := R
  have HX := Lib.hid (hX bo β μ)
  clear hX
  unfold callV at HX
  have HIs := Lib.hid (fis_any cl)
  have HFail := Lib.hid ffails_any
  have FX := Lib.hid (Fx.start (RA.held r bo β μ S) hA #[.int .i64 4, .string p, .string p2, .int .i64 flags, .int .i64 fd, .int .i64 off, .int .i64 n, .string data])
  have HKey := Lib.hid (key_read hcl hfd)
  have HCl := Lib.hid hcl
  have HFd := Lib.hid hfd
  have HZ := Lib.hid hz
  rw [decide_eq_true (And.intro hc1 hc2)] at HIs
  clear hA hcl hfd hz
  unfold callV
  go_enter Tryz.func7, Tryz.ntmps7
  go_wp2_with fail
  refine (HIs.out _).mono ?_
  rintro e w1 ⟨rfl, hb1⟩
  have FX1 := Lib.hid (FX.out.read ((RA.held r bo β μ) _) hb1)
  clear hb1
  obtain ⟨b0, b1, b2, b3, b4, b5, b6, b7⟩ := FX1.out.c8
  obtain ⟨rc0, rc1⟩ := RealAt.rc FX1.out.inv
  have FX1d := Lib.hid (FX1.out.read (RA.held r bo β μ _) ((Below.refl _ w1).drew))
  go_wp2
  go_still_tail 8, (by kernel_rfl)
  change wpList _ _ _ _ _ w1.drew
  clear b0 b1 b2 b3 b4 b5 b6 b7 rc0 rc1
  generalize w1.drew = w2 at FX1d ⊢
  obtain ⟨DO, hownO, hmO⟩ := RealAt.opn FX1d.out.inv
  have HOwnO := Lib.hid hownO
  have HAt := Lib.hid ((ofd_keys hmO HCl.out HFd.out).2 m HZ.out)
  clear hownO hmO
  obtain ⟨b0, b1, b2, b3, b4, b5, b6, b7⟩ := FX1d.out.c8
  go_wp2_with (at_lookup; refine lookup_at rfl _ _ 63 rfl 67 62 Tryz.keyLaw Tryz.underlying63 (Tryz.zeroP _) _ _ DO rfl HOwnO.out _ _ rfl HKey.out (β m) HAt.out ?_)
  go_wp2_with fail
  refine (HX.out _ _ FX1d.out.inv).mono ?_
  rintro e wz ⟨A, cn, rfl, hS, hi, ho⟩
  have FXz := Lib.hid ((FX1d.out.imp RA.toF).write (RealF.held _ _) hi ho)
  have HSz := Lib.hid (hS.low (B' := w.heap.size + 2) FX1d.out.st.size)
  clear hS hi ho
  unfold repV
  have fxe := FXz.out
  obtain ⟨c0, c1, c2, c3, c4, c5, c6, hf7⟩ := cells7 fxe.res
  have f0 := hf7 0
  have f1 := hf7 1
  have f2 := hf7 2
  have f3 := hf7 3
  have f4 := hf7 4
  have f5 := hf7 5
  have f6 := hf7 6
  have HG := Lib.hid fxe
  clear hf7 fxe
  go_wp2
  try simp only [Exit.inBlock, Exit.then]
  refine bodyPost_ret (results_cell_row rfl _ _ (w.heap.size + 1) _ _ _ _ rfl (row7 HG.out.res _ _ _ _ _ _ _) Tryz.underlying36 rfl Tryz.infoR) rfl ?_
  exact HG.out.done (RealF.held r) (⟨e0, e1, e2, e3, e4, e5, e6⟩) A cn HSz.out _ _ _ _ _ _ _

set_option maxHeartbeats 4000000 in
set_option maxRecDepth 8192 in
theorem fdo_5n [Inhabited XBox] (r : Nat) (S : Pz.Fil) (cl : Int) (flags fd off n : Int) (p p2 data : ByteArray) (w : World) (F : Nat → Prop) (hc1 : 1 ≤ cl) (hc2 : cl ≤ 8) (hcl : I64 cl) (hfd : I64 fd) (hz : Pz.ofd S.O cl fd < 0) (hR : RealF r S w F) :
    Calls Tryz.prog 7 #[.pointer (some ⟨r, 0, none⟩), .int .i64 cl, callV 5 p p2 flags fd off n data] w (Does (RealF r) (S, Pz.er 16) w F) := by
  obtain ⟨bo, β, μ, hA⟩ := hR
  have HIs := Lib.hid (fis_any cl)
  have HFail := Lib.hid ffails_any
  have FX := Lib.hid (Fx.start (RA.held r bo β μ S) hA #[.int .i64 5, .string p, .string p2, .int .i64 flags, .int .i64 fd, .int .i64 off, .int .i64 n, .string data])
  have HKey := Lib.hid (key_read hcl hfd)
  have HCl := Lib.hid hcl
  have HFd := Lib.hid hfd
  have HZ := Lib.hid hz
  rw [decide_eq_true (And.intro hc1 hc2)] at HIs
  clear hA hcl hfd hz
  unfold callV
  go_enter Tryz.func7, Tryz.ntmps7
  go_wp2_with fail
  refine (HIs.out _).mono ?_
  rintro e w1 ⟨rfl, hb1⟩
  have FX1 := Lib.hid (FX.out.read ((RA.held r bo β μ) _) hb1)
  clear hb1
  obtain ⟨b0, b1, b2, b3, b4, b5, b6, b7⟩ := FX1.out.c8
  obtain ⟨rc0, rc1⟩ := RealAt.rc FX1.out.inv
  have FX1d := Lib.hid (FX1.out.read (RA.held r bo β μ _) ((Below.refl _ w1).drew))
  go_wp2
  go_still_tail 8, (by kernel_rfl)
  change wpList _ _ _ _ _ w1.drew
  clear b0 b1 b2 b3 b4 b5 b6 b7 rc0 rc1
  generalize w1.drew = w2 at FX1d ⊢
  obtain ⟨DO, hownO, hmO⟩ := RealAt.opn FX1d.out.inv
  have HOwnO := Lib.hid hownO
  have HAt := Lib.hid ((ofd_keys hmO HCl.out HFd.out).1 HZ.out)
  clear hownO hmO
  obtain ⟨b0, b1, b2, b3, b4, b5, b6, b7⟩ := FX1d.out.c8
  go_wp2_with (at_lookup; refine lookup_nil rfl _ _ 63 rfl 67 62 Tryz.keyLaw Tryz.underlying63 (Tryz.zeroP _) _ _ DO rfl HOwnO.out _ _ rfl HKey.out HAt.out ?_)
  go_wp2_with fail
  refine (HFail.out 16 _).mono ?_
  rintro e wf ⟨rfl, hbf⟩
  have FXF := Lib.hid ((FX1d.out.imp RA.toF).read ((RealF.held r) _) hbf)
  unfold replyV
  have fxe := FXF.out
  obtain ⟨c0, c1, c2, c3, c4, c5, c6, hf7⟩ := cells7 fxe.res
  have f0 := hf7 0
  have f1 := hf7 1
  have f2 := hf7 2
  have f3 := hf7 3
  have f4 := hf7 4
  have f5 := hf7 5
  have f6 := hf7 6
  have HG := Lib.hid fxe
  clear hf7 fxe
  go_wp2
  try simp only [Exit.inBlock, Exit.then]
  refine bodyPost_ret (results_cell_row rfl _ _ (w.heap.size + 1) _ _ _ _ rfl (row7 HG.out.res _ _ _ _ _ _ _) Tryz.underlying36 rfl Tryz.infoR) rfl ?_
  exact HG.out.done (RealF.held r) (Pz.er 16) none 0 (Or.inl rfl) _ _ _ _ _ _ _

set_option maxHeartbeats 4000000 in
set_option maxRecDepth 8192 in
theorem fdo_5 [Inhabited XBox] (r : Nat) (S : Pz.Fil) (cl : Int) (m : Nat) (flags fd off n : Int) (p p2 data : ByteArray) (w : World) (F : Nat → Prop) (hc1 : 1 ≤ cl) (hc2 : cl ≤ 8) (hcl : I64 cl) (hfd : I64 fd) (hz : Pz.ofd S.O cl fd = m) (R : Pz.Fil × Pz.Rep)
    (hX : ∀ bo β μ W G, RealAt W G r bo β μ S → Calls Tryz.prog 24 #[.pointer (some ⟨r, 0, none⟩), .int .i64 cl, .pointer (some ⟨β m, 0, none⟩), callV 5 p p2 flags fd off n data] W (Does (RealF r) R W G)) (hR : RealF r S w F) :
    Calls Tryz.prog 7 #[.pointer (some ⟨r, 0, none⟩), .int .i64 cl, callV 5 p p2 flags fd off n data] w (Does (RealF r) R w F) := by
  obtain ⟨bo, β, μ, hA⟩ := hR
  obtain ⟨S1, e0, e1, e2, e3, e4, e5, e6⟩ := R
  have HX := Lib.hid (hX bo β μ)
  clear hX
  unfold callV at HX
  have HIs := Lib.hid (fis_any cl)
  have HFail := Lib.hid ffails_any
  have FX := Lib.hid (Fx.start (RA.held r bo β μ S) hA #[.int .i64 5, .string p, .string p2, .int .i64 flags, .int .i64 fd, .int .i64 off, .int .i64 n, .string data])
  have HKey := Lib.hid (key_read hcl hfd)
  have HCl := Lib.hid hcl
  have HFd := Lib.hid hfd
  have HZ := Lib.hid hz
  rw [decide_eq_true (And.intro hc1 hc2)] at HIs
  clear hA hcl hfd hz
  unfold callV
  go_enter Tryz.func7, Tryz.ntmps7
  go_wp2_with fail
  refine (HIs.out _).mono ?_
  rintro e w1 ⟨rfl, hb1⟩
  have FX1 := Lib.hid (FX.out.read ((RA.held r bo β μ) _) hb1)
  clear hb1
  obtain ⟨b0, b1, b2, b3, b4, b5, b6, b7⟩ := FX1.out.c8
  obtain ⟨rc0, rc1⟩ := RealAt.rc FX1.out.inv
  have FX1d := Lib.hid (FX1.out.read (RA.held r bo β μ _) ((Below.refl _ w1).drew))
  go_wp2
  go_still_tail 8, (by kernel_rfl)
  change wpList _ _ _ _ _ w1.drew
  clear b0 b1 b2 b3 b4 b5 b6 b7 rc0 rc1
  generalize w1.drew = w2 at FX1d ⊢
  obtain ⟨DO, hownO, hmO⟩ := RealAt.opn FX1d.out.inv
  have HOwnO := Lib.hid hownO
  have HAt := Lib.hid ((ofd_keys hmO HCl.out HFd.out).2 m HZ.out)
  clear hownO hmO
  obtain ⟨b0, b1, b2, b3, b4, b5, b6, b7⟩ := FX1d.out.c8
  go_wp2_with (at_lookup; refine lookup_at rfl _ _ 63 rfl 67 62 Tryz.keyLaw Tryz.underlying63 (Tryz.zeroP _) _ _ DO rfl HOwnO.out _ _ rfl HKey.out (β m) HAt.out ?_)
  go_wp2_with fail
  refine (HX.out _ _ FX1d.out.inv).mono ?_
  rintro e wz ⟨A, cn, rfl, hS, hi, ho⟩
  have FXz := Lib.hid ((FX1d.out.imp RA.toF).write (RealF.held _ _) hi ho)
  have HSz := Lib.hid (hS.low (B' := w.heap.size + 2) FX1d.out.st.size)
  clear hS hi ho
  unfold repV
  have fxe := FXz.out
  obtain ⟨c0, c1, c2, c3, c4, c5, c6, hf7⟩ := cells7 fxe.res
  have f0 := hf7 0
  have f1 := hf7 1
  have f2 := hf7 2
  have f3 := hf7 3
  have f4 := hf7 4
  have f5 := hf7 5
  have f6 := hf7 6
  have HG := Lib.hid fxe
  clear hf7 fxe
  go_wp2
  try simp only [Exit.inBlock, Exit.then]
  refine bodyPost_ret (results_cell_row rfl _ _ (w.heap.size + 1) _ _ _ _ rfl (row7 HG.out.res _ _ _ _ _ _ _) Tryz.underlying36 rfl Tryz.infoR) rfl ?_
  exact HG.out.done (RealF.held r) (⟨e0, e1, e2, e3, e4, e5, e6⟩) A cn HSz.out _ _ _ _ _ _ _

set_option maxHeartbeats 4000000 in
set_option maxRecDepth 8192 in
theorem fdo_6n [Inhabited XBox] (r : Nat) (S : Pz.Fil) (cl : Int) (flags fd off n : Int) (p p2 data : ByteArray) (w : World) (F : Nat → Prop) (hc1 : 1 ≤ cl) (hc2 : cl ≤ 8) (hcl : I64 cl) (hfd : I64 fd) (hz : Pz.ofd S.O cl fd < 0) (hR : RealF r S w F) :
    Calls Tryz.prog 7 #[.pointer (some ⟨r, 0, none⟩), .int .i64 cl, callV 6 p p2 flags fd off n data] w (Does (RealF r) (S, Pz.er 16) w F) := by
  obtain ⟨bo, β, μ, hA⟩ := hR
  have HIs := Lib.hid (fis_any cl)
  have HFail := Lib.hid ffails_any
  have FX := Lib.hid (Fx.start (RA.held r bo β μ S) hA #[.int .i64 6, .string p, .string p2, .int .i64 flags, .int .i64 fd, .int .i64 off, .int .i64 n, .string data])
  have HKey := Lib.hid (key_read hcl hfd)
  have HCl := Lib.hid hcl
  have HFd := Lib.hid hfd
  have HZ := Lib.hid hz
  rw [decide_eq_true (And.intro hc1 hc2)] at HIs
  clear hA hcl hfd hz
  unfold callV
  go_enter Tryz.func7, Tryz.ntmps7
  go_wp2_with fail
  refine (HIs.out _).mono ?_
  rintro e w1 ⟨rfl, hb1⟩
  have FX1 := Lib.hid (FX.out.read ((RA.held r bo β μ) _) hb1)
  clear hb1
  obtain ⟨b0, b1, b2, b3, b4, b5, b6, b7⟩ := FX1.out.c8
  obtain ⟨rc0, rc1⟩ := RealAt.rc FX1.out.inv
  have FX1d := Lib.hid (FX1.out.read (RA.held r bo β μ _) ((Below.refl _ w1).drew))
  go_wp2
  go_still_tail 8, (by kernel_rfl)
  change wpList _ _ _ _ _ w1.drew
  clear b0 b1 b2 b3 b4 b5 b6 b7 rc0 rc1
  generalize w1.drew = w2 at FX1d ⊢
  obtain ⟨DO, hownO, hmO⟩ := RealAt.opn FX1d.out.inv
  have HOwnO := Lib.hid hownO
  have HAt := Lib.hid ((ofd_keys hmO HCl.out HFd.out).1 HZ.out)
  clear hownO hmO
  obtain ⟨b0, b1, b2, b3, b4, b5, b6, b7⟩ := FX1d.out.c8
  go_wp2_with (at_lookup; refine lookup_nil rfl _ _ 63 rfl 67 62 Tryz.keyLaw Tryz.underlying63 (Tryz.zeroP _) _ _ DO rfl HOwnO.out _ _ rfl HKey.out HAt.out ?_)
  go_wp2_with fail
  refine (HFail.out 16 _).mono ?_
  rintro e wf ⟨rfl, hbf⟩
  have FXF := Lib.hid ((FX1d.out.imp RA.toF).read ((RealF.held r) _) hbf)
  unfold replyV
  have fxe := FXF.out
  obtain ⟨c0, c1, c2, c3, c4, c5, c6, hf7⟩ := cells7 fxe.res
  have f0 := hf7 0
  have f1 := hf7 1
  have f2 := hf7 2
  have f3 := hf7 3
  have f4 := hf7 4
  have f5 := hf7 5
  have f6 := hf7 6
  have HG := Lib.hid fxe
  clear hf7 fxe
  go_wp2
  try simp only [Exit.inBlock, Exit.then]
  refine bodyPost_ret (results_cell_row rfl _ _ (w.heap.size + 1) _ _ _ _ rfl (row7 HG.out.res _ _ _ _ _ _ _) Tryz.underlying36 rfl Tryz.infoR) rfl ?_
  exact HG.out.done (RealF.held r) (Pz.er 16) none 0 (Or.inl rfl) _ _ _ _ _ _ _

set_option maxHeartbeats 4000000 in
set_option maxRecDepth 8192 in
theorem fdo_6 [Inhabited XBox] (r : Nat) (S : Pz.Fil) (cl : Int) (m : Nat) (flags fd off n : Int) (p p2 data : ByteArray) (w : World) (F : Nat → Prop) (hc1 : 1 ≤ cl) (hc2 : cl ≤ 8) (hcl : I64 cl) (hfd : I64 fd) (hz : Pz.ofd S.O cl fd = m) (R : Pz.Fil × Pz.Rep)
    (hX : ∀ bo β μ W G, RealAt W G r bo β μ S → Calls Tryz.prog 24 #[.pointer (some ⟨r, 0, none⟩), .int .i64 cl, .pointer (some ⟨β m, 0, none⟩), callV 6 p p2 flags fd off n data] W (Does (RealF r) R W G)) (hR : RealF r S w F) :
    Calls Tryz.prog 7 #[.pointer (some ⟨r, 0, none⟩), .int .i64 cl, callV 6 p p2 flags fd off n data] w (Does (RealF r) R w F) := by
  obtain ⟨bo, β, μ, hA⟩ := hR
  obtain ⟨S1, e0, e1, e2, e3, e4, e5, e6⟩ := R
  have HX := Lib.hid (hX bo β μ)
  clear hX
  unfold callV at HX
  have HIs := Lib.hid (fis_any cl)
  have HFail := Lib.hid ffails_any
  have FX := Lib.hid (Fx.start (RA.held r bo β μ S) hA #[.int .i64 6, .string p, .string p2, .int .i64 flags, .int .i64 fd, .int .i64 off, .int .i64 n, .string data])
  have HKey := Lib.hid (key_read hcl hfd)
  have HCl := Lib.hid hcl
  have HFd := Lib.hid hfd
  have HZ := Lib.hid hz
  rw [decide_eq_true (And.intro hc1 hc2)] at HIs
  clear hA hcl hfd hz
  unfold callV
  go_enter Tryz.func7, Tryz.ntmps7
  go_wp2_with fail
  refine (HIs.out _).mono ?_
  rintro e w1 ⟨rfl, hb1⟩
  have FX1 := Lib.hid (FX.out.read ((RA.held r bo β μ) _) hb1)
  clear hb1
  obtain ⟨b0, b1, b2, b3, b4, b5, b6, b7⟩ := FX1.out.c8
  obtain ⟨rc0, rc1⟩ := RealAt.rc FX1.out.inv
  have FX1d := Lib.hid (FX1.out.read (RA.held r bo β μ _) ((Below.refl _ w1).drew))
  go_wp2
  go_still_tail 8, (by kernel_rfl)
  change wpList _ _ _ _ _ w1.drew
  clear b0 b1 b2 b3 b4 b5 b6 b7 rc0 rc1
  generalize w1.drew = w2 at FX1d ⊢
  obtain ⟨DO, hownO, hmO⟩ := RealAt.opn FX1d.out.inv
  have HOwnO := Lib.hid hownO
  have HAt := Lib.hid ((ofd_keys hmO HCl.out HFd.out).2 m HZ.out)
  clear hownO hmO
  obtain ⟨b0, b1, b2, b3, b4, b5, b6, b7⟩ := FX1d.out.c8
  go_wp2_with (at_lookup; refine lookup_at rfl _ _ 63 rfl 67 62 Tryz.keyLaw Tryz.underlying63 (Tryz.zeroP _) _ _ DO rfl HOwnO.out _ _ rfl HKey.out (β m) HAt.out ?_)
  go_wp2_with fail
  refine (HX.out _ _ FX1d.out.inv).mono ?_
  rintro e wz ⟨A, cn, rfl, hS, hi, ho⟩
  have FXz := Lib.hid ((FX1d.out.imp RA.toF).write (RealF.held _ _) hi ho)
  have HSz := Lib.hid (hS.low (B' := w.heap.size + 2) FX1d.out.st.size)
  clear hS hi ho
  unfold repV
  have fxe := FXz.out
  obtain ⟨c0, c1, c2, c3, c4, c5, c6, hf7⟩ := cells7 fxe.res
  have f0 := hf7 0
  have f1 := hf7 1
  have f2 := hf7 2
  have f3 := hf7 3
  have f4 := hf7 4
  have f5 := hf7 5
  have f6 := hf7 6
  have HG := Lib.hid fxe
  clear hf7 fxe
  go_wp2
  try simp only [Exit.inBlock, Exit.then]
  refine bodyPost_ret (results_cell_row rfl _ _ (w.heap.size + 1) _ _ _ _ rfl (row7 HG.out.res _ _ _ _ _ _ _) Tryz.underlying36 rfl Tryz.infoR) rfl ?_
  exact HG.out.done (RealF.held r) (⟨e0, e1, e2, e3, e4, e5, e6⟩) A cn HSz.out _ _ _ _ _ _ _

theorem ffile_write_any [Inhabited XBox] (r : Nat) (S : Pz.Fil) (cl : Int) (m : Nat) (flags fd off n : Int) (p p2 data : ByteArray) (w : World) (F : Nat → Prop) (bo : Nat) (β μ : Nat → Nat) (hpre : Pz.Good 1000 S) (hm : m < S.N.length) (hR : RealAt w F r bo β μ S) :
    Calls Tryz.prog 24 #[.pointer (some ⟨r, 0, none⟩), .int .i64 cl, .pointer (some ⟨β m, 0, none⟩), callV 4 p p2 flags fd off n data] w (Does (RealF r) (Pz.file S cl m 4 fd off n data.data.toList) w F) := by
  by_cases h1 : off < 0 ∨ 64 < data.size ∨ data.size = 0 ∨ 256 < off + data.size
  · exact ffile_write_no r S cl m flags fd off n p p2 data w F bo β μ hpre hm h1 hR
  · exact ffile_write r S cl m flags fd off n p p2 data w F bo β μ hpre hm (by omega) hR

end Go.Proofs.YtbpejjmfdhkfhaaGreatDoor
