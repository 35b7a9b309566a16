/- Walks: the program's file. -/
import Derived.Test.YtbpejjmfdhkfhaaGreatDoorPosRealM
import Derived.Test.YtbpejjmfdhkfhaaGreatDoorPosRefR
import Derived.StillTailTactics
import Derived.IntWalk
import Derived.BigQuiet
import Derived.Deep.QuietTactic
set_option linter.unusedVariables false
set_option linter.unusedSimpArgs false
namespace Go.Proofs.YtbpejjmfdhkfhaaGreatDoor
open Go.RowKit

set_option maxHeartbeats 4000000 in
set_option maxRecDepth 8192 in
theorem ffile_sync [Inhabited XBox] (r : Nat) (S : Pz.Fil) (cl : Int) (m : Nat) (flags fd off n : Int) (p p2 data : ByteArray) (w : World) (F : Nat → Prop) (bo : Nat) (β μ : Nat → Nat) (hpre : Pz.Good 1000 S) (hm : m < S.N.length) (hR : RealAt w F r bo β μ S) :
    Calls Tryz.prog 24 #[.pointer (some ⟨r, 0, none⟩), .int .i64 cl, .pointer (some ⟨β m, 0, none⟩), callV 6 p p2 flags fd off n data] w (Does (RealF r) (S, Pz.er 0) w F) := by
  have HFail := Lib.hid ffails_any
  have HDone := Lib.hid fdone_any
  obtain ⟨w1, hw1⟩ : ∃ w1, w1 = ((w.alloc (.cells #[.int .i64 6, .string p, .string p2, .int .i64 flags, .int .i64 fd, .int .i64 off, .int .i64 n, .string data] 24)).alloc (.cells #[.int .i64 0, .int .i64 0, .string ⟨#[]⟩, .slice none 0 0, .int .i64 0, .int .i64 0, .int .i64 0] 36)) := ⟨_, rfl⟩
  have hFX := Fx.start (RA.held r bo β μ S) hR #[.int .i64 6, .string p, .string p2, .int .i64 flags, .int .i64 fd, .int .i64 off, .int .i64 n, .string data]
  rw [← hw1] at hFX
  have HW1 := Lib.hid hw1
  have FX := Lib.hid hFX
  have hdl := Pz.nodeD_data hpre hm
  obtain ⟨D, hD⟩ : ∃ D : ByteArray, D = ⟨(Pz.nodeD S.N m).data.toArray⟩ := ⟨_, rfl⟩
  have hDs : D.size ≤ 256 := by rw [hD, Lib.size_eq]; exact hdl
  have hNc := fun W G (h : RA r bo β μ S W G) => And.intro (RealAt.nc h hm).1 (RealAt.nc h hm).2.2.2.1
  rw [← hD] at hNc
  have HNc := Lib.hid hNc
  have HDD := Lib.hid hD
  clear hw1 hFX hNc hdl
  unfold callV
  clear hpre hR hD hm
  go_enter Tryz.func24, Tryz.ntmps24
  go_wp2_with fail
  rw [← HW1.out]
  go_wp2_with fail
  refine (HDone.out _).mono ?_
  rintro e wf ⟨rfl, hbf⟩
  have FXF := Lib.hid ((FX.out.imp RA.toF).read (RealF.held r _) hbf)
  unfold replyV
  have fxe := FXF.out
  obtain ⟨c0, c1, c2, c3, c4, c5, c6, hf7⟩ := cells7 fxe.res
  have f0 := hf7 0
  have f1 := hf7 1
  have f2 := hf7 2
  have f3 := hf7 3
  have f4 := hf7 4
  have f5 := hf7 5
  have f6 := hf7 6
  have HG := Lib.hid fxe
  clear hf7 fxe
  go_wp2
  try simp only [Exit.inBlock, Exit.then]
  refine bodyPost_ret (results_cell_row rfl _ _ (w.heap.size + 1) _ _ _ _ rfl (row7 HG.out.res _ _ _ _ _ _ _) Tryz.underlying36 rfl Tryz.infoR) rfl ?_
  exact HG.out.done (RealF.held r) (Pz.er 0) none 0 (Or.inl rfl) _ _ _ _ _ _ _

set_option maxHeartbeats 4000000 in
set_option maxRecDepth 8192 in
theorem ffile_close [Inhabited XBox] (r : Nat) (S : Pz.Fil) (cl : Int) (m : Nat) (flags fd off n : Int) (p p2 data : ByteArray) (w : World) (F : Nat → Prop) (bo : Nat) (β μ : Nat → Nat) (hpre : Pz.Good 1000 S) (hm : m < S.N.length) (hcl : I64 cl) (hfd : I64 fd) (hR : RealAt w F r bo β μ S) :
    Calls Tryz.prog 24 #[.pointer (some ⟨r, 0, none⟩), .int .i64 cl, .pointer (some ⟨β m, 0, none⟩), callV 2 p p2 flags fd off n data] w (Does (RealF r) ({ S with O := Pz.shut S.O cl fd }, Pz.er 0) w F) := by
  have HFail := Lib.hid ffails_any
  have HDone := Lib.hid fdone_any
  obtain ⟨w1, hw1⟩ : ∃ w1, w1 = ((w.alloc (.cells #[.int .i64 2, .string p, .string p2, .int .i64 flags, .int .i64 fd, .int .i64 off, .int .i64 n, .string data] 24)).alloc (.cells #[.int .i64 0, .int .i64 0, .string ⟨#[]⟩, .slice none 0 0, .int .i64 0, .int .i64 0, .int .i64 0] 36)) := ⟨_, rfl⟩
  have hFX := Fx.start (RA.held r bo β μ S) hR #[.int .i64 2, .string p, .string p2, .int .i64 flags, .int .i64 fd, .int .i64 off, .int .i64 n, .string data]
  rw [← hw1] at hFX
  have HW1 := Lib.hid hw1
  have FX := Lib.hid hFX
  have hdl := Pz.nodeD_data hpre hm
  obtain ⟨D, hD⟩ : ∃ D : ByteArray, D = ⟨(Pz.nodeD S.N m).data.toArray⟩ := ⟨_, rfl⟩
  have hDs : D.size ≤ 256 := by rw [hD, Lib.size_eq]; exact hdl
  have hNc := fun W G (h : RA r bo β μ S W G) => And.intro (RealAt.nc h hm).1 (RealAt.nc h hm).2.2.2.1
  rw [← hD] at hNc
  have HNc := Lib.hid hNc
  have HDD := Lib.hid hD
  clear hw1 hFX hNc hdl
  have FX1d := Lib.hid (FX.out.read (RA.held r bo β μ _) ((Below.refl _ w1).drew))
  obtain ⟨b0, b1, b2, b3, b4, b5, b6, b7⟩ := FX.out.c8
  obtain ⟨rc0, rc1⟩ := RealAt.rc FX.out.inv
  have HKey := Lib.hid (key_read hcl hfd)
  have HCl := Lib.hid hcl
  have HFd := Lib.hid hfd
  have HOne := Lib.hid hpre.one
  unfold callV
  clear hpre hR hD hm hcl hfd
  go_enter Tryz.func24, Tryz.ntmps24
  go_wp2
  rw [← HW1.out]
  go_still_tail 8, (by kernel_rfl)
  change wpList _ _ _ _ _ w1.drew
  clear b0 b1 b2 b3 b4 b5 b6 b7 rc0 rc1
  generalize w1.drew = w2 at FX1d ⊢
  obtain ⟨DO, hownO, hmO⟩ := RealAt.opn FX1d.out.inv
  have HOwnO := Lib.hid hownO
  have HMO := Lib.hid hmO
  clear hownO hmO
  go_wp2_with (at_delete; refine wpList_delete_own _ rfl _ _ 63 67 rfl 62 Tryz.keyLaw Tryz.underlying63 _ _ _ DO rfl HOwnO.out _ _ rfl HKey.out ?_; intro w3 hown3 hturn3)
  have hx := RealAt.delOpen FX1d.out.inv HOne.out HOwnO.out HMO.out hown3 hturn3 HCl.out HFd.out
  have FX3 := Lib.hid (FX1d.out.put (RA.held r bo β μ _) hx.1 hx.2)
  clear hx hown3 hturn3
  go_wp2_with fail
  refine (HDone.out _).mono ?_
  rintro e wf ⟨rfl, hbf⟩
  have FXF := Lib.hid ((FX3.out.imp RA.toF).read (RealF.held r _) hbf)
  unfold replyV
  have fxe := FXF.out
  obtain ⟨c0, c1, c2, c3, c4, c5, c6, hf7⟩ := cells7 fxe.res
  have f0 := hf7 0
  have f1 := hf7 1
  have f2 := hf7 2
  have f3 := hf7 3
  have f4 := hf7 4
  have f5 := hf7 5
  have f6 := hf7 6
  have HG := Lib.hid fxe
  clear hf7 fxe
  go_wp2
  try simp only [Exit.inBlock, Exit.then]
  refine bodyPost_ret (results_cell_row rfl _ _ (w.heap.size + 1) _ _ _ _ rfl (row7 HG.out.res _ _ _ _ _ _ _) Tryz.underlying36 rfl Tryz.infoR) rfl ?_
  exact HG.out.done (RealF.held r) (Pz.er 0) none 0 (Or.inl rfl) _ _ _ _ _ _ _

set_option maxHeartbeats 4000000 in
set_option maxRecDepth 8192 in
theorem ffile_read [Inhabited XBox] (r : Nat) (S : Pz.Fil) (cl : Int) (m : Nat) (flags fd off n : Int) (p p2 data : ByteArray) (w : World) (F : Nat → Prop) (bo : Nat) (β μ : Nat → Nat) (hpre : Pz.Good 1000 S) (hm : m < S.N.length) (hR : RealAt w F r bo β μ S) :
    Calls Tryz.prog 24 #[.pointer (some ⟨r, 0, none⟩), .int .i64 cl, .pointer (some ⟨β m, 0, none⟩), callV 3 p p2 flags fd off n data] w (Does (RealF r) (S, if off < 0 ∨ n < 0 ∨ 64 < n then Pz.er 15 else if ((Pz.nodeD S.N m).data.length : Int) ≤ off then Pz.er 0 else Pz.dataR (((Pz.nodeD S.N m).data.drop off.toNat).take n.toNat)) w F) := by
  have HFail := Lib.hid ffails_any
  have HDone := Lib.hid fdone_any
  obtain ⟨w1, hw1⟩ : ∃ w1, w1 = ((w.alloc (.cells #[.int .i64 3, .string p, .string p2, .int .i64 flags, .int .i64 fd, .int .i64 off, .int .i64 n, .string data] 24)).alloc (.cells #[.int .i64 0, .int .i64 0, .string ⟨#[]⟩, .slice none 0 0, .int .i64 0, .int .i64 0, .int .i64 0] 36)) := ⟨_, rfl⟩
  have hFX := Fx.start (RA.held r bo β μ S) hR #[.int .i64 3, .string p, .string p2, .int .i64 flags, .int .i64 fd, .int .i64 off, .int .i64 n, .string data]
  rw [← hw1] at hFX
  have HW1 := Lib.hid hw1
  have FX := Lib.hid hFX
  have hdl := Pz.nodeD_data hpre hm
  obtain ⟨D, hD⟩ : ∃ D : ByteArray, D = ⟨(Pz.nodeD S.N m).data.toArray⟩ := ⟨_, rfl⟩
  have hDs : D.size ≤ 256 := by rw [hD, Lib.size_eq]; exact hdl
  have hNc := fun W G (h : RA r bo β μ S W G) => And.intro (RealAt.nc h hm).1 (RealAt.nc h hm).2.2.2.1
  rw [← hD] at hNc
  have HNc := Lib.hid hNc
  have HDD := Lib.hid hD
  clear hw1 hFX hNc hdl
  have hlen : ((Pz.nodeD S.N m).data.length : Int) = D.size := by rw [HDD.out, Lib.size_eq]
  rw [hlen]
  have hlist : (Pz.nodeD S.N m).data = D.data.toList := by rw [HDD.out]
  rw [hlist]
  obtain ⟨b0, b1, b2, b3, b4, b5, b6, b7⟩ := FX.out.c8
  unfold callV
  clear hpre hR hD hm hlen hlist
  by_cases h1 : off < 0
  · rw [if_pos (Or.inl h1)]
    go_enter Tryz.func24, Tryz.ntmps24
    go_wp2_with fail
    rw [← HW1.out]
    go_wp2_with fail
    refine (HFail.out 15 _).mono ?_
    rintro e wf ⟨rfl, hbf⟩
    have FXF := Lib.hid ((FX.out.imp RA.toF).read ((RealF.held r) _) hbf)
    unfold replyV
    have fxe := FXF.out
    obtain ⟨c0, c1, c2, c3, c4, c5, c6, hf7⟩ := cells7 fxe.res
    have f0 := hf7 0
    have f1 := hf7 1
    have f2 := hf7 2
    have f3 := hf7 3
    have f4 := hf7 4
    have f5 := hf7 5
    have f6 := hf7 6
    have HG := Lib.hid fxe
    clear hf7 fxe
    go_wp2
    try simp only [Exit.inBlock, Exit.then]
    refine bodyPost_ret (results_cell_row rfl _ _ (w.heap.size + 1) _ _ _ _ rfl (row7 HG.out.res _ _ _ _ _ _ _) Tryz.underlying36 rfl Tryz.infoR) rfl ?_
    exact HG.out.done (RealF.held r) (Pz.er 15) none 0 (Or.inl rfl) _ _ _ _ _ _ _
  have h1' : 0 ≤ off := by omega
  by_cases h2 : n < 0
  · rw [if_pos (Or.inr (Or.inl h2))]
    go_enter Tryz.func24, Tryz.ntmps24
    go_wp2_with fail
    rw [← HW1.out]
    go_wp2_with fail
    refine (HFail.out 15 _).mono ?_
    rintro e wf ⟨rfl, hbf⟩
    have FXF := Lib.hid ((FX.out.imp RA.toF).read ((RealF.held r) _) hbf)
    unfold replyV
    have fxe := FXF.out
    obtain ⟨c0, c1, c2, c3, c4, c5, c6, hf7⟩ := cells7 fxe.res
    have f0 := hf7 0
    have f1 := hf7 1
    have f2 := hf7 2
    have f3 := hf7 3
    have f4 := hf7 4
    have f5 := hf7 5
    have f6 := hf7 6
    have HG := Lib.hid fxe
    clear hf7 fxe
    go_wp2
    try simp only [Exit.inBlock, Exit.then]
    refine bodyPost_ret (results_cell_row rfl _ _ (w.heap.size + 1) _ _ _ _ rfl (row7 HG.out.res _ _ _ _ _ _ _) Tryz.underlying36 rfl Tryz.infoR) rfl ?_
    exact HG.out.done (RealF.held r) (Pz.er 15) none 0 (Or.inl rfl) _ _ _ _ _ _ _
  have h2' : 0 ≤ n := by omega
  by_cases h3 : 64 < n
  · rw [if_pos (Or.inr (Or.inr h3))]
    go_enter Tryz.func24, Tryz.ntmps24
    go_wp2_with fail
    rw [← HW1.out]
    go_wp2_with fail
    refine (HFail.out 15 _).mono ?_
    rintro e wf ⟨rfl, hbf⟩
    have FXF := Lib.hid ((FX.out.imp RA.toF).read ((RealF.held r) _) hbf)
    unfold replyV
    have fxe := FXF.out
    obtain ⟨c0, c1, c2, c3, c4, c5, c6, hf7⟩ := cells7 fxe.res
    have f0 := hf7 0
    have f1 := hf7 1
    have f2 := hf7 2
    have f3 := hf7 3
    have f4 := hf7 4
    have f5 := hf7 5
    have f6 := hf7 6
    have HG := Lib.hid fxe
    clear hf7 fxe
    go_wp2
    try simp only [Exit.inBlock, Exit.then]
    refine bodyPost_ret (results_cell_row rfl _ _ (w.heap.size + 1) _ _ _ _ rfl (row7 HG.out.res _ _ _ _ _ _ _) Tryz.underlying36 rfl Tryz.infoR) rfl ?_
    exact HG.out.done (RealF.held r) (Pz.er 15) none 0 (Or.inl rfl) _ _ _ _ _ _ _
  have h3' : n ≤ 64 := by omega
  rw [if_neg (by omega)]
  obtain ⟨o, rfl⟩ : ∃ o : Nat, off = o := ⟨off.toNat, by omega⟩
  obtain ⟨k, rfl⟩ : ∃ k : Nat, n = k := ⟨n.toNat, by omega⟩
  rw [Int.toNat_natCast, Int.toNat_natCast]
  obtain ⟨n0, _⟩ := HNc.out _ _ FX.out.inv
  by_cases h4 : (D.size : Int) ≤ o
  · rw [if_pos h4]
    have hmin : min (o : Int) (D.size : Int) = D.size := by omega
    have hmin2 : min ((D.size : Int) + k) (D.size : Int) = D.size := by omega
    have hw : IntKind.i64.wrap ((D.size : Int) + k) = D.size + k := IntWalk.i64_in _ (by omega)
    go_enter Tryz.func24, Tryz.ntmps24
    go_wp2
    rw [← HW1.out]
    go_quiet (fail)
    have FX2 := Lib.hid (FX.out.read (RA.held r bo β μ _) (below_drewN (Below.refl _ w1) nq))
    clear n0 b0 b1 b2 b3 b4 b5 b6 b7
    generalize w1.drewN nq = w2 at FX2 ⊢
    obtain ⟨n0, _⟩ := HNc.out _ _ FX2.out.inv
    obtain ⟨b0, b1, b2, b3, b4, b5, b6, b7⟩ := FX2.out.c8
    have FX3 := Lib.hid (FX2.out.read (RA.held r bo β μ _) ((Below.refl _ w2).drew))
    go_wp2
    go_still_tail 17, (by kernel_rfl)
    change wpList _ _ _ _ _ w2.drew
    clear n0 b0 b1 b2 b3 b4 b5 b6 b7
    generalize w2.drew = w3 at FX3 ⊢
    have fxe := (FX3.out.imp RA.toF)
    obtain ⟨c0, c1, c2, c3, c4, c5, c6, hf7⟩ := cells7 fxe.res
    have f0 := hf7 0
    have f1 := hf7 1
    have f2 := hf7 2
    have f3 := hf7 3
    have f4 := hf7 4
    have f5 := hf7 5
    have f6 := hf7 6
    have HG := Lib.hid fxe
    clear hf7 fxe
    go_wp2
    try simp only [Exit.inBlock, Exit.then]
    refine bodyPost_ret (results_cell_row rfl _ _ (w.heap.size + 1) _ _ _ _ rfl (row7 HG.out.res _ _ _ _ _ _ _) Tryz.underlying36 rfl Tryz.infoR) rfl ?_
    exact HG.out.doneD (RealF.held r) (ByteArray.empty) ([]) rfl _ _ _ _ _ _ _
  rw [if_neg h4]
  have hmin : min (o : Int) (D.size : Int) = o := by omega
  have hw : IntKind.i64.wrap ((o : Int) + k) = o + k := IntWalk.i64_in _ (by omega)
  have h5 : (o : Int) ≤ D.size := by omega
  by_cases h6 : o + k ≤ D.size
  · have hmin2 : min ((o : Int) + k) (D.size : Int) = o + k := by omega
    have h7 : (o : Int) + k ≤ D.size := by omega
    have h8 : (o : Int) ≤ o + k := by omega
    have h9 : ((o : Int) + k).toNat = o + k := by omega
    have h10 : (0 : Int) ≤ (o : Int) + k := by omega
    have he : Hid ((D.extract o (o + k)).data.toList = (D.data.toList.drop o).take k) := Lib.hid (by rw [Lib.extract_data, Nat.add_sub_cancel_left])
    go_enter Tryz.func24, Tryz.ntmps24
    go_wp2
    rw [← HW1.out]
    go_quiet (fail)
    have FX2 := Lib.hid (FX.out.read (RA.held r bo β μ _) (below_drewN (Below.refl _ w1) nq))
    clear n0 b0 b1 b2 b3 b4 b5 b6 b7
    generalize w1.drewN nq = w2 at FX2 ⊢
    obtain ⟨n0, _⟩ := HNc.out _ _ FX2.out.inv
    obtain ⟨b0, b1, b2, b3, b4, b5, b6, b7⟩ := FX2.out.c8
    have FX3 := Lib.hid (FX2.out.read (RA.held r bo β μ _) ((Below.refl _ w2).drew))
    go_wp2
    go_still_tail 17, (by kernel_rfl)
    change wpList _ _ _ _ _ w2.drew
    clear n0 b0 b1 b2 b3 b4 b5 b6 b7
    generalize w2.drew = w3 at FX3 ⊢
    have fxe := (FX3.out.imp RA.toF)
    obtain ⟨c0, c1, c2, c3, c4, c5, c6, hf7⟩ := cells7 fxe.res
    have f0 := hf7 0
    have f1 := hf7 1
    have f2 := hf7 2
    have f3 := hf7 3
    have f4 := hf7 4
    have f5 := hf7 5
    have f6 := hf7 6
    have HG := Lib.hid fxe
    clear hf7 fxe
    go_wp2
    try simp only [Exit.inBlock, Exit.then]
    refine bodyPost_ret (results_cell_row rfl _ _ (w.heap.size + 1) _ _ _ _ rfl (row7 HG.out.res _ _ _ _ _ _ _) Tryz.underlying36 rfl Tryz.infoR) rfl ?_
    exact HG.out.doneD (RealF.held r) (D.extract o (o + k)) ((D.data.toList.drop o).take k) he.out _ _ _ _ _ _ _
  · have hmin2 : min ((o : Int) + k) (D.size : Int) = D.size := by omega
    have he : Hid ((D.extract o D.size).data.toList = (D.data.toList.drop o).take k) := Lib.hid (by rw [ba_tail, List.take_of_length_le (by rw [List.length_drop, ← Lib.size_eq]; omega)])
    go_enter Tryz.func24, Tryz.ntmps24
    go_wp2
    rw [← HW1.out]
    go_quiet (fail)
    have FX2 := Lib.hid (FX.out.read (RA.held r bo β μ _) (below_drewN (Below.refl _ w1) nq))
    clear n0 b0 b1 b2 b3 b4 b5 b6 b7
    generalize w1.drewN nq = w2 at FX2 ⊢
    obtain ⟨n0, _⟩ := HNc.out _ _ FX2.out.inv
    obtain ⟨b0, b1, b2, b3, b4, b5, b6, b7⟩ := FX2.out.c8
    have FX3 := Lib.hid (FX2.out.read (RA.held r bo β μ _) ((Below.refl _ w2).drew))
    go_wp2
    go_still_tail 17, (by kernel_rfl)
    change wpList _ _ _ _ _ w2.drew
    clear n0 b0 b1 b2 b3 b4 b5 b6 b7
    generalize w2.drew = w3 at FX3 ⊢
    have fxe := (FX3.out.imp RA.toF)
    obtain ⟨c0, c1, c2, c3, c4, c5, c6, hf7⟩ := cells7 fxe.res
    have f0 := hf7 0
    have f1 := hf7 1
    have f2 := hf7 2
    have f3 := hf7 3
    have f4 := hf7 4
    have f5 := hf7 5
    have f6 := hf7 6
    have HG := Lib.hid fxe
    clear hf7 fxe
    go_wp2
    try simp only [Exit.inBlock, Exit.then]
    refine bodyPost_ret (results_cell_row rfl _ _ (w.heap.size + 1) _ _ _ _ rfl (row7 HG.out.res _ _ _ _ _ _ _) Tryz.underlying36 rfl Tryz.infoR) rfl ?_
    exact HG.out.doneD (RealF.held r) (D.extract o D.size) ((D.data.toList.drop o).take k) he.out _ _ _ _ _ _ _

end Go.Proofs.YtbpejjmfdhkfhaaGreatDoor
