/- Walks: the program's file: a cut, a write. -/
import Derived.Test.YtbpejjmfdhkfhaaGreatDoorPosRealP
import Derived.Deep.RegionWith
set_option linter.unusedVariables false
set_option linter.unusedSimpArgs false
namespace Go.Proofs.YtbpejjmfdhkfhaaGreatDoor
open Go.RowKit

namespace Pz
theorem sized_take {s : List UInt8} {o n : Nat} (h : o ≤ n) : (sized s n).take o = sized s o := by
  unfold sized
  rw [List.take_append, List.take_take, List.take_replicate, List.length_take, Nat.min_eq_left h]
  congr 2
  omega
theorem sized_drop {s : List UInt8} {e n : Nat} (h : n = max e s.length) : (sized s n).drop e = s.drop e := by
  by_cases hle : e ≤ s.length
  · rw [show n = s.length by omega, sized_cut (Nat.le_refl _), List.take_length]
  · rw [List.drop_eq_nil_of_le (by rw [sized_len]; omega), List.drop_eq_nil_of_le (by omega)]
end Pz

set_option maxHeartbeats 4000000 in
set_option maxRecDepth 8192 in
theorem ffile_trunc [Inhabited XBox] (r : Nat) (S : Pz.Fil) (cl : Int) (m : Nat) (flags fd off n : Int) (p p2 data : ByteArray) (w : World) (F : Nat → Prop) (bo : Nat) (β μ : Nat → Nat) (hpre : Pz.Good 1000 S) (hm : m < S.N.length) (hR : RealAt w F r bo β μ S) :
    Calls Tryz.prog 24 #[.pointer (some ⟨r, 0, none⟩), .int .i64 cl, .pointer (some ⟨β m, 0, none⟩), callV 5 p p2 flags fd off n data] w (Does (RealF r) (Pz.file S cl m 5 fd off n data.data.toList) w F) := by
  have HFail := Lib.hid ffails_any
  have HDone := Lib.hid fdone_any
  obtain ⟨w1, hw1⟩ : ∃ w1, w1 = ((w.alloc (.cells #[.int .i64 5, .string p, .string p2, .int .i64 flags, .int .i64 fd, .int .i64 off, .int .i64 n, .string data] 24)).alloc (.cells #[.int .i64 0, .int .i64 0, .string ⟨#[]⟩, .slice none 0 0, .int .i64 0, .int .i64 0, .int .i64 0] 36)) := ⟨_, rfl⟩
  have hFX := Fx.start (RA.held r bo β μ S) hR #[.int .i64 5, .string p, .string p2, .int .i64 flags, .int .i64 fd, .int .i64 off, .int .i64 n, .string data]
  rw [← hw1] at hFX
  have HW1 := Lib.hid hw1
  have FX := Lib.hid hFX
  have hdl := Pz.nodeD_data hpre hm
  obtain ⟨D, hD⟩ : ∃ D : ByteArray, D = ⟨(Pz.nodeD S.N m).data.toArray⟩ := ⟨_, rfl⟩
  have hDs : D.size ≤ 256 := by rw [hD, Lib.size_eq]; exact hdl
  have hNc := fun W G (h : RA r bo β μ S W G) => And.intro (RealAt.nc h hm).1 (RealAt.nc h hm).2.2.2.1
  rw [← hD] at hNc
  have HNc := Lib.hid hNc
  have HDD := Lib.hid hD
  clear hw1 hFX hNc hdl
  obtain ⟨R, hres⟩ : ∃ R, R = Pz.file S cl m 5 fd off n data.data.toList := ⟨_, rfl⟩
  rw [← hres]
  have HRes : Hid (R = if n < 0 then (S, Pz.er 15) else if 256 < n then (S, Pz.er 19) else ({ S with N := S.N.set m { Pz.nodeD S.N m with data := Pz.sized D.data.toList n.toNat } }, Pz.er 0)) := Lib.hid (by
      rw [hres]
      unfold Pz.file
      rw [if_neg (by decide), if_neg (by decide), if_neg (by decide), if_pos rfl, hD])
  have HDat := Lib.hid fun W G (h : RA r bo β μ S W G) v => RealAt.data h hm v
  obtain ⟨b0, b1, b2, b3, b4, b5, b6, b7⟩ := FX.out.c8
  unfold callV
  clear hpre hR hD hm hres
  by_cases h1 : n < 0
  · have HResF := Lib.hid (HRes.out.trans (if_pos h1))
    go_enter Tryz.func24, Tryz.ntmps24
    go_wp2_with fail
    rw [← HW1.out]
    go_wp2_with fail
    refine (HFail.out 15 _).mono ?_
    rintro e wf ⟨rfl, hbf⟩
    have FXF := Lib.hid ((FX.out.imp RA.toF).read ((RealF.held r) _) hbf)
    unfold replyV
    have fxe := FXF.out
    obtain ⟨c0, c1, c2, c3, c4, c5, c6, hf7⟩ := cells7 fxe.res
    have f0 := hf7 0
    have f1 := hf7 1
    have f2 := hf7 2
    have f3 := hf7 3
    have f4 := hf7 4
    have f5 := hf7 5
    have f6 := hf7 6
    have HG := Lib.hid fxe
    clear hf7 fxe
    go_wp2
    try simp only [Exit.inBlock, Exit.then]
    refine bodyPost_ret (results_cell_row rfl _ _ (w.heap.size + 1) _ _ _ _ rfl (row7 HG.out.res _ _ _ _ _ _ _) Tryz.underlying36 rfl Tryz.infoR) rfl ?_
    rw [HResF.out]
    exact HG.out.done (RealF.held r) (Pz.er 15) none 0 (Or.inl rfl) _ _ _ _ _ _ _
  have HRes1 := Lib.hid (HRes.out.trans (if_neg h1))
  have h1' : 0 ≤ n := by omega
  by_cases h2 : 256 < n
  · have HResF := Lib.hid (HRes1.out.trans (if_pos h2))
    go_enter Tryz.func24, Tryz.ntmps24
    go_wp2_with fail
    rw [← HW1.out]
    go_wp2_with fail
    refine (HFail.out 19 _).mono ?_
    rintro e wf ⟨rfl, hbf⟩
    have FXF := Lib.hid ((FX.out.imp RA.toF).read ((RealF.held r) _) hbf)
    unfold replyV
    have fxe := FXF.out
    obtain ⟨c0, c1, c2, c3, c4, c5, c6, hf7⟩ := cells7 fxe.res
    have f0 := hf7 0
    have f1 := hf7 1
    have f2 := hf7 2
    have f3 := hf7 3
    have f4 := hf7 4
    have f5 := hf7 5
    have f6 := hf7 6
    have HG := Lib.hid fxe
    clear hf7 fxe
    go_wp2
    try simp only [Exit.inBlock, Exit.then]
    refine bodyPost_ret (results_cell_row rfl _ _ (w.heap.size + 1) _ _ _ _ rfl (row7 HG.out.res _ _ _ _ _ _ _) Tryz.underlying36 rfl Tryz.infoR) rfl ?_
    rw [HResF.out]
    exact HG.out.done (RealF.held r) (Pz.er 19) none 0 (Or.inl rfl) _ _ _ _ _ _ _
  have HRes2 := Lib.hid (HRes1.out.trans (if_neg h2))
  obtain ⟨k, rfl⟩ : ∃ k : Nat, n = k := ⟨n.toNat, by omega⟩
  have h2' : (k : Int) ≤ 256 := by omega
  have hsz := fun W => fsized_any D k W (by omega) (by omega)
  obtain ⟨u, hu⟩ : ∃ u : ByteArray, u = ⟨(Pz.sized D.data.toList k).toArray⟩ := ⟨_, rfl⟩
  rw [← hu] at hsz
  have HS := Lib.hid hsz
  have HResF : Hid (R = ({ S with N := S.N.set m { Pz.nodeD S.N m with data := u.data.toList } }, Pz.er 0)) := Lib.hid (by rw [HRes2.out, hu, Int.toNat_natCast])
  clear hsz hu h2
  have FX1d := Lib.hid (FX.out.read (RA.held r bo β μ _) ((Below.refl _ w1).drew))
  go_enter Tryz.func24, Tryz.ntmps24
  go_wp2
  rw [← HW1.out]
  clear b0 b1 b2 b3 b4 b5 b6 b7
  generalize hw2 : w1.drew = w2 at FX1d
  obtain ⟨n0, nf0⟩ := HNc.out _ _ FX1d.out.inv
  obtain ⟨b0, b1, b2, b3, b4, b5, b6, b7⟩ := FX1d.out.c8
  go_region_with ((go_at_call 57; refine (HS.out _).mono ?_; rintro e w3 ⟨rfl, hb3⟩; have FX3 := Lib.hid (FX1d.out.read (RA.held r bo β μ _) hb3); have hn := HNc.out _ _ FX3.out.inv; obtain ⟨m0, mf0⟩ := hn; clear hb3))
  all_goals
    clear b0 b1 b2 b3 b4 b5 b6 b7
    have hx := HDat.out _ _ FX3.out.inv u
    have FX4 := Lib.hid (FX3.out.put (RA.held r bo β μ _) hx.1 hx.2)
    clear hx
    try simp only [Exit.then]
    go_wp2_with fail
    refine (HDone.out _).mono ?_
    rintro e wf ⟨rfl, hbf⟩
    have FXF := Lib.hid ((FX4.out.imp RA.toF).read (RealF.held r _) hbf)
    unfold replyV
    have fxe := FXF.out
    obtain ⟨c0, c1, c2, c3, c4, c5, c6, hf7⟩ := cells7 fxe.res
    have f0 := hf7 0
    have f1 := hf7 1
    have f2 := hf7 2
    have f3 := hf7 3
    have f4 := hf7 4
    have f5 := hf7 5
    have f6 := hf7 6
    have HG := Lib.hid fxe
    clear hf7 fxe
    go_wp2
    try simp only [Exit.inBlock, Exit.then]
    refine bodyPost_ret (results_cell_row rfl _ _ (w.heap.size + 1) _ _ _ _ rfl (row7 HG.out.res _ _ _ _ _ _ _) Tryz.underlying36 rfl Tryz.infoR) rfl ?_
    rw [HResF.out]
    exact HG.out.done (RealF.held r) (Pz.er 0) none 0 (Or.inl rfl) _ _ _ _ _ _ _

set_option maxHeartbeats 4000000 in
set_option maxRecDepth 8192 in
theorem ffile_write_no [Inhabited XBox] (r : Nat) (S : Pz.Fil) (cl : Int) (m : Nat) (flags fd off n : Int) (p p2 data : ByteArray) (w : World) (F : Nat → Prop) (bo : Nat) (β μ : Nat → Nat) (hpre : Pz.Good 1000 S) (hm : m < S.N.length) (hbad : off < 0 ∨ 64 < data.size ∨ data.size = 0 ∨ 256 < off + data.size) (hR : RealAt w F r bo β μ S) :
    Calls Tryz.prog 24 #[.pointer (some ⟨r, 0, none⟩), .int .i64 cl, .pointer (some ⟨β m, 0, none⟩), callV 4 p p2 flags fd off n data] w (Does (RealF r) (Pz.file S cl m 4 fd off n data.data.toList) w F) := by
  have HFail := Lib.hid ffails_any
  have HDone := Lib.hid fdone_any
  obtain ⟨w1, hw1⟩ : ∃ w1, w1 = ((w.alloc (.cells #[.int .i64 4, .string p, .string p2, .int .i64 flags, .int .i64 fd, .int .i64 off, .int .i64 n, .string data] 24)).alloc (.cells #[.int .i64 0, .int .i64 0, .string ⟨#[]⟩, .slice none 0 0, .int .i64 0, .int .i64 0, .int .i64 0] 36)) := ⟨_, rfl⟩
  have hFX := Fx.start (RA.held r bo β μ S) hR #[.int .i64 4, .string p, .string p2, .int .i64 flags, .int .i64 fd, .int .i64 off, .int .i64 n, .string data]
  rw [← hw1] at hFX
  have HW1 := Lib.hid hw1
  have FX := Lib.hid hFX
  have hdl := Pz.nodeD_data hpre hm
  obtain ⟨D, hD⟩ : ∃ D : ByteArray, D = ⟨(Pz.nodeD S.N m).data.toArray⟩ := ⟨_, rfl⟩
  have hDs : D.size ≤ 256 := by rw [hD, Lib.size_eq]; exact hdl
  have hNc := fun W G (h : RA r bo β μ S W G) => And.intro (RealAt.nc h hm).1 (RealAt.nc h hm).2.2.2.1
  rw [← hD] at hNc
  have HNc := Lib.hid hNc
  have HDD := Lib.hid hD
  clear hw1 hFX hNc hdl
  obtain ⟨R, hres⟩ : ∃ R, R = Pz.file S cl m 4 fd off n data.data.toList := ⟨_, rfl⟩
  rw [← hres]
  have HRes : Hid (R = if off < 0 ∨ 64 < data.size then (S, Pz.er 15) else if data.size = 0 then (S, Pz.er 0) else if 256 < off ∨ 256 < off + data.size then (S, Pz.er 19)
    else ({ S with N := S.N.set m { Pz.nodeD S.N m with data := Pz.laid D.data.toList off.toNat data.data.toList } }, Pz.er 0)) := Lib.hid (by
      rw [hres]
      unfold Pz.file
      rw [if_neg (by decide), if_neg (by decide), if_pos rfl, Lib.size_eq data, hD])
  obtain ⟨b0, b1, b2, b3, b4, b5, b6, b7⟩ := FX.out.c8
  unfold callV
  clear hpre hR hD hm hres
  by_cases h1 : off < 0
  · have HResF := Lib.hid (HRes.out.trans (if_pos (Or.inl h1)))
    go_enter Tryz.func24, Tryz.ntmps24
    go_wp2_with fail
    rw [← HW1.out]
    go_wp2_with fail
    refine (HFail.out 15 _).mono ?_
    rintro e wf ⟨rfl, hbf⟩
    have FXF := Lib.hid ((FX.out.imp RA.toF).read ((RealF.held r) _) hbf)
    unfold replyV
    have fxe := FXF.out
    obtain ⟨c0, c1, c2, c3, c4, c5, c6, hf7⟩ := cells7 fxe.res
    have f0 := hf7 0
    have f1 := hf7 1
    have f2 := hf7 2
    have f3 := hf7 3
    have f4 := hf7 4
    have f5 := hf7 5
    have f6 := hf7 6
    have HG := Lib.hid fxe
    clear hf7 fxe
    go_wp2
    try simp only [Exit.inBlock, Exit.then]
    refine bodyPost_ret (results_cell_row rfl _ _ (w.heap.size + 1) _ _ _ _ rfl (row7 HG.out.res _ _ _ _ _ _ _) Tryz.underlying36 rfl Tryz.infoR) rfl ?_
    rw [HResF.out]
    exact HG.out.done (RealF.held r) (Pz.er 15) none 0 (Or.inl rfl) _ _ _ _ _ _ _
  by_cases h2 : 64 < data.size
  · have HResF := Lib.hid (HRes.out.trans (if_pos (Or.inr h2)))
    have h1' : 0 ≤ off := by omega
    have h2' : (64 : Int) < data.size := by omega
    go_enter Tryz.func24, Tryz.ntmps24
    go_wp2_with fail
    rw [← HW1.out]
    go_wp2_with fail
    refine (HFail.out 15 _).mono ?_
    rintro e wf ⟨rfl, hbf⟩
    have FXF := Lib.hid ((FX.out.imp RA.toF).read ((RealF.held r) _) hbf)
    unfold replyV
    have fxe := FXF.out
    obtain ⟨c0, c1, c2, c3, c4, c5, c6, hf7⟩ := cells7 fxe.res
    have f0 := hf7 0
    have f1 := hf7 1
    have f2 := hf7 2
    have f3 := hf7 3
    have f4 := hf7 4
    have f5 := hf7 5
    have f6 := hf7 6
    have HG := Lib.hid fxe
    clear hf7 fxe
    go_wp2
    try simp only [Exit.inBlock, Exit.then]
    refine bodyPost_ret (results_cell_row rfl _ _ (w.heap.size + 1) _ _ _ _ rfl (row7 HG.out.res _ _ _ _ _ _ _) Tryz.underlying36 rfl Tryz.infoR) rfl ?_
    rw [HResF.out]
    exact HG.out.done (RealF.held r) (Pz.er 15) none 0 (Or.inl rfl) _ _ _ _ _ _ _
  have HRes1 := Lib.hid (HRes.out.trans (if_neg (by omega)))
  have h1' : 0 ≤ off := by omega
  have h2' : (data.size : Int) ≤ 64 := by omega
  by_cases h3 : data.size = 0
  · have HResF := Lib.hid (HRes1.out.trans (if_pos h3))
    have h3' : (data.toList == []) = true := by
      rw [beq_iff_eq, Lib.toList_data]
      exact List.eq_nil_of_length_eq_zero (by rw [← Lib.size_eq]; exact h3)
    go_enter Tryz.func24, Tryz.ntmps24
    go_wp2_with fail
    rw [← HW1.out]
    go_wp2_with fail
    refine (HDone.out _).mono ?_
    rintro e wf ⟨rfl, hbf⟩
    have FXF := Lib.hid ((FX.out.imp RA.toF).read (RealF.held r _) hbf)
    unfold replyV
    have fxe := FXF.out
    obtain ⟨c0, c1, c2, c3, c4, c5, c6, hf7⟩ := cells7 fxe.res
    have f0 := hf7 0
    have f1 := hf7 1
    have f2 := hf7 2
    have f3 := hf7 3
    have f4 := hf7 4
    have f5 := hf7 5
    have f6 := hf7 6
    have HG := Lib.hid fxe
    clear hf7 fxe
    go_wp2
    try simp only [Exit.inBlock, Exit.then]
    refine bodyPost_ret (results_cell_row rfl _ _ (w.heap.size + 1) _ _ _ _ rfl (row7 HG.out.res _ _ _ _ _ _ _) Tryz.underlying36 rfl Tryz.infoR) rfl ?_
    rw [HResF.out]
    exact HG.out.done (RealF.held r) (Pz.er 0) none 0 (Or.inl rfl) _ _ _ _ _ _ _
  have HResF := Lib.hid ((HRes1.out.trans (if_neg h3)).trans (if_pos (by omega)))
  have h3' : (data.toList == []) = false := by
    rw [beq_eq_false_iff_ne, Lib.toList_data]
    intro e
    exact h3 (by rw [Lib.size_eq, e]; rfl)
  have h4 : 256 - (data.size : Int) < off := by omega
  clear hbad
  go_enter Tryz.func24, Tryz.ntmps24
  go_wp2_with fail
  rw [← HW1.out]
  go_wp2_with fail
  refine (HFail.out 19 _).mono ?_
  rintro e wf ⟨rfl, hbf⟩
  have FXF := Lib.hid ((FX.out.imp RA.toF).read ((RealF.held r) _) hbf)
  unfold replyV
  have fxe := FXF.out
  obtain ⟨c0, c1, c2, c3, c4, c5, c6, hf7⟩ := cells7 fxe.res
  have f0 := hf7 0
  have f1 := hf7 1
  have f2 := hf7 2
  have f3 := hf7 3
  have f4 := hf7 4
  have f5 := hf7 5
  have f6 := hf7 6
  have HG := Lib.hid fxe
  clear hf7 fxe
  go_wp2
  try simp only [Exit.inBlock, Exit.then]
  refine bodyPost_ret (results_cell_row rfl _ _ (w.heap.size + 1) _ _ _ _ rfl (row7 HG.out.res _ _ _ _ _ _ _) Tryz.underlying36 rfl Tryz.infoR) rfl ?_
  rw [HResF.out]
  exact HG.out.done (RealF.held r) (Pz.er 19) none 0 (Or.inl rfl) _ _ _ _ _ _ _

end Go.Proofs.YtbpejjmfdhkfhaaGreatDoor

/- Walks: the program's file: a write that is done. -/
namespace Go.Proofs.YtbpejjmfdhkfhaaGreatDoor
open Go.RowKit

set_option maxHeartbeats 4000000 in
set_option maxRecDepth 8192 in
theorem ffile_write [Inhabited XBox] (r : Nat) (S : Pz.Fil) (cl : Int) (m : Nat) (flags fd off n : Int) (p p2 data : ByteArray) (w : World) (F : Nat → Prop) (bo : Nat) (β μ : Nat → Nat) (hpre : Pz.Good 1000 S) (hm : m < S.N.length) (hok : 0 ≤ off ∧ data.size ≤ 64 ∧ 0 < data.size ∧ off + data.size ≤ 256) (hR : RealAt w F r bo β μ S) :
    Calls Tryz.prog 24 #[.pointer (some ⟨r, 0, none⟩), .int .i64 cl, .pointer (some ⟨β m, 0, none⟩), callV 4 p p2 flags fd off n data] w (Does (RealF r) (Pz.file S cl m 4 fd off n data.data.toList) w F) := by
  have HFail := Lib.hid ffails_any
  have HDone := Lib.hid fdone_any
  obtain ⟨w1, hw1⟩ : ∃ w1, w1 = ((w.alloc (.cells #[.int .i64 4, .string p, .string p2, .int .i64 flags, .int .i64 fd, .int .i64 off, .int .i64 n, .string data] 24)).alloc (.cells #[.int .i64 0, .int .i64 0, .string ⟨#[]⟩, .slice none 0 0, .int .i64 0, .int .i64 0, .int .i64 0] 36)) := ⟨_, rfl⟩
  have hFX := Fx.start (RA.held r bo β μ S) hR #[.int .i64 4, .string p, .string p2, .int .i64 flags, .int .i64 fd, .int .i64 off, .int .i64 n, .string data]
  rw [← hw1] at hFX
  have HW1 := Lib.hid hw1
  have FX := Lib.hid hFX
  have hdl := Pz.nodeD_data hpre hm
  obtain ⟨D, hD⟩ : ∃ D : ByteArray, D = ⟨(Pz.nodeD S.N m).data.toArray⟩ := ⟨_, rfl⟩
  have hDs : D.size ≤ 256 := by rw [hD, Lib.size_eq]; exact hdl
  have hNc := fun W G (h : RA r bo β μ S W G) => And.intro (RealAt.nc h hm).1 (RealAt.nc h hm).2.2.2.1
  rw [← hD] at hNc
  have HNc := Lib.hid hNc
  have HDD := Lib.hid hD
  clear hw1 hFX hNc hdl
  obtain ⟨R, hres⟩ : ∃ R, R = Pz.file S cl m 4 fd off n data.data.toList := ⟨_, rfl⟩
  rw [← hres]
  have HRes : Hid (R = ({ S with N := S.N.set m { Pz.nodeD S.N m with data := Pz.laid D.data.toList off.toNat data.data.toList } }, Pz.er 0)) := Lib.hid (by
      rw [hres]
      unfold Pz.file
      rw [if_neg (by decide), if_neg (by decide), if_pos rfl, ← Lib.size_eq data, hD, if_neg (by omega), if_neg (by omega), if_neg (by omega)])
  have HDat := Lib.hid fun W G (h : RA r bo β μ S W G) v => RealAt.data h hm v
  obtain ⟨o, rfl⟩ : ∃ o : Nat, off = o := ⟨off.toNat, by omega⟩
  have h1' : (0 : Int) ≤ o := by omega
  have h2' : (data.size : Int) ≤ 64 := by omega
  have h3' : (data.toList == []) = false := by
    rw [beq_eq_false_iff_ne, Lib.toList_data]
    intro e
    have : data.size = 0 := by rw [Lib.size_eq, e]; rfl
    omega
  have h4 : (o : Int) ≤ 256 - (data.size : Int) := by omega
  have hds : data.size ≤ 64 := by omega
  obtain ⟨mx, hmx⟩ : ∃ mx, mx = max (o + data.size) D.size := ⟨_, rfl⟩
  have hmax : max ((o : Int) + data.size) (D.size : Int) = mx := by omega
  have hml : mx ≤ 256 := by omega
  have hsz := fun W => fsized_any D mx W (by omega) (by omega)
  obtain ⟨u, hu⟩ : ∃ u : ByteArray, u = ⟨(Pz.sized D.data.toList mx).toArray⟩ := ⟨_, rfl⟩
  rw [← hu] at hsz
  have HS := Lib.hid hsz
  have hus : u.size = mx := by rw [hu, Lib.size_eq]; exact Pz.sized_len _ _
  have he : o + data.size ≤ mx := by omega
  have HResF : Hid (R = ({ S with N := S.N.set m { Pz.nodeD S.N m with data := (u.extract 0 o ++ data ++ u.extract (o + data.size) u.size).data.toList } }, Pz.er 0)) := Lib.hid (by
    rw [HRes.out, ba_app, ba_app, ba_tail, ba_head, Int.toNat_natCast]
    have hul : u.data.toList = Pz.sized D.data.toList mx := by rw [hu]
    rw [hul, Pz.sized_take (by omega), Pz.sized_drop (by rw [hmx, ← Lib.size_eq])]
    unfold Pz.laid
    rw [Lib.size_eq data])
  have hus1 : u.size ≤ 256 := by omega
  have hus2 : (o : Int) + data.size ≤ u.size := by omega
  have hus3 : (o : Int) ≤ u.size := by omega
  have hus4 : o ≤ u.size := by omega
  have hus5 : o + data.size ≤ u.size := by omega
  have h0 : (0 : Int) ≤ (o : Int) + data.size := by omega
  have h0n : ((o : Int) + data.size).toNat = o + data.size := by omega
  obtain ⟨b0, b1, b2, b3, b4, b5, b6, b7⟩ := FX.out.c8
  unfold callV
  clear hpre hR hD hm hres hsz hu hmx hok hus he HRes
  have FX1d := Lib.hid (FX.out.read (RA.held r bo β μ _) ((Below.refl _ w1).drew))
  go_enter Tryz.func24, Tryz.ntmps24
  go_wp2
  rw [← HW1.out]
  clear b0 b1 b2 b3 b4 b5 b6 b7
  generalize hw2 : w1.drew = w2 at FX1d
  obtain ⟨n0, nf0⟩ := HNc.out _ _ FX1d.out.inv
  obtain ⟨b0, b1, b2, b3, b4, b5, b6, b7⟩ := FX1d.out.c8
  go_region_with ((go_at_call 57; refine (HS.out _).mono ?_; rintro e w3 ⟨rfl, hb3⟩; have FX3 := Lib.hid (FX1d.out.read (RA.held r bo β μ _) hb3); clear hb3))
  all_goals
    clear b0 b1 b2 b3 b4 b5 b6 b7
    have FX3d := Lib.hid (FX3.out.read (RA.held r bo β μ _) ((Below.refl _ w3).drew))
    obtain ⟨m0, mf0⟩ := HNc.out _ _ FX3.out.inv
    obtain ⟨b0, b1, b2, b3, b4, b5, b6, b7⟩ := FX3.out.c8
    try simp only [Exit.then]
    have hc1 : ¬ 9223372036854775807 < (u.extract 0 o).size + data.size := by rw [ByteArray.size_extract]; omega
    have hc2 : ¬ 9223372036854775807 < min o u.size + data.size := by omega
    have hc3 : ¬ 9223372036854775807 < o + data.size := by omega
    have hc4 : ¬ 9223372036854775807 < (u.extract 0 o).size + data.size + (u.extract (o + data.size) u.size).size := by rw [ByteArray.size_extract, ByteArray.size_extract]; omega
    have hc5 : ¬ 9223372036854775807 < min o u.size + data.size + (u.size - (o + data.size)) := by omega
    have hc6 : ¬ 9223372036854775807 < o + data.size + (u.size - (o + data.size)) := by omega
    go_wp2
    have hc7 : ¬ 9223372036854775807 < u.size := by omega
    go_still_tail 14, (by kernel_rfl)
    change wpList _ _ _ _ _ w3.drew
    clear b0 b1 b2 b3 b4 b5 b6 b7
    clear m0 mf0
    generalize w3.drew = w4 at FX3d ⊢
    obtain ⟨m0, mf0⟩ := HNc.out _ _ FX3d.out.inv
    have hx := HDat.out _ _ FX3d.out.inv (u.extract 0 o ++ data ++ u.extract (o + data.size) u.size)
    have FX4 := Lib.hid (FX3d.out.put (RA.held r bo β μ _) hx.1 hx.2)
    clear hx
    go_wp2_with fail
    refine (HDone.out _).mono ?_
    rintro e wf ⟨rfl, hbf⟩
    have FXF := Lib.hid ((FX4.out.imp RA.toF).read (RealF.held r _) hbf)
    unfold replyV
    have fxe := FXF.out
    obtain ⟨c0, c1, c2, c3, c4, c5, c6, hf7⟩ := cells7 fxe.res
    have f0 := hf7 0
    have f1 := hf7 1
    have f2 := hf7 2
    have f3 := hf7 3
    have f4 := hf7 4
    have f5 := hf7 5
    have f6 := hf7 6
    have HG := Lib.hid fxe
    clear hf7 fxe
    go_wp2
    try simp only [Exit.inBlock, Exit.then]
    refine bodyPost_ret (results_cell_row rfl _ _ (w.heap.size + 1) _ _ _ _ rfl (row7 HG.out.res _ _ _ _ _ _ _) Tryz.underlying36 rfl Tryz.infoR) rfl ?_
    rw [HResF.out]
    exact HG.out.done (RealF.held r) (Pz.er 0) none 0 (Or.inl rfl) _ _ _ _ _ _ _

end Go.Proofs.YtbpejjmfdhkfhaaGreatDoor
