/- Walks: the program's rmdir, unlink, link. -/
import Derived.Test.YtbpejjmfdhkfhaaGreatDoorPosRealD
import Derived.Test.YtbpejjmfdhkfhaaGreatDoorPosRealF
set_option linter.unusedVariables false
set_option linter.unusedSimpArgs false
namespace Go.Proofs.YtbpejjmfdhkfhaaGreatDoor
open Go.RowKit

def RA [Inhabited XBox] (r bo : Nat) (β μ : Nat → Nat) (S : Pz.Fil) (w : World) (F : Nat → Prop) : Prop := RealAt w F r bo β μ S
theorem RA.held [Inhabited XBox] (r bo : Nat) (β μ : Nat → Nat) (S : Pz.Fil) : Held (RA r bo β μ S) := RealAt.held r bo β μ S
theorem RA.toF [Inhabited XBox] {r bo : Nat} {β μ : Nat → Nat} {S : Pz.Fil} : ∀ (w : World) (F : Nat → Prop), RA r bo β μ S w F → RealF r S w F := fun _ _ h => ⟨bo, β, μ, h⟩

/-- a name that goes out of a directory's map -/
theorem RealAt.delName [Inhabited XBox] {w w' : World} {F : Nat → Prop} {r bo d n : Nat} {β μ : Nat → Nat} {S : Pz.Fil} {x : List UInt8} {D : DataW Unit} {c : Nat} (h : RealAt w F r bo β μ S) (ho : S.E.Pairwise fun a b => ¬ (a.dir = b.dir ∧ a.name = b.name)) (hd : Pz.isDir S.N d = true)
    (hown0 : w.ownsMap Tryz.prog 9 ptrE (μ d) c D) (hme : MapE D β S.E d) (hown : w'.ownsMap Tryz.prog 9 ptrE (μ d) n (D.del (.string x))) (ht : w.mapTurned w' (μ d)) :
    RealAt w' F r bo β μ { S with E := Pz.take S.E d x } ∧ Only F w w' :=
  h.setDir hd ht.grown hown (hme.del (hown0.tidy Tryz.strLaw) ho) fun i hi => ⟨fun y => Pz.look_take_other fun e => hi e.1, Pz.count_take_other hi⟩
/-- a name that comes into a directory's map -/
theorem RealAt.putName [Inhabited XBox] {w w' : World} {F : Nat → Prop} {r bo d n m : Nat} {β μ : Nat → Nat} {S : Pz.Fil} {x : List UInt8} {D : DataW Unit} {c : Nat} (h : RealAt w F r bo β μ S) (ho : S.E.Pairwise fun a b => ¬ (a.dir = b.dir ∧ a.name = b.name)) (hd : Pz.isDir S.N d = true)
    (hown0 : w.ownsMap Tryz.prog 9 ptrE (μ d) c D) (hme : MapE D β S.E d) (hown : w'.ownsMap Tryz.prog 9 ptrE (μ d) n (D.put (.string x) (.lit (.int .i64 (β m))))) (ht : w.mapTurned w' (μ d)) :
    RealAt w' F r bo β μ { S with E := Pz.take S.E d x ++ [⟨d, x, m⟩] } ∧ Only F w w' :=
  h.setDir hd ht.grown hown (hme.over (hown0.tidy Tryz.strLaw) ho) fun i hi => ⟨fun y => by
    have := Pz.look_ge (E := S.E) (i := i) (x := y)
    rw [Pz.look_app, Pz.look_take_other (fun e => hi e.1), Pz.look_one, if_neg (show ¬ (d = i ∧ x = y) from fun e => hi e.1.symm)]
    by_cases hl : 0 ≤ Pz.look S.E i y
    · rw [if_pos hl]
    · rw [if_neg hl]; omega, by rw [Pz.count_app, Pz.count_take_other hi, if_neg (show ¬ d = i from fun e => hi e.symm)]; rfl⟩
theorem key_of {x : List UInt8} (hx : Np.nameB x = true) : keyOf Tryz.prog 9 (.string ⟨x.toArray⟩) = some (.string x) :=
  str_read (s := ⟨x.toArray⟩) (by rw [Lib.size_eq]; show x.length ≤ _; have := nameB_len hx; omega)

set_option maxHeartbeats 4000000 in
set_option maxRecDepth 8192 in
theorem frmdir_any [Inhabited XBox] (r : Nat) (S : Pz.Fil) (kind flags fd off n : Int) (p p2 data : ByteArray) (w : World) (F : Nat → Prop) (hp : p.size ≤ 100000) (hG : Pz.Good 1000 S) (hR : RealF r S w F) :
    Calls Tryz.prog 27 #[.pointer (some ⟨r, 0, none⟩), callV kind p p2 flags fd off n data] w (Does (RealF r) (Pz.rmdirR S p.data.toList) w F) := by
  have HFail := Lib.hid ffails_any
  have HDone := Lib.hid fdone_any
  obtain ⟨bo, β, μ, hR⟩ := hR
  have FX := Lib.hid (Fx.start (RA.held r bo β μ S) hR #[.int .i64 kind, .string p, .string p2, .int .i64 flags, .int .i64 fd, .int .i64 off, .int .i64 n, .string data])
  have h1 := fun W G (hR : RA r bo β μ S W G) => ffind_any G r bo β μ S p W hp hG.ok hR
  obtain ⟨R, hres⟩ : ∃ R, R = Pz.rmdirR S p.data.toList := ⟨_, rfl⟩
  rw [← hres]
  unfold callV
  by_cases h47 : p.data.toList = [47]
  · have HResF : Hid (R = (S, Pz.er 15)) := Lib.hid (by rw [hres, Pz.rmdirR, if_pos h47])
    have h47b := path_is h47
    rw [h47, Pz.find_root] at h1
    simp only [toW] at h1
    have HF := Lib.hid h1
    clear h1 hres hR hG h47
    go_enter Tryz.func27, Tryz.ntmps27
    go_wp2_with fail
    refine (HF.out _ _ FX.out.inv).mono ?_
    rintro e w1 ⟨rfl, hb1⟩
    have FX1 := Lib.hid (FX.out.read ((RA.held r bo β μ) _) hb1)
    clear hb1
    obtain ⟨b0, b1, b2, b3, b4, b5, b6, b7⟩ := FX1.out.c8
    go_wp2_with fail
    refine (HFail.out 15 _).mono ?_
    rintro e wf ⟨rfl, hbf⟩
    have FXF := Lib.hid ((FX1.out.imp RA.toF).read ((RealF.held r) _) hbf)
    unfold replyV
    have fxe := FXF.out
    obtain ⟨c0, c1, c2, c3, c4, c5, c6, hf7⟩ := cells7 fxe.res
    have f0 := hf7 0
    have f1 := hf7 1
    have f2 := hf7 2
    have f3 := hf7 3
    have f4 := hf7 4
    have f5 := hf7 5
    have f6 := hf7 6
    have HG := Lib.hid fxe
    clear hf7 fxe
    go_wp2
    try simp only [Exit.inBlock, Exit.then]
    refine bodyPost_ret (results_cell_row rfl _ _ (w.heap.size + 1) _ _ _ _ rfl (row7 HG.out.res _ _ _ _ _ _ _) Tryz.underlying36 rfl Tryz.infoR) rfl ?_
    rw [HResF.out]
    exact HG.out.done (RealF.held r) (Pz.er 15) none 0 (Or.inl rfl) _ _ _ _ _ _ _
  have hp47 := path_ne h47
  cases hf : Pz.find S p.data.toList with
  | error v =>
    have HResF : Hid (R = (S, Pz.er v)) := Lib.hid (by rw [hres, Pz.rmdirR, if_neg h47, hf])
    obtain ⟨hv1, hv2, hv3⟩ := ne_of_err (Pz.find_err hf)
    rw [hf] at h1
    simp only [toW] at h1
    have HF := Lib.hid h1
    clear h1 hres hR hG h47 hf
    go_enter Tryz.func27, Tryz.ntmps27
    go_wp2_with fail
    refine (HF.out _ _ FX.out.inv).mono ?_
    rintro e w1 ⟨rfl, hb1⟩
    have FX1 := Lib.hid (FX.out.read ((RA.held r bo β μ) _) hb1)
    clear hb1
    obtain ⟨b0, b1, b2, b3, b4, b5, b6, b7⟩ := FX1.out.c8
    go_wp2_with fail
    refine (HFail.out v _).mono ?_
    rintro e wf ⟨rfl, hbf⟩
    have FXF := Lib.hid ((FX1.out.imp RA.toF).read ((RealF.held r) _) hbf)
    unfold replyV
    have fxe := FXF.out
    obtain ⟨c0, c1, c2, c3, c4, c5, c6, hf7⟩ := cells7 fxe.res
    have f0 := hf7 0
    have f1 := hf7 1
    have f2 := hf7 2
    have f3 := hf7 3
    have f4 := hf7 4
    have f5 := hf7 5
    have f6 := hf7 6
    have HG := Lib.hid fxe
    clear hf7 fxe
    go_wp2
    try simp only [Exit.inBlock, Exit.then]
    refine bodyPost_ret (results_cell_row rfl _ _ (w.heap.size + 1) _ _ _ _ rfl (row7 HG.out.res _ _ _ _ _ _ _) Tryz.underlying36 rfl Tryz.infoR) rfl ?_
    rw [HResF.out]
    exact HG.out.done (RealF.held r) (Pz.er v) none 0 (Or.inl rfl) _ _ _ _ _ _ _
  | ok m =>
    obtain ⟨d, x, hpl, hlk, hdd⟩ := Pz.place_of_find hf h47
    have hm := Pz.find_lt hG.ok hf
    rw [hf] at h1
    simp only [toW] at h1
    have HF := Lib.hid h1
    have HDir := Lib.hid fun W G (h : RA r bo β μ S W G) => fdir_any W G r bo m β μ S hm h
    cases hD : Pz.isDir S.N m with
    | false =>
      have HResF : Hid (R = (S, Pz.er 12)) := Lib.hid (by rw [hres, Pz.rmdirR, if_neg h47, hf]; simp only [hD, Bool.false_eq_true, if_false])
      rw [hD] at HDir
      clear h1 hres hR hG h47 hf hpl hlk hdd hm hD
      go_enter Tryz.func27, Tryz.ntmps27
      go_wp2_with fail
      refine (HF.out _ _ FX.out.inv).mono ?_
      rintro e w1 ⟨rfl, hb1⟩
      have FX1 := Lib.hid (FX.out.read ((RA.held r bo β μ) _) hb1)
      clear hb1
      obtain ⟨b0, b1, b2, b3, b4, b5, b6, b7⟩ := FX1.out.c8
      go_wp2_with fail
      refine (HDir.out _ _ FX1.out.inv).mono ?_
      rintro e w2 ⟨rfl, hb2⟩
      have FX2 := Lib.hid (FX1.out.read ((RA.held r bo β μ) _) hb2)
      clear hb2
      clear b0 b1 b2 b3 b4 b5 b6 b7
      go_wp2_with fail
      refine (HFail.out 12 _).mono ?_
      rintro e wf ⟨rfl, hbf⟩
      have FXF := Lib.hid ((FX2.out.imp RA.toF).read ((RealF.held r) _) hbf)
      unfold replyV
      have fxe := FXF.out
      obtain ⟨c0, c1, c2, c3, c4, c5, c6, hf7⟩ := cells7 fxe.res
      have f0 := hf7 0
      have f1 := hf7 1
      have f2 := hf7 2
      have f3 := hf7 3
      have f4 := hf7 4
      have f5 := hf7 5
      have f6 := hf7 6
      have HG := Lib.hid fxe
      clear hf7 fxe
      go_wp2
      try simp only [Exit.inBlock, Exit.then]
      refine bodyPost_ret (results_cell_row rfl _ _ (w.heap.size + 1) _ _ _ _ rfl (row7 HG.out.res _ _ _ _ _ _ _) Tryz.underlying36 rfl Tryz.infoR) rfl ?_
      rw [HResF.out]
      exact HG.out.done (RealF.held r) (Pz.er 12) none 0 (Or.inl rfl) _ _ _ _ _ _ _
    | true =>
      rw [hD] at HDir
      have HNc := Lib.hid fun W G (h : RA r bo β μ S W G) => (RealAt.nc h hm).2.2.1
      rw [hD, if_pos rfl] at HNc
      have HMap := Lib.hid fun W G (h : RA r bo β μ S W G) => RealAt.dirs h m hD
      by_cases hC : 0 < Pz.count S.E m
      · have HResF : Hid (R = (S, Pz.er 14)) := Lib.hid (by rw [hres, Pz.rmdirR, if_neg h47, hf]; simp only [hD, if_true, if_pos hC])
        have hC2 : (0 : Int) < Pz.count S.E m := by omega
        clear h1 hres hR hG h47 hf hpl hlk hdd hm hD hC
        go_enter Tryz.func27, Tryz.ntmps27
        go_wp2_with fail
        refine (HF.out _ _ FX.out.inv).mono ?_
        rintro e w1 ⟨rfl, hb1⟩
        have FX1 := Lib.hid (FX.out.read ((RA.held r bo β μ) _) hb1)
        clear hb1
        obtain ⟨b0, b1, b2, b3, b4, b5, b6, b7⟩ := FX1.out.c8
        go_wp2_with fail
        refine (HDir.out _ _ FX1.out.inv).mono ?_
        rintro e w2 ⟨rfl, hb2⟩
        have FX2 := Lib.hid (FX1.out.read ((RA.held r bo β μ) _) hb2)
        clear hb2
        clear b0 b1 b2 b3 b4 b5 b6 b7
        have n2 := HNc.out _ _ FX2.out.inv
        obtain ⟨D, hown, hme⟩ := HMap.out _ _ FX2.out.inv
        have hsz : (Maps.size D : Int) = Pz.count S.E m := by rw [hme.2]
        have HOwn := Lib.hid hown
        clear hme hown
        go_wp2_with (at_len; refine wpList_len_own _ rfl _ 103 rfl 9 62 Tryz.underlying103 _ _ _ D rfl HOwn.out ?_)
        go_wp2_with fail
        refine (HFail.out 14 _).mono ?_
        rintro e wf ⟨rfl, hbf⟩
        have FXF := Lib.hid ((FX2.out.imp RA.toF).read ((RealF.held r) _) hbf)
        unfold replyV
        have fxe := FXF.out
        obtain ⟨c0, c1, c2, c3, c4, c5, c6, hf7⟩ := cells7 fxe.res
        have f0 := hf7 0
        have f1 := hf7 1
        have f2 := hf7 2
        have f3 := hf7 3
        have f4 := hf7 4
        have f5 := hf7 5
        have f6 := hf7 6
        have HG := Lib.hid fxe
        clear hf7 fxe
        go_wp2
        try simp only [Exit.inBlock, Exit.then]
        refine bodyPost_ret (results_cell_row rfl _ _ (w.heap.size + 1) _ _ _ _ rfl (row7 HG.out.res _ _ _ _ _ _ _) Tryz.underlying36 rfl Tryz.infoR) rfl ?_
        rw [HResF.out]
        exact HG.out.done (RealF.held r) (Pz.er 14) none 0 (Or.inl rfl) _ _ _ _ _ _ _
      · have HResF : Hid (R = ({ S with E := Pz.take S.E d x }, Pz.er 0)) := Lib.hid (by rw [hres, Pz.rmdirR, if_neg h47, hf]; simp only [hD, if_true, if_neg hC, hpl])
        have hC2 : ¬ (0 : Int) < Pz.count S.E m := by omega
        have hC3 : (Pz.count S.E m : Int) ≤ 0 := by omega
        have h2 := fun W G (hR : RA r bo β μ S W G) => fplace_any G r bo β μ S p W hp hG.ok hR
        rw [hpl] at h2
        simp only [toL] at h2
        have HP := Lib.hid h2
        have hdl := isDir_lt hdd
        have HNc2 := Lib.hid fun W G (h : RA r bo β μ S W G) => (RealAt.nc h hdl).2.2.1
        rw [hdd, if_pos rfl] at HNc2
        have HMap2 := Lib.hid fun W G (h : RA r bo β μ S W G) => RealAt.dirs h d hdd
        have HKey := Lib.hid (key_of (Pz.place_name hpl))
        have HDel := Lib.hid fun W W' G D n c (h : RA r bo β μ S W G) => RealAt.delName (w' := W') (x := x) (D := D) (n := n) (c := c) h hG.once hdd
        clear h1 h2 hres hR hG h47 hf hpl hlk hdd hm hD hC hdl
        go_enter Tryz.func27, Tryz.ntmps27
        go_wp2_with fail
        refine (HF.out _ _ FX.out.inv).mono ?_
        rintro e w1 ⟨rfl, hb1⟩
        have FX1 := Lib.hid (FX.out.read ((RA.held r bo β μ) _) hb1)
        clear hb1
        obtain ⟨b0, b1, b2, b3, b4, b5, b6, b7⟩ := FX1.out.c8
        go_wp2_with fail
        refine (HDir.out _ _ FX1.out.inv).mono ?_
        rintro e w2 ⟨rfl, hb2⟩
        have FX2 := Lib.hid (FX1.out.read ((RA.held r bo β μ) _) hb2)
        clear hb2
        clear b0 b1 b2 b3 b4 b5 b6 b7
        have n2 := HNc.out _ _ FX2.out.inv
        obtain ⟨D, hown, hme⟩ := HMap.out _ _ FX2.out.inv
        have hsz : (Maps.size D : Int) = Pz.count S.E m := by rw [hme.2]
        have HOwn := Lib.hid hown
        clear hme hown
        obtain ⟨b0, b1, b2, b3, b4, b5, b6, b7⟩ := FX2.out.c8
        go_wp2_with (at_len; refine wpList_len_own _ rfl _ 103 rfl 9 62 Tryz.underlying103 _ _ _ D rfl HOwn.out ?_)
        refine (HP.out _ _ FX2.out.inv).mono ?_
        rintro e w3 ⟨rfl, hb3⟩
        have FX3 := Lib.hid (FX2.out.read (RA.held r bo β μ _) hb3)
        clear b0 b1 b2 b3 b4 b5 b6 b7
        have n2 := HNc2.out _ _ FX3.out.inv
        obtain ⟨D2, hown2, hme2⟩ := HMap2.out _ _ FX3.out.inv
        have HOwn2 := Lib.hid hown2
        have HMe2 := Lib.hid hme2
        clear hown2 hme2 hb3
        go_wp2_with (at_delete; refine wpList_delete_own _ rfl _ _ 103 9 rfl 62 Tryz.strLaw Tryz.underlying103 _ _ _ D2 rfl HOwn2.out _ _ rfl HKey.out ?_; intro w4 hown4 hturn4)
        have hx := HDel.out _ _ _ _ _ _ FX3.out.inv HOwn2.out HMe2.out hown4 hturn4
        have FX4 := Lib.hid (FX3.out.put (RA.held r bo β μ _) hx.1 hx.2)
        clear hx hown4 hturn4
        go_wp2_with fail
        refine (HDone.out _).mono ?_
        rintro e wf ⟨rfl, hbf⟩
        have FXF := Lib.hid ((FX4.out.imp RA.toF).read (RealF.held r _) hbf)
        unfold replyV
        have fxe := FXF.out
        obtain ⟨c0, c1, c2, c3, c4, c5, c6, hf7⟩ := cells7 fxe.res
        have f0 := hf7 0
        have f1 := hf7 1
        have f2 := hf7 2
        have f3 := hf7 3
        have f4 := hf7 4
        have f5 := hf7 5
        have f6 := hf7 6
        have HG := Lib.hid fxe
        clear hf7 fxe
        go_wp2
        try simp only [Exit.inBlock, Exit.then]
        refine bodyPost_ret (results_cell_row rfl _ _ (w.heap.size + 1) _ _ _ _ rfl (row7 HG.out.res _ _ _ _ _ _ _) Tryz.underlying36 rfl Tryz.infoR) rfl ?_
        rw [HResF.out]
        exact HG.out.done (RealF.held r) (Pz.er 0) none 0 (Or.inl rfl) _ _ _ _ _ _ _

end Go.Proofs.YtbpejjmfdhkfhaaGreatDoor
