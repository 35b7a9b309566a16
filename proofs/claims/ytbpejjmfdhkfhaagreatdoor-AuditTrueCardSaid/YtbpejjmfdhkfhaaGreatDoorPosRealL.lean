/- Walks: the program's rename of a directory; its rename, whatever is asked. -/
import Derived.Test.YtbpejjmfdhkfhaaGreatDoorPosRealK
set_option linter.unusedVariables false
set_option linter.unusedSimpArgs false
namespace Go.Proofs.YtbpejjmfdhkfhaaGreatDoor
open Go.RowKit

set_option maxHeartbeats 8000000 in
set_option maxRecDepth 8192 in
theorem frename_dir [Inhabited XBox] (r : Nat) (S : Pz.Fil) (kind flags fd off n : Int) (p p2 data : ByteArray) (w : World) (F : Nat → Prop) (hpre : RenPre S p p2) (m : Nat) (hf : Pz.find S p.data.toList = .ok m) (hDt : Pz.isDir S.N m = true) (hR : RealF r S w F) :
    Calls Tryz.prog 30 #[.pointer (some ⟨r, 0, none⟩), callV kind p p2 flags fd off n data] w (Does (RealF r) (Pz.rename S p.data.toList p2.data.toList) w F) := by
  have HFail := Lib.hid ffails_any
  have HDone := Lib.hid fdone_any
  obtain ⟨bo, β, μ, hR⟩ := hR
  have FX := Lib.hid (Fx.start (RA.held r bo β μ S) hR #[.int .i64 kind, .string p, .string p2, .int .i64 flags, .int .i64 fd, .int .i64 off, .int .i64 n, .string data])
  have h0 := fun W G (hR : RA r bo β μ S W G) => fboth_any kind flags fd off n p p2 data W hpre.hp hpre.hp2 (RealAt.mx hR).1
  have h1 := fun W G (hR : RA r bo β μ S W G) => ffind_any G r bo β μ S p W hpre.hp hpre.good.ok hR
  have h2 := fun W G (hR : RA r bo β μ S W G) => fplace_any G r bo β μ S p2 W hpre.hp2 hpre.good.ok hR
  unfold callV at h0 ⊢
  rw [both_of hpre.ok] at h0
  have H0 := Lib.hid h0
  have h47a := path_ne hpre.h1
  have h47b := path_ne hpre.h2
  have hm := Pz.find_lt hpre.good.ok hf
  obtain ⟨o, y, hpo, hlk, hod⟩ := Pz.place_of_find hf hpre.h1
  rw [hf] at h1
  simp only [toW] at h1
  have HF := Lib.hid h1
  have HDir := Lib.hid fun W G (h : RA r bo β μ S W G) => fdir_any W G r bo m β μ S hm h
  rw [hDt] at HDir
  obtain ⟨R, hres⟩ : ∃ R, R = Pz.rename S p.data.toList p2.data.toList := ⟨_, rfl⟩
  rw [← hres]
  have HRes1 : Hid (R = if p.data.toList ≠ p2.data.toList ∧ insideB (Np.pathL p2.data.toList) (Np.pathL p.data.toList) = true then (S, Pz.er 15) else
    match Pz.place S p2.data.toList with
    | .error g => (S, Pz.er g)
    | .ok q => if Pz.look S.E q.1 q.2 = m then (S, Pz.er 0) else if Pz.overErr S m (Pz.look S.E q.1 q.2) ≠ 0 then (S, Pz.er (Pz.overErr S m (Pz.look S.E q.1 q.2))) else
      match Pz.place S p.data.toList with
      | .error _ => (S, Pz.er 0)
      | .ok o => ({ Pz.over S (Pz.look S.E q.1 q.2) q with E := Pz.take (Pz.over S (Pz.look S.E q.1 q.2) q).E o.1 o.2 ++ [⟨q.1, q.2, m⟩] }, Pz.er 0)) := Lib.hid (by
    rw [hres, Pz.rename, if_neg (by rintro (h | h | h | h)
                                    · exact hpre.ok (Or.inl h)
                                    · exact hpre.ok (Or.inr h)
                                    · exact hpre.h1 h
                                    · exact hpre.h2 h), hf]
    simp only [hDt, true_and]
    rfl)
  clear h0 h1 hres hR hDt
  by_cases hpp : p.data.toList = p2.data.toList
  · have hpb : (p.toList == p2.toList) = true := by rw [beq_iff_eq, Lib.toList_data, Lib.toList_data]; exact hpp
    have HRes2 := HRes1.out.trans (if_neg fun h => h.1 hpp)
    have hpl : Pz.place S p2.data.toList = .ok (o, y) := by rw [← hpp]; exact hpo
    have HResF : Hid (R = (S, Pz.er 0)) := Lib.hid (by rw [HRes2, hpl]; simp only [hlk, if_true])
    rw [hpl] at h2
    simp only [toL] at h2
    have HP := Lib.hid h2
    have hol := isDir_lt hod
    have HNc2 := Lib.hid fun W G (h : RA r bo β μ S W G) => (RealAt.nc h hol).2.2.1
    rw [hod, if_pos rfl] at HNc2
    have HMap2 := Lib.hid fun W G (h : RA r bo β μ S W G) => RealAt.dirs h o hod
    have HKey := Lib.hid (key_of (Pz.place_name hpo))
    have Hzm := Lib.hid hlk
    clear h2 hpl hpre hf hm hod hpo hlk hol hpp HRes2
    go_enter Tryz.func30, Tryz.ntmps30
    go_wp2_with fail
    refine (H0.out _ _ FX.out.inv).mono ?_
    rintro e w1 ⟨rfl, hb1⟩
    have FX1 := Lib.hid (FX.out.read ((RA.held r bo β μ) _) hb1)
    clear hb1
    obtain ⟨b0, b1, b2, b3, b4, b5, b6, b7⟩ := FX1.out.c8
    go_wp2_with fail
    refine (HF.out _ _ FX1.out.inv).mono ?_
    rintro e w2 ⟨rfl, hb2⟩
    have FX2 := Lib.hid (FX1.out.read ((RA.held r bo β μ) _) hb2)
    clear hb2
    clear b0 b1 b2 b3 b4 b5 b6 b7
    obtain ⟨b0, b1, b2, b3, b4, b5, b6, b7⟩ := FX2.out.c8
    go_wp2_with fail
    refine (HDir.out _ _ FX2.out.inv).mono ?_
    rintro e w3 ⟨rfl, hb3⟩
    have FX3 := Lib.hid (FX2.out.read ((RA.held r bo β μ) _) hb3)
    clear hb3
    clear b0 b1 b2 b3 b4 b5 b6 b7
    obtain ⟨b0, b1, b2, b3, b4, b5, b6, b7⟩ := FX3.out.c8
    go_wp2_with fail
    refine (HP.out _ _ FX3.out.inv).mono ?_
    rintro e w5 ⟨rfl, hb5⟩
    have FX5 := Lib.hid (FX3.out.read ((RA.held r bo β μ) _) hb5)
    clear hb5
    clear b0 b1 b2 b3 b4 b5 b6 b7
    have n2 := HNc2.out _ _ FX5.out.inv
    obtain ⟨D2, hown2, hme2⟩ := HMap2.out _ _ FX5.out.inv
    have HOwn2 := Lib.hid hown2
    have HAt := Lib.hid ((look_keys hme2 y).2 m Hzm.out)
    have heq := eql_same (β m) w5
    clear hown2 hme2
    go_wp2_with (at_lookup; refine lookup_at rfl _ _ 103 rfl 9 62 Tryz.strLaw Tryz.underlying103 (Tryz.zeroP _) _ _ D2 rfl HOwn2.out _ _ rfl HKey.out (β m) HAt.out ?_)
    go_wp2_with fail
    refine (HDone.out _).mono ?_
    rintro e wf ⟨rfl, hbf⟩
    have FXF := Lib.hid ((FX5.out.imp RA.toF).read (RealF.held r _) hbf)
    unfold replyV
    have fxe := FXF.out
    obtain ⟨c0, c1, c2, c3, c4, c5, c6, hf7⟩ := cells7 fxe.res
    have f0 := hf7 0
    have f1 := hf7 1
    have f2 := hf7 2
    have f3 := hf7 3
    have f4 := hf7 4
    have f5 := hf7 5
    have f6 := hf7 6
    have HG := Lib.hid fxe
    clear hf7 fxe
    go_wp2
    try simp only [Exit.inBlock, Exit.then]
    refine bodyPost_ret (results_cell_row rfl _ _ (w.heap.size + 1) _ _ _ _ rfl (row7 HG.out.res _ _ _ _ _ _ _) Tryz.underlying36 rfl Tryz.infoR) rfl ?_
    rw [HResF.out]
    exact HG.out.done (RealF.held r) (Pz.er 0) none 0 (Or.inl rfl) _ _ _ _ _ _ _
  have hpb : (p.toList == p2.toList) = false := by rw [beq_eq_false_iff_ne, Lib.toList_data, Lib.toList_data]; exact hpp
  have h4 := fun W G (h : RA r bo β μ S W G) => inside_any p2 p W hpre.hp2 hpre.hp (RealAt.mx h).1
  cases hin : insideB (Np.pathL p2.data.toList) (Np.pathL p.data.toList) with
  | true =>
    have HResF := Lib.hid (HRes1.out.trans (if_pos ⟨hpp, hin⟩))
    rw [hin] at h4
    have HI := Lib.hid h4
    clear h2 hpre hf hm hod hpo hlk hpp hin h4
    go_enter Tryz.func30, Tryz.ntmps30
    go_wp2_with fail
    refine (H0.out _ _ FX.out.inv).mono ?_
    rintro e w1 ⟨rfl, hb1⟩
    have FX1 := Lib.hid (FX.out.read ((RA.held r bo β μ) _) hb1)
    clear hb1
    obtain ⟨b0, b1, b2, b3, b4, b5, b6, b7⟩ := FX1.out.c8
    go_wp2_with fail
    refine (HF.out _ _ FX1.out.inv).mono ?_
    rintro e w2 ⟨rfl, hb2⟩
    have FX2 := Lib.hid (FX1.out.read ((RA.held r bo β μ) _) hb2)
    clear hb2
    clear b0 b1 b2 b3 b4 b5 b6 b7
    obtain ⟨b0, b1, b2, b3, b4, b5, b6, b7⟩ := FX2.out.c8
    go_wp2_with fail
    refine (HDir.out _ _ FX2.out.inv).mono ?_
    rintro e w3 ⟨rfl, hb3⟩
    have FX3 := Lib.hid (FX2.out.read ((RA.held r bo β μ) _) hb3)
    clear hb3
    clear b0 b1 b2 b3 b4 b5 b6 b7
    obtain ⟨b0, b1, b2, b3, b4, b5, b6, b7⟩ := FX3.out.c8
    go_wp2_with fail
    refine (HI.out _ _ FX3.out.inv).mono ?_
    rintro e w4 ⟨rfl, hb4⟩
    have FX4 := Lib.hid (FX3.out.read ((RA.held r bo β μ) _) hb4)
    clear hb4
    clear b0 b1 b2 b3 b4 b5 b6 b7
    go_wp2_with fail
    refine (HFail.out 15 _).mono ?_
    rintro e wf ⟨rfl, hbf⟩
    have FXF := Lib.hid ((FX4.out.imp RA.toF).read ((RealF.held r) _) hbf)
    unfold replyV
    have fxe := FXF.out
    obtain ⟨c0, c1, c2, c3, c4, c5, c6, hf7⟩ := cells7 fxe.res
    have f0 := hf7 0
    have f1 := hf7 1
    have f2 := hf7 2
    have f3 := hf7 3
    have f4 := hf7 4
    have f5 := hf7 5
    have f6 := hf7 6
    have HG := Lib.hid fxe
    clear hf7 fxe
    go_wp2
    try simp only [Exit.inBlock, Exit.then]
    refine bodyPost_ret (results_cell_row rfl _ _ (w.heap.size + 1) _ _ _ _ rfl (row7 HG.out.res _ _ _ _ _ _ _) Tryz.underlying36 rfl Tryz.infoR) rfl ?_
    rw [HResF.out]
    exact HG.out.done (RealF.held r) (Pz.er 15) none 0 (Or.inl rfl) _ _ _ _ _ _ _
  | false =>
    have HRes2 := Lib.hid (HRes1.out.trans (if_neg fun h => by rw [hin] at h; exact absurd h.2 (by decide)))
    rw [hin] at h4
    have HI := Lib.hid h4
    clear hpp hin h4
    cases hpl : Pz.place S p2.data.toList with
    | error v =>
      have HResF : Hid (R = (S, Pz.er v)) := Lib.hid (by rw [HRes2.out, hpl])
      obtain ⟨hv1, hv2, hv3⟩ := ne_of_err (Pz.place_err hpl)
      rw [hpl] at h2
      simp only [toL] at h2
      have HP := Lib.hid h2
      clear h2 hpl hpre hf hm hod hpo hlk
      go_enter Tryz.func30, Tryz.ntmps30
      go_wp2_with fail
      refine (H0.out _ _ FX.out.inv).mono ?_
      rintro e w1 ⟨rfl, hb1⟩
      have FX1 := Lib.hid (FX.out.read ((RA.held r bo β μ) _) hb1)
      clear hb1
      obtain ⟨b0, b1, b2, b3, b4, b5, b6, b7⟩ := FX1.out.c8
      go_wp2_with fail
      refine (HF.out _ _ FX1.out.inv).mono ?_
      rintro e w2 ⟨rfl, hb2⟩
      have FX2 := Lib.hid (FX1.out.read ((RA.held r bo β μ) _) hb2)
      clear hb2
      clear b0 b1 b2 b3 b4 b5 b6 b7
      obtain ⟨b0, b1, b2, b3, b4, b5, b6, b7⟩ := FX2.out.c8
      go_wp2_with fail
      refine (HDir.out _ _ FX2.out.inv).mono ?_
      rintro e w3 ⟨rfl, hb3⟩
      have FX3 := Lib.hid (FX2.out.read ((RA.held r bo β μ) _) hb3)
      clear hb3
      clear b0 b1 b2 b3 b4 b5 b6 b7
      obtain ⟨b0, b1, b2, b3, b4, b5, b6, b7⟩ := FX3.out.c8
      go_wp2_with fail
      refine (HI.out _ _ FX3.out.inv).mono ?_
      rintro e w4 ⟨rfl, hb4⟩
      have FX4 := Lib.hid (FX3.out.read ((RA.held r bo β μ) _) hb4)
      clear hb4
      clear b0 b1 b2 b3 b4 b5 b6 b7
      obtain ⟨b0, b1, b2, b3, b4, b5, b6, b7⟩ := FX4.out.c8
      go_wp2_with fail
      refine (HP.out _ _ FX4.out.inv).mono ?_
      rintro e w5 ⟨rfl, hb5⟩
      have FX5 := Lib.hid (FX4.out.read ((RA.held r bo β μ) _) hb5)
      clear hb5
      clear b0 b1 b2 b3 b4 b5 b6 b7
      go_wp2_with fail
      refine (HFail.out v _).mono ?_
      rintro e wf ⟨rfl, hbf⟩
      have FXF := Lib.hid ((FX5.out.imp RA.toF).read ((RealF.held r) _) hbf)
      unfold replyV
      have fxe := FXF.out
      obtain ⟨c0, c1, c2, c3, c4, c5, c6, hf7⟩ := cells7 fxe.res
      have f0 := hf7 0
      have f1 := hf7 1
      have f2 := hf7 2
      have f3 := hf7 3
      have f4 := hf7 4
      have f5 := hf7 5
      have f6 := hf7 6
      have HG := Lib.hid fxe
      clear hf7 fxe
      go_wp2
      try simp only [Exit.inBlock, Exit.then]
      refine bodyPost_ret (results_cell_row rfl _ _ (w.heap.size + 1) _ _ _ _ rfl (row7 HG.out.res _ _ _ _ _ _ _) Tryz.underlying36 rfl Tryz.infoR) rfl ?_
      rw [HResF.out]
      exact HG.out.done (RealF.held r) (Pz.er v) none 0 (Or.inl rfl) _ _ _ _ _ _ _
    | ok dx =>
      obtain ⟨d, x⟩ := dx
      rw [hpl] at h2
      simp only [toL] at h2
      have HP := Lib.hid h2
      obtain ⟨hdl, hdd⟩ := Pz.place_lt hpre.good.ok hpl
      have HNc2 := Lib.hid fun W G (h : RA r bo β μ S W G) => (RealAt.nc h hdl).2.2.1
      rw [hdd, if_pos rfl] at HNc2
      have HMap2 := Lib.hid fun W G (h : RA r bo β μ S W G) => RealAt.dirs h d hdd
      have HKey := Lib.hid (key_of (Pz.place_name hpl))
      have HRes3 : Hid (R = if Pz.look S.E d x = m then (S, Pz.er 0) else if Pz.overErr S m (Pz.look S.E d x) ≠ 0 then (S, Pz.er (Pz.overErr S m (Pz.look S.E d x))) else match Pz.place S p.data.toList with | .error _ => (S, Pz.er 0) | .ok o => ({ Pz.over S (Pz.look S.E d x) (d, x) with E := Pz.take (Pz.over S (Pz.look S.E d x) (d, x)).E o.1 o.2 ++ [⟨d, x, m⟩] }, Pz.er 0)) := Lib.hid (by rw [HRes2.out, hpl])
      have hlq := Pz.look_lt (n := S.N.length) (i := d) (x := x) hpre.good.ok.ent
      by_cases hzm : Pz.look S.E d x = m
      · have HResF := Lib.hid (HRes3.out.trans (if_pos hzm))
        have Hzm := Lib.hid hzm
        clear h2 hpl hpre hf hm hod hpo hlk hdl hdd hlq hzm
        go_enter Tryz.func30, Tryz.ntmps30
        go_wp2_with fail
        refine (H0.out _ _ FX.out.inv).mono ?_
        rintro e w1 ⟨rfl, hb1⟩
        have FX1 := Lib.hid (FX.out.read ((RA.held r bo β μ) _) hb1)
        clear hb1
        obtain ⟨b0, b1, b2, b3, b4, b5, b6, b7⟩ := FX1.out.c8
        go_wp2_with fail
        refine (HF.out _ _ FX1.out.inv).mono ?_
        rintro e w2 ⟨rfl, hb2⟩
        have FX2 := Lib.hid (FX1.out.read ((RA.held r bo β μ) _) hb2)
        clear hb2
        clear b0 b1 b2 b3 b4 b5 b6 b7
        obtain ⟨b0, b1, b2, b3, b4, b5, b6, b7⟩ := FX2.out.c8
        go_wp2_with fail
        refine (HDir.out _ _ FX2.out.inv).mono ?_
        rintro e w3 ⟨rfl, hb3⟩
        have FX3 := Lib.hid (FX2.out.read ((RA.held r bo β μ) _) hb3)
        clear hb3
        clear b0 b1 b2 b3 b4 b5 b6 b7
        obtain ⟨b0, b1, b2, b3, b4, b5, b6, b7⟩ := FX3.out.c8
        go_wp2_with fail
        refine (HI.out _ _ FX3.out.inv).mono ?_
        rintro e w4 ⟨rfl, hb4⟩
        have FX4 := Lib.hid (FX3.out.read ((RA.held r bo β μ) _) hb4)
        clear hb4
        clear b0 b1 b2 b3 b4 b5 b6 b7
        obtain ⟨b0, b1, b2, b3, b4, b5, b6, b7⟩ := FX4.out.c8
        go_wp2_with fail
        refine (HP.out _ _ FX4.out.inv).mono ?_
        rintro e w5 ⟨rfl, hb5⟩
        have FX5 := Lib.hid (FX4.out.read ((RA.held r bo β μ) _) hb5)
        clear hb5
        clear b0 b1 b2 b3 b4 b5 b6 b7
        have n2 := HNc2.out _ _ FX5.out.inv
        obtain ⟨D2, hown2, hme2⟩ := HMap2.out _ _ FX5.out.inv
        have HOwn2 := Lib.hid hown2
        have HLs := Lib.hid (look_keys hme2 x)
        clear hown2 hme2
        have HAt := Lib.hid (HLs.out.2 m Hzm.out)
        have heq := eql_same (β m) w5
        go_wp2_with (at_lookup; refine lookup_at rfl _ _ 103 rfl 9 62 Tryz.strLaw Tryz.underlying103 (Tryz.zeroP _) _ _ D2 rfl HOwn2.out _ _ rfl HKey.out (β m) HAt.out ?_)
        go_wp2_with fail
        refine (HDone.out _).mono ?_
        rintro e wf ⟨rfl, hbf⟩
        have FXF := Lib.hid ((FX5.out.imp RA.toF).read (RealF.held r _) hbf)
        unfold replyV
        have fxe := FXF.out
        obtain ⟨c0, c1, c2, c3, c4, c5, c6, hf7⟩ := cells7 fxe.res
        have f0 := hf7 0
        have f1 := hf7 1
        have f2 := hf7 2
        have f3 := hf7 3
        have f4 := hf7 4
        have f5 := hf7 5
        have f6 := hf7 6
        have HG := Lib.hid fxe
        clear hf7 fxe
        go_wp2
        try simp only [Exit.inBlock, Exit.then]
        refine bodyPost_ret (results_cell_row rfl _ _ (w.heap.size + 1) _ _ _ _ rfl (row7 HG.out.res _ _ _ _ _ _ _) Tryz.underlying36 rfl Tryz.infoR) rfl ?_
        rw [HResF.out]
        exact HG.out.done (RealF.held r) (Pz.er 0) none 0 (Or.inl rfl) _ _ _ _ _ _ _
      by_cases hz : Pz.look S.E d x < 0
      · have HResF : Hid (R = ({ S with N := S.N, E := Pz.take (Pz.take S.E o y) d x ++ [⟨d, x, m⟩] }, Pz.er 0)) := Lib.hid (by
          rw [HRes3.out, if_neg hzm, if_neg (by unfold Pz.overErr; rw [if_neg (by omega)]; simp), hpo]
          unfold Pz.over
          rw [if_neg (by omega), Pz.take_comm, Pz.take_absent hz])
        have hdirs : ∀ k, Pz.isDir S.N k = Pz.isDir S.N k := fun _ => rfl
        have hokN : Pz.Ok { S with N := S.N } := hpre.good.ok
        have Hz := Lib.hid hz
        have h3 := fun W G (hR : RA r bo β μ { S with N := S.N } W G) => fplace_any G r bo β μ { S with N := S.N } p W hpre.hp hokN hR
        rw [show Pz.place ({ S with N := S.N } : Pz.Fil) p.data.toList = .ok (o, y) from (Pz.place_same (S := S) (T := { S with N := S.N }) hdirs rfl).trans hpo] at h3
        simp only [toL] at h3
        have HP1 := Lib.hid h3
        have hol := isDir_lt hod
        have hdl := isDir_lt hdd
        have hod1 : Pz.isDir S.N o = true := (hdirs o).trans hod
        have hdd1 : Pz.isDir S.N d = true := (hdirs d).trans hdd
        have hncO := fun W G (h : RA r bo β μ { S with N := S.N } W G) => (RealAt.nc h (n := o) (show o < (S.N).length from isDir_lt hod1)).2.2.1
        rw [show Pz.isDir ({ S with N := S.N } : Pz.Fil).N o = true from hod1, if_pos rfl] at hncO
        have HNcO := Lib.hid hncO
        have HMapO := Lib.hid fun W G (h : RA r bo β μ { S with N := S.N } W G) => RealAt.dirs h o hod1
        have HDelO := Lib.hid fun W W' G D n c (h : RA r bo β μ { S with N := S.N } W G) => RealAt.delName (w' := W') (x := y) (D := D) (n := n) (c := c) h hpre.good.once hod1
        have hncD := fun W G (h : RA r bo β μ { S with N := S.N, E := Pz.take S.E o y } W G) => (RealAt.nc h (n := d) (show d < (S.N).length from isDir_lt hdd1)).2.2.1
        rw [show Pz.isDir ({ S with N := S.N, E := Pz.take S.E o y } : Pz.Fil).N d = true from hdd1, if_pos rfl] at hncD
        have HNcD := Lib.hid hncD
        have HMapD := Lib.hid fun W G (h : RA r bo β μ { S with N := S.N, E := Pz.take S.E o y } W G) => RealAt.dirs h d hdd1
        have HPutD := Lib.hid fun W W' G D n c (h : RA r bo β μ { S with N := S.N, E := Pz.take S.E o y } W G) => RealAt.putName (w' := W') (x := x) (D := D) (n := n) (c := c) (m := m) h (hpre.good.once.filter _) hdd1
        have HKeyO := Lib.hid (key_of (Pz.place_name hpo))
        have HCnt : Hid (Pz.count (Pz.take S.E o y) d < maxLen) := Lib.hid (by
          have h5 := List.length_filter_le (fun e : Pz.En => e.dir == d) (Pz.take S.E o y)
          have h6 := Pz.take_le S.E o y
          have h7 := hpre.good.e
          unfold maxLen Pz.count
          omega)
        clear h3 hol hdl hncO hncD
        have HOv := Lib.hid (fover_nil (β m))
        clear h2 hpl hpre hf hm hod hpo hlk hdd hlq hzm hz hdirs hokN hod1 hdd1
        go_enter Tryz.func30, Tryz.ntmps30
        go_wp2_with fail
        refine (H0.out _ _ FX.out.inv).mono ?_
        rintro e w1 ⟨rfl, hb1⟩
        have FX1 := Lib.hid (FX.out.read ((RA.held r bo β μ) _) hb1)
        clear hb1
        obtain ⟨b0, b1, b2, b3, b4, b5, b6, b7⟩ := FX1.out.c8
        go_wp2_with fail
        refine (HF.out _ _ FX1.out.inv).mono ?_
        rintro e w2 ⟨rfl, hb2⟩
        have FX2 := Lib.hid (FX1.out.read ((RA.held r bo β μ) _) hb2)
        clear hb2
        clear b0 b1 b2 b3 b4 b5 b6 b7
        obtain ⟨b0, b1, b2, b3, b4, b5, b6, b7⟩ := FX2.out.c8
        go_wp2_with fail
        refine (HDir.out _ _ FX2.out.inv).mono ?_
        rintro e w3 ⟨rfl, hb3⟩
        have FX3 := Lib.hid (FX2.out.read ((RA.held r bo β μ) _) hb3)
        clear hb3
        clear b0 b1 b2 b3 b4 b5 b6 b7
        obtain ⟨b0, b1, b2, b3, b4, b5, b6, b7⟩ := FX3.out.c8
        go_wp2_with fail
        refine (HI.out _ _ FX3.out.inv).mono ?_
        rintro e w4 ⟨rfl, hb4⟩
        have FX4 := Lib.hid (FX3.out.read ((RA.held r bo β μ) _) hb4)
        clear hb4
        clear b0 b1 b2 b3 b4 b5 b6 b7
        obtain ⟨b0, b1, b2, b3, b4, b5, b6, b7⟩ := FX4.out.c8
        go_wp2_with fail
        refine (HP.out _ _ FX4.out.inv).mono ?_
        rintro e w5 ⟨rfl, hb5⟩
        have FX5 := Lib.hid (FX4.out.read ((RA.held r bo β μ) _) hb5)
        clear hb5
        clear b0 b1 b2 b3 b4 b5 b6 b7
        have n2 := HNc2.out _ _ FX5.out.inv
        obtain ⟨D2, hown2, hme2⟩ := HMap2.out _ _ FX5.out.inv
        have HOwn2 := Lib.hid hown2
        have HLs := Lib.hid (look_keys hme2 x)
        clear hown2 hme2
        have HAt := Lib.hid (HLs.out.1 Hz.out)
        have heq := eql_nil (β m) w5
        go_wp2_with (at_lookup; refine lookup_nil rfl _ _ 103 rfl 9 62 Tryz.strLaw Tryz.underlying103 (Tryz.zeroP _) _ _ D2 rfl HOwn2.out _ _ rfl HKey.out HAt.out ?_)
        clear n2
        go_wp2_with fail
        refine (HOv.out _).mono ?_
        rintro e w6 ⟨rfl, hb6⟩
        have FX6 := Lib.hid (FX5.out.read ((RA.held r bo β μ) _) hb6)
        clear hb6
        obtain ⟨b0, b1, b2, b3, b4, b5, b6, b7⟩ := FX6.out.c8
        go_wp2_with fail
        refine (HP1.out _ _ FX6.out.inv).mono ?_
        rintro e w7 ⟨rfl, hb7⟩
        have FX7 := Lib.hid (FX6.out.read ((RA.held r bo β μ) _) hb7)
        clear hb7
        clear b0 b1 b2 b3 b4 b5 b6 b7
        have nO := HNcO.out _ _ FX7.out.inv
        obtain ⟨DO, hownO, hmeO⟩ := HMapO.out _ _ FX7.out.inv
        have HOwnO := Lib.hid hownO
        have HMeO := Lib.hid hmeO
        clear hownO hmeO
        go_wp2_with (first | (at_delete; refine wpList_delete_own _ rfl _ _ 103 9 rfl 62 Tryz.strLaw Tryz.underlying103 _ _ _ DO rfl HOwnO.out _ _ rfl HKeyO.out ?_; intro w8 hown8 hturn8; have HX8 := Lib.hid (HDelO.out _ _ _ _ _ _ FX7.out.inv HOwnO.out HMeO.out hown8 hturn8); have nD := HNcD.out _ _ HX8.out.1; obtain ⟨DD, hownD, hmeD⟩ := HMapD.out _ _ HX8.out.1; have HOwnD := Lib.hid hownD; have HMeD := Lib.hid hmeD; clear hown8 hturn8 hownD hmeD) | (at_mapUpdate; refine wpList_mapUpdate_in _ rfl _ _ _ 103 rfl 9 62 Tryz.strLaw Tryz.underlying103 _ _ _ DD rfl HOwnD.out HCnt.out _ _ _ rfl rfl HKey.out (.lit (.int .i64 (β m))) [] rfl ?_; intro w9 hown9 hturn9; have HX9 := Lib.hid (HPutD.out _ _ _ _ _ _ HX8.out.1 HOwnD.out HMeD.out hown9 hturn9); clear hown9 hturn9))
        have FX8 := Lib.hid (FX7.out.put (RA.held r bo β μ _) HX8.out.1 HX8.out.2)
        have FX9 := Lib.hid (FX8.out.put (RA.held r bo β μ _) HX9.out.1 HX9.out.2)
        go_wp2_with fail
        refine (HDone.out _).mono ?_
        rintro e wf ⟨rfl, hbf⟩
        have FXF := Lib.hid ((FX9.out.imp RA.toF).read (RealF.held r _) hbf)
        unfold replyV
        have fxe := FXF.out
        obtain ⟨c0, c1, c2, c3, c4, c5, c6, hf7⟩ := cells7 fxe.res
        have f0 := hf7 0
        have f1 := hf7 1
        have f2 := hf7 2
        have f3 := hf7 3
        have f4 := hf7 4
        have f5 := hf7 5
        have f6 := hf7 6
        have HG := Lib.hid fxe
        clear hf7 fxe
        go_wp2
        try simp only [Exit.inBlock, Exit.then]
        refine bodyPost_ret (results_cell_row rfl _ _ (w.heap.size + 1) _ _ _ _ rfl (row7 HG.out.res _ _ _ _ _ _ _) Tryz.underlying36 rfl Tryz.infoR) rfl ?_
        rw [HResF.out]
        exact HG.out.done (RealF.held r) (Pz.er 0) none 0 (Or.inl rfl) _ _ _ _ _ _ _
      obtain ⟨k, hk⟩ : ∃ k : Nat, Pz.look S.E d x = k := ⟨(Pz.look S.E d x).toNat, by omega⟩
      have hkl : k < S.N.length := by omega
      have Hk := Lib.hid hk
      have hkm : ¬ k = m := by omega
      have hbb : ¬ β k = β m := fun e => hkm (RealAt.bInj FX.out.inv k m hkl hm e)
      have HEq := Lib.hid fun W G (h : RA r bo β μ S W G) => eql_other hbb (RealAt.node h k hkl) (RealAt.node h m hm)
      have HOv := Lib.hid fun W G (h : RA r bo β μ S W G) => fover_any W G r bo m k β μ S hm hkl h
      rw [hk] at HRes3
      by_cases hov : Pz.overErr S m k = 0
      · rw [hov] at HOv
        have HDk := Lib.hid fun W G (h : RA r bo β μ S W G) => fdir_any W G r bo k β μ S hkl h
        have HRes4 := Lib.hid (HRes3.out.trans (if_neg (by omega)))
        have HRes5 := Lib.hid (HRes4.out.trans (if_neg (by rw [hov]; simp)))
        have hso := Pz.over_nat (S := S) (k := k) (q := (d, x))
        cases hE : Pz.isDir S.N k with
        | true =>
          rw [hE] at HDk
          rw [hE, if_pos rfl] at hso
          have HResF : Hid (R = ({ S with N := S.N, E := Pz.take (Pz.take S.E o y) d x ++ [⟨d, x, m⟩] }, Pz.er 0)) := Lib.hid (by rw [HRes5.out, hpo, hso, Pz.take_comm])
          have hdirs : ∀ k, Pz.isDir S.N k = Pz.isDir S.N k := fun _ => rfl
          have hokN : Pz.Ok { S with N := S.N } := hpre.good.ok
          have h3 := fun W G (hR : RA r bo β μ { S with N := S.N } W G) => fplace_any G r bo β μ { S with N := S.N } p W hpre.hp hokN hR
          rw [show Pz.place ({ S with N := S.N } : Pz.Fil) p.data.toList = .ok (o, y) from (Pz.place_same (S := S) (T := { S with N := S.N }) hdirs rfl).trans hpo] at h3
          simp only [toL] at h3
          have HP1 := Lib.hid h3
          have hol := isDir_lt hod
          have hdl := isDir_lt hdd
          have hod1 : Pz.isDir S.N o = true := (hdirs o).trans hod
          have hdd1 : Pz.isDir S.N d = true := (hdirs d).trans hdd
          have hncO := fun W G (h : RA r bo β μ { S with N := S.N } W G) => (RealAt.nc h (n := o) (show o < (S.N).length from isDir_lt hod1)).2.2.1
          rw [show Pz.isDir ({ S with N := S.N } : Pz.Fil).N o = true from hod1, if_pos rfl] at hncO
          have HNcO := Lib.hid hncO
          have HMapO := Lib.hid fun W G (h : RA r bo β μ { S with N := S.N } W G) => RealAt.dirs h o hod1
          have HDelO := Lib.hid fun W W' G D n c (h : RA r bo β μ { S with N := S.N } W G) => RealAt.delName (w' := W') (x := y) (D := D) (n := n) (c := c) h hpre.good.once hod1
          have hncD := fun W G (h : RA r bo β μ { S with N := S.N, E := Pz.take S.E o y } W G) => (RealAt.nc h (n := d) (show d < (S.N).length from isDir_lt hdd1)).2.2.1
          rw [show Pz.isDir ({ S with N := S.N, E := Pz.take S.E o y } : Pz.Fil).N d = true from hdd1, if_pos rfl] at hncD
          have HNcD := Lib.hid hncD
          have HMapD := Lib.hid fun W G (h : RA r bo β μ { S with N := S.N, E := Pz.take S.E o y } W G) => RealAt.dirs h d hdd1
          have HPutD := Lib.hid fun W W' G D n c (h : RA r bo β μ { S with N := S.N, E := Pz.take S.E o y } W G) => RealAt.putName (w' := W') (x := x) (D := D) (n := n) (c := c) (m := m) h (hpre.good.once.filter _) hdd1
          have HKeyO := Lib.hid (key_of (Pz.place_name hpo))
          have HCnt : Hid (Pz.count (Pz.take S.E o y) d < maxLen) := Lib.hid (by
            have h5 := List.length_filter_le (fun e : Pz.En => e.dir == d) (Pz.take S.E o y)
            have h6 := Pz.take_le S.E o y
            have h7 := hpre.good.e
            unfold maxLen Pz.count
            omega)
          clear h3 hol hdl hncO hncD
          clear h2 hpl hpre hf hm hod hpo hlk hdd hlq hzm hz hdirs hokN hod1 hdd1 hk hkl hkm hov hE hso
          go_enter Tryz.func30, Tryz.ntmps30
          go_wp2_with fail
          refine (H0.out _ _ FX.out.inv).mono ?_
          rintro e w1 ⟨rfl, hb1⟩
          have FX1 := Lib.hid (FX.out.read ((RA.held r bo β μ) _) hb1)
          clear hb1
          obtain ⟨b0, b1, b2, b3, b4, b5, b6, b7⟩ := FX1.out.c8
          go_wp2_with fail
          refine (HF.out _ _ FX1.out.inv).mono ?_
          rintro e w2 ⟨rfl, hb2⟩
          have FX2 := Lib.hid (FX1.out.read ((RA.held r bo β μ) _) hb2)
          clear hb2
          clear b0 b1 b2 b3 b4 b5 b6 b7
          obtain ⟨b0, b1, b2, b3, b4, b5, b6, b7⟩ := FX2.out.c8
          go_wp2_with fail
          refine (HDir.out _ _ FX2.out.inv).mono ?_
          rintro e w3 ⟨rfl, hb3⟩
          have FX3 := Lib.hid (FX2.out.read ((RA.held r bo β μ) _) hb3)
          clear hb3
          clear b0 b1 b2 b3 b4 b5 b6 b7
          obtain ⟨b0, b1, b2, b3, b4, b5, b6, b7⟩ := FX3.out.c8
          go_wp2_with fail
          refine (HI.out _ _ FX3.out.inv).mono ?_
          rintro e w4 ⟨rfl, hb4⟩
          have FX4 := Lib.hid (FX3.out.read ((RA.held r bo β μ) _) hb4)
          clear hb4
          clear b0 b1 b2 b3 b4 b5 b6 b7
          obtain ⟨b0, b1, b2, b3, b4, b5, b6, b7⟩ := FX4.out.c8
          go_wp2_with fail
          refine (HP.out _ _ FX4.out.inv).mono ?_
          rintro e w5 ⟨rfl, hb5⟩
          have FX5 := Lib.hid (FX4.out.read ((RA.held r bo β μ) _) hb5)
          clear hb5
          clear b0 b1 b2 b3 b4 b5 b6 b7
          have n2 := HNc2.out _ _ FX5.out.inv
          obtain ⟨D2, hown2, hme2⟩ := HMap2.out _ _ FX5.out.inv
          have HOwn2 := Lib.hid hown2
          have HLs := Lib.hid (look_keys hme2 x)
          clear hown2 hme2
          have HAt := Lib.hid (HLs.out.2 k Hk.out)
          have heq := HEq.out _ _ FX5.out.inv
          go_wp2_with (at_lookup; refine lookup_at rfl _ _ 103 rfl 9 62 Tryz.strLaw Tryz.underlying103 (Tryz.zeroP _) _ _ D2 rfl HOwn2.out _ _ rfl HKey.out (β k) HAt.out ?_)
          clear n2
          go_wp2_with fail
          refine (HOv.out _ _ FX5.out.inv).mono ?_
          rintro e w6 ⟨rfl, hb6⟩
          have FX6 := Lib.hid (FX5.out.read ((RA.held r bo β μ) _) hb6)
          clear hb6
          go_wp2_with fail
          refine (HDk.out _ _ FX6.out.inv).mono ?_
          rintro e w6b ⟨rfl, hb6b⟩
          have FX6b := Lib.hid (FX6.out.read ((RA.held r bo β μ) _) hb6b)
          clear hb6b
          obtain ⟨b0, b1, b2, b3, b4, b5, b6, b7⟩ := FX6b.out.c8
          go_wp2_with fail
          refine (HP1.out _ _ FX6b.out.inv).mono ?_
          rintro e w7 ⟨rfl, hb7⟩
          have FX7 := Lib.hid (FX6b.out.read ((RA.held r bo β μ) _) hb7)
          clear hb7
          clear b0 b1 b2 b3 b4 b5 b6 b7
          have nO := HNcO.out _ _ FX7.out.inv
          obtain ⟨DO, hownO, hmeO⟩ := HMapO.out _ _ FX7.out.inv
          have HOwnO := Lib.hid hownO
          have HMeO := Lib.hid hmeO
          clear hownO hmeO
          go_wp2_with (first | (at_delete; refine wpList_delete_own _ rfl _ _ 103 9 rfl 62 Tryz.strLaw Tryz.underlying103 _ _ _ DO rfl HOwnO.out _ _ rfl HKeyO.out ?_; intro w8 hown8 hturn8; have HX8 := Lib.hid (HDelO.out _ _ _ _ _ _ FX7.out.inv HOwnO.out HMeO.out hown8 hturn8); have nD := HNcD.out _ _ HX8.out.1; obtain ⟨DD, hownD, hmeD⟩ := HMapD.out _ _ HX8.out.1; have HOwnD := Lib.hid hownD; have HMeD := Lib.hid hmeD; clear hown8 hturn8 hownD hmeD) | (at_mapUpdate; refine wpList_mapUpdate_in _ rfl _ _ _ 103 rfl 9 62 Tryz.strLaw Tryz.underlying103 _ _ _ DD rfl HOwnD.out HCnt.out _ _ _ rfl rfl HKey.out (.lit (.int .i64 (β m))) [] rfl ?_; intro w9 hown9 hturn9; have HX9 := Lib.hid (HPutD.out _ _ _ _ _ _ HX8.out.1 HOwnD.out HMeD.out hown9 hturn9); clear hown9 hturn9))
          have FX8 := Lib.hid (FX7.out.put (RA.held r bo β μ _) HX8.out.1 HX8.out.2)
          have FX9 := Lib.hid (FX8.out.put (RA.held r bo β μ _) HX9.out.1 HX9.out.2)
          go_wp2_with fail
          refine (HDone.out _).mono ?_
          rintro e wf ⟨rfl, hbf⟩
          have FXF := Lib.hid ((FX9.out.imp RA.toF).read (RealF.held r _) hbf)
          unfold replyV
          have fxe := FXF.out
          obtain ⟨c0, c1, c2, c3, c4, c5, c6, hf7⟩ := cells7 fxe.res
          have f0 := hf7 0
          have f1 := hf7 1
          have f2 := hf7 2
          have f3 := hf7 3
          have f4 := hf7 4
          have f5 := hf7 5
          have f6 := hf7 6
          have HG := Lib.hid fxe
          clear hf7 fxe
          go_wp2
          try simp only [Exit.inBlock, Exit.then]
          refine bodyPost_ret (results_cell_row rfl _ _ (w.heap.size + 1) _ _ _ _ rfl (row7 HG.out.res _ _ _ _ _ _ _) Tryz.underlying36 rfl Tryz.infoR) rfl ?_
          rw [HResF.out]
          exact HG.out.done (RealF.held r) (Pz.er 0) none 0 (Or.inl rfl) _ _ _ _ _ _ _
        | false =>
          rw [hE] at HDk
          obtain ⟨l, hl⟩ : ∃ l, l = (Pz.nodeD S.N k).links := ⟨_, rfl⟩
          obtain ⟨hlb1, hlb2⟩ : l ≤ 20 ∧ -1000 ≤ l := by rw [hl]; exact Pz.nodeD_links hpre.good hkl
          rw [hE, if_neg (by decide), ← hl] at hso
          have hLk := fun W G (h : RA r bo β μ S W G) => RealAt.links h (n := k) hkl (l - 1)
          obtain ⟨N1, hN1⟩ : ∃ N1, N1 = S.N.set k { Pz.nodeD S.N k with links := l - 1 } := ⟨_, rfl⟩
          rw [← hN1] at hso hLk
          have HLk := Lib.hid hLk
          have HResF : Hid (R = ({ S with N := N1, E := Pz.take (Pz.take S.E o y) d x ++ [⟨d, x, m⟩] }, Pz.er 0)) := Lib.hid (by rw [HRes5.out, hpo, hso, Pz.take_comm])
          have hdirs : ∀ j, Pz.isDir N1 j = Pz.isDir S.N j := fun j => by rw [hN1]; exact Pz.isDir_set (y := { Pz.nodeD S.N k with links := l - 1 }) (Pz.nodeD_dir _ _) j
          have hokN : Pz.Ok { S with N := N1 } := by rw [hN1]; exact Pz.ok_set hpre.good.ok _ _
          have hncK := fun W G (h : RA r bo β μ S W G) => And.intro (RealAt.nc h (n := k) hkl).2.1 (RealAt.nc h (n := k) hkl).2.2.2.2
          rw [← hl] at hncK
          have HNcK := Lib.hid hncK
          have h3 := fun W G (hR : RA r bo β μ { S with N := N1 } W G) => fplace_any G r bo β μ { S with N := N1 } p W hpre.hp hokN hR
          rw [show Pz.place ({ S with N := N1 } : Pz.Fil) p.data.toList = .ok (o, y) from (Pz.place_same (S := S) (T := { S with N := N1 }) hdirs rfl).trans hpo] at h3
          simp only [toL] at h3
          have HP1 := Lib.hid h3
          have hol := isDir_lt hod
          have hdl := isDir_lt hdd
          have hod1 : Pz.isDir N1 o = true := (hdirs o).trans hod
          have hdd1 : Pz.isDir N1 d = true := (hdirs d).trans hdd
          have hncO := fun W G (h : RA r bo β μ { S with N := N1 } W G) => (RealAt.nc h (n := o) (show o < (N1).length from isDir_lt hod1)).2.2.1
          rw [show Pz.isDir ({ S with N := N1 } : Pz.Fil).N o = true from hod1, if_pos rfl] at hncO
          have HNcO := Lib.hid hncO
          have HMapO := Lib.hid fun W G (h : RA r bo β μ { S with N := N1 } W G) => RealAt.dirs h o hod1
          have HDelO := Lib.hid fun W W' G D n c (h : RA r bo β μ { S with N := N1 } W G) => RealAt.delName (w' := W') (x := y) (D := D) (n := n) (c := c) h hpre.good.once hod1
          have hncD := fun W G (h : RA r bo β μ { S with N := N1, E := Pz.take S.E o y } W G) => (RealAt.nc h (n := d) (show d < (N1).length from isDir_lt hdd1)).2.2.1
          rw [show Pz.isDir ({ S with N := N1, E := Pz.take S.E o y } : Pz.Fil).N d = true from hdd1, if_pos rfl] at hncD
          have HNcD := Lib.hid hncD
          have HMapD := Lib.hid fun W G (h : RA r bo β μ { S with N := N1, E := Pz.take S.E o y } W G) => RealAt.dirs h d hdd1
          have HPutD := Lib.hid fun W W' G D n c (h : RA r bo β μ { S with N := N1, E := Pz.take S.E o y } W G) => RealAt.putName (w' := W') (x := x) (D := D) (n := n) (c := c) (m := m) h (hpre.good.once.filter _) hdd1
          have HKeyO := Lib.hid (key_of (Pz.place_name hpo))
          have HCnt : Hid (Pz.count (Pz.take S.E o y) d < maxLen) := Lib.hid (by
            have h5 := List.length_filter_le (fun e : Pz.En => e.dir == d) (Pz.take S.E o y)
            have h6 := Pz.take_le S.E o y
            have h7 := hpre.good.e
            unfold maxLen Pz.count
            omega)
          clear h3 hol hdl hncO hncD
          clear h2 hpl hpre hf hm hod hpo hlk hdd hlq hzm hz hdirs hokN hod1 hdd1 hk hkl hkm hov hE hso hl hLk hN1 hncK
          go_enter Tryz.func30, Tryz.ntmps30
          go_wp2_with fail
          refine (H0.out _ _ FX.out.inv).mono ?_
          rintro e w1 ⟨rfl, hb1⟩
          have FX1 := Lib.hid (FX.out.read ((RA.held r bo β μ) _) hb1)
          clear hb1
          obtain ⟨b0, b1, b2, b3, b4, b5, b6, b7⟩ := FX1.out.c8
          go_wp2_with fail
          refine (HF.out _ _ FX1.out.inv).mono ?_
          rintro e w2 ⟨rfl, hb2⟩
          have FX2 := Lib.hid (FX1.out.read ((RA.held r bo β μ) _) hb2)
          clear hb2
          clear b0 b1 b2 b3 b4 b5 b6 b7
          obtain ⟨b0, b1, b2, b3, b4, b5, b6, b7⟩ := FX2.out.c8
          go_wp2_with fail
          refine (HDir.out _ _ FX2.out.inv).mono ?_
          rintro e w3 ⟨rfl, hb3⟩
          have FX3 := Lib.hid (FX2.out.read ((RA.held r bo β μ) _) hb3)
          clear hb3
          clear b0 b1 b2 b3 b4 b5 b6 b7
          obtain ⟨b0, b1, b2, b3, b4, b5, b6, b7⟩ := FX3.out.c8
          go_wp2_with fail
          refine (HI.out _ _ FX3.out.inv).mono ?_
          rintro e w4 ⟨rfl, hb4⟩
          have FX4 := Lib.hid (FX3.out.read ((RA.held r bo β μ) _) hb4)
          clear hb4
          clear b0 b1 b2 b3 b4 b5 b6 b7
          obtain ⟨b0, b1, b2, b3, b4, b5, b6, b7⟩ := FX4.out.c8
          go_wp2_with fail
          refine (HP.out _ _ FX4.out.inv).mono ?_
          rintro e w5 ⟨rfl, hb5⟩
          have FX5 := Lib.hid (FX4.out.read ((RA.held r bo β μ) _) hb5)
          clear hb5
          clear b0 b1 b2 b3 b4 b5 b6 b7
          have n2 := HNc2.out _ _ FX5.out.inv
          obtain ⟨D2, hown2, hme2⟩ := HMap2.out _ _ FX5.out.inv
          have HOwn2 := Lib.hid hown2
          have HLs := Lib.hid (look_keys hme2 x)
          clear hown2 hme2
          have HAt := Lib.hid (HLs.out.2 k Hk.out)
          have heq := HEq.out _ _ FX5.out.inv
          go_wp2_with (at_lookup; refine lookup_at rfl _ _ 103 rfl 9 62 Tryz.strLaw Tryz.underlying103 (Tryz.zeroP _) _ _ D2 rfl HOwn2.out _ _ rfl HKey.out (β k) HAt.out ?_)
          clear n2
          go_wp2_with fail
          refine (HOv.out _ _ FX5.out.inv).mono ?_
          rintro e w6 ⟨rfl, hb6⟩
          have FX6 := Lib.hid (FX5.out.read ((RA.held r bo β μ) _) hb6)
          clear hb6
          go_wp2_with fail
          refine (HDk.out _ _ FX6.out.inv).mono ?_
          rintro e w6b ⟨rfl, hb6b⟩
          have FX6b := Lib.hid (FX6.out.read ((RA.held r bo β μ) _) hb6b)
          clear hb6b
          obtain ⟨nK, nKf⟩ := HNcK.out _ _ FX6b.out.inv
          have hls := HLk.out _ _ FX6b.out.inv
          have FX6c := Lib.hid (FX6b.out.put (RA.held r bo β μ _) hls.1 hls.2)
          clear hls
          obtain ⟨b0, b1, b2, b3, b4, b5, b6, b7⟩ := FX6c.out.c8
          go_wp2_with fail
          refine (HP1.out _ _ FX6c.out.inv).mono ?_
          rintro e w7 ⟨rfl, hb7⟩
          have FX7 := Lib.hid (FX6c.out.read ((RA.held r bo β μ) _) hb7)
          clear hb7
          clear b0 b1 b2 b3 b4 b5 b6 b7
          have nO := HNcO.out _ _ FX7.out.inv
          obtain ⟨DO, hownO, hmeO⟩ := HMapO.out _ _ FX7.out.inv
          have HOwnO := Lib.hid hownO
          have HMeO := Lib.hid hmeO
          clear hownO hmeO
          go_wp2_with (first | (at_delete; refine wpList_delete_own _ rfl _ _ 103 9 rfl 62 Tryz.strLaw Tryz.underlying103 _ _ _ DO rfl HOwnO.out _ _ rfl HKeyO.out ?_; intro w8 hown8 hturn8; have HX8 := Lib.hid (HDelO.out _ _ _ _ _ _ FX7.out.inv HOwnO.out HMeO.out hown8 hturn8); have nD := HNcD.out _ _ HX8.out.1; obtain ⟨DD, hownD, hmeD⟩ := HMapD.out _ _ HX8.out.1; have HOwnD := Lib.hid hownD; have HMeD := Lib.hid hmeD; clear hown8 hturn8 hownD hmeD) | (at_mapUpdate; refine wpList_mapUpdate_in _ rfl _ _ _ 103 rfl 9 62 Tryz.strLaw Tryz.underlying103 _ _ _ DD rfl HOwnD.out HCnt.out _ _ _ rfl rfl HKey.out (.lit (.int .i64 (β m))) [] rfl ?_; intro w9 hown9 hturn9; have HX9 := Lib.hid (HPutD.out _ _ _ _ _ _ HX8.out.1 HOwnD.out HMeD.out hown9 hturn9); clear hown9 hturn9))
          have FX8 := Lib.hid (FX7.out.put (RA.held r bo β μ _) HX8.out.1 HX8.out.2)
          have FX9 := Lib.hid (FX8.out.put (RA.held r bo β μ _) HX9.out.1 HX9.out.2)
          go_wp2_with fail
          refine (HDone.out _).mono ?_
          rintro e wf ⟨rfl, hbf⟩
          have FXF := Lib.hid ((FX9.out.imp RA.toF).read (RealF.held r _) hbf)
          unfold replyV
          have fxe := FXF.out
          obtain ⟨c0, c1, c2, c3, c4, c5, c6, hf7⟩ := cells7 fxe.res
          have f0 := hf7 0
          have f1 := hf7 1
          have f2 := hf7 2
          have f3 := hf7 3
          have f4 := hf7 4
          have f5 := hf7 5
          have f6 := hf7 6
          have HG := Lib.hid fxe
          clear hf7 fxe
          go_wp2
          try simp only [Exit.inBlock, Exit.then]
          refine bodyPost_ret (results_cell_row rfl _ _ (w.heap.size + 1) _ _ _ _ rfl (row7 HG.out.res _ _ _ _ _ _ _) Tryz.underlying36 rfl Tryz.infoR) rfl ?_
          rw [HResF.out]
          exact HG.out.done (RealF.held r) (Pz.er 0) none 0 (Or.inl rfl) _ _ _ _ _ _ _
      · have HResF : Hid (R = (S, Pz.er (Pz.overErr S m k))) := Lib.hid (by rw [HRes3.out, if_neg (by omega), if_pos hov])
        have hov1 : (Pz.overErr S m k != 0) = true := by rw [bne_iff_ne]; exact hov
        clear h2 hpl hpre hf hm hod hpo hlk hdd hdl hlq hzm hz hk hkl hkm
        generalize Pz.overErr S m k = v at HOv HResF hov hov1
        go_enter Tryz.func30, Tryz.ntmps30
        go_wp2_with fail
        refine (H0.out _ _ FX.out.inv).mono ?_
        rintro e w1 ⟨rfl, hb1⟩
        have FX1 := Lib.hid (FX.out.read ((RA.held r bo β μ) _) hb1)
        clear hb1
        obtain ⟨b0, b1, b2, b3, b4, b5, b6, b7⟩ := FX1.out.c8
        go_wp2_with fail
        refine (HF.out _ _ FX1.out.inv).mono ?_
        rintro e w2 ⟨rfl, hb2⟩
        have FX2 := Lib.hid (FX1.out.read ((RA.held r bo β μ) _) hb2)
        clear hb2
        clear b0 b1 b2 b3 b4 b5 b6 b7
        obtain ⟨b0, b1, b2, b3, b4, b5, b6, b7⟩ := FX2.out.c8
        go_wp2_with fail
        refine (HDir.out _ _ FX2.out.inv).mono ?_
        rintro e w3 ⟨rfl, hb3⟩
        have FX3 := Lib.hid (FX2.out.read ((RA.held r bo β μ) _) hb3)
        clear hb3
        clear b0 b1 b2 b3 b4 b5 b6 b7
        obtain ⟨b0, b1, b2, b3, b4, b5, b6, b7⟩ := FX3.out.c8
        go_wp2_with fail
        refine (HI.out _ _ FX3.out.inv).mono ?_
        rintro e w4 ⟨rfl, hb4⟩
        have FX4 := Lib.hid (FX3.out.read ((RA.held r bo β μ) _) hb4)
        clear hb4
        clear b0 b1 b2 b3 b4 b5 b6 b7
        obtain ⟨b0, b1, b2, b3, b4, b5, b6, b7⟩ := FX4.out.c8
        go_wp2_with fail
        refine (HP.out _ _ FX4.out.inv).mono ?_
        rintro e w5 ⟨rfl, hb5⟩
        have FX5 := Lib.hid (FX4.out.read ((RA.held r bo β μ) _) hb5)
        clear hb5
        clear b0 b1 b2 b3 b4 b5 b6 b7
        have n2 := HNc2.out _ _ FX5.out.inv
        obtain ⟨D2, hown2, hme2⟩ := HMap2.out _ _ FX5.out.inv
        have HOwn2 := Lib.hid hown2
        have HLs := Lib.hid (look_keys hme2 x)
        clear hown2 hme2
        have HAt := Lib.hid (HLs.out.2 k Hk.out)
        have heq := HEq.out _ _ FX5.out.inv
        go_wp2_with (at_lookup; refine lookup_at rfl _ _ 103 rfl 9 62 Tryz.strLaw Tryz.underlying103 (Tryz.zeroP _) _ _ D2 rfl HOwn2.out _ _ rfl HKey.out (β k) HAt.out ?_)
        clear n2
        go_wp2_with fail
        refine (HOv.out _ _ FX5.out.inv).mono ?_
        rintro e w6 ⟨rfl, hb6⟩
        have FX6 := Lib.hid (FX5.out.read ((RA.held r bo β μ) _) hb6)
        clear hb6
        go_wp2_with fail
        refine (HFail.out v _).mono ?_
        rintro e wf ⟨rfl, hbf⟩
        have FXF := Lib.hid ((FX6.out.imp RA.toF).read ((RealF.held r) _) hbf)
        unfold replyV
        have fxe := FXF.out
        obtain ⟨c0, c1, c2, c3, c4, c5, c6, hf7⟩ := cells7 fxe.res
        have f0 := hf7 0
        have f1 := hf7 1
        have f2 := hf7 2
        have f3 := hf7 3
        have f4 := hf7 4
        have f5 := hf7 5
        have f6 := hf7 6
        have HG := Lib.hid fxe
        clear hf7 fxe
        go_wp2
        try simp only [Exit.inBlock, Exit.then]
        refine bodyPost_ret (results_cell_row rfl _ _ (w.heap.size + 1) _ _ _ _ rfl (row7 HG.out.res _ _ _ _ _ _ _) Tryz.underlying36 rfl Tryz.infoR) rfl ?_
        rw [HResF.out]
        exact HG.out.done (RealF.held r) (Pz.er v) none 0 (Or.inl rfl) _ _ _ _ _ _ _

theorem frename_any [Inhabited XBox] (r : Nat) (S : Pz.Fil) (kind flags fd off n : Int) (p p2 data : ByteArray) (w : World) (F : Nat → Prop) (hp : p.size ≤ 100000) (hp2 : p2.size ≤ 100000) (hG : Pz.Good 1000 S) (hR : RealF r S w F) :
    Calls Tryz.prog 30 #[.pointer (some ⟨r, 0, none⟩), callV kind p p2 flags fd off n data] w (Does (RealF r) (Pz.rename S p.data.toList p2.data.toList) w F) := by
  by_cases hbad : Np.pathL p.data.toList = none ∨ Np.pathL p2.data.toList = none ∨ p.data.toList = [47] ∨ p2.data.toList = [47]
  · rw [Pz.rename, if_pos hbad]
    exact frename_bad r S kind flags fd off n p p2 data w F hp hp2 hbad hR
  have hpre : RenPre S p p2 := ⟨hp, hp2, hG, fun h => hbad (h.elim Or.inl fun h => Or.inr (Or.inl h)), fun h => hbad (Or.inr (Or.inr (Or.inl h))), fun h => hbad (Or.inr (Or.inr (Or.inr h)))⟩
  cases hf : Pz.find S p.data.toList with
  | error v =>
    rw [Pz.rename, if_neg hbad, hf]
    exact frename_err r S kind flags fd off n p p2 data w F hpre v hf hR
  | ok m =>
    cases hD : Pz.isDir S.N m with
    | true => exact frename_dir r S kind flags fd off n p p2 data w F hpre m hf hD hR
    | false => exact frename_file r S kind flags fd off n p p2 data w F hpre m hf hD hR

end Go.Proofs.YtbpejjmfdhkfhaaGreatDoor
