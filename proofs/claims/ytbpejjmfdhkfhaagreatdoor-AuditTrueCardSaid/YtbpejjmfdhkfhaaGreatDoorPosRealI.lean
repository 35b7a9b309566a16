/- Walks: the program's unlink, link. -/
import Derived.Test.YtbpejjmfdhkfhaaGreatDoorPosRealH
set_option linter.unusedVariables false
set_option linter.unusedSimpArgs false
namespace Go.Proofs.YtbpejjmfdhkfhaaGreatDoor
open Go.RowKit

theorem RealAt.notMax [Inhabited XBox] {w : World} {F : Nat → Prop} {r bo n : Nat} {β μ : Nat → Nat} {S : Pz.Fil} (h : RealAt w F r bo β μ S) (hn : n < S.N.length) : maxB ≠ β n := by
  intro e
  obtain ⟨⟨m, hm⟩, hmx⟩ := h.mx
  have h1 : w.cell? ⟨maxB, 0, none⟩ = some (.int .i64 m) := hm
  rw [e, (h.nc hn).1] at h1
  cases h1
/-- a node's links, its bytes, laid anew -/
theorem RealAt.links [Inhabited XBox] {w : World} {F : Nat → Prop} {r bo n : Nat} {β μ : Nat → Nat} {S : Pz.Fil} (h : RealAt w F r bo β μ S) (hn : n < S.N.length) (l : Int) :
    RealAt (w.setCell ⟨β n, 1, none⟩ (.int .i64 l)) F r bo β μ { S with N := S.N.set n { Pz.nodeD S.N n with links := l } } ∧ Only F w (w.setCell ⟨β n, 1, none⟩ (.int .i64 l)) := by
  refine h.setNode hn (Pz.nodeD_dir _ _) (gset w ⟨β n, 1, none⟩ _) ?_ (h.notMax hn)
  rw [heap_setCell_same w (β n) 1 _ _ _ (h.node n hn)]
  rw [← Pz.nodeD_dir]
  rfl
theorem RealAt.data [Inhabited XBox] {w : World} {F : Nat → Prop} {r bo n : Nat} {β μ : Nat → Nat} {S : Pz.Fil} (h : RealAt w F r bo β μ S) (hn : n < S.N.length) (v : ByteArray) :
    RealAt (w.setCell ⟨β n, 0, none⟩ (.string v)) F r bo β μ { S with N := S.N.set n { Pz.nodeD S.N n with data := v.data.toList } } ∧ Only F w (w.setCell ⟨β n, 0, none⟩ (.string v)) := by
  refine h.setNode hn (Pz.nodeD_dir _ _) (gset w ⟨β n, 0, none⟩ _) ?_ (h.notMax hn)
  rw [heap_setCell_same w (β n) 0 _ _ _ (h.node n hn)]
  rw [← Pz.nodeD_dir, ba_mk]
  rfl

set_option maxHeartbeats 4000000 in
set_option maxRecDepth 8192 in
theorem funlink_any [Inhabited XBox] (r : Nat) (S : Pz.Fil) (kind flags fd off n : Int) (p p2 data : ByteArray) (w : World) (F : Nat → Prop) (hp : p.size ≤ 100000) (hG : Pz.Good 1000 S) (hR : RealF r S w F) :
    Calls Tryz.prog 29 #[.pointer (some ⟨r, 0, none⟩), callV kind p p2 flags fd off n data] w (Does (RealF r) (Pz.unlink S p.data.toList) w F) := by
  have HFail := Lib.hid ffails_any
  have HDone := Lib.hid fdone_any
  obtain ⟨bo, β, μ, hR⟩ := hR
  have FX := Lib.hid (Fx.start (RA.held r bo β μ S) hR #[.int .i64 kind, .string p, .string p2, .int .i64 flags, .int .i64 fd, .int .i64 off, .int .i64 n, .string data])
  have h1 := fun W G (hR : RA r bo β μ S W G) => ffind_any G r bo β μ S p W hp hG.ok hR
  obtain ⟨R, hres⟩ : ∃ R, R = Pz.unlink S p.data.toList := ⟨_, rfl⟩
  rw [← hres]
  unfold callV
  cases hf : Pz.find S p.data.toList with
  | error v =>
    have HResF : Hid (R = (S, Pz.er v)) := Lib.hid (by rw [hres, Pz.unlink, hf])
    obtain ⟨hv1, hv2, hv3⟩ := ne_of_err (Pz.find_err hf)
    rw [hf] at h1
    simp only [toW] at h1
    have HF := Lib.hid h1
    clear h1 hres hR hG hf
    go_enter Tryz.func29, Tryz.ntmps29
    go_wp2_with fail
    refine (HF.out _ _ FX.out.inv).mono ?_
    rintro e w1 ⟨rfl, hb1⟩
    have FX1 := Lib.hid (FX.out.read ((RA.held r bo β μ) _) hb1)
    clear hb1
    go_wp2_with fail
    refine (HFail.out v _).mono ?_
    rintro e wf ⟨rfl, hbf⟩
    have FXF := Lib.hid ((FX1.out.imp RA.toF).read ((RealF.held r) _) hbf)
    unfold replyV
    have fxe := FXF.out
    obtain ⟨c0, c1, c2, c3, c4, c5, c6, hf7⟩ := cells7 fxe.res
    have f0 := hf7 0
    have f1 := hf7 1
    have f2 := hf7 2
    have f3 := hf7 3
    have f4 := hf7 4
    have f5 := hf7 5
    have f6 := hf7 6
    have HG := Lib.hid fxe
    clear hf7 fxe
    go_wp2
    try simp only [Exit.inBlock, Exit.then]
    refine bodyPost_ret (results_cell_row rfl _ _ (w.heap.size + 1) _ _ _ _ rfl (row7 HG.out.res _ _ _ _ _ _ _) Tryz.underlying36 rfl Tryz.infoR) rfl ?_
    rw [HResF.out]
    exact HG.out.done (RealF.held r) (Pz.er v) none 0 (Or.inl rfl) _ _ _ _ _ _ _
  | ok m =>
    have hm := Pz.find_lt hG.ok hf
    rw [hf] at h1
    simp only [toW] at h1
    have HF := Lib.hid h1
    have HDir := Lib.hid fun W G (h : RA r bo β μ S W G) => fdir_any W G r bo m β μ S hm h
    cases hD : Pz.isDir S.N m with
    | true =>
      have HResF : Hid (R = (S, Pz.er 13)) := Lib.hid (by rw [hres, Pz.unlink, hf]; simp only [hD, if_true])
      rw [hD] at HDir
      clear h1 hres hR hG hf hm hD
      go_enter Tryz.func29, Tryz.ntmps29
      go_wp2_with fail
      refine (HF.out _ _ FX.out.inv).mono ?_
      rintro e w1 ⟨rfl, hb1⟩
      have FX1 := Lib.hid (FX.out.read ((RA.held r bo β μ) _) hb1)
      clear hb1
      go_wp2_with fail
      refine (HDir.out _ _ FX1.out.inv).mono ?_
      rintro e w2 ⟨rfl, hb2⟩
      have FX2 := Lib.hid (FX1.out.read ((RA.held r bo β μ) _) hb2)
      clear hb2
      go_wp2_with fail
      refine (HFail.out 13 _).mono ?_
      rintro e wf ⟨rfl, hbf⟩
      have FXF := Lib.hid ((FX2.out.imp RA.toF).read ((RealF.held r) _) hbf)
      unfold replyV
      have fxe := FXF.out
      obtain ⟨c0, c1, c2, c3, c4, c5, c6, hf7⟩ := cells7 fxe.res
      have f0 := hf7 0
      have f1 := hf7 1
      have f2 := hf7 2
      have f3 := hf7 3
      have f4 := hf7 4
      have f5 := hf7 5
      have f6 := hf7 6
      have HG := Lib.hid fxe
      clear hf7 fxe
      go_wp2
      try simp only [Exit.inBlock, Exit.then]
      refine bodyPost_ret (results_cell_row rfl _ _ (w.heap.size + 1) _ _ _ _ rfl (row7 HG.out.res _ _ _ _ _ _ _) Tryz.underlying36 rfl Tryz.infoR) rfl ?_
      rw [HResF.out]
      exact HG.out.done (RealF.held r) (Pz.er 13) none 0 (Or.inl rfl) _ _ _ _ _ _ _
    | false =>
      rw [hD] at HDir
      have h47 : ¬ p.data.toList = [47] := by
        intro e
        rw [e, Pz.find_root] at hf
        cases hf
        rw [hG.root] at hD
        cases hD
      obtain ⟨d, x, hpl, hlk, hdd⟩ := Pz.place_of_find hf h47
      obtain ⟨l, hl⟩ : ∃ l, l = (Pz.nodeD S.N m).links := ⟨_, rfl⟩
      obtain ⟨hlb1, hlb2⟩ : l ≤ 20 ∧ -1000 ≤ l := by rw [hl]; exact Pz.nodeD_links hG hm
      have HResF : Hid (R = ({ S with E := Pz.take S.E d x, N := S.N.set m { Pz.nodeD S.N m with links := l - 1 } }, Pz.er 0)) := Lib.hid (by
        rw [hres, Pz.unlink, hf]
        simp only [hD, Bool.false_eq_true, if_false, hpl, hl])
      have h2 := fun W G (hR : RA r bo β μ S W G) => fplace_any G r bo β μ S p W hp hG.ok hR
      rw [hpl] at h2
      simp only [toL] at h2
      have HP := Lib.hid h2
      have hdl := isDir_lt hdd
      have HNc2 := Lib.hid fun W G (h : RA r bo β μ S W G) => (RealAt.nc h hdl).2.2.1
      rw [hdd, if_pos rfl] at HNc2
      have HMap2 := Lib.hid fun W G (h : RA r bo β μ S W G) => RealAt.dirs h d hdd
      have HKey := Lib.hid (key_of (Pz.place_name hpl))
      have HDel := Lib.hid fun W W' G D n c (h : RA r bo β μ S W G) => RealAt.delName (w' := W') (x := x) (D := D) (n := n) (c := c) h hG.once hdd
      have HLk := Lib.hid fun W G (h : RA r bo β μ { S with E := Pz.take S.E d x } W G) => RealAt.links h (n := m) hm (l - 1)
      have hnc4 := fun W G (h : RA r bo β μ { S with E := Pz.take S.E d x } W G) => And.intro (RealAt.nc h (n := m) hm).2.1 (RealAt.nc h (n := m) hm).2.2.2.2
      rw [show (Pz.nodeD ({ S with E := Pz.take S.E d x } : Pz.Fil).N m).links = l from hl.symm] at hnc4
      have HNc4 := Lib.hid hnc4
      clear h1 h2 hres hR hG hf hpl hlk hdd hm hD hdl hl hnc4 h47
      go_enter Tryz.func29, Tryz.ntmps29
      go_wp2_with fail
      refine (HF.out _ _ FX.out.inv).mono ?_
      rintro e w1 ⟨rfl, hb1⟩
      have FX1 := Lib.hid (FX.out.read ((RA.held r bo β μ) _) hb1)
      clear hb1
      go_wp2_with fail
      refine (HDir.out _ _ FX1.out.inv).mono ?_
      rintro e w2 ⟨rfl, hb2⟩
      have FX2 := Lib.hid (FX1.out.read ((RA.held r bo β μ) _) hb2)
      clear hb2
      obtain ⟨b0, b1, b2, b3, b4, b5, b6, b7⟩ := FX2.out.c8
      go_wp2_with fail
      refine (HP.out _ _ FX2.out.inv).mono ?_
      rintro e w3 ⟨rfl, hb3⟩
      have FX3 := Lib.hid (FX2.out.read ((RA.held r bo β μ) _) hb3)
      clear hb3
      clear b0 b1 b2 b3 b4 b5 b6 b7
      have n2 := HNc2.out _ _ FX3.out.inv
      obtain ⟨D2, hown2, hme2⟩ := HMap2.out _ _ FX3.out.inv
      have HOwn2 := Lib.hid hown2
      have HMe2 := Lib.hid hme2
      clear hown2 hme2
      go_wp2_with (at_delete; refine wpList_delete_own _ rfl _ _ 103 9 rfl 62 Tryz.strLaw Tryz.underlying103 _ _ _ D2 rfl HOwn2.out _ _ rfl HKey.out ?_; intro w4 hown4 hturn4; have HX := Lib.hid (HDel.out _ _ _ _ _ _ FX3.out.inv HOwn2.out HMe2.out hown4 hturn4); have n4 := HNc4.out _ _ HX.out.1; obtain ⟨n4a, n4b⟩ := n4; clear hown4 hturn4)
      have FX4 := Lib.hid (FX3.out.put (RA.held r bo β μ _) HX.out.1 HX.out.2)
      have hls := HLk.out _ _ FX4.out.inv
      have FX5 := Lib.hid (FX4.out.put (RA.held r bo β μ _) hls.1 hls.2)
      clear hls
      go_wp2_with fail
      refine (HDone.out _).mono ?_
      rintro e wf ⟨rfl, hbf⟩
      have FXF := Lib.hid ((FX5.out.imp RA.toF).read (RealF.held r _) hbf)
      unfold replyV
      have fxe := FXF.out
      obtain ⟨c0, c1, c2, c3, c4, c5, c6, hf7⟩ := cells7 fxe.res
      have f0 := hf7 0
      have f1 := hf7 1
      have f2 := hf7 2
      have f3 := hf7 3
      have f4 := hf7 4
      have f5 := hf7 5
      have f6 := hf7 6
      have HG := Lib.hid fxe
      clear hf7 fxe
      go_wp2
      try simp only [Exit.inBlock, Exit.then]
      refine bodyPost_ret (results_cell_row rfl _ _ (w.heap.size + 1) _ _ _ _ rfl (row7 HG.out.res _ _ _ _ _ _ _) Tryz.underlying36 rfl Tryz.infoR) rfl ?_
      rw [HResF.out]
      exact HG.out.done (RealF.held r) (Pz.er 0) none 0 (Or.inl rfl) _ _ _ _ _ _ _

set_option maxHeartbeats 4000000 in
set_option maxRecDepth 8192 in
theorem flink_any [Inhabited XBox] (r : Nat) (S : Pz.Fil) (kind flags fd off n : Int) (p p2 data : ByteArray) (w : World) (F : Nat → Prop) (hp : p.size ≤ 100000) (hp2 : p2.size ≤ 100000) (hG : Pz.Good 1000 S) (hR : RealF r S w F) :
    Calls Tryz.prog 28 #[.pointer (some ⟨r, 0, none⟩), callV kind p p2 flags fd off n data] w (Does (RealF r) (Pz.link S p.data.toList p2.data.toList) w F) := by
  have HFail := Lib.hid ffails_any
  have HDone := Lib.hid fdone_any
  obtain ⟨bo, β, μ, hR⟩ := hR
  have FX := Lib.hid (Fx.start (RA.held r bo β μ S) hR #[.int .i64 kind, .string p, .string p2, .int .i64 flags, .int .i64 fd, .int .i64 off, .int .i64 n, .string data])
  have h0 := fun W G (hR : RA r bo β μ S W G) => fboth_any kind flags fd off n p p2 data W hp hp2 (RealAt.mx hR).1
  have h1 := fun W G (hR : RA r bo β μ S W G) => ffind_any G r bo β μ S p W hp hG.ok hR
  have h2 := fun W G (hR : RA r bo β μ S W G) => fplace_any G r bo β μ S p2 W hp2 hG.ok hR
  obtain ⟨R, hres⟩ : ∃ R, R = Pz.link S p.data.toList p2.data.toList := ⟨_, rfl⟩
  rw [← hres]
  unfold callV at h0 ⊢
  by_cases hok : Np.pathL p.data.toList = none ∨ Np.pathL p2.data.toList = none
  · have HResF : Hid (R = (S, Pz.er 15)) := Lib.hid (by rw [hres, Pz.link, if_pos hok])
    rw [both_not hok] at h0
    have H0 := Lib.hid h0
    clear h0 h1 h2 hR hG hok hres
    go_enter Tryz.func28, Tryz.ntmps28
    go_wp2_with fail
    refine (H0.out _ _ FX.out.inv).mono ?_
    rintro e w1 ⟨rfl, hb1⟩
    have FX1 := Lib.hid (FX.out.read ((RA.held r bo β μ) _) hb1)
    clear hb1
    go_wp2_with fail
    refine (HFail.out 15 _).mono ?_
    rintro e wf ⟨rfl, hbf⟩
    have FXF := Lib.hid ((FX1.out.imp RA.toF).read ((RealF.held r) _) hbf)
    unfold replyV
    have fxe := FXF.out
    obtain ⟨c0, c1, c2, c3, c4, c5, c6, hf7⟩ := cells7 fxe.res
    have f0 := hf7 0
    have f1 := hf7 1
    have f2 := hf7 2
    have f3 := hf7 3
    have f4 := hf7 4
    have f5 := hf7 5
    have f6 := hf7 6
    have HG := Lib.hid fxe
    clear hf7 fxe
    go_wp2
    try simp only [Exit.inBlock, Exit.then]
    refine bodyPost_ret (results_cell_row rfl _ _ (w.heap.size + 1) _ _ _ _ rfl (row7 HG.out.res _ _ _ _ _ _ _) Tryz.underlying36 rfl Tryz.infoR) rfl ?_
    rw [HResF.out]
    exact HG.out.done (RealF.held r) (Pz.er 15) none 0 (Or.inl rfl) _ _ _ _ _ _ _
  rw [both_of hok] at h0
  have H0 := Lib.hid h0
  rw [Pz.link, if_neg hok] at hres
  cases hf : Pz.find S p.data.toList with
  | error v =>
    have HResF : Hid (R = (S, Pz.er v)) := Lib.hid (by rw [hres, hf])
    obtain ⟨hv1, hv2, hv3⟩ := ne_of_err (Pz.find_err hf)
    rw [hf] at h1
    simp only [toW] at h1
    have HF := Lib.hid h1
    clear h0 h1 h2 hR hG hok hres hf
    go_enter Tryz.func28, Tryz.ntmps28
    go_wp2_with fail
    refine (H0.out _ _ FX.out.inv).mono ?_
    rintro e w1 ⟨rfl, hb1⟩
    have FX1 := Lib.hid (FX.out.read ((RA.held r bo β μ) _) hb1)
    clear hb1
    obtain ⟨b0, b1, b2, b3, b4, b5, b6, b7⟩ := FX1.out.c8
    go_wp2_with fail
    refine (HF.out _ _ FX1.out.inv).mono ?_
    rintro e w2 ⟨rfl, hb2⟩
    have FX2 := Lib.hid (FX1.out.read ((RA.held r bo β μ) _) hb2)
    clear hb2
    clear b0 b1 b2 b3 b4 b5 b6 b7
    go_wp2_with fail
    refine (HFail.out v _).mono ?_
    rintro e wf ⟨rfl, hbf⟩
    have FXF := Lib.hid ((FX2.out.imp RA.toF).read ((RealF.held r) _) hbf)
    unfold replyV
    have fxe := FXF.out
    obtain ⟨c0, c1, c2, c3, c4, c5, c6, hf7⟩ := cells7 fxe.res
    have f0 := hf7 0
    have f1 := hf7 1
    have f2 := hf7 2
    have f3 := hf7 3
    have f4 := hf7 4
    have f5 := hf7 5
    have f6 := hf7 6
    have HG := Lib.hid fxe
    clear hf7 fxe
    go_wp2
    try simp only [Exit.inBlock, Exit.then]
    refine bodyPost_ret (results_cell_row rfl _ _ (w.heap.size + 1) _ _ _ _ rfl (row7 HG.out.res _ _ _ _ _ _ _) Tryz.underlying36 rfl Tryz.infoR) rfl ?_
    rw [HResF.out]
    exact HG.out.done (RealF.held r) (Pz.er v) none 0 (Or.inl rfl) _ _ _ _ _ _ _
  | ok m =>
    have hm := Pz.find_lt hG.ok hf
    rw [hf] at h1 hres
    simp only [toW] at h1
    simp only [] at hres
    have HF := Lib.hid h1
    have HDir := Lib.hid fun W G (h : RA r bo β μ S W G) => fdir_any W G r bo m β μ S hm h
    cases hD : Pz.isDir S.N m with
    | true =>
      have HResF : Hid (R = (S, Pz.er 13)) := Lib.hid (by rw [hres, hD, if_pos rfl])
      rw [hD] at HDir
      clear h0 h1 h2 hres hR hG hf hm hD hok
      go_enter Tryz.func28, Tryz.ntmps28
      go_wp2_with fail
      refine (H0.out _ _ FX.out.inv).mono ?_
      rintro e w1 ⟨rfl, hb1⟩
      have FX1 := Lib.hid (FX.out.read ((RA.held r bo β μ) _) hb1)
      clear hb1
      obtain ⟨b0, b1, b2, b3, b4, b5, b6, b7⟩ := FX1.out.c8
      go_wp2_with fail
      refine (HF.out _ _ FX1.out.inv).mono ?_
      rintro e w2 ⟨rfl, hb2⟩
      have FX2 := Lib.hid (FX1.out.read ((RA.held r bo β μ) _) hb2)
      clear hb2
      clear b0 b1 b2 b3 b4 b5 b6 b7
      go_wp2_with fail
      refine (HDir.out _ _ FX2.out.inv).mono ?_
      rintro e w3 ⟨rfl, hb3⟩
      have FX3 := Lib.hid (FX2.out.read ((RA.held r bo β μ) _) hb3)
      clear hb3
      go_wp2_with fail
      refine (HFail.out 13 _).mono ?_
      rintro e wf ⟨rfl, hbf⟩
      have FXF := Lib.hid ((FX3.out.imp RA.toF).read ((RealF.held r) _) hbf)
      unfold replyV
      have fxe := FXF.out
      obtain ⟨c0, c1, c2, c3, c4, c5, c6, hf7⟩ := cells7 fxe.res
      have f0 := hf7 0
      have f1 := hf7 1
      have f2 := hf7 2
      have f3 := hf7 3
      have f4 := hf7 4
      have f5 := hf7 5
      have f6 := hf7 6
      have HG := Lib.hid fxe
      clear hf7 fxe
      go_wp2
      try simp only [Exit.inBlock, Exit.then]
      refine bodyPost_ret (results_cell_row rfl _ _ (w.heap.size + 1) _ _ _ _ rfl (row7 HG.out.res _ _ _ _ _ _ _) Tryz.underlying36 rfl Tryz.infoR) rfl ?_
      rw [HResF.out]
      exact HG.out.done (RealF.held r) (Pz.er 13) none 0 (Or.inl rfl) _ _ _ _ _ _ _
    | false =>
      rw [hD, if_neg (by decide)] at hres
      rw [hD] at HDir
      by_cases h47 : p2.data.toList = [47]
      · have HResF : Hid (R = (S, Pz.er 11)) := Lib.hid (by rw [hres, if_pos h47])
        have h47b := path_is h47
        clear h0 h1 h2 hres hR hG hf hm hD hok h47
        go_enter Tryz.func28, Tryz.ntmps28
        go_wp2_with fail
        refine (H0.out _ _ FX.out.inv).mono ?_
        rintro e w1 ⟨rfl, hb1⟩
        have FX1 := Lib.hid (FX.out.read ((RA.held r bo β μ) _) hb1)
        clear hb1
        obtain ⟨b0, b1, b2, b3, b4, b5, b6, b7⟩ := FX1.out.c8
        go_wp2_with fail
        refine (HF.out _ _ FX1.out.inv).mono ?_
        rintro e w2 ⟨rfl, hb2⟩
        have FX2 := Lib.hid (FX1.out.read ((RA.held r bo β μ) _) hb2)
        clear hb2
        clear b0 b1 b2 b3 b4 b5 b6 b7
        go_wp2_with fail
        refine (HDir.out _ _ FX2.out.inv).mono ?_
        rintro e w3 ⟨rfl, hb3⟩
        have FX3 := Lib.hid (FX2.out.read ((RA.held r bo β μ) _) hb3)
        clear hb3
        obtain ⟨b0, b1, b2, b3, b4, b5, b6, b7⟩ := FX3.out.c8
        go_wp2_with fail
        refine (HFail.out 11 _).mono ?_
        rintro e wf ⟨rfl, hbf⟩
        have FXF := Lib.hid ((FX3.out.imp RA.toF).read ((RealF.held r) _) hbf)
        unfold replyV
        have fxe := FXF.out
        obtain ⟨c0, c1, c2, c3, c4, c5, c6, hf7⟩ := cells7 fxe.res
        have f0 := hf7 0
        have f1 := hf7 1
        have f2 := hf7 2
        have f3 := hf7 3
        have f4 := hf7 4
        have f5 := hf7 5
        have f6 := hf7 6
        have HG := Lib.hid fxe
        clear hf7 fxe
        go_wp2
        try simp only [Exit.inBlock, Exit.then]
        refine bodyPost_ret (results_cell_row rfl _ _ (w.heap.size + 1) _ _ _ _ rfl (row7 HG.out.res _ _ _ _ _ _ _) Tryz.underlying36 rfl Tryz.infoR) rfl ?_
        rw [HResF.out]
        exact HG.out.done (RealF.held r) (Pz.er 11) none 0 (Or.inl rfl) _ _ _ _ _ _ _
      rw [if_neg h47] at hres
      have hp47 := path_ne h47
      cases hpl : Pz.place S p2.data.toList with
      | error v =>
        have HResF : Hid (R = (S, Pz.er v)) := Lib.hid (by rw [hres, hpl])
        obtain ⟨hv1, hv2, hv3⟩ := ne_of_err (Pz.place_err hpl)
        rw [hpl] at h2
        simp only [toL] at h2
        have HP := Lib.hid h2
        clear h0 h1 h2 hres hR hG hf hm hD hok h47 hpl
        go_enter Tryz.func28, Tryz.ntmps28
        go_wp2_with fail
        refine (H0.out _ _ FX.out.inv).mono ?_
        rintro e w1 ⟨rfl, hb1⟩
        have FX1 := Lib.hid (FX.out.read ((RA.held r bo β μ) _) hb1)
        clear hb1
        obtain ⟨b0, b1, b2, b3, b4, b5, b6, b7⟩ := FX1.out.c8
        go_wp2_with fail
        refine (HF.out _ _ FX1.out.inv).mono ?_
        rintro e w2 ⟨rfl, hb2⟩
        have FX2 := Lib.hid (FX1.out.read ((RA.held r bo β μ) _) hb2)
        clear hb2
        clear b0 b1 b2 b3 b4 b5 b6 b7
        go_wp2_with fail
        refine (HDir.out _ _ FX2.out.inv).mono ?_
        rintro e w3 ⟨rfl, hb3⟩
        have FX3 := Lib.hid (FX2.out.read ((RA.held r bo β μ) _) hb3)
        clear hb3
        obtain ⟨b0, b1, b2, b3, b4, b5, b6, b7⟩ := FX3.out.c8
        go_wp2_with fail
        refine (HP.out _ _ FX3.out.inv).mono ?_
        rintro e w4 ⟨rfl, hb4⟩
        have FX4 := Lib.hid (FX3.out.read ((RA.held r bo β μ) _) hb4)
        clear hb4
        clear b0 b1 b2 b3 b4 b5 b6 b7
        go_wp2_with fail
        refine (HFail.out v _).mono ?_
        rintro e wf ⟨rfl, hbf⟩
        have FXF := Lib.hid ((FX4.out.imp RA.toF).read ((RealF.held r) _) hbf)
        unfold replyV
        have fxe := FXF.out
        obtain ⟨c0, c1, c2, c3, c4, c5, c6, hf7⟩ := cells7 fxe.res
        have f0 := hf7 0
        have f1 := hf7 1
        have f2 := hf7 2
        have f3 := hf7 3
        have f4 := hf7 4
        have f5 := hf7 5
        have f6 := hf7 6
        have HG := Lib.hid fxe
        clear hf7 fxe
        go_wp2
        try simp only [Exit.inBlock, Exit.then]
        refine bodyPost_ret (results_cell_row rfl _ _ (w.heap.size + 1) _ _ _ _ rfl (row7 HG.out.res _ _ _ _ _ _ _) Tryz.underlying36 rfl Tryz.infoR) rfl ?_
        rw [HResF.out]
        exact HG.out.done (RealF.held r) (Pz.er v) none 0 (Or.inl rfl) _ _ _ _ _ _ _
      | ok dx =>
        obtain ⟨d, x⟩ := dx
        rw [hpl] at h2 hres
        simp only [toL] at h2
        simp only [] at hres
        have HP := Lib.hid h2
        obtain ⟨hdl, hdd⟩ := Pz.place_lt hG.ok hpl
        have HNc2 := Lib.hid fun W G (h : RA r bo β μ S W G) => (RealAt.nc h hdl).2.2.1
        rw [hdd, if_pos rfl] at HNc2
        have HMap2 := Lib.hid fun W G (h : RA r bo β μ S W G) => RealAt.dirs h d hdd
        have HKey := Lib.hid (key_of (Pz.place_name hpl))
        by_cases hz : 0 ≤ Pz.look S.E d x
        · obtain ⟨k, hk⟩ : ∃ k : Nat, Pz.look S.E d x = k := ⟨(Pz.look S.E d x).toNat, by omega⟩
          have HResF : Hid (R = (S, Pz.er 11)) := Lib.hid (by rw [hres, if_pos hz])
          have Hk := Lib.hid hk
          clear h0 h1 h2 hres hR hG hf hm hD hok h47 hpl hz hdl hdd hk
          go_enter Tryz.func28, Tryz.ntmps28
          go_wp2_with fail
          refine (H0.out _ _ FX.out.inv).mono ?_
          rintro e w1 ⟨rfl, hb1⟩
          have FX1 := Lib.hid (FX.out.read ((RA.held r bo β μ) _) hb1)
          clear hb1
          obtain ⟨b0, b1, b2, b3, b4, b5, b6, b7⟩ := FX1.out.c8
          go_wp2_with fail
          refine (HF.out _ _ FX1.out.inv).mono ?_
          rintro e w2 ⟨rfl, hb2⟩
          have FX2 := Lib.hid (FX1.out.read ((RA.held r bo β μ) _) hb2)
          clear hb2
          clear b0 b1 b2 b3 b4 b5 b6 b7
          go_wp2_with fail
          refine (HDir.out _ _ FX2.out.inv).mono ?_
          rintro e w3 ⟨rfl, hb3⟩
          have FX3 := Lib.hid (FX2.out.read ((RA.held r bo β μ) _) hb3)
          clear hb3
          obtain ⟨b0, b1, b2, b3, b4, b5, b6, b7⟩ := FX3.out.c8
          go_wp2_with fail
          refine (HP.out _ _ FX3.out.inv).mono ?_
          rintro e w4 ⟨rfl, hb4⟩
          have FX4 := Lib.hid (FX3.out.read ((RA.held r bo β μ) _) hb4)
          clear hb4
          clear b0 b1 b2 b3 b4 b5 b6 b7
          have n2 := HNc2.out _ _ FX4.out.inv
          obtain ⟨D2, hown2, hme2⟩ := HMap2.out _ _ FX4.out.inv
          have HOwn2 := Lib.hid hown2
          have HAt := Lib.hid ((look_keys hme2 x).2 k Hk.out)
          clear hown2 hme2
          go_wp2_with (at_lookup; refine lookup_at rfl _ _ 103 rfl 9 62 Tryz.strLaw Tryz.underlying103 (Tryz.zeroP _) _ _ D2 rfl HOwn2.out _ _ rfl HKey.out (β k) HAt.out ?_)
          go_wp2_with fail
          refine (HFail.out 11 _).mono ?_
          rintro e wf ⟨rfl, hbf⟩
          have FXF := Lib.hid ((FX4.out.imp RA.toF).read ((RealF.held r) _) hbf)
          unfold replyV
          have fxe := FXF.out
          obtain ⟨c0, c1, c2, c3, c4, c5, c6, hf7⟩ := cells7 fxe.res
          have f0 := hf7 0
          have f1 := hf7 1
          have f2 := hf7 2
          have f3 := hf7 3
          have f4 := hf7 4
          have f5 := hf7 5
          have f6 := hf7 6
          have HG := Lib.hid fxe
          clear hf7 fxe
          go_wp2
          try simp only [Exit.inBlock, Exit.then]
          refine bodyPost_ret (results_cell_row rfl _ _ (w.heap.size + 1) _ _ _ _ rfl (row7 HG.out.res _ _ _ _ _ _ _) Tryz.underlying36 rfl Tryz.infoR) rfl ?_
          rw [HResF.out]
          exact HG.out.done (RealF.held r) (Pz.er 11) none 0 (Or.inl rfl) _ _ _ _ _ _ _
        rw [if_neg hz] at hres
        have hz1 : Pz.look S.E d x < 0 := by omega
        have Hz := Lib.hid hz1
        obtain ⟨l, hl⟩ : ∃ l, l = (Pz.nodeD S.N m).links := ⟨_, rfl⟩
        obtain ⟨hlb1, hlb2⟩ : l ≤ 20 ∧ -1000 ≤ l := by rw [hl]; exact Pz.nodeD_links hG hm
        rw [← hl] at hres
        have hnc4 := fun W G (h : RA r bo β μ S W G) => (RealAt.nc h (n := m) hm).2.1
        rw [← hl] at hnc4
        have HNc4 := Lib.hid hnc4
        by_cases hl20 : l = 20
        · have HResF : Hid (R = (S, Pz.er 20)) := Lib.hid (by rw [hres, if_pos hl20])
          have hlg : 20 ≤ l := by omega
          clear h0 h1 h2 hres hR hG hf hm hD hok h47 hpl hz hz1 hdl hdd hl hl20 hnc4
          go_enter Tryz.func28, Tryz.ntmps28
          go_wp2_with fail
          refine (H0.out _ _ FX.out.inv).mono ?_
          rintro e w1 ⟨rfl, hb1⟩
          have FX1 := Lib.hid (FX.out.read ((RA.held r bo β μ) _) hb1)
          clear hb1
          obtain ⟨b0, b1, b2, b3, b4, b5, b6, b7⟩ := FX1.out.c8
          go_wp2_with fail
          refine (HF.out _ _ FX1.out.inv).mono ?_
          rintro e w2 ⟨rfl, hb2⟩
          have FX2 := Lib.hid (FX1.out.read ((RA.held r bo β μ) _) hb2)
          clear hb2
          clear b0 b1 b2 b3 b4 b5 b6 b7
          go_wp2_with fail
          refine (HDir.out _ _ FX2.out.inv).mono ?_
          rintro e w3 ⟨rfl, hb3⟩
          have FX3 := Lib.hid (FX2.out.read ((RA.held r bo β μ) _) hb3)
          clear hb3
          obtain ⟨b0, b1, b2, b3, b4, b5, b6, b7⟩ := FX3.out.c8
          go_wp2_with fail
          refine (HP.out _ _ FX3.out.inv).mono ?_
          rintro e w4 ⟨rfl, hb4⟩
          have FX4 := Lib.hid (FX3.out.read ((RA.held r bo β μ) _) hb4)
          clear hb4
          clear b0 b1 b2 b3 b4 b5 b6 b7
          have n2 := HNc2.out _ _ FX4.out.inv
          have n4 := HNc4.out _ _ FX4.out.inv
          obtain ⟨D2, hown2, hme2⟩ := HMap2.out _ _ FX4.out.inv
          have HOwn2 := Lib.hid hown2
          have HAt := Lib.hid ((look_keys hme2 x).1 Hz.out)
          clear hown2 hme2
          go_wp2_with (at_lookup; refine lookup_nil rfl _ _ 103 rfl 9 62 Tryz.strLaw Tryz.underlying103 (Tryz.zeroP _) _ _ D2 rfl HOwn2.out _ _ rfl HKey.out HAt.out ?_)
          go_wp2_with fail
          refine (HFail.out 20 _).mono ?_
          rintro e wf ⟨rfl, hbf⟩
          have FXF := Lib.hid ((FX4.out.imp RA.toF).read ((RealF.held r) _) hbf)
          unfold replyV
          have fxe := FXF.out
          obtain ⟨c0, c1, c2, c3, c4, c5, c6, hf7⟩ := cells7 fxe.res
          have f0 := hf7 0
          have f1 := hf7 1
          have f2 := hf7 2
          have f3 := hf7 3
          have f4 := hf7 4
          have f5 := hf7 5
          have f6 := hf7 6
          have HG := Lib.hid fxe
          clear hf7 fxe
          go_wp2
          try simp only [Exit.inBlock, Exit.then]
          refine bodyPost_ret (results_cell_row rfl _ _ (w.heap.size + 1) _ _ _ _ rfl (row7 HG.out.res _ _ _ _ _ _ _) Tryz.underlying36 rfl Tryz.infoR) rfl ?_
          rw [HResF.out]
          exact HG.out.done (RealF.held r) (Pz.er 20) none 0 (Or.inl rfl) _ _ _ _ _ _ _
        rw [if_neg hl20, ← Pz.take_absent hz1] at hres
        have hlg : l < 20 := by omega
        have HResF : Hid (R = ({ S with E := Pz.take S.E d x ++ [⟨d, x, m⟩], N := S.N.set m { Pz.nodeD S.N m with links := l + 1 } }, Pz.er 0)) := Lib.hid hres
        have HPut := Lib.hid fun W W' G D n c (h : RA r bo β μ S W G) => RealAt.putName (w' := W') (x := x) (D := D) (n := n) (c := c) (m := m) h hG.once hdd
        have HLk := Lib.hid fun W G (h : RA r bo β μ { S with E := Pz.take S.E d x ++ [⟨d, x, m⟩] } W G) => RealAt.links h (n := m) hm (l + 1)
        have hnc5 := fun W G (h : RA r bo β μ { S with E := Pz.take S.E d x ++ [⟨d, x, m⟩] } W G) => And.intro (RealAt.nc h (n := m) hm).2.1 (RealAt.nc h (n := m) hm).2.2.2.2
        rw [show (Pz.nodeD ({ S with E := Pz.take S.E d x ++ [⟨d, x, m⟩] } : Pz.Fil).N m).links = l from hl.symm] at hnc5
        have HNc5 := Lib.hid hnc5
        have hcnt : Pz.count S.E d < maxLen := by
          have := List.length_filter_le (fun e : Pz.En => e.dir == d) S.E
          have := hG.e
          unfold Pz.count maxLen
          omega
        have HCnt := Lib.hid hcnt
        clear h0 h1 h2 hres hR hG hf hm hD hok h47 hpl hz hz1 hdl hdd hl hl20 hnc4 hnc5 hcnt
        go_enter Tryz.func28, Tryz.ntmps28
        go_wp2_with fail
        refine (H0.out _ _ FX.out.inv).mono ?_
        rintro e w1 ⟨rfl, hb1⟩
        have FX1 := Lib.hid (FX.out.read ((RA.held r bo β μ) _) hb1)
        clear hb1
        obtain ⟨b0, b1, b2, b3, b4, b5, b6, b7⟩ := FX1.out.c8
        go_wp2_with fail
        refine (HF.out _ _ FX1.out.inv).mono ?_
        rintro e w2 ⟨rfl, hb2⟩
        have FX2 := Lib.hid (FX1.out.read ((RA.held r bo β μ) _) hb2)
        clear hb2
        clear b0 b1 b2 b3 b4 b5 b6 b7
        go_wp2_with fail
        refine (HDir.out _ _ FX2.out.inv).mono ?_
        rintro e w3 ⟨rfl, hb3⟩
        have FX3 := Lib.hid (FX2.out.read ((RA.held r bo β μ) _) hb3)
        clear hb3
        obtain ⟨b0, b1, b2, b3, b4, b5, b6, b7⟩ := FX3.out.c8
        go_wp2_with fail
        refine (HP.out _ _ FX3.out.inv).mono ?_
        rintro e w4 ⟨rfl, hb4⟩
        have FX4 := Lib.hid (FX3.out.read ((RA.held r bo β μ) _) hb4)
        clear hb4
        clear b0 b1 b2 b3 b4 b5 b6 b7
        have n2 := HNc2.out _ _ FX4.out.inv
        have n4 := HNc4.out _ _ FX4.out.inv
        obtain ⟨D2, hown2, hme2⟩ := HMap2.out _ _ FX4.out.inv
        have HOwn2 := Lib.hid hown2
        have HMe2 := Lib.hid hme2
        have HAt := Lib.hid ((look_keys hme2 x).1 Hz.out)
        clear hown2 hme2
        go_wp2_with (first | (at_lookup; refine lookup_nil rfl _ _ 103 rfl 9 62 Tryz.strLaw Tryz.underlying103 (Tryz.zeroP _) _ _ D2 rfl HOwn2.out _ _ rfl HKey.out HAt.out ?_) | (at_mapUpdate; refine wpList_mapUpdate_in _ rfl _ _ _ 103 rfl 9 62 Tryz.strLaw Tryz.underlying103 _ _ _ D2 rfl HOwn2.out HCnt.out _ _ _ rfl rfl HKey.out (.lit (.int .i64 (β m))) [] rfl ?_; intro w5 hown5 hturn5; have HX := Lib.hid (HPut.out _ _ _ _ _ _ FX4.out.inv HOwn2.out HMe2.out hown5 hturn5); have n5 := HNc5.out _ _ HX.out.1; obtain ⟨n5a, n5b⟩ := n5; clear hown5 hturn5))
        have FX5 := Lib.hid (FX4.out.put (RA.held r bo β μ _) HX.out.1 HX.out.2)
        have hls := HLk.out _ _ FX5.out.inv
        have FX6 := Lib.hid (FX5.out.put (RA.held r bo β μ _) hls.1 hls.2)
        clear hls
        go_wp2_with fail
        refine (HDone.out _).mono ?_
        rintro e wf ⟨rfl, hbf⟩
        have FXF := Lib.hid ((FX6.out.imp RA.toF).read (RealF.held r _) hbf)
        unfold replyV
        have fxe := FXF.out
        obtain ⟨c0, c1, c2, c3, c4, c5, c6, hf7⟩ := cells7 fxe.res
        have f0 := hf7 0
        have f1 := hf7 1
        have f2 := hf7 2
        have f3 := hf7 3
        have f4 := hf7 4
        have f5 := hf7 5
        have f6 := hf7 6
        have HG := Lib.hid fxe
        clear hf7 fxe
        go_wp2
        try simp only [Exit.inBlock, Exit.then]
        refine bodyPost_ret (results_cell_row rfl _ _ (w.heap.size + 1) _ _ _ _ rfl (row7 HG.out.res _ _ _ _ _ _ _) Tryz.underlying36 rfl Tryz.infoR) rfl ?_
        rw [HResF.out]
        exact HG.out.done (RealF.held r) (Pz.er 0) none 0 (Or.inl rfl) _ _ _ _ _ _ _

end Go.Proofs.YtbpejjmfdhkfhaaGreatDoor
