/- Walks: the document's Do: a directory made, a name taken away, what is no call. -/
import Derived.Test.YtbpejjmfdhkfhaaGreatDoorPosRefU
set_option linter.unusedVariables false
set_option linter.unusedSimpArgs false
namespace Go.Proofs.YtbpejjmfdhkfhaaGreatDoor
open Go.RowKit

set_option maxHeartbeats 4000000 in
set_option maxRecDepth 8192 in
theorem rdo_bad (r : Nat) (S : Pz.Fil) (cl : Int) (kind : Int) (flags fd off n : Int) (p p2 data : ByteArray) (w : World) (F : Nat → Prop) (hc : cl < 1 ∨ 8 < cl) (hR : RefF r S w F) :
    Calls Tryz.prog 9 #[.pointer (some ⟨r, 0, none⟩), .int .i64 cl, callV kind p p2 flags fd off n data] w (Does (RefF r) (S, Pz.er 1) w F) := by
  have HFail := Lib.hid rfails_any
  have FX := Lib.hid (Fx.start (RefF.held r S) hR #[.int .i64 kind, .string p, .string p2, .int .i64 flags, .int .i64 fd, .int .i64 off, .int .i64 n, .string data])
  clear hR
  unfold callV
  by_cases h1 : cl < 1
  · clear hc
    go_enter Tryz.func9, Tryz.ntmps9
    go_wp2_with fail
    refine (HFail.out 1 _).mono ?_
    rintro e wf ⟨rfl, hbf⟩
    have FXF := Lib.hid (FX.out.read ((RefF.held r) _) hbf)
    unfold replyV
    have fxe := FXF.out
    obtain ⟨c0, c1, c2, c3, c4, c5, c6, hf7⟩ := cells7 fxe.res
    have f0 := hf7 0
    have f1 := hf7 1
    have f2 := hf7 2
    have f3 := hf7 3
    have f4 := hf7 4
    have f5 := hf7 5
    have f6 := hf7 6
    have HG := Lib.hid fxe
    clear hf7 fxe
    go_wp2
    try simp only [Exit.inBlock, Exit.then]
    refine bodyPost_ret (results_cell_row rfl _ _ (w.heap.size + 1) _ _ _ _ rfl (row7 HG.out.res _ _ _ _ _ _ _) Tryz.underlying36 rfl Tryz.infoR) rfl ?_
    exact HG.out.done (RefF.held r) (Pz.er 1) none 0 (Or.inl rfl) _ _ _ _ _ _ _
  have h2 : 8 < cl := hc.resolve_left h1
  have h1' : 1 ≤ cl := by omega
  clear hc h1
  go_enter Tryz.func9, Tryz.ntmps9
  go_wp2_with fail
  refine (HFail.out 1 _).mono ?_
  rintro e wf ⟨rfl, hbf⟩
  have FXF := Lib.hid (FX.out.read ((RefF.held r) _) hbf)
  unfold replyV
  have fxe := FXF.out
  obtain ⟨c0, c1, c2, c3, c4, c5, c6, hf7⟩ := cells7 fxe.res
  have f0 := hf7 0
  have f1 := hf7 1
  have f2 := hf7 2
  have f3 := hf7 3
  have f4 := hf7 4
  have f5 := hf7 5
  have f6 := hf7 6
  have HG := Lib.hid fxe
  clear hf7 fxe
  go_wp2
  try simp only [Exit.inBlock, Exit.then]
  refine bodyPost_ret (results_cell_row rfl _ _ (w.heap.size + 1) _ _ _ _ rfl (row7 HG.out.res _ _ _ _ _ _ _) Tryz.underlying36 rfl Tryz.infoR) rfl ?_
  exact HG.out.done (RefF.held r) (Pz.er 1) none 0 (Or.inl rfl) _ _ _ _ _ _ _

set_option maxHeartbeats 4000000 in
set_option maxRecDepth 8192 in
theorem rdo_none (r : Nat) (S : Pz.Fil) (cl : Int) (kind : Int) (flags fd off n : Int) (p p2 data : ByteArray) (w : World) (F : Nat → Prop) (hc1 : 1 ≤ cl) (hc2 : cl ≤ 8) (hk : kind < 1 ∨ 13 < kind) (hR : RefF r S w F) :
    Calls Tryz.prog 9 #[.pointer (some ⟨r, 0, none⟩), .int .i64 cl, callV kind p p2 flags fd off n data] w (Does (RefF r) (S, Pz.er 15) w F) := by
  have HFail := Lib.hid rfails_any
  have FX := Lib.hid (Fx.start (RefF.held r S) hR #[.int .i64 kind, .string p, .string p2, .int .i64 flags, .int .i64 fd, .int .i64 off, .int .i64 n, .string data])
  clear hR
  have k1 : (kind == 1) = false := by rw [beq_eq_false_iff_ne]; omega
  have k2 : (kind == 2) = false := by rw [beq_eq_false_iff_ne]; omega
  have k3 : (kind == 3) = false := by rw [beq_eq_false_iff_ne]; omega
  have k4 : (kind == 4) = false := by rw [beq_eq_false_iff_ne]; omega
  have k5 : (kind == 5) = false := by rw [beq_eq_false_iff_ne]; omega
  have k6 : (kind == 6) = false := by rw [beq_eq_false_iff_ne]; omega
  have k7 : (kind == 7) = false := by rw [beq_eq_false_iff_ne]; omega
  have k8 : (kind == 8) = false := by rw [beq_eq_false_iff_ne]; omega
  have k9 : (kind == 9) = false := by rw [beq_eq_false_iff_ne]; omega
  have ka : (kind == 10) = false := by rw [beq_eq_false_iff_ne]; omega
  have kb : (kind == 11) = false := by rw [beq_eq_false_iff_ne]; omega
  have kc : (kind == 12) = false := by rw [beq_eq_false_iff_ne]; omega
  have kd : (kind == 13) = false := by rw [beq_eq_false_iff_ne]; omega
  clear hk
  unfold callV
  go_enter Tryz.func9, Tryz.ntmps9
  go_wp2_with fail
  refine (HFail.out 15 _).mono ?_
  rintro e wf ⟨rfl, hbf⟩
  have FXF := Lib.hid (FX.out.read ((RefF.held r) _) hbf)
  unfold replyV
  have fxe := FXF.out
  obtain ⟨c0, c1, c2, c3, c4, c5, c6, hf7⟩ := cells7 fxe.res
  have f0 := hf7 0
  have f1 := hf7 1
  have f2 := hf7 2
  have f3 := hf7 3
  have f4 := hf7 4
  have f5 := hf7 5
  have f6 := hf7 6
  have HG := Lib.hid fxe
  clear hf7 fxe
  go_wp2
  try simp only [Exit.inBlock, Exit.then]
  refine bodyPost_ret (results_cell_row rfl _ _ (w.heap.size + 1) _ _ _ _ rfl (row7 HG.out.res _ _ _ _ _ _ _) Tryz.underlying36 rfl Tryz.infoR) rfl ?_
  exact HG.out.done (RefF.held r) (Pz.er 15) none 0 (Or.inl rfl) _ _ _ _ _ _ _

set_option maxHeartbeats 4000000 in
set_option maxRecDepth 8192 in
theorem rdo_7 (r : Nat) (S : Pz.Fil) (cl : Int) (flags fd off n : Int) (p p2 data : ByteArray) (w : World) (F : Nat → Prop) (hc1 : 1 ≤ cl) (hc2 : cl ≤ 8) (hp : p.size ≤ 100000) (hG : Pz.Good 1000 S) (hR : RefF r S w F) :
    Calls Tryz.prog 9 #[.pointer (some ⟨r, 0, none⟩), .int .i64 cl, callV 7 p p2 flags fd off n data] w (Does (RefF r) (Pz.mkdir S p.data.toList) w F) := by
  have HFail := Lib.hid rfails_any
  have FX := Lib.hid (Fx.start (RefF.held r S) hR #[.int .i64 7, .string p, .string p2, .int .i64 flags, .int .i64 fd, .int .i64 off, .int .i64 n, .string data])
  clear hR
  have hE := hG.e
  have hN := hG.n
  have h1 := fun W G (hR : RefF r S W G) => find_any 0 r S p W hp (by omega) (by omega) hG.ok hR.is
  have h2 := fun W G (hR : RefF r S W G) => place_any 0 r S p W hp (by omega) (by omega) hG.ok hR.is
  obtain ⟨R, hres⟩ : ∃ R, R = Pz.mkdir S p.data.toList := ⟨_, rfl⟩
  rw [← hres]
  unfold callV
  cases hf : Pz.find S p.data.toList with
  | ok m =>
    have HResF : Hid (R = (S, Pz.er 11)) := Lib.hid (by rw [hres, Pz.mkdir, hf])
    rw [hf] at h1
    simp only [toT] at h1
    have HF := Lib.hid h1
    clear h1 h2 hG hE hN hf hres
    go_enter Tryz.func9, Tryz.ntmps9
    go_wp2_with fail
    refine (HF.out _ _ FX.out.inv).mono ?_
    rintro e w1 ⟨rfl, hb1⟩
    have FX1 := Lib.hid (FX.out.read ((RefF.held r) _) hb1)
    clear hb1
    go_wp2_with fail
    refine (HFail.out 11 _).mono ?_
    rintro e wf ⟨rfl, hbf⟩
    have FXF := Lib.hid (FX1.out.read ((RefF.held r) _) hbf)
    unfold replyV
    have fxe := FXF.out
    obtain ⟨c0, c1, c2, c3, c4, c5, c6, hf7⟩ := cells7 fxe.res
    have f0 := hf7 0
    have f1 := hf7 1
    have f2 := hf7 2
    have f3 := hf7 3
    have f4 := hf7 4
    have f5 := hf7 5
    have f6 := hf7 6
    have HG := Lib.hid fxe
    clear hf7 fxe
    go_wp2
    try simp only [Exit.inBlock, Exit.then]
    refine bodyPost_ret (results_cell_row rfl _ _ (w.heap.size + 1) _ _ _ _ rfl (row7 HG.out.res _ _ _ _ _ _ _) Tryz.underlying36 rfl Tryz.infoR) rfl ?_
    rw [HResF.out]
    exact HG.out.done (RefF.held r) (Pz.er 11) none 0 (Or.inl rfl) _ _ _ _ _ _ _
  | error v =>
    obtain ⟨hv1, hv2, hv3⟩ := ne_of_err (Pz.find_err hf)
    rw [hf] at h1
    simp only [toT] at h1
    have HF := Lib.hid h1
    cases hpl : Pz.place S p.data.toList with
    | error g =>
      have HResF : Hid (R = (S, Pz.er g)) := Lib.hid (by rw [hres, Pz.mkdir, hf, hpl])
      obtain ⟨hg1, hg2, hg3⟩ := ne_of_err (Pz.place_err hpl)
      rw [hpl] at h2
      simp only [toP] at h2
      have HP := Lib.hid h2
      clear h1 h2 hG hE hN hf hres hpl
      go_enter Tryz.func9, Tryz.ntmps9
      go_wp2_with fail
      refine (HF.out _ _ FX.out.inv).mono ?_
      rintro e w1 ⟨rfl, hb1⟩
      have FX1 := Lib.hid (FX.out.read ((RefF.held r) _) hb1)
      clear hb1
      obtain ⟨b0, b1, b2, b3, b4, b5, b6, b7⟩ := FX1.out.c8
      go_wp2_with fail
      refine (HP.out _ _ FX1.out.inv).mono ?_
      rintro e w2 ⟨rfl, hb2⟩
      have FX2 := Lib.hid (FX1.out.read ((RefF.held r) _) hb2)
      clear hb2
      clear b0 b1 b2 b3 b4 b5 b6 b7
      go_wp2_with fail
      refine (HFail.out g _).mono ?_
      rintro e wf ⟨rfl, hbf⟩
      have FXF := Lib.hid (FX2.out.read ((RefF.held r) _) hbf)
      unfold replyV
      have fxe := FXF.out
      obtain ⟨c0, c1, c2, c3, c4, c5, c6, hf7⟩ := cells7 fxe.res
      have f0 := hf7 0
      have f1 := hf7 1
      have f2 := hf7 2
      have f3 := hf7 3
      have f4 := hf7 4
      have f5 := hf7 5
      have f6 := hf7 6
      have HG := Lib.hid fxe
      clear hf7 fxe
      go_wp2
      try simp only [Exit.inBlock, Exit.then]
      refine bodyPost_ret (results_cell_row rfl _ _ (w.heap.size + 1) _ _ _ _ rfl (row7 HG.out.res _ _ _ _ _ _ _) Tryz.underlying36 rfl Tryz.infoR) rfl ?_
      rw [HResF.out]
      exact HG.out.done (RefF.held r) (Pz.er g) none 0 (Or.inl rfl) _ _ _ _ _ _ _
    | ok dx =>
      obtain ⟨d, x⟩ := dx
      have HResF : Hid (R = ({ S with N := S.N ++ [⟨true, [], 1⟩], E := S.E ++ [⟨d, x, S.N.length⟩] }, Pz.er 0)) := Lib.hid (by rw [hres, Pz.mkdir, hf, hpl])
      rw [hpl] at h2
      simp only [toP] at h2
      have HP := Lib.hid h2
      have HNode := Lib.hid fun W G (h : RefF r S W G) => node_any r S true W G (by omega) h
      have HPut := Lib.hid fun W G (h : RefF r { S with N := S.N ++ [⟨true, [], 1⟩] } W G) => put_any r { S with N := S.N ++ [⟨true, [], 1⟩] } d S.N.length ⟨x.toArray⟩ W G (show S.E.length ≤ _ by omega) h
      clear h1 h2 hG hE hN hf hres hpl
      go_enter Tryz.func9, Tryz.ntmps9
      go_wp2_with fail
      refine (HF.out _ _ FX.out.inv).mono ?_
      rintro e w1 ⟨rfl, hb1⟩
      have FX1 := Lib.hid (FX.out.read ((RefF.held r) _) hb1)
      clear hb1
      obtain ⟨b0, b1, b2, b3, b4, b5, b6, b7⟩ := FX1.out.c8
      go_wp2_with fail
      refine (HP.out _ _ FX1.out.inv).mono ?_
      rintro e w2 ⟨rfl, hb2⟩
      have FX2 := Lib.hid (FX1.out.read ((RefF.held r) _) hb2)
      clear hb2
      clear b0 b1 b2 b3 b4 b5 b6 b7
      go_wp2_with fail
      refine (HNode.out _ _ FX2.out.inv).mono ?_
      rintro e w3 ⟨rfl, hi0, ho0⟩
      have FX3 := Lib.hid (FX2.out.write ((RefF.held r) _) hi0 ho0)
      clear hi0 ho0
      go_wp2_with fail
      refine (HPut.out _ _ FX3.out.inv).mono ?_
      rintro e w4 ⟨rfl, hi0, ho0⟩
      have FX4 := Lib.hid (FX3.out.write ((RefF.held r) _) hi0 ho0)
      clear hi0 ho0
      go_wp2_with fail
      refine (HFail.out 0 _).mono ?_
      rintro e wf ⟨rfl, hbf⟩
      have FXF := Lib.hid (FX4.out.read ((RefF.held r) _) hbf)
      unfold replyV
      have fxe := FXF.out
      obtain ⟨c0, c1, c2, c3, c4, c5, c6, hf7⟩ := cells7 fxe.res
      have f0 := hf7 0
      have f1 := hf7 1
      have f2 := hf7 2
      have f3 := hf7 3
      have f4 := hf7 4
      have f5 := hf7 5
      have f6 := hf7 6
      have HG := Lib.hid fxe
      clear hf7 fxe
      go_wp2
      try simp only [Exit.inBlock, Exit.then]
      refine bodyPost_ret (results_cell_row rfl _ _ (w.heap.size + 1) _ _ _ _ rfl (row7 HG.out.res _ _ _ _ _ _ _) Tryz.underlying36 rfl Tryz.infoR) rfl ?_
      rw [HResF.out]
      exact HG.out.done (RefF.held r) (Pz.er 0) none 0 (Or.inl rfl) _ _ _ _ _ _ _

set_option maxHeartbeats 4000000 in
set_option maxRecDepth 8192 in
theorem rdo_10 (r : Nat) (S : Pz.Fil) (cl : Int) (flags fd off n : Int) (p p2 data : ByteArray) (w : World) (F : Nat → Prop) (hc1 : 1 ≤ cl) (hc2 : cl ≤ 8) (hp : p.size ≤ 100000) (hG : Pz.Good 1000 S) (hR : RefF r S w F) :
    Calls Tryz.prog 9 #[.pointer (some ⟨r, 0, none⟩), .int .i64 cl, callV 10 p p2 flags fd off n data] w (Does (RefF r) (Pz.unlink S p.data.toList) w F) := by
  have HFail := Lib.hid rfails_any
  have FX := Lib.hid (Fx.start (RefF.held r S) hR #[.int .i64 10, .string p, .string p2, .int .i64 flags, .int .i64 fd, .int .i64 off, .int .i64 n, .string data])
  clear hR
  have hE := hG.e
  have hN := hG.n
  have h1 := fun W G (hR : RefF r S W G) => find_any 0 r S p W hp (by omega) (by omega) hG.ok hR.is
  have h2 := fun W G (hR : RefF r S W G) => place_any 0 r S p W hp (by omega) (by omega) hG.ok hR.is
  obtain ⟨R, hres⟩ : ∃ R, R = Pz.unlink S p.data.toList := ⟨_, rfl⟩
  rw [← hres]
  unfold callV
  cases hf : Pz.find S p.data.toList with
  | error v =>
    have HResF : Hid (R = (S, Pz.er v)) := Lib.hid (by rw [hres, Pz.unlink, hf])
    obtain ⟨hv1, hv2, hv3⟩ := ne_of_err (Pz.find_err hf)
    rw [hf] at h1
    simp only [toT] at h1
    have HF := Lib.hid h1
    clear h1 h2 hG hE hN hf hres
    go_enter Tryz.func9, Tryz.ntmps9
    go_wp2_with fail
    refine (HF.out _ _ FX.out.inv).mono ?_
    rintro e w1 ⟨rfl, hb1⟩
    have FX1 := Lib.hid (FX.out.read ((RefF.held r) _) hb1)
    clear hb1
    go_wp2_with fail
    refine (HFail.out v _).mono ?_
    rintro e wf ⟨rfl, hbf⟩
    have FXF := Lib.hid (FX1.out.read ((RefF.held r) _) hbf)
    unfold replyV
    have fxe := FXF.out
    obtain ⟨c0, c1, c2, c3, c4, c5, c6, hf7⟩ := cells7 fxe.res
    have f0 := hf7 0
    have f1 := hf7 1
    have f2 := hf7 2
    have f3 := hf7 3
    have f4 := hf7 4
    have f5 := hf7 5
    have f6 := hf7 6
    have HG := Lib.hid fxe
    clear hf7 fxe
    go_wp2
    try simp only [Exit.inBlock, Exit.then]
    refine bodyPost_ret (results_cell_row rfl _ _ (w.heap.size + 1) _ _ _ _ rfl (row7 HG.out.res _ _ _ _ _ _ _) Tryz.underlying36 rfl Tryz.infoR) rfl ?_
    rw [HResF.out]
    exact HG.out.done (RefF.held r) (Pz.er v) none 0 (Or.inl rfl) _ _ _ _ _ _ _
  | ok m =>
    have hm := Pz.find_lt hG.ok hf
    rw [hf] at h1
    simp only [toT] at h1
    have HF := Lib.hid h1
    have HD := Lib.hid fun W G (h : RefF r S W G) => h.dirAt hm
    obtain ⟨q, hq⟩ : ∃ q, q = S.N.length := ⟨_, rfl⟩
    have Hq := Lib.hid hq
    have hm1 : (0 : Int) ≤ m := by omega
    have hm2 : (m : Int) < q := by omega
    cases hD : Pz.isDir S.N m with
    | true =>
      have HResF : Hid (R = (S, Pz.er 13)) := Lib.hid (by rw [hres, Pz.unlink, hf]; simp only [hD, if_true])
      rw [← hq, hD] at HD
      clear h1 h2 hG hE hN hf hres hq hm hD
      go_enter Tryz.func9, Tryz.ntmps9
      go_wp2_with fail
      refine (HF.out _ _ FX.out.inv).mono ?_
      rintro e w1 ⟨rfl, hb1⟩
      have FX1 := Lib.hid (FX.out.read ((RefF.held r) _) hb1)
      clear hb1
      obtain ⟨b, c, g, g0, _, _⟩ := HD.out _ _ FX1.out.inv
      go_wp2_with fail
      refine (HFail.out 13 _).mono ?_
      rintro e wf ⟨rfl, hbf⟩
      have FXF := Lib.hid (FX1.out.read ((RefF.held r) _) hbf)
      unfold replyV
      have fxe := FXF.out
      obtain ⟨c0, c1, c2, c3, c4, c5, c6, hf7⟩ := cells7 fxe.res
      have f0 := hf7 0
      have f1 := hf7 1
      have f2 := hf7 2
      have f3 := hf7 3
      have f4 := hf7 4
      have f5 := hf7 5
      have f6 := hf7 6
      have HG := Lib.hid fxe
      clear hf7 fxe
      go_wp2
      try simp only [Exit.inBlock, Exit.then]
      refine bodyPost_ret (results_cell_row rfl _ _ (w.heap.size + 1) _ _ _ _ rfl (row7 HG.out.res _ _ _ _ _ _ _) Tryz.underlying36 rfl Tryz.infoR) rfl ?_
      rw [HResF.out]
      exact HG.out.done (RefF.held r) (Pz.er 13) none 0 (Or.inl rfl) _ _ _ _ _ _ _
    | false =>
      have h47 : ¬ p.data.toList = [47] := by
        intro e
        rw [e, Pz.find_root] at hf
        cases hf
        rw [hG.root] at hD
        cases hD
      obtain ⟨d, x, hpl, hlk, hdd⟩ := Pz.place_of_find hf h47
      obtain ⟨l, hl⟩ : ∃ l, l = (Pz.nodeD S.N m).links := ⟨_, rfl⟩
      obtain ⟨hlb1, hlb2⟩ : l ≤ 20 ∧ -1000 ≤ l := by rw [hl]; exact Pz.nodeD_links hG hm
      have HResF : Hid (R = ({ S with E := Pz.take S.E d x, N := S.N.set m { Pz.nodeD S.N m with links := l - 1 } }, Pz.er 0)) := Lib.hid (by
        rw [hres, Pz.unlink, hf]
        simp only [hD, Bool.false_eq_true, if_false, hpl, hl])
      rw [hpl] at h2
      simp only [toP] at h2
      have HP := Lib.hid h2
      have HT := Lib.hid fun W G (h : RefF r S W G) => take_any r S d ⟨x.toArray⟩ W G (by omega) h
      have hD2 := fun W G (h : RefF r { S with E := Pz.take S.E d x } W G) => h.nodeAt (show m < S.N.length from hm)
      rw [show ({ S with E := Pz.take S.E d x } : Pz.Fil).N.length = q from hq.symm, show (Pz.nodeD ({ S with E := Pz.take S.E d x } : Pz.Fil).N m).links = l from hl.symm] at hD2
      have HD2 := Lib.hid hD2
      rw [← hq, hD] at HD
      clear h1 h2 hG hE hN hf hres hq hm hD hpl hlk hdd hl hD2 h47
      go_enter Tryz.func9, Tryz.ntmps9
      go_wp2_with fail
      refine (HF.out _ _ FX.out.inv).mono ?_
      rintro e w1 ⟨rfl, hb1⟩
      have FX1 := Lib.hid (FX.out.read ((RefF.held r) _) hb1)
      clear hb1
      obtain ⟨b, c, g, g0, _, _⟩ := HD.out _ _ FX1.out.inv
      obtain ⟨b0, b1, b2, b3, b4, b5, b6, b7⟩ := FX1.out.c8
      go_wp2_with fail
      refine (HP.out _ _ FX1.out.inv).mono ?_
      rintro e w2 ⟨rfl, hb2⟩
      have FX2 := Lib.hid (FX1.out.read ((RefF.held r) _) hb2)
      clear hb2
      clear b0 b1 b2 b3 b4 b5 b6 b7
      clear g g0
      go_wp2_with fail
      refine (HT.out _ _ FX2.out.inv).mono ?_
      rintro e w3 ⟨rfl, hi0, ho0⟩
      have FX3 := Lib.hid (FX2.out.write ((RefF.held r) _) hi0 ho0)
      clear hi0 ho0
      obtain ⟨b5, c5, g5, _, _, g52, _, f52, _, hst⟩ := HD2.out _ _ FX3.out.inv
      have FX4 := Lib.hid (FX3.out.put (RefF.held _ _) (hst (l - 1)).1 (hst (l - 1)).2)
      clear hst
      have fxe := FX4.out
      obtain ⟨c0, c1, c2, c3, c4, c5, c6, hf7⟩ := cells7 fxe.res
      have f0 := hf7 0
      have f1 := hf7 1
      have f2 := hf7 2
      have f3 := hf7 3
      have f4 := hf7 4
      have f5 := hf7 5
      have f6 := hf7 6
      have HG := Lib.hid fxe
      clear hf7 fxe
      go_wp2
      try simp only [Exit.inBlock, Exit.then]
      refine bodyPost_ret (results_cell_row rfl _ _ (w.heap.size + 1) _ _ _ _ rfl (row7 HG.out.res _ _ _ _ _ _ _) Tryz.underlying36 rfl Tryz.infoR) rfl ?_
      rw [HResF.out]
      exact HG.out.done (RefF.held r) (Pz.er 0) none 0 (Or.inl rfl) _ _ _ _ _ _ _

end Go.Proofs.YtbpejjmfdhkfhaaGreatDoor

/- The document's Do comes to what the plain one says, for every call. -/
namespace Go.Proofs.YtbpejjmfdhkfhaaGreatDoor
open Go.RowKit

theorem rename_eq {S : Pz.Fil} {p p2 : ByteArray} (h : RenPre S p p2) {v : Int} (hf : Pz.find S p.data.toList = .error v) : Pz.rename S p.data.toList p2.data.toList = (S, Pz.er v) := by
  rw [Pz.rename, if_neg (by rintro (g | g | g | g)
                            · exact h.ok (Or.inl g)
                            · exact h.ok (Or.inr g)
                            · exact h.h1 g
                            · exact h.h2 g), hf]
theorem rrename_any (r : Nat) (S : Pz.Fil) (kind flags fd off n : Int) (p p2 data : ByteArray) (w : World) (F : Nat → Prop) (hp : p.size ≤ 100000) (hp2 : p2.size ≤ 100000) (hG : Pz.Good 1000 S) (hR : RefF r S w F) :
    Calls Tryz.prog 43 #[.pointer (some ⟨r, 0, none⟩), callV kind p p2 flags fd off n data] w (Does (RefF r) (Pz.rename S p.data.toList p2.data.toList) w F) := by
  by_cases hbad : Np.pathL p.data.toList = none ∨ Np.pathL p2.data.toList = none ∨ p.data.toList = [47] ∨ p2.data.toList = [47]
  · rw [Pz.rename, if_pos hbad]
    exact rrename_bad r S kind flags fd off n p p2 data w F hp hp2 hbad hR
  have hpre : RenPre S p p2 := ⟨hp, hp2, hG, fun h => hbad (h.elim Or.inl fun h => Or.inr (Or.inl h)), fun h => hbad (Or.inr (Or.inr (Or.inl h))), fun h => hbad (Or.inr (Or.inr (Or.inr h)))⟩
  cases hf : Pz.find S p.data.toList with
  | error v =>
    rw [rename_eq hpre hf]
    exact rrename_err r S kind flags fd off n p p2 data w F hpre v hf hR
  | ok m =>
    cases hD : Pz.isDir S.N m with
    | true => exact rrename_dir r S kind flags fd off n p p2 data w F hpre m hf hD hR
    | false => exact rrename_file r S kind flags fd off n p p2 data w F hpre m hf hD hR

theorem ropen_any (r : Nat) (S : Pz.Fil) (cl kind flags fd off n : Int) (p p2 data : ByteArray) (w : World) (F : Nat → Prop) (hp : p.size ≤ 100000) (hG : Pz.Good 1000 S) (hR : RefF r S w F) :
    Calls Tryz.prog 33 #[.pointer (some ⟨r, 0, none⟩), .int .i64 cl, callV kind p p2 flags fd off n data] w (Does (RefF r) (Pz.opens S cl flags p.data.toList) w F) := by
  by_cases hfl : flags = 0 ∨ flags = 1 ∨ flags = 3
  · have hpre : OpenPre S p := ⟨hp, hG⟩
    rw [Pz.opens, if_neg (fun h => h hfl)]
    cases hf : Pz.find S p.data.toList with
    | ok m =>
      rcases hfl with rfl | rfl | rfl
      · exact ropen_ok0 r S cl kind fd off n p p2 data w F hpre m hf _ rfl hR
      · exact ropen_ok1 r S cl kind fd off n p p2 data w F hpre m hf _ rfl hR
      · exact ropen_ok3 r S cl kind fd off n p p2 data w F hpre m hf hR
    | error v =>
      by_cases hv : v = 10
      · subst hv
        cases hpl : Pz.place S p.data.toList with
        | error g =>
          rcases hfl with rfl | rfl | rfl
          · exact ropen_err0 r S cl kind fd off n p p2 data w F hpre 10 hf hR
          · exact ropen_err1 r S cl kind fd off n p p2 data w F hpre 10 hf (Or.inr ⟨g, hpl⟩) hR
          · exact ropen_err3 r S cl kind fd off n p p2 data w F hpre 10 hf (Or.inr ⟨g, hpl⟩) hR
        | ok dx =>
          obtain ⟨d, x⟩ := dx
          rcases hfl with rfl | rfl | rfl
          · exact ropen_err0 r S cl kind fd off n p p2 data w F hpre 10 hf hR
          · exact ropen_new1 r S cl kind fd off n p p2 data w F hpre hf d x hpl _ rfl hR
          · exact ropen_new3 r S cl kind fd off n p p2 data w F hpre hf d x hpl _ rfl hR
      · simp only [hv, false_and, if_false]
        rcases hfl with rfl | rfl | rfl
        · exact ropen_err0 r S cl kind fd off n p p2 data w F hpre v hf hR
        · exact ropen_err1 r S cl kind fd off n p p2 data w F hpre v hf (Or.inl hv) hR
        · exact ropen_err3 r S cl kind fd off n p p2 data w F hpre v hf (Or.inl hv) hR
  · rw [Pz.opens, if_pos hfl]
    exact ropen_bad r S cl kind flags fd off n p p2 data w F hfl hR

theorem rfile_write_any (r : Nat) (S : Pz.Fil) (cl : Int) (m : Nat) (flags fd off n : Int) (p p2 data : ByteArray) (w : World) (F : Nat → Prop) (hpre : Pz.Good 1000 S) (hm : m < S.N.length) (hR : RefF r S w F) :
    Calls Tryz.prog 35 #[.pointer (some ⟨r, 0, none⟩), .int .i64 cl, .int .i64 m, callV 4 p p2 flags fd off n data] w (Does (RefF r) (Pz.file S cl m 4 fd off n data.data.toList) w F) := by
  by_cases h1 : off < 0 ∨ 64 < data.size
  · exact rfile_write_no1 r S cl m flags fd off n p p2 data w F hpre hm h1 hR
  by_cases h2 : data.size = 0 ∨ 256 < off + data.size
  · exact rfile_write_no2 r S cl m flags fd off n p p2 data w F hpre hm (by omega) h2 hR
  · exact rfile_write_yes r S cl m flags fd off n p p2 data w F hpre hm (by omega) hR

theorem rdo_any (r : Nat) (S : Pz.Fil) (cl kind flags fd off n : Int) (p p2 data : ByteArray) (w : World) (F : Nat → Prop) (hp : p.size ≤ 100000) (hp2 : p2.size ≤ 100000) (hG : Pz.Good 1000 S) (hR : RefF r S w F) :
    Calls Tryz.prog 9 #[.pointer (some ⟨r, 0, none⟩), .int .i64 cl, callV kind p p2 flags fd off n data] w (Does (RefF r) (Pz.doA S cl kind p.data.toList p2.data.toList flags fd off n data.data.toList) w F) := by
  unfold Pz.doA
  by_cases hc : cl < 1 ∨ 8 < cl
  · rw [if_pos hc]
    exact rdo_bad r S cl kind flags fd off n p p2 data w F hc hR
  rw [if_neg hc]
  have hc1 : 1 ≤ cl := by omega
  have hc2 : cl ≤ 8 := by omega
  by_cases hk : kind < 1 ∨ 13 < kind
  · repeat rw [if_neg (by omega)]
    exact rdo_none r S cl kind flags fd off n p p2 data w F hc1 hc2 hk hR
  have hk3 : kind = 1 ∨ (kind = 2 ∨ kind = 3 ∨ kind = 4 ∨ kind = 5 ∨ kind = 6) ∨ kind = 7 ∨ kind = 8 ∨ kind = 9 ∨ kind = 10 ∨ kind = 11 ∨ kind = 12 ∨ kind = 13 := by omega
  rcases hk3 with rfl | hk3 | rfl | rfl | rfl | rfl | rfl | rfl | rfl
  · rw [if_pos rfl]
    exact rdo_1 r S cl flags fd off n p p2 data w F hc1 hc2 _ (fun W G h => ropen_any r S cl 1 flags fd off n p p2 data W G hp hG h) hR
  · rw [if_neg (by omega), if_pos (by omega)]
    by_cases hz : Pz.ofd S.O cl fd < 0
    · rw [if_pos hz]
      rcases hk3 with rfl | rfl | rfl | rfl | rfl
      · exact rdo_2n r S cl flags fd off n p p2 data w F hc1 hc2 hG hz hR
      · exact rdo_3n r S cl flags fd off n p p2 data w F hc1 hc2 hG hz hR
      · exact rdo_4n r S cl flags fd off n p p2 data w F hc1 hc2 hG hz hR
      · exact rdo_5n r S cl flags fd off n p p2 data w F hc1 hc2 hG hz hR
      · exact rdo_6n r S cl flags fd off n p p2 data w F hc1 hc2 hG hz hR
    · rw [if_neg hz]
      obtain ⟨m, hm⟩ : ∃ m : Nat, Pz.ofd S.O cl fd = m := ⟨(Pz.ofd S.O cl fd).toNat, by omega⟩
      have hlt : m < S.N.length := by have := Pz.ofd_lt (c := cl) (fd := fd) hG.ok.opn; omega
      rw [hm, Int.toNat_natCast]
      rcases hk3 with rfl | rfl | rfl | rfl | rfl
      · exact rdo_2 r S cl flags fd off n p p2 data w F hc1 hc2 hG _ m hm (fun W G h => rfile_close r S cl m flags fd off n p p2 data W G hG hlt h) hR
      · exact rdo_3 r S cl flags fd off n p p2 data w F hc1 hc2 hG _ m hm (fun W G h => rfile_read r S cl m flags fd off n p p2 data W G hG hlt h) hR
      · exact rdo_4 r S cl flags fd off n p p2 data w F hc1 hc2 hG _ m hm (fun W G h => rfile_write_any r S cl m flags fd off n p p2 data W G hG hlt h) hR
      · exact rdo_5 r S cl flags fd off n p p2 data w F hc1 hc2 hG _ m hm (fun W G h => rfile_trunc r S cl m flags fd off n p p2 data W G hG hlt h) hR
      · exact rdo_6 r S cl flags fd off n p p2 data w F hc1 hc2 hG _ m hm (fun W G h => rfile_sync r S cl m flags fd off n p p2 data W G hG hlt h) hR
  · exact rdo_7 r S cl flags fd off n p p2 data w F hc1 hc2 hp hG hR
  · exact rdo_8 r S cl flags fd off n p p2 data w F hc1 hc2 _ (fun W G h => rrmdir_any r S 8 flags fd off n p p2 data W G hp hG h) hR
  · exact rdo_9 r S cl flags fd off n p p2 data w F hc1 hc2 _ (fun W G h => rlink_any r S 9 flags fd off n p p2 data W G hp hp2 hG h) hR
  · exact rdo_10 r S cl flags fd off n p p2 data w F hc1 hc2 hp hG hR
  · exact rdo_11 r S cl flags fd off n p p2 data w F hc1 hc2 _ (fun W G h => rrename_any r S 11 flags fd off n p p2 data W G hp hp2 hG h) hR
  · exact rdo_12 r S cl flags fd off n p p2 data w F hc1 hc2 _ (fun W G h => rtells_any r S 12 flags fd off n p p2 data W G hp hG h) hR
  · exact rdo_13 r S cl flags fd off n p p2 data w F hc1 hc2 _ (fun W G h => rtells_any r S 13 flags fd off n p p2 data W G hp hG h) hR

end Go.Proofs.YtbpejjmfdhkfhaaGreatDoor
