/- Walks: the document's rename, where the old path is a node's. -/
import Derived.Test.YtbpejjmfdhkfhaaGreatDoorPosRefJ
set_option linter.unusedVariables false
set_option linter.unusedSimpArgs false
namespace Go.Proofs.YtbpejjmfdhkfhaaGreatDoor
open Go.RowKit

set_option maxHeartbeats 8000000 in
set_option maxRecDepth 8192 in
theorem rrename_dir (r : Nat) (S : Pz.Fil) (kind flags fd off n : Int) (p p2 data : ByteArray) (w : World) (F : Nat → Prop) (hpre : RenPre S p p2) (m : Nat) (hf : Pz.find S p.data.toList = .ok m) (hDt : Pz.isDir S.N m = true) (hR : RefF r S w F) :
    Calls Tryz.prog 43 #[.pointer (some ⟨r, 0, none⟩), callV kind p p2 flags fd off n data] w (Does (RefF r) (Pz.rename S p.data.toList p2.data.toList) w F) := by
  have HFail := Lib.hid rfails_any
  have h0 := fun W => rpaths_any kind flags fd off n p p2 data W hpre.hp hpre.hp2
  have hE := hpre.good.e
  have hN := hpre.good.n
  have h1 := fun W G (hR : RefF r S W G) => find_any 0 r S p W hpre.hp (by omega) (by omega) hpre.good.ok hR.is
  have h2 := fun W G (hR : RefF r S W G) => place_any 0 r S p2 W hpre.hp2 (by omega) (by omega) hpre.good.ok hR.is
  have FX := Lib.hid (Fx.start (RefF.held r S) hR #[.int .i64 kind, .string p, .string p2, .int .i64 flags, .int .i64 fd, .int .i64 off, .int .i64 n, .string data])
  unfold callV at h0 ⊢
  rw [both_of hpre.ok] at h0
  have H0 := Lib.hid h0
  have h47a := path_ne hpre.h1
  have h47b := path_ne hpre.h2
  have hm := Pz.find_lt hpre.good.ok hf
  obtain ⟨o, y, hpo, hlk, hod⟩ := Pz.place_of_find hf hpre.h1
  rw [hf] at h1
  simp only [toT] at h1
  have HF := Lib.hid h1
  have HD := Lib.hid fun W G (h : RefF r S W G) => h.dirAt hm
  obtain ⟨q, hq⟩ : ∃ q, q = S.N.length := ⟨_, rfl⟩
  have Hq := Lib.hid hq
  rw [← hq, hDt] at HD
  obtain ⟨R, hres⟩ : ∃ R, R = Pz.rename S p.data.toList p2.data.toList := ⟨_, rfl⟩
  rw [← hres]
  have HRes1 : Hid (R = if p.data.toList ≠ p2.data.toList ∧ insideB (Np.pathL p2.data.toList) (Np.pathL p.data.toList) = true then (S, Pz.er 15) else
    match Pz.place S p2.data.toList with
    | .error g => (S, Pz.er g)
    | .ok q => if Pz.look S.E q.1 q.2 = m then (S, Pz.er 0) else if Pz.overErr S m (Pz.look S.E q.1 q.2) ≠ 0 then (S, Pz.er (Pz.overErr S m (Pz.look S.E q.1 q.2))) else
      match Pz.place S p.data.toList with
      | .error _ => (S, Pz.er 0)
      | .ok o => ({ Pz.over S (Pz.look S.E q.1 q.2) q with E := Pz.take (Pz.over S (Pz.look S.E q.1 q.2) q).E o.1 o.2 ++ [⟨q.1, q.2, m⟩] }, Pz.er 0)) := Lib.hid (by
    rw [hres, Pz.rename, if_neg (by rintro (h | h | h | h)
                                    · exact hpre.ok (Or.inl h)
                                    · exact hpre.ok (Or.inr h)
                                    · exact hpre.h1 h
                                    · exact hpre.h2 h), hf]
    simp only [hDt, true_and]
    rfl)
  have hmq : m < q := by omega
  have hm1 : (0 : Int) ≤ m := by omega
  have hm2 : (m : Int) < q := by omega
  clear h0 h1 hq hres hR hE hN hm hod
  by_cases hpp : p.data.toList = p2.data.toList
  · have hpb : (p.toList == p2.toList) = true := by rw [beq_iff_eq, Lib.toList_data, Lib.toList_data]; exact hpp
    have HRes2 := Lib.hid (HRes1.out.trans (if_neg fun h => h.1 hpp))
    have hpl : Pz.place S p2.data.toList = .ok (o, y) := by rw [← hpp]; exact hpo
    rw [hpl] at h2
    simp only [toP] at h2
    have HP := Lib.hid h2
    have hE := hpre.good.e
    have HL := Lib.hid fun W G (h : RefF r S W G) => look_any 0 r S o ⟨y.toArray⟩ W (by omega) h.is
    rw [show (⟨y.toArray⟩ : ByteArray).data.toList = y from rfl, hlk] at HL
    have HRes3 : Hid (R = (S, Pz.er 0)) := Lib.hid (by rw [HRes2.out, hpl]; simp only [hlk, if_true])
    have hzb : ((m : Int) == (m : Int)) = true := by simp
    clear hpp hpl h2 hpre hlk hf hpo hE hDt
    go_enter Tryz.func43, Tryz.ntmps43
    go_wp2_with fail
    refine (H0.out _).mono ?_
    rintro e w1 ⟨rfl, hb1⟩
    have FX1 := Lib.hid (FX.out.read ((RefF.held r) _) hb1)
    clear hb1
    obtain ⟨b0, b1, b2, b3, b4, b5, b6, b7⟩ := FX1.out.c8
    go_wp2_with fail
    refine (HF.out _ _ FX1.out.inv).mono ?_
    rintro e w2 ⟨rfl, hb2⟩
    have FX2 := Lib.hid (FX1.out.read ((RefF.held r) _) hb2)
    clear hb2
    clear b0 b1 b2 b3 b4 b5 b6 b7
    obtain ⟨b0, b1, b2, b3, b4, b5, b6, b7⟩ := FX2.out.c8
    obtain ⟨b, c, g, g0, _, _⟩ := HD.out _ _ FX2.out.inv
    go_wp2_with fail
    refine (HP.out _ _ FX2.out.inv).mono ?_
    rintro e w3 ⟨rfl, hb3⟩
    have FX3 := Lib.hid (FX2.out.read ((RefF.held r) _) hb3)
    clear hb3
    clear b0 b1 b2 b3 b4 b5 b6 b7
    clear g g0
    go_wp2_with fail
    refine (HL.out _ _ FX3.out.inv).mono ?_
    rintro e w4 ⟨rfl, hb4⟩
    have FX4 := Lib.hid (FX3.out.read ((RefF.held r) _) hb4)
    clear hb4
    obtain ⟨b0, b1, b2, b3, b4, b5, b6, b7⟩ := FX4.out.c8
    clear b0 b1 b2 b3 b4 b5 b6 b7
    have fxe := FX4.out
    obtain ⟨c0, c1, c2, c3, c4, c5, c6, hf7⟩ := cells7 fxe.res
    have f0 := hf7 0
    have f1 := hf7 1
    have f2 := hf7 2
    have f3 := hf7 3
    have f4 := hf7 4
    have f5 := hf7 5
    have f6 := hf7 6
    have HG := Lib.hid fxe
    clear hf7 fxe
    go_wp2
    try simp only [Exit.inBlock, Exit.then]
    refine bodyPost_ret (results_cell_row rfl _ _ (w.heap.size + 1) _ _ _ _ rfl (row7 HG.out.res _ _ _ _ _ _ _) Tryz.underlying36 rfl Tryz.infoR) rfl ?_
    rw [HRes3.out]
    exact HG.out.done (RefF.held r) (Pz.er 0) none 0 (Or.inl rfl) _ _ _ _ _ _ _
  have hpb : (p.toList == p2.toList) = false := by rw [beq_eq_false_iff_ne, Lib.toList_data, Lib.toList_data]; exact hpp
  have h4 := fun W => rinside_any p2 p W hpre.hp2 hpre.hp
  cases hin : insideB (Np.pathL p2.data.toList) (Np.pathL p.data.toList) with
  | true =>
    have HRes2 := Lib.hid (HRes1.out.trans (if_pos ⟨hpp, hin⟩))
    rw [hin] at h4
    have HI := Lib.hid h4
    clear hpp h2 h4 hpre hlk hf hpo hDt hin
    go_enter Tryz.func43, Tryz.ntmps43
    go_wp2_with fail
    refine (H0.out _).mono ?_
    rintro e w1 ⟨rfl, hb1⟩
    have FX1 := Lib.hid (FX.out.read ((RefF.held r) _) hb1)
    clear hb1
    obtain ⟨b0, b1, b2, b3, b4, b5, b6, b7⟩ := FX1.out.c8
    go_wp2_with fail
    refine (HF.out _ _ FX1.out.inv).mono ?_
    rintro e w2 ⟨rfl, hb2⟩
    have FX2 := Lib.hid (FX1.out.read ((RefF.held r) _) hb2)
    clear hb2
    clear b0 b1 b2 b3 b4 b5 b6 b7
    obtain ⟨b0, b1, b2, b3, b4, b5, b6, b7⟩ := FX2.out.c8
    obtain ⟨b, c, g, g0, _, _⟩ := HD.out _ _ FX2.out.inv
    go_wp2_with fail
    refine (HI.out _).mono ?_
    rintro e w3 ⟨rfl, hb3⟩
    have FX3 := Lib.hid (FX2.out.read ((RefF.held r) _) hb3)
    clear hb3
    clear b0 b1 b2 b3 b4 b5 b6 b7
    clear g g0
    go_wp2_with fail
    refine (HFail.out 15 _).mono ?_
    rintro e wf ⟨rfl, hbf⟩
    have FXF := Lib.hid (FX3.out.read ((RefF.held r) _) hbf)
    unfold replyV
    have fxe := FXF.out
    obtain ⟨c0, c1, c2, c3, c4, c5, c6, hf7⟩ := cells7 fxe.res
    have f0 := hf7 0
    have f1 := hf7 1
    have f2 := hf7 2
    have f3 := hf7 3
    have f4 := hf7 4
    have f5 := hf7 5
    have f6 := hf7 6
    have HG := Lib.hid fxe
    clear hf7 fxe
    go_wp2
    try simp only [Exit.inBlock, Exit.then]
    refine bodyPost_ret (results_cell_row rfl _ _ (w.heap.size + 1) _ _ _ _ rfl (row7 HG.out.res _ _ _ _ _ _ _) Tryz.underlying36 rfl Tryz.infoR) rfl ?_
    rw [HRes2.out]
    exact HG.out.done (RefF.held r) (Pz.er 15) none 0 (Or.inl rfl) _ _ _ _ _ _ _
  | false =>
    have HRes2 := Lib.hid (HRes1.out.trans (if_neg fun h => by rw [hin] at h; exact absurd h.2 (by decide)))
    rw [hin] at h4
    have HI := Lib.hid h4
    have HPre := Lib.hid (And.intro hpre (And.intro h2 (And.intro hlk (And.intro hf (And.intro hpo hDt)))))
    clear hpp h2 h4 hpre hlk hf hpo hDt hin
    go_enter Tryz.func43, Tryz.ntmps43
    go_wp2_with fail
    refine (H0.out _).mono ?_
    rintro e w1 ⟨rfl, hb1⟩
    have FX1 := Lib.hid (FX.out.read ((RefF.held r) _) hb1)
    clear hb1
    obtain ⟨b0, b1, b2, b3, b4, b5, b6, b7⟩ := FX1.out.c8
    go_wp2_with fail
    refine (HF.out _ _ FX1.out.inv).mono ?_
    rintro e w2 ⟨rfl, hb2⟩
    have FX2 := Lib.hid (FX1.out.read ((RefF.held r) _) hb2)
    clear hb2
    clear b0 b1 b2 b3 b4 b5 b6 b7
    obtain ⟨b0, b1, b2, b3, b4, b5, b6, b7⟩ := FX2.out.c8
    obtain ⟨b, c, g, g0, _, _⟩ := HD.out _ _ FX2.out.inv
    clear b0 b1 b2 b3 b4 b5 b6 b7
    have h1 := FX2.out.c8
    obtain ⟨b0, b1, b2, b3, b4, b5, b6, b7⟩ := h1
    go_wp2_with fail
    refine (HI.out _).mono ?_
    rintro e w2a ⟨rfl, hb2a⟩
    have FX2a := Lib.hid (FX2.out.read ((RefF.held r) _) hb2a)
    clear hb2a
    clear b0 b1 b2 b3 b4 b5 b6 b7
    clear g g0
    obtain ⟨b, c, g, g0, _, _⟩ := HD.out _ _ FX2a.out.inv
    have FX2 := FX2a
    clear FX2a
    obtain ⟨b0, b1, b2, b3, b4, b5, b6, b7⟩ := FX2.out.c8
    obtain ⟨hpre, h2, hlk, hf, hpo, hDt⟩ := HPre.out
    cases hpl : Pz.place S p2.data.toList with
    | error v =>
      clear hDt hlk hpo
      obtain ⟨hv1, hv2, hv3⟩ := ne_of_err (Pz.place_err hpl)
      rw [hpl] at h2
      have HRes3 : Hid (R = (S, Pz.er v)) := Lib.hid (by rw [HRes2.out, hpl])
      simp only [toP] at h2
      have HP := Lib.hid h2
      clear h2 hpl hpre hf
      go_wp2_with fail
      refine (HP.out _ _ FX2.out.inv).mono ?_
      rintro e w3 ⟨rfl, hb3⟩
      have FX3 := Lib.hid (FX2.out.read ((RefF.held r) _) hb3)
      clear hb3
      clear b0 b1 b2 b3 b4 b5 b6 b7
      clear g g0
      go_wp2_with fail
      refine (HFail.out v _).mono ?_
      rintro e wf ⟨rfl, hbf⟩
      have FXF := Lib.hid (FX3.out.read ((RefF.held r) _) hbf)
      unfold replyV
      have fxe := FXF.out
      obtain ⟨c0, c1, c2, c3, c4, c5, c6, hf7⟩ := cells7 fxe.res
      have f0 := hf7 0
      have f1 := hf7 1
      have f2 := hf7 2
      have f3 := hf7 3
      have f4 := hf7 4
      have f5 := hf7 5
      have f6 := hf7 6
      have HG := Lib.hid fxe
      clear hf7 fxe
      go_wp2
      try simp only [Exit.inBlock, Exit.then]
      refine bodyPost_ret (results_cell_row rfl _ _ (w.heap.size + 1) _ _ _ _ rfl (row7 HG.out.res _ _ _ _ _ _ _) Tryz.underlying36 rfl Tryz.infoR) rfl ?_
      rw [HRes3.out]
      exact HG.out.done (RefF.held r) (Pz.er v) none 0 (Or.inl rfl) _ _ _ _ _ _ _
    | ok dx =>
      obtain ⟨d, x⟩ := dx
      rw [hpl] at h2
      simp only [toP] at h2
      have HP := Lib.hid h2
      have hE := hpre.good.e
      have hN := hpre.good.n
      have HL := Lib.hid fun W G (h : RefF r S W G) => look_any 0 r S d ⟨x.toArray⟩ W (by omega) h.is
      have HRes3 : Hid (R = if Pz.look S.E d x = m then (S, Pz.er 0) else if Pz.overErr S m (Pz.look S.E d x) ≠ 0 then (S, Pz.er (Pz.overErr S m (Pz.look S.E d x))) else match Pz.place S p.data.toList with | .error _ => (S, Pz.er 0) | .ok o => ({ Pz.over S (Pz.look S.E d x) (d, x) with E := Pz.take (Pz.over S (Pz.look S.E d x) (d, x)).E o.1 o.2 ++ [⟨d, x, m⟩] }, Pz.er 0)) := Lib.hid (by rw [HRes2.out, hpl])
      have hlq := Pz.look_lt (n := S.N.length) (i := d) (x := x) hpre.good.ok.ent
      by_cases hzm : Pz.look S.E d x = m
      · clear hDt hlk hpo
        have HRes4 := Lib.hid (HRes3.out.trans (if_pos hzm))
        rw [show (⟨x.toArray⟩ : ByteArray).data.toList = x from rfl, hzm] at HL
        have hzb : ((m : Int) == (m : Int)) = true := by simp
        clear h2 hpl hpre hf hE hN hzm hlq
        go_wp2_with fail
        refine (HP.out _ _ FX2.out.inv).mono ?_
        rintro e w3 ⟨rfl, hb3⟩
        have FX3 := Lib.hid (FX2.out.read ((RefF.held r) _) hb3)
        clear hb3
        clear b0 b1 b2 b3 b4 b5 b6 b7
        clear g g0
        go_wp2_with fail
        refine (HL.out _ _ FX3.out.inv).mono ?_
        rintro e w4 ⟨rfl, hb4⟩
        have FX4 := Lib.hid (FX3.out.read ((RefF.held r) _) hb4)
        clear hb4
        obtain ⟨b0, b1, b2, b3, b4, b5, b6, b7⟩ := FX4.out.c8
        clear b0 b1 b2 b3 b4 b5 b6 b7
        have fxe := FX4.out
        obtain ⟨c0, c1, c2, c3, c4, c5, c6, hf7⟩ := cells7 fxe.res
        have f0 := hf7 0
        have f1 := hf7 1
        have f2 := hf7 2
        have f3 := hf7 3
        have f4 := hf7 4
        have f5 := hf7 5
        have f6 := hf7 6
        have HG := Lib.hid fxe
        clear hf7 fxe
        go_wp2
        try simp only [Exit.inBlock, Exit.then]
        refine bodyPost_ret (results_cell_row rfl _ _ (w.heap.size + 1) _ _ _ _ rfl (row7 HG.out.res _ _ _ _ _ _ _) Tryz.underlying36 rfl Tryz.infoR) rfl ?_
        rw [HRes4.out]
        exact HG.out.done (RefF.held r) (Pz.er 0) none 0 (Or.inl rfl) _ _ _ _ _ _ _
      by_cases hz : Pz.look S.E d x < 0
      · clear hDt
        have hz0 : Pz.look S.E d x < 0 := by omega
        have HResF : Hid (R = ({ S with E := Pz.take S.E o y ++ [⟨d, x, m⟩] }, Pz.er 0)) := Lib.hid (by
          rw [HRes3.out, if_neg hzm, if_neg (by unfold Pz.overErr; rw [if_neg (by omega)]; simp), hpo]
          unfold Pz.over
          rw [if_neg (by omega)])
        rw [show (⟨x.toArray⟩ : ByteArray).data.toList = x from rfl] at HL
        have hzb : (Pz.look S.E d x == (m : Int)) = false := by rw [beq_eq_false_iff_ne]; exact hzm
        generalize Pz.look S.E d x = z at HL hz0 hzb
        have h3 := fun W G (hR : RefF r S W G) => place_any 0 r S p W hpre.hp (by omega) (by omega) hpre.good.ok hR.is
        rw [hpo] at h3
        simp only [toP] at h3
        have HP1 := Lib.hid h3
        have HT2 := Lib.hid fun W G (h : RefF r S W G) => take_any r S o ⟨y.toArray⟩ W G (by omega) h
        have HPut := Lib.hid fun W G (h : RefF r { S with E := Pz.take S.E o y } W G) => put_any r { S with E := Pz.take S.E o y } d m ⟨x.toArray⟩ W G (by have := Pz.take_le S.E o y; show (Pz.take S.E o y).length ≤ _; omega) h
        clear h2 h3 hpl hpre hf hE hN hzm hlq HRes3 hpo hlk
        go_wp2_with fail
        refine (HP.out _ _ FX2.out.inv).mono ?_
        rintro e w3 ⟨rfl, hb3⟩
        have FX3 := Lib.hid (FX2.out.read ((RefF.held r) _) hb3)
        clear hb3
        clear b0 b1 b2 b3 b4 b5 b6 b7
        clear g g0
        go_wp2_with fail
        refine (HL.out _ _ FX3.out.inv).mono ?_
        rintro e w4 ⟨rfl, hb4⟩
        have FX4 := Lib.hid (FX3.out.read ((RefF.held r) _) hb4)
        clear hb4
        obtain ⟨b0, b1, b2, b3, b4, b5, b6, b7⟩ := FX4.out.c8
        go_wp2_with fail
        refine (HP1.out _ _ FX4.out.inv).mono ?_
        rintro e w7 ⟨rfl, hb7⟩
        have FX7 := Lib.hid (FX4.out.read ((RefF.held r) _) hb7)
        clear hb7
        clear b0 b1 b2 b3 b4 b5 b6 b7
        go_wp2_with fail
        refine (HT2.out _ _ FX7.out.inv).mono ?_
        rintro e w8 ⟨rfl, hi0, ho0⟩
        have FX8 := Lib.hid (FX7.out.write ((RefF.held r) _) hi0 ho0)
        clear hi0 ho0
        go_wp2_with fail
        refine (HPut.out _ _ FX8.out.inv).mono ?_
        rintro e w9 ⟨rfl, hi0, ho0⟩
        have FX9 := Lib.hid (FX8.out.write ((RefF.held r) _) hi0 ho0)
        clear hi0 ho0
        have fxe := FX9.out
        obtain ⟨c0, c1, c2, c3, c4, c5, c6, hf7⟩ := cells7 fxe.res
        have f0 := hf7 0
        have f1 := hf7 1
        have f2 := hf7 2
        have f3 := hf7 3
        have f4 := hf7 4
        have f5 := hf7 5
        have f6 := hf7 6
        have HG := Lib.hid fxe
        clear hf7 fxe
        go_wp2
        try simp only [Exit.inBlock, Exit.then]
        refine bodyPost_ret (results_cell_row rfl _ _ (w.heap.size + 1) _ _ _ _ rfl (row7 HG.out.res _ _ _ _ _ _ _) Tryz.underlying36 rfl Tryz.infoR) rfl ?_
        rw [HResF.out]
        exact HG.out.done (RefF.held r) (Pz.er 0) none 0 (Or.inl rfl) _ _ _ _ _ _ _
      obtain ⟨k, hk⟩ : ∃ k : Nat, Pz.look S.E d x = k := ⟨(Pz.look S.E d x).toNat, by omega⟩
      have hkl : k < S.N.length := by omega
      have HDk := Lib.hid fun W G (h : RefF r S W G) => h.dirAt hkl
      have HCk := Lib.hid fun W G (h : RefF r S W G) => count_any 0 r S k W (by omega) h.is
      rw [show (⟨x.toArray⟩ : ByteArray).data.toList = x from rfl, hk] at HL
      have hzb : ((k : Int) == (m : Int)) = false := by rw [beq_eq_false_iff_ne]; omega
      have hk1 : (0 : Int) ≤ k := by omega
      have hk2 : (k : Int) < q := by have := Hq.out; omega
      have hk3 : 0 ≤ Pz.look S.E d x := by omega
      obtain ⟨E, hE0⟩ : ∃ E, E = Pz.isDir S.N k := ⟨_, rfl⟩
      obtain ⟨C, hC0⟩ : ∃ C, C = Pz.count S.E k := ⟨_, rfl⟩
      rw [← Hq.out, ← hE0] at HDk
      rw [← hC0] at HCk
      rw [hk] at HRes3
      have hov := Pz.overErr_nat (S := S) (m := m) (k := k)
      rw [hDt, if_pos rfl, ← hE0, ← hC0] at hov
      cases E with
      | false =>
        have HResF : Hid (R = (S, Pz.er 12)) := Lib.hid (by rw [HRes3.out, if_neg (by omega), hov]; rfl)
        clear h2 hpl hpre hf hE hN hzm hz hlq hpo hlk hDt hov hE0 hC0 HRes3 hk hk3 hkl
        go_wp2_with fail
        refine (HP.out _ _ FX2.out.inv).mono ?_
        rintro e w3 ⟨rfl, hb3⟩
        have FX3 := Lib.hid (FX2.out.read ((RefF.held r) _) hb3)
        clear hb3
        clear b0 b1 b2 b3 b4 b5 b6 b7
        clear g g0
        go_wp2_with fail
        refine (HL.out _ _ FX3.out.inv).mono ?_
        rintro e w4 ⟨rfl, hb4⟩
        have FX4 := Lib.hid (FX3.out.read ((RefF.held r) _) hb4)
        clear hb4
        obtain ⟨b0, b1, b2, b3, b4, b5, b6, b7⟩ := FX4.out.c8
        obtain ⟨bk, ck, gk, gk0, _, _⟩ := HDk.out _ _ FX4.out.inv
        clear b0 b1 b2 b3 b4 b5 b6 b7
        go_wp2_with fail
        refine (HFail.out 12 _).mono ?_
        rintro e wf ⟨rfl, hbf⟩
        have FXF := Lib.hid (FX4.out.read ((RefF.held r) _) hbf)
        unfold replyV
        have fxe := FXF.out
        obtain ⟨c0, c1, c2, c3, c4, c5, c6, hf7⟩ := cells7 fxe.res
        have f0 := hf7 0
        have f1 := hf7 1
        have f2 := hf7 2
        have f3 := hf7 3
        have f4 := hf7 4
        have f5 := hf7 5
        have f6 := hf7 6
        have HG := Lib.hid fxe
        clear hf7 fxe
        go_wp2
        try simp only [Exit.inBlock, Exit.then]
        refine bodyPost_ret (results_cell_row rfl _ _ (w.heap.size + 1) _ _ _ _ rfl (row7 HG.out.res _ _ _ _ _ _ _) Tryz.underlying36 rfl Tryz.infoR) rfl ?_
        rw [HResF.out]
        exact HG.out.done (RefF.held r) (Pz.er 12) none 0 (Or.inl rfl) _ _ _ _ _ _ _
      | true =>
        rw [if_pos rfl] at hov
        by_cases hC : 0 < C
        · have HResF : Hid (R = (S, Pz.er 14)) := Lib.hid (by rw [HRes3.out, if_neg (by omega), hov, if_pos hC]; rfl)
          have hC1 : (0 : Int) < C := by omega
          clear h2 hpl hpre hf hE hN hzm hz hlq hpo hlk hDt hov hE0 hC0 HRes3 hk hk3 hkl
          go_wp2_with fail
          refine (HP.out _ _ FX2.out.inv).mono ?_
          rintro e w3 ⟨rfl, hb3⟩
          have FX3 := Lib.hid (FX2.out.read ((RefF.held r) _) hb3)
          clear hb3
          clear b0 b1 b2 b3 b4 b5 b6 b7
          clear g g0
          go_wp2_with fail
          refine (HL.out _ _ FX3.out.inv).mono ?_
          rintro e w4 ⟨rfl, hb4⟩
          have FX4 := Lib.hid (FX3.out.read ((RefF.held r) _) hb4)
          clear hb4
          obtain ⟨b0, b1, b2, b3, b4, b5, b6, b7⟩ := FX4.out.c8
          obtain ⟨bk, ck, gk, gk0, _, _⟩ := HDk.out _ _ FX4.out.inv
          clear b0 b1 b2 b3 b4 b5 b6 b7
          go_wp2_with fail
          refine (HCk.out _ _ FX4.out.inv).mono ?_
          rintro e w5 ⟨rfl, hb5⟩
          have FX5 := Lib.hid (FX4.out.read ((RefF.held r) _) hb5)
          clear hb5
          clear gk gk0
          go_wp2_with fail
          refine (HFail.out 14 _).mono ?_
          rintro e wf ⟨rfl, hbf⟩
          have FXF := Lib.hid (FX5.out.read ((RefF.held r) _) hbf)
          unfold replyV
          have fxe := FXF.out
          obtain ⟨c0, c1, c2, c3, c4, c5, c6, hf7⟩ := cells7 fxe.res
          have f0 := hf7 0
          have f1 := hf7 1
          have f2 := hf7 2
          have f3 := hf7 3
          have f4 := hf7 4
          have f5 := hf7 5
          have f6 := hf7 6
          have HG := Lib.hid fxe
          clear hf7 fxe
          go_wp2
          try simp only [Exit.inBlock, Exit.then]
          refine bodyPost_ret (results_cell_row rfl _ _ (w.heap.size + 1) _ _ _ _ rfl (row7 HG.out.res _ _ _ _ _ _ _) Tryz.underlying36 rfl Tryz.infoR) rfl ?_
          rw [HResF.out]
          exact HG.out.done (RefF.held r) (Pz.er 14) none 0 (Or.inl rfl) _ _ _ _ _ _ _
        · rw [if_neg hC] at hov
          have hC1 : ¬ (0 : Int) < C := by omega
          have hC2 : (C : Int) ≤ 0 := by omega
          have hso := Pz.over_nat (S := S) (k := k) (q := (d, x))
          rw [← hE0, if_pos rfl] at hso
          have hpo1 := Pz.place_over (d := d) (x := x) hpo hlk hk3 (by rw [hk]; exact hov)
          rw [hk, hso] at hpo1
          have HResF : Hid (R = ({ S with E := Pz.take (Pz.take S.E d x) o y ++ [⟨d, x, m⟩] }, Pz.er 0)) := Lib.hid (by rw [HRes3.out, if_neg (by omega), if_neg (by rw [hov]; simp), hpo, hso])
          have hle := Pz.take_le S.E d x
          have hle2 := Pz.take_le (Pz.take S.E d x) o y
          have HT := Lib.hid fun W G (h : RefF r S W G) => take_any r S d ⟨x.toArray⟩ W G (by omega) h
          have HDk1 := Lib.hid fun W G (h : RefF r { S with E := Pz.take S.E d x } W G) => h.dirAt (show k < S.N.length from hkl)
          rw [show Pz.isDir ({ S with E := Pz.take S.E d x } : Pz.Fil).N k = true from hE0.symm, show ({ S with E := Pz.take S.E d x } : Pz.Fil).N.length = q from Hq.out.symm] at HDk1
          have h3 := fun W G (hR : RefF r { S with E := Pz.take S.E d x } W G) => place_any 0 r { S with E := Pz.take S.E d x } p W hpre.hp (show (Pz.take S.E d x).length ≤ _ by omega) (show S.N.length ≤ _ by omega) (Pz.ok_take hpre.good.ok _ _) hR.is
          rw [show Pz.place ({ S with E := Pz.take S.E d x } : Pz.Fil) p.data.toList = .ok (o, y) from hpo1] at h3
          simp only [toP] at h3
          have HP1 := Lib.hid h3
          have HT2 := Lib.hid fun W G (h : RefF r { S with E := Pz.take S.E d x } W G) => take_any r { S with E := Pz.take S.E d x } o ⟨y.toArray⟩ W G (show (Pz.take S.E d x).length ≤ _ by omega) h
          have HPut := Lib.hid fun W G (h : RefF r { S with E := Pz.take (Pz.take S.E d x) o y } W G) => put_any r { S with E := Pz.take (Pz.take S.E d x) o y } d m ⟨x.toArray⟩ W G (show (Pz.take (Pz.take S.E d x) o y).length ≤ _ by omega) h
          clear h2 h3 hpl hpre hf hE hN hzm hz hlq hpo hlk hDt hov hE0 hC0 HRes3 hk hk3 hkl hso hpo1 hle hle2
          go_wp2_with fail
          refine (HP.out _ _ FX2.out.inv).mono ?_
          rintro e w3 ⟨rfl, hb3⟩
          have FX3 := Lib.hid (FX2.out.read ((RefF.held r) _) hb3)
          clear hb3
          clear b0 b1 b2 b3 b4 b5 b6 b7
          clear g g0
          go_wp2_with fail
          refine (HL.out _ _ FX3.out.inv).mono ?_
          rintro e w4 ⟨rfl, hb4⟩
          have FX4 := Lib.hid (FX3.out.read ((RefF.held r) _) hb4)
          clear hb4
          obtain ⟨b0, b1, b2, b3, b4, b5, b6, b7⟩ := FX4.out.c8
          obtain ⟨bk, ck, gk, gk0, _, _⟩ := HDk.out _ _ FX4.out.inv
          clear b0 b1 b2 b3 b4 b5 b6 b7
          go_wp2_with fail
          refine (HCk.out _ _ FX4.out.inv).mono ?_
          rintro e w5 ⟨rfl, hb5⟩
          have FX5 := Lib.hid (FX4.out.read ((RefF.held r) _) hb5)
          clear hb5
          clear gk gk0
          go_wp2_with fail
          refine (HT.out _ _ FX5.out.inv).mono ?_
          rintro e w6 ⟨rfl, hi0, ho0⟩
          have FX6 := Lib.hid (FX5.out.write ((RefF.held r) _) hi0 ho0)
          clear hi0 ho0
          obtain ⟨bk, ck, gk, gk0, _, _⟩ := HDk1.out _ _ FX6.out.inv
          obtain ⟨b0, b1, b2, b3, b4, b5, b6, b7⟩ := FX6.out.c8
          go_wp2_with fail
          clear gk gk0
          go_wp2_with fail
          refine (HP1.out _ _ FX6.out.inv).mono ?_
          rintro e w7 ⟨rfl, hb7⟩
          have FX7 := Lib.hid (FX6.out.read ((RefF.held r) _) hb7)
          clear hb7
          clear b0 b1 b2 b3 b4 b5 b6 b7
          go_wp2_with fail
          refine (HT2.out _ _ FX7.out.inv).mono ?_
          rintro e w8 ⟨rfl, hi0, ho0⟩
          have FX8 := Lib.hid (FX7.out.write ((RefF.held r) _) hi0 ho0)
          clear hi0 ho0
          go_wp2_with fail
          refine (HPut.out _ _ FX8.out.inv).mono ?_
          rintro e w9 ⟨rfl, hi0, ho0⟩
          have FX9 := Lib.hid (FX8.out.write ((RefF.held r) _) hi0 ho0)
          clear hi0 ho0
          have fxe := FX9.out
          obtain ⟨c0, c1, c2, c3, c4, c5, c6, hf7⟩ := cells7 fxe.res
          have f0 := hf7 0
          have f1 := hf7 1
          have f2 := hf7 2
          have f3 := hf7 3
          have f4 := hf7 4
          have f5 := hf7 5
          have f6 := hf7 6
          have HG := Lib.hid fxe
          clear hf7 fxe
          go_wp2
          try simp only [Exit.inBlock, Exit.then]
          refine bodyPost_ret (results_cell_row rfl _ _ (w.heap.size + 1) _ _ _ _ rfl (row7 HG.out.res _ _ _ _ _ _ _) Tryz.underlying36 rfl Tryz.infoR) rfl ?_
          rw [HResF.out]
          exact HG.out.done (RefF.held r) (Pz.er 0) none 0 (Or.inl rfl) _ _ _ _ _ _ _

end Go.Proofs.YtbpejjmfdhkfhaaGreatDoor

/- Walks: the document's rename, where the old path is a file's. -/
namespace Go.Proofs.YtbpejjmfdhkfhaaGreatDoor
open Go.RowKit

set_option maxHeartbeats 8000000 in
set_option maxRecDepth 8192 in
theorem rrename_file (r : Nat) (S : Pz.Fil) (kind flags fd off n : Int) (p p2 data : ByteArray) (w : World) (F : Nat → Prop) (hpre : RenPre S p p2) (m : Nat) (hf : Pz.find S p.data.toList = .ok m) (hDt : Pz.isDir S.N m = false) (hR : RefF r S w F) :
    Calls Tryz.prog 43 #[.pointer (some ⟨r, 0, none⟩), callV kind p p2 flags fd off n data] w (Does (RefF r) (Pz.rename S p.data.toList p2.data.toList) w F) := by
  have HFail := Lib.hid rfails_any
  have h0 := fun W => rpaths_any kind flags fd off n p p2 data W hpre.hp hpre.hp2
  have hE := hpre.good.e
  have hN := hpre.good.n
  have h1 := fun W G (hR : RefF r S W G) => find_any 0 r S p W hpre.hp (by omega) (by omega) hpre.good.ok hR.is
  have h2 := fun W G (hR : RefF r S W G) => place_any 0 r S p2 W hpre.hp2 (by omega) (by omega) hpre.good.ok hR.is
  have FX := Lib.hid (Fx.start (RefF.held r S) hR #[.int .i64 kind, .string p, .string p2, .int .i64 flags, .int .i64 fd, .int .i64 off, .int .i64 n, .string data])
  unfold callV at h0 ⊢
  rw [both_of hpre.ok] at h0
  have H0 := Lib.hid h0
  have h47a := path_ne hpre.h1
  have h47b := path_ne hpre.h2
  have hm := Pz.find_lt hpre.good.ok hf
  obtain ⟨o, y, hpo, hlk, hod⟩ := Pz.place_of_find hf hpre.h1
  rw [hf] at h1
  simp only [toT] at h1
  have HF := Lib.hid h1
  have HD := Lib.hid fun W G (h : RefF r S W G) => h.dirAt hm
  obtain ⟨q, hq⟩ : ∃ q, q = S.N.length := ⟨_, rfl⟩
  have Hq := Lib.hid hq
  rw [← hq, hDt] at HD
  obtain ⟨R, hres⟩ : ∃ R, R = Pz.rename S p.data.toList p2.data.toList := ⟨_, rfl⟩
  rw [← hres]
  have HRes2 : Hid (R = match Pz.place S p2.data.toList with
    | .error g => (S, Pz.er g)
    | .ok q => if Pz.look S.E q.1 q.2 = m then (S, Pz.er 0) else if Pz.overErr S m (Pz.look S.E q.1 q.2) ≠ 0 then (S, Pz.er (Pz.overErr S m (Pz.look S.E q.1 q.2))) else
      match Pz.place S p.data.toList with
      | .error _ => (S, Pz.er 0)
      | .ok o => ({ Pz.over S (Pz.look S.E q.1 q.2) q with E := Pz.take (Pz.over S (Pz.look S.E q.1 q.2) q).E o.1 o.2 ++ [⟨q.1, q.2, m⟩] }, Pz.er 0)) := Lib.hid (by
    rw [hres, Pz.rename, if_neg (by rintro (h | h | h | h)
                                    · exact hpre.ok (Or.inl h)
                                    · exact hpre.ok (Or.inr h)
                                    · exact hpre.h1 h
                                    · exact hpre.h2 h), hf]
    simp only [hDt, Bool.false_eq_true, false_and, if_false]
    rfl)
  have hmq : m < q := by omega
  have hm1 : (0 : Int) ≤ m := by omega
  have hm2 : (m : Int) < q := by omega
  clear h0 h1 hq hres hR hE hN hm hod
  have HPre := Lib.hid (And.intro hpre (And.intro h2 (And.intro hlk (And.intro hf (And.intro hpo hDt)))))
  clear h2 hpre hlk hf hpo hDt
  go_enter Tryz.func43, Tryz.ntmps43
  go_wp2_with fail
  refine (H0.out _).mono ?_
  rintro e w1 ⟨rfl, hb1⟩
  have FX1 := Lib.hid (FX.out.read ((RefF.held r) _) hb1)
  clear hb1
  obtain ⟨b0, b1, b2, b3, b4, b5, b6, b7⟩ := FX1.out.c8
  go_wp2_with fail
  refine (HF.out _ _ FX1.out.inv).mono ?_
  rintro e w2 ⟨rfl, hb2⟩
  have FX2 := Lib.hid (FX1.out.read ((RefF.held r) _) hb2)
  clear hb2
  clear b0 b1 b2 b3 b4 b5 b6 b7
  obtain ⟨b0, b1, b2, b3, b4, b5, b6, b7⟩ := FX2.out.c8
  obtain ⟨b, c, g, g0, _, _⟩ := HD.out _ _ FX2.out.inv
  obtain ⟨hpre, h2, hlk, hf, hpo, hDt⟩ := HPre.out
  cases hpl : Pz.place S p2.data.toList with
  | error v =>
    clear hDt hlk hpo
    obtain ⟨hv1, hv2, hv3⟩ := ne_of_err (Pz.place_err hpl)
    rw [hpl] at h2
    have HRes3 : Hid (R = (S, Pz.er v)) := Lib.hid (by rw [HRes2.out, hpl])
    simp only [toP] at h2
    have HP := Lib.hid h2
    clear h2 hpl hpre hf
    go_wp2_with fail
    refine (HP.out _ _ FX2.out.inv).mono ?_
    rintro e w3 ⟨rfl, hb3⟩
    have FX3 := Lib.hid (FX2.out.read ((RefF.held r) _) hb3)
    clear hb3
    clear b0 b1 b2 b3 b4 b5 b6 b7
    clear g g0
    go_wp2_with fail
    refine (HFail.out v _).mono ?_
    rintro e wf ⟨rfl, hbf⟩
    have FXF := Lib.hid (FX3.out.read ((RefF.held r) _) hbf)
    unfold replyV
    have fxe := FXF.out
    obtain ⟨c0, c1, c2, c3, c4, c5, c6, hf7⟩ := cells7 fxe.res
    have f0 := hf7 0
    have f1 := hf7 1
    have f2 := hf7 2
    have f3 := hf7 3
    have f4 := hf7 4
    have f5 := hf7 5
    have f6 := hf7 6
    have HG := Lib.hid fxe
    clear hf7 fxe
    go_wp2
    try simp only [Exit.inBlock, Exit.then]
    refine bodyPost_ret (results_cell_row rfl _ _ (w.heap.size + 1) _ _ _ _ rfl (row7 HG.out.res _ _ _ _ _ _ _) Tryz.underlying36 rfl Tryz.infoR) rfl ?_
    rw [HRes3.out]
    exact HG.out.done (RefF.held r) (Pz.er v) none 0 (Or.inl rfl) _ _ _ _ _ _ _
  | ok dx =>
    obtain ⟨d, x⟩ := dx
    rw [hpl] at h2
    simp only [toP] at h2
    have HP := Lib.hid h2
    have hE := hpre.good.e
    have hN := hpre.good.n
    have HL := Lib.hid fun W G (h : RefF r S W G) => look_any 0 r S d ⟨x.toArray⟩ W (by omega) h.is
    have HRes3 : Hid (R = if Pz.look S.E d x = m then (S, Pz.er 0) else if Pz.overErr S m (Pz.look S.E d x) ≠ 0 then (S, Pz.er (Pz.overErr S m (Pz.look S.E d x))) else match Pz.place S p.data.toList with | .error _ => (S, Pz.er 0) | .ok o => ({ Pz.over S (Pz.look S.E d x) (d, x) with E := Pz.take (Pz.over S (Pz.look S.E d x) (d, x)).E o.1 o.2 ++ [⟨d, x, m⟩] }, Pz.er 0)) := Lib.hid (by rw [HRes2.out, hpl])
    have hlq := Pz.look_lt (n := S.N.length) (i := d) (x := x) hpre.good.ok.ent
    by_cases hzm : Pz.look S.E d x = m
    · clear hDt hlk hpo
      have HRes4 := Lib.hid (HRes3.out.trans (if_pos hzm))
      rw [show (⟨x.toArray⟩ : ByteArray).data.toList = x from rfl, hzm] at HL
      have hzb : ((m : Int) == (m : Int)) = true := by simp
      clear h2 hpl hpre hf hE hN hzm hlq
      go_wp2_with fail
      refine (HP.out _ _ FX2.out.inv).mono ?_
      rintro e w3 ⟨rfl, hb3⟩
      have FX3 := Lib.hid (FX2.out.read ((RefF.held r) _) hb3)
      clear hb3
      clear b0 b1 b2 b3 b4 b5 b6 b7
      clear g g0
      go_wp2_with fail
      refine (HL.out _ _ FX3.out.inv).mono ?_
      rintro e w4 ⟨rfl, hb4⟩
      have FX4 := Lib.hid (FX3.out.read ((RefF.held r) _) hb4)
      clear hb4
      obtain ⟨b0, b1, b2, b3, b4, b5, b6, b7⟩ := FX4.out.c8
      clear b0 b1 b2 b3 b4 b5 b6 b7
      have fxe := FX4.out
      obtain ⟨c0, c1, c2, c3, c4, c5, c6, hf7⟩ := cells7 fxe.res
      have f0 := hf7 0
      have f1 := hf7 1
      have f2 := hf7 2
      have f3 := hf7 3
      have f4 := hf7 4
      have f5 := hf7 5
      have f6 := hf7 6
      have HG := Lib.hid fxe
      clear hf7 fxe
      go_wp2
      try simp only [Exit.inBlock, Exit.then]
      refine bodyPost_ret (results_cell_row rfl _ _ (w.heap.size + 1) _ _ _ _ rfl (row7 HG.out.res _ _ _ _ _ _ _) Tryz.underlying36 rfl Tryz.infoR) rfl ?_
      rw [HRes4.out]
      exact HG.out.done (RefF.held r) (Pz.er 0) none 0 (Or.inl rfl) _ _ _ _ _ _ _
    by_cases hz : Pz.look S.E d x < 0
    · clear hDt
      have hz0 : Pz.look S.E d x < 0 := by omega
      have HResF : Hid (R = ({ S with E := Pz.take S.E o y ++ [⟨d, x, m⟩] }, Pz.er 0)) := Lib.hid (by
        rw [HRes3.out, if_neg hzm, if_neg (by unfold Pz.overErr; rw [if_neg (by omega)]; simp), hpo]
        unfold Pz.over
        rw [if_neg (by omega)])
      rw [show (⟨x.toArray⟩ : ByteArray).data.toList = x from rfl] at HL
      have hzb : (Pz.look S.E d x == (m : Int)) = false := by rw [beq_eq_false_iff_ne]; exact hzm
      generalize Pz.look S.E d x = z at HL hz0 hzb
      have h3 := fun W G (hR : RefF r S W G) => place_any 0 r S p W hpre.hp (by omega) (by omega) hpre.good.ok hR.is
      rw [hpo] at h3
      simp only [toP] at h3
      have HP1 := Lib.hid h3
      have HT2 := Lib.hid fun W G (h : RefF r S W G) => take_any r S o ⟨y.toArray⟩ W G (by omega) h
      have HPut := Lib.hid fun W G (h : RefF r { S with E := Pz.take S.E o y } W G) => put_any r { S with E := Pz.take S.E o y } d m ⟨x.toArray⟩ W G (by have := Pz.take_le S.E o y; show (Pz.take S.E o y).length ≤ _; omega) h
      clear h2 h3 hpl hpre hf hE hN hzm hlq HRes3 hpo hlk
      go_wp2_with fail
      refine (HP.out _ _ FX2.out.inv).mono ?_
      rintro e w3 ⟨rfl, hb3⟩
      have FX3 := Lib.hid (FX2.out.read ((RefF.held r) _) hb3)
      clear hb3
      clear b0 b1 b2 b3 b4 b5 b6 b7
      clear g g0
      go_wp2_with fail
      refine (HL.out _ _ FX3.out.inv).mono ?_
      rintro e w4 ⟨rfl, hb4⟩
      have FX4 := Lib.hid (FX3.out.read ((RefF.held r) _) hb4)
      clear hb4
      obtain ⟨b0, b1, b2, b3, b4, b5, b6, b7⟩ := FX4.out.c8
      go_wp2_with fail
      refine (HP1.out _ _ FX4.out.inv).mono ?_
      rintro e w7 ⟨rfl, hb7⟩
      have FX7 := Lib.hid (FX4.out.read ((RefF.held r) _) hb7)
      clear hb7
      clear b0 b1 b2 b3 b4 b5 b6 b7
      go_wp2_with fail
      refine (HT2.out _ _ FX7.out.inv).mono ?_
      rintro e w8 ⟨rfl, hi0, ho0⟩
      have FX8 := Lib.hid (FX7.out.write ((RefF.held r) _) hi0 ho0)
      clear hi0 ho0
      go_wp2_with fail
      refine (HPut.out _ _ FX8.out.inv).mono ?_
      rintro e w9 ⟨rfl, hi0, ho0⟩
      have FX9 := Lib.hid (FX8.out.write ((RefF.held r) _) hi0 ho0)
      clear hi0 ho0
      have fxe := FX9.out
      obtain ⟨c0, c1, c2, c3, c4, c5, c6, hf7⟩ := cells7 fxe.res
      have f0 := hf7 0
      have f1 := hf7 1
      have f2 := hf7 2
      have f3 := hf7 3
      have f4 := hf7 4
      have f5 := hf7 5
      have f6 := hf7 6
      have HG := Lib.hid fxe
      clear hf7 fxe
      go_wp2
      try simp only [Exit.inBlock, Exit.then]
      refine bodyPost_ret (results_cell_row rfl _ _ (w.heap.size + 1) _ _ _ _ rfl (row7 HG.out.res _ _ _ _ _ _ _) Tryz.underlying36 rfl Tryz.infoR) rfl ?_
      rw [HResF.out]
      exact HG.out.done (RefF.held r) (Pz.er 0) none 0 (Or.inl rfl) _ _ _ _ _ _ _
    obtain ⟨k, hk⟩ : ∃ k : Nat, Pz.look S.E d x = k := ⟨(Pz.look S.E d x).toNat, by omega⟩
    have hkl : k < S.N.length := by omega
    have HDk := Lib.hid fun W G (h : RefF r S W G) => h.dirAt hkl
    have HCk := Lib.hid fun W G (h : RefF r S W G) => count_any 0 r S k W (by omega) h.is
    rw [show (⟨x.toArray⟩ : ByteArray).data.toList = x from rfl, hk] at HL
    have hzb : ((k : Int) == (m : Int)) = false := by rw [beq_eq_false_iff_ne]; omega
    have hk1 : (0 : Int) ≤ k := by omega
    have hk2 : (k : Int) < q := by have := Hq.out; omega
    have hk3 : 0 ≤ Pz.look S.E d x := by omega
    obtain ⟨E, hE0⟩ : ∃ E, E = Pz.isDir S.N k := ⟨_, rfl⟩
    obtain ⟨C, hC0⟩ : ∃ C, C = Pz.count S.E k := ⟨_, rfl⟩
    rw [← Hq.out, ← hE0] at HDk
    rw [← hC0] at HCk
    rw [hk] at HRes3
    have hov := Pz.overErr_nat (S := S) (m := m) (k := k)
    rw [hDt, if_neg (by decide), ← hE0] at hov
    cases E with
    | true =>
      have HResF : Hid (R = (S, Pz.er 13)) := Lib.hid (by rw [HRes3.out, if_neg (by omega), hov]; rfl)
      clear h2 hpl hpre hf hE hN hzm hz hlq hpo hlk hDt hov hE0 hC0 HRes3 hk hk3 hkl
      go_wp2_with fail
      refine (HP.out _ _ FX2.out.inv).mono ?_
      rintro e w3 ⟨rfl, hb3⟩
      have FX3 := Lib.hid (FX2.out.read ((RefF.held r) _) hb3)
      clear hb3
      clear b0 b1 b2 b3 b4 b5 b6 b7
      clear g g0
      go_wp2_with fail
      refine (HL.out _ _ FX3.out.inv).mono ?_
      rintro e w4 ⟨rfl, hb4⟩
      have FX4 := Lib.hid (FX3.out.read ((RefF.held r) _) hb4)
      clear hb4
      obtain ⟨b0, b1, b2, b3, b4, b5, b6, b7⟩ := FX4.out.c8
      obtain ⟨bk, ck, gk, gk0, _, _⟩ := HDk.out _ _ FX4.out.inv
      clear b0 b1 b2 b3 b4 b5 b6 b7
      go_wp2_with fail
      refine (HFail.out 13 _).mono ?_
      rintro e wf ⟨rfl, hbf⟩
      have FXF := Lib.hid (FX4.out.read ((RefF.held r) _) hbf)
      unfold replyV
      have fxe := FXF.out
      obtain ⟨c0, c1, c2, c3, c4, c5, c6, hf7⟩ := cells7 fxe.res
      have f0 := hf7 0
      have f1 := hf7 1
      have f2 := hf7 2
      have f3 := hf7 3
      have f4 := hf7 4
      have f5 := hf7 5
      have f6 := hf7 6
      have HG := Lib.hid fxe
      clear hf7 fxe
      go_wp2
      try simp only [Exit.inBlock, Exit.then]
      refine bodyPost_ret (results_cell_row rfl _ _ (w.heap.size + 1) _ _ _ _ rfl (row7 HG.out.res _ _ _ _ _ _ _) Tryz.underlying36 rfl Tryz.infoR) rfl ?_
      rw [HResF.out]
      exact HG.out.done (RefF.held r) (Pz.er 13) none 0 (Or.inl rfl) _ _ _ _ _ _ _
    | false =>
      rw [if_neg (by decide)] at hov
      obtain ⟨l, hl⟩ : ∃ l, l = (Pz.nodeD S.N k).links := ⟨_, rfl⟩
      obtain ⟨hlb1, hlb2⟩ : l ≤ 20 ∧ -1000 ≤ l := by rw [hl]; exact Pz.nodeD_links hpre.good hkl
      have hso := Pz.over_nat (S := S) (k := k) (q := (d, x))
      rw [← hE0, if_neg (by decide), ← hl] at hso
      obtain ⟨N1, hN1⟩ : ∃ N1, N1 = S.N.set k { Pz.nodeD S.N k with links := l - 1 } := ⟨_, rfl⟩
      rw [← hN1] at hso
      have hpo1 := Pz.place_over (d := d) (x := x) hpo hlk hk3 (by rw [hk]; exact hov)
      rw [hk, hso] at hpo1
      have HResF : Hid (R = ({ S with N := N1, E := Pz.take (Pz.take S.E d x) o y ++ [⟨d, x, m⟩] }, Pz.er 0)) := Lib.hid (by rw [HRes3.out, if_neg (by omega), if_neg (by rw [hov]; simp), hpo, hso])
      have hle := Pz.take_le S.E d x
      have hle2 := Pz.take_le (Pz.take S.E d x) o y
      have hlN : N1.length = S.N.length := by rw [hN1]; simp
      have hok1 : Pz.Ok { S with N := N1, E := Pz.take S.E d x } := by rw [hN1]; exact Pz.ok_set (S := { S with E := Pz.take S.E d x }) (Pz.ok_take hpre.good.ok _ _) _ _
      have HT := Lib.hid fun W G (h : RefF r S W G) => take_any r S d ⟨x.toArray⟩ W G (by omega) h
      have hDk1 := fun W G (h : RefF r { S with E := Pz.take S.E d x } W G) => h.nodeAt (show k < S.N.length from hkl)
      rw [show Pz.isDir ({ S with E := Pz.take S.E d x } : Pz.Fil).N k = false from hE0.symm, show ({ S with E := Pz.take S.E d x } : Pz.Fil).N.length = q from Hq.out.symm, show (Pz.nodeD ({ S with E := Pz.take S.E d x } : Pz.Fil).N k).links = l from hl.symm] at hDk1
      have HDk1 := Lib.hid hDk1
      have HN1 := Lib.hid hN1
      have h3 := fun W G (hR : RefF r { S with N := N1, E := Pz.take S.E d x } W G) => place_any 0 r { S with N := N1, E := Pz.take S.E d x } p W hpre.hp (show (Pz.take S.E d x).length ≤ _ by omega) (show N1.length ≤ _ by omega) hok1 hR.is
      rw [show Pz.place ({ S with N := N1, E := Pz.take S.E d x } : Pz.Fil) p.data.toList = .ok (o, y) from hpo1] at h3
      simp only [toP] at h3
      have HP1 := Lib.hid h3
      have HT2 := Lib.hid fun W G (h : RefF r { S with N := N1, E := Pz.take S.E d x } W G) => take_any r { S with N := N1, E := Pz.take S.E d x } o ⟨y.toArray⟩ W G (show (Pz.take S.E d x).length ≤ _ by omega) h
      have HPut := Lib.hid fun W G (h : RefF r { S with N := N1, E := Pz.take (Pz.take S.E d x) o y } W G) => put_any r { S with N := N1, E := Pz.take (Pz.take S.E d x) o y } d m ⟨x.toArray⟩ W G (show (Pz.take (Pz.take S.E d x) o y).length ≤ _ by omega) h
      clear h2 h3 hpl hpre hf hE hN hzm hz hlq hpo hlk hDt hov hE0 hC0 HRes3 hk hk3 hkl hso hpo1 hle hle2 hDk1 hl hN1 hlN hok1
      go_wp2_with fail
      refine (HP.out _ _ FX2.out.inv).mono ?_
      rintro e w3 ⟨rfl, hb3⟩
      have FX3 := Lib.hid (FX2.out.read ((RefF.held r) _) hb3)
      clear hb3
      clear b0 b1 b2 b3 b4 b5 b6 b7
      clear g g0
      go_wp2_with fail
      refine (HL.out _ _ FX3.out.inv).mono ?_
      rintro e w4 ⟨rfl, hb4⟩
      have FX4 := Lib.hid (FX3.out.read ((RefF.held r) _) hb4)
      clear hb4
      obtain ⟨b0, b1, b2, b3, b4, b5, b6, b7⟩ := FX4.out.c8
      obtain ⟨bk, ck, gk, gk0, _, _⟩ := HDk.out _ _ FX4.out.inv
      clear b0 b1 b2 b3 b4 b5 b6 b7
      go_wp2_with fail
      refine (HT.out _ _ FX4.out.inv).mono ?_
      rintro e w5 ⟨rfl, hi0, ho0⟩
      have FX5 := Lib.hid (FX4.out.write ((RefF.held r) _) hi0 ho0)
      clear hi0 ho0
      obtain ⟨bk, ck, gk, gk0, _, gk2, _, fk2, _, hst⟩ := HDk1.out _ _ FX5.out.inv
      have hst1 := hst (l - 1)
      rw [show S.N.set k { Pz.nodeD ({ S with E := Pz.take S.E d x } : Pz.Fil).N k with links := l - 1 } = N1 from HN1.out.symm] at hst1
      have FX6 := Lib.hid (FX5.out.put (RefF.held _ _) hst1.1 hst1.2)
      clear hst hst1
      obtain ⟨b0, b1, b2, b3, b4, b5, b6, b7⟩ := FX6.out.c8
      go_wp2_with fail
      refine (HP1.out _ _ FX6.out.inv).mono ?_
      rintro e w7 ⟨rfl, hb7⟩
      have FX7 := Lib.hid (FX6.out.read ((RefF.held r) _) hb7)
      clear hb7
      clear b0 b1 b2 b3 b4 b5 b6 b7
      go_wp2_with fail
      refine (HT2.out _ _ FX7.out.inv).mono ?_
      rintro e w8 ⟨rfl, hi0, ho0⟩
      have FX8 := Lib.hid (FX7.out.write ((RefF.held r) _) hi0 ho0)
      clear hi0 ho0
      go_wp2_with fail
      refine (HPut.out _ _ FX8.out.inv).mono ?_
      rintro e w9 ⟨rfl, hi0, ho0⟩
      have FX9 := Lib.hid (FX8.out.write ((RefF.held r) _) hi0 ho0)
      clear hi0 ho0
      have fxe := FX9.out
      obtain ⟨c0, c1, c2, c3, c4, c5, c6, hf7⟩ := cells7 fxe.res
      have f0 := hf7 0
      have f1 := hf7 1
      have f2 := hf7 2
      have f3 := hf7 3
      have f4 := hf7 4
      have f5 := hf7 5
      have f6 := hf7 6
      have HG := Lib.hid fxe
      clear hf7 fxe
      go_wp2
      try simp only [Exit.inBlock, Exit.then]
      refine bodyPost_ret (results_cell_row rfl _ _ (w.heap.size + 1) _ _ _ _ rfl (row7 HG.out.res _ _ _ _ _ _ _) Tryz.underlying36 rfl Tryz.infoR) rfl ?_
      rw [HResF.out]
      exact HG.out.done (RefF.held r) (Pz.er 0) none 0 (Or.inl rfl) _ _ _ _ _ _ _

end Go.Proofs.YtbpejjmfdhkfhaaGreatDoor
