/- Walks: the document's open, where the path is no node's. -/
import Derived.Test.YtbpejjmfdhkfhaaGreatDoorPosRefN
set_option linter.unusedVariables false
set_option linter.unusedSimpArgs false
namespace Go.Proofs.YtbpejjmfdhkfhaaGreatDoor
open Go.RowKit

theorem toP_any (R : Except Int (Nat × List UInt8)) : ∃ (a : Nat) (x : List UInt8) (g : Int), toP R = .tuple #[.int .i64 a, .string ⟨x.toArray⟩, .int .i64 g] := by
  cases R with
  | error e => exact ⟨0, [], e, rfl⟩
  | ok q => exact ⟨q.1, q.2, 0, rfl⟩

set_option maxHeartbeats 4000000 in
set_option maxRecDepth 8192 in
theorem ropen_err0 (r : Nat) (S : Pz.Fil) (cl kind fd off n : Int) (p p2 data : ByteArray) (w : World) (F : Nat → Prop) (hpre : OpenPre S p) (v : Int) (hf : Pz.find S p.data.toList = .error v) (hR : RefF r S w F) :
    Calls Tryz.prog 33 #[.pointer (some ⟨r, 0, none⟩), .int .i64 cl, callV kind p p2 0 fd off n data] w (Does (RefF r) (S, Pz.er v) w F) := by
  have HFail := Lib.hid rfails_any
  have hE := hpre.good.e
  have hN := hpre.good.n
  have hOl := hpre.good.o
  have h1 := fun W G (hR : RefF r S W G) => find_any 0 r S p W hpre.hp (by omega) (by omega) hpre.good.ok hR.is
  have hOf := fun (k : Nat) W G (hR : RefF r S W G) => of_any 0 r S cl k W (by omega) hR.is
  have FX := Lib.hid (Fx.start (RefF.held r S) hR #[.int .i64 kind, .string p, .string p2, .int .i64 0, .int .i64 fd, .int .i64 off, .int .i64 n, .string data])
  rw [hf] at h1
  simp only [toT] at h1
  have HF := Lib.hid h1
  have HOF := Lib.hid hOf
  have h2 := fun W G (hR : RefF r S W G) => place_any 0 r S p W hpre.hp (by omega) (by omega) hpre.good.ok hR.is
  obtain ⟨a, x, u, hP⟩ := toP_any (Pz.place S p.data.toList)
  rw [hP] at h2
  have HP := Lib.hid h2
  obtain ⟨hv1, hv2, hv3⟩ := ne_of_err (Pz.find_err hf)
  obtain ⟨fr, hfr⟩ : ∃ fr, fr = Pz.free S.O cl := ⟨_, rfl⟩
  have HFr : Hid (fr = Pz.freeN S.O cl (8 - 0) 0) := Lib.hid hfr
  clear h1 h2 hP hOf hR hE hN hOl hf hpre hfr
  unfold callV
  by_cases hv : v = 10
  · have hv4 : (v != 10) = false := by rw [hv]; rfl
    clear hv
    by_cases hu : u = 0
    · have hu1 : (u != 0) = false := by rw [hu]; rfl
      clear hu
      go_enter Tryz.func33, Tryz.ntmps33
      go_wp2
      go_loopw [7] (fun v wr => ∃ k : Nat, k ≤ 8 ∧ v = .int .i64 k ∧ Hid (fr = Pz.freeN S.O cl (8 - k) k) ∧ Hid (Fx (RefF r S) F w #[.int .i64 kind, .string p, .string p2, .int .i64 0, .int .i64 fd, .int .i64 off, .int .i64 n, .string data] wr)) (fun v _ => 8 - (intOf v).toNat)
      case atStart => exact ⟨0, by omega, rfl, HFr.out, FX⟩
      case round =>
        obtain ⟨k, hk, rfl, hfr, FX0⟩ := hrel
        by_cases hk8 : k < 8
        · have hk1 : (k : Int) < 8 := by omega
          have hk2 : (0 : Int) ≤ k := by omega
          have ho := HOF.out k
          have hst : fr = if 0 ≤ Pz.ofd S.O cl k then Pz.freeN S.O cl (8 - (k + 1)) (k + 1) else k := by
            rw [hfr.out, show 8 - k = (8 - (k + 1)) + 1 by omega, Pz.freeN]
          generalize Pz.ofd S.O cl k = z at ho hst
          have HOf := Lib.hid ho
          clear ho
          by_cases hz0 : 0 ≤ z
          · rw [if_pos hz0] at hst
            have Hst := Lib.hid hst
            clear hst
            go_wp2_with fail
            refine (HOf.out _ _ FX0.out.inv).mono ?_
            rintro e w1 ⟨rfl, hb1⟩
            have FX1 := Lib.hid (FX0.out.read ((RefF.held r) _) hb1)
            clear hb1
            go_wp2
            go_roundw
            case rel => exact ⟨k + 1, by omega, by go_num, Hst.out, FX1⟩
            case measure => simp [intOf]; omega
          · rw [if_neg hz0] at hst
            have Hst := Lib.hid hst
            clear hst
            have hz1 : z < 0 := by omega
            have hk9 : ((k : Int) == 8) = false := by rw [beq_eq_false_iff_ne]; omega
            go_wp2_with fail
            refine (HOf.out _ _ FX0.out.inv).mono ?_
            rintro e w1 ⟨rfl, hb1⟩
            have FX1 := Lib.hid (FX0.out.read ((RefF.held r) _) hb1)
            clear hb1
            obtain ⟨b0, b1, b2, b3, b4, b5, b6, b7⟩ := FX1.out.c8
            go_wp2_with fail
            refine (HF.out _ _ FX1.out.inv).mono ?_
            rintro e w2 ⟨rfl, hb2⟩
            have FX2 := Lib.hid (FX1.out.read ((RefF.held r) _) hb2)
            clear hb2
            clear b0 b1 b2 b3 b4 b5 b6 b7
            obtain ⟨b0, b1, b2, b3, b4, b5, b6, b7⟩ := FX2.out.c8
            go_wp2_with fail
            refine (HP.out _ _ FX2.out.inv).mono ?_
            rintro e w3 ⟨rfl, hb3⟩
            have FX3 := Lib.hid (FX2.out.read ((RefF.held r) _) hb3)
            clear hb3
            clear b0 b1 b2 b3 b4 b5 b6 b7
            obtain ⟨b0, b1, b2, b3, b4, b5, b6, b7⟩ := FX3.out.c8
            go_wp2_with fail
            refine (HFail.out v _).mono ?_
            rintro e wf ⟨rfl, hbf⟩
            have FXF := Lib.hid (FX3.out.read ((RefF.held r) _) hbf)
            unfold replyV
            have fxe := FXF.out
            obtain ⟨c0, c1, c2, c3, c4, c5, c6, hf7⟩ := cells7 fxe.res
            have f0 := hf7 0
            have f1 := hf7 1
            have f2 := hf7 2
            have f3 := hf7 3
            have f4 := hf7 4
            have f5 := hf7 5
            have f6 := hf7 6
            have HG := Lib.hid fxe
            clear hf7 fxe
            go_wp2
            try simp only [Exit.inBlock, Exit.then]
            refine bodyPost_ret (results_cell_row rfl _ _ (w.heap.size + 1) _ _ _ _ rfl (row7 HG.out.res _ _ _ _ _ _ _) Tryz.underlying36 rfl Tryz.infoR) rfl ?_
            exact HG.out.done (RefF.held r) (Pz.er v) none 0 (Or.inl rfl) _ _ _ _ _ _ _
        · obtain rfl : k = 8 := by omega
          have Hst : Hid (fr = 8) := Lib.hid (by rw [hfr.out]; rfl)
          have FX1 := FX0
          obtain ⟨b0, b1, b2, b3, b4, b5, b6, b7⟩ := FX1.out.c8
          go_wp2_with fail
          refine (HF.out _ _ FX1.out.inv).mono ?_
          rintro e w2 ⟨rfl, hb2⟩
          have FX2 := Lib.hid (FX1.out.read ((RefF.held r) _) hb2)
          clear hb2
          clear b0 b1 b2 b3 b4 b5 b6 b7
          obtain ⟨b0, b1, b2, b3, b4, b5, b6, b7⟩ := FX2.out.c8
          go_wp2_with fail
          refine (HP.out _ _ FX2.out.inv).mono ?_
          rintro e w3 ⟨rfl, hb3⟩
          have FX3 := Lib.hid (FX2.out.read ((RefF.held r) _) hb3)
          clear hb3
          clear b0 b1 b2 b3 b4 b5 b6 b7
          obtain ⟨b0, b1, b2, b3, b4, b5, b6, b7⟩ := FX3.out.c8
          go_wp2_with fail
          refine (HFail.out v _).mono ?_
          rintro e wf ⟨rfl, hbf⟩
          have FXF := Lib.hid (FX3.out.read ((RefF.held r) _) hbf)
          unfold replyV
          have fxe := FXF.out
          obtain ⟨c0, c1, c2, c3, c4, c5, c6, hf7⟩ := cells7 fxe.res
          have f0 := hf7 0
          have f1 := hf7 1
          have f2 := hf7 2
          have f3 := hf7 3
          have f4 := hf7 4
          have f5 := hf7 5
          have f6 := hf7 6
          have HG := Lib.hid fxe
          clear hf7 fxe
          go_wp2
          try simp only [Exit.inBlock, Exit.then]
          refine bodyPost_ret (results_cell_row rfl _ _ (w.heap.size + 1) _ _ _ _ rfl (row7 HG.out.res _ _ _ _ _ _ _) Tryz.underlying36 rfl Tryz.infoR) rfl ?_
          exact HG.out.done (RefF.held r) (Pz.er v) none 0 (Or.inl rfl) _ _ _ _ _ _ _
    · have hu1 : (u != 0) = true := by rw [bne_iff_ne]; exact hu
      clear hu
      go_enter Tryz.func33, Tryz.ntmps33
      go_wp2
      go_loopw [7] (fun v wr => ∃ k : Nat, k ≤ 8 ∧ v = .int .i64 k ∧ Hid (fr = Pz.freeN S.O cl (8 - k) k) ∧ Hid (Fx (RefF r S) F w #[.int .i64 kind, .string p, .string p2, .int .i64 0, .int .i64 fd, .int .i64 off, .int .i64 n, .string data] wr)) (fun v _ => 8 - (intOf v).toNat)
      case atStart => exact ⟨0, by omega, rfl, HFr.out, FX⟩
      case round =>
        obtain ⟨k, hk, rfl, hfr, FX0⟩ := hrel
        by_cases hk8 : k < 8
        · have hk1 : (k : Int) < 8 := by omega
          have hk2 : (0 : Int) ≤ k := by omega
          have ho := HOF.out k
          have hst : fr = if 0 ≤ Pz.ofd S.O cl k then Pz.freeN S.O cl (8 - (k + 1)) (k + 1) else k := by
            rw [hfr.out, show 8 - k = (8 - (k + 1)) + 1 by omega, Pz.freeN]
          generalize Pz.ofd S.O cl k = z at ho hst
          have HOf := Lib.hid ho
          clear ho
          by_cases hz0 : 0 ≤ z
          · rw [if_pos hz0] at hst
            have Hst := Lib.hid hst
            clear hst
            go_wp2_with fail
            refine (HOf.out _ _ FX0.out.inv).mono ?_
            rintro e w1 ⟨rfl, hb1⟩
            have FX1 := Lib.hid (FX0.out.read ((RefF.held r) _) hb1)
            clear hb1
            go_wp2
            go_roundw
            case rel => exact ⟨k + 1, by omega, by go_num, Hst.out, FX1⟩
            case measure => simp [intOf]; omega
          · rw [if_neg hz0] at hst
            have Hst := Lib.hid hst
            clear hst
            have hz1 : z < 0 := by omega
            have hk9 : ((k : Int) == 8) = false := by rw [beq_eq_false_iff_ne]; omega
            go_wp2_with fail
            refine (HOf.out _ _ FX0.out.inv).mono ?_
            rintro e w1 ⟨rfl, hb1⟩
            have FX1 := Lib.hid (FX0.out.read ((RefF.held r) _) hb1)
            clear hb1
            obtain ⟨b0, b1, b2, b3, b4, b5, b6, b7⟩ := FX1.out.c8
            go_wp2_with fail
            refine (HF.out _ _ FX1.out.inv).mono ?_
            rintro e w2 ⟨rfl, hb2⟩
            have FX2 := Lib.hid (FX1.out.read ((RefF.held r) _) hb2)
            clear hb2
            clear b0 b1 b2 b3 b4 b5 b6 b7
            obtain ⟨b0, b1, b2, b3, b4, b5, b6, b7⟩ := FX2.out.c8
            go_wp2_with fail
            refine (HP.out _ _ FX2.out.inv).mono ?_
            rintro e w3 ⟨rfl, hb3⟩
            have FX3 := Lib.hid (FX2.out.read ((RefF.held r) _) hb3)
            clear hb3
            clear b0 b1 b2 b3 b4 b5 b6 b7
            obtain ⟨b0, b1, b2, b3, b4, b5, b6, b7⟩ := FX3.out.c8
            go_wp2_with fail
            refine (HFail.out v _).mono ?_
            rintro e wf ⟨rfl, hbf⟩
            have FXF := Lib.hid (FX3.out.read ((RefF.held r) _) hbf)
            unfold replyV
            have fxe := FXF.out
            obtain ⟨c0, c1, c2, c3, c4, c5, c6, hf7⟩ := cells7 fxe.res
            have f0 := hf7 0
            have f1 := hf7 1
            have f2 := hf7 2
            have f3 := hf7 3
            have f4 := hf7 4
            have f5 := hf7 5
            have f6 := hf7 6
            have HG := Lib.hid fxe
            clear hf7 fxe
            go_wp2
            try simp only [Exit.inBlock, Exit.then]
            refine bodyPost_ret (results_cell_row rfl _ _ (w.heap.size + 1) _ _ _ _ rfl (row7 HG.out.res _ _ _ _ _ _ _) Tryz.underlying36 rfl Tryz.infoR) rfl ?_
            exact HG.out.done (RefF.held r) (Pz.er v) none 0 (Or.inl rfl) _ _ _ _ _ _ _
        · obtain rfl : k = 8 := by omega
          have Hst : Hid (fr = 8) := Lib.hid (by rw [hfr.out]; rfl)
          have FX1 := FX0
          obtain ⟨b0, b1, b2, b3, b4, b5, b6, b7⟩ := FX1.out.c8
          go_wp2_with fail
          refine (HF.out _ _ FX1.out.inv).mono ?_
          rintro e w2 ⟨rfl, hb2⟩
          have FX2 := Lib.hid (FX1.out.read ((RefF.held r) _) hb2)
          clear hb2
          clear b0 b1 b2 b3 b4 b5 b6 b7
          obtain ⟨b0, b1, b2, b3, b4, b5, b6, b7⟩ := FX2.out.c8
          go_wp2_with fail
          refine (HP.out _ _ FX2.out.inv).mono ?_
          rintro e w3 ⟨rfl, hb3⟩
          have FX3 := Lib.hid (FX2.out.read ((RefF.held r) _) hb3)
          clear hb3
          clear b0 b1 b2 b3 b4 b5 b6 b7
          obtain ⟨b0, b1, b2, b3, b4, b5, b6, b7⟩ := FX3.out.c8
          go_wp2_with fail
          refine (HFail.out v _).mono ?_
          rintro e wf ⟨rfl, hbf⟩
          have FXF := Lib.hid (FX3.out.read ((RefF.held r) _) hbf)
          unfold replyV
          have fxe := FXF.out
          obtain ⟨c0, c1, c2, c3, c4, c5, c6, hf7⟩ := cells7 fxe.res
          have f0 := hf7 0
          have f1 := hf7 1
          have f2 := hf7 2
          have f3 := hf7 3
          have f4 := hf7 4
          have f5 := hf7 5
          have f6 := hf7 6
          have HG := Lib.hid fxe
          clear hf7 fxe
          go_wp2
          try simp only [Exit.inBlock, Exit.then]
          refine bodyPost_ret (results_cell_row rfl _ _ (w.heap.size + 1) _ _ _ _ rfl (row7 HG.out.res _ _ _ _ _ _ _) Tryz.underlying36 rfl Tryz.infoR) rfl ?_
          exact HG.out.done (RefF.held r) (Pz.er v) none 0 (Or.inl rfl) _ _ _ _ _ _ _
  · have hv4 : (v != 10) = true := by rw [bne_iff_ne]; exact hv
    clear hv
    go_enter Tryz.func33, Tryz.ntmps33
    go_wp2
    go_loopw [7] (fun v wr => ∃ k : Nat, k ≤ 8 ∧ v = .int .i64 k ∧ Hid (fr = Pz.freeN S.O cl (8 - k) k) ∧ Hid (Fx (RefF r S) F w #[.int .i64 kind, .string p, .string p2, .int .i64 0, .int .i64 fd, .int .i64 off, .int .i64 n, .string data] wr)) (fun v _ => 8 - (intOf v).toNat)
    case atStart => exact ⟨0, by omega, rfl, HFr.out, FX⟩
    case round =>
      obtain ⟨k, hk, rfl, hfr, FX0⟩ := hrel
      by_cases hk8 : k < 8
      · have hk1 : (k : Int) < 8 := by omega
        have hk2 : (0 : Int) ≤ k := by omega
        have ho := HOF.out k
        have hst : fr = if 0 ≤ Pz.ofd S.O cl k then Pz.freeN S.O cl (8 - (k + 1)) (k + 1) else k := by
          rw [hfr.out, show 8 - k = (8 - (k + 1)) + 1 by omega, Pz.freeN]
        generalize Pz.ofd S.O cl k = z at ho hst
        have HOf := Lib.hid ho
        clear ho
        by_cases hz0 : 0 ≤ z
        · rw [if_pos hz0] at hst
          have Hst := Lib.hid hst
          clear hst
          go_wp2_with fail
          refine (HOf.out _ _ FX0.out.inv).mono ?_
          rintro e w1 ⟨rfl, hb1⟩
          have FX1 := Lib.hid (FX0.out.read ((RefF.held r) _) hb1)
          clear hb1
          go_wp2
          go_roundw
          case rel => exact ⟨k + 1, by omega, by go_num, Hst.out, FX1⟩
          case measure => simp [intOf]; omega
        · rw [if_neg hz0] at hst
          have Hst := Lib.hid hst
          clear hst
          have hz1 : z < 0 := by omega
          have hk9 : ((k : Int) == 8) = false := by rw [beq_eq_false_iff_ne]; omega
          go_wp2_with fail
          refine (HOf.out _ _ FX0.out.inv).mono ?_
          rintro e w1 ⟨rfl, hb1⟩
          have FX1 := Lib.hid (FX0.out.read ((RefF.held r) _) hb1)
          clear hb1
          obtain ⟨b0, b1, b2, b3, b4, b5, b6, b7⟩ := FX1.out.c8
          go_wp2_with fail
          refine (HF.out _ _ FX1.out.inv).mono ?_
          rintro e w2 ⟨rfl, hb2⟩
          have FX2 := Lib.hid (FX1.out.read ((RefF.held r) _) hb2)
          clear hb2
          clear b0 b1 b2 b3 b4 b5 b6 b7
          obtain ⟨b0, b1, b2, b3, b4, b5, b6, b7⟩ := FX2.out.c8
          go_wp2_with fail
          refine (HP.out _ _ FX2.out.inv).mono ?_
          rintro e w3 ⟨rfl, hb3⟩
          have FX3 := Lib.hid (FX2.out.read ((RefF.held r) _) hb3)
          clear hb3
          clear b0 b1 b2 b3 b4 b5 b6 b7
          obtain ⟨b0, b1, b2, b3, b4, b5, b6, b7⟩ := FX3.out.c8
          go_wp2_with fail
          refine (HFail.out v _).mono ?_
          rintro e wf ⟨rfl, hbf⟩
          have FXF := Lib.hid (FX3.out.read ((RefF.held r) _) hbf)
          unfold replyV
          have fxe := FXF.out
          obtain ⟨c0, c1, c2, c3, c4, c5, c6, hf7⟩ := cells7 fxe.res
          have f0 := hf7 0
          have f1 := hf7 1
          have f2 := hf7 2
          have f3 := hf7 3
          have f4 := hf7 4
          have f5 := hf7 5
          have f6 := hf7 6
          have HG := Lib.hid fxe
          clear hf7 fxe
          go_wp2
          try simp only [Exit.inBlock, Exit.then]
          refine bodyPost_ret (results_cell_row rfl _ _ (w.heap.size + 1) _ _ _ _ rfl (row7 HG.out.res _ _ _ _ _ _ _) Tryz.underlying36 rfl Tryz.infoR) rfl ?_
          exact HG.out.done (RefF.held r) (Pz.er v) none 0 (Or.inl rfl) _ _ _ _ _ _ _
      · obtain rfl : k = 8 := by omega
        have Hst : Hid (fr = 8) := Lib.hid (by rw [hfr.out]; rfl)
        have FX1 := FX0
        obtain ⟨b0, b1, b2, b3, b4, b5, b6, b7⟩ := FX1.out.c8
        go_wp2_with fail
        refine (HF.out _ _ FX1.out.inv).mono ?_
        rintro e w2 ⟨rfl, hb2⟩
        have FX2 := Lib.hid (FX1.out.read ((RefF.held r) _) hb2)
        clear hb2
        clear b0 b1 b2 b3 b4 b5 b6 b7
        obtain ⟨b0, b1, b2, b3, b4, b5, b6, b7⟩ := FX2.out.c8
        go_wp2_with fail
        refine (HP.out _ _ FX2.out.inv).mono ?_
        rintro e w3 ⟨rfl, hb3⟩
        have FX3 := Lib.hid (FX2.out.read ((RefF.held r) _) hb3)
        clear hb3
        clear b0 b1 b2 b3 b4 b5 b6 b7
        obtain ⟨b0, b1, b2, b3, b4, b5, b6, b7⟩ := FX3.out.c8
        go_wp2_with fail
        refine (HFail.out v _).mono ?_
        rintro e wf ⟨rfl, hbf⟩
        have FXF := Lib.hid (FX3.out.read ((RefF.held r) _) hbf)
        unfold replyV
        have fxe := FXF.out
        obtain ⟨c0, c1, c2, c3, c4, c5, c6, hf7⟩ := cells7 fxe.res
        have f0 := hf7 0
        have f1 := hf7 1
        have f2 := hf7 2
        have f3 := hf7 3
        have f4 := hf7 4
        have f5 := hf7 5
        have f6 := hf7 6
        have HG := Lib.hid fxe
        clear hf7 fxe
        go_wp2
        try simp only [Exit.inBlock, Exit.then]
        refine bodyPost_ret (results_cell_row rfl _ _ (w.heap.size + 1) _ _ _ _ rfl (row7 HG.out.res _ _ _ _ _ _ _) Tryz.underlying36 rfl Tryz.infoR) rfl ?_
        exact HG.out.done (RefF.held r) (Pz.er v) none 0 (Or.inl rfl) _ _ _ _ _ _ _

set_option maxHeartbeats 4000000 in
set_option maxRecDepth 8192 in
theorem ropen_err1 (r : Nat) (S : Pz.Fil) (cl kind fd off n : Int) (p p2 data : ByteArray) (w : World) (F : Nat → Prop) (hpre : OpenPre S p) (v : Int) (hf : Pz.find S p.data.toList = .error v) (hbad : v ≠ 10 ∨ ∃ g, Pz.place S p.data.toList = .error g) (hR : RefF r S w F) :
    Calls Tryz.prog 33 #[.pointer (some ⟨r, 0, none⟩), .int .i64 cl, callV kind p p2 1 fd off n data] w (Does (RefF r) (S, Pz.er v) w F) := by
  have HFail := Lib.hid rfails_any
  have hE := hpre.good.e
  have hN := hpre.good.n
  have hOl := hpre.good.o
  have h1 := fun W G (hR : RefF r S W G) => find_any 0 r S p W hpre.hp (by omega) (by omega) hpre.good.ok hR.is
  have hOf := fun (k : Nat) W G (hR : RefF r S W G) => of_any 0 r S cl k W (by omega) hR.is
  have FX := Lib.hid (Fx.start (RefF.held r S) hR #[.int .i64 kind, .string p, .string p2, .int .i64 1, .int .i64 fd, .int .i64 off, .int .i64 n, .string data])
  rw [hf] at h1
  simp only [toT] at h1
  have HF := Lib.hid h1
  have HOF := Lib.hid hOf
  have h2 := fun W G (hR : RefF r S W G) => place_any 0 r S p W hpre.hp (by omega) (by omega) hpre.good.ok hR.is
  obtain ⟨a, x, u, hP, hu⟩ : ∃ (a : Nat) (x : List UInt8) (u : Int), toP (Pz.place S p.data.toList) = .tuple #[.int .i64 a, .string ⟨x.toArray⟩, .int .i64 u] ∧ (v ≠ 10 ∨ (u != 0) = true) := by
    rcases hbad with h | ⟨g, h⟩
    · obtain ⟨a, x, u, hP⟩ := toP_any (Pz.place S p.data.toList)
      exact ⟨a, x, u, hP, Or.inl h⟩
    · rw [h]; exact ⟨0, [], g, rfl, Or.inr (ne_of_err (Pz.place_err h)).1⟩
  rw [hP] at h2
  have HP := Lib.hid h2
  obtain ⟨hv1, hv2, hv3⟩ := ne_of_err (Pz.find_err hf)
  obtain ⟨fr, hfr⟩ : ∃ fr, fr = Pz.free S.O cl := ⟨_, rfl⟩
  have HFr : Hid (fr = Pz.freeN S.O cl (8 - 0) 0) := Lib.hid hfr
  clear h1 h2 hP hOf hR hE hN hOl hf hpre hfr hbad
  unfold callV
  by_cases hv : v = 10
  · have hv4 : (v != 10) = false := by rw [hv]; rfl
    have hu1 : (u != 0) = true := hu.resolve_left fun h => h hv
    clear hv hu
    go_enter Tryz.func33, Tryz.ntmps33
    go_wp2
    go_loopw [7] (fun v wr => ∃ k : Nat, k ≤ 8 ∧ v = .int .i64 k ∧ Hid (fr = Pz.freeN S.O cl (8 - k) k) ∧ Hid (Fx (RefF r S) F w #[.int .i64 kind, .string p, .string p2, .int .i64 1, .int .i64 fd, .int .i64 off, .int .i64 n, .string data] wr)) (fun v _ => 8 - (intOf v).toNat)
    case atStart => exact ⟨0, by omega, rfl, HFr.out, FX⟩
    case round =>
      obtain ⟨k, hk, rfl, hfr, FX0⟩ := hrel
      by_cases hk8 : k < 8
      · have hk1 : (k : Int) < 8 := by omega
        have hk2 : (0 : Int) ≤ k := by omega
        have ho := HOF.out k
        have hst : fr = if 0 ≤ Pz.ofd S.O cl k then Pz.freeN S.O cl (8 - (k + 1)) (k + 1) else k := by
          rw [hfr.out, show 8 - k = (8 - (k + 1)) + 1 by omega, Pz.freeN]
        generalize Pz.ofd S.O cl k = z at ho hst
        have HOf := Lib.hid ho
        clear ho
        by_cases hz0 : 0 ≤ z
        · rw [if_pos hz0] at hst
          have Hst := Lib.hid hst
          clear hst
          go_wp2_with fail
          refine (HOf.out _ _ FX0.out.inv).mono ?_
          rintro e w1 ⟨rfl, hb1⟩
          have FX1 := Lib.hid (FX0.out.read ((RefF.held r) _) hb1)
          clear hb1
          go_wp2
          go_roundw
          case rel => exact ⟨k + 1, by omega, by go_num, Hst.out, FX1⟩
          case measure => simp [intOf]; omega
        · rw [if_neg hz0] at hst
          have Hst := Lib.hid hst
          clear hst
          have hz1 : z < 0 := by omega
          have hk9 : ((k : Int) == 8) = false := by rw [beq_eq_false_iff_ne]; omega
          go_wp2_with fail
          refine (HOf.out _ _ FX0.out.inv).mono ?_
          rintro e w1 ⟨rfl, hb1⟩
          have FX1 := Lib.hid (FX0.out.read ((RefF.held r) _) hb1)
          clear hb1
          obtain ⟨b0, b1, b2, b3, b4, b5, b6, b7⟩ := FX1.out.c8
          go_wp2_with fail
          refine (HF.out _ _ FX1.out.inv).mono ?_
          rintro e w2 ⟨rfl, hb2⟩
          have FX2 := Lib.hid (FX1.out.read ((RefF.held r) _) hb2)
          clear hb2
          clear b0 b1 b2 b3 b4 b5 b6 b7
          obtain ⟨b0, b1, b2, b3, b4, b5, b6, b7⟩ := FX2.out.c8
          go_wp2_with fail
          refine (HP.out _ _ FX2.out.inv).mono ?_
          rintro e w3 ⟨rfl, hb3⟩
          have FX3 := Lib.hid (FX2.out.read ((RefF.held r) _) hb3)
          clear hb3
          clear b0 b1 b2 b3 b4 b5 b6 b7
          obtain ⟨b0, b1, b2, b3, b4, b5, b6, b7⟩ := FX3.out.c8
          go_wp2_with fail
          refine (HFail.out v _).mono ?_
          rintro e wf ⟨rfl, hbf⟩
          have FXF := Lib.hid (FX3.out.read ((RefF.held r) _) hbf)
          unfold replyV
          have fxe := FXF.out
          obtain ⟨c0, c1, c2, c3, c4, c5, c6, hf7⟩ := cells7 fxe.res
          have f0 := hf7 0
          have f1 := hf7 1
          have f2 := hf7 2
          have f3 := hf7 3
          have f4 := hf7 4
          have f5 := hf7 5
          have f6 := hf7 6
          have HG := Lib.hid fxe
          clear hf7 fxe
          go_wp2
          try simp only [Exit.inBlock, Exit.then]
          refine bodyPost_ret (results_cell_row rfl _ _ (w.heap.size + 1) _ _ _ _ rfl (row7 HG.out.res _ _ _ _ _ _ _) Tryz.underlying36 rfl Tryz.infoR) rfl ?_
          exact HG.out.done (RefF.held r) (Pz.er v) none 0 (Or.inl rfl) _ _ _ _ _ _ _
      · obtain rfl : k = 8 := by omega
        have Hst : Hid (fr = 8) := Lib.hid (by rw [hfr.out]; rfl)
        have FX1 := FX0
        obtain ⟨b0, b1, b2, b3, b4, b5, b6, b7⟩ := FX1.out.c8
        go_wp2_with fail
        refine (HF.out _ _ FX1.out.inv).mono ?_
        rintro e w2 ⟨rfl, hb2⟩
        have FX2 := Lib.hid (FX1.out.read ((RefF.held r) _) hb2)
        clear hb2
        clear b0 b1 b2 b3 b4 b5 b6 b7
        obtain ⟨b0, b1, b2, b3, b4, b5, b6, b7⟩ := FX2.out.c8
        go_wp2_with fail
        refine (HP.out _ _ FX2.out.inv).mono ?_
        rintro e w3 ⟨rfl, hb3⟩
        have FX3 := Lib.hid (FX2.out.read ((RefF.held r) _) hb3)
        clear hb3
        clear b0 b1 b2 b3 b4 b5 b6 b7
        obtain ⟨b0, b1, b2, b3, b4, b5, b6, b7⟩ := FX3.out.c8
        go_wp2_with fail
        refine (HFail.out v _).mono ?_
        rintro e wf ⟨rfl, hbf⟩
        have FXF := Lib.hid (FX3.out.read ((RefF.held r) _) hbf)
        unfold replyV
        have fxe := FXF.out
        obtain ⟨c0, c1, c2, c3, c4, c5, c6, hf7⟩ := cells7 fxe.res
        have f0 := hf7 0
        have f1 := hf7 1
        have f2 := hf7 2
        have f3 := hf7 3
        have f4 := hf7 4
        have f5 := hf7 5
        have f6 := hf7 6
        have HG := Lib.hid fxe
        clear hf7 fxe
        go_wp2
        try simp only [Exit.inBlock, Exit.then]
        refine bodyPost_ret (results_cell_row rfl _ _ (w.heap.size + 1) _ _ _ _ rfl (row7 HG.out.res _ _ _ _ _ _ _) Tryz.underlying36 rfl Tryz.infoR) rfl ?_
        exact HG.out.done (RefF.held r) (Pz.er v) none 0 (Or.inl rfl) _ _ _ _ _ _ _
  · have hv4 : (v != 10) = true := by rw [bne_iff_ne]; exact hv
    clear hv hu
    go_enter Tryz.func33, Tryz.ntmps33
    go_wp2
    go_loopw [7] (fun v wr => ∃ k : Nat, k ≤ 8 ∧ v = .int .i64 k ∧ Hid (fr = Pz.freeN S.O cl (8 - k) k) ∧ Hid (Fx (RefF r S) F w #[.int .i64 kind, .string p, .string p2, .int .i64 1, .int .i64 fd, .int .i64 off, .int .i64 n, .string data] wr)) (fun v _ => 8 - (intOf v).toNat)
    case atStart => exact ⟨0, by omega, rfl, HFr.out, FX⟩
    case round =>
      obtain ⟨k, hk, rfl, hfr, FX0⟩ := hrel
      by_cases hk8 : k < 8
      · have hk1 : (k : Int) < 8 := by omega
        have hk2 : (0 : Int) ≤ k := by omega
        have ho := HOF.out k
        have hst : fr = if 0 ≤ Pz.ofd S.O cl k then Pz.freeN S.O cl (8 - (k + 1)) (k + 1) else k := by
          rw [hfr.out, show 8 - k = (8 - (k + 1)) + 1 by omega, Pz.freeN]
        generalize Pz.ofd S.O cl k = z at ho hst
        have HOf := Lib.hid ho
        clear ho
        by_cases hz0 : 0 ≤ z
        · rw [if_pos hz0] at hst
          have Hst := Lib.hid hst
          clear hst
          go_wp2_with fail
          refine (HOf.out _ _ FX0.out.inv).mono ?_
          rintro e w1 ⟨rfl, hb1⟩
          have FX1 := Lib.hid (FX0.out.read ((RefF.held r) _) hb1)
          clear hb1
          go_wp2
          go_roundw
          case rel => exact ⟨k + 1, by omega, by go_num, Hst.out, FX1⟩
          case measure => simp [intOf]; omega
        · rw [if_neg hz0] at hst
          have Hst := Lib.hid hst
          clear hst
          have hz1 : z < 0 := by omega
          have hk9 : ((k : Int) == 8) = false := by rw [beq_eq_false_iff_ne]; omega
          go_wp2_with fail
          refine (HOf.out _ _ FX0.out.inv).mono ?_
          rintro e w1 ⟨rfl, hb1⟩
          have FX1 := Lib.hid (FX0.out.read ((RefF.held r) _) hb1)
          clear hb1
          obtain ⟨b0, b1, b2, b3, b4, b5, b6, b7⟩ := FX1.out.c8
          go_wp2_with fail
          refine (HF.out _ _ FX1.out.inv).mono ?_
          rintro e w2 ⟨rfl, hb2⟩
          have FX2 := Lib.hid (FX1.out.read ((RefF.held r) _) hb2)
          clear hb2
          clear b0 b1 b2 b3 b4 b5 b6 b7
          obtain ⟨b0, b1, b2, b3, b4, b5, b6, b7⟩ := FX2.out.c8
          go_wp2_with fail
          refine (HP.out _ _ FX2.out.inv).mono ?_
          rintro e w3 ⟨rfl, hb3⟩
          have FX3 := Lib.hid (FX2.out.read ((RefF.held r) _) hb3)
          clear hb3
          clear b0 b1 b2 b3 b4 b5 b6 b7
          obtain ⟨b0, b1, b2, b3, b4, b5, b6, b7⟩ := FX3.out.c8
          go_wp2_with fail
          refine (HFail.out v _).mono ?_
          rintro e wf ⟨rfl, hbf⟩
          have FXF := Lib.hid (FX3.out.read ((RefF.held r) _) hbf)
          unfold replyV
          have fxe := FXF.out
          obtain ⟨c0, c1, c2, c3, c4, c5, c6, hf7⟩ := cells7 fxe.res
          have f0 := hf7 0
          have f1 := hf7 1
          have f2 := hf7 2
          have f3 := hf7 3
          have f4 := hf7 4
          have f5 := hf7 5
          have f6 := hf7 6
          have HG := Lib.hid fxe
          clear hf7 fxe
          go_wp2
          try simp only [Exit.inBlock, Exit.then]
          refine bodyPost_ret (results_cell_row rfl _ _ (w.heap.size + 1) _ _ _ _ rfl (row7 HG.out.res _ _ _ _ _ _ _) Tryz.underlying36 rfl Tryz.infoR) rfl ?_
          exact HG.out.done (RefF.held r) (Pz.er v) none 0 (Or.inl rfl) _ _ _ _ _ _ _
      · obtain rfl : k = 8 := by omega
        have Hst : Hid (fr = 8) := Lib.hid (by rw [hfr.out]; rfl)
        have FX1 := FX0
        obtain ⟨b0, b1, b2, b3, b4, b5, b6, b7⟩ := FX1.out.c8
        go_wp2_with fail
        refine (HF.out _ _ FX1.out.inv).mono ?_
        rintro e w2 ⟨rfl, hb2⟩
        have FX2 := Lib.hid (FX1.out.read ((RefF.held r) _) hb2)
        clear hb2
        clear b0 b1 b2 b3 b4 b5 b6 b7
        obtain ⟨b0, b1, b2, b3, b4, b5, b6, b7⟩ := FX2.out.c8
        go_wp2_with fail
        refine (HP.out _ _ FX2.out.inv).mono ?_
        rintro e w3 ⟨rfl, hb3⟩
        have FX3 := Lib.hid (FX2.out.read ((RefF.held r) _) hb3)
        clear hb3
        clear b0 b1 b2 b3 b4 b5 b6 b7
        obtain ⟨b0, b1, b2, b3, b4, b5, b6, b7⟩ := FX3.out.c8
        go_wp2_with fail
        refine (HFail.out v _).mono ?_
        rintro e wf ⟨rfl, hbf⟩
        have FXF := Lib.hid (FX3.out.read ((RefF.held r) _) hbf)
        unfold replyV
        have fxe := FXF.out
        obtain ⟨c0, c1, c2, c3, c4, c5, c6, hf7⟩ := cells7 fxe.res
        have f0 := hf7 0
        have f1 := hf7 1
        have f2 := hf7 2
        have f3 := hf7 3
        have f4 := hf7 4
        have f5 := hf7 5
        have f6 := hf7 6
        have HG := Lib.hid fxe
        clear hf7 fxe
        go_wp2
        try simp only [Exit.inBlock, Exit.then]
        refine bodyPost_ret (results_cell_row rfl _ _ (w.heap.size + 1) _ _ _ _ rfl (row7 HG.out.res _ _ _ _ _ _ _) Tryz.underlying36 rfl Tryz.infoR) rfl ?_
        exact HG.out.done (RefF.held r) (Pz.er v) none 0 (Or.inl rfl) _ _ _ _ _ _ _

set_option maxHeartbeats 4000000 in
set_option maxRecDepth 8192 in
theorem ropen_new1 (r : Nat) (S : Pz.Fil) (cl kind fd off n : Int) (p p2 data : ByteArray) (w : World) (F : Nat → Prop) (hpre : OpenPre S p) (hf : Pz.find S p.data.toList = .error 10) (d : Nat) (x : List UInt8) (hpl : Pz.place S p.data.toList = .ok (d, x)) (R : Pz.Fil × Pz.Rep) (hres : R = if Pz.free S.O cl = 8 then (S, Pz.er 17) else ({ N := S.N ++ [⟨false, [], 1⟩], E := S.E ++ [⟨d, x, S.N.length⟩], O := S.O ++ [⟨cl, Pz.free S.O cl, S.N.length⟩] }, Pz.fdR (Pz.free S.O cl))) (hR : RefF r S w F) :
    Calls Tryz.prog 33 #[.pointer (some ⟨r, 0, none⟩), .int .i64 cl, callV kind p p2 1 fd off n data] w (Does (RefF r) R w F) := by
  obtain ⟨i0, hi, hy0, hy1, hy2⟩ := info_parts Tryz.infoO
  have HFail := Lib.hid rfails_any
  have hE := hpre.good.e
  have hN := hpre.good.n
  have hOl := hpre.good.o
  have h1 := fun W G (hR : RefF r S W G) => find_any 0 r S p W hpre.hp (by omega) (by omega) hpre.good.ok hR.is
  have hOf := fun (k : Nat) W G (hR : RefF r S W G) => of_any 0 r S cl k W (by omega) hR.is
  have FX := Lib.hid (Fx.start (RefF.held r S) hR #[.int .i64 kind, .string p, .string p2, .int .i64 1, .int .i64 fd, .int .i64 off, .int .i64 n, .string data])
  rw [hf] at h1
  simp only [toT] at h1
  have HF := Lib.hid h1
  have HOF := Lib.hid hOf
  have h2 := fun W G (hR : RefF r S W G) => place_any 0 r S p W hpre.hp (by omega) (by omega) hpre.good.ok hR.is
  rw [hpl] at h2
  simp only [toP] at h2
  have HP := Lib.hid h2
  have HNode := Lib.hid fun W G (h : RefF r S W G) => node_any r S false W G (by omega) h
  have HPut := Lib.hid fun W G (h : RefF r { S with N := S.N ++ [⟨false, [], 1⟩] } W G) => put_any r { S with N := S.N ++ [⟨false, [], 1⟩] } d S.N.length ⟨x.toArray⟩ W G (show S.E.length ≤ _ by omega) h
  obtain ⟨fr, hfr⟩ : ∃ fr, fr = Pz.free S.O cl := ⟨_, rfl⟩
  have HFr : Hid (fr = Pz.freeN S.O cl (8 - 0) 0) := Lib.hid hfr
  rw [← hfr] at hres
  have HRes := Lib.hid hres
  clear h1 h2 hOf hR hE hN hf hpre hfr hres hpl
  unfold callV
  go_enter Tryz.func33, Tryz.ntmps33
  go_wp2
  go_loopw [7] (fun v wr => ∃ k : Nat, k ≤ 8 ∧ v = .int .i64 k ∧ Hid (fr = Pz.freeN S.O cl (8 - k) k) ∧ Hid (Fx (RefF r S) F w #[.int .i64 kind, .string p, .string p2, .int .i64 1, .int .i64 fd, .int .i64 off, .int .i64 n, .string data] wr)) (fun v _ => 8 - (intOf v).toNat)
  case atStart => exact ⟨0, by omega, rfl, HFr.out, FX⟩
  case round =>
    obtain ⟨k, hk, rfl, hfr, FX0⟩ := hrel
    by_cases hk8 : k < 8
    · have hk1 : (k : Int) < 8 := by omega
      have hk2 : (0 : Int) ≤ k := by omega
      have ho := HOF.out k
      have hst : fr = if 0 ≤ Pz.ofd S.O cl k then Pz.freeN S.O cl (8 - (k + 1)) (k + 1) else k := by
        rw [hfr.out, show 8 - k = (8 - (k + 1)) + 1 by omega, Pz.freeN]
      generalize Pz.ofd S.O cl k = z at ho hst
      have HOf := Lib.hid ho
      clear ho
      by_cases hz0 : 0 ≤ z
      · rw [if_pos hz0] at hst
        have Hst := Lib.hid hst
        clear hst
        go_wp2_with fail
        refine (HOf.out _ _ FX0.out.inv).mono ?_
        rintro e w1 ⟨rfl, hb1⟩
        have FX1 := Lib.hid (FX0.out.read ((RefF.held r) _) hb1)
        clear hb1
        go_wp2
        go_roundw
        case rel => exact ⟨k + 1, by omega, by go_num, Hst.out, FX1⟩
        case measure => simp [intOf]; omega
      · rw [if_neg hz0] at hst
        have Hst := Lib.hid hst
        clear hst
        have hz1 : z < 0 := by omega
        have hk9 : ((k : Int) == 8) = false := by rw [beq_eq_false_iff_ne]; omega
        go_wp2_with fail
        refine (HOf.out _ _ FX0.out.inv).mono ?_
        rintro e w1 ⟨rfl, hb1⟩
        have FX1 := Lib.hid (FX0.out.read ((RefF.held r) _) hb1)
        clear hb1
        obtain ⟨b0, b1, b2, b3, b4, b5, b6, b7⟩ := FX1.out.c8
        go_wp2_with fail
        refine (HF.out _ _ FX1.out.inv).mono ?_
        rintro e w2 ⟨rfl, hb2⟩
        have FX2 := Lib.hid (FX1.out.read ((RefF.held r) _) hb2)
        clear hb2
        clear b0 b1 b2 b3 b4 b5 b6 b7
        obtain ⟨b0, b1, b2, b3, b4, b5, b6, b7⟩ := FX2.out.c8
        go_wp2_with fail
        refine (HP.out _ _ FX2.out.inv).mono ?_
        rintro e w3 ⟨rfl, hb3⟩
        have FX3 := Lib.hid (FX2.out.read ((RefF.held r) _) hb3)
        clear hb3
        clear b0 b1 b2 b3 b4 b5 b6 b7
        obtain ⟨b0, b1, b2, b3, b4, b5, b6, b7⟩ := FX3.out.c8
        have HResF : Hid (R = ({ N := S.N ++ [⟨false, [], 1⟩], E := S.E ++ [⟨d, x, S.N.length⟩], O := S.O ++ [⟨cl, k, S.N.length⟩] }, Pz.fdR k)) := Lib.hid (by rw [HRes.out, Hst.out, if_neg (by omega)])
        go_wp2_with fail
        refine (HNode.out _ _ FX3.out.inv).mono ?_
        rintro e w4 ⟨rfl, hi0, ho0⟩
        have FX4 := Lib.hid (FX3.out.write ((RefF.held r) _) hi0 ho0)
        clear hi0 ho0
        clear b0 b1 b2 b3 b4 b5 b6 b7
        go_wp2_with fail
        refine (HPut.out _ _ FX4.out.inv).mono ?_
        rintro e w5 ⟨rfl, hi0, ho0⟩
        have FX5 := Lib.hid (FX4.out.write ((RefF.held r) _) hi0 ho0)
        clear hi0 ho0
        obtain ⟨vN, vE, vO, hA, hr, hiN, hiE, hiO⟩ := FX5.out.inv
        have hba := (Below.refl w5.heap.size w5).alloc (Nat.le_refl _) (.cells #[.int .i64 cl, .int .i64 k, .int .i64 S.N.length] 96)
        have HBa := Lib.hid hba
        have hoO : w5.ownsRow 0 96 3 vO S.O.length (cO S.O) := hA.oO
        have gO := hA.c2
        have HA := Lib.hid (hA.keep hba)
        have HI := Lib.hid (And.intro hr (And.intro hiN (And.intro hiE hiO)))
        clear hba hA hr hiN hiE hiO
        go_wp2_with (at_builtin; go_loud (refine wpList_append_own_at _ rfl _ _ 43 rfl 0 96 i0 _ 3 24 Tryz.underlying43 hi hy0 hy1 hy2 rfl (by decide) vO S.O.length (cO S.O) rfl (hoO.alloc _) ⟨w5.heap.size, 0, none⟩ 1 1 [.int .i64 cl, .int .i64 k, .int .i64 S.N.length] rfl rfl ?_ (by intro u hu; simp at hu; rcases hu with rfl | rfl | rfl <;> rfl) (by unfold maxLen; omega) (by omega) (Nat.zero_le _) ?_))
        · exact cells_new3 _ _ _ _ _
        intro v' wa hown hgrow _ hat
        have hA0 := HA.out
        obtain ⟨hr, hiN, hiE, hiO⟩ := HI.out
        rw [show cO S.O ++ [.int .i64 cl, .int .i64 k, .int .i64 S.N.length] = cO (S.O ++ [⟨cl, k, S.N.length⟩]) by unfold cO; rw [Pz.three_snoc], show S.O.length + 1 = (S.O ++ [(⟨cl, k, S.N.length⟩ : Pz.Op)]).length by simp] at hown
        obtain ⟨A', c', rfl, _, _⟩ := row3 hown
        obtain ⟨hR', hb'⟩ := hA0.putO hr hiN hiE hiO hgrow hown (lies_at (by simpa using hat))
        have hre : some r ≠ vO.ownBlock := fun e => hA0.aO e.symm
        have c1' := (gcell (j := 2) hgrow hA0.lt hre).trans hA0.c2
        have f1' := (gfrozen (j := 2) hgrow hA0.lt hre).trans (hA0.fr 2)
        have hB2 := (RefF.held _ _).back HBa.out hR' hb'
        rw [List.length_append, List.length_singleton] at hB2
        have FXa := Lib.hid (FX5.out.write (RefF.held _ _) hB2.1 hB2.2)
        clear hR' hA0 hown hb' hat hB2 hr hiN hiE hiO hre hgrow hoO gO
        have fxe := FXa.out
        obtain ⟨c0, c1, c2, c3, c4, c5, c6, hf7⟩ := cells7 fxe.res
        have f0 := hf7 0
        have f1 := hf7 1
        have f2 := hf7 2
        have f3 := hf7 3
        have f4 := hf7 4
        have f5 := hf7 5
        have f6 := hf7 6
        have HG := Lib.hid fxe
        clear hf7 fxe
        go_wp2
        try simp only [Exit.inBlock, Exit.then]
        refine bodyPost_ret (results_cell_row rfl _ _ (w.heap.size + 1) _ _ _ _ rfl (row7 HG.out.res _ _ _ _ _ _ _) Tryz.underlying36 rfl Tryz.infoR) rfl ?_
        rw [HResF.out]
        exact HG.out.done (RefF.held r) (Pz.fdR k) none 0 (Or.inl rfl) _ _ _ _ _ _ _
    · obtain rfl : k = 8 := by omega
      have Hst : Hid (fr = 8) := Lib.hid (by rw [hfr.out]; rfl)
      have FX1 := FX0
      obtain ⟨b0, b1, b2, b3, b4, b5, b6, b7⟩ := FX1.out.c8
      go_wp2_with fail
      refine (HF.out _ _ FX1.out.inv).mono ?_
      rintro e w2 ⟨rfl, hb2⟩
      have FX2 := Lib.hid (FX1.out.read ((RefF.held r) _) hb2)
      clear hb2
      clear b0 b1 b2 b3 b4 b5 b6 b7
      obtain ⟨b0, b1, b2, b3, b4, b5, b6, b7⟩ := FX2.out.c8
      go_wp2_with fail
      refine (HP.out _ _ FX2.out.inv).mono ?_
      rintro e w3 ⟨rfl, hb3⟩
      have FX3 := Lib.hid (FX2.out.read ((RefF.held r) _) hb3)
      clear hb3
      clear b0 b1 b2 b3 b4 b5 b6 b7
      obtain ⟨b0, b1, b2, b3, b4, b5, b6, b7⟩ := FX3.out.c8
      have HResF : Hid (R = (S, Pz.er 17)) := Lib.hid (by rw [HRes.out, Hst.out, if_pos rfl])
      go_wp2_with fail
      refine (HFail.out 17 _).mono ?_
      rintro e wf ⟨rfl, hbf⟩
      have FXF := Lib.hid (FX3.out.read ((RefF.held r) _) hbf)
      unfold replyV
      have fxe := FXF.out
      obtain ⟨c0, c1, c2, c3, c4, c5, c6, hf7⟩ := cells7 fxe.res
      have f0 := hf7 0
      have f1 := hf7 1
      have f2 := hf7 2
      have f3 := hf7 3
      have f4 := hf7 4
      have f5 := hf7 5
      have f6 := hf7 6
      have HG := Lib.hid fxe
      clear hf7 fxe
      go_wp2
      try simp only [Exit.inBlock, Exit.then]
      refine bodyPost_ret (results_cell_row rfl _ _ (w.heap.size + 1) _ _ _ _ rfl (row7 HG.out.res _ _ _ _ _ _ _) Tryz.underlying36 rfl Tryz.infoR) rfl ?_
      rw [HResF.out]
      exact HG.out.done (RefF.held r) (Pz.er 17) none 0 (Or.inl rfl) _ _ _ _ _ _ _

set_option maxHeartbeats 4000000 in
set_option maxRecDepth 8192 in
theorem ropen_err3 (r : Nat) (S : Pz.Fil) (cl kind fd off n : Int) (p p2 data : ByteArray) (w : World) (F : Nat → Prop) (hpre : OpenPre S p) (v : Int) (hf : Pz.find S p.data.toList = .error v) (hbad : v ≠ 10 ∨ ∃ g, Pz.place S p.data.toList = .error g) (hR : RefF r S w F) :
    Calls Tryz.prog 33 #[.pointer (some ⟨r, 0, none⟩), .int .i64 cl, callV kind p p2 3 fd off n data] w (Does (RefF r) (S, Pz.er v) w F) := by
  have HFail := Lib.hid rfails_any
  have hE := hpre.good.e
  have hN := hpre.good.n
  have hOl := hpre.good.o
  have h1 := fun W G (hR : RefF r S W G) => find_any 0 r S p W hpre.hp (by omega) (by omega) hpre.good.ok hR.is
  have hOf := fun (k : Nat) W G (hR : RefF r S W G) => of_any 0 r S cl k W (by omega) hR.is
  have FX := Lib.hid (Fx.start (RefF.held r S) hR #[.int .i64 kind, .string p, .string p2, .int .i64 3, .int .i64 fd, .int .i64 off, .int .i64 n, .string data])
  rw [hf] at h1
  simp only [toT] at h1
  have HF := Lib.hid h1
  have HOF := Lib.hid hOf
  have h2 := fun W G (hR : RefF r S W G) => place_any 0 r S p W hpre.hp (by omega) (by omega) hpre.good.ok hR.is
  obtain ⟨a, x, u, hP, hu⟩ : ∃ (a : Nat) (x : List UInt8) (u : Int), toP (Pz.place S p.data.toList) = .tuple #[.int .i64 a, .string ⟨x.toArray⟩, .int .i64 u] ∧ (v ≠ 10 ∨ (u != 0) = true) := by
    rcases hbad with h | ⟨g, h⟩
    · obtain ⟨a, x, u, hP⟩ := toP_any (Pz.place S p.data.toList)
      exact ⟨a, x, u, hP, Or.inl h⟩
    · rw [h]; exact ⟨0, [], g, rfl, Or.inr (ne_of_err (Pz.place_err h)).1⟩
  rw [hP] at h2
  have HP := Lib.hid h2
  obtain ⟨hv1, hv2, hv3⟩ := ne_of_err (Pz.find_err hf)
  obtain ⟨fr, hfr⟩ : ∃ fr, fr = Pz.free S.O cl := ⟨_, rfl⟩
  have HFr : Hid (fr = Pz.freeN S.O cl (8 - 0) 0) := Lib.hid hfr
  clear h1 h2 hP hOf hR hE hN hOl hf hpre hfr hbad
  unfold callV
  by_cases hv : v = 10
  · have hv4 : (v != 10) = false := by rw [hv]; rfl
    have hu1 : (u != 0) = true := hu.resolve_left fun h => h hv
    clear hv hu
    go_enter Tryz.func33, Tryz.ntmps33
    go_wp2
    go_loopw [7] (fun v wr => ∃ k : Nat, k ≤ 8 ∧ v = .int .i64 k ∧ Hid (fr = Pz.freeN S.O cl (8 - k) k) ∧ Hid (Fx (RefF r S) F w #[.int .i64 kind, .string p, .string p2, .int .i64 3, .int .i64 fd, .int .i64 off, .int .i64 n, .string data] wr)) (fun v _ => 8 - (intOf v).toNat)
    case atStart => exact ⟨0, by omega, rfl, HFr.out, FX⟩
    case round =>
      obtain ⟨k, hk, rfl, hfr, FX0⟩ := hrel
      by_cases hk8 : k < 8
      · have hk1 : (k : Int) < 8 := by omega
        have hk2 : (0 : Int) ≤ k := by omega
        have ho := HOF.out k
        have hst : fr = if 0 ≤ Pz.ofd S.O cl k then Pz.freeN S.O cl (8 - (k + 1)) (k + 1) else k := by
          rw [hfr.out, show 8 - k = (8 - (k + 1)) + 1 by omega, Pz.freeN]
        generalize Pz.ofd S.O cl k = z at ho hst
        have HOf := Lib.hid ho
        clear ho
        by_cases hz0 : 0 ≤ z
        · rw [if_pos hz0] at hst
          have Hst := Lib.hid hst
          clear hst
          go_wp2_with fail
          refine (HOf.out _ _ FX0.out.inv).mono ?_
          rintro e w1 ⟨rfl, hb1⟩
          have FX1 := Lib.hid (FX0.out.read ((RefF.held r) _) hb1)
          clear hb1
          go_wp2
          go_roundw
          case rel => exact ⟨k + 1, by omega, by go_num, Hst.out, FX1⟩
          case measure => simp [intOf]; omega
        · rw [if_neg hz0] at hst
          have Hst := Lib.hid hst
          clear hst
          have hz1 : z < 0 := by omega
          have hk9 : ((k : Int) == 8) = false := by rw [beq_eq_false_iff_ne]; omega
          go_wp2_with fail
          refine (HOf.out _ _ FX0.out.inv).mono ?_
          rintro e w1 ⟨rfl, hb1⟩
          have FX1 := Lib.hid (FX0.out.read ((RefF.held r) _) hb1)
          clear hb1
          obtain ⟨b0, b1, b2, b3, b4, b5, b6, b7⟩ := FX1.out.c8
          go_wp2_with fail
          refine (HF.out _ _ FX1.out.inv).mono ?_
          rintro e w2 ⟨rfl, hb2⟩
          have FX2 := Lib.hid (FX1.out.read ((RefF.held r) _) hb2)
          clear hb2
          clear b0 b1 b2 b3 b4 b5 b6 b7
          obtain ⟨b0, b1, b2, b3, b4, b5, b6, b7⟩ := FX2.out.c8
          go_wp2_with fail
          refine (HP.out _ _ FX2.out.inv).mono ?_
          rintro e w3 ⟨rfl, hb3⟩
          have FX3 := Lib.hid (FX2.out.read ((RefF.held r) _) hb3)
          clear hb3
          clear b0 b1 b2 b3 b4 b5 b6 b7
          obtain ⟨b0, b1, b2, b3, b4, b5, b6, b7⟩ := FX3.out.c8
          go_wp2_with fail
          refine (HFail.out v _).mono ?_
          rintro e wf ⟨rfl, hbf⟩
          have FXF := Lib.hid (FX3.out.read ((RefF.held r) _) hbf)
          unfold replyV
          have fxe := FXF.out
          obtain ⟨c0, c1, c2, c3, c4, c5, c6, hf7⟩ := cells7 fxe.res
          have f0 := hf7 0
          have f1 := hf7 1
          have f2 := hf7 2
          have f3 := hf7 3
          have f4 := hf7 4
          have f5 := hf7 5
          have f6 := hf7 6
          have HG := Lib.hid fxe
          clear hf7 fxe
          go_wp2
          try simp only [Exit.inBlock, Exit.then]
          refine bodyPost_ret (results_cell_row rfl _ _ (w.heap.size + 1) _ _ _ _ rfl (row7 HG.out.res _ _ _ _ _ _ _) Tryz.underlying36 rfl Tryz.infoR) rfl ?_
          exact HG.out.done (RefF.held r) (Pz.er v) none 0 (Or.inl rfl) _ _ _ _ _ _ _
      · obtain rfl : k = 8 := by omega
        have Hst : Hid (fr = 8) := Lib.hid (by rw [hfr.out]; rfl)
        have FX1 := FX0
        obtain ⟨b0, b1, b2, b3, b4, b5, b6, b7⟩ := FX1.out.c8
        go_wp2_with fail
        refine (HF.out _ _ FX1.out.inv).mono ?_
        rintro e w2 ⟨rfl, hb2⟩
        have FX2 := Lib.hid (FX1.out.read ((RefF.held r) _) hb2)
        clear hb2
        clear b0 b1 b2 b3 b4 b5 b6 b7
        obtain ⟨b0, b1, b2, b3, b4, b5, b6, b7⟩ := FX2.out.c8
        go_wp2_with fail
        refine (HP.out _ _ FX2.out.inv).mono ?_
        rintro e w3 ⟨rfl, hb3⟩
        have FX3 := Lib.hid (FX2.out.read ((RefF.held r) _) hb3)
        clear hb3
        clear b0 b1 b2 b3 b4 b5 b6 b7
        obtain ⟨b0, b1, b2, b3, b4, b5, b6, b7⟩ := FX3.out.c8
        go_wp2_with fail
        refine (HFail.out v _).mono ?_
        rintro e wf ⟨rfl, hbf⟩
        have FXF := Lib.hid (FX3.out.read ((RefF.held r) _) hbf)
        unfold replyV
        have fxe := FXF.out
        obtain ⟨c0, c1, c2, c3, c4, c5, c6, hf7⟩ := cells7 fxe.res
        have f0 := hf7 0
        have f1 := hf7 1
        have f2 := hf7 2
        have f3 := hf7 3
        have f4 := hf7 4
        have f5 := hf7 5
        have f6 := hf7 6
        have HG := Lib.hid fxe
        clear hf7 fxe
        go_wp2
        try simp only [Exit.inBlock, Exit.then]
        refine bodyPost_ret (results_cell_row rfl _ _ (w.heap.size + 1) _ _ _ _ rfl (row7 HG.out.res _ _ _ _ _ _ _) Tryz.underlying36 rfl Tryz.infoR) rfl ?_
        exact HG.out.done (RefF.held r) (Pz.er v) none 0 (Or.inl rfl) _ _ _ _ _ _ _
  · have hv4 : (v != 10) = true := by rw [bne_iff_ne]; exact hv
    clear hv hu
    go_enter Tryz.func33, Tryz.ntmps33
    go_wp2
    go_loopw [7] (fun v wr => ∃ k : Nat, k ≤ 8 ∧ v = .int .i64 k ∧ Hid (fr = Pz.freeN S.O cl (8 - k) k) ∧ Hid (Fx (RefF r S) F w #[.int .i64 kind, .string p, .string p2, .int .i64 3, .int .i64 fd, .int .i64 off, .int .i64 n, .string data] wr)) (fun v _ => 8 - (intOf v).toNat)
    case atStart => exact ⟨0, by omega, rfl, HFr.out, FX⟩
    case round =>
      obtain ⟨k, hk, rfl, hfr, FX0⟩ := hrel
      by_cases hk8 : k < 8
      · have hk1 : (k : Int) < 8 := by omega
        have hk2 : (0 : Int) ≤ k := by omega
        have ho := HOF.out k
        have hst : fr = if 0 ≤ Pz.ofd S.O cl k then Pz.freeN S.O cl (8 - (k + 1)) (k + 1) else k := by
          rw [hfr.out, show 8 - k = (8 - (k + 1)) + 1 by omega, Pz.freeN]
        generalize Pz.ofd S.O cl k = z at ho hst
        have HOf := Lib.hid ho
        clear ho
        by_cases hz0 : 0 ≤ z
        · rw [if_pos hz0] at hst
          have Hst := Lib.hid hst
          clear hst
          go_wp2_with fail
          refine (HOf.out _ _ FX0.out.inv).mono ?_
          rintro e w1 ⟨rfl, hb1⟩
          have FX1 := Lib.hid (FX0.out.read ((RefF.held r) _) hb1)
          clear hb1
          go_wp2
          go_roundw
          case rel => exact ⟨k + 1, by omega, by go_num, Hst.out, FX1⟩
          case measure => simp [intOf]; omega
        · rw [if_neg hz0] at hst
          have Hst := Lib.hid hst
          clear hst
          have hz1 : z < 0 := by omega
          have hk9 : ((k : Int) == 8) = false := by rw [beq_eq_false_iff_ne]; omega
          go_wp2_with fail
          refine (HOf.out _ _ FX0.out.inv).mono ?_
          rintro e w1 ⟨rfl, hb1⟩
          have FX1 := Lib.hid (FX0.out.read ((RefF.held r) _) hb1)
          clear hb1
          obtain ⟨b0, b1, b2, b3, b4, b5, b6, b7⟩ := FX1.out.c8
          go_wp2_with fail
          refine (HF.out _ _ FX1.out.inv).mono ?_
          rintro e w2 ⟨rfl, hb2⟩
          have FX2 := Lib.hid (FX1.out.read ((RefF.held r) _) hb2)
          clear hb2
          clear b0 b1 b2 b3 b4 b5 b6 b7
          obtain ⟨b0, b1, b2, b3, b4, b5, b6, b7⟩ := FX2.out.c8
          go_wp2_with fail
          refine (HP.out _ _ FX2.out.inv).mono ?_
          rintro e w3 ⟨rfl, hb3⟩
          have FX3 := Lib.hid (FX2.out.read ((RefF.held r) _) hb3)
          clear hb3
          clear b0 b1 b2 b3 b4 b5 b6 b7
          obtain ⟨b0, b1, b2, b3, b4, b5, b6, b7⟩ := FX3.out.c8
          go_wp2_with fail
          refine (HFail.out v _).mono ?_
          rintro e wf ⟨rfl, hbf⟩
          have FXF := Lib.hid (FX3.out.read ((RefF.held r) _) hbf)
          unfold replyV
          have fxe := FXF.out
          obtain ⟨c0, c1, c2, c3, c4, c5, c6, hf7⟩ := cells7 fxe.res
          have f0 := hf7 0
          have f1 := hf7 1
          have f2 := hf7 2
          have f3 := hf7 3
          have f4 := hf7 4
          have f5 := hf7 5
          have f6 := hf7 6
          have HG := Lib.hid fxe
          clear hf7 fxe
          go_wp2
          try simp only [Exit.inBlock, Exit.then]
          refine bodyPost_ret (results_cell_row rfl _ _ (w.heap.size + 1) _ _ _ _ rfl (row7 HG.out.res _ _ _ _ _ _ _) Tryz.underlying36 rfl Tryz.infoR) rfl ?_
          exact HG.out.done (RefF.held r) (Pz.er v) none 0 (Or.inl rfl) _ _ _ _ _ _ _
      · obtain rfl : k = 8 := by omega
        have Hst : Hid (fr = 8) := Lib.hid (by rw [hfr.out]; rfl)
        have FX1 := FX0
        obtain ⟨b0, b1, b2, b3, b4, b5, b6, b7⟩ := FX1.out.c8
        go_wp2_with fail
        refine (HF.out _ _ FX1.out.inv).mono ?_
        rintro e w2 ⟨rfl, hb2⟩
        have FX2 := Lib.hid (FX1.out.read ((RefF.held r) _) hb2)
        clear hb2
        clear b0 b1 b2 b3 b4 b5 b6 b7
        obtain ⟨b0, b1, b2, b3, b4, b5, b6, b7⟩ := FX2.out.c8
        go_wp2_with fail
        refine (HP.out _ _ FX2.out.inv).mono ?_
        rintro e w3 ⟨rfl, hb3⟩
        have FX3 := Lib.hid (FX2.out.read ((RefF.held r) _) hb3)
        clear hb3
        clear b0 b1 b2 b3 b4 b5 b6 b7
        obtain ⟨b0, b1, b2, b3, b4, b5, b6, b7⟩ := FX3.out.c8
        go_wp2_with fail
        refine (HFail.out v _).mono ?_
        rintro e wf ⟨rfl, hbf⟩
        have FXF := Lib.hid (FX3.out.read ((RefF.held r) _) hbf)
        unfold replyV
        have fxe := FXF.out
        obtain ⟨c0, c1, c2, c3, c4, c5, c6, hf7⟩ := cells7 fxe.res
        have f0 := hf7 0
        have f1 := hf7 1
        have f2 := hf7 2
        have f3 := hf7 3
        have f4 := hf7 4
        have f5 := hf7 5
        have f6 := hf7 6
        have HG := Lib.hid fxe
        clear hf7 fxe
        go_wp2
        try simp only [Exit.inBlock, Exit.then]
        refine bodyPost_ret (results_cell_row rfl _ _ (w.heap.size + 1) _ _ _ _ rfl (row7 HG.out.res _ _ _ _ _ _ _) Tryz.underlying36 rfl Tryz.infoR) rfl ?_
        exact HG.out.done (RefF.held r) (Pz.er v) none 0 (Or.inl rfl) _ _ _ _ _ _ _

set_option maxHeartbeats 4000000 in
set_option maxRecDepth 8192 in
theorem ropen_new3 (r : Nat) (S : Pz.Fil) (cl kind fd off n : Int) (p p2 data : ByteArray) (w : World) (F : Nat → Prop) (hpre : OpenPre S p) (hf : Pz.find S p.data.toList = .error 10) (d : Nat) (x : List UInt8) (hpl : Pz.place S p.data.toList = .ok (d, x)) (R : Pz.Fil × Pz.Rep) (hres : R = if Pz.free S.O cl = 8 then (S, Pz.er 17) else ({ N := S.N ++ [⟨false, [], 1⟩], E := S.E ++ [⟨d, x, S.N.length⟩], O := S.O ++ [⟨cl, Pz.free S.O cl, S.N.length⟩] }, Pz.fdR (Pz.free S.O cl))) (hR : RefF r S w F) :
    Calls Tryz.prog 33 #[.pointer (some ⟨r, 0, none⟩), .int .i64 cl, callV kind p p2 3 fd off n data] w (Does (RefF r) R w F) := by
  obtain ⟨i0, hi, hy0, hy1, hy2⟩ := info_parts Tryz.infoO
  have HFail := Lib.hid rfails_any
  have hE := hpre.good.e
  have hN := hpre.good.n
  have hOl := hpre.good.o
  have h1 := fun W G (hR : RefF r S W G) => find_any 0 r S p W hpre.hp (by omega) (by omega) hpre.good.ok hR.is
  have hOf := fun (k : Nat) W G (hR : RefF r S W G) => of_any 0 r S cl k W (by omega) hR.is
  have FX := Lib.hid (Fx.start (RefF.held r S) hR #[.int .i64 kind, .string p, .string p2, .int .i64 3, .int .i64 fd, .int .i64 off, .int .i64 n, .string data])
  rw [hf] at h1
  simp only [toT] at h1
  have HF := Lib.hid h1
  have HOF := Lib.hid hOf
  have h2 := fun W G (hR : RefF r S W G) => place_any 0 r S p W hpre.hp (by omega) (by omega) hpre.good.ok hR.is
  rw [hpl] at h2
  simp only [toP] at h2
  have HP := Lib.hid h2
  have HNode := Lib.hid fun W G (h : RefF r S W G) => node_any r S false W G (by omega) h
  have HPut := Lib.hid fun W G (h : RefF r { S with N := S.N ++ [⟨false, [], 1⟩] } W G) => put_any r { S with N := S.N ++ [⟨false, [], 1⟩] } d S.N.length ⟨x.toArray⟩ W G (show S.E.length ≤ _ by omega) h
  obtain ⟨fr, hfr⟩ : ∃ fr, fr = Pz.free S.O cl := ⟨_, rfl⟩
  have HFr : Hid (fr = Pz.freeN S.O cl (8 - 0) 0) := Lib.hid hfr
  rw [← hfr] at hres
  have HRes := Lib.hid hres
  clear h1 h2 hOf hR hE hN hf hpre hfr hres hpl
  unfold callV
  go_enter Tryz.func33, Tryz.ntmps33
  go_wp2
  go_loopw [7] (fun v wr => ∃ k : Nat, k ≤ 8 ∧ v = .int .i64 k ∧ Hid (fr = Pz.freeN S.O cl (8 - k) k) ∧ Hid (Fx (RefF r S) F w #[.int .i64 kind, .string p, .string p2, .int .i64 3, .int .i64 fd, .int .i64 off, .int .i64 n, .string data] wr)) (fun v _ => 8 - (intOf v).toNat)
  case atStart => exact ⟨0, by omega, rfl, HFr.out, FX⟩
  case round =>
    obtain ⟨k, hk, rfl, hfr, FX0⟩ := hrel
    by_cases hk8 : k < 8
    · have hk1 : (k : Int) < 8 := by omega
      have hk2 : (0 : Int) ≤ k := by omega
      have ho := HOF.out k
      have hst : fr = if 0 ≤ Pz.ofd S.O cl k then Pz.freeN S.O cl (8 - (k + 1)) (k + 1) else k := by
        rw [hfr.out, show 8 - k = (8 - (k + 1)) + 1 by omega, Pz.freeN]
      generalize Pz.ofd S.O cl k = z at ho hst
      have HOf := Lib.hid ho
      clear ho
      by_cases hz0 : 0 ≤ z
      · rw [if_pos hz0] at hst
        have Hst := Lib.hid hst
        clear hst
        go_wp2_with fail
        refine (HOf.out _ _ FX0.out.inv).mono ?_
        rintro e w1 ⟨rfl, hb1⟩
        have FX1 := Lib.hid (FX0.out.read ((RefF.held r) _) hb1)
        clear hb1
        go_wp2
        go_roundw
        case rel => exact ⟨k + 1, by omega, by go_num, Hst.out, FX1⟩
        case measure => simp [intOf]; omega
      · rw [if_neg hz0] at hst
        have Hst := Lib.hid hst
        clear hst
        have hz1 : z < 0 := by omega
        have hk9 : ((k : Int) == 8) = false := by rw [beq_eq_false_iff_ne]; omega
        go_wp2_with fail
        refine (HOf.out _ _ FX0.out.inv).mono ?_
        rintro e w1 ⟨rfl, hb1⟩
        have FX1 := Lib.hid (FX0.out.read ((RefF.held r) _) hb1)
        clear hb1
        obtain ⟨b0, b1, b2, b3, b4, b5, b6, b7⟩ := FX1.out.c8
        go_wp2_with fail
        refine (HF.out _ _ FX1.out.inv).mono ?_
        rintro e w2 ⟨rfl, hb2⟩
        have FX2 := Lib.hid (FX1.out.read ((RefF.held r) _) hb2)
        clear hb2
        clear b0 b1 b2 b3 b4 b5 b6 b7
        obtain ⟨b0, b1, b2, b3, b4, b5, b6, b7⟩ := FX2.out.c8
        go_wp2_with fail
        refine (HP.out _ _ FX2.out.inv).mono ?_
        rintro e w3 ⟨rfl, hb3⟩
        have FX3 := Lib.hid (FX2.out.read ((RefF.held r) _) hb3)
        clear hb3
        clear b0 b1 b2 b3 b4 b5 b6 b7
        obtain ⟨b0, b1, b2, b3, b4, b5, b6, b7⟩ := FX3.out.c8
        have HResF : Hid (R = ({ N := S.N ++ [⟨false, [], 1⟩], E := S.E ++ [⟨d, x, S.N.length⟩], O := S.O ++ [⟨cl, k, S.N.length⟩] }, Pz.fdR k)) := Lib.hid (by rw [HRes.out, Hst.out, if_neg (by omega)])
        go_wp2_with fail
        refine (HNode.out _ _ FX3.out.inv).mono ?_
        rintro e w4 ⟨rfl, hi0, ho0⟩
        have FX4 := Lib.hid (FX3.out.write ((RefF.held r) _) hi0 ho0)
        clear hi0 ho0
        clear b0 b1 b2 b3 b4 b5 b6 b7
        go_wp2_with fail
        refine (HPut.out _ _ FX4.out.inv).mono ?_
        rintro e w5 ⟨rfl, hi0, ho0⟩
        have FX5 := Lib.hid (FX4.out.write ((RefF.held r) _) hi0 ho0)
        clear hi0 ho0
        obtain ⟨vN, vE, vO, hA, hr, hiN, hiE, hiO⟩ := FX5.out.inv
        have hba := (Below.refl w5.heap.size w5).alloc (Nat.le_refl _) (.cells #[.int .i64 cl, .int .i64 k, .int .i64 S.N.length] 96)
        have HBa := Lib.hid hba
        have hoO : w5.ownsRow 0 96 3 vO S.O.length (cO S.O) := hA.oO
        have gO := hA.c2
        have HA := Lib.hid (hA.keep hba)
        have HI := Lib.hid (And.intro hr (And.intro hiN (And.intro hiE hiO)))
        clear hba hA hr hiN hiE hiO
        go_wp2_with (at_builtin; go_loud (refine wpList_append_own_at _ rfl _ _ 43 rfl 0 96 i0 _ 3 24 Tryz.underlying43 hi hy0 hy1 hy2 rfl (by decide) vO S.O.length (cO S.O) rfl (hoO.alloc _) ⟨w5.heap.size, 0, none⟩ 1 1 [.int .i64 cl, .int .i64 k, .int .i64 S.N.length] rfl rfl ?_ (by intro u hu; simp at hu; rcases hu with rfl | rfl | rfl <;> rfl) (by unfold maxLen; omega) (by omega) (Nat.zero_le _) ?_))
        · exact cells_new3 _ _ _ _ _
        intro v' wa hown hgrow _ hat
        have hA0 := HA.out
        obtain ⟨hr, hiN, hiE, hiO⟩ := HI.out
        rw [show cO S.O ++ [.int .i64 cl, .int .i64 k, .int .i64 S.N.length] = cO (S.O ++ [⟨cl, k, S.N.length⟩]) by unfold cO; rw [Pz.three_snoc], show S.O.length + 1 = (S.O ++ [(⟨cl, k, S.N.length⟩ : Pz.Op)]).length by simp] at hown
        obtain ⟨A', c', rfl, _, _⟩ := row3 hown
        obtain ⟨hR', hb'⟩ := hA0.putO hr hiN hiE hiO hgrow hown (lies_at (by simpa using hat))
        have hre : some r ≠ vO.ownBlock := fun e => hA0.aO e.symm
        have c1' := (gcell (j := 2) hgrow hA0.lt hre).trans hA0.c2
        have f1' := (gfrozen (j := 2) hgrow hA0.lt hre).trans (hA0.fr 2)
        have hB2 := (RefF.held _ _).back HBa.out hR' hb'
        rw [List.length_append, List.length_singleton] at hB2
        have FXa := Lib.hid (FX5.out.write (RefF.held _ _) hB2.1 hB2.2)
        clear hR' hA0 hown hb' hat hB2 hr hiN hiE hiO hre hgrow hoO gO
        have fxe := FXa.out
        obtain ⟨c0, c1, c2, c3, c4, c5, c6, hf7⟩ := cells7 fxe.res
        have f0 := hf7 0
        have f1 := hf7 1
        have f2 := hf7 2
        have f3 := hf7 3
        have f4 := hf7 4
        have f5 := hf7 5
        have f6 := hf7 6
        have HG := Lib.hid fxe
        clear hf7 fxe
        go_wp2
        try simp only [Exit.inBlock, Exit.then]
        refine bodyPost_ret (results_cell_row rfl _ _ (w.heap.size + 1) _ _ _ _ rfl (row7 HG.out.res _ _ _ _ _ _ _) Tryz.underlying36 rfl Tryz.infoR) rfl ?_
        rw [HResF.out]
        exact HG.out.done (RefF.held r) (Pz.fdR k) none 0 (Or.inl rfl) _ _ _ _ _ _ _
    · obtain rfl : k = 8 := by omega
      have Hst : Hid (fr = 8) := Lib.hid (by rw [hfr.out]; rfl)
      have FX1 := FX0
      obtain ⟨b0, b1, b2, b3, b4, b5, b6, b7⟩ := FX1.out.c8
      go_wp2_with fail
      refine (HF.out _ _ FX1.out.inv).mono ?_
      rintro e w2 ⟨rfl, hb2⟩
      have FX2 := Lib.hid (FX1.out.read ((RefF.held r) _) hb2)
      clear hb2
      clear b0 b1 b2 b3 b4 b5 b6 b7
      obtain ⟨b0, b1, b2, b3, b4, b5, b6, b7⟩ := FX2.out.c8
      go_wp2_with fail
      refine (HP.out _ _ FX2.out.inv).mono ?_
      rintro e w3 ⟨rfl, hb3⟩
      have FX3 := Lib.hid (FX2.out.read ((RefF.held r) _) hb3)
      clear hb3
      clear b0 b1 b2 b3 b4 b5 b6 b7
      obtain ⟨b0, b1, b2, b3, b4, b5, b6, b7⟩ := FX3.out.c8
      have HResF : Hid (R = (S, Pz.er 17)) := Lib.hid (by rw [HRes.out, Hst.out, if_pos rfl])
      go_wp2_with fail
      refine (HFail.out 17 _).mono ?_
      rintro e wf ⟨rfl, hbf⟩
      have FXF := Lib.hid (FX3.out.read ((RefF.held r) _) hbf)
      unfold replyV
      have fxe := FXF.out
      obtain ⟨c0, c1, c2, c3, c4, c5, c6, hf7⟩ := cells7 fxe.res
      have f0 := hf7 0
      have f1 := hf7 1
      have f2 := hf7 2
      have f3 := hf7 3
      have f4 := hf7 4
      have f5 := hf7 5
      have f6 := hf7 6
      have HG := Lib.hid fxe
      clear hf7 fxe
      go_wp2
      try simp only [Exit.inBlock, Exit.then]
      refine bodyPost_ret (results_cell_row rfl _ _ (w.heap.size + 1) _ _ _ _ rfl (row7 HG.out.res _ _ _ _ _ _ _) Tryz.underlying36 rfl Tryz.infoR) rfl ?_
      rw [HResF.out]
      exact HG.out.done (RefF.held r) (Pz.er 17) none 0 (Or.inl rfl) _ _ _ _ _ _ _

end Go.Proofs.YtbpejjmfdhkfhaaGreatDoor
