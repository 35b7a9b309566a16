/- Walks: the document's file: a cut, a close. -/
import Derived.Test.YtbpejjmfdhkfhaaGreatDoorPosRefP
import Derived.BigQuiet
import Derived.Deep.QuietTactic
set_option linter.unusedVariables false
set_option linter.unusedSimpArgs false
namespace Go.Proofs.YtbpejjmfdhkfhaaGreatDoor
open Go.RowKit

set_option maxHeartbeats 4000000 in
set_option maxRecDepth 8192 in
theorem rfile_trunc (r : Nat) (S : Pz.Fil) (cl : Int) (m : Nat) (flags fd off n : Int) (p p2 data : ByteArray) (w : World) (F : Nat → Prop) (hpre : Pz.Good 1000 S) (hm : m < S.N.length) (hR : RefF r S w F) :
    Calls Tryz.prog 35 #[.pointer (some ⟨r, 0, none⟩), .int .i64 cl, .int .i64 m, callV 5 p p2 flags fd off n data] w (Does (RefF r) (Pz.file S cl m 5 fd off n data.data.toList) w F) := by
  have HFail := Lib.hid rfails_any
  have hE := hpre.e
  have hOl := hpre.o
  have hdl := Pz.nodeD_data hpre hm
  have FX := Lib.hid (Fx.start (RefF.held r S) hR #[.int .i64 5, .string p, .string p2, .int .i64 flags, .int .i64 fd, .int .i64 off, .int .i64 n, .string data])
  obtain ⟨b, c, g, g0, g1, g2, hrl, hbl⟩ := hR.dirLow hm
  obtain ⟨D, hD⟩ : ∃ D : ByteArray, D = ⟨(Pz.nodeD S.N m).data.toArray⟩ := ⟨_, rfl⟩
  have hDs : D.size ≤ 256 := by rw [hD, Lib.size_eq]; exact hdl
  obtain ⟨q, hq⟩ : ∃ q, q = S.N.length := ⟨_, rfl⟩
  rw [← hD] at g1
  rw [← hq] at g
  have hm1 : (0 : Int) ≤ m := by omega
  have hm2 : (m : Int) < q := by omega
  have Hq := Lib.hid hq
  have HDD := Lib.hid hD
  have HR := Lib.hid hR
  have hSz := fun (k : Nat) (hk : k ≤ 256) W => rsized_q D k (by omega) (by omega) W
  have HSz := Lib.hid hSz
  have HDat := Lib.hid fun W G (h : RefF r S W G) => h.dataAt hm
  obtain ⟨R, hres⟩ : ∃ R, R = Pz.file S cl m 5 fd off n data.data.toList := ⟨_, rfl⟩
  rw [← hres]
  have HRes : Hid (R = if n < 0 then (S, Pz.er 15) else if 256 < n then (S, Pz.er 19) else ({ S with N := S.N.set m { Pz.nodeD S.N m with data := Pz.sized D.data.toList n.toNat } }, Pz.er 0)) := Lib.hid (by
      rw [hres]
      unfold Pz.file
      rw [if_neg (by decide), if_neg (by decide), if_neg (by decide), if_pos rfl, hD])
  clear hpre hR hE hOl hdl hD hm hres hSz
  rw [← hq] at HDat
  clear hq
  unfold callV
  by_cases h1 : n < 0
  · have HRes1 := Lib.hid (HRes.out.trans (if_pos h1))
    go_enter Tryz.func35, Tryz.ntmps35
    go_wp2_with fail
    refine (HFail.out 15 _).mono ?_
    rintro e wf ⟨rfl, hbf⟩
    have FXF := Lib.hid (FX.out.read ((RefF.held r) _) hbf)
    unfold replyV
    have fxe := FXF.out
    obtain ⟨c0, c1, c2, c3, c4, c5, c6, hf7⟩ := cells7 fxe.res
    have f0 := hf7 0
    have f1 := hf7 1
    have f2 := hf7 2
    have f3 := hf7 3
    have f4 := hf7 4
    have f5 := hf7 5
    have f6 := hf7 6
    have HG := Lib.hid fxe
    clear hf7 fxe
    go_wp2
    try simp only [Exit.inBlock, Exit.then]
    refine bodyPost_ret (results_cell_row rfl _ _ (w.heap.size + 1) _ _ _ _ rfl (row7 HG.out.res _ _ _ _ _ _ _) Tryz.underlying36 rfl Tryz.infoR) rfl ?_
    rw [HRes1.out]
    exact HG.out.done (RefF.held r) (Pz.er 15) none 0 (Or.inl rfl) _ _ _ _ _ _ _
  have HRes1 := Lib.hid (HRes.out.trans (if_neg h1))
  have h1' : 0 ≤ n := by omega
  by_cases h2 : 256 < n
  · have HRes2 := Lib.hid (HRes1.out.trans (if_pos h2))
    go_enter Tryz.func35, Tryz.ntmps35
    go_wp2_with fail
    refine (HFail.out 19 _).mono ?_
    rintro e wf ⟨rfl, hbf⟩
    have FXF := Lib.hid (FX.out.read ((RefF.held r) _) hbf)
    unfold replyV
    have fxe := FXF.out
    obtain ⟨c0, c1, c2, c3, c4, c5, c6, hf7⟩ := cells7 fxe.res
    have f0 := hf7 0
    have f1 := hf7 1
    have f2 := hf7 2
    have f3 := hf7 3
    have f4 := hf7 4
    have f5 := hf7 5
    have f6 := hf7 6
    have HG := Lib.hid fxe
    clear hf7 fxe
    go_wp2
    try simp only [Exit.inBlock, Exit.then]
    refine bodyPost_ret (results_cell_row rfl _ _ (w.heap.size + 1) _ _ _ _ rfl (row7 HG.out.res _ _ _ _ _ _ _) Tryz.underlying36 rfl Tryz.infoR) rfl ?_
    rw [HRes2.out]
    exact HG.out.done (RefF.held r) (Pz.er 19) none 0 (Or.inl rfl) _ _ _ _ _ _ _
  have HRes2 := Lib.hid (HRes1.out.trans (if_neg h2))
  obtain ⟨k, rfl⟩ : ∃ k : Nat, n = k := ⟨n.toNat, by omega⟩
  have h2' : (k : Int) ≤ 256 := by omega
  have hsz := HSz.out k (by omega)
  obtain ⟨u, hu⟩ : ∃ u : ByteArray, u = ⟨(Pz.sized D.data.toList k).toArray⟩ := ⟨_, rfl⟩
  rw [← hu] at hsz
  have HS := Lib.hid fun W => (hsz W).mono fun e w' h => And.intro h.1 h.2.symm
  have HResF : Hid (R = ({ S with N := S.N.set m { Pz.nodeD S.N m with data := u.data.toList } }, Pz.er 0)) := Lib.hid (by rw [HRes2.out, hu, Int.toNat_natCast])
  obtain ⟨w1, hw1⟩ : ∃ w1, w1 = ((w.alloc (.cells #[.int .i64 5, .string p, .string p2, .int .i64 flags, .int .i64 fd, .int .i64 off, .int .i64 k, .string data] 24)).alloc (.cells #[.int .i64 0, .int .i64 0, .string ⟨#[]⟩, .slice none 0 0, .int .i64 0, .int .i64 0, .int .i64 0] 36)) := ⟨_, rfl⟩
  rw [← hw1] at FX
  have HW1 := Lib.hid hw1
  have FX1d := Lib.hid (FX.out.read (RefF.held _ _) ((Below.refl _ w1).drew))
  obtain ⟨b0, b1, b2, b3, b4, b5, b6, b7⟩ := FX.out.c8
  obtain ⟨bb, cc, gg, gg1, ff, hst⟩ := HDat.out _ _ FX1d.out.inv
  have HST := Lib.hid hst
  clear hsz hu hst h2 hw1
  go_enter Tryz.func35, Tryz.ntmps35
  go_wp2
  rw [← HW1.out]
  go_still_tail 11, (by kernel_rfl)
  still_call (HS.out _)
  repeat still_step
  refine wpStill_nil ?_
  change wpList _ _ _ _ _ w1.drew
  clear b0 b1 b2 b3 b4 b5 b6 b7
  generalize w1.drew = w2 at FX1d HST ff gg gg1 ⊢
  have hst := HST.out u
  have FX2 := Lib.hid (FX1d.out.put (RefF.held _ _) hst.1 hst.2)
  clear hst
  have fxe := FX2.out
  obtain ⟨c0, c1, c2, c3, c4, c5, c6, hf7⟩ := cells7 fxe.res
  have f0 := hf7 0
  have f1 := hf7 1
  have f2 := hf7 2
  have f3 := hf7 3
  have f4 := hf7 4
  have f5 := hf7 5
  have f6 := hf7 6
  have HG := Lib.hid fxe
  clear hf7 fxe
  go_wp2
  try simp only [Exit.inBlock, Exit.then]
  refine bodyPost_ret (results_cell_row rfl _ _ (w.heap.size + 1) _ _ _ _ rfl (row7 HG.out.res _ _ _ _ _ _ _) Tryz.underlying36 rfl Tryz.infoR) rfl ?_
  rw [HResF.out]
  exact HG.out.done (RefF.held r) (Pz.er 0) none 0 (Or.inl rfl) _ _ _ _ _ _ _

set_option maxHeartbeats 4000000 in
set_option maxRecDepth 8192 in
theorem rfile_close (r : Nat) (S : Pz.Fil) (cl : Int) (m : Nat) (flags fd off n : Int) (p p2 data : ByteArray) (w : World) (F : Nat → Prop) (hpre : Pz.Good 1000 S) (hm : m < S.N.length) (hR : RefF r S w F) :
    Calls Tryz.prog 35 #[.pointer (some ⟨r, 0, none⟩), .int .i64 cl, .int .i64 m, callV 2 p p2 flags fd off n data] w (Does (RefF r) ({ S with O := Pz.shut S.O cl fd }, Pz.er 0) w F) := by
  have HFail := Lib.hid rfails_any
  have hE := hpre.e
  have hOl := hpre.o
  have hdl := Pz.nodeD_data hpre hm
  have FX := Lib.hid (Fx.start (RefF.held r S) hR #[.int .i64 2, .string p, .string p2, .int .i64 flags, .int .i64 fd, .int .i64 off, .int .i64 n, .string data])
  obtain ⟨b, c, g, g0, g1, g2, hrl, hbl⟩ := hR.dirLow hm
  obtain ⟨D, hD⟩ : ∃ D : ByteArray, D = ⟨(Pz.nodeD S.N m).data.toArray⟩ := ⟨_, rfl⟩
  have hDs : D.size ≤ 256 := by rw [hD, Lib.size_eq]; exact hdl
  obtain ⟨q, hq⟩ : ∃ q, q = S.N.length := ⟨_, rfl⟩
  rw [← hD] at g1
  rw [← hq] at g
  have hm1 : (0 : Int) ≤ m := by omega
  have hm2 : (m : Int) < q := by omega
  have Hq := Lib.hid hq
  have HDD := Lib.hid hD
  have HR := Lib.hid hR
  obtain ⟨i0, hi, hz0, hz1, hz2⟩ := info_parts Tryz.infoO
  obtain ⟨WW, hWW⟩ : ∃ WW, WW = ((w.alloc (.cells #[.int .i64 2, .string p, .string p2, .int .i64 flags, .int .i64 fd, .int .i64 off, .int .i64 n, .string data] 24)).alloc (.cells #[.int .i64 0, .int .i64 0, .string ⟨#[]⟩, .slice none 0 0, .int .i64 0, .int .i64 0, .int .i64 0] 36)) := ⟨_, rfl⟩
  rw [← hWW] at FX
  have hWs : WW.heap.size = w.heap.size + 2 := by rw [hWW]; simp
  have HWW := Lib.hid hWW
  obtain ⟨vN, vE, vO, hA, hr, hiN, hiE, hiO⟩ := FX.out.inv
  have HA := Lib.hid hA
  have HI := Lib.hid (And.intro hr (And.intro hiN (And.intro hiE hiO)))
  obtain ⟨AO, co, rfl, hco, hrow⟩ := row3 hA.oO
  have hc2 := hA.c2
  have hrW := hA.lt
  have hfr := hA.fr 2
  have HRow := Lib.hid hrow
  obtain ⟨nO, hnO⟩ : ∃ nO, nO = S.O.length := ⟨_, rfl⟩
  rw [← hnO] at hc2 hOl
  have HnO := Lib.hid hnO
  obtain ⟨b0, b1, b2, b3, b4, b5, b6, b7⟩ := FX.out.c8
  have hbw0 : w.heap.size < WW.heap.size := by omega
  clear hA hr hiN hiE hiO hrow hco hnO hpre hR hE hdl hD hq hm hWW b0 b1 b2 b3 b5 b6 b7
  unfold callV
  go_enter Tryz.func35, Tryz.ntmps35
  go_wp2
  rw [← HWW.out]
  go_loopw [10, 11] (fun u v wr => ∃ (k : Nat) (T : List Pz.Op), k ≤ nO ∧ T.length ≤ k ∧ v = .int .i64 k ∧ wr.ownsRow WW.heap.size 96 3 u T.length (cO T) ∧ Hid (T = Pz.shut (S.O.take k) cl fd) ∧ Below WW.heap.size WW wr) (fun _ v _ => nO - (intOf v).toNat)
  case atStart => exact ⟨0, [], by omega, by simp, rfl, World.ownsRow_nil _ _ _ _, by show [] = Pz.shut (S.O.take 0) cl fd; rfl, Below.refl _ _⟩
  case round =>
    obtain ⟨k, T, hk, hT, rfl, hown, hok, hbw⟩ := hrel
    have hc2' : wr.cell? ⟨r, 2, none⟩ = some (.slice AO nO co) := (hbw.cell (p := ⟨r, 2, none⟩) hrW).trans hc2
    have b4' := (hbw.cell (p := ⟨w.heap.size, 4, none⟩) hbw0).trans b4
    obtain ⟨A', c', hv, hc', _⟩ := row3 hown
    rw [hv] at hown
    rw [hv]
    by_cases hkn : k < nO
    · obtain ⟨e, he⟩ : ∃ e, S.O[k]? = some e := ⟨_, List.getElem?_eq_getElem (by have := HnO.out; omega)⟩
      obtain ⟨b, rfl, _, hb, h0, h1, h2, _⟩ := HRow.out k e he
      have hst := Pz.shut_step (c := cl) (fd := fd) he
      rw [← hok.out] at hst
      have Hst := Lib.hid hst
      have HC := Lib.hid (And.intro h0 (And.intro h1 (And.intro h2 (And.intro hc2 b4))))
      have g0 := (hbw.cell (p := ⟨b, k * 3, none⟩) hb).trans h0
      have g1 := (hbw.cell (p := ⟨b, k * 3 + 1, none⟩) hb).trans h1
      have g2 := (hbw.cell (p := ⟨b, k * 3 + 2, none⟩) hb).trans h2
      clear h0 h1 h2 he hst hc2 b4
      have hk1 : (0 : Int) ≤ k := by omega
      have hk2 : (k : Int) < nO := by omega
      have hsn : cO T ++ [.int .i64 e.client, .int .i64 e.fd, .int .i64 e.node] = cO (T ++ [e]) := by
        unfold cO
        rw [Pz.three_snoc]
      have Hsn := Lib.hid hsn
      clear hsn
      by_cases hd : e.client = cl ∧ e.fd = fd
      · have hps := Lib.hid hd
        obtain ⟨rfl, rfl⟩ := hd
        go_wp2
        go_quiet (fail)
        have hbq := below_drewN hbw nq
        have hoq : (wr.drewN nq).ownsRow WW.heap.size 96 3 (.slice A' T.length c') T.length (cO T) := hown
        clear hc2' b4' g0 g1 g2 hbw hown
        generalize wr.drewN nq = wq at hbq hoq ⊢
        go_wp2
        go_roundw
        case rel => exact ⟨k + 1, T, by omega, by omega, by go_num, hoq, by show T = _; rw [Hst.out, if_pos hps.out]; simp, hbq⟩
        case measure => simp [intOf]; omega
      · have Hne := Lib.hid hd
        by_cases hd1 : e.client = cl
        · have hd3 : (e.fd == fd) = false := by rw [beq_eq_false_iff_ne]; exact fun h => hd ⟨hd1, h⟩
          clear hd
          subst hd1
          go_wp2
          go_quiet (fail)
          have hbq := below_drewN hbw nq
          have hoq : (wr.drewN nq).ownsRow WW.heap.size 96 3 (.slice A' T.length c') T.length (cO T) := hown
          clear hc2' b4' g0 g1 g2 hbw hown
          generalize wr.drewN nq = wq at hbq hoq ⊢
          obtain ⟨h0, h1, h2, hc2, b4⟩ := HC.out
          have g0 := (hbq.cell (p := ⟨b, k * 3, none⟩) hb).trans h0
          have g1 := (hbq.cell (p := ⟨b, k * 3 + 1, none⟩) hb).trans h1
          have g2 := (hbq.cell (p := ⟨b, k * 3 + 2, none⟩) hb).trans h2
          have hc2' := (hbq.cell (p := ⟨r, 2, none⟩) hrW).trans hc2
          clear h0 h1 h2 hc2 b4
          go_wp2_with (at_builtin; refine wpList_append_own _ rfl _ _ 43 rfl WW.heap.size 96 i0 _ 3 24 Tryz.underlying43 hi hz0 hz1 hz2 rfl (by decide) (.slice A' T.length c') T.length (cO T) rfl (hoq.alloc _) ⟨wq.heap.size, 0, none⟩ 1 1 [.int .i64 e.client, .int .i64 e.fd, .int .i64 e.node] rfl rfl (cells_new3 _ _ _ _ _) (by intro u hu; simp at hu; rcases hu with rfl | rfl | rfl <;> rfl) (by unfold maxLen; omega) (by omega) (by have := hbq.size; simp; omega) ?_; intro v' w1 hown' hgrow _)
          rw [Hsn.out, show T.length + 1 = (T ++ [e]).length by simp] at hown'
          have hB1 : Below WW.heap.size WW w1 := (hbq.alloc hbq.size _).grown hgrow (by have := hbq.size; simp; omega) (fun q hq => (hoq.lt q hq).1)
          obtain ⟨A2, c2, hv', _, _⟩ := row3 hown'
          rw [hv'] at hown'
          rw [hv']
          have HO := Lib.hid hown'
          clear hown' hoq hv' hv
          go_wp2
          go_roundw
          case rel => exact ⟨k + 1, T ++ [e], by omega, by simp; omega, by go_num, HO.out, by show T ++ [e] = _; rw [Hst.out, if_neg Hne.out], hB1⟩
          case measure => simp [intOf]; omega
        · have hd2 : (e.client != cl) = true := by rw [bne_iff_ne]; exact hd1
          clear hd hd1
          go_wp2
          go_quiet (fail)
          have hbq := below_drewN hbw nq
          have hoq : (wr.drewN nq).ownsRow WW.heap.size 96 3 (.slice A' T.length c') T.length (cO T) := hown
          clear hc2' b4' g0 g1 g2 hbw hown
          generalize wr.drewN nq = wq at hbq hoq ⊢
          obtain ⟨h0, h1, h2, hc2, b4⟩ := HC.out
          have g0 := (hbq.cell (p := ⟨b, k * 3, none⟩) hb).trans h0
          have g1 := (hbq.cell (p := ⟨b, k * 3 + 1, none⟩) hb).trans h1
          have g2 := (hbq.cell (p := ⟨b, k * 3 + 2, none⟩) hb).trans h2
          have hc2' := (hbq.cell (p := ⟨r, 2, none⟩) hrW).trans hc2
          clear h0 h1 h2 hc2 b4
          go_wp2_with (at_builtin; refine wpList_append_own _ rfl _ _ 43 rfl WW.heap.size 96 i0 _ 3 24 Tryz.underlying43 hi hz0 hz1 hz2 rfl (by decide) (.slice A' T.length c') T.length (cO T) rfl (hoq.alloc _) ⟨wq.heap.size, 0, none⟩ 1 1 [.int .i64 e.client, .int .i64 e.fd, .int .i64 e.node] rfl rfl (cells_new3 _ _ _ _ _) (by intro u hu; simp at hu; rcases hu with rfl | rfl | rfl <;> rfl) (by unfold maxLen; omega) (by omega) (by have := hbq.size; simp; omega) ?_; intro v' w1 hown' hgrow _)
          rw [Hsn.out, show T.length + 1 = (T ++ [e]).length by simp] at hown'
          have hB1 : Below WW.heap.size WW w1 := (hbq.alloc hbq.size _).grown hgrow (by have := hbq.size; simp; omega) (fun q hq => (hoq.lt q hq).1)
          obtain ⟨A2, c2, hv', _, _⟩ := row3 hown'
          rw [hv'] at hown'
          rw [hv']
          have HO := Lib.hid hown'
          clear hown' hoq hv' hv
          go_wp2
          go_roundw
          case rel => exact ⟨k + 1, T ++ [e], by omega, by simp; omega, by go_num, HO.out, by show T ++ [e] = _; rw [Hst.out, if_neg Hne.out], hB1⟩
          case measure => simp [intOf]; omega
    · have hk2 : (nO : Int) ≤ k := by omega
      have hTE : T = Pz.shut S.O cl fd := by rw [hok.out, List.take_of_length_le (by have := HnO.out; omega)]
      have hat : Lies WW (.slice AO S.O.length co) (.slice A' T.length c') := by
        cases hv : (Value.slice A' T.length c').ownBlock with
        | none => exact Or.inr (Or.inl hv)
        | some q => exact Or.inr (Or.inr ⟨q, (hown.lt q hv).1, hv⟩)
      obtain ⟨hr, hiN, hiE, hiO⟩ := HI.out
      obtain ⟨hR', hb'⟩ := HA.out.putO hr hiN hiE hiO (gbut (grown_of hbw)) (row_low hown (Nat.zero_le _)) hat
      have f1' : wr.frozen? ⟨r, 2, none⟩ = false := (hbw.frozen (p := ⟨r, 2, none⟩) hrW).trans hfr
      have FX1 := Lib.hid (FX.out.write (RefF.held _ _) hR' hb')
      have HTE : Hid ((({ S with O := Pz.shut S.O cl fd } : Pz.Fil), Pz.er 0) = ({ S with O := T }, Pz.er 0)) := Lib.hid (by rw [hTE])
      clear hR' hb' hown hat hr hiN hiE hiO hTE
      have fxe := FX1.out
      obtain ⟨c0, c1, c2, c3, c4, c5, c6, hf7⟩ := cells7 fxe.res
      have f0 := hf7 0
      have f1 := hf7 1
      have f2 := hf7 2
      have f3 := hf7 3
      have f4 := hf7 4
      have f5 := hf7 5
      have f6 := hf7 6
      have HG := Lib.hid fxe
      clear hf7 fxe
      go_wp2
      try simp only [Exit.inBlock, Exit.then]
      refine bodyPost_ret (results_cell_row rfl _ _ (w.heap.size + 1) _ _ _ _ rfl (row7 HG.out.res _ _ _ _ _ _ _) Tryz.underlying36 rfl Tryz.infoR) rfl ?_
      rw [HTE.out]
      exact HG.out.done (RefF.held r) (Pz.er 0) none 0 (Or.inl rfl) _ _ _ _ _ _ _

end Go.Proofs.YtbpejjmfdhkfhaaGreatDoor
