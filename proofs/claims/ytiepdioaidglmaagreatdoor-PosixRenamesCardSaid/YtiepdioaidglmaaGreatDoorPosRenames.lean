/- Walks: the law PosixRenames: what was renamed is found under its new name, and not under its old one. -/
import Derived.Test.YtiepdioaidglmaaGreatDoorPosPlayed
import Derived.Test.YtiepdioaidglmaaGreatDoorPosLives
import Derived.Deep.CutRange
set_option linter.unusedVariables false
set_option linter.unusedSimpArgs false
namespace Go.Proofs.YtiepdioaidglmaaGreatDoor
open Go.RowKit

theorem Pz.do_rename {S : Pz.Fil} (p p2 : List UInt8) (flags fd off m : Int) (d : List UInt8) : Pz.doA S 1 11 p p2 flags fd off m d = Pz.rename S p p2 := by
  unfold Pz.doA
  rw [if_neg (by omega), if_neg (by omega), if_neg (by omega), if_neg (by omega), if_neg (by omega), if_neg (by omega), if_neg (by omega), if_pos (by omega)]

set_option maxHeartbeats 8000000 in
set_option maxRecDepth 100000 in
theorem law_renames [Inhabited XBox] (A : Option Addr) (L : List Ask) (c : Nat) (p p2 : ByteArray) (w : World) (hx : MxX w) (hlen : L.length ≤ 9223372036854775807) (hA : Asks w A L) (hI : ∀ a ∈ L, I64 a.cl ∧ I64 a.fd) (_ : p.size ≤ 9223372036854775807) (_ : p2.size ≤ 9223372036854775807) :
    Calls Tryz.prog 7 #[.slice A L.length c, .string p, .string p2] w fun e w' => e = .returned (.bool true) ∧ Below w.heap.size w w' := by
  have HP := Lib.hid (played_any A L c 40 w (by omega) hx hlen hA hI)
  clear hx hA hI
  go_enter Tryz.func7, Tryz.ntmps7
  go_wp2_with fail
  refine HP.out.mono ?_
  rintro e w1 ⟨pr, rr, S, F, G, rfl, hB, hG, hF⟩
  have HA1 := Lib.hid hB.alone
  have HG := Lib.hid hG
  have HF := Lib.hid hF
  clear hB hF hG
  obtain ⟨q, hq0⟩ : ∃ q, q = cutB p 60 := ⟨_, rfl⟩
  have hqs : Hid (q.size ≤ 60) := Lib.hid (by rw [hq0]; exact cutB_size _ _)
  unfold cutB at hq0
  have hq := Lib.hid hq0
  clear hq0
  go_upto_if 26 with fail
  go_cut [1] from 24 to 28 (fun s1 wx => s1 = .string q ∧ wx = w1)
  case first =>
    by_cases h1 : 60 < p.size
    · have hq := hq.out
      rw [if_pos h1] at hq
      have HQ := Lib.hid hq
      clear hq
      go_wp2_with fail
      go_meet
      exact ⟨by rw [HQ.out], rfl⟩
    · have hq := hq.out
      rw [if_neg h1] at hq
      have HQ := Lib.hid hq
      clear hq
      go_wp2_with fail
      go_meet
      exact ⟨by rw [HQ.out], rfl⟩
  case rest =>
  obtain ⟨rfl, hwc⟩ := hcut
  subst wc
  obtain ⟨q2, hqq0⟩ : ∃ q, q = cutB p2 60 := ⟨_, rfl⟩
  have hqqs : Hid (q2.size ≤ 60) := Lib.hid (by rw [hqq0]; exact cutB_size _ _)
  unfold cutB at hqq0
  have hqq := Lib.hid hqq0
  clear hqq0
  go_upto_if 31 with fail
  go_cut [2] from 29 to 33 (fun s1 wx => s1 = .string q2 ∧ wx = w1)
  case first =>
    by_cases h1 : 60 < p2.size
    · have hq := hqq.out
      rw [if_pos h1] at hq
      have HQ := Lib.hid hq
      clear hq
      go_wp2_with fail
      go_meet
      exact ⟨by rw [HQ.out], rfl⟩
    · have hq := hqq.out
      rw [if_neg h1] at hq
      have HQ := Lib.hid hq
      clear hq
      go_wp2_with fail
      go_meet
      exact ⟨by rw [HQ.out], rfl⟩
  case rest =>
  obtain ⟨rfl, hwc⟩ := hcut
  subst wc
  have HFa := Lib.hid (fun h => Pz.rename_facts (p := q.data.toList) (p2 := q2.data.toList) HG.out HF.out.tree h)
  have HGr : Hid (Pz.Good 203 (Pz.rename S q.data.toList q2.data.toList).1) := Lib.hid (by
    have := (Pz.do_good HG.out HF.out.few 1 11 q.data.toList q2.data.toList 0 0 0 0 []).1
    rw [Pz.do_rename] at this
    exact this)
  go_wp2_with fail
  refine (do_alone HA1.out 1 13 0 0 0 0 q ⟨#[]⟩ ⟨#[]⟩ i64_1 i64_0 (Nat.le_trans hqs.out (by omega)) (by decide) (HG.out.mono (by omega)) (Pz.tells S 13 q.data.toList) (Pz.do_stat ..)).mono ?_
  rintro e w2a ⟨A2, c2, F2, rfl, -, hA, hM⟩
  obtain ⟨ra, hra⟩ : ∃ zq, zq = ((Pz.tells S 13 q.data.toList)).2 := ⟨_, rfl⟩
  rw [← hra]
  have HQra := Lib.hid hra
  obtain ⟨w2b, hw⟩ : ∃ v, v = w2a.alloc (.cells (repC ra A2 c2) 35) := ⟨_, rfl⟩
  have hb : Below w2a.heap.size w2a w2b := by rw [hw]; exact (Below.refl _ _).alloc (Nat.le_refl _) _
  have HA2 := Lib.hid (hA.keep hb)
  have Mra2 : Hid (Mine F2 w2a.heap.size (.cells (repC ra A2 c2) 35 (0, 0)) w2b) := Lib.hid (by rw [hw]; exact Mine.make hA _ _)
  unfold repC at hw
  have HW2 := Lib.hid hw
  clear hA hM hb hw hra
  unfold repV
  have HA2 : Hid (Alone w pr S F2 w2b) := HA2
  go_wp2_with fail
  rw [← HW2.out]
  refine (do_alone HA2.out 1 13 0 0 0 0 q2 ⟨#[]⟩ ⟨#[]⟩ i64_1 i64_0 (Nat.le_trans hqqs.out (by omega)) (by decide) (HG.out.mono (by omega)) (Pz.tells S 13 q2.data.toList) (Pz.do_stat ..)).mono ?_
  rintro e w3a ⟨A3, c3, F3, rfl, -, hA, hM⟩
  obtain ⟨rt, hrt⟩ : ∃ zq, zq = ((Pz.tells S 13 q2.data.toList)).2 := ⟨_, rfl⟩
  rw [← hrt]
  have HQrt := Lib.hid hrt
  obtain ⟨w3b, hw⟩ : ∃ v, v = w3a.alloc (.cells (repC rt A3 c3) 35) := ⟨_, rfl⟩
  have hb : Below w3a.heap.size w3a w3b := by rw [hw]; exact (Below.refl _ _).alloc (Nat.le_refl _) _
  have HA3 := Lib.hid (hA.keep hb)
  have Mrt3 : Hid (Mine F3 w3a.heap.size (.cells (repC rt A3 c3) 35 (0, 0)) w3b) := Lib.hid (by rw [hw]; exact Mine.make hA _ _)
  have Mra3 := Lib.hid ((hM _ _ Mra2.out).keep hb)
  clear Mra2
  unfold repC at hw
  have HW3 := Lib.hid hw
  clear hA hM hb hw hrt
  unfold repV
  have HA3 : Hid (Alone w pr S F3 w3b) := HA3
  go_wp2_with fail
  rw [← HW3.out]
  refine (do_alone HA3.out 1 11 0 0 0 0 q q2 ⟨#[]⟩ i64_1 i64_0 (Nat.le_trans hqs.out (by omega)) (Nat.le_trans hqqs.out (by omega)) (HG.out.mono (by omega)) (Pz.rename S q.data.toList q2.data.toList) (Pz.do_rename ..)).mono ?_
  rintro e w4a ⟨A4, c4, F4, rfl, -, hA, hM⟩
  obtain ⟨rr0, hrr0⟩ : ∃ zq, zq = ((Pz.rename S q.data.toList q2.data.toList)).2 := ⟨_, rfl⟩
  rw [← hrr0]
  have HQrr0 := Lib.hid hrr0
  obtain ⟨w4b, hw⟩ : ∃ v, v = w4a.alloc (.cells (repC rr0 A4 c4) 35) := ⟨_, rfl⟩
  have hb : Below w4a.heap.size w4a w4b := by rw [hw]; exact (Below.refl _ _).alloc (Nat.le_refl _) _
  have HA4 := Lib.hid (hA.keep hb)
  have Mrr04 : Hid (Mine F4 w4a.heap.size (.cells (repC rr0 A4 c4) 35 (0, 0)) w4b) := Lib.hid (by rw [hw]; exact Mine.make hA _ _)
  have Mra4 := Lib.hid ((hM _ _ Mra3.out).keep hb)
  have Mrt4 := Lib.hid ((hM _ _ Mrt3.out).keep hb)
  clear Mra3
  clear Mrt3
  unfold repC at hw
  have HW4 := Lib.hid hw
  clear hA hM hb hw hrr0
  unfold repV
  go_upto_region 11 with fail
  rw [← HW4.out]
  obtain ⟨err00, _, _, _, _, _, _⟩ := Mrr04.out.rep
  obtain ⟨S2, hS2⟩ : ∃ S2, S2 = (Pz.rename S q.data.toList q2.data.toList).1 := ⟨_, rfl⟩
  rw [← hS2] at HA4 HFa HGr
  rw [← HQrr0.out] at HFa
  by_cases hr : rr0.errno = 0
  · rw [hr] at err00
    have HFb := Lib.hid (HFa.out hr)
    clear HFa hr hS2
    go_wp2_with fail
    clear err00
    refine (do_alone HA4.out 1 13 0 0 0 0 q2 ⟨#[]⟩ ⟨#[]⟩ i64_1 i64_0 (Nat.le_trans hqqs.out (by omega)) (by decide) (HGr.out.mono (by omega)) (Pz.tells S2 13 q2.data.toList) (Pz.do_stat ..)).mono ?_
    rintro e w5a ⟨A5, c5, F5, rfl, -, hA, hM⟩
    obtain ⟨rn, hrn⟩ : ∃ zq, zq = ((Pz.tells S2 13 q2.data.toList)).2 := ⟨_, rfl⟩
    rw [← hrn]
    have HQrn := Lib.hid hrn
    obtain ⟨w5b, hw⟩ : ∃ v, v = w5a.alloc (.cells (repC rn A5 c5) 35) := ⟨_, rfl⟩
    have hb : Below w5a.heap.size w5a w5b := by rw [hw]; exact (Below.refl _ _).alloc (Nat.le_refl _) _
    have HA5 := Lib.hid (hA.keep hb)
    have Mrn5 : Hid (Mine F5 w5a.heap.size (.cells (repC rn A5 c5) 35 (0, 0)) w5b) := Lib.hid (by rw [hw]; exact Mine.make hA _ _)
    have Mra5 := Lib.hid ((hM _ _ Mra4.out).keep hb)
    have Mrt5 := Lib.hid ((hM _ _ Mrt4.out).keep hb)
    have Mrr05 := Lib.hid ((hM _ _ Mrr04.out).keep hb)
    clear Mra4
    clear Mrt4
    clear Mrr04
    unfold repC at hw
    have HW5 := Lib.hid hw
    clear hA hM hb hw hrn
    unfold repV
    have HA5 : Hid (Alone w pr S2 F5 w5b) := HA5
    go_wp2_with fail
    rw [← HW5.out]
    refine (do_alone HA5.out 1 13 0 0 0 0 q ⟨#[]⟩ ⟨#[]⟩ i64_1 i64_0 (Nat.le_trans hqs.out (by omega)) (by decide) (HGr.out.mono (by omega)) (Pz.tells S2 13 q.data.toList) (Pz.do_stat ..)).mono ?_
    rintro e w6a ⟨A6, c6, F6, rfl, -, hA, hM⟩
    obtain ⟨ro, hro⟩ : ∃ zq, zq = ((Pz.tells S2 13 q.data.toList)).2 := ⟨_, rfl⟩
    rw [← hro]
    have HQro := Lib.hid hro
    obtain ⟨w6b, hw⟩ : ∃ v, v = w6a.alloc (.cells (repC ro A6 c6) 35) := ⟨_, rfl⟩
    have hb : Below w6a.heap.size w6a w6b := by rw [hw]; exact (Below.refl _ _).alloc (Nat.le_refl _) _
    have HA6 := Lib.hid (hA.keep hb)
    have Mro6 : Hid (Mine F6 w6a.heap.size (.cells (repC ro A6 c6) 35 (0, 0)) w6b) := Lib.hid (by rw [hw]; exact Mine.make hA _ _)
    have Mra6 := Lib.hid ((hM _ _ Mra5.out).keep hb)
    have Mrt6 := Lib.hid ((hM _ _ Mrt5.out).keep hb)
    have Mrr06 := Lib.hid ((hM _ _ Mrr05.out).keep hb)
    have Mrn6 := Lib.hid ((hM _ _ Mrn5.out).keep hb)
    clear Mra5
    clear Mrt5
    clear Mrr05
    clear Mrn5
    unfold repC at hw
    have HW6 := Lib.hid hw
    clear hA hM hb hw hro
    unfold repV
    have HA6 : Hid (Alone w pr S2 F6 w6b) := HA6
    go_upto_region 15 with fail
    rw [← HW6.out]
    obtain ⟨era0, _, _, _, era4, era5, era6⟩ := Mra6.out.rep
    obtain ⟨ert0, _, _, _, ert4, ert5, ert6⟩ := Mrt6.out.rep
    obtain ⟨ern0, _, _, _, ern4, _, ern6⟩ := Mrn6.out.rep
    obtain ⟨ero0, _, _, _, _, _, _⟩ := Mro6.out.rep
    obtain ⟨f1, f2, f3, f4, f5, f6⟩ := HFb.out
    rw [← HQra.out] at f1 f3 f4 f6
    rw [← HQrt.out] at f6
    rw [← HQrn.out] at f2 f3 f4
    rw [← HQro.out] at f5 f6
    rw [f1] at era0
    rw [f2] at ern0
    rw [f3] at ern4
    rw [f4] at ern6
    have H5 := Lib.hid f5
    have H6 := Lib.hid f6
    clear f1 f2 f3 f4 f5 f6
    by_cases hqe : q = q2
    · have h0 := H5.out (by rw [hqe])
      have hpb : (q.toList == q2.toList) = true := by rw [beq_iff_eq, hqe]
      rw [h0] at ero0
      go_wp2_with fail
      refine (lives_any _ HA6.out.real.mxx).mono ?_
      rintro e wz ⟨rfl, hbz⟩
      go_wp2
      go_ret
      exact ⟨rfl, HA6.out.below.trans (hbz.mono HA6.out.below.size)⟩
    · have hne : q.data.toList ≠ q2.data.toList := fun e => hqe (by
        cases q
        cases q2
        simp only [ByteArray.mk.injEq]
        exact Array.toList_inj.1 e)
      have hpb : (q.toList == q2.toList) = false := by rw [beq_eq_false_iff_ne, Lib.toList_data, Lib.toList_data]; exact hne
      by_cases h10 : ro.errno = 10
      · rw [h10] at ero0
        go_wp2_with fail
        refine (lives_any _ HA6.out.real.mxx).mono ?_
        rintro e wz ⟨rfl, hbz⟩
        go_wp2
        go_ret
        exact ⟨rfl, HA6.out.below.trans (hbz.mono HA6.out.below.size)⟩
      · by_cases h12 : ro.errno = 12
        · rw [h12] at ero0
          go_wp2_with fail
          refine (lives_any _ HA6.out.real.mxx).mono ?_
          rintro e wz ⟨rfl, hbz⟩
          go_wp2
          go_ret
          exact ⟨rfl, HA6.out.below.trans (hbz.mono HA6.out.below.size)⟩
        · rcases H6.out hne with h | h | ⟨g1, g2, g3, g4⟩
          · exact absurd h h10
          · exact absurd h h12
          · rw [g1] at ert0
            rw [g2] at ert4
            rw [g3] at ert5
            rw [g4] at ert6
            clear g1 g2 g3 g4
            go_wp2_with fail
            refine (lives_any _ HA6.out.real.mxx).mono ?_
            rintro e wz ⟨rfl, hbz⟩
            go_wp2
            go_ret
            exact ⟨rfl, HA6.out.below.trans (hbz.mono HA6.out.below.size)⟩
  · go_wp2_with fail
    refine (lives_any _ HA4.out.real.mxx).mono ?_
    rintro e wz ⟨rfl, hbz⟩
    go_wp2
    go_ret
    exact ⟨rfl, HA4.out.below.trans (hbz.mono HA4.out.below.size)⟩

end Go.Proofs.YtiepdioaidglmaaGreatDoor
