/- Walks: the law PosixReads: what was written is read, and what lies around it stays. -/
import Derived.Test.YtiepdioaidglmaaGreatDoorPosPlayed
import Derived.Test.YtiepdioaidglmaaGreatDoorPosLives
import Derived.Deep.CutRange
set_option linter.unusedVariables false
set_option linter.unusedSimpArgs false
namespace Go.Proofs.YtiepdioaidglmaaGreatDoor
open Go.RowKit

theorem Pz.do_unlink2 {S : Pz.Fil} (p p2 : List UInt8) (flags fd off m : Int) (d : List UInt8) : Pz.doA S 2 10 p p2 flags fd off m d = Pz.unlink S p := by
  unfold Pz.doA
  rw [if_neg (by omega), if_neg (by omega), if_neg (by omega), if_neg (by omega), if_neg (by omega), if_neg (by omega), if_pos (by omega)]
theorem Pz.At1.len {K : Nat} {S : Pz.Fil} {n : Nat} {X : List UInt8} (h : Pz.At1 S n X) (hG : Pz.Good K S) : X.length ≤ 256 := by
  rw [← h.data]
  exact Pz.nodeD_data hG h.lt
theorem str_ne {d : ByteArray} (h : d.data.toList ≠ []) : d.size ≠ 0 := fun e => h (List.eq_nil_of_length_eq_zero (by rw [← Lib.size_eq]; exact e))

set_option maxHeartbeats 8000000 in
set_option maxRecDepth 100000 in
theorem law_reads [Inhabited XBox] (A : Option Addr) (L : List Ask) (c : Nat) (off : Int) (data : ByteArray) (pos : Int) (more : ByteArray) (fro m : Int) (w : World) (hx : MxX w) (hlen : L.length ≤ 9223372036854775807) (hA : Asks w A L) (hI : ∀ a ∈ L, I64 a.cl ∧ I64 a.fd) (_ : I64 off) (_ : data.size ≤ 9223372036854775807) (_ : I64 pos) (_ : more.size ≤ 9223372036854775807) (_ : I64 fro) (_ : I64 m) :
    Calls Tryz.prog 4 #[.slice A L.length c, .int .i64 off, .string data, .int .i64 pos, .string more, .int .i64 fro, .int .i64 m] w fun e w' => e = .returned (.bool true) ∧ Below w.heap.size w w' := by
  have HP := Lib.hid (played_any A L c 30 w (by omega) hx hlen hA hI)
  clear hx hA hI
  go_enter Tryz.func4, Tryz.ntmps4
  go_wp2_with fail
  refine HP.out.mono ?_
  rintro e w1 ⟨pr, rr, S, F, G, rfl, hB, hG, hF⟩
  have HA1 := Lib.hid hB.alone
  have HG := Lib.hid hG
  have HF := Lib.hid hF
  clear hB hF hG
  go_wp2_with fail
  refine (fdrop_any pr S 1 w1 F i64_1 HF.out.i64 HG.out.one HA1.out.real).mono ?_
  rintro e w2 ⟨rfl, hi, ho⟩
  have HA2 := Lib.hid (HA1.out.doReal hi ho)
  clear hi ho
  obtain ⟨S1, hS1⟩ : ∃ T, T = ({ S with O := Pz.drop S.O 1 } : Pz.Fil) := ⟨_, rfl⟩
  rw [← hS1] at HA2
  have HG1 : Hid (Pz.Good 200 S1 ∧ Pz.Few S1) := Lib.hid (by rw [hS1]; exact Pz.drop_good HG.out HF.out.few 1)
  have HO1 : Hid (∀ o ∈ S1.O, o.client ≠ 1) := Lib.hid (by
    rw [hS1]
    intro o ho
    exact of_decide_eq_true (List.mem_filter.1 ho).2)
  clear hS1 HA1
  obtain ⟨S2, hS2⟩ : ∃ T, T = (Pz.unlink S1 Pz.zz).1 := ⟨_, rfl⟩
  have HO2 : Hid (∀ o ∈ S2.O, o.client ≠ 1) := Lib.hid (by rw [hS2, (Pz.unlink_good HG1.out.1).2]; exact HO1.out)
  have HG2 : Hid (Pz.Good 203 S2 ∧ Pz.Few S2) := Lib.hid (by
    have := Pz.do_good HG1.out.1 HG1.out.2 2 10 Pz.zz [] 0 0 0 0 []
    rw [Pz.do_unlink2, ← hS2] at this
    exact this)
  have HS2 := Lib.hid hS2
  clear hS2
  go_wp2_with fail
  refine (do_alone HA2.out 2 10 0 0 0 0 ⟨#[47, 122, 122]⟩ ⟨#[]⟩ ⟨#[]⟩ i64_2 i64_0 (by decide) (by decide) (HG1.out.1.mono (by omega)) (Pz.unlink S1 Pz.zz) (Pz.do_unlink2 ..)).mono ?_
  rintro e w3a ⟨A3, c3, F3, rfl, -, hA, hM⟩
  have HA3 := Lib.hid hA
  clear hA hM
  unfold repV
  rw [← HS2.out] at HA3
  obtain ⟨R3, hR3⟩ : ∃ T, T = Pz.doA S2 1 1 Pz.zz [] 3 0 0 0 [] := ⟨_, rfl⟩
  have HG3 : Hid (Pz.Good 206 R3.1 ∧ Pz.Few R3.1) := Lib.hid (by rw [hR3]; exact Pz.do_good HG2.out.1 HG2.out.2 _ _ _ _ _ _ _ _ _)
  have HOp : Hid (R3.2.errno = 11 ∨ (R3.2.errno = 0 ∧ Pz.At1 R3.1 S2.N.length [])) := Lib.hid (by rw [hR3]; exact Pz.open_zz HG2.out.1 HO2.out _ _ _ _ _)
  have HR3 := Lib.hid hR3
  clear hR3
  go_wp2_with fail
  refine (do_alone HA3.out 1 1 3 0 0 0 ⟨#[47, 122, 122]⟩ ⟨#[]⟩ ⟨#[]⟩ i64_1 i64_0 (by decide) (by decide) (HG2.out.1.mono (by omega)) R3 HR3.out.symm).mono ?_
  rintro e w4a ⟨A4, c4, F4, rfl, -, hA, hM⟩
  obtain ⟨ro, hro⟩ : ∃ zq, zq = (R3).2 := ⟨_, rfl⟩
  rw [← hro]
  have HQro := Lib.hid hro
  obtain ⟨w4b, hw⟩ : ∃ v, v = w4a.alloc (.cells (repC ro A4 c4) 35) := ⟨_, rfl⟩
  have hb : Below w4a.heap.size w4a w4b := by rw [hw]; exact (Below.refl _ _).alloc (Nat.le_refl _) _
  have HA4 := Lib.hid (hA.keep hb)
  have Mro4 : Hid (Mine F4 w4a.heap.size (.cells (repC ro A4 c4) 35 (0, 0)) w4b) := Lib.hid (by rw [hw]; exact Mine.make hA _ _)
  unfold repC at hw
  have HW4 := Lib.hid hw
  clear hA hM hb hw hro
  unfold repV
  go_upto_region 7 with fail
  rw [← HW4.out]
  rw [← HQro.out] at HOp
  obtain ⟨ero0, _, _, _, _, _, _⟩ := Mro4.out.rep
  rcases HOp.out with h11 | ⟨h0, hat⟩
  · rw [h11] at ero0
    clear h11
    go_wp2_with fail
    refine (lives_any _ HA4.out.real.mxx).mono ?_
    rintro e wz ⟨rfl, hbz⟩
    go_wp2
    go_ret
    exact ⟨rfl, HA4.out.below.trans (hbz.mono HA4.out.below.size)⟩
  rw [h0] at ero0
  have HT := Lib.hid hat
  clear h0 hat
  obtain ⟨d, hd0⟩ : ∃ q, q = cutB data 64 := ⟨_, rfl⟩
  have hds : Hid (d.size ≤ 64) := Lib.hid (by rw [hd0]; exact cutB_size _ _)
  unfold cutB at hd0
  have hd := Lib.hid hd0
  clear hd0
  go_upto_if 57 with fail
  go_cut [2] from 55 to 59 (fun s1 wx => s1 = .string d ∧ wx = w4b)
  case first =>
    by_cases h1 : 64 < data.size
    · have hq := hd.out
      rw [if_pos h1] at hq
      have HQ := Lib.hid hq
      clear hq
      go_wp2_with fail
      go_meet
      exact ⟨by rw [HQ.out], rfl⟩
    · have hq := hd.out
      rw [if_neg h1] at hq
      have HQ := Lib.hid hq
      clear hq
      go_wp2_with fail
      go_meet
      exact ⟨by rw [HQ.out], rfl⟩
  case rest =>
  obtain ⟨rfl, hwc⟩ := hcut
  subst wc
  obtain ⟨mo, hm0⟩ : ∃ q, q = cutB more 64 := ⟨_, rfl⟩
  have hms : Hid (mo.size ≤ 64) := Lib.hid (by rw [hm0]; exact cutB_size _ _)
  unfold cutB at hm0
  have hm := Lib.hid hm0
  clear hm0
  go_upto_if 62 with fail
  go_cut [4] from 60 to 64 (fun s1 wx => s1 = .string mo ∧ wx = w4b)
  case first =>
    by_cases h1 : 64 < more.size
    · have hq := hm.out
      rw [if_pos h1] at hq
      have HQ := Lib.hid hq
      clear hq
      go_wp2_with fail
      go_meet
      exact ⟨by rw [HQ.out], rfl⟩
    · have hq := hm.out
      rw [if_neg h1] at hq
      have HQ := Lib.hid hq
      clear hq
      go_wp2_with fail
      go_meet
      exact ⟨by rw [HQ.out], rfl⟩
  case rest =>
  obtain ⟨rfl, hwc⟩ := hcut
  subst wc
  clear ero0
  obtain ⟨R4, hR4⟩ : ∃ T, T = Pz.doA R3.1 1 4 [] [] 0 0 off 0 d.data.toList := ⟨_, rfl⟩
  have HG4 : Hid (Pz.Good 209 R4.1 ∧ Pz.Few R4.1) := Lib.hid (by rw [hR4]; exact Pz.do_good HG3.out.1 HG3.out.2 _ _ _ _ _ _ _ _ _)
  have HD4 := Lib.hid (Pz.do_write HT.out [] [] 0 off 0 d.data.toList)
  rw [← hR4] at HD4
  have HR4 := Lib.hid hR4
  clear hR4
  go_wp2_with fail
  refine (do_alone HA4.out 1 4 0 0 off 0 ⟨#[]⟩ ⟨#[]⟩ d i64_1 i64_0 (by decide) (by decide) (HG3.out.1.mono (by omega)) R4 HR4.out.symm).mono ?_
  rintro e w5a ⟨A5, c5, F5, rfl, -, hA, hM⟩
  obtain ⟨rx, hrx⟩ : ∃ zq, zq = (R4).2 := ⟨_, rfl⟩
  rw [← hrx]
  have HQrx := Lib.hid hrx
  obtain ⟨w5b, hw⟩ : ∃ v, v = w5a.alloc (.cells (repC rx A5 c5) 35) := ⟨_, rfl⟩
  have hb : Below w5a.heap.size w5a w5b := by rw [hw]; exact (Below.refl _ _).alloc (Nat.le_refl _) _
  have HA5 := Lib.hid (hA.keep hb)
  have Mrx5 : Hid (Mine F5 w5a.heap.size (.cells (repC rx A5 c5) 35 (0, 0)) w5b) := Lib.hid (by rw [hw]; exact Mine.make hA _ _)
  unfold repC at hw
  have HW5 := Lib.hid hw
  clear hA hM hb hw hrx
  unfold repV
  go_upto_region 15 with fail
  rw [← HW5.out]
  rw [← HQrx.out] at HD4
  obtain ⟨erx0, _, _, _, _, _, _⟩ := Mrx5.out.rep
  obtain ⟨b, hb⟩ : ∃ b : Bool, (b = true ∧ (rx.errno = 0 ∧ d.data.toList ≠ [] ∧ 0 ≤ off ∧ off ≤ 256 ∧ off + d.data.toList.length ≤ 256 ∧ Pz.At1 R4.1 S2.N.length (Pz.laid [] off.toNat d.data.toList))) ∨ (b = false ∧ ((rx.errno ≠ 0 ∨ d.data.toList = []) ∧ Pz.At1 R4.1 S2.N.length ([]))) :=
    HD4.out.elim (fun h => ⟨true, Or.inl ⟨rfl, h⟩⟩) fun h => ⟨false, Or.inr ⟨rfl, h⟩⟩
  have Hb := Lib.hid hb
  clear hb
  go_cut [76] from 70 to 76 (fun sb wx => sb = .bool b ∧ wx = w5b)
  case first =>
    rcases Hb.out with ⟨rfl, h0, hne, _⟩ | ⟨rfl, hor, _⟩
    · rw [h0] at erx0
      have hd0 : d.toList.isEmpty = false := by
        rw [Lib.toList_data]
        cases hh : d.data.toList with
        | nil => exact absurd hh hne
        | cons _ _ => rfl
      clear h0 hne
      go_wp2_with fail
      go_meet
      exact ⟨rfl, rfl⟩
    · by_cases h0 : rx.errno = 0
      · have hd : d = ⟨#[]⟩ := by
          rcases hor with h | h
          · exact absurd h0 h
          · cases d
            simp at h
            rw [h]
        rw [h0] at erx0
        have hd0 : d.toList.isEmpty = true := by rw [hd, Lib.toList_data]; rfl
        have HD := Lib.hid hd
        clear hd hor h0
        go_wp2_with fail
        go_meet
        exact ⟨rfl, rfl⟩
      · clear hor
        go_wp2_with fail
        go_meet
        exact ⟨rfl, rfl⟩
  case rest =>
  obtain ⟨rfl, hwc⟩ := hcut
  subst wc
  clear erx0
  go_upto_if 76 with fail
  go_cut [19] from 77 to 80 (fun s19 wx => ∃ X : ByteArray, s19 = .string X ∧ Hid (Pz.At1 R4.1 S2.N.length X.data.toList) ∧ wx = w5b)
  case first =>
    rcases Hb.out with ⟨rfl, h0, hne, ho0, ho1, ho2, hat⟩ | ⟨rfl, hor, hat⟩
    · obtain ⟨on, rfl⟩ : ∃ on : Nat, off = on := ⟨off.toNat, by omega⟩
      have hnz := str_ne hne
      have hds := hds.out
      have HH := Lib.hid (And.intro (show on ≤ 256 by omega) hat)
      have HN := Lib.hid hne
      clear h0 hne hat ho0 ho1 ho2
      go_wp2_with fail
      refine (rsized_q ⟨#[]⟩ on (by decide) (by have := HH.out.1; omega) _).mono ?_
      rintro e wq ⟨rfl, rfl⟩
      obtain ⟨u, hu⟩ : ∃ u : ByteArray, u = ⟨(Pz.sized (⟨#[]⟩ : ByteArray).data.toList on).toArray⟩ := ⟨_, rfl⟩
      rw [← hu]
      have Hu : Hid (u.data.toList = Pz.sized [] on) := Lib.hid (by rw [hu])
      have hus : u.size ≤ 256 := by rw [Lib.size_eq, Hu.out, Pz.sized_len]; exact HH.out.1
      have hc1 : ¬ 9223372036854775807 < u.size + d.size := by omega
      clear hu
      go_wp2_with fail
      go_meet
      refine ⟨u ++ d, rfl, Lib.hid ?_, rfl⟩
      rw [ba_app, Hu.out]
      have := HH.out.2
      unfold Pz.laid at this
      rw [Int.toNat_natCast, List.drop_nil, List.append_nil] at this
      exact this
    · have HAt := Lib.hid hat
      clear hor hat
      go_wp2_with fail
      go_meet
      exact ⟨⟨#[]⟩, rfl, HAt, rfl⟩
  case rest =>
  obtain ⟨X, rfl, HX, hwc⟩ := hcut
  subst wc
  obtain ⟨R5, hR5⟩ : ∃ T, T = Pz.doA R4.1 1 4 [] [] 0 0 pos 0 mo.data.toList := ⟨_, rfl⟩
  have HG5 : Hid (Pz.Good 212 R5.1 ∧ Pz.Few R5.1) := Lib.hid (by rw [hR5]; exact Pz.do_good HG4.out.1 HG4.out.2 _ _ _ _ _ _ _ _ _)
  have HD5 := Lib.hid (Pz.do_write HX.out [] [] 0 pos 0 mo.data.toList)
  have hXs : X.size ≤ 256 := by rw [Lib.size_eq]; exact HX.out.len HG4.out.1
  rw [← hR5] at HD5
  have HR5 := Lib.hid hR5
  clear hR5
  go_wp2_with fail
  refine (do_alone HA5.out 1 4 0 0 pos 0 ⟨#[]⟩ ⟨#[]⟩ mo i64_1 i64_0 (by decide) (by decide) (HG4.out.1.mono (by omega)) R5 HR5.out.symm).mono ?_
  rintro e w6a ⟨A6, c6, F6, rfl, -, hA, hM⟩
  obtain ⟨ry, hry⟩ : ∃ zq, zq = (R5).2 := ⟨_, rfl⟩
  rw [← hry]
  have HQry := Lib.hid hry
  obtain ⟨w6b, hw⟩ : ∃ v, v = w6a.alloc (.cells (repC ry A6 c6) 35) := ⟨_, rfl⟩
  have hb : Below w6a.heap.size w6a w6b := by rw [hw]; exact (Below.refl _ _).alloc (Nat.le_refl _) _
  have HA6 := Lib.hid (hA.keep hb)
  have Mry6 : Hid (Mine F6 w6a.heap.size (.cells (repC ry A6 c6) 35 (0, 0)) w6b) := Lib.hid (by rw [hw]; exact Mine.make hA _ _)
  unfold repC at hw
  have HW6 := Lib.hid hw
  clear hA hM hb hw hry
  unfold repV
  go_upto_region 18 with fail
  rw [← HW6.out]
  rw [← HQry.out] at HD5
  obtain ⟨ery0, _, _, _, _, _, _⟩ := Mry6.out.rep
  obtain ⟨b, hb⟩ : ∃ b : Bool, (b = true ∧ (ry.errno = 0 ∧ mo.data.toList ≠ [] ∧ 0 ≤ pos ∧ pos ≤ 256 ∧ pos + mo.data.toList.length ≤ 256 ∧ Pz.At1 R5.1 S2.N.length (Pz.laid X.data.toList pos.toNat mo.data.toList))) ∨ (b = false ∧ ((ry.errno ≠ 0 ∨ mo.data.toList = []) ∧ Pz.At1 R5.1 S2.N.length (X.data.toList))) :=
    HD5.out.elim (fun h => ⟨true, Or.inl ⟨rfl, h⟩⟩) fun h => ⟨false, Or.inr ⟨rfl, h⟩⟩
  have Hb := Lib.hid hb
  clear hb
  go_cut [92] from 86 to 92 (fun sb wx => sb = .bool b ∧ wx = w6b)
  case first =>
    rcases Hb.out with ⟨rfl, h0, hne, _⟩ | ⟨rfl, hor, _⟩
    · rw [h0] at ery0
      have hd0 : mo.toList.isEmpty = false := by
        rw [Lib.toList_data]
        cases hh : mo.data.toList with
        | nil => exact absurd hh hne
        | cons _ _ => rfl
      clear h0 hne
      go_wp2_with fail
      go_meet
      exact ⟨rfl, rfl⟩
    · by_cases h0 : ry.errno = 0
      · have hd : mo = ⟨#[]⟩ := by
          rcases hor with h | h
          · exact absurd h0 h
          · cases mo
            simp at h
            rw [h]
        rw [h0] at ery0
        have hd0 : mo.toList.isEmpty = true := by rw [hd, Lib.toList_data]; rfl
        have HD := Lib.hid hd
        clear hd hor h0
        go_wp2_with fail
        go_meet
        exact ⟨rfl, rfl⟩
      · clear hor
        go_wp2_with fail
        go_meet
        exact ⟨rfl, rfl⟩
  case rest =>
  obtain ⟨rfl, hwc⟩ := hcut
  subst wc
  clear ery0
  go_upto_if 92 with fail
  go_cut [19, 22] from 93 to 112 (fun s19 s22 wx => ∃ Y : ByteArray, s19 = .string Y ∧ Hid (Pz.At1 R5.1 S2.N.length Y.data.toList) ∧ wx = w6b)
  case first =>
    rcases Hb.out with ⟨rfl, h0, hne, ho0, ho1, ho2, hat⟩ | ⟨rfl, hor, hat⟩
    · obtain ⟨on, rfl⟩ : ∃ on : Nat, pos = on := ⟨pos.toNat, by omega⟩
      have hnz := str_ne hne
      have hms := hms.out
      have hon : on ≤ 256 := by omega
      have HH := Lib.hid hat
      have HN := Lib.hid hne
      have hlen : 0 ≤ (on : Int) + mo.size := by omega
      clear h0 hne hat ho0 ho1 ho2
      obtain ⟨u, hu⟩ : ∃ u : ByteArray, u = ⟨(Pz.sized X.data.toList on).toArray⟩ := ⟨_, rfl⟩
      have Hu : Hid (u.data.toList = Pz.sized X.data.toList on) := Lib.hid (by rw [hu])
      have hus : u.size ≤ 256 := by rw [Lib.size_eq, Hu.out, Pz.sized_len]; exact hon
      have HS := Lib.hid (rsized_q X on (by omega) (by omega))
      rw [← hu] at HS
      clear hu
      have hc1 : ¬ 9223372036854775807 < u.size + mo.size := by omega
      by_cases h6 : on + mo.size < X.size
      · have h6' : (on : Int) + mo.size < X.size := by omega
        have hts : (X.extract (on + mo.size) X.size).size ≤ 256 := by rw [Lib.size_eq, ba_tail, List.length_drop, ← Lib.size_eq]; omega
        have hc2 : ¬ 9223372036854775807 < u.size + mo.size + (X.extract (on + mo.size) X.size).size := by omega
        have hc3 : ¬ 9223372036854775807 < u.size + mo.size + (X.size - (on + mo.size)) := by omega
        go_wp2_with fail
        refine (HS.out _).mono ?_
        rintro e wq ⟨rfl, rfl⟩
        go_wp2_with fail
        go_meet
        refine ⟨_, rfl, Lib.hid ?_, rfl⟩
        rw [ba_app, ba_app, ba_tail, Hu.out]
        have := HH.out
        unfold Pz.laid at this
        rw [Int.toNat_natCast, ← Lib.size_eq] at this
        exact this
      · have h6' : (X.size : Int) ≤ (on : Int) + mo.size := by omega
        have hc2 : ¬ 9223372036854775807 < u.size + mo.size + (⟨#[]⟩ : ByteArray).size := by show ¬ _ < _ + 0; omega
        go_wp2_with fail
        refine (HS.out _).mono ?_
        rintro e wq ⟨rfl, rfl⟩
        go_wp2_with fail
        go_meet
        refine ⟨_, rfl, Lib.hid ?_, rfl⟩
        rw [ba_app, ba_app, Hu.out]
        have := HH.out
        unfold Pz.laid at this
        rw [Int.toNat_natCast, List.drop_of_length_le (by rw [← Lib.size_eq, ← Lib.size_eq]; omega)] at this
        exact this
    · have HAt := Lib.hid hat
      clear hor hat
      go_wp2_with fail
      go_meet
      exact ⟨X, rfl, HAt, rfl⟩
  case rest =>
  obtain ⟨Y, rfl, HY, hwc⟩ := hcut
  subst wc
  have hYs : Y.size ≤ 256 := by rw [Lib.size_eq]; exact HY.out.len HG5.out.1
  obtain ⟨R6, hR6⟩ : ∃ T, T = Pz.doA R5.1 1 3 [] [] 0 0 fro m [] := ⟨_, rfl⟩
  have HD6 := Lib.hid (Pz.do_read HY.out [] [] 0 fro m [])
  rw [← hR6] at HD6
  have HR6 := Lib.hid hR6
  clear hR6
  go_wp2_with fail
  refine (do_alone HA6.out 1 3 0 0 fro m ⟨#[]⟩ ⟨#[]⟩ ⟨#[]⟩ i64_1 i64_0 (by decide) (by decide) (HG5.out.1.mono (by omega)) R6 HR6.out.symm).mono ?_
  rintro e w7a ⟨A7, c7, F7, rfl, -, hA, hM⟩
  obtain ⟨rz, hrz⟩ : ∃ zq, zq = (R6).2 := ⟨_, rfl⟩
  rw [← hrz]
  have HQrz := Lib.hid hrz
  obtain ⟨w7b, hw⟩ : ∃ v, v = w7a.alloc (.cells (repC rz A7 c7) 35) := ⟨_, rfl⟩
  have hb : Below w7a.heap.size w7a w7b := by rw [hw]; exact (Below.refl _ _).alloc (Nat.le_refl _) _
  have HA7 := Lib.hid (hA.keep hb)
  have Mrz7 : Hid (Mine F7 w7a.heap.size (.cells (repC rz A7 c7) 35 (0, 0)) w7b) := Lib.hid (by rw [hw]; exact Mine.make hA _ _)
  unfold repC at hw
  have HW7 := Lib.hid hw
  clear hA hM hb hw hrz
  unfold repV
  go_upto_region 24 with fail
  rw [← HW7.out]
  rw [← HQrz.out] at HD6
  obtain ⟨erz0, _, erz2, _, _, _, _⟩ := Mrz7.out.rep
  by_cases hbad : fro < 0 ∨ m < 0 ∨ 64 < m
  · have h15 : rz.errno = 15 := by
      have := HD6.out
      rw [if_pos hbad] at this
      exact this
    rw [h15] at erz0
    clear h15 HD6
    by_cases b1 : fro < 0
    · clear hbad
      go_wp2_with fail
      refine (lives_any _ HA7.out.real.mxx).mono ?_
      rintro e wz ⟨rfl, hbz⟩
      go_wp2
      go_ret
      exact ⟨rfl, HA7.out.below.trans (hbz.mono HA7.out.below.size)⟩
    · have b1' : 0 ≤ fro := by omega
      by_cases b2 : m < 0
      · clear hbad
        go_wp2_with fail
        refine (lives_any _ HA7.out.real.mxx).mono ?_
        rintro e wz ⟨rfl, hbz⟩
        go_wp2
        go_ret
        exact ⟨rfl, HA7.out.below.trans (hbz.mono HA7.out.below.size)⟩
      · have b2' : 0 ≤ m := by omega
        have b3 : 64 < m := by omega
        clear hbad
        go_wp2_with fail
        refine (lives_any _ HA7.out.real.mxx).mono ?_
        rintro e wz ⟨rfl, hbz⟩
        go_wp2
        go_ret
        exact ⟨rfl, HA7.out.below.trans (hbz.mono HA7.out.below.size)⟩
  · have hz := HD6.out
    rw [if_neg hbad] at hz
    obtain ⟨hz0, hz2⟩ := hz
    rw [hz0] at erz0
    rw [hz2] at erz2
    obtain ⟨fr, rfl⟩ : ∃ fr : Nat, fro = fr := ⟨fro.toNat, by omega⟩
    obtain ⟨mm, rfl⟩ : ∃ mm : Nat, m = mm := ⟨m.toNat, by omega⟩
    have hm64 : mm ≤ 64 := by omega
    have hm64' : (mm : Int) ≤ 64 := by omega
    rw [Int.toNat_natCast, Int.toNat_natCast] at erz2
    clear hz0 hz2 hbad HD6
    go_upto_if 137 with fail
    go_cut [24] from 134 to 140 (fun s24 wx => ∃ Z : ByteArray, s24 = .string Z ∧ Hid (Z.data.toList = Y.data.toList.drop fr) ∧ wx = w7b)
    case first =>
      by_cases h1 : fr < Y.size
      · have h1' : (fr : Int) < Y.size := by omega
        have h2' : fr ≤ Y.size := by omega
        go_wp2_with fail
        go_meet
        exact ⟨_, rfl, Lib.hid (ba_tail _ _), rfl⟩
      · have h1' : (Y.size : Int) ≤ fr := by omega
        go_wp2_with fail
        go_meet
        exact ⟨⟨#[]⟩, rfl, Lib.hid (by rw [List.drop_of_length_le (by rw [← Lib.size_eq]; omega)]), rfl⟩
    case rest =>
    obtain ⟨Z, rfl, HZ, hwc⟩ := hcut
    subst wc
    have hZs : Z.size ≤ 256 := by rw [Lib.size_eq, HZ.out, List.length_drop, ← Lib.size_eq]; omega
    go_upto_if 144 with fail
    go_cut [24] from 141 to 147 (fun s24 wx => s24 = .string ⟨((Y.data.toList.drop fr).take mm).toArray⟩ ∧ wx = w7b)
    case first =>
      by_cases h1 : mm < Z.size
      · have h1' : (mm : Int) < Z.size := by omega
        have h2' : mm ≤ Z.size := by omega
        go_wp2_with fail
        go_meet
        exact ⟨by rw [← HZ.out, ← ba_head, ba_mk], rfl⟩
      · have h1' : (Z.size : Int) ≤ mm := by omega
        go_wp2_with fail
        go_meet
        exact ⟨by rw [← HZ.out, List.take_of_length_le (by rw [← Lib.size_eq]; omega), ba_mk], rfl⟩
    case rest =>
    obtain ⟨rfl, hwc⟩ := hcut
    subst wc
    go_wp2_with fail
    refine (lives_any _ HA7.out.real.mxx).mono ?_
    rintro e wz ⟨rfl, hbz⟩
    go_wp2
    go_ret
    exact ⟨rfl, HA7.out.below.trans (hbz.mono HA7.out.below.size)⟩

end Go.Proofs.YtiepdioaidglmaaGreatDoor
