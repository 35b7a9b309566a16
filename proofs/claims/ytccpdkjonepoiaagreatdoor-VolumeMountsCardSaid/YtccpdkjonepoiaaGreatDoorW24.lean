/- Walk: commonslaw17: VolumeMounts. -/
import Derived.Test.YtccpdkjonepoiaaGreatDoorW23
import Derived.Test.YtccpdkjonepoiaaGreatDoorW16
set_option linter.unusedVariables false
set_option linter.unusedSimpArgs false
set_option linter.unusedSectionVars false
namespace Go.Proofs.YtccpdkjonepoiaaGreatDoor
open Go.RowKit Go.Shelf

attribute [local go_sem] Oper.semAt_some

set_option maxHeartbeats 8000000 in
set_option maxRecDepth 100000 in
theorem law_vmounts (size : Int) (A : Option Addr) (L : List UInt8) (c : Nat) (k : Int) (w : World) (hsz : I64 size) (hc : L.length ≤ c ∧ c ≤ 9223372036854775807) (hL : RawB w A L) (hk : I64 k) (hM : Mx w) :
    Calls Tryz.prog 3 #[.int .i64 size, .slice A L.length c, .int .i64 k] w fun e w' => e = .returned (.bool true) ∧ Below w.heap.size w w' := by
  have HMx := Lib.hid hM
  have HL := Lib.hid hL
  have hk2 := hk.lo
  obtain ⟨hk3, hk4⟩ := hk2
  have hs2 := hsz.lo
  obtain ⟨hs3, hs4⟩ := hs2
  obtain ⟨N, hN⟩ : ∃ N, N = L.length := ⟨_, rfl⟩
  rw [← hN] at hc ⊢
  obtain ⟨hc1, hc2⟩ := hc
  have HN := Lib.hid hN
  clear hL hM hN hsz
  go_enter Tryz.func3, Tryz.ntmps3
  go_upto_if 27 with fail
  go_cut [0] from 28 to 29 (fun z wx => (∃ q : Int, z = .int .i64 q ∧ q ≤ 30000 ∧ -9223372036854775808 ≤ q) ∧ wx = w)
  case first =>
    by_cases h1 : size > 30000
    · go_wp2_with fail
      go_meet
      exact ⟨⟨size % 30001, rfl, by omega, by omega⟩, rfl⟩
    · go_wp2_with fail
      go_meet
      exact ⟨⟨size, rfl, by omega, hs3⟩, rfl⟩
  case rest =>
  obtain ⟨⟨q, rfl, hq1, hq2⟩, hwc⟩ := hcut
  subst wc
  have HNw := Lib.hid (pnew_gen q hq1 w)
  clear hs3 hs4
  go_wp2_with fail
  refine HNw.out.mono ?_
  rintro e w1 ⟨nv, rfl, hb1, hn1⟩
  have HB1 := Lib.hid hb1
  have HMq := Lib.hid (vmount_all q nv w1 hb1 hn1)
  clear hb1 hn1 HNw
  go_wp2_with fail
  refine HMq.out.mono ?_
  rintro e w2 ⟨xv, ev, rfl, hb2, hfm⟩
  have HB2 := Lib.hid hb2
  have HFm := Lib.hid hfm
  clear hb2 hfm HMq
  go_upto_region 5 with fail
  go_cut [51] from 37 to 51 (fun z wx => z = .bool false ∧ Hid (Below w.heap.size w wx))
  case first =>
    by_cases hq : q = 23168
    · go_wp2_with fail
      go_meet
      exact ⟨rfl, HB2⟩
    · obtain ⟨rfl, rfl, hF⟩ := HFm.out hq
      have HF := Lib.hid hF
      clear hF
      go_wp2_with fail
      refine HF.out.mono ?_
      rintro e w3 ⟨rfl, hb3⟩
      have HB3 := Lib.hid (HB2.out.trans (hb3.mono HB2.out.size))
      clear hb3
      go_wp2_with fail
      go_meet
      exact ⟨rfl, HB3⟩
  case rest =>
  obtain ⟨rfl, HBc⟩ := hcut
  obtain ⟨w4, rfl⟩ : ∃ v, v = wc := ⟨_, rfl⟩
  have HM4 : Hid (Mx w4) := Lib.hid (HMx.out.under HBc.out)
  have HBg := Lib.hid (begin17_any w4 HM4.out)
  clear HFm HB1 HB2 hq1 hq2
  go_wp2_with fail
  refine HBg.out.mono ?_
  rintro e w5 ⟨mn, p, rfl, o, x, t, f, r, S, M, hV, -⟩
  have hm5 := hV.mst
  have HS : Hid (S.length = 23168) := Lib.hid (by have := hV.2.1.len; exact this)
  have H5 := Lib.hid hm5
  have HB5 := Lib.hid (HBc.out.trans (hm5.belowW.mono HBc.out.size))
  clear hV hm5 HBg
  go_upto_if 56 with fail
  go_cut [2] from 57 to 59 (fun z wx => (∃ q : Nat, z = .int .i64 q) ∧ wx = w5)
  case first =>
    by_cases h1 : k < 0
    · go_wp2_with fail
      go_meet
      exact ⟨⟨(-(k + 1)).toNat, by congr 1; omega⟩, rfl⟩
    · go_wp2_with fail
      go_meet
      exact ⟨⟨k.toNat, by congr 1; omega⟩, rfl⟩
  case rest =>
  obtain ⟨⟨at_, rfl⟩, hwc⟩ := hcut
  subst wc
  clear hk hk3 hk4
  go_upto_if 62 with fail
  go_cut [1] from 63 to 64 (fun z wx => (∃ X : List UInt8, z = .slice A X.length c ∧ Hid (RawB w A X) ∧ X.length ≤ 200) ∧ wx = w5)
  case first =>
    by_cases h1 : 200 < N
    · have h2 : (200 : Int) < N := by omega
      have h3 : (200 : Int) ≤ c := by omega
      go_wp2_with fail
      go_meet
      refine ⟨⟨L.take 200, ?_, Lib.hid (HL.out.take 200), by rw [List.length_take]; omega⟩, rfl⟩
      rw [List.length_take, ← HN.out, Nat.min_eq_left (by omega)]
    · have h2 : ¬ (200 : Int) < N := by omega
      go_wp2_with fail
      go_meet
      exact ⟨⟨L, by rw [← HN.out], HL, by rw [← HN.out]; omega⟩, rfl⟩
  case rest =>
  obtain ⟨⟨X, rfl, HX, hX⟩, hwc⟩ := hcut
  subst wc
  have HLs := Lib.hid (lasting_any H5.out (List.mem_cons_self ..) (at_ % 22900) A X c (HX.out.keep HB5.out) (fun hne g o hg => by
    rcases HX.out with e | ⟨b, o', h1, h2, _⟩
    · exact absurd e hne
    · rw [h1] at hg
      cases hg
      exact Nat.lt_of_lt_of_le h2 HBc.out.size) (by have := HS.out; have := Nat.mod_lt at_ (show 0 < 22900 by omega); omega) (by omega) (by omega))
  rw [show ((at_ % 22900 : Nat) : Int) = (at_ : Int) % 22900 by omega] at HLs
  have HS6 : Hid ((Gd.splice S (at_ % 22900) X).length = 23168) := Lib.hid (by
    have := Nat.mod_lt at_ (show 0 < 22900 by omega)
    rw [Gd.splice_length (by have := HS.out; omega)]
    exact HS.out)
  obtain ⟨l, hl⟩ : ∃ l, l = X.length := ⟨_, rfl⟩
  rw [← hl] at HLs
  have hX2 : (l : Int) ≤ 200 := by omega
  rw [← hl]
  obtain ⟨S6, hS6⟩ : ∃ S6, S6 = Gd.splice S (at_ % 22900) X := ⟨_, rfl⟩
  rw [← hS6] at HLs HS6
  clear hX hl hS6 H5 HX hc1 hc2 HL HN
  go_upto_region 15 with (go_at_call 13; refine HLs.out.mono ?_; rintro e w6 ⟨rfl, h6⟩)
  have HMo := Lib.hid (vmount_gen h6 HS6.out (by omega))
  have hg6 := h6.get (List.mem_cons_self ..)
  obtain ⟨c0, c1, c2⟩ := cell2 hg6
  clear h6 hg6 HLs
  go_wp2_with fail
  refine HMo.out.mono ?_
  rintro e w7 ⟨S7, hl7, he7, -, ⟨hs7, o7, x7, t7, f7, rfl, h7⟩ | ⟨-, rfl, h7⟩⟩
  rotate_left
  · have HB7 := Lib.hid (HBc.out.trans (h7.belowW.mono HBc.out.size))
    have HLi := Lib.hid (lives17_any w7)
    clear h7 c0 c1 c2 HMo hl7 he7
    go_wp2_with fail
    refine HLi.out.mono ?_
    rintro e w8 ⟨rfl, hb8⟩
    have HB8 := Lib.hid (HB7.out.trans (hb8.mono HB7.out.size))
    clear hb8
    go_wp2
    go_ret
    exact ⟨rfl, HB8.out⟩
  have H7 := Lib.hid h7
  have HS7 := Lib.hid (And.intro hl7 (And.intro he7 hs7))
  clear h7 hl7 he7 hs7 HMo c0 c1 c2
  go_upto_region 20 with fail
  go_wp2
  go_loopw [13, 14, 15] (fun z _ _ wr => ∃ i : Nat, z = .int .i64 ((i + 1 : Nat) : Int) ∧ i ≤ 32 ∧ Hid (Vp o7 x7 t7 f7 S7 [] 0 (665100000 + 20000 + 654100000) w4 wr [(p, oPairV o r)])) (fun z _ _ _ => 33 - (intOf z).toNat)
  case atStart => exact ⟨0, rfl, by omega, H7⟩
  case round =>
    obtain ⟨i, rfl, hi, Hr⟩ := hrel
    by_cases hlt : i < 32
    · have hlt' : (i : Int) + 1 ≤ 32 := by omega
      have hi0 : (0 : Int) ≤ i := by omega
      have HMe := Lib.hid (vmeta_any wr Hr.out.vol)
      have HIn := Lib.hid (Hr.out.inode (i + 1) (by omega) (by omega) HS7.out.2.2)
      rw [show ((i + 1 : Nat) : Int) = (i : Int) + 1 by omega] at *
      clear hlt
      go_wp2_with fail
      refine HMe.out.mono ?_
      rintro e w9 ⟨rfl, rfl⟩
      clear HMe
      go_wp2_with fail
      refine HIn.out.mono ?_
      rintro e w2 ⟨y, rfl, hs, hy, hb2⟩
      have HS := Lib.hid (inoC_size hs)
      have Hy := Lib.hid hy
      have H2 := Lib.hid (Hr.out.below hb2)
      clear hs hy hb2 HIn
      unfold inoV
      obtain ⟨w3, hw3⟩ : ∃ u, u = (w2.alloc (.cells #[.int .i64 0, .int .i64 0, .int .i64 0, .int .i64 0, .int .i64 0, .int .i64 0, .int .i64 0, .int .i64 0, .int .i64 0, .int .i64 0, .int .i64 0, .int .i64 0, .int .i64 0, .int .i64 0, .int .i64 0] 40)) := ⟨_, rfl⟩
      have hb3 : Below w2.heap.size w2 w3 := by rw [hw3]; exact (Below.refl _ _).alloc (Nat.le_refl _) _
      have hn3 : w3.heap[w2.heap.size]? = some (.cells zIno 40 (0, 0)) := by rw [hw3]; exact heap_alloc_new _ _
      obtain ⟨b, hbe⟩ : ∃ b, b = w2.heap.size := ⟨_, rfl⟩
      rw [← hbe] at hn3
      have HN3 := Lib.hid hn3
      have HB3 := Lib.hid hb3
      have Hbe := Lib.hid hbe.symm
      have HW3 := Lib.hid hw3.symm
      clear hw3 hb3 hn3 hbe
      go_upto_region 24 with (refine wpList_store_mid rfl 40 _ _ rfl b 0 (inoC y) (by rw [← Hbe.out]; rfl) rfl (by rw [show w2.alloc (.cells #[.int .i64 0, .int .i64 0, .int .i64 0, .int .i64 0, .int .i64 0, .int .i64 0, .int .i64 0, .int .i64 0, .int .i64 0, .int .i64 0, .int .i64 0, .int .i64 0, .int .i64 0, .int .i64 0, .int .i64 0] 40) = w3 from HW3.out]; exact there_at HN3.out (by first | rfl | (rw [HS.out]; rfl))) (by first | exact Tryz.sizeSlot | (rw [HS.out]; exact Tryz.sizeIno)) (by first | exact slotC_one _ | exact inoC_one _) ?_; rw [HW3.out]; obtain ⟨hbw, hbg⟩ := whole_at HN3.out (vs := ((inoC y)).toList) (B := b) (by first | rfl | (rw [Array.length_toList, HS.out]; rfl)) (Nat.le_refl b); generalize (World.setCells _ _ _ _) = w4' at hbw hbg ⊢; have HG4 := Lib.hid hbg; have HB4 := Lib.hid (HB3.out.trans (hbw.mono (by rw [Hbe.out]; exact Nat.le_refl _))); clear hbw hbg)
      have x4 : w4'.cell? ⟨w2.heap.size, 0, none⟩ = some (.int .i64 y.k) := by rw [Hbe.out]; exact (cell_of_row w4' b 0 _ _ _ HG4.out).trans (inoC_get rfl)
      have H4 := Lib.hid (H2.out.below HB4.out)
      by_cases hz : i = 0
      · subst hz
        have hk := Hy.out rfl
        have hkb : (y.k != 2) = false := by simp [hk]
        clear hk
        go_wp2
        go_roundw
        case rel => exact ⟨0 + 1, by go_num, by omega, H4⟩
        case measure => simp [intOf]
      · have hz1 : ¬ (i : Int) + 1 = 1 := by omega
        have hzb : ((i : Int) + 1 == 1) = false := by simp [hz1]
        have Hz := Lib.hid hz
        clear hz
        go_wp2
        go_roundw
        case rel => exact ⟨i + 1, by go_num, by omega, H4⟩
        case measure => simp [intOf]; omega
    · obtain rfl : i = 32 := by omega
      clear hlt hi
      rw [show ((32 + 1 : Nat) : Int) = 33 from rfl]
      go_upto_region 26 with fail
      obtain ⟨w9, rfl⟩ : ∃ v, v = wr := ⟨_, rfl⟩
      have H9 := Hr
      clear Hr
      go_wp2
      go_loopw [16, 17, 18] (fun z _ _ wr => ∃ i : Nat, z = .int .i64 ((i + 1 : Nat) : Int) ∧ i ≤ 8 ∧ Hid (Vp o7 x7 t7 f7 S7 [] 0 (665100000 + 20000 + 654100000) w4 wr [(p, oPairV o r)])) (fun z _ _ _ => 9 - (intOf z).toNat)
      case atStart => exact ⟨0, rfl, by omega, H9⟩
      case round =>
        obtain ⟨i, rfl, hi, Hr⟩ := hrel
        by_cases hlt : i < 8
        · have hlt' : (i : Int) + 1 ≤ 8 := by omega
          have hi0 : (0 : Int) ≤ i := by omega
          have HIn := Lib.hid (Hr.out.slots (i + 1) (by omega) (by omega) HS7.out.2.2)
          rw [show ((i + 1 : Nat) : Int) = (i : Int) + 1 by omega] at *
          clear hlt
          go_wp2_with fail
          refine HIn.out.mono ?_
          rintro e w2 ⟨s, rfl, hb2⟩
          have H2 := Lib.hid (Hr.out.below hb2)
          clear hb2 HIn
          unfold slotV
          obtain ⟨w3, hw3⟩ : ∃ u, u = (w2.alloc (.cells #[.int .i64 0, .int .i64 0, .int .i64 0, .int .i64 0, .int .i64 0, .int .i64 0] 48)) := ⟨_, rfl⟩
          have hb3 : Below w2.heap.size w2 w3 := by rw [hw3]; exact (Below.refl _ _).alloc (Nat.le_refl _) _
          have hn3 : w3.heap[w2.heap.size]? = some (.cells (slotC ⟨0, 0, 0, 0, 0, 0⟩) 48 (0, 0)) := by rw [hw3]; exact heap_alloc_new _ _
          obtain ⟨b, hbe⟩ : ∃ b, b = w2.heap.size := ⟨_, rfl⟩
          rw [← hbe] at hn3
          have HN3 := Lib.hid hn3
          have HB3 := Lib.hid hb3
          have Hbe := Lib.hid hbe.symm
          have HW3 := Lib.hid hw3.symm
          clear hw3 hb3 hn3 hbe
          go_wp2_with (refine wpList_store_mid rfl 48 _ _ rfl b 0 (slotC s) (by rw [← Hbe.out]; rfl) rfl (by rw [show w2.alloc (.cells #[.int .i64 0, .int .i64 0, .int .i64 0, .int .i64 0, .int .i64 0, .int .i64 0] 48) = w3 from HW3.out]; exact there_at HN3.out (by first | rfl | (rw [rfl]; rfl))) (by first | exact Tryz.sizeSlot | (rw [rfl]; exact Tryz.sizeIno)) (by first | exact slotC_one _ | exact inoC_one _) ?_; rw [HW3.out]; obtain ⟨hbw, hbg⟩ := whole_at HN3.out (vs := ((slotC s)).toList) (B := b) (by first | rfl | (rw [Array.length_toList, rfl]; rfl)) (Nat.le_refl b); generalize (World.setCells _ _ _ _) = w4' at hbw hbg ⊢; have HG4 := Lib.hid hbg; have HB4 := Lib.hid (HB3.out.trans (hbw.mono (by rw [Hbe.out]; exact Nat.le_refl _))); clear hbw hbg)
          have H4 := Lib.hid (H2.out.below HB4.out)
          go_roundw
          case rel => exact ⟨i + 1, by go_num, by omega, H4⟩
          case measure => simp [intOf]; omega
        · obtain rfl : i = 8 := by omega
          clear hlt hi
          rw [show ((8 + 1 : Nat) : Int) = 9 from rfl]
          have hg := Hr.out.get (List.mem_cons_self ..)
          obtain ⟨c0, c1, c2⟩ := cell2 hg
          have HLd := Lib.hid (Hr.out.mst.loads HS7.out.1)
          clear hg
          go_wp2_with fail
          refine HLd.out.mono ?_
          rintro e w10 ⟨v1, rfl, ho1, hb1⟩
          obtain ⟨g, cap, ob, rfl, hg, hgo, hW⟩ := ho1.box (fun e => by have h := HS7.out.1; rw [e] at h; cases h)
          have hm := Hr.out.mst.new hb1 hg hgo
          have HW := Lib.hid hW
          have HMo := Lib.hid (vmount_gen hm HS7.out.1 (by omega))
          have hg := hm.get (List.mem_cons_of_mem _ (List.mem_cons_self ..))
          obtain ⟨d0, d1, d2⟩ := cell2 hg
          clear hm hg hgo hW ho1 hb1 HLd c0 c1 c2
          go_wp2_with fail
          refine HMo.out.mono ?_
          rintro e w11 ⟨S8, -, -, hs8, hor⟩
          obtain rfl := hs8 HS7.out.2.1
          rcases hor with ⟨-, o8, x8, t8, f8, rfl, h8⟩ | ⟨hno, -⟩
          rotate_left
          · exact absurd HS7.out.2.2 hno
          have hg := h8.get (List.mem_cons_of_mem _ (List.mem_cons_self ..))
          obtain ⟨b0, b1, b2⟩ := cell2 hg
          have H8 := Lib.hid h8
          have HLd := Lib.hid (h8.mst.loads HS7.out.1)
          clear h8 hg hs8 HMo d0 d1 d2
          go_wp2_with fail
          refine HLd.out.mono ?_
          rintro e w12 ⟨v2, rfl, ho2, hb2⟩
          have h12 := H8.out.below hb2
          have HSm := Lib.hid (bsame_any _ v2 S8 w12 (HW.out w12 (h12.get (List.mem_cons_self ..))) ho2.at_ (by have := HS7.out.1; omega))
          have HB12 := Lib.hid (HBc.out.trans (h12.belowW.mono HBc.out.size))
          clear h12 ho2 hb2 HLd b0 b1 b2
          go_wp2_with fail
          refine HSm.out.mono ?_
          rintro e w13 ⟨rfl, hb13⟩
          have HB13 := Lib.hid (HB12.out.trans (hb13.mono HB12.out.size))
          have HLi := Lib.hid (lives17_any w13)
          clear hb13 HSm
          go_wp2_with fail
          refine HLi.out.mono ?_
          rintro e w14 ⟨rfl, hb14⟩
          have HB14 := Lib.hid (HB13.out.trans (hb14.mono HB13.out.size))
          clear hb14 HLi
          go_wp2
          go_ret
          exact ⟨rfl, HB14.out⟩

end Go.Proofs.YtccpdkjonepoiaaGreatDoor
