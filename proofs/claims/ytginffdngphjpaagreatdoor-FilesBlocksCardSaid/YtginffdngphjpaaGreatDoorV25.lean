/- Walks: commonslaw15: FilesBlocks. -/
import Derived.Test.YtginffdngphjpaaGreatDoorV24
import Derived.BigQuiet
import Derived.Deep.QuietTactic
import Derived.Deep.Slices
import Derived.Deep.Fields
import Derived.ChangeSame
import Derived.Deep.RegionHeld3
set_option linter.unusedVariables false
set_option linter.unusedSimpArgs false
namespace Go.Proofs.YtginffdngphjpaaGreatDoor
open Go.RowKit Go.Shelf

attribute [local go_sem] Oper.semAt_some

def rootB : Gd.Ino := Gd.rootN 3 [2, 0, 0, 1]
theorem rootB_shape : rootB.Shape := ⟨rfl, rfl⟩
theorem own_step : ∀ k : Fin 4, ∃ n : Int, rootB.B[k.val]? = some n ∧ Gd.nz (rootB.B.take (k.val + 1)) = Gd.nz (rootB.B.take k.val) + (if n = 0 then 0 else 1) ∧ Gd.nz (rootB.B.take k.val) ≤ 4 := by
  intro k
  match k with
  | 0 => exact ⟨2, by decide⟩
  | 1 => exact ⟨0, by decide⟩
  | 2 => exact ⟨0, by decide⟩
  | 3 => exact ⟨1, by decide⟩
theorem own_all : Gd.nz (rootB.B.take 4) = 2 := by decide

set_option maxHeartbeats 8000000 in
set_option maxRecDepth 100000 in
theorem law_blocks (A : Option Addr) (n c : Nat) (A' : Option Addr) (n' c' : Nat) (w : World) (hR : Raw w A n c) (hR' : Raw w A' n' c') (hM : Mx w) :
    Calls Tryz.prog 5 #[.slice A n c, .slice A' n' c'] w fun e w' => e = .returned (.bool true) ∧ Below w.heap.size w w' := by
  have HBg := Lib.hid (begun hM)
  have HR := Lib.hid (And.intro hR hR')
  have HS := Lib.hid (inoC_size rootB_shape)
  clear hM hR hR'
  go_enter Tryz.func5, Tryz.ntmps5
  go_wp2_with fail
  refine HBg.out.mono ?_
  rintro e w1 ⟨v, rfl, x, t, f, S, M, hT, hF⟩
  have HI := Lib.hid (hT.fino 1 (by omega) (by omega))
  rw [show ((1 : Int)).toNat = 1 from rfl, hF.root, show Gd.rootN 3 [2, 0, 0, 1] = rootB from rfl] at HI
  obtain ⟨_, v1, _⟩ := vol_cells (hT.get (k := v) (o := oVol t x f) (by simp))
  have HT := Lib.hid hT
  have HF := Lib.hid hF
  unfold inoV at HI
  clear hT hF HBg
  go_upto_region 7 with (first | (go_at_call 11; refine HI.out.mono ?_; rintro e w2 ⟨rfl, hb2⟩; have HT2 := Lib.hid (HT.out.below hb2); clear hb2) | (rw [← zIno_lit]; refine wpList_store_mid rfl 25 _ _ rfl w2.heap.size 0 (inoC rootB) rfl rfl (there_at (heap_alloc_new _ _) (by rw [zIno_size, HS.out])) (by rw [HS.out]; exact Tryz.sizeIno) (inoC_one _) ?_; obtain ⟨hbw, hbg⟩ := new_whole2 w2 zIno 25 (inoC rootB).toList (by rw [zIno_size, Array.length_toList, HS.out]); generalize (World.setCells _ _ _ _) = w3 at hbw hbg ⊢; have HT3 := Lib.hid (HT2.out.new hbw (Nat.le_refl _) (o := .cells (inoC rootB) 25 (0, 0)) hbg); clear hbw hbg))
  obtain ⟨rb, hrb⟩ : ∃ rb, rb = w2.heap.size := ⟨_, rfl⟩
  rw [← hrb] at HT3 ⊢
  clear hrb v1 HI
  have HIr : Hid (InoAt w3 rb rootB) := Lib.hid ⟨HT3.out.get (k := rb) (by simp), rootB_shape⟩
  go_loopw [8, 9] (fun o z wr => ∃ k : Nat, z = .int .i64 k ∧ o = .int .i64 (Gd.nz (rootB.B.take k)) ∧ k ≤ 4 ∧ wr = w3) (fun _ z _ => 4 - (intOf z).toNat)
  case atStart => exact ⟨0, rfl, rfl, by omega, rfl⟩
  case round =>
    obtain ⟨k, rfl, rfl, hk, rfl⟩ := hrel
    by_cases hlt : k < 4
    · obtain ⟨b, hb, hs, hle⟩ := own_step ⟨k, hlt⟩
      obtain ⟨b0, b1⟩ := HIr.out.cB (k := k) (n := b) hb
      have h4 : (k : Int) < 4 := by omega
      have h0 : (0 : Int) ≤ k := by omega
      obtain ⟨N, hN⟩ : ∃ N, N = Gd.nz (rootB.B.take k) := ⟨_, rfl⟩
      have hs' : Gd.nz (rootB.B.take (k + 1)) = N + (if b = 0 then 0 else 1) := by rw [hN]; exact hs
      have hle' : N ≤ 4 := by rw [hN]; exact hle
      rw [← hN]
      have HSt := Lib.hid hs'
      have Hlt := Lib.hid hlt
      clear hN hs hs' hle hb hlt
      by_cases hb0 : b = 0
      · have HSt := HSt.out
        rw [if_pos hb0] at HSt
        have HSt := Lib.hid HSt
        subst hb0
        go_wp2
        go_roundw
        case rel => exact ⟨k + 1, by go_num, by rw [HSt.out]; rfl, by have := Hlt.out; omega, trivial⟩
        case measure => simp [intOf]; have := Hlt.out; omega
      · have HSt := HSt.out
        rw [if_neg hb0] at HSt
        have HSt := Lib.hid HSt
        go_wp2
        go_roundw
        case rel => exact ⟨k + 1, by go_num, by rw [HSt.out]; go_num, by have := Hlt.out; omega, trivial⟩
        case measure => simp [intOf]; have := Hlt.out; omega
    · obtain rfl : k = 4 := by omega
      rw [own_all]
      clear hlt
      obtain ⟨w4, hw4⟩ : ∃ u, u = wr.alloc (.cells (szC fun _ => []) 3) := ⟨_, rfl⟩
      obtain ⟨sb, hsb⟩ : ∃ sb, sb = wr.heap.size := ⟨_, rfl⟩
      have HT4 : Hid (Tl x t S M 0 4000000 Nof w w4 [(sb, oSz fun _ => []), (v, oVol t x f), (f, oFil t x)]) := Lib.hid (by
        rw [hw4, hsb]
        exact (HT3.out.new ((Below.refl _ _).alloc (Nat.le_refl _) _) (Nat.le_refl _) (heap_alloc_new _ _)).less fun p hp => by
          simp only [List.mem_cons, List.not_mem_nil, or_false] at hp ⊢
          rcases hp with h | h | h
          · exact Or.inl h
          · exact Or.inr (Or.inr (Or.inl h))
          · exact Or.inr (Or.inr (Or.inr h)))
      have HW4 : Hid (wr.alloc (.cells #[.int .i64 0, .int .i64 0, .int .i64 0, .int .i64 0] 3) = w4) := Lib.hid hw4.symm
      have Hsb := Lib.hid hsb.symm
      have Hne : Hid (v ≠ sb ∧ f ≠ sb) := Lib.hid (by
        have e1 := lt_get (HT3.out.get (k := v) (o := oVol t x f) (by simp))
        have e2 := lt_get (HT3.out.get (k := f) (o := oFil t x) (by simp))
        omega)
      clear hw4 hsb HT3 HT2 HT HIr
      go_upto_region 13 with fail
      rw [HW4.out, Hsb.out]
      go_loopw [11, 12, 13, 14, 15, 16, 17, 18, 19] (fun z _ _ _ _ _ _ _ _ wr => ∃ (k : Nat) (S : List UInt8) (M : Gd.Vol) (s : Nat → List UInt8), z = .int .i64 k ∧ k ≤ 8 ∧ Hid (Gd.Fils M s) ∧ Hid (Tl x t S M 0 (4000000 + 2000000 * k) Nof w wr [(sb, oSz s), (v, oVol t x f), (f, oFil t x)])) (fun z _ _ _ _ _ _ _ _ _ => 8 - (intOf z).toNat)
      case atStart => exact ⟨0, S, M, fun _ => [], rfl, by omega, HF, HT4⟩
      case round =>
        obtain ⟨k, S, M, s, rfl, hk, HF, HT⟩ := hrel
        by_cases hlt : k < 8
        · have hk8 : (k : Int) < 8 := by omega
          obtain ⟨km, hkm⟩ : ∃ km, km = k % 4 := ⟨_, rfl⟩
          have hkmi : (k : Int) % 4 = (km : Int) := by omega
          have hm4 : km < 4 := by omega
          have hm0 : (0 : Int) ≤ km := by omega
          have Hlt := Lib.hid hlt
          have HBw := Lib.hid HT.out.belowW
          clear hlt hkm
          go_upto_region 17 with fail
          rw [hkmi]
          clear hkmi
          go_cut [56] from 49 to 56 (fun z wx => ∃ B : Bool, z = .bool B ∧ Hid (B = true → km < n) ∧ wx = wr)
          case first =>
            by_cases h1 : (k : Int) < 4
            · by_cases h2 : (km : Int) < n
              · go_wp2_with fail
                go_meet
                exact ⟨true, by simp [h2], Lib.hid fun _ => by omega, rfl⟩
              · go_wp2_with fail
                go_meet
                exact ⟨false, by simp <;> omega, Lib.hid (fun h => by cases h), rfl⟩
            · go_wp2_with fail
              go_meet
              exact ⟨false, rfl, Lib.hid (fun h => by cases h), rfl⟩
          case rest =>
          obtain ⟨B, rfl, HBt, hwc⟩ := hcut
          subst wc
          go_upto_if 56 with fail
          go_cut [12] from 57 to 60 (fun z wx => ∃ u : ByteArray, z = .string u ∧ u.size ≤ 9223372036854775807 ∧ wx = wr)
          case first =>
            cases B
            · go_wp2_with fail
              go_meet
              exact ⟨⟨#[]⟩, rfl, by decide, rfl⟩
            · obtain ⟨b, o, u, rfl, c0, hu⟩ := raw_at HR.out.1 HBw.out (HBt.out rfl)
              have h3 : (km : Int) < n := by have := HBt.out rfl; omega
              have Hu := Lib.hid hu
              clear hu
              go_wp2_with fail
              go_meet
              exact ⟨u, rfl, Hu.out, rfl⟩
          case rest =>
          obtain ⟨u, rfl, hu, hwc⟩ := hcut
          subst wc
          clear HBt
          have Hu := Lib.hid hu
          clear hu
          go_upto_region 19 with fail
          go_cut [68] from 61 to 68 (fun z wx => ∃ B : Bool, z = .bool B ∧ Hid (B = true → km < n') ∧ wx = wr)
          case first =>
            by_cases h1 : (4 : Int) ≤ k
            · by_cases h2 : (km : Int) < n'
              · go_wp2_with fail
                go_meet
                exact ⟨true, by simp [h2], Lib.hid fun _ => by omega, rfl⟩
              · go_wp2_with fail
                go_meet
                exact ⟨false, by simp <;> omega, Lib.hid (fun h => by cases h), rfl⟩
            · go_wp2_with fail
              go_meet
              exact ⟨false, rfl, Lib.hid (fun h => by cases h), rfl⟩
          case rest =>
          obtain ⟨B', rfl, HBt, hwc⟩ := hcut
          subst wc
          go_upto_if 68 with fail
          go_cut [12] from 69 to 72 (fun z wx => ∃ u : ByteArray, z = .string u ∧ u.size ≤ 9223372036854775807 ∧ wx = wr)
          case first =>
            cases B'
            · go_wp2_with fail
              go_meet
              exact ⟨u, rfl, Hu.out, rfl⟩
            · obtain ⟨b, o, u2, rfl, c0, hu⟩ := raw_at HR.out.2 HBw.out (HBt.out rfl)
              have h3 : (km : Int) < n' := by have := HBt.out rfl; omega
              have Hu2 := Lib.hid hu
              clear hu
              go_wp2_with fail
              go_meet
              exact ⟨u2, rfl, Hu2.out, rfl⟩
          case rest =>
          clear Hu
          obtain ⟨u, rfl, hu, hwc⟩ := hcut
          subst wc
          clear HBt
          have hu2 : (u.size : Int) ≤ 9223372036854775807 := by omega
          clear hu
          go_upto_if 75 with fail
          go_cut [12] from 73 to 77 (fun z wx => ∃ b : ByteArray, z = .string b ∧ b.size ≤ 256 ∧ wx = wr)
          case first =>
            by_cases h1 : 256 < u.size
            · have h2 : (256 : Int) ≤ u.size := by omega
              go_wp2_with fail
              go_meet
              exact ⟨u.extract 0 256, rfl, by rw [ByteArray.size_extract]; omega, rfl⟩
            · go_wp2_with fail
              go_meet
              exact ⟨u, rfl, by omega, rfl⟩
          case rest =>
          clear hu2
          obtain ⟨b, rfl, hb, hwc⟩ := hcut
          subst wc
          have Hb := Lib.hid hb
          have HSe := Lib.hid (HT.out.fset_ok (f := f) (by simp) HF.out (km + 2) (by omega) (by omega) b hb (by omega))
          rw [show ((km + 2 : Nat) : Int) = (km : Int) + 2 by omega] at HSe
          obtain ⟨_, _, v2⟩ := vol_cells (HT.out.get (k := v) (o := oVol t x f) (by simp))
          clear hb
          go_wp2_with fail
          refine HSe.out.mono ?_
          rintro e w5 ⟨rfl, N, hT5, hF5⟩
          have HT5 := Lib.hid hT5
          have HF5 := Lib.hid hF5
          obtain ⟨v0, _, _⟩ := vol_cells (HT5.out.get (k := v) (o := oVol t x f) (by simp))
          have HC5 := Lib.hid (HT5.out.commit (by omega) (by have := Hlt.out; omega))
          clear hT5 hF5 HSe v2
          go_wp2_with fail
          refine HC5.out.mono ?_
          rintro e w6 ⟨rfl, S6, hT6⟩
          have HT6 := Lib.hid hT6
          obtain ⟨s6, hs6⟩ : ∃ s6, s6 = updS s (km + 2) b.data.toList := ⟨_, rfl⟩
          have hsb6 : s6 (km + 2) = b.data.toList := by rw [hs6]; exact updS_same _ _ _
          rw [← hs6] at HF5
          have hs0 := sz_cell (HT6.out.get (k := sb) (o := oSz s) (by simp)) hm4
          have hf0 := frozen_of_row w6 sb km _ _ (HT6.out.get (k := sb) (o := oSz s) (by simp))
          have hT7 : Tl x t S6 N 0 (4000000 + 2000000 * (k + 1)) Nof w (w6.setCell ⟨sb, km, none⟩ (.int .i64 b.size)) [(sb, oSz s6), (v, oVol t x f), (f, oFil t x)] := by
            rw [show 4000000 + 2000000 * (k + 1) = 4000000 + 2000000 * k + 2000000 by omega]
            refine HT6.out.set (k := sb) (C := szC s) (ty := 3) (by unfold oSz; simp) _ fun p hp => ?_
            rw [show (Value.int .i64 (b.size : Nat)) = .int .i64 b.data.toList.length from rfl, szC_set s hm4, ← hs6]
            simp only [List.mem_cons, List.not_mem_nil, or_false] at hp ⊢
            rcases hp with rfl | rfl | rfl
            · exact Or.inl rfl
            · exact Or.inr ⟨Or.inr (Or.inl rfl), Hne.out.1⟩
            · exact Or.inr ⟨Or.inr (Or.inr rfl), Hne.out.2⟩
          obtain ⟨w7, hw7⟩ : ∃ u, u = w6.setCell ⟨sb, km, none⟩ (.int .i64 b.size) := ⟨_, rfl⟩
          rw [← hw7] at hT7
          have HT7 := Lib.hid hT7
          have HW7 := Lib.hid hw7.symm
          have Hs6 := Lib.hid hsb6
          clear hT6 hT7 hw7 HC5 v0 hs6 hsb6 HF HT
          go_upto_region 28 with fail
          rw [HW7.out]
          clear HT6 HT5 HR
          go_loopw [14, 15, 16, 17] (fun nv z _ _ wr => ∃ j : Nat, z = .int .i64 j ∧ j ≤ 4 ∧ nv = .int .i64 (2 + sumN s6 j : Nat) ∧ Hid (Tl x t S6 N 0 (4000000 + 2000000 * (k + 1)) Nof w wr [(sb, oSz s6), (v, oVol t x f), (f, oFil t x)])) (fun _ z _ _ _ => 4 - (intOf z).toNat)
          case atStart => exact ⟨0, rfl, by omega, rfl, HT7⟩
          case round =>
            obtain ⟨j, rfl, hj, rfl, HTj⟩ := hrel
            by_cases hjl : j < 4
            · have j4 : (j : Int) < 4 := by omega
              have j0 : (0 : Int) ≤ j := by omega
              obtain ⟨B0, hi, hy⟩ := HF5.out.files (j + 2) (by omega) (by omega)
              have HI := Lib.hid (HTj.out.fino ((j : Int) + 2) (by omega) (by omega))
              rw [show ((j : Int) + 2).toNat = j + 2 by omega, hi] at HI
              obtain ⟨l, hl⟩ : ∃ l, l = (s6 (j + 2)).length := ⟨_, rfl⟩
              obtain ⟨m, hm⟩ : ∃ m, m = 2 + sumN s6 j := ⟨_, rfl⟩
              have hm2 : 2 + sumN s6 (j + 1) = m + Gd.needN l := by rw [hm, hl]; show 2 + (sumN s6 j + _) = _; omega
              have hm18 : m ≤ 18 := by have := sumN_le HF5.out j hj; omega
              have hl256 : l ≤ 256 := by rw [hl]; exact hy.few
              obtain ⟨y, hyy⟩ : ∃ y, y = Gd.filI (s6 (j + 2)) B0 := ⟨_, rfl⟩
              have hysh : y.Shape := by rw [hyy]; exact ⟨hy.len, rfl⟩
              have hys : y.s = (l : Int) := by rw [hyy, hl]; rfl
              rw [← hyy] at HI
              rw [← hm]
              have HSy := Lib.hid (inoC_size hysh)
              have HSh := Lib.hid hysh
              have Hys := Lib.hid hys
              have Hm2 := Lib.hid hm2
              have Hjl := Lib.hid hjl
              have Hll := Lib.hid hl
              have HNd : Hid (∀ W, Calls Tryz.prog 23 #[.int .i64 l] W fun e w' => e = .returned (.int .i64 (Gd.needN l : Nat)) ∧ w' = W) := Lib.hid fun W => needs_any l (by omega) W
              have hnl4 : Gd.needN l ≤ 4 := by unfold Gd.needN; omega
              obtain ⟨_, v1, _⟩ := vol_cells (HTj.out.get (k := v) (o := oVol t x f) (by simp))
              unfold inoV at HI
              clear hi hy hl hm hm2 hyy hysh hys hjl hj
              go_upto_region 31 with (first | (go_at_call 11; refine HI.out.mono ?_; rintro e w8 ⟨rfl, hb8⟩; have HT8 := Lib.hid (HTj.out.below hb8); clear hb8) | (rw [← zIno_lit]; refine wpList_store_mid rfl 25 _ _ rfl w8.heap.size 0 (inoC y) rfl rfl (there_at (heap_alloc_new _ _) (by rw [zIno_size, HSy.out])) (by rw [HSy.out]; exact Tryz.sizeIno) (inoC_one _) ?_; obtain ⟨hbw, hbg⟩ := new_whole2 w8 zIno 25 (inoC y).toList (by rw [zIno_size, Array.length_toList, HSy.out]); generalize (World.setCells _ _ _ _) = w9 at hbw hbg ⊢; have HT9 := Lib.hid (HT8.out.new hbw (Nat.le_refl _) (o := .cells (inoC y) 25 (0, 0)) hbg); clear hbw hbg))
              obtain ⟨ib, hib⟩ : ∃ ib, ib = w8.heap.size := ⟨_, rfl⟩
              rw [← hib] at HT9 ⊢
              have hIy : InoAt w9 ib y := ⟨HT9.out.get (k := ib) (by simp), HSh.out⟩
              have c2 := hIy.c2
              rw [Hys.out] at c2
              have d2 := sz_cell (HT9.out.get (k := sb) (o := oSz s6) (by simp)) Hjl.out
              rw [← Hll.out] at d2
              clear hib v1 HI HT8 hIy
              go_quiet (fail)
              go_wp2_with fail
              refine (HNd.out _).mono ?_
              rintro e w10 ⟨rfl, rfl⟩
              clear HNd
              go_wp2
              go_roundw
              case rel => exact ⟨j + 1, by go_num, by have := Hjl.out; omega, by rw [Hm2.out]; go_num, Lib.hid (by first | exact HT9.out.less (fun p hp => List.mem_cons_of_mem _ hp) | exact (HT9.out.less (fun p hp => List.mem_cons_of_mem _ hp)).below (Below.refl _ _).drew | exact (HT9.out.less (fun p hp => List.mem_cons_of_mem _ hp)).below (below_drewN (Below.refl _ _) _))⟩
              case measure => simp [intOf]; have := Hjl.out; omega
            · obtain rfl : j = 4 := by omega
              obtain ⟨m, hm⟩ : ∃ m, m = 2 + sumN s6 4 := ⟨_, rfl⟩
              have HCt : Hid (∀ W, Calls Tryz.prog 17 #[mapV N.map] W fun e w' => e = .returned (.int .i64 m) ∧ Below W.heap.size W w') := Lib.hid fun W => by
                rw [hm, ← fils_sum HF5.out]
                exact count_any N.map HF5.out.sound.mapl W
              rw [← hm]
              have HBy := Lib.hid (HTj.out.fbytes (f := f) (by simp) HF5.out (km + 2) (by omega) (by omega))
              rw [Hs6.out, ba_mk b, show ((km + 2 : Nat) : Int) = (km : Int) + 2 by omega] at HBy
              obtain ⟨_, _, v2⟩ := vol_cells (HTj.out.get (k := v) (o := oVol t x f) (by simp))
              clear hm hjl
              go_wp2_with fail
              refine HBy.out.mono ?_
              rintro e w8 ⟨rfl, hb8⟩
              have HT8 := Lib.hid (HTj.out.below hb8)
              obtain ⟨_, v1, _⟩ := vol_cells (HT8.out.get (k := v) (o := oVol t x f) (by simp))
              have HMp := Lib.hid HT8.out.fmap
              clear hb8 HBy v2
              go_wp2_with fail
              refine HMp.out.mono ?_
              rintro e w9 ⟨rfl, hb9⟩
              have HT9 := Lib.hid (HT8.out.below hb9)
              clear hb9 HMp v1
              go_wp2_with fail
              refine (HCt.out _).mono ?_
              rintro e w10 ⟨rfl, hb10⟩
              have HT10 := Lib.hid (HT9.out.below hb10)
              clear hb10 HCt
              go_wp2
              go_roundw
              case rel =>
                repeat apply Exists.intro
                exact ⟨⟨k + 1, S6, N, s6, by go_num, by have := Hlt.out; omega, HF5, HT10⟩, rfl⟩
              case measure => simp [intOf]; have := Hlt.out; omega
        · obtain rfl : k = 8 := by omega
          clear hlt hk
          have HBw := Lib.hid HT.out.belowW
          go_wp2_with fail
          refine (Fl.lives_any _).mono ?_
          rintro e w9 ⟨rfl, hb9⟩
          go_wp2
          go_ret
          exact ⟨rfl, HBw.out.trans (hb9.mono HBw.out.size)⟩

end Go.Proofs.YtginffdngphjpaaGreatDoor

/- Records: an argument opened, cut; what Apply comes to. -/
namespace Go.Proofs.YtginffdngphjpaaGreatDoor
open Go.ChangeShapes Go.WideShapes Go.RowKit

set_option maxHeartbeats 400000 in
theorem fcut_any (call inode : Int) (tr : Bool) (off : Int) (d : ByteArray) (w : World) :
    Calls Tryz.prog 28 #[Fl.recV call inode tr off d] w fun e w' => e = .returned (Fl.recV call inode tr off (cutN d 80)) ∧ Below w.heap.size w w' := by
  unfold Fl.recV cutN
  by_cases h : 80 < d.size
  · rw [if_pos h]
    have h2 : (80 : Int) ≤ d.size := by omega
    go_enter Tryz.func28, Tryz.ntmps28
    go_wp2
    refine bodyPost_ret (v := .agg #[.int .i64 call, .int .i64 inode, .bool tr, .int .i64 off, .string (d.extract 0 80)]) (by simp [results, Tryz.results28, go_sem]) rfl ⟨rfl, ?_⟩
    exact ((Below.refl _ _).alloc (Nat.le_refl _) _).alloc (by simp) _
  · rw [if_neg h]
    go_enter Tryz.func28, Tryz.ntmps28
    go_wp2
    refine bodyPost_ret (v := .agg #[.int .i64 call, .int .i64 inode, .bool tr, .int .i64 off, .string d]) (by simp [results, Tryz.results28, go_sem]) rfl ⟨rfl, ?_⟩
    exact ((Below.refl _ _).alloc (Nat.le_refl _) _).alloc (by simp) _


/-- a record -/
structure Rec where
  call : Int
  inode : Int
  tr : Bool
  off : Int
  d : ByteArray
def recC (r : Rec) : List Value := [.int .i64 r.call, .int .i64 r.inode, .bool r.tr, .int .i64 r.off, .string r.d]
def Recs (w : World) (A : Option Addr) (L : List Rec) : Prop := L = [] ∨ ∃ b o, A = some ⟨b, o, none⟩ ∧ b < w.heap.size ∧ ∀ (j : Nat) (r : Rec), L[j]? = some r → ∀ (i : Nat) v, (recC r)[i]? = some v → w.cell? ⟨b, o + j * 5 + i, none⟩ = some v
theorem Recs.keep {w w' : World} {A : Option Addr} {L : List Rec} (h : Recs w A L) (hb : Below w.heap.size w w') : Recs w' A L := by
  rcases h with h | ⟨b, o, h1, h2, h3⟩
  · exact Or.inl h
  · have := hb.size
    exact Or.inr ⟨b, o, h1, by omega, fun j r hr i v hv => (hb.cell (p := ⟨b, o + j * 5 + i, none⟩) h2).trans (h3 j r hr i v hv)⟩
theorem cells_rec : Tryz.prog.cellsOf 69 = 5 := by kernel_rfl
theorem fcells_int : Tryz.prog.cellsOf 3 = 1 := by kernel_rfl
theorem fcells_string : Tryz.prog.cellsOf 9 = 1 := by kernel_rfl
theorem fcells_bool : Tryz.prog.cellsOf 4 = 1 := by kernel_rfl
set_option maxRecDepth 100000 in
theorem open_rec {H : Type} {enc : TypeId × Value → H} {W : World} {base : Nat} {spare : Nat → Bool} {held : Bool} {fuel : Nat} {x : DataW H × List MemPlace} {cs : List Value} (h : DataW.trod enc Tryz.prog W base spare held fuel 69 cs = some x) :
    ∃ r : Rec, cs = recC r ∧ I64 r.inode := by
  obtain ⟨xs, m, _, _, hl, hxl, hg⟩ := DataW.trod_struct Tryz.underlying69 h
  rw [cells_rec] at hl
  match cs, hl, xs, hxl with
  | [c0, c1, c2, c3, c4], _, [y0, y1, y2, y3, y4], _ =>
    have g0 : DataW.trod enc Tryz.prog W base spare held m 3 ((List.drop 0 [c0, c1, c2, c3, c4]).take (Tryz.prog.cellsOf 3)) = some y0 := hg 0 _ rfl
    rw [fcells_int] at g0
    have g1 : DataW.trod enc Tryz.prog W base spare held m 3 ((List.drop 1 [c0, c1, c2, c3, c4]).take (Tryz.prog.cellsOf 3)) = some y1 := hg 1 _ rfl
    rw [fcells_int] at g1
    have g2 : DataW.trod enc Tryz.prog W base spare held m 4 ((List.drop 2 [c0, c1, c2, c3, c4]).take (Tryz.prog.cellsOf 4)) = some y2 := hg 2 _ rfl
    rw [fcells_bool] at g2
    have g3 : DataW.trod enc Tryz.prog W base spare held m 3 ((List.drop 3 [c0, c1, c2, c3, c4]).take (Tryz.prog.cellsOf 3)) = some y3 := hg 3 _ rfl
    rw [fcells_int] at g3
    have g4 : DataW.trod enc Tryz.prog W base spare held m 9 ((List.drop 4 [c0, c1, c2, c3, c4]).take (Tryz.prog.cellsOf 9)) = some y4 := hg 4 _ rfl
    rw [fcells_string] at g4
    obtain ⟨n0, hc0, _, _⟩ := DataW.trod_int Tryz.underlying3 g0
    obtain ⟨n1, hc1, _, hw1⟩ := DataW.trod_int Tryz.underlying3 g1
    obtain ⟨n2, hc2, _⟩ := DataW.trod_bool Tryz.underlying4 g2
    obtain ⟨n3, hc3, _, _⟩ := DataW.trod_int Tryz.underlying3 g3
    obtain ⟨n4, hc4, _⟩ := DataW.trod_string Tryz.underlying9 g4
    cases hc0
    cases hc1
    cases hc2
    cases hc3
    cases hc4
    exact ⟨⟨n0, n1, n2, n3, n4⟩, rfl, hw1⟩
set_option maxRecDepth 100000 in
theorem open_recs {H : Type} {enc : TypeId × Value → H} {W : World} {base : Nat} {v : Value} {d : DataW H} {p : List MemPlace} (hv : Value.okWide Tryz.prog W .any base 67 v) (hd : DataW.Trod enc Tryz.prog W 0 (fun _ => true) true 67 v d p) (hlt : ∀ x ∈ p, x.block < W.heap.size) :
    ∃ (A : Option Addr) (L : List Rec) (c : Nat), v = .slice A L.length c ∧ L.length ≤ 9223372036854775807 ∧ Recs W A L ∧ ∀ r ∈ L, I64 r.inode := by
  obtain ⟨a0, len, cap, rfl⟩ := Go.WideShapes.okWide_slice Tryz.underlying67 hv
  obtain ⟨fuel, hf⟩ := hd
  rcases Go.Deep.open_slice Tryz.underlying67 hf with ⟨hcs, _⟩ | ⟨a, len', cap', m, n, D, Pl, hcs, _, hl, hm, hmm, hx, hi⟩
  · simp [Value.cells] at hcs
    obtain ⟨rfl, rfl, rfl⟩ := hcs
    exact ⟨none, [], 0, rfl, by simp, Or.inl rfl, by simp⟩
  · simp [Value.cells] at hcs
    obtain ⟨rfl, rfl, rfl⟩ := hcs
    simp only [if_true] at hmm
    subst hmm
    unfold maxLen at hm
    rw [cells_rec] at hi hx
    simp only [Prod.mk.injEq] at hx
    obtain ⟨_, rfl⟩ := hx
    obtain ⟨b, o, spot⟩ := a
    have pick : ∀ i, i < len → ∃ k : Rec, (∀ (j : Nat) v, (recC k)[j]? = some v → W.cell? (((⟨b, o, spot⟩ : Addr).add (i * 5)).add j) = some v) ∧ I64 k.inode := fun i hil => by
      obtain ⟨cs', h1, h2⟩ := hi i (by omega)
      obtain ⟨r, rfl, w0⟩ := open_rec h2
      obtain ⟨_, _, hat⟩ := World.cells?_some h1
      refine ⟨r, fun j v hj => ?_, w0⟩
      have hj5 : j < 5 := (List.getElem?_eq_some_iff.1 hj).1
      rw [hat j hj5, hj]
    haveI : Inhabited Rec := ⟨⟨0, 0, false, 0, ⟨#[]⟩⟩⟩
    obtain ⟨f, hf2⟩ := Go.Deep.choose_lt (α := Rec) pick
    refine ⟨some ⟨b, o, spot⟩, (List.range len).map f, m, by simp, by simp; omega, ?_, fun a ha => ?_⟩
    · by_cases h0 : len = 0
      · left
        rw [h0]
        rfl
      · right
        have hspot : spot = none := by simpa [Addr.add] using World.cell?_spot ((hf2 0 (by omega)).1 0 _ rfl)
        subst hspot
        refine ⟨b, o, rfl, hlt (.cell b o) (List.mem_append_left _ (MemPlace.mem_row.2 ⟨0, by omega, by simp⟩)), fun j a hj => ?_⟩
        rw [List.getElem?_map] at hj
        cases hs : (List.range len)[j]? with
        | none => rw [hs] at hj; cases hj
        | some y =>
          rw [hs] at hj
          cases hj
          have hjl : j < len := by simpa using (List.getElem?_eq_some_iff.1 hs).1
          have hy : y = j := by
            rw [List.getElem?_range hjl] at hs
            exact (Option.some.inj hs).symm
          subst hy
          exact fun i v hv => by
            have := (hf2 y hjl).1 i v hv
            rw [Addr.add_lit, Addr.add_lit] at this
            exact this
    · rw [List.mem_map] at ha
      obtain ⟨i, hir, rfl⟩ := ha
      exact (hf2 i (List.mem_range.1 hir)).2

namespace Fp
theorem chg_ok {s : List UInt8} {call inode : Int} {tr : Bool} {off : Int} {d : List UInt8} (hs : s.length ≤ 256) (hm : mayB call inode tr off d = true) : (chg s call inode tr off d).2 = 0 ∧ 1 ≤ inode ∧ inode ≤ 32 := by
  unfold chg
  rw [if_pos hm]
  unfold mayB at hm
  simp only [Bool.and_eq_true, decide_eq_true_eq] at hm
  obtain ⟨⟨h1, h2, h3, h4, h5, h6, h7, h8⟩, _⟩ := hm
  refine ⟨?_, h3, h4⟩
  rw [if_pos]
  unfold outL
  split
  · rw [sizedL_length]
    omega
  · split
    · exact hs
    · rw [List.length_append, List.length_append, sizedL_length, List.length_drop]
      omega
theorem chg_no {s : List UInt8} {call inode : Int} {tr : Bool} {off : Int} {d : List UInt8} (hm : mayB call inode tr off d = false) : (chg s call inode tr off d).2 = 1 := by
  unfold chg
  rw [hm]
  rfl
end Fp
theorem Tl.fapply {x t f K : Nat} {S : List UInt8} {M : Gd.Vol} {F : Nat → Prop} {w a : World} {Ls : List (Nat × Obj)} {s : Nat → List UInt8} (h : Tl x t S M 0 K F w a Ls) (hf : (f, oFil t x) ∈ Ls) (hF : Gd.Fils M s) (call inode : Int) (tr : Bool) (off : Int) (d : ByteArray) (hd : d.size ≤ 80) :
    Calls Tryz.prog 29 #[.pointer (some ⟨f, 0, none⟩), Fl.recV call inode tr off d, .int .i64 0] a fun e W => ∃ E : Int, e = .returned (.int .i64 E) ∧
      ((¬ (2 ≤ inode ∧ inode ≤ 5) ∧ E ≠ 0 ∧ Below a.heap.size a W) ∨
      (∃ i : Nat, inode = (i : Int) ∧ 2 ≤ i ∧ i ≤ 5 ∧ E = (Fp.chg (s i) call inode tr off d.data.toList).2 ∧ ((E ≠ 0 ∧ Below a.heap.size a W) ∨ (E = 0 ∧ ∃ N, Tl x t S N 13 K F w W Ls ∧ Gd.Fils N (updS s i (Fp.chg (s i) call inode tr off d.data.toList).1))))) := by
  by_cases hm : Fp.mayB call inode tr off d.data.toList = true
  · by_cases hi : 2 ≤ inode ∧ inode ≤ 5
    · obtain ⟨i, hii⟩ : ∃ i : Nat, inode = i := ⟨inode.toNat, by omega⟩
      obtain ⟨B0, hB0, hy⟩ := hF.files i (by omega) (by omega)
      obtain ⟨h0, _, _⟩ := Fp.chg_ok hy.few hm
      have hle := Fp.chg_le (s i) call inode tr off d.data.toList
      obtain ⟨out, ho⟩ : ∃ out, out = (Fp.chg (s i) call inode tr off d.data.toList).1 := ⟨_, rfl⟩
      rw [← ho] at hle
      refine (apply_ok f call inode tr off d ⟨(s i).toArray⟩ ⟨out.toArray⟩ 0 a (fun r W => r = 0 ∧ ∃ N, Tl x t S N 13 K F w W Ls ∧ Gd.Fils N (updS s i out)) hd (by show (s i).length ≤ 300; have := hy.few; omega) hm ?_ (fun W hW => ?_) (fun W hW => ?_)).mono ?_
      · show Fp.chg (s i) call inode tr off d.data.toList = (out, 0)
        rw [ho, ← h0]
      · rw [hii]
        exact (h.below hW).fbytes hf hF i (by omega) (by omega)
      · rw [hii]
        refine ((h.below hW).fset_ok hf hF i (by omega) (by omega) ⟨out.toArray⟩ hle (by omega)).mono ?_
        rintro e w' ⟨rfl, hN⟩
        exact ⟨0, rfl, rfl, hN⟩
      · rintro e w' ⟨r, rfl, rfl, hN⟩
        exact ⟨0, rfl, Or.inr ⟨i, hii, by omega, by omega, h0.symm, Or.inr ⟨rfl, by rw [← ho]; exact hN⟩⟩⟩
    · obtain ⟨hE, hne⟩ := want_else inode
      refine (apply_err f call inode tr off d ⟨#[]⟩ 0 (elseE inode) a hd hm (by rw [hE]; exact hne) (fun W hW => ?_)).mono ?_
      · obtain ⟨y, hy, hc⟩ := (h.below hW).felse hf hF inode hi
        exact bytes_err inode W hy (by rw [hE]; exact hne) hc
      · rintro e w' ⟨rfl, hb⟩
        exact ⟨_, rfl, Or.inl ⟨hi, by rw [hE]; exact hne, hb⟩⟩
  · have hm' : Fp.mayB call inode tr off d.data.toList = false := by simpa using hm
    refine (apply_no _ call inode tr off d 0 a hd hm').mono ?_
    rintro e w' ⟨rfl, hb⟩
    by_cases hi : 2 ≤ inode ∧ inode ≤ 5
    · exact ⟨1, rfl, Or.inr ⟨inode.toNat, by omega, by omega, by omega, (Fp.chg_no hm').symm, Or.inl ⟨by omega, hb⟩⟩⟩
    · exact ⟨1, rfl, Or.inl ⟨hi, by omega, hb⟩⟩
theorem ref_change (s : List UInt8) (call inode : Int) (tr : Bool) (off : Int) (d : ByteArray) (hs : s.length ≤ 256) (hd : d.size ≤ 80) (w : World) :
    Calls Tryz.prog 30 #[.string ⟨s.toArray⟩, Fl.recV call inode tr off d] w fun e w' => e = .returned (.tuple #[.string ⟨(Fp.chg s call inode tr off d.data.toList).1.toArray⟩, .int .i64 (Fp.chg s call inode tr off d.data.toList).2]) ∧ Below w.heap.size w w' :=
  Fl.rchange_any ⟨s.toArray⟩ call inode tr off d w (by show s.length ≤ 300; omega) hd

end Go.Proofs.YtginffdngphjpaaGreatDoor

/- Walks: commonslaw15: FilesPlays. -/
namespace Go.Proofs.YtginffdngphjpaaGreatDoor
open Go.RowKit Go.Shelf

attribute [local go_sem] Oper.semAt_some

def wtC (s : Nat → List UInt8) : Array Value := #[.string ⟨(s 2).toArray⟩, .string ⟨(s 3).toArray⟩, .string ⟨(s 4).toArray⟩, .string ⟨(s 5).toArray⟩]
def oWt (s : Nat → List UInt8) : Obj := .cells (wtC s) 9 (0, 0)
theorem wtC_set (s : Nat → List UInt8) {k : Nat} (hk : k < 4) (b : List UInt8) : (wtC s).setIfInBounds k (.string ⟨b.toArray⟩) = wtC (updS s (k + 2) b) := by
  match k, hk with
  | 0, _ => rfl
  | 1, _ => rfl
  | 2, _ => rfl
  | 3, _ => rfl
theorem wt_cell {a : World} {sb k : Nat} {s : Nat → List UInt8} (h : a.heap[sb]? = some (oWt s)) (hk : k < 4) : a.cell? ⟨sb, k, none⟩ = some (.string ⟨(s (k + 2)).toArray⟩) := by
  match k, hk with
  | 0, _ => exact cell_of_row a sb 0 _ _ _ h
  | 1, _ => exact cell_of_row a sb 1 _ _ _ h
  | 2, _ => exact cell_of_row a sb 2 _ _ _ h
  | 3, _ => exact cell_of_row a sb 3 _ _ _ h
theorem Tl.moreK {x t c K K' : Nat} {S : List UInt8} {M : Gd.Vol} {F : Nat → Prop} {w a : World} {Ls : List (Nat × Obj)} (h : Tl x t S M c K F w a Ls) (hK : K ≤ K') : Tl x t S M c K' F w a Ls := by
  obtain ⟨F1, h1, h2⟩ := h
  exact ⟨F1, h1.mono fun hi => hi.more (Nat.le_refl _) hK, h2⟩

theorem Tl.more {x t c c' K K' : Nat} {S : List UInt8} {M : Gd.Vol} {F : Nat → Prop} {w a : World} {Ls : List (Nat × Obj)} (h : Tl x t S M c K F w a Ls) (hc : c ≤ c') (hK : K ≤ K') : Tl x t S M c' K' F w a Ls := by
  obtain ⟨F1, h1, h2⟩ := h
  exact ⟨F1, h1.mono fun hi => hi.more hc hK, h2⟩
def Applied (s : Nat → List UInt8) (call inode : Int) (tr : Bool) (off : Int) (d : List UInt8) (E : Int) (M : Gd.Vol) : Prop :=
  (¬ (2 ≤ inode ∧ inode ≤ 5) ∧ E ≠ 0) ∨ ∃ i : Nat, inode = (i : Int) ∧ 2 ≤ i ∧ i ≤ 5 ∧ E = (Fp.chg (s i) call inode tr off d).2 ∧ (E = 0 → Gd.Fils M (updS s i (Fp.chg (s i) call inode tr off d).1))
theorem Tl.fapply2 {x t f K : Nat} {S : List UInt8} {M : Gd.Vol} {F : Nat → Prop} {w a : World} {Ls : List (Nat × Obj)} {s : Nat → List UInt8} (h : Tl x t S M 0 K F w a Ls) (hf : (f, oFil t x) ∈ Ls) (hF : Gd.Fils M s) (call inode : Int) (tr : Bool) (off : Int) (d : ByteArray) (hd : d.size ≤ 80) :
    Calls Tryz.prog 29 #[.pointer (some ⟨f, 0, none⟩), Fl.recV call inode tr off d, .int .i64 0] a fun e W => ∃ (E : Int) (N : Gd.Vol), e = .returned (.int .i64 E) ∧ Tl x t S N 13 K F w W Ls ∧ Applied s call inode tr off d.data.toList E N := by
  refine (h.fapply hf hF call inode tr off d hd).mono ?_
  rintro e W ⟨E, rfl, ⟨h1, h2, hb⟩ | ⟨i, h1, h2, h3, h4, h5⟩⟩
  · exact ⟨E, M, rfl, (h.below hb).more (by omega) (Nat.le_refl _), Or.inl ⟨h1, h2⟩⟩
  · rcases h5 with ⟨h5, hb⟩ | ⟨h5, N, hN, hF'⟩
    · exact ⟨E, M, rfl, (h.below hb).more (by omega) (Nat.le_refl _), Or.inr ⟨i, h1, h2, h3, h4, fun e => absurd e h5⟩⟩
    · exact ⟨E, N, rfl, hN, Or.inr ⟨i, h1, h2, h3, h4, fun _ => hF'⟩⟩
def oRec (call inode : Int) (tr : Bool) (off : Int) (d : ByteArray) : Obj := .cells #[.int .i64 call, .int .i64 inode, .bool tr, .int .i64 off, .string d] 69 (0, 0)
theorem rec_cells {a : World} {rb : Nat} {call inode : Int} {tr : Bool} {off : Int} {d : ByteArray} (h : a.heap[rb]? = some (oRec call inode tr off d)) : a.cell? ⟨rb, 0, none⟩ = some (.int .i64 call) ∧ a.cell? ⟨rb, 1, none⟩ = some (.int .i64 inode) ∧ a.cell? ⟨rb, 2, none⟩ = some (.bool tr) ∧ a.cell? ⟨rb, 3, none⟩ = some (.int .i64 off) ∧ a.cell? ⟨rb, 4, none⟩ = some (.string d) :=
  ⟨cell_of_row a rb 0 _ _ _ h, cell_of_row a rb 1 _ _ _ h, cell_of_row a rb 2 _ _ _ h, cell_of_row a rb 3 _ _ _ h, cell_of_row a rb 4 _ _ _ h⟩

set_option maxHeartbeats 8000000 in
set_option maxRecDepth 100000 in
theorem law_fplays (A : Option Addr) (L : List Rec) (c : Nat) (w : World) (hl : L.length ≤ 9223372036854775807) (hA : Recs w A L) (hI : ∀ r ∈ L, I64 r.inode) (hM : Mx w) :
    Calls Tryz.prog 8 #[.slice A L.length c] w fun e w' => e = .returned (.bool true) ∧ Below w.heap.size w w' := by
  have HBg := Lib.hid (begun hM)
  obtain ⟨n, hn⟩ : ∃ n, n = L.length := ⟨_, rfl⟩
  have HA := Lib.hid hA
  have HI := Lib.hid hI
  have Hn := Lib.hid hn
  rw [← hn] at hl ⊢
  have hl2 : (n : Int) ≤ 9223372036854775807 := by omega
  clear hM hA hI hn hl
  go_enter Tryz.func8, Tryz.ntmps8
  go_wp2_with fail
  refine HBg.out.mono ?_
  rintro e w1 ⟨v, rfl, x, t, f, S, M, hT, hF⟩
  have HF := Lib.hid hF
  obtain ⟨w2, hw2⟩ : ∃ u, u = w1.alloc (.cells (wtC fun _ => []) 9) := ⟨_, rfl⟩
  obtain ⟨wb, hwb⟩ : ∃ wb, wb = w1.heap.size := ⟨_, rfl⟩
  have HT2 : Hid (Tl x t S M 0 4000000 Nof w w2 [(wb, oWt fun _ => []), (v, oVol t x f), (f, oFil t x)]) := Lib.hid (by
    rw [hw2, hwb]
    exact hT.new ((Below.refl _ _).alloc (Nat.le_refl _) _) (Nat.le_refl _) (heap_alloc_new _ _))
  have HW2 : Hid (w1.alloc (.cells #[.string ⟨#[]⟩, .string ⟨#[]⟩, .string ⟨#[]⟩, .string ⟨#[]⟩] 9) = w2) := Lib.hid hw2.symm
  have Hwb := Lib.hid hwb.symm
  have Hne : Hid (v ≠ wb ∧ f ≠ wb) := Lib.hid (by
    have e1 := lt_get (hT.get (k := v) (o := oVol t x f) (by simp))
    have e2 := lt_get (hT.get (k := f) (o := oFil t x) (by simp))
    omega)
  clear hT hF hw2 hwb HBg
  go_upto_region 6 with fail
  rw [HW2.out, Hwb.out]
  go_loopw [5, 6, 7, 8, 9, 10, 11, 12, 13] (fun z _ _ _ _ _ _ _ _ wr => ∃ (k : Nat) (S : List UInt8) (M : Gd.Vol) (s : Nat → List UInt8), z = .int .i64 k ∧ k ≤ n ∧ k ≤ 25 ∧ Hid (Gd.Fils M s) ∧ Hid (Tl x t S M 0 (4000000 + 2000000 * k) Nof w wr [(wb, oWt s), (v, oVol t x f), (f, oFil t x)])) (fun z _ _ _ _ _ _ _ _ _ => 25 - (intOf z).toNat)
  case atStart => exact ⟨0, S, M, fun _ => [], rfl, by omega, by omega, HF, HT2⟩
  case round =>
    obtain ⟨k, S, M, s, rfl, hkn, hk, HF, HT⟩ := hrel
    by_cases h1 : (k : Int) < n
    · by_cases h2 : (k : Int) < 25
      · obtain ⟨r, hr⟩ : ∃ r, L[k]? = some r := ⟨_, List.getElem?_eq_getElem (by have := Hn.out; omega)⟩
        have HIr : Hid (I64 r.inode) := Lib.hid (HI.out r (List.mem_of_getElem? hr))
        obtain ⟨b, o, rfl, hcells⟩ : ∃ b o, A = some ⟨b, o, none⟩ ∧ ∀ (i : Nat) v, (recC r)[i]? = some v → wr.cell? ⟨b, o + k * 5 + i, none⟩ = some v := by
          rcases HA.out.keep HT.out.belowW with h | ⟨b, o, e1, _, e3⟩
          · rw [h] at hr
            simp at hr
          · exact ⟨b, o, e1, e3 k r hr⟩
        obtain ⟨call, inode, tr, off, d⟩ := r
        have c0 : wr.cell? ⟨b, o + k * 5, none⟩ = some (.int .i64 call) := hcells 0 _ rfl
        have c1 : wr.cell? ⟨b, o + k * 5 + 1, none⟩ = some (.int .i64 inode) := hcells 1 _ rfl
        have c2 : wr.cell? ⟨b, o + k * 5 + 2, none⟩ = some (.bool tr) := hcells 2 _ rfl
        have c3 : wr.cell? ⟨b, o + k * 5 + 3, none⟩ = some (.int .i64 off) := hcells 3 _ rfl
        have c4 : wr.cell? ⟨b, o + k * 5 + 4, none⟩ = some (.string d) := hcells 4 _ rfl
        dsimp only at HIr
        have h0 : (0 : Int) ≤ k := by omega
        have HCu := Lib.hid (fcut_any call inode tr off d wr)
        unfold Fl.recV at HCu
        clear hr hcells hkn hk
        go_wp2_with fail
        refine HCu.out.mono ?_
        rintro e w3 ⟨rfl, hb3⟩
        have HT3 := Lib.hid (HT.out.below hb3)
        obtain ⟨g, hg⟩ : ∃ g, g = cutN d 80 := ⟨_, rfl⟩
        have Hg : Hid (g.size ≤ 80) := Lib.hid (by rw [hg]; exact cutN_size _ _)
        rw [← hg]
        clear hb3 HCu c0 c1 c2 c3 c4 hg
        obtain ⟨w4, hw4⟩ : ∃ u, u = w3.alloc (oRec call inode tr off g) := ⟨_, rfl⟩
        obtain ⟨rb, hrb⟩ : ∃ rb, rb = w3.heap.size := ⟨_, rfl⟩
        have hT4 : Tl x t S M 0 (4000000 + 2000000 * k) Nof w w4 [(rb, oRec call inode tr off g), (wb, oWt s), (v, oVol t x f), (f, oFil t x)] := by
          rw [hw4, hrb]
          exact HT3.out.new ((Below.refl _ _).alloc (Nat.le_refl _) _) (Nat.le_refl _) (heap_alloc_new _ _)
        have HT4 := Lib.hid (hT4.below (Below.refl _ _).drew)
        have HTr : Hid (∀ W N c' S' K', Tl x t S' N c' K' Nof w W [(rb, oRec call inode tr off g), (wb, oWt s), (v, oVol t x f), (f, oFil t x)] → W.cell? ⟨v, 2, none⟩ = some (.pointer (some ⟨f, 0, none⟩)) ∧ W.cell? ⟨rb, 0, none⟩ = some (.int .i64 call) ∧ W.cell? ⟨rb, 1, none⟩ = some (.int .i64 inode) ∧ W.cell? ⟨rb, 2, none⟩ = some (.bool tr) ∧ W.cell? ⟨rb, 3, none⟩ = some (.int .i64 off) ∧ W.cell? ⟨rb, 4, none⟩ = some (.string g)) := Lib.hid fun W N c' S' K' h => ⟨(vol_cells (h.get (k := v) (o := oVol t x f) (by simp))).2.2, rec_cells (h.get (k := rb) (by simp))⟩
        have hs0 := HTr.out _ _ _ _ _ HT4.out
        have HAp := Lib.hid (HT4.out.fapply2 (f := f) (by simp) HF.out call inode tr off g Hg.out)
        have HW4 := Lib.hid hw4.symm
        have Hrb := Lib.hid hrb.symm
        unfold Fl.recV at HAp
        unfold oRec at HW4
        clear hT4 hw4 hrb HT3
        go_upto_region 9 with fail
        rw [HW4.out, Hrb.out]
        refine wp_region_held_drew (S := (fun W => W.cell? ⟨v, 2, none⟩ = some (.pointer (some ⟨f, 0, none⟩)) ∧ W.cell? ⟨rb, 0, none⟩ = some (.int .i64 call) ∧ W.cell? ⟨rb, 1, none⟩ = some (.int .i64 inode) ∧ W.cell? ⟨rb, 2, none⟩ = some (.bool tr) ∧ W.cell? ⟨rb, 3, none⟩ = some (.int .i64 off) ∧ W.cell? ⟨rb, 4, none⟩ = some (.string g))) (by kernel_rfl) ?_ (fun hHeld => ?_)
        · exact hs0
        refine wpAnyH_take (i := 0) (oi := _) (v := ?_) rfl (by kernel_rfl) (by kernel_rfl) (by kernel_rfl) (fun _ _ _ h => h) (Or.inl ⟨by rfl, ?_⟩) (by assumption) ?_
        rotate_left
        · intro w hSw
          (try dsimp only at hSw)
          first | (go_simp; done) | (go_simp; with_reducible rfl)
        try simp only [List.getElem_toArray, List.getElem_cons_succ, List.getElem_cons_zero, Act.put, List.setIfInBounds_toArray, List.set_cons_zero, List.set_cons_succ]
        refine wpAnyH_take (i := 1) (oi := _) (v := ?_) rfl (by kernel_rfl) (by kernel_rfl) (by kernel_rfl) (fun _ _ _ h => h) (Or.inl ⟨by rfl, ?_⟩) (by assumption) ?_
        rotate_left
        · intro w hSw
          (try dsimp only at hSw)
          first | (go_simp; done) | (go_simp; with_reducible rfl)
        try simp only [List.getElem_toArray, List.getElem_cons_succ, List.getElem_cons_zero, Act.put, List.setIfInBounds_toArray, List.set_cons_zero, List.set_cons_succ]
        refine wpAnyH_take (i := 2) (oi := _) (v := ?_) rfl (by kernel_rfl) (by kernel_rfl) (by kernel_rfl) (fun _ _ _ h => h) (Or.inl ⟨by rfl, ?_⟩) (by assumption) ?_
        rotate_left
        · intro w hSw
          (try dsimp only at hSw)
          first | (go_simp; done) | (go_simp; with_reducible rfl)
        try simp only [List.getElem_toArray, List.getElem_cons_succ, List.getElem_cons_zero, Act.put, List.setIfInBounds_toArray, List.set_cons_zero, List.set_cons_succ]
        refine wpAnyH_take (i := 3) (oi := _) (v := ?_) rfl (by kernel_rfl) (by kernel_rfl) (by kernel_rfl) (fun _ _ _ h => h) (Or.inl ⟨by rfl, ?_⟩) (by assumption) ?_
        rotate_left
        · intro w hSw
          (try dsimp only at hSw)
          first | (go_simp; done) | (go_simp; with_reducible rfl)
        try simp only [List.getElem_toArray, List.getElem_cons_succ, List.getElem_cons_zero, Act.put, List.setIfInBounds_toArray, List.set_cons_zero, List.set_cons_succ]
        refine wpAnyH_take (i := 4) (oi := _) (v := ?_) rfl (by kernel_rfl) (by kernel_rfl) (by kernel_rfl) (fun _ _ _ h => h) (Or.inl ⟨by rfl, ?_⟩) (by assumption) ?_
        rotate_left
        · intro w hSw
          (try dsimp only at hSw)
          first | (go_simp; done) | (go_simp; with_reducible rfl)
        try simp only [List.getElem_toArray, List.getElem_cons_succ, List.getElem_cons_zero, Act.put, List.setIfInBounds_toArray, List.set_cons_zero, List.set_cons_succ]
        refine wpAnyH_ready (rs := [5]) (by kernel_rfl) (by simp) ?_
        refine AllReadyH.cons (o := _) rfl (fun K hK => ?_) AllReadyH.nil
        go_simp
        refine HAp.out.mono ?_
        rintro e w5 ⟨E, N, rfl, hT5, hap⟩
        have HT5 := Lib.hid hT5
        have HE := Lib.hid hap
        have hs5 := HTr.out w5 _ _ _ _ hT5
        clear hT5 hap
        dsimp only
        refine hK.out _ _ hs5 (fun hHeld => ?_)
        clear hK K
        try simp only [List.getElem_toArray, List.getElem_cons_succ, List.getElem_cons_zero, Act.put, List.setIfInBounds_toArray, List.set_cons_zero, List.set_cons_succ]
        refine wpAnyH_take (i := 6) (oi := _) (v := ?_) rfl (by kernel_rfl) (by kernel_rfl) (by kernel_rfl) (fun _ _ _ h => h) (Or.inl ⟨by rfl, ?_⟩) (by assumption) ?_
        rotate_left
        · intro w hSw
          (try dsimp only at hSw)
          first | (go_simp; done) | (go_simp; with_reducible rfl)
        try simp only [List.getElem_toArray, List.getElem_cons_succ, List.getElem_cons_zero, Act.put, List.setIfInBounds_toArray, List.set_cons_zero, List.set_cons_succ]
        refine wpAnyH_done (by kernel_rfl) ?_ _
        (try simp only [Exit.then])
        clear hs0 HAp
        rcases HE.out with ⟨hno, hE⟩ | ⟨i, hii, i2, i5, hEe, hok⟩
        · have hEb : (E == 0) = false := by simp [hE]
          obtain ⟨_, _, p1, _, _, _⟩ := hs5
          obtain ⟨v0, _, _⟩ := vol_cells (HT5.out.get (k := v) (o := oVol t x f) (by simp))
          have HDr := Lib.hid (HT5.out.drop HT.out.good)
          obtain ⟨q, hq⟩ : ∃ q, q = IntKind.i64.wrap (inode - 2) := ⟨_, rfl⟩
          have hq2 : q < 0 ∨ 3 < q := by
            have := HIr.out.lo
            rw [hq, IntKind.wrap_i64]
            omega
          have hwr := hq.symm
          clear hq hno
          go_upto_region 11 with fail
          clear hwr
          go_cut [47] from 42 to 47 (fun z wx => z = .bool true ∧ wx = w5)
          case first =>
            by_cases hq0 : q < 0
            · clear hq2
              go_wp2_with fail
              go_meet
              exact ⟨rfl, rfl⟩
            · have hq3 : 3 < q := by omega
              clear hq2
              go_wp2_with fail
              go_meet
              exact ⟨by simp [hq3], rfl⟩
          case rest =>
          obtain ⟨rfl, hwc⟩ := hcut
          subst wc
          go_wp2_with fail
          refine HDr.out.mono ?_
          rintro e w6 ⟨rfl, hT6⟩
          have HT6 := Lib.hid hT6
          clear hT6 HDr
          go_wp2
          go_roundw
          case rel => exact ⟨k + 1, S, M, s, by go_num, by omega, by omega, HF, Lib.hid ((HT6.out.less (fun p hp => List.mem_cons_of_mem _ hp)).moreK (by omega))⟩
          case measure => simp [intOf]; omega
        · obtain ⟨kk, hkk⟩ : ∃ kk, i = kk + 2 := ⟨i - 2, by omega⟩
          subst hkk
          have k3 : kk < 4 := by omega
          have kz : (0 : Int) ≤ kk := by omega
          have k3i : (kk : Int) ≤ 3 := by omega
          have k4i : (kk : Int) < 4 := by omega
          have hwr : IntKind.i64.wrap (inode - 2) = kk := by rw [IntKind.wrap_i64]; omega
          obtain ⟨out, hout⟩ : ∃ out, out = (Fp.chg (s (kk + 2)) call inode tr off g.data.toList).1 := ⟨_, rfl⟩
          obtain ⟨_, _, p1, _, _, _⟩ := hs5
          have hT5 := HT5.out.below (Below.refl _ _).drew
          have HTr2 : Hid (∀ W, Below w5.drew.heap.size w5.drew W → W.cell? ⟨wb, kk, none⟩ = some (.string ⟨(s (kk + 2)).toArray⟩) ∧ W.cell? ⟨rb, 0, none⟩ = some (.int .i64 call) ∧ W.cell? ⟨rb, 1, none⟩ = some (.int .i64 inode) ∧ W.cell? ⟨rb, 2, none⟩ = some (.bool tr) ∧ W.cell? ⟨rb, 3, none⟩ = some (.int .i64 off) ∧ W.cell? ⟨rb, 4, none⟩ = some (.string g)) := Lib.hid fun W hW => ⟨wt_cell ((hT5.below hW).get (k := wb) (o := oWt s) (by simp)) k3, rec_cells ((hT5.below hW).get (k := rb) (by simp))⟩
          have hs0 := HTr2.out _ (Below.refl _ _)
          have HCh := Lib.hid (ref_change (s (kk + 2)) call inode tr off g (by obtain ⟨B0, _, hy⟩ := HF.out.files (kk + 2) (by omega) (by omega); exact hy.few) Hg.out w5.drew)
          rw [← hout, ← hEe] at HCh
          rw [← hout] at hok
          obtain ⟨st, hst⟩ : ∃ st : ByteArray, st = ⟨(s (kk + 2)).toArray⟩ := ⟨_, rfl⟩
          rw [← hst] at HTr2 hs0 HCh
          have HOk := Lib.hid hok
          have Hii := Lib.hid hii
          unfold Fl.recV at HCh
          clear hT5 hok hout hEe i2 i5 hst hii
          go_upto_region 15 with fail
          clear hwr
          refine wp_region_held_drew (S := (fun W => W.cell? ⟨wb, kk, none⟩ = some (.string st) ∧ W.cell? ⟨rb, 0, none⟩ = some (.int .i64 call) ∧ W.cell? ⟨rb, 1, none⟩ = some (.int .i64 inode) ∧ W.cell? ⟨rb, 2, none⟩ = some (.bool tr) ∧ W.cell? ⟨rb, 3, none⟩ = some (.int .i64 off) ∧ W.cell? ⟨rb, 4, none⟩ = some (.string g))) (by kernel_rfl) ?_ (fun hHeld => ?_)
          · exact hs0
          refine wpAnyH_take (i := 0) (oi := _) (v := ?_) rfl (by kernel_rfl) (by kernel_rfl) (by kernel_rfl) (fun _ _ _ h => h) (Or.inl ⟨by rfl, ?_⟩) (by assumption) ?_
          rotate_left
          · intro w hSw
            (try dsimp only at hSw)
            first | (go_simp; done) | (go_simp; with_reducible rfl)
          try simp only [List.getElem_toArray, List.getElem_cons_succ, List.getElem_cons_zero, Act.put, List.setIfInBounds_toArray, List.set_cons_zero, List.set_cons_succ]
          refine wpAnyH_take (i := 1) (oi := _) (v := ?_) rfl (by kernel_rfl) (by kernel_rfl) (by kernel_rfl) (fun _ _ _ h => h) (Or.inl ⟨by rfl, ?_⟩) (by assumption) ?_
          rotate_left
          · intro w hSw
            (try dsimp only at hSw)
            first | (go_simp; done) | (go_simp; with_reducible rfl)
          try simp only [List.getElem_toArray, List.getElem_cons_succ, List.getElem_cons_zero, Act.put, List.setIfInBounds_toArray, List.set_cons_zero, List.set_cons_succ]
          refine wpAnyH_take (i := 2) (oi := _) (v := ?_) rfl (by kernel_rfl) (by kernel_rfl) (by kernel_rfl) (fun _ _ _ h => h) (Or.inl ⟨by rfl, ?_⟩) (by assumption) ?_
          rotate_left
          · intro w hSw
            (try dsimp only at hSw)
            first | (go_simp; done) | (go_simp; with_reducible rfl)
          try simp only [List.getElem_toArray, List.getElem_cons_succ, List.getElem_cons_zero, Act.put, List.setIfInBounds_toArray, List.set_cons_zero, List.set_cons_succ]
          refine wpAnyH_take (i := 3) (oi := _) (v := ?_) rfl (by kernel_rfl) (by kernel_rfl) (by kernel_rfl) (fun _ _ _ h => h) (Or.inl ⟨by rfl, ?_⟩) (by assumption) ?_
          rotate_left
          · intro w hSw
            (try dsimp only at hSw)
            first | (go_simp; done) | (go_simp; with_reducible rfl)
          try simp only [List.getElem_toArray, List.getElem_cons_succ, List.getElem_cons_zero, Act.put, List.setIfInBounds_toArray, List.set_cons_zero, List.set_cons_succ]
          refine wpAnyH_take (i := 4) (oi := _) (v := ?_) rfl (by kernel_rfl) (by kernel_rfl) (by kernel_rfl) (fun _ _ _ h => h) (Or.inl ⟨by rfl, ?_⟩) (by assumption) ?_
          rotate_left
          · intro w hSw
            (try dsimp only at hSw)
            first | (go_simp; done) | (go_simp; with_reducible rfl)
          try simp only [List.getElem_toArray, List.getElem_cons_succ, List.getElem_cons_zero, Act.put, List.setIfInBounds_toArray, List.set_cons_zero, List.set_cons_succ]
          refine wpAnyH_ready (rs := [5]) (by kernel_rfl) (by simp) ?_
          refine AllReadyH.cons (o := _) rfl (fun K hK => ?_) AllReadyH.nil
          go_simp
          refine HCh.out.mono ?_
          rintro e w6 ⟨rfl, hb6⟩
          have HT6 := Lib.hid ((HT5.out.below (Below.refl _ _).drew).below hb6)
          have hs6 := HTr2.out w6 hb6
          clear hb6
          dsimp only
          refine hK.out _ _ hs6 (fun hHeld => ?_)
          clear hK K
          try simp only [List.getElem_toArray, List.getElem_cons_succ, List.getElem_cons_zero, Act.put, List.setIfInBounds_toArray, List.set_cons_zero, List.set_cons_succ]
          refine wpAnyH_take (i := 6) (oi := _) (v := ?_) rfl (by kernel_rfl) (by kernel_rfl) (by kernel_rfl) (fun _ _ _ h => h) (Or.inl ⟨by rfl, ?_⟩) (by assumption) ?_
          rotate_left
          · intro w hSw
            (try dsimp only at hSw)
            first | (go_simp; done) | (go_simp; with_reducible rfl)
          try simp only [List.getElem_toArray, List.getElem_cons_succ, List.getElem_cons_zero, Act.put, List.setIfInBounds_toArray, List.set_cons_zero, List.set_cons_succ]
          refine wpAnyH_take (i := 7) (oi := _) (v := ?_) rfl (by kernel_rfl) (by kernel_rfl) (by kernel_rfl) (fun _ _ _ h => h) (Or.inl ⟨by rfl, ?_⟩) (by assumption) ?_
          rotate_left
          · intro w hSw
            (try dsimp only at hSw)
            first | (go_simp; done) | (go_simp; with_reducible rfl)
          try simp only [List.getElem_toArray, List.getElem_cons_succ, List.getElem_cons_zero, Act.put, List.setIfInBounds_toArray, List.set_cons_zero, List.set_cons_succ]
          refine wpAnyH_take (i := 8) (oi := _) (v := ?_) rfl (by kernel_rfl) (by kernel_rfl) (by kernel_rfl) (fun _ _ _ h => h) (Or.inl ⟨by rfl, ?_⟩) (by assumption) ?_
          rotate_left
          · intro w hSw
            (try dsimp only at hSw)
            first | (go_simp; done) | (go_simp; with_reducible rfl)
          try simp only [List.getElem_toArray, List.getElem_cons_succ, List.getElem_cons_zero, Act.put, List.setIfInBounds_toArray, List.set_cons_zero, List.set_cons_succ]
          refine wpAnyH_take (i := 9) (oi := _) (v := ?_) rfl (by kernel_rfl) (by kernel_rfl) (by kernel_rfl) (fun _ _ _ h => h) (Or.inl ⟨by rfl, ?_⟩) (by assumption) ?_
          rotate_left
          · intro w hSw
            (try dsimp only at hSw)
            first | (go_simp; done) | (go_simp; with_reducible rfl)
          try simp only [List.getElem_toArray, List.getElem_cons_succ, List.getElem_cons_zero, Act.put, List.setIfInBounds_toArray, List.set_cons_zero, List.set_cons_succ]
          refine wpAnyH_take (i := 10) (oi := _) (v := ?_) rfl (by kernel_rfl) (by kernel_rfl) (by kernel_rfl) (fun _ _ _ h => h) (Or.inl ⟨by rfl, ?_⟩) (by assumption) ?_
          rotate_left
          · intro w hSw
            (try dsimp only at hSw)
            first | (go_simp; done) | (go_simp; with_reducible rfl)
          try simp only [List.getElem_toArray, List.getElem_cons_succ, List.getElem_cons_zero, Act.put, List.setIfInBounds_toArray, List.set_cons_zero, List.set_cons_succ]
          refine wpAnyH_done (by kernel_rfl) ?_ _
          (try simp only [Exit.then])
          clear hs0 hs6 HCh p1
          obtain ⟨v0, _, _⟩ := vol_cells (HT6.out.get (k := v) (o := oVol t x f) (by simp))
          by_cases hE : E = 0
          · subst hE
            have HF6 := Lib.hid (HOk.out rfl)
            obtain ⟨s6, hs6⟩ : ∃ s6, s6 = updS s (kk + 2) out := ⟨_, rfl⟩
            have hs0 := wt_cell (HT6.out.get (k := wb) (o := oWt s) (by simp)) k3
            have hf0 := frozen_of_row w6 wb kk _ _ (HT6.out.get (k := wb) (o := oWt s) (by simp))
            have hT7 : Tl x t S N 13 (4000000 + 2000000 * k) Nof w (w6.setCell ⟨wb, kk, none⟩ (.string ⟨out.toArray⟩)) [(wb, oWt s6), (v, oVol t x f), (f, oFil t x)] := by
              refine HT6.out.set (k := wb) (C := wtC s) (ty := 9) (by unfold oWt; simp) _ fun p hp => ?_
              rw [wtC_set s k3, ← hs6]
              simp only [List.mem_cons, List.not_mem_nil, or_false] at hp ⊢
              rcases hp with rfl | rfl | rfl
              · exact Or.inl rfl
              · exact Or.inr ⟨Or.inr (Or.inr (Or.inl rfl)), Hne.out.1⟩
              · exact Or.inr ⟨Or.inr (Or.inr (Or.inr rfl)), Hne.out.2⟩
            obtain ⟨w7, hw7⟩ : ∃ u, u = w6.setCell ⟨wb, kk, none⟩ (.string ⟨out.toArray⟩) := ⟨_, rfl⟩
            rw [← hw7] at hT7
            rw [← hs6] at HF6
            have HT7 := Lib.hid hT7
            have HW7 := Lib.hid hw7.symm
            have HCm := Lib.hid (HT7.out.commit (by omega) (by omega))
            have HV7 := Lib.hid (vol_cells (HT7.out.get (k := v) (o := oVol t x f) (by simp)))
            clear hT7 hw7 hs6 v0
            go_upto_region 21 with fail
            rw [HW7.out]
            obtain ⟨v0, _, _⟩ := HV7.out
            go_wp2_with fail
            refine HCm.out.mono ?_
            rintro e w8 ⟨rfl, S8, hT8⟩
            have HT8 := Lib.hid hT8
            clear hT8 HCm v0 hs0 hf0
            go_upto_region 24 with fail
            go_loopw [11, 12, 13] (fun z _ _ wr => ∃ j : Nat, z = .int .i64 j ∧ j ≤ 4 ∧ Hid (Tl x t S8 N 0 (4000000 + 2000000 * k + 2000000) Nof w wr [(wb, oWt s6), (v, oVol t x f), (f, oFil t x)])) (fun z _ _ _ => 4 - (intOf z).toNat)
            case atStart => exact ⟨0, rfl, by omega, HT8⟩
            case round =>
              obtain ⟨j, rfl, hj, HTj⟩ := hrel
              by_cases hjl : j < 4
              · have j4 : (j : Int) < 4 := by omega
                have j0 : (0 : Int) ≤ j := by omega
                have HBy := Lib.hid (HTj.out.fbytes (f := f) (by simp) HF6.out (j + 2) (by omega) (by omega))
                rw [show ((j + 2 : Nat) : Int) = (j : Int) + 2 by omega] at HBy
                obtain ⟨sj, hsj⟩ : ∃ sj : ByteArray, sj = ⟨(s6 (j + 2)).toArray⟩ := ⟨_, rfl⟩
                obtain ⟨_, _, v2⟩ := vol_cells (HTj.out.get (k := v) (o := oVol t x f) (by simp))
                rw [← hsj] at HBy
                have Hjl := Lib.hid hjl
                have Hsj := Lib.hid hsj
                clear hjl hj hsj
                go_wp2_with fail
                refine HBy.out.mono ?_
                rintro e w9 ⟨rfl, hb9⟩
                have HT9 := Lib.hid (HTj.out.below hb9)
                have c9 := wt_cell (HT9.out.get (k := wb) (o := oWt s6) (by simp)) Hjl.out
                rw [← Hsj.out] at c9
                clear hb9 HBy v2
                go_wp2
                go_roundw
                case rel => exact ⟨j + 1, by go_num, by have := Hjl.out; omega, HT9⟩
                case measure => simp [intOf]; have := Hjl.out; omega
              · obtain rfl : j = 4 := by omega
                clear hjl hj
                go_wp2
                go_roundw
                case rel => exact ⟨k + 1, S8, N, s6, by go_num, by omega, by omega, HF6, Lib.hid (HTj.out.moreK (by omega))⟩
                case measure => simp [intOf]; omega
          · have hEb : (E == 0) = false := by simp [hE]
            have HDr := Lib.hid (HT6.out.drop HT.out.good)
            go_wp2_with fail
            refine HDr.out.mono ?_
            rintro e w7 ⟨rfl, hT7⟩
            have HT7 := Lib.hid hT7
            clear hT7 HDr
            go_wp2
            go_roundw
            case rel => exact ⟨k + 1, S, M, s, by go_num, by omega, by omega, HF, Lib.hid ((HT7.out.less (fun p hp => List.mem_cons_of_mem _ hp)).moreK (by omega))⟩
            case measure => simp [intOf]; omega
      · have HBw := Lib.hid HT.out.belowW
        go_wp2_with fail
        refine (Fl.lives_any _).mono ?_
        rintro e w9 ⟨rfl, hb9⟩
        go_wp2
        go_ret
        exact ⟨rfl, HBw.out.trans (hb9.mono HBw.out.size)⟩
    · have HBw := Lib.hid HT.out.belowW
      go_wp2_with fail
      refine (Fl.lives_any _).mono ?_
      rintro e w9 ⟨rfl, hb9⟩
      go_wp2
      go_ret
      exact ⟨rfl, HBw.out.trans (hb9.mono HBw.out.size)⟩

end Go.Proofs.YtginffdngphjpaaGreatDoor
