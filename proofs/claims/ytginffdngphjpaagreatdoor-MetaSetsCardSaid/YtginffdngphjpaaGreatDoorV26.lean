/- Walks: how many descriptors a node has; blocks given back. -/
import Derived.Test.YtginffdngphjpaaGreatDoorV18
set_option linter.unusedVariables false
set_option linter.unusedSimpArgs false
namespace Go.Proofs.YtginffdngphjpaaGreatDoor
open Go.RowKit Go.Shelf

attribute [local go_sem] Oper.semAt_some

theorem sum_step {O : List Int} {k : Nat} {n : Int} (h : O[k]? = some n) : (O.take (k + 1)).sum = (O.take k).sum + n := by
  rw [List.take_add_one, h, List.sum_append]
  simp
theorem sum_rng {O : List Int} (hO : ∀ n ∈ O, 0 ≤ n ∧ n ≤ 8) : ∀ k, 0 ≤ (O.take k).sum ∧ (O.take k).sum ≤ 8 * k
  | 0 => by simp
  | k + 1 => by
    have h1 := sum_rng hO k
    by_cases hk : k < O.length
    · have hg : O[k]? = some O[k] := List.getElem?_eq_getElem hk
      have h2 := hO _ (List.mem_of_getElem? hg)
      rw [sum_step hg]
      omega
    · rw [List.take_of_length_le (by omega)] at h1 ⊢
      omega

set_option maxHeartbeats 8000000 in
set_option maxRecDepth 100000 in
theorem iopen_any (y : Gd.Ino) (hy : y.Shape) (hO : ∀ n ∈ y.O, 0 ≤ n ∧ n ≤ 8) (w : World) :
    Calls Tryz.prog 118 #[inoV y] w fun e w' => e = .returned (.int .i64 y.O.sum) ∧ Below w.heap.size w w' := by
  obtain ⟨hb0, hr0⟩ := below_new w (inoC y) 25
  obtain ⟨ib, hib⟩ : ∃ ib, ib = w.heap.size := ⟨_, rfl⟩
  obtain ⟨w0, hw0⟩ : ∃ u, u = w.alloc (.cells (inoC y) 25) := ⟨_, rfl⟩
  rw [← hw0, ← hib] at hr0
  rw [← hw0] at hb0
  have HI0 : Hid (InoAt w0 ib y) := Lib.hid ⟨hr0, hy⟩
  have HL : Hid ((intC y.O).length = 8) := Lib.hid (by rw [intC_len]; exact hy.2)
  have HO := Lib.hid hO
  have HSh := Lib.hid hy
  have HB0 := Lib.hid hb0
  have HW0 := Lib.hid hw0.symm
  have Hib := Lib.hid hib.symm
  have HAll : Hid (y.O.take 8 = y.O) := Lib.hid (List.take_of_length_le (by rw [hy.2]; exact Nat.le_refl _))
  clear hy hO hb0 hr0 hib hw0
  unfold inoV at *
  go_enter Tryz.func118, Tryz.ntmps118
  go_upto_region 2 with fail
  rw [HW0.out, Hib.out]
  go_upto_region 3 with (refine wpList_load_mid rfl 23 _ rfl ib 7 rfl (intC y.O) _ HI0.out.opens Tryz.underlying23 rfl (by rw [HL.out]; exact Tryz.size8) ?_)
  go_loopw [3, 8] (fun u z wr => ∃ k : Nat, z = .int .i64 k ∧ k ≤ 8 ∧ u = .int .i64 (y.O.take k).sum ∧ wr = w0) (fun _ z _ => 8 - (intOf z).toNat)
  case atStart => exact ⟨0, rfl, by omega, by simp, rfl⟩
  case round =>
    obtain ⟨k, rfl, hk, rfl, hwr⟩ := hrel
    subst hwr
    by_cases hlt : k < 8
    · obtain ⟨n, hn⟩ : ∃ n, y.O[k]? = some n := ⟨_, List.getElem?_eq_getElem (by rw [HSh.out.2]; omega)⟩
      have hc := run_index_one 23 3 8 (intC y.O).toArray .i64 .i64 k _ wr Tryz.underlying23 Tryz.underlying3 Tryz.infoInts hlt (by rw [List.getElem?_toArray]; exact intC_get hn)
      have h8 : (k : Int) < 8 := by omega
      have HSt := Lib.hid (sum_step hn)
      have hnr := HO.out n (List.mem_of_getElem? hn)
      have hsr := sum_rng HO.out k
      obtain ⟨q, hq⟩ : ∃ q, q = (y.O.take k).sum := ⟨_, rfl⟩
      rw [← hq] at HSt hsr ⊢
      obtain ⟨hn0, hn8⟩ := hnr
      obtain ⟨hs0, hs8⟩ := hsr
      have Hlt := Lib.hid hlt
      clear hn hq hlt
      go_wp2_with fail
      go_roundw
      case rel => exact ⟨k + 1, by go_num, by have := Hlt.out; omega, by rw [HSt.out], trivial⟩
      case measure => simp [intOf]; have := Hlt.out; omega
    · obtain rfl : k = 8 := by omega
      rw [HAll.out]
      clear hlt
      go_wp2_with fail
      go_ret
      exact ⟨rfl, HB0.out⟩

theorem fold_len : ∀ (L : List Int) (m : List UInt8), (L.foldl Gd.giveI m).length = m.length
  | [], _ => rfl
  | n :: r, m => by
    rw [List.foldl_cons, fold_len r]
    unfold Gd.giveI
    split
    · exact Gd.give_length _ _
    · rfl
theorem fold_step {L : List Int} {k : Nat} {n : Int} (m : List UInt8) (h : L[k]? = some n) : (L.take (k + 1)).foldl Gd.giveI m = Gd.giveI ((L.take k).foldl Gd.giveI m) n := by
  rw [List.take_add_one, h, List.foldl_append]
  rfl

set_option maxHeartbeats 8000000 in
set_option maxRecDepth 100000 in
/-- blocks of a row are given back -/
theorem mgive_any {x t c K : Nat} {S : List UInt8} {M : Gd.Vol} {F : Nat → Prop} (b o cp : Nat) (L : List Int) (w : World) (h : MetaV x t S M c K w F) (hc : c < 64) (hL : L.length ≤ 100) (hb : b < w.heap.size) (hA : ∀ (j : Nat) (n : Int), L[j]? = some n → w.cell? ⟨b, o + j, none⟩ = some (.int .i64 n)) :
    Calls Tryz.prog 119 #[.pointer (some ⟨x, 0, none⟩), .slice (some ⟨b, o, none⟩) L.length cp] w fun e w' => e = .returned (.int .i64 0) ∧ Turns x t S (M.setMap (L.foldl Gd.giveI M.map)) (c + 1) K F w w' := by
  have hml : M.map.length = 16 := by
    obtain ⟨P, h, hG⟩ := h
    exact hG.mapl
  have HMp := Lib.hid (map_any w h)
  obtain ⟨m, hmm⟩ : ∃ m, m = M.map := ⟨_, rfl⟩
  rw [← hmm] at hml HMp ⊢
  have HM := Lib.hid h
  have HAt := Lib.hid hA
  have Hb := Lib.hid hb
  have HC := Lib.hid hc
  obtain ⟨l, hl⟩ : ∃ l, l = L.length := ⟨_, rfl⟩
  have Hl := Lib.hid hl
  rw [← hl] at hL ⊢
  have hl2 : (l : Int) ≤ 100 := by omega
  obtain ⟨Z, hZ⟩ : ∃ Z : Array Value, Z = #[.int .u8 0, .int .u8 0, .int .u8 0, .int .u8 0, .int .u8 0, .int .u8 0, .int .u8 0, .int .u8 0, .int .u8 0, .int .u8 0, .int .u8 0, .int .u8 0, .int .u8 0, .int .u8 0, .int .u8 0, .int .u8 0] := ⟨_, rfl⟩
  have HZs : Hid (Z.size = 16) := Lib.hid (by rw [hZ]; rfl)
  have HZ := Lib.hid hZ.symm
  have HS := Lib.hid (cellsB_len hml)
  have HSk : Hid (∀ k, (cellsB ((L.take k).foldl Gd.giveI m)).size = 16) := Lib.hid fun k => cellsB_len (by rw [fold_len]; exact hml)
  have HGv : Hid (∀ k n W, Calls Tryz.prog 53 #[mapV ((L.take k).foldl Gd.giveI m), .int .i64 n] W fun e w' => e = .returned (mapV (Gd.giveI ((L.take k).foldl Gd.giveI m) n)) ∧ Below W.heap.size W w') := Lib.hid fun k n W => give_any _ (by rw [fold_len]; exact hml) n W
  have HSm : Hid (∀ W, Below w.heap.size w W → Calls Tryz.prog 13 #[.pointer (some ⟨x, 0, none⟩), mapV (L.foldl Gd.giveI m)] W fun e w' => e = .returned (.int .i64 0) ∧ Turns x t S (M.setMap (L.foldl Gd.giveI m)) (c + 1) K F w w') := Lib.hid fun W hW => by
    refine (setmap_any _ (by rw [fold_len]; exact hml) W (HM.out.below hW) HC.out).mono ?_
    rintro e w' ⟨he, ht⟩
    exact ⟨he, ht.behind hW⟩
  have HAll : Hid (L.take l = L) := Lib.hid (by rw [hl, List.take_length])
  unfold mapV at *
  clear h hmm hZ hl hml hA hb hc
  go_enter Tryz.func119, Tryz.ntmps119
  go_wp2_with fail
  refine HMp.out.mono ?_
  rintro e w1 ⟨rfl, hb1⟩
  obtain ⟨hb2, hn2⟩ := below_new w1 Z 27
  obtain ⟨w2, hw2⟩ : ∃ u, u = w1.alloc (.cells Z 27) := ⟨_, rfl⟩
  obtain ⟨mb, hbe⟩ : ∃ b, b = w1.heap.size := ⟨_, rfl⟩
  rw [← hw2, ← hbe] at hn2
  rw [← hw2] at hb2
  obtain ⟨hb3, hn3⟩ := whole_at hn2 (vs := (cellsB m).toList) (B := mb) (by rw [HZs.out, Array.length_toList, HS.out]) (Nat.le_refl mb)
  obtain ⟨w3, hw3⟩ : ∃ u, u = w2.setCells mb 0 (cellsB m).toList := ⟨_, rfl⟩
  rw [← hw3] at hb3 hn3
  have HN2 := Lib.hid hn2
  have HN3 : Hid (w3.heap[mb]? = some (.cells (cellsB m) 27 (0, 0))) := Lib.hid hn3
  have HB3 : Hid (Below w.heap.size w w3) := Lib.hid (by
    have h1 := hb1.size
    have h2 := hb2.size
    have h3 : w1.heap.size ≤ mb := by omega
    exact (hb1.trans (hb2.mono h1)).trans (hb3.mono (by omega)))
  have Hmb : Hid (w.heap.size ≤ mb) := Lib.hid (by rw [hbe]; exact hb1.size)
  have Hbe := Lib.hid hbe.symm
  have HW2 := Lib.hid hw2.symm
  have HW3 := Lib.hid hw3.symm
  rw [← HZ.out] at HW2
  clear hb1 hb2 hn2 hw2 hbe hb3 hn3 hw3 HMp
  go_upto_region 3 with (refine wpList_store_mid rfl 27 _ _ rfl mb 0 (cellsB m) (by rw [← Hbe.out]; rfl) rfl (by rw [HW2.out]; exact there_at HN2.out (by rw [HZs.out, HS.out])) (by rw [HS.out]; exact Tryz.sizeMap) (cellsB_one _) ?_; rw [HW2.out, HW3.out])
  rw [Hbe.out]
  go_loopw [12] (fun z wr => ∃ k : Nat, z = .int .i64 k ∧ k ≤ l ∧ Hid (wr.heap[mb]? = some (.cells (cellsB ((L.take k).foldl Gd.giveI m)) 27 (0, 0))) ∧ Hid (Below w.heap.size w wr)) (fun z _ => l - (intOf z).toNat)
  case atStart => exact ⟨0, rfl, by omega, HN3, HB3⟩
  case round =>
    obtain ⟨k, rfl, hk, HN, HB⟩ := hrel
    by_cases hlt : k < l
    · obtain ⟨n, hn⟩ : ∃ n, L[k]? = some n := ⟨_, List.getElem?_eq_getElem (by rw [← Hl.out]; exact hlt)⟩
      have c0 : wr.cell? ⟨b, o + k, none⟩ = some (.int .i64 n) := (HB.out.cell (p := ⟨b, o + k, none⟩) Hb.out).trans (HAt.out k n hn)
      have h1 : (k : Int) < l := by omega
      have h0 : (0 : Int) ≤ k := by omega
      have HSt := Lib.hid (fold_step m hn)
      have Hlt := Lib.hid hlt
      have HSz := Lib.hid (HSk.out k)
      have HSz1 := Lib.hid (HSk.out (k + 1))
      have HGc := Lib.hid (HGv.out k n wr)
      rw [← HSt.out] at HGc
      clear hn hlt
      go_wp2_with (refine wpList_load_row rfl 27 _ rfl mb rfl 27 (cellsB ((L.take k).foldl Gd.giveI m)) (0, 0) _ HN.out Tryz.underlying27 rfl (by rw [HSz.out]; exact Tryz.sizeMap) ?_)
      refine HGc.out.mono ?_
      rintro e w4 ⟨rfl, hb4⟩
      have HN4 := Lib.hid ((hb4.block mb (lt_get HN.out)).trans HN.out)
      have HB4 := Lib.hid (HB.out.trans (hb4.mono HB.out.size))
      clear hb4 c0 HGc
      go_wp2_with (refine wpList_store_mid rfl 27 _ _ rfl mb 0 (cellsB ((L.take (k + 1)).foldl Gd.giveI m)) rfl rfl (there_at HN4.out (by rw [HSz.out, HSz1.out])) (by rw [HSz1.out]; exact Tryz.sizeMap) (cellsB_one _) ?_; obtain ⟨hbw, hbg⟩ := whole_at HN4.out (vs := (cellsB ((L.take (k + 1)).foldl Gd.giveI m)).toList) (B := mb) (by rw [HSz.out, Array.length_toList, HSz1.out]) (Nat.le_refl mb); generalize (World.setCells _ _ _ _) = w5 at hbw hbg ⊢)
      have HN5 : Hid (w5.heap[mb]? = some (.cells (cellsB ((L.take (k + 1)).foldl Gd.giveI m)) 27 (0, 0))) := Lib.hid hbg
      have HB5 := Lib.hid (HB4.out.trans (hbw.mono Hmb.out))
      clear hbw hbg
      go_roundw
      case rel => exact ⟨k + 1, by go_num, by have := Hlt.out; omega, HN5, HB5⟩
      case measure => simp [intOf]; have := Hlt.out; omega
    · obtain rfl : k = l := by omega
      rw [HAll.out] at HN
      have HSz := Lib.hid (HSk.out k)
      rw [HAll.out] at HSz
      have HSc := Lib.hid (HSm.out wr HB.out)
      clear hlt
      go_wp2_with (refine wpList_load_row rfl 27 _ rfl mb rfl 27 (cellsB (L.foldl Gd.giveI m)) (0, 0) _ HN.out Tryz.underlying27 rfl (by rw [HSz.out]; exact Tryz.sizeMap) ?_)
      refine HSc.out.mono ?_
      rintro e w4 ⟨rfl, ht⟩
      go_wp2
      go_ret
      exact ⟨rfl, ht⟩

end Go.Proofs.YtginffdngphjpaaGreatDoor

/- Walks: a name that is not there; a name taken out; a node kept, or let go. -/
namespace Go.Proofs.YtginffdngphjpaaGreatDoor
open Go.RowKit Go.Shelf

attribute [local go_sem] Oper.semAt_some

set_option maxHeartbeats 8000000 in
set_option maxRecDepth 100000 in
theorem find_no {x t c K d : Nat} {S : List UInt8} {M : Gd.Vol} {T : Gd.Tab} {F : Nat → Prop} (s : List UInt8) (w : World) (h : MetaV x t S M c K w F) (hD : Gd.DirOf M d T) (hs : s.length ≤ 1000) (hne : s ≠ []) (hf : Gd.findT T s (Gd.hN s) = none) :
    Calls Tryz.prog 77 #[.pointer (some ⟨x, 0, none⟩), .int .i64 d, .string ⟨s.toArray⟩] w fun e w' => e = .returned (.tuple #[.int .i64 0, .int .i64 0]) ∧ Below w.heap.size w w' := by
  have HTb := Lib.hid (tableI_dir w h hD)
  have HTs := Lib.hid (tabC_size hD.ok.len)
  have HFi := Lib.hid fun W => tfind_any T hD.ok.len ⟨s.toArray⟩ (by rw [Lib.size_eq]; show s.length ≤ _; omega) hne (Gd.hN s) rfl W
  rw [show (⟨s.toArray⟩ : ByteArray).data.toList = s from rfl, hf, show numO none = -1 from rfl] at HFi
  obtain ⟨sb, hsb⟩ : ∃ sb : ByteArray, sb = ⟨s.toArray⟩ := ⟨_, rfl⟩
  rw [← hsb] at HFi ⊢
  clear h hD hs hne hf hsb
  unfold tabV at *
  go_enter Tryz.func77, Tryz.ntmps77
  go_upto_region 2 with (first | (go_at_call 112; refine HTb.out.mono ?_; rintro e w2 ⟨rfl, hb2⟩; have HB2 := Lib.hid hb2; clear hb2) | (rw [← zTab]; refine wpList_store_mid rfl 181 _ _ rfl w2.heap.size 0 (tabC T) rfl rfl (there_at (heap_alloc_new _ _) (by rw [noTab_size, HTs.out])) (by rw [HTs.out]; exact Tryz.sizeTab) (tabC_one _) ?_; obtain ⟨hbw, hbg⟩ := new_whole2 w2 (tabC Gd.noTab) 181 (tabC T).toList (by rw [noTab_size, Array.length_toList, HTs.out]); generalize (World.setCells _ _ _ _) = w3 at hbw hbg ⊢; have HN3 : Hid (w3.heap[w2.heap.size]? = some (.cells (tabC T) 181 (0, 0))) := Lib.hid hbg; have HB3 := Lib.hid (HB2.out.trans (hbw.mono HB2.out.size)); clear hbw hbg))
  go_wp2_with (first | (refine wpList_load_row rfl 181 _ rfl w2.heap.size rfl 181 (tabC T) (0, 0) _ HN3.out Tryz.underlying181 rfl (by rw [HTs.out]; exact Tryz.sizeTab) ?_) | (go_at_call 113; refine (HFi.out w3).mono ?_; rintro e w4 ⟨rfl, hb4⟩; have HB4 := Lib.hid (HB3.out.trans (hb4.mono HB3.out.size)); clear hb4))
  go_ret2
  exact ⟨rfl, HB4.out⟩

set_option maxHeartbeats 8000000 in
set_option maxRecDepth 100000 in
/-- a name is taken out, where it is: what change does, at the table without it -/
theorem take_ok {x t c K d : Nat} {S : List UInt8} {M : Gd.Vol} {T : Gd.Tab} {F : Nat → Prop} (s : List UInt8) (r : Int) (j : Fin 16) (w : World) (R : World → Prop) (h : MetaV x t S M c K w F) (hD : Gd.DirOf M d T) (hs : s.length ≤ 1000) (hne : s ≠ []) (hj : Gd.findT T s (Gd.hN s) = some j)
    (hC : ∀ W, Below w.heap.size w W → Calls Tryz.prog 144 #[.pointer (some ⟨x, 0, none⟩), .int .i64 d, .int .i64 (j.val : Nat), tabV (Gd.setT T j.val Gd.noEnt), .int .i64 (-1), .int .i64 0] W fun e w' => e = .returned (.int .i64 r) ∧ R w') :
    Calls Tryz.prog 117 #[.pointer (some ⟨x, 0, none⟩), .int .i64 d, .string ⟨s.toArray⟩] w fun e w' => e = .returned (.int .i64 r) ∧ R w' := by
  have HTb := Lib.hid (tableI_dir w h hD)
  have HTs := Lib.hid (tabC_size hD.ok.len)
  have HPl := Lib.hid fun W => tfind_any T hD.ok.len ⟨s.toArray⟩ (by rw [Lib.size_eq]; show s.length ≤ _; omega) hne (Gd.hN s) rfl W
  rw [show (⟨s.toArray⟩ : ByteArray).data.toList = s from rfl, hj] at HPl
  have HSt := Lib.hid fun W => tset_any T hD.ok.len j.val j.isLt Gd.noEnt W
  have HC := Lib.hid hC
  obtain ⟨k, hk⟩ : ∃ k, k = j.val := ⟨_, rfl⟩
  have hnk : numO (some j) = (k : Int) := by rw [hk]; rfl
  have hk16 : (k : Int) < 16 := by have := j.isLt; omega
  have hk0 : (0 : Int) ≤ k := by omega
  rw [← hk] at HSt HC
  rw [hnk] at HPl
  obtain ⟨T2, hT2⟩ : ∃ T2, T2 = Gd.setT T k Gd.noEnt := ⟨_, rfl⟩
  rw [← hT2] at HSt HC
  have HSt2 : Hid (∀ W, Calls Tryz.prog 145 #[tabV T, .int .i64 k, .agg #[.string ⟨#[]⟩, .int .i64 0]] W fun x w' => x = .returned (tabV T2) ∧ Below W.heap.size W w') := Lib.hid fun W => HSt.out W
  obtain ⟨sb, hsb⟩ : ∃ sb : ByteArray, sb = ⟨s.toArray⟩ := ⟨_, rfl⟩
  rw [← hsb] at HPl ⊢
  clear h hD hs hj hC hk hnk hT2 hsb hne HSt
  unfold tabV at *
  go_enter Tryz.func117, Tryz.ntmps117
  go_upto_region 2 with (first | (go_at_call 112; refine HTb.out.mono ?_; rintro e w2 ⟨rfl, hb2⟩; have HB2 := Lib.hid hb2; clear hb2) | (rw [← zTab]; refine wpList_store_mid rfl 181 _ _ rfl w2.heap.size 0 (tabC T) rfl rfl (there_at (heap_alloc_new _ _) (by rw [noTab_size, HTs.out])) (by rw [HTs.out]; exact Tryz.sizeTab) (tabC_one _) ?_; obtain ⟨hbw, hbg⟩ := new_whole2 w2 (tabC Gd.noTab) 181 (tabC T).toList (by rw [noTab_size, Array.length_toList, HTs.out]); generalize (World.setCells _ _ _ _) = w3 at hbw hbg ⊢; have HN3 : Hid (w3.heap[w2.heap.size]? = some (.cells (tabC T) 181 (0, 0))) := Lib.hid hbg; have HB3 := Lib.hid (HB2.out.trans (hbw.mono HB2.out.size)); clear hbw hbg))
  go_upto_region 7 with (first | (refine wpList_load_row rfl 181 _ rfl w2.heap.size rfl 181 (tabC T) (0, 0) _ HN3.out Tryz.underlying181 rfl (by rw [HTs.out]; exact Tryz.sizeTab) ?_) | (go_at_call 113; refine (HPl.out w3).mono ?_; rintro e w4 ⟨rfl, hb4⟩; have HB4 := Lib.hid (HB3.out.trans (hb4.mono HB3.out.size)); have HN4 := Lib.hid ((hb4.block _ (lt_get HN3.out)).trans HN3.out); clear hb4))
  go_wp2_with (first | (refine wpList_load_row rfl 181 _ rfl w2.heap.size rfl 181 (tabC T) (0, 0) _ HN4.out Tryz.underlying181 rfl (by rw [HTs.out]; exact Tryz.sizeTab) ?_) | (go_at_call 145; refine (HSt2.out w4).mono ?_; rintro e w5 ⟨rfl, hb5⟩; have HCc := Lib.hid (HC.out w5 (HB4.out.trans (hb5.mono HB4.out.size))); clear hb5) | (go_at_call 144; refine HCc.out.mono ?_; rintro e w6 ⟨rfl, hr6⟩))
  go_ret
  exact ⟨rfl, hr6⟩

/-- an array of blocks as a row -/
theorem slice_arr (b o : Nat) (w : World) : (Instr.sliceAt 22 (.pointer (some ⟨b, o, none⟩)) none none none).run Tryz.prog w = .ok (.slice (some ⟨b, o, none⟩) 4 4) w := by
  simp [go_sem, Instr.sliceAt, Instr.sliceBounds, Program.arrayLen, Tryz.underlying22, slicedAt, Program.elem, Addr.add]

end Go.Proofs.YtginffdngphjpaaGreatDoor

/- Walks: metadata: keep, less, Close. -/
namespace Go.Proofs.YtginffdngphjpaaGreatDoor
open Go.RowKit Go.Shelf

attribute [local go_sem] Oper.semAt_some

theorem run_loadAt_ino {w : World} {b t : Nat} {C : Array Value} (h : w.heap[b]? = some (.cells C t (0, 0))) (hs : C.size = 15) : (Instr.loadAt 25 (.pointer (some ⟨b, 0, none⟩))).run Tryz.prog w = .ok (.agg C) w := by
  have hr : w.rangeAt b 0 C.toList := fun j v hj => by
    rw [Nat.zero_add, cell_of_row w b j _ _ _ h]
    simpa using hj
  have := run_loadAt_mid (P := Tryz.prog) w b 0 25 C.toList _ hr Tryz.underlying25 rfl (by rw [Array.length_toList, hs]; exact Tryz.sizeIno)
  rw [this]

set_option maxHeartbeats 8000000 in
set_option maxRecDepth 100000 in
theorem keep_set {x t c K : Nat} {S : List UInt8} {M : Gd.Vol} {F : Nat → Prop} (i : Nat) (y : Gd.Ino) (hy : y.Shape) (hm : Gd.mayI y = true) (w : World) (h : MetaV x t S M c K w F) (h1 : 1 ≤ i) (h2 : i ≤ 32) (hc : c < 64) (hk : 0 < y.l ∨ 0 < y.O.sum) :
    Calls Tryz.prog 82 #[.pointer (some ⟨x, 0, none⟩), .int .i64 i, inoV y] w fun e w' => e = .returned (.int .i64 0) ∧ Turns x t S (M.setIno i y) (c + 1) K F w w' := by
  obtain ⟨hb0, hr0⟩ := below_new w (inoC y) 25
  obtain ⟨yb, hyb⟩ : ∃ yb, yb = w.heap.size := ⟨_, rfl⟩
  obtain ⟨w0, hw0⟩ : ∃ u, u = w.alloc (.cells (inoC y) 25) := ⟨_, rfl⟩
  rw [← hw0, ← hyb] at hr0
  rw [← hw0] at hb0
  have HIr := Lib.hid hr0
  have hI0 : InoAt w0 yb y := ⟨hr0, hy⟩
  have b1 := hI0.c1
  have HB0 := Lib.hid hb0
  have HS := Lib.hid (inoC_size hy)
  have HOp := Lib.hid fun W => iopen_any y hy (fun n hn => by have := (Gd.mayI_in hm).O n hn; omega) W
  have HSi : Hid (∀ W, Below w.heap.size w W → Calls Tryz.prog 12 #[.pointer (some ⟨x, 0, none⟩), .int .i64 i, inoV y] W fun e w' => e = .returned (.int .i64 0) ∧ Turns x t S (M.setIno i y) (c + 1) K F w w') := Lib.hid fun W hW => by
    have := setino_ok (i : Int) y hy hm W (h.below hW) (by omega) (by omega) hc
    rw [Int.toNat_natCast] at this
    refine this.mono ?_
    rintro e w' ⟨he, ht⟩
    exact ⟨he, ht.behind hW⟩
  have HW0 := Lib.hid hw0.symm
  have Hyb := Lib.hid hyb.symm
  obtain ⟨q, hq⟩ : ∃ q, q = y.O.sum := ⟨_, rfl⟩
  obtain ⟨l, hl⟩ : ∃ l, l = y.l := ⟨_, rfl⟩
  rw [← hq] at HOp hk
  rw [← hl] at hk b1
  clear h hy hm h1 h2 hc hb0 hr0 hyb hw0 hI0 hq hl
  unfold inoV at *
  go_enter Tryz.func82, Tryz.ntmps82
  go_upto_region 1 with fail
  rw [HW0.out, Hyb.out]
  by_cases hl0 : 0 < l
  · have HSc := Lib.hid (HSi.out w0 HB0.out)
    clear hk
    go_wp2_with (first | (refine wpList_load_row rfl 25 _ rfl yb rfl 25 (inoC y) (0, 0) _ HIr.out Tryz.underlying25 rfl (by rw [HS.out]; exact Tryz.sizeIno) ?_) | (go_at_call 12; refine HSc.out.mono ?_; rintro e w3 ⟨rfl, ht3⟩))
    go_ret
    exact ⟨rfl, ht3⟩
  · have hq0 : 0 < q := hk.resolve_left hl0
    have hlg := run_loadAt_ino HIr.out HS.out
    clear hk
    go_upto_region 2 with (first | (refine wpList_load_guarded _ _ rfl (by rfl) 25 _ rfl (.pointer (some ⟨yb, 0, none⟩)) (.agg (inoC y)) rfl hlg ?_) | (go_at_call 118; refine (HOp.out w0).mono ?_; rintro e w2 ⟨rfl, hb2⟩; have HI2 := Lib.hid ((hb2.block yb (lt_get HIr.out)).trans HIr.out); have HSc := Lib.hid (HSi.out w2 (HB0.out.trans (hb2.mono HB0.out.size))); clear hb2))
    go_wp2_with (first | (refine wpList_load_row rfl 25 _ rfl yb rfl 25 (inoC y) (0, 0) _ HI2.out Tryz.underlying25 rfl (by rw [HS.out]; exact Tryz.sizeIno) ?_) | (go_at_call 12; refine HSc.out.mono ?_; rintro e w3 ⟨rfl, ht3⟩))
    go_ret
    exact ⟨rfl, ht3⟩

set_option maxHeartbeats 8000000 in
set_option maxRecDepth 100000 in
theorem keep_go {x t c K : Nat} {S : List UInt8} {M : Gd.Vol} {F : Nat → Prop} (i : Nat) (y : Gd.Ino) (hy : y.Shape) (hO : ∀ n ∈ y.O, 0 ≤ n ∧ n ≤ 8) (w : World) (h : MetaV x t S M c K w F) (h1 : 1 ≤ i) (h2 : i ≤ 32) (hc : c + 1 < 64) (hk : y.l = 0 ∧ y.O.sum = 0) :
    Calls Tryz.prog 82 #[.pointer (some ⟨x, 0, none⟩), .int .i64 i, inoV y] w fun e w' => e = .returned (.int .i64 0) ∧ Turns x t S ((M.setMap (y.B.foldl Gd.giveI M.map)).setIno i Gd.noIno) (c + 2) K F w w' := by
  obtain ⟨hb0, hr0⟩ := below_new w (inoC y) 25
  obtain ⟨yb, hyb⟩ : ∃ yb, yb = w.heap.size := ⟨_, rfl⟩
  obtain ⟨w0, hw0⟩ : ∃ u, u = w.alloc (.cells (inoC y) 25) := ⟨_, rfl⟩
  rw [← hw0, ← hyb] at hr0
  rw [← hw0] at hb0
  have HIr := Lib.hid hr0
  have hI0 : InoAt w0 yb y := ⟨hr0, hy⟩
  have b1 := hI0.c1
  rw [hk.1] at b1
  have HB0 := Lib.hid hb0
  have HS := Lib.hid (inoC_size hy)
  have HOp := Lib.hid fun W => iopen_any y hy hO W
  rw [hk.2] at HOp
  have HGv : Hid (∀ W, Below w0.heap.size w0 W → Calls Tryz.prog 119 #[.pointer (some ⟨x, 0, none⟩), .slice (some ⟨yb, 3, none⟩) 4 4] W fun e w' => e = .returned (.int .i64 0) ∧ Turns x t S (M.setMap (y.B.foldl Gd.giveI M.map)) (c + 1) K F w w') := Lib.hid fun W hW => by
    have hIW := hI0.keep hW
    have := mgive_any yb 3 4 y.B W (h.below (hb0.trans (hW.mono hb0.size))) (by omega) (by rw [hy.1]; omega) (lt_get hIW.row) (fun j n hj => (hIW.cB hj).1)
    rw [hy.1] at this
    refine this.mono ?_
    rintro e w' ⟨he, ht⟩
    exact ⟨he, ht.behind (hb0.trans (hW.mono hb0.size))⟩
  have HSi : Hid (∀ W, Turns x t S (M.setMap (y.B.foldl Gd.giveI M.map)) (c + 1) K F w W → Calls Tryz.prog 12 #[.pointer (some ⟨x, 0, none⟩), .int .i64 i, inoV Gd.noIno] W fun e w' => e = .returned (.int .i64 0) ∧ Turns x t S ((M.setMap (y.B.foldl Gd.giveI M.map)).setIno i Gd.noIno) (c + 2) K F w w') := Lib.hid fun W hW => by
    obtain ⟨F1, s1⟩ := hW
    have := setino_ok (i : Int) Gd.noIno noIno_shape (by decide) W s1.inv (by omega) (by omega) (by omega)
    rw [Int.toNat_natCast] at this
    refine this.mono ?_
    rintro e w' ⟨he, F2, s2⟩
    exact ⟨he, F2, s1.trans s2⟩
  have HW0 := Lib.hid hw0.symm
  have Hyb := Lib.hid hyb.symm
  have hlg := run_loadAt_ino HIr.out HS.out
  have hsl := fun W => slice_arr yb 3 W
  clear h hy hO h1 h2 hc hb0 hr0 hyb hw0 hI0 hk
  unfold inoV at *
  go_enter Tryz.func82, Tryz.ntmps82
  go_upto_region 1 with fail
  rw [HW0.out, Hyb.out]
  go_upto_region 3 with (first | (refine wpList_load_guarded _ _ rfl (by rfl) 25 _ rfl (.pointer (some ⟨yb, 0, none⟩)) (.agg (inoC y)) rfl hlg ?_) | (go_at_call 118; refine (HOp.out w0).mono ?_; rintro e w2 ⟨rfl, hb2⟩; have HGc := Lib.hid (HGv.out w2 hb2); clear hb2))
  go_wp2_with (first | (go_at_call 119; refine HGc.out.mono ?_; rintro e w3 ⟨rfl, ht3⟩; have HSc := Lib.hid (HSi.out w3 ht3); clear ht3) | (go_at_call 12; refine HSc.out.mono ?_; rintro e w4 ⟨rfl, ht4⟩))
  go_ret
  exact ⟨rfl, ht4⟩

end Go.Proofs.YtginffdngphjpaaGreatDoor

/- Walks: metadata: less, Close, Stat. -/
namespace Go.Proofs.YtginffdngphjpaaGreatDoor
open Go.RowKit Go.Shelf

attribute [local go_sem] Oper.semAt_some

set_option maxHeartbeats 8000000 in
set_option maxRecDepth 100000 in
/-- a name less: what keep does -/
theorem less_ok {x t c K : Nat} {S : List UInt8} {M : Gd.Vol} {F : Nat → Prop} (i : Nat) (r : Int) (w : World) (R : World → Prop) (h : MetaV x t S M c K w F) (h1 : 1 ≤ i) (h2 : i ≤ 32) (hl : 1 ≤ (M.ino i).l ∧ (M.ino i).l ≤ 20)
    (hC : ∀ W, Below w.heap.size w W → Calls Tryz.prog 82 #[.pointer (some ⟨x, 0, none⟩), .int .i64 i, inoV ((M.ino i).setL ((M.ino i).l - 1))] W fun e w' => e = .returned (.int .i64 r) ∧ R w') :
    Calls Tryz.prog 81 #[.pointer (some ⟨x, 0, none⟩), .int .i64 i] w fun e w' => e = .returned (.int .i64 r) ∧ R w' := by
  have HI := Lib.hid (inode_ok (i : Int) w h (by omega) (by omega))
  rw [Int.toNat_natCast] at HI
  have hsh : (M.ino i).Shape := by
    obtain ⟨P, h3, h4⟩ := h
    exact h4.shape i h1 h2
  obtain ⟨y, hy⟩ : ∃ y, y = M.ino i := ⟨_, rfl⟩
  rw [← hy] at HI hsh hl hC
  have HS := Lib.hid (inoC_size hsh)
  have HSh := Lib.hid hsh
  have HS2 := Lib.hid (inoC_size (x := y.setL (y.l - 1)) ⟨hsh.1, hsh.2⟩)
  have HSt := Lib.hid (inoC_set (inoL_setL y (y.l - 1)))
  have HC := Lib.hid hC
  obtain ⟨l, hlq⟩ : ∃ l, l = y.l := ⟨_, rfl⟩
  obtain ⟨l1, hl1⟩ : ∃ l1, l1 = y.l - 1 := ⟨_, rfl⟩
  have hwr : IntKind.i64.wrap (l - 1) = l1 := by rw [hl1, hlq, IntKind.wrap_i64]; omega
  have Hlq := Lib.hid hlq.symm
  rw [← hl1] at HSt HS2 HC
  clear h h1 h2 hsh hy hl hC hlq hl1
  unfold inoV at *
  go_enter Tryz.func81, Tryz.ntmps81
  go_upto_region 4 with (first | (go_at_call 11; refine HI.out.mono ?_; rintro e w2 ⟨rfl, hb2⟩; have HB2 := Lib.hid hb2; clear hb2) | (rw [← zIno_lit]; refine wpList_store_mid rfl 25 _ _ rfl w2.heap.size 0 (inoC y) rfl rfl (there_at (heap_alloc_new _ _) (by rw [zIno_size, HS.out])) (by rw [HS.out]; exact Tryz.sizeIno) (inoC_one _) ?_; obtain ⟨hbw, hbg⟩ := new_whole2 w2 zIno 25 (inoC y).toList (by rw [zIno_size, Array.length_toList, HS.out]); generalize (World.setCells _ _ _ _) = w3 at hbw hbg ⊢; have HB3 := Lib.hid (HB2.out.trans (hbw.mono HB2.out.size)); have HN3 : Hid (w3.heap[w2.heap.size]? = some (.cells (inoC y) 25 (0, 0))) := Lib.hid hbg; clear hbw hbg))
  obtain ⟨ib, hib⟩ : ∃ ib, ib = w2.heap.size := ⟨_, rfl⟩
  have Hib : Hid (w.heap.size ≤ ib) := Lib.hid (by rw [hib]; exact HB2.out.size)
  rw [← hib] at HN3 ⊢
  have hI3 : InoAt w3 ib y := ⟨HN3.out, HSh.out⟩
  have b1 := hI3.c1
  have f1 := hI3.f 1
  rw [Hlq.out] at b1
  obtain ⟨w4, hw4⟩ : ∃ u, u = w3.setCell ⟨ib, 1, none⟩ (.int .i64 l1) := ⟨_, rfl⟩
  have HN4 : Hid (w4.heap[ib]? = some (.cells (inoC (y.setL l1)) 25 (0, 0))) := Lib.hid (by rw [hw4, ← HSt.out]; exact Go.heap_setCell_same w3 ib 1 _ _ _ HN3.out)
  have HB4 : Hid (Below w.heap.size w w4) := Lib.hid (by rw [hw4]; exact HB3.out.setCell Hib.out _)
  have HW4 := Lib.hid hw4.symm
  have HCc := Lib.hid (HC.out w4 HB4.out)
  clear hI3 hw4 hib
  go_upto_region 5 with fail
  rw [HW4.out]
  clear hwr
  go_wp2_with (first | (refine wpList_load_row rfl 25 _ rfl ib rfl 25 (inoC (y.setL l1)) (0, 0) _ HN4.out Tryz.underlying25 rfl (by rw [HS2.out]; exact Tryz.sizeIno) ?_) | (go_at_call 82; refine HCc.out.mono ?_; rintro e w6 ⟨rfl, hr6⟩))
  go_ret
  exact ⟨rfl, hr6⟩

theorem Tryz.sizeInfo : (Tryz.prog.info? 93).map (fun i => i.size) = some 3 := by kernel_rfl

set_option maxHeartbeats 8000000 in
set_option maxRecDepth 100000 in
theorem stat_ok {x : Nat} (s : ByteArray) (i : Nat) (y : Gd.Ino) (hy : y.Shape) (w : World)
    (hW : ∀ W, Below w.heap.size w W → Calls Tryz.prog 75 #[.pointer (some ⟨x, 0, none⟩), .string s] W fun e w' => e = .returned (.tuple #[.int .i64 i, .int .i64 0]) ∧ Below W.heap.size W w')
    (hI : ∀ W, Below w.heap.size w W → Calls Tryz.prog 11 #[.pointer (some ⟨x, 0, none⟩), .int .i64 i] W fun e w' => e = .returned (.tuple #[inoV y, .int .i64 0]) ∧ Below W.heap.size W w') :
    Calls Tryz.prog 45 #[.pointer (some ⟨x, 0, none⟩), .string s] w fun e w' => e = .returned (.tuple #[.agg #[.int .i64 y.k, .int .i64 y.l, .int .i64 y.s], .int .i64 0]) ∧ Below w.heap.size w w' := by
  have HW := Lib.hid hW
  have HI := Lib.hid hI
  have HS := Lib.hid (inoC_size hy)
  have HSh := Lib.hid hy
  clear hW hI hy
  obtain ⟨hb0, hr0⟩ := below_new w #[.int .i64 0, .int .i64 0, .int .i64 0] 93
  obtain ⟨rb, hrb⟩ : ∃ rb, rb = w.heap.size := ⟨_, rfl⟩
  obtain ⟨w0, hw0⟩ : ∃ u, u = w.alloc (.cells #[.int .i64 0, .int .i64 0, .int .i64 0] 93) := ⟨_, rfl⟩
  rw [← hw0, ← hrb] at hr0
  rw [← hw0] at hb0
  have HR0 := Lib.hid hr0
  have HB0 := Lib.hid hb0
  have HW0 := Lib.hid hw0.symm
  have Hrb := Lib.hid hrb.symm
  have Hrb2 : Hid (w.heap.size ≤ rb) := Lib.hid (by omega)
  have HWc := Lib.hid (HW.out w0 hb0)
  clear hb0 hr0 hw0 hrb
  unfold inoV at *
  go_enter Tryz.func45, Tryz.ntmps45
  go_upto_region 1 with fail
  rw [HW0.out, Hrb.out]
  go_upto_region 4 with (go_at_call 75; refine HWc.out.mono ?_; rintro e w1 ⟨rfl, hb1⟩; have HB1 := Lib.hid (HB0.out.trans (hb1.mono HB0.out.size)); have HR1 := Lib.hid ((hb1.block rb (lt_get HR0.out)).trans HR0.out); have HIc := Lib.hid (HI.out w1 HB1.out); clear hb1)
  go_upto_region 5 with (first | (go_at_call 11; refine HIc.out.mono ?_; rintro e w2 ⟨rfl, hb2⟩; have HB2 := Lib.hid (HB1.out.trans (hb2.mono HB1.out.size)); have HR2 := Lib.hid ((hb2.block rb (lt_get HR1.out)).trans HR1.out); clear hb2) | (rw [← zIno_lit]; refine wpList_store_mid rfl 25 _ _ rfl w2.heap.size 0 (inoC y) rfl rfl (there_at (heap_alloc_new _ _) (by rw [zIno_size, HS.out])) (by rw [HS.out]; exact Tryz.sizeIno) (inoC_one _) ?_; obtain ⟨hbw, hbg⟩ := new_whole2 w2 zIno 25 (inoC y).toList (by rw [zIno_size, Array.length_toList, HS.out]); generalize (World.setCells _ _ _ _) = w3 at hbw hbg ⊢; have HB3 := Lib.hid (HB2.out.trans (hbw.mono HB2.out.size)); have HR3 := Lib.hid ((hbw.block rb (lt_get HR2.out)).trans HR2.out); have HN3 : Hid (w3.heap[w2.heap.size]? = some (.cells (inoC y) 25 (0, 0))) := Lib.hid hbg; clear hbw hbg))
  obtain ⟨ib, hib⟩ : ∃ ib, ib = w2.heap.size := ⟨_, rfl⟩
  rw [← hib] at HN3 ⊢
  have hI3 : InoAt w3 ib y := ⟨HN3.out, HSh.out⟩
  have b0 := hI3.c0
  have b1 := hI3.c1
  have b2 := hI3.c2
  have r0 := cell_of_row w3 rb 0 _ _ _ HR3.out
  have r1 := cell_of_row w3 rb 1 _ _ _ HR3.out
  have r2 := cell_of_row w3 rb 2 _ _ _ HR3.out
  have f0 := frozen_of_row w3 rb 0 _ _ HR3.out
  have f1 := frozen_of_row w3 rb 1 _ _ HR3.out
  have f2 := frozen_of_row w3 rb 2 _ _ HR3.out
  clear hI3 hib
  go_wp2
  have g0 := Go.heap_setCell_same w3 rb 0 _ _ (.int .i64 y.k) HR3.out
  have g1 := Go.heap_setCell_same _ rb 1 _ _ (.int .i64 y.l) g0
  have g2 := Go.heap_setCell_same _ rb 2 _ _ (.int .i64 y.s) g1
  refine bodyPost_ret (results_row_tmp rfl _ _ rb 93 #[.int .i64 y.k, .int .i64 y.l, .int .i64 y.s] (0, 0) _ rfl g2 Tryz.underlying93 rfl Tryz.sizeInfo) rfl ?_
  exact ⟨rfl, ((HB3.out.setCell Hrb2.out _).setCell Hrb2.out _).setCell Hrb2.out _⟩

set_option maxHeartbeats 8000000 in
set_option maxRecDepth 100000 in
/-- a descriptor less: what keep does -/
theorem close_ok {x t c K : Nat} {S : List UInt8} {M : Gd.Vol} {F : Nat → Prop} (k i : Nat) (o r : Int) (w : World) (R : World → Prop) (h : MetaV x t S M c K w F) (h1 : 1 ≤ i) (h2 : i ≤ 32) (hk : k < 8) (ho : (M.ino i).O[k]? = some o) (ho1 : 1 ≤ o) (ho8 : o ≤ 8)
    (hC : ∀ W, Below w.heap.size w W → Calls Tryz.prog 82 #[.pointer (some ⟨x, 0, none⟩), .int .i64 i, inoV ((M.ino i).setO k (o - 1))] W fun e w' => e = .returned (.int .i64 r) ∧ R w') :
    Calls Tryz.prog 47 #[.pointer (some ⟨x, 0, none⟩), .int .i64 ((k : Int) + 1), .int .i64 i] w fun e w' => e = .returned (.int .i64 r) ∧ R w' := by
  have HI := Lib.hid (inode_ok (i : Int) w h (by omega) (by omega))
  rw [Int.toNat_natCast] at HI
  have hsh : (M.ino i).Shape := by
    obtain ⟨P, h3, h4⟩ := h
    exact h4.shape i h1 h2
  obtain ⟨y, hy⟩ : ∃ y, y = M.ino i := ⟨_, rfl⟩
  rw [← hy] at HI hsh hC ho
  have HS := Lib.hid (inoC_size hsh)
  have HSh := Lib.hid hsh
  have Ho := Lib.hid ho
  have HS2 := Lib.hid (inoC_size (Gd.Ino.setO_shape hsh k (o - 1)))
  have HSt := Lib.hid (inoC_set (inoL_setO hsh hk (o - 1)))
  have HC := Lib.hid hC
  have HIs := Lib.hid fun W => mis_any ((k : Int) + 1) W
  rw [show (decide ((1 : Int) ≤ (k : Int) + 1) && decide (((k : Int) + 1) ≤ 8)) = true by simp; omega] at HIs
  have hk8 : (k : Int) < 8 := by omega
  have hk0 : (0 : Int) ≤ k := by omega
  obtain ⟨o1, ho1q⟩ : ∃ o1, o1 = o - 1 := ⟨_, rfl⟩
  have hwo : IntKind.i64.wrap (o - 1) = o1 := by rw [ho1q, IntKind.wrap_i64]; omega
  have hob : (o == 0) = false := by simp; omega
  have hon : ¬ o = 0 := by omega
  rw [← ho1q] at HSt HS2 HC
  clear h h1 h2 hsh hy hC ho1q ho ho1 ho8
  unfold inoV at *
  go_enter Tryz.func47, Tryz.ntmps47
  go_upto_region 2 with (first | (go_at_call 11; refine HI.out.mono ?_; rintro e w2 ⟨rfl, hb2⟩; have HB2 := Lib.hid hb2; clear hb2) | (rw [← zIno_lit]; refine wpList_store_mid rfl 25 _ _ rfl w2.heap.size 0 (inoC y) rfl rfl (there_at (heap_alloc_new _ _) (by rw [zIno_size, HS.out])) (by rw [HS.out]; exact Tryz.sizeIno) (inoC_one _) ?_; obtain ⟨hbw, hbg⟩ := new_whole2 w2 zIno 25 (inoC y).toList (by rw [zIno_size, Array.length_toList, HS.out]); generalize (World.setCells _ _ _ _) = w3 at hbw hbg ⊢; have HB3 := Lib.hid (HB2.out.trans (hbw.mono HB2.out.size)); have HN3 : Hid (w3.heap[w2.heap.size]? = some (.cells (inoC y) 25 (0, 0))) := Lib.hid hbg; clear hbw hbg))
  obtain ⟨ib, hib⟩ : ∃ ib, ib = w2.heap.size := ⟨_, rfl⟩
  have Hib : Hid (w.heap.size ≤ ib) := Lib.hid (by rw [hib]; exact HB2.out.size)
  rw [← hib] at HN3 ⊢
  have hI3 : InoAt w3 ib y := ⟨HN3.out, HSh.out⟩
  obtain ⟨b1, f1⟩ := hI3.cO (k := k) (n := o) Ho.out
  obtain ⟨w4, hw4⟩ : ∃ u, u = w3.setCell ⟨ib, 7 + k, none⟩ (.int .i64 o1) := ⟨_, rfl⟩
  have HN4 : Hid (w4.heap[ib]? = some (.cells (inoC (y.setO k o1)) 25 (0, 0))) := Lib.hid (by rw [hw4, ← HSt.out]; exact Go.heap_setCell_same w3 ib (7 + k) _ _ _ HN3.out)
  have HB4 : Hid (Below w.heap.size w w4) := Lib.hid (by rw [hw4]; exact HB3.out.setCell Hib.out _)
  have HW4 := Lib.hid hw4.symm
  have HCc := Lib.hid (HC.out w4 HB4.out)
  clear hI3 hw4 hib
  go_upto_region 5 with (go_at_call 79; refine (HIs.out _).mono ?_; rintro e wq ⟨rfl, rfl⟩)
  rw [HW4.out]
  clear hwo
  go_wp2_with (first | (refine wpList_load_row rfl 25 _ rfl ib rfl 25 (inoC (y.setO k o1)) (0, 0) _ HN4.out Tryz.underlying25 rfl (by rw [HS2.out]; exact Tryz.sizeIno) ?_) | (go_at_call 82; refine HCc.out.mono ?_; rintro e w6 ⟨rfl, hr6⟩))
  go_ret
  exact ⟨rfl, hr6⟩

end Go.Proofs.YtginffdngphjpaaGreatDoor

/- Walks: metadata: a directory's table is changed, and a block given back. -/
namespace Go.Proofs.YtginffdngphjpaaGreatDoor
open Go.RowKit Go.Shelf

attribute [local go_sem] Oper.semAt_some

set_option maxHeartbeats 8000000 in
set_option maxRecDepth 100000 in
theorem change_give {x t c K d a : Nat} {S : List UInt8} {M : Gd.Vol} {F : Nat → Prop} (n : Int) (T : Gd.Tab) (more spare : Int) (w : World) (h : MetaV x t S M c K w F) (h1 : 1 ≤ d) (h2 : d ≤ 32) (ha : a < 16) (hT : Gd.TabOk T) (hu : Gd.usedT T (a / 4) = false) (hB : (M.ino d).B[a / 4]? = some n) (hmay : Gd.mayI (((M.ino d).setB (a / 4) 0).setS ((M.ino d).s + more)) = true) (hsz : 0 ≤ (M.ino d).s + more ∧ (M.ino d).s + more ≤ 16) (hc : c + 10 < 64) :
    Calls Tryz.prog 144 #[.pointer (some ⟨x, 0, none⟩), .int .i64 d, .int .i64 a, tabV T, .int .i64 more, .int .i64 spare] w fun e w' => e = .returned (.int .i64 0) ∧ Turns x t S ((M.setMap (Gd.giveI M.map n)).setIno d (((M.ino d).setB (a / 4) 0).setS ((M.ino d).s + more))) (c + 2) K F w w' := by
  obtain ⟨k, hk⟩ : ∃ k, k = a / 4 := ⟨_, rfl⟩
  have hq := quo4 a
  rw [← hk] at hq hu hB hmay ⊢
  have hk4 : k < 4 := by omega
  have hsh : (M.ino d).Shape := by
    obtain ⟨P, h3, h4⟩ := h
    exact h4.shape d h1 h2
  have HTs := Lib.hid (tabC_size hT.len)
  obtain ⟨hb0, hr0⟩ := below_new w (tabC T) 181
  obtain ⟨tb, htb⟩ : ∃ tb, tb = w.heap.size := ⟨_, rfl⟩
  obtain ⟨w0, hw0⟩ : ∃ u, u = w.alloc (.cells (tabC T) 181) := ⟨_, rfl⟩
  rw [← hw0, ← htb] at hr0
  rw [← hw0] at hb0
  have HL0 := Lib.hid ((Tl.start h).new hb0 (k := tb) (by omega) hr0)
  have HIn := Lib.hid (inode_ok (d : Int) w0 (h.below hb0) (by omega) (by omega))
  rw [Int.toNat_natCast] at HIn
  have HGv := Lib.hid fun W F1 (h3 : MetaV x t S M c K W F1) gb (hg : W.heap[gb]? = some (.cells #[.int .i64 n] 3 (0, 0))) => mgive_any gb 0 1 [n] W h3 (by omega) (by show 1 ≤ 100; omega) (lt_get hg) (fun j m hj => by
    match j, hj with
    | 0, hj =>
      cases hj
      exact cell_of_row W gb 0 _ _ _ hg)
  have HUs := Lib.hid fun W => tused_any T hT.len k hk4 W
  rw [hu] at HUs
  obtain ⟨x0, hx0⟩ : ∃ x0, x0 = M.ino d := ⟨_, rfl⟩
  rw [← hx0] at hsh hB hmay hsz HIn ⊢
  obtain ⟨x1, hx1⟩ : ∃ x1, x1 = x0.setB k 0 := ⟨_, rfl⟩
  rw [← hx1] at hmay ⊢
  obtain ⟨y, hy⟩ : ∃ y, y = (x1.setS (x0.s + more)) := ⟨_, rfl⟩
  rw [← hy] at hmay ⊢
  have hsh1 : x1.Shape := by rw [hx1]; exact Gd.Ino.setB_shape hsh k 0
  have hB1 : x1.B[k]? = some 0 := by
    rw [hx1]
    show (x0.B.set k 0)[k]? = some 0
    rw [List.getElem?_set_self (by rw [hsh.1]; exact hk4)]
  have hs1 : x1.s = x0.s := by rw [hx1]; rfl
  have hC1 : (inoC x0).setIfInBounds (3 + k) (.int .i64 0) = inoC x1 := by rw [hx1]; exact inoC_set (inoL_setB hsh hk4 0)
  have hC2 : (inoC x1).setIfInBounds 2 (.int .i64 (x0.s + more)) = inoC y := by rw [hy]; exact inoC_set (inoL_setS x1 _)
  have hyS : y.Shape := by rw [hy]; exact Gd.Ino.setS_shape hsh1 _
  obtain ⟨M1, hM1⟩ : ∃ M1, M1 = M.setMap (Gd.giveI M.map n) := ⟨_, rfl⟩
  have hM1' : M.setMap ([n].foldl Gd.giveI M.map) = M1 := by rw [hM1]; rfl
  rw [hM1'] at HGv
  rw [← hM1]
  have HSi := Lib.hid fun W F1 (h3 : MetaV x t S M1 (c + 1) K W F1) => setino_ok (d : Int) y hyS hmay W h3 (by omega) (by omega) (by omega)
  rw [Int.toNat_natCast] at HSi
  have HS := Lib.hid (inoC_size hsh)
  have HSy := Lib.hid (inoC_size hyS)
  have HX := Lib.hid (And.intro hsh hsh1)
  have HB0 := Lib.hid hB
  have HB1 := Lib.hid hB1
  have HC1 := Lib.hid hC1
  have HC2 := Lib.hid hC2
  have Htb := Lib.hid htb.symm
  have HW0 := Lib.hid hw0.symm
  obtain ⟨sm, hsm⟩ : ∃ sm, sm = x0.s + more := ⟨_, rfl⟩
  have hwr : IntKind.i64.wrap (x0.s + more) = sm := by rw [hsm, IntKind.wrap_i64]; omega
  obtain ⟨xs, hxs⟩ : ∃ xs, xs = x0.s := ⟨_, rfl⟩
  rw [← hxs] at hwr hs1
  rw [← hsm] at HC2
  have Hs1 := Lib.hid hs1
  have g4 : (k : Int) < 4 := by omega
  have g0 : (0 : Int) ≤ k := by omega
  have ga : (0 : Int) ≤ a := by omega
  have Hq := Lib.hid hq
  clear hk hq hB hmay hsz hsh hsh1 hB1 hC1 hC2 hyS htb hw0 hr0 hb0 h h1 h2 hT hu hsm hxs hs1 hx0 hy hx1 hM1 hM1'
  unfold inoV tabV at *
  go_enter Tryz.func144, Tryz.ntmps144
  go_upto_region 1 with fail
  rw [HW0.out, Htb.out]
  go_upto_region 2 with (first | (go_at_call 11; refine HIn.out.mono ?_; rintro e w2 ⟨rfl, hb2⟩; have HL2 := Lib.hid (HL0.out.below hb2); clear hb2) | (rw [← zIno_lit]; refine wpList_store_mid rfl 25 _ _ rfl w2.heap.size 0 (inoC x0) rfl rfl (there_at (heap_alloc_new _ _) (by rw [zIno_size, HS.out])) (by rw [HS.out]; exact Tryz.sizeIno) (inoC_one _) ?_; obtain ⟨hbw, hbg⟩ := new_whole2 w2 zIno 25 (inoC x0).toList (by rw [zIno_size, Array.length_toList, HS.out]); generalize (World.setCells _ _ _ _) = w3 at hbw hbg ⊢; have HL3 := Lib.hid (HL2.out.new hbw (Nat.le_refl _) (o := .cells (inoC x0) 25 (0, 0)) hbg); clear hbw hbg))
  obtain ⟨ib, hib⟩ : ∃ ib, ib = w2.heap.size := ⟨_, rfl⟩
  rw [← hib] at HL3 ⊢
  have htib : Hid (ib ≠ tb) := Lib.hid (by
    have := lt_get (HL2.out.get (k := tb) (o := .cells (tabC T) 181 (0, 0)) (by simp))
    omega)
  clear hib
  have HTr3 := Lib.hid (HL3.out.get (k := tb) (o := .cells (tabC T) 181 (0, 0)) (by simp))
  go_upto_region 5 with fail
  rw [Hq.out]
  go_upto_region 6 with (first | (refine wpList_load_row rfl 181 _ rfl tb rfl 181 (tabC T) (0, 0) _ HTr3.out Tryz.underlying181 rfl (by rw [HTs.out]; exact Tryz.sizeTab) ?_) | (go_at_call 158; refine (HUs.out w3).mono ?_; rintro e w4 ⟨rfl, hb4⟩; have HL4 := Lib.hid (HL3.out.below hb4); clear hb4))
  have hI4 : InoAt w4 ib x0 := ⟨HL4.out.get (k := ib) (by simp), HX.out.1⟩
  obtain ⟨b0, -⟩ := hI4.cB HB0.out
  obtain ⟨w5, hw5⟩ : ∃ u, u = w4.alloc (.cells #[.int .i64 n] 3) := ⟨_, rfl⟩
  obtain ⟨gb, hgb⟩ : ∃ gb, gb = w4.heap.size := ⟨_, rfl⟩
  have hl5 : Tl x t S M c K F w w5 [(gb, .cells #[.int .i64 n] 3 (0, 0)), (ib, .cells (inoC x0) 25 (0, 0)), (tb, .cells (tabC T) 181 (0, 0))] := by
    rw [hw5, hgb]
    exact HL4.out.new ((Below.refl _ _).alloc (Nat.le_refl _) _) (Nat.le_refl _) (heap_alloc_new _ _)
  have hgr := hl5.get (k := gb) (o := .cells #[.int .i64 n] 3 (0, 0)) (by simp)
  obtain ⟨F5, h5s, h5l⟩ := hl5
  have HGc : Hid (Calls Tryz.prog 119 #[.pointer (some ⟨x, 0, none⟩), .slice (some ⟨gb, 0, none⟩) 1 1] w5 fun e w' => e = .returned (.int .i64 0) ∧ Tl x t S M1 (c + 1) K F w w' [(ib, .cells (inoC x0) 25 (0, 0)), (tb, .cells (tabC T) 181 (0, 0))]) := Lib.hid (by
    refine (HGv.out w5 F5 h5s.inv gb hgr).mono ?_
    rintro e w' ⟨he, ht⟩
    exact ⟨he, Tl.next h5s (fun p hp => h5l p (List.mem_cons_of_mem _ hp)) ht⟩)
  have HW5 := Lib.hid hw5.symm
  have Hgb := Lib.hid hgb.symm
  clear hI4 hw5 hgb hgr h5s h5l
  go_upto_region 7 with (first | (rw [HW5.out, Hgb.out]; go_at_call 119; refine HGc.out.mono ?_; rintro e w6 ⟨rfl, hl6⟩; have HL6 := Lib.hid hl6; clear hl6) | (go_at_call 119; rw [HW5.out, Hgb.out]; refine HGc.out.mono ?_; rintro e w6 ⟨rfl, hl6⟩; have HL6 := Lib.hid hl6; clear hl6))
  clear b0
  have hI6 : InoAt w6 ib x0 := ⟨HL6.out.get (k := ib) (by simp), HX.out.1⟩
  obtain ⟨b0, f0⟩ := hI6.cB HB0.out
  clear hI6
  have hl7 : Tl x t S M1 (c + 1) K F w (w6.setCell ⟨ib, 3 + k, none⟩ (.int .i64 0)) [(ib, .cells (inoC x1) 25 (0, 0))] := by
    refine HL6.out.set (k := ib) (C := inoC x0) (ty := 25) (by simp) _ fun p hp => ?_
    rw [HC1.out]
    exact Or.inl (by simpa using hp)
  obtain ⟨w7, hw7⟩ : ∃ u, u = w6.setCell ⟨ib, 3 + k, none⟩ (.int .i64 0) := ⟨_, rfl⟩
  rw [← hw7] at hl7
  have HL7 := Lib.hid hl7
  have HW7 := Lib.hid hw7.symm
  clear hl7 hw7
  go_upto_region 10 with fail
  rw [HW7.out]
  clear b0 f0
  have hI7 : InoAt w7 ib x1 := ⟨HL7.out.get (k := ib) (by simp), HX.out.2⟩
  obtain ⟨b0, -⟩ := hI7.cB HB1.out
  have b2 := hI7.c2
  rw [Hs1.out] at b2
  have f2 := hI7.f 2
  clear hI7
  have hl9 : Tl x t S M1 (c + 1) K F w (w7.setCell ⟨ib, 2, none⟩ (.int .i64 sm)) [(ib, .cells (inoC y) 25 (0, 0))] := by
    refine HL7.out.set (k := ib) (C := inoC x1) (ty := 25) (by simp) _ fun p hp => ?_
    rw [HC2.out]
    exact Or.inl (by simpa using hp)
  obtain ⟨w9, hw9⟩ : ∃ u, u = w7.setCell ⟨ib, 2, none⟩ (.int .i64 sm) := ⟨_, rfl⟩
  rw [← hw9] at hl9
  have HL9 := Lib.hid hl9
  have HW9 := Lib.hid hw9.symm
  clear hl9 hw9
  go_upto_region 20 with fail
  rw [HW9.out]
  have HIr := Lib.hid (HL9.out.get (k := ib) (o := .cells (inoC y) 25 (0, 0)) (by simp))
  obtain ⟨F9, h9s, h9l⟩ := HL9.out
  have HSc9 := Lib.hid (HSi.out w9 F9 h9s.inv)
  have HNx := Lib.hid fun b N d (h : Turns x t S N d K F9 w9 b) => Tl.next h9s h9l h
  clear h9s h9l b2 f2
  go_wp2_with (first | (refine wpList_load_row rfl 25 _ rfl ib rfl 25 (inoC y) (0, 0) _ HIr.out Tryz.underlying25 rfl (by rw [HSy.out]; exact Tryz.sizeIno) ?_) | (go_at_call 12; refine HSc9.out.mono ?_; rintro e w10 ⟨rfl, ht10⟩; have HL10 := Lib.hid (HNx.out _ _ _ ht10); clear ht10))
  go_ret
  exact ⟨rfl, HL10.out.turns⟩

end Go.Proofs.YtginffdngphjpaaGreatDoor

/- Walks: metadata: Mkdir, remove, Unlink. -/
namespace Go.Proofs.YtginffdngphjpaaGreatDoor
open Go.RowKit Go.Shelf

attribute [local go_sem] Oper.semAt_some

set_option maxHeartbeats 8000000 in
set_option maxRecDepth 100000 in
theorem mkdir_ok {x : Nat} (s n : ByteArray) (wi d f : Nat) (E spare : Int) (w : World) (R : World → Prop) (hE : E ≠ 0)
    (hW : ∀ W, Below w.heap.size w W → Calls Tryz.prog 75 #[.pointer (some ⟨x, 0, none⟩), .string s] W fun e w' => e = .returned (.tuple #[.int .i64 wi, .int .i64 E]) ∧ Below W.heap.size W w')
    (hP : ∀ W, Below w.heap.size w W → Calls Tryz.prog 76 #[.pointer (some ⟨x, 0, none⟩), .string s] W fun e w' => e = .returned (.tuple #[.int .i64 d, .string n, .int .i64 0]) ∧ Below W.heap.size W w')
    (hF : ∀ W, Below w.heap.size w W → Calls Tryz.prog 77 #[.pointer (some ⟨x, 0, none⟩), .int .i64 d, .string n] W fun e w' => e = .returned (.tuple #[.int .i64 0, .int .i64 0]) ∧ Below W.heap.size W w')
    (hM : ∀ W, Below w.heap.size w W → Calls Tryz.prog 78 #[.pointer (some ⟨x, 0, none⟩), .int .i64 d, .string n, inoV Gd.rootI, .int .i64 spare] W fun e w' => e = .returned (.tuple #[.int .i64 f, .int .i64 0]) ∧ R w') :
    Calls Tryz.prog 43 #[.pointer (some ⟨x, 0, none⟩), .string s, .int .i64 spare] w fun e w' => e = .returned (.int .i64 0) ∧ R w' := by
  have HW0 := Lib.hid (hW w (Below.refl _ _))
  have HP := Lib.hid hP
  have HF := Lib.hid hF
  have HM : Hid (∀ W, Below w.heap.size w W → Calls Tryz.prog 78 #[.pointer (some ⟨x, 0, none⟩), .int .i64 d, .string n, .agg #[.int .i64 2, .int .i64 1, .int .i64 0, .int .i64 0, .int .i64 0, .int .i64 0, .int .i64 0, .int .i64 0, .int .i64 0, .int .i64 0, .int .i64 0, .int .i64 0, .int .i64 0, .int .i64 0, .int .i64 0], .int .i64 spare] W fun e w' => e = .returned (.tuple #[.int .i64 f, .int .i64 0]) ∧ R w') := Lib.hid hM
  have hEb : (E == 0) = false := by simp [hE]
  clear hW hP hF hM
  go_enter Tryz.func43, Tryz.ntmps43
  go_upto_region 4 with (go_at_call 75; refine HW0.out.mono ?_; rintro e w2 ⟨rfl, hb2⟩; have HB2 := Lib.hid hb2; clear hb2)
  have HP2 := Lib.hid (HP.out w2 HB2.out)
  go_upto_region 7 with (go_at_call 76; refine HP2.out.mono ?_; rintro e w3 ⟨rfl, hb3⟩; have HB3 := Lib.hid (HB2.out.trans (hb3.mono HB2.out.size)); clear hb3)
  have HF3 := Lib.hid (HF.out w3 HB3.out)
  go_upto_region 10 with (go_at_call 77; refine HF3.out.mono ?_; rintro e w4 ⟨rfl, hb4⟩; have HB4 := Lib.hid (HB3.out.trans (hb4.mono HB3.out.size)); clear hb4)
  have HMc := Lib.hid (HM.out w4 HB4.out)
  go_wp2_with (go_at_call 78; refine HMc.out.mono ?_; rintro e w6 ⟨rfl, hr6⟩)
  go_ret
  exact ⟨rfl, hr6⟩

set_option maxHeartbeats 8000000 in
set_option maxRecDepth 100000 in
theorem remove_ok {x : Nat} (s n : ByteArray) (i d : Nat) (r : Int) (w : World) (Q R : World → Prop)
    (hP : ∀ W, Below w.heap.size w W → Calls Tryz.prog 76 #[.pointer (some ⟨x, 0, none⟩), .string s] W fun e w' => e = .returned (.tuple #[.int .i64 d, .string n, .int .i64 0]) ∧ Below W.heap.size W w')
    (hT : ∀ W, Below w.heap.size w W → Calls Tryz.prog 117 #[.pointer (some ⟨x, 0, none⟩), .int .i64 d, .string n] W fun e w' => e = .returned (.int .i64 0) ∧ Q w')
    (hL : ∀ W, Q W → Calls Tryz.prog 81 #[.pointer (some ⟨x, 0, none⟩), .int .i64 i] W fun e w' => e = .returned (.int .i64 r) ∧ R w') :
    Calls Tryz.prog 80 #[.pointer (some ⟨x, 0, none⟩), .string s, .int .i64 i, .func (.func 81) #[.pointer (some ⟨x, 0, none⟩)] #[]] w fun e w' => e = .returned (.int .i64 r) ∧ R w' := by
  have HP0 := Lib.hid (hP w (Below.refl _ _))
  have HT := Lib.hid hT
  have HL := Lib.hid hL
  clear hP hT hL
  go_enter Tryz.func80, Tryz.ntmps80
  go_upto_region 4 with (go_at_call 76; refine HP0.out.mono ?_; rintro e w1 ⟨rfl, hb1⟩; have HTc := Lib.hid (HT.out w1 hb1); clear hb1)
  go_upto_region 7 with (go_at_call 117; refine HTc.out.mono ?_; rintro e w2 ⟨rfl, hq2⟩; have HLc := Lib.hid (HL.out w2 hq2); clear hq2)
  go_wp2_with (go_at_call 81; refine HLc.out.mono ?_; rintro e w3 ⟨rfl, hr3⟩)
  go_ret
  exact ⟨rfl, hr3⟩

set_option maxHeartbeats 8000000 in
set_option maxRecDepth 100000 in
theorem unlink_ok {x : Nat} (s : ByteArray) (i : Nat) (y : Gd.Ino) (r : Int) (hy : y.Shape) (hk : y.k ≠ 2) (w : World) (R : World → Prop)
    (hW : ∀ W, Below w.heap.size w W → Calls Tryz.prog 75 #[.pointer (some ⟨x, 0, none⟩), .string s] W fun e w' => e = .returned (.tuple #[.int .i64 i, .int .i64 0]) ∧ Below W.heap.size W w')
    (hI : ∀ W, Below w.heap.size w W → Calls Tryz.prog 11 #[.pointer (some ⟨x, 0, none⟩), .int .i64 i] W fun e w' => e = .returned (.tuple #[inoV y, .int .i64 0]) ∧ Below W.heap.size W w')
    (hR : ∀ W, Below w.heap.size w W → Calls Tryz.prog 80 #[.pointer (some ⟨x, 0, none⟩), .string s, .int .i64 i, .func (.func 81) #[.pointer (some ⟨x, 0, none⟩)] #[]] W fun e w' => e = .returned (.int .i64 r) ∧ R w') :
    Calls Tryz.prog 46 #[.pointer (some ⟨x, 0, none⟩), .string s] w fun e w' => e = .returned (.int .i64 r) ∧ R w' := by
  have HW0 := Lib.hid (hW w (Below.refl _ _))
  have HI := Lib.hid hI
  have HR := Lib.hid hR
  have HS := Lib.hid (inoC_size hy)
  have HSh := Lib.hid hy
  have hkb : (y.k == 2) = false := by simp [hk]
  clear hW hI hy hR
  unfold inoV at *
  go_enter Tryz.func46, Tryz.ntmps46
  go_upto_region 4 with (go_at_call 75; refine HW0.out.mono ?_; rintro e w1 ⟨rfl, hb1⟩; have HB1 := Lib.hid hb1; have HIc := Lib.hid (HI.out w1 hb1); clear hb1)
  go_upto_region 5 with (first | (go_at_call 11; refine HIc.out.mono ?_; rintro e w2 ⟨rfl, hb2⟩; have HB2 := Lib.hid (HB1.out.trans (hb2.mono HB1.out.size)); clear hb2) | (rw [← zIno_lit]; refine wpList_store_mid rfl 25 _ _ rfl w2.heap.size 0 (inoC y) rfl rfl (there_at (heap_alloc_new _ _) (by rw [zIno_size, HS.out])) (by rw [HS.out]; exact Tryz.sizeIno) (inoC_one _) ?_; obtain ⟨hbw, hbg⟩ := new_whole2 w2 zIno 25 (inoC y).toList (by rw [zIno_size, Array.length_toList, HS.out]); generalize (World.setCells _ _ _ _) = w3 at hbw hbg ⊢; have HB3 := Lib.hid (HB2.out.trans (hbw.mono HB2.out.size)); have HN3 : Hid (w3.heap[w2.heap.size]? = some (.cells (inoC y) 25 (0, 0))) := Lib.hid hbg; clear hbw hbg))
  obtain ⟨ib, hib⟩ : ∃ ib, ib = w2.heap.size := ⟨_, rfl⟩
  rw [← hib] at HN3 ⊢
  have hI3 : InoAt w3 ib y := ⟨HN3.out, HSh.out⟩
  have b0 := hI3.c0
  clear hI3 hib
  go_upto_region 9 with fail
  have HRc := Lib.hid (HR.out w3 HB3.out)
  go_wp2_with fail
  refine HRc.out.mono ?_
  rintro e w4 ⟨rfl, hr4⟩
  go_wp2
  go_ret
  exact ⟨rfl, hr4⟩

end Go.Proofs.YtginffdngphjpaaGreatDoor
