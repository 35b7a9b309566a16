/- Walks: which blocks are used: maps as values; Used. -/
import Derived.Test.YtginffdngphjpaaGreatDoorV09
import Derived.Test.YtginffdngphjpaaGreatDoorV08
import Derived.Test.YtginffdngphjpaaGreatDoorV01
set_option linter.unusedVariables false
set_option linter.unusedSimpArgs false
namespace Go.Proofs.YtginffdngphjpaaGreatDoor
open Go.RowKit

attribute [local go_sem] Oper.semAt_some

theorem and8 : ∀ (c : Fin 256) (b : Fin 8), bits .and .u8 (c.val : Int) ((2 ^ b.val : Nat) : Int) = ((c.val &&& 2 ^ b.val : Nat) : Int) := by decide +kernel
theorem or8 : ∀ (c : Fin 256) (b : Fin 8), bits .or .u8 (c.val : Int) ((2 ^ b.val : Nat) : Int) = ((c.val ||| 2 ^ b.val : Nat) : Int) := by decide +kernel
theorem andNot8 : ∀ (c : Fin 256) (b : Fin 8), bits .andNot .u8 (c.val : Int) ((2 ^ b.val : Nat) : Int) = ((c.val &&& (255 - 2 ^ b.val) : Nat) : Int) := by decide +kernel
theorem less8 : ∀ c : Fin 256, c.val ≠ 0 → bits .and .u8 (c.val : Int) (IntKind.u8.wrap ((c.val : Int) - 1)) = ((c.val &&& (c.val - 1) : Nat) : Int) := by decide +kernel
def mapV (m : List UInt8) : Value := .agg (cellsB m)
theorem Tryz.sizeMap : (Tryz.prog.info? 27).map (fun i => i.size) = some 16 := by kernel_rfl
theorem map_get {m : List UInt8} (hm : m.length = 16) {n : Nat} (h1 : 1 ≤ n) (h2 : n ≤ 128) : ∃ x, m[(n - 1) / 8]? = some x ∧ x.toNat = Gd.byteAt m n := by
  refine ⟨_, List.getElem?_eq_getElem (by omega), ?_⟩
  unfold Gd.byteAt
  rw [List.getD_eq_getElem?_getD, List.getElem?_eq_getElem (by omega)]
  rfl

set_option maxHeartbeats 4000000 in
set_option maxRecDepth 100000 in
theorem used_any (m : List UInt8) (hm : m.length = 16) (n : Int) (w : World) : Calls Tryz.prog 49 #[mapV m, .int .i64 n] w fun e w' => e = .returned (.bool (Gd.usedI m n)) ∧ Below w.heap.size w w' := by
  cases hb : Gd.isBlk n with
  | false =>
    have HN := Lib.hid (place_no n hb)
    have hu : Gd.usedI m n = false := by unfold Gd.usedI; rw [hb]; rfl
    rw [hu]
    unfold mapV
    go_enter Tryz.func49, Tryz.ntmps49
    go_wp2_with (go_at_call 50; refine (HN.out _).mono ?_; rintro e w1 ⟨rfl, rfl⟩)
    go_ret
    exact ⟨rfl, (Below.refl _ _).alloc (Nat.le_refl _) _⟩
  | true =>
    obtain ⟨k, rfl⟩ : ∃ k : Nat, n = k := ⟨n.toNat, by unfold Gd.isBlk at hb; simp at hb; omega⟩
    have hk : 1 ≤ k ∧ k ≤ 128 := by unfold Gd.isBlk at hb; simp at hb; omega
    obtain ⟨x, hx, hxe⟩ := map_get hm hk.1 hk.2
    obtain ⟨i, hi⟩ : ∃ i, i = (k - 1) / 8 := ⟨_, rfl⟩
    rw [← hi] at hx
    have hu : Gd.usedI m (k : Int) = (x.toNat &&& Gd.bitOf k != 0) := by
      unfold Gd.usedI Gd.usedB
      rw [hb, Int.toNat_natCast, hxe]
      rfl
    have ha := and8 ⟨x.toNat, x.toNat_lt⟩ ⟨(k - 1) % 8, Gd.bit8 k⟩
    change bits .and .u8 (x.toNat : Int) ((Gd.bitOf k : Nat) : Int) = ((x.toNat &&& Gd.bitOf k : Nat) : Int) at ha
    have HPl := Lib.hid fun W => place_yes k hk.1 hk.2 W
    rw [← hi] at HPl
    obtain ⟨wb, hwb⟩ : ∃ u, u = w.alloc (.cells (cellsB m) 27) := ⟨_, rfl⟩
    have hbb : Below w.heap.size w wb := by rw [hwb]; exact (Below.refl _ _).alloc (Nat.le_refl _) _
    have hbc : wb.heap[w.heap.size]? = some (.cells (cellsB m) 27 (0, 0)) := by rw [hwb]; exact heap_alloc_new _ _
    obtain ⟨mb, hmb⟩ : ∃ mb, mb = w.heap.size := ⟨_, rfl⟩
    rw [← hmb] at hbc
    have Hmb := Lib.hid hmb.symm
    have HBb := Lib.hid hbb
    have HWb := Lib.hid hwb
    have Hbc := Lib.hid hbc
    rw [hu]
    obtain ⟨y, hy⟩ : ∃ y : Nat, y = x.toNat &&& Gd.bitOf k := ⟨_, rfl⟩
    rw [← hy] at ha ⊢
    obtain ⟨bt, hbt⟩ : ∃ bt : Nat, bt = Gd.bitOf k := ⟨_, rfl⟩
    rw [← hbt] at ha HPl
    have hi16 : i < 16 := by omega
    have Hx := Lib.hid hx
    clear hb hx hxe hi hu hmb hbb hwb hbc hy hbt
    unfold mapV
    go_enter Tryz.func49, Tryz.ntmps49
    go_upto_region 1 with fail
    rw [← HWb.out, Hmb.out]
    go_wp2_with fail
    refine (HPl.out wb).mono ?_
    rintro e w1 ⟨rfl, hb1⟩
    have hc := (cell_of_row w1 mb i _ _ _ ((hb1.block mb (lt_get Hbc.out)).trans Hbc.out)).trans (cellsB_get Hx.out)
    have HB1 := Lib.hid (HBb.out.trans (hb1.mono HBb.out.size))
    clear hb1
    go_wp2
    go_ret
    refine ⟨ret_bool ?_, HB1.out⟩
    rw [Bool.eq_iff_iff]
    simp

theorem cellsB_one (m : List UInt8) : (cellsB m).all (·.oneCell') = true := by
  unfold cellsB
  rw [Array.all_eq_true_iff_forall_mem]
  intro u hu
  exact byteCells_one m u (by simpa using hu)

set_option maxHeartbeats 4000000 in
set_option maxRecDepth 100000 in
theorem take_any (m : List UInt8) (hm : m.length = 16) (n : Int) (w : World) : Calls Tryz.prog 19 #[mapV m, .int .i64 n] w fun e w' => e = .returned (mapV (Gd.takeI m n)) ∧ Below w.heap.size w w' := by
  have hsz : (cellsB m).size = 16 := by unfold cellsB; rw [List.size_toArray, byteCells_len]; exact hm
  obtain ⟨Z, hZ⟩ : ∃ Z : Array Value, Z = #[.int .u8 0, .int .u8 0, .int .u8 0, .int .u8 0, .int .u8 0, .int .u8 0, .int .u8 0, .int .u8 0, .int .u8 0, .int .u8 0, .int .u8 0, .int .u8 0, .int .u8 0, .int .u8 0, .int .u8 0, .int .u8 0] := ⟨_, rfl⟩
  have hZs : Z.size = 16 := by rw [hZ]; rfl
  obtain ⟨mb, hmb⟩ : ∃ mb, mb = w.heap.size := ⟨_, rfl⟩
  obtain ⟨wb, hwb⟩ : ∃ u, u = (w.alloc (.cells (cellsB m) 27)).alloc (.cells Z 27) := ⟨_, rfl⟩
  have hbb : Below w.heap.size w wb := by rw [hwb]; exact ((Below.refl _ _).alloc (Nat.le_refl _) _).alloc (by simp) _
  have hbc : wb.heap[mb]? = some (.cells (cellsB m) 27 (0, 0)) := by rw [hwb, hmb]; exact CellsAt.alloc (heap_alloc_new w _) _
  have hbr : wb.heap[mb + 1]? = some (.cells Z 27 (0, 0)) := by
    have := heap_alloc_new (w.alloc (.cells (cellsB m) 27)) (.cells Z 27)
    rw [World.size_alloc] at this
    rw [hwb, hmb]
    exact this
  have Hmb := Lib.hid hmb.symm
  have HBb := Lib.hid hbb
  have HWb := Lib.hid hwb
  have Hbc := Lib.hid hbc
  have Hbr := Lib.hid hbr
  have HZ := Lib.hid hZ
  have HZs := Lib.hid hZs
  have HS := Lib.hid hsz
  clear hsz hZ hZs hmb hbb hwb hbc hbr
  cases hb : Gd.isBlk n with
  | false =>
    have HN := Lib.hid (place_no n hb)
    have hu : Gd.takeI m n = m := by unfold Gd.takeI; rw [hb]; rfl
    rw [hu]
    unfold mapV
    clear hb hu
    go_enter Tryz.func19, Tryz.ntmps19
    go_upto_region 1 with fail
    rw [← HZ.out, ← HWb.out, Hmb.out]
    go_upto_region 4 with (go_at_call 50; refine (HN.out _).mono ?_; rintro e w1 ⟨rfl, rfl⟩)
    go_wp2_with (first | (refine wpList_load_row rfl 27 _ rfl mb rfl 27 (cellsB m) (0, 0) _ Hbc.out Tryz.underlying27 rfl (by rw [HS.out]; exact Tryz.sizeMap) ?_) | (refine wpList_store_mid rfl 27 _ _ rfl (mb + 1) 0 (cellsB m) rfl rfl (there_at Hbr.out (by rw [HZs.out, HS.out])) (by rw [HS.out]; exact Tryz.sizeMap) (cellsB_one m) ?_; obtain ⟨hbw, hbg⟩ := whole_at Hbr.out (vs := (cellsB m).toList) (B := mb) (by rw [HZs.out, Array.length_toList, HS.out]) (Nat.le_succ mb); generalize (World.setCells _ _ _ _) = wf at hbw hbg ⊢))
    refine bodyPost_ret (results_cell_row rfl _ _ (mb + 1) 27 (cellsB m) (0, 0) _ rfl hbg Tryz.underlying27 rfl (by rw [HS.out]; exact Tryz.sizeMap)) rfl ?_
    exact ⟨rfl, HBb.out.trans (by rw [Hmb.out]; exact hbw)⟩
  | true =>
    obtain ⟨k, rfl⟩ : ∃ k : Nat, n = k := ⟨n.toNat, by unfold Gd.isBlk at hb; simp at hb; omega⟩
    have hk : 1 ≤ k ∧ k ≤ 128 := by unfold Gd.isBlk at hb; simp at hb; omega
    obtain ⟨x, hx, hxe⟩ := map_get hm hk.1 hk.2
    obtain ⟨i, hi⟩ : ∃ i, i = (k - 1) / 8 := ⟨_, rfl⟩
    rw [← hi] at hx
    have ha := or8 ⟨x.toNat, x.toNat_lt⟩ ⟨(k - 1) % 8, Gd.bit8 k⟩
    change bits .or .u8 (x.toNat : Int) ((Gd.bitOf k : Nat) : Int) = _ at ha
    obtain ⟨y, hy⟩ : ∃ y : UInt8, (bits .or .u8 (x.toNat : Int) ((Gd.bitOf k : Nat) : Int) = y.toNat) ∧ Gd.takeI m (k : Int) = m.set i y := by
      refine ⟨UInt8.ofNat (x.toNat ||| Gd.bitOf k), ?_, ?_⟩
      · rw [ha, UInt8.toNat_ofNat']
        congr 1
        exact (Nat.mod_eq_of_lt (Gd.or_lt ⟨x.toNat, x.toNat_lt⟩ ⟨(k - 1) % 8, Gd.bit8 k⟩)).symm
      · unfold Gd.takeI Gd.takeB
        rw [hb, Int.toNat_natCast, ← hxe, ← hi]
        rfl
    have HPl := Lib.hid fun W => place_yes k hk.1 hk.2 W
    rw [← hi] at HPl
    rw [hy.2]
    have hy1 := hy.1
    obtain ⟨bt, hbt⟩ : ∃ bt : Nat, bt = Gd.bitOf k := ⟨_, rfl⟩
    rw [← hbt] at hy1 HPl
    have hi16 : i < 16 := by omega
    have Hx := Lib.hid hx
    have HS2 : Hid ((cellsB (m.set i y)).size = 16) := Lib.hid (by unfold cellsB; rw [List.size_toArray, byteCells_len, List.length_set]; exact hm)
    clear hb hx hxe hi hbt hy ha
    unfold mapV
    go_enter Tryz.func19, Tryz.ntmps19
    go_upto_region 1 with fail
    rw [← HZ.out, ← HWb.out, Hmb.out]
    go_wp2_with fail
    refine (HPl.out wb).mono ?_
    rintro e w1 ⟨rfl, hb1⟩
    have hm1 := (hb1.block mb (lt_get Hbc.out)).trans Hbc.out
    have hr1 := (hb1.block (mb + 1) (lt_get Hbr.out)).trans Hbr.out
    have HB1 := Lib.hid (HBb.out.trans (hb1.mono HBb.out.size))
    have hc := (cell_of_row w1 mb i _ _ _ hm1).trans (cellsB_get Hx.out)
    have hf := frozen_of_row w1 mb i _ _ hm1
    obtain ⟨w2, hw2⟩ : ∃ u, u = w1.setCell ⟨mb, i, none⟩ (.int .u8 y.toNat) := ⟨_, rfl⟩
    have hm2 : w2.heap[mb]? = some (.cells (cellsB (m.set i y)) 27 (0, 0)) := by
      rw [hw2, ← cellsB_set]
      exact Go.heap_setCell_same w1 mb i _ _ _ hm1
    have hr2 : w2.heap[mb + 1]? = some (.cells Z 27 (0, 0)) := by rw [hw2]; exact (Go.heap_setCell_other w1 ⟨mb, i, none⟩ (mb + 1) _ (by simp)).trans hr1
    have HB2 : Hid (Below w.heap.size w w2) := Lib.hid (by rw [hw2]; exact HB1.out.setCell (by rw [Hmb.out]; exact Nat.le_refl _) _)
    have Hm2 := Lib.hid hm2
    have Hr2 := Lib.hid hr2
    have HW2 := Lib.hid hw2
    clear hb1 hm1 hr1 hw2 hm2 hr2
    go_upto_region 4 with fail
    rw [← HW2.out]
    go_wp2_with (first | (refine wpList_load_row rfl 27 _ rfl mb rfl 27 (cellsB (m.set i y)) (0, 0) _ Hm2.out Tryz.underlying27 rfl (by rw [HS2.out]; exact Tryz.sizeMap) ?_) | (refine wpList_store_mid rfl 27 _ _ rfl (mb + 1) 0 (cellsB (m.set i y)) rfl rfl (there_at Hr2.out (by rw [HZs.out, HS2.out])) (by rw [HS2.out]; exact Tryz.sizeMap) (cellsB_one _) ?_; obtain ⟨hbw, hbg⟩ := whole_at Hr2.out (vs := (cellsB (m.set i y)).toList) (B := mb) (by rw [HZs.out, Array.length_toList, HS2.out]) (Nat.le_succ mb); generalize (World.setCells _ _ _ _) = wf at hbw hbg ⊢))
    refine bodyPost_ret (results_cell_row rfl _ _ (mb + 1) 27 (cellsB (m.set i y)) (0, 0) _ rfl hbg Tryz.underlying27 rfl (by rw [HS2.out]; exact Tryz.sizeMap)) rfl ?_
    exact ⟨rfl, HB2.out.trans (by rw [Hmb.out]; exact hbw)⟩

set_option maxHeartbeats 4000000 in
set_option maxRecDepth 100000 in
theorem give_any (m : List UInt8) (hm : m.length = 16) (n : Int) (w : World) : Calls Tryz.prog 53 #[mapV m, .int .i64 n] w fun e w' => e = .returned (mapV (Gd.giveI m n)) ∧ Below w.heap.size w w' := by
  have hsz : (cellsB m).size = 16 := by unfold cellsB; rw [List.size_toArray, byteCells_len]; exact hm
  obtain ⟨Z, hZ⟩ : ∃ Z : Array Value, Z = #[.int .u8 0, .int .u8 0, .int .u8 0, .int .u8 0, .int .u8 0, .int .u8 0, .int .u8 0, .int .u8 0, .int .u8 0, .int .u8 0, .int .u8 0, .int .u8 0, .int .u8 0, .int .u8 0, .int .u8 0, .int .u8 0] := ⟨_, rfl⟩
  have hZs : Z.size = 16 := by rw [hZ]; rfl
  obtain ⟨mb, hmb⟩ : ∃ mb, mb = w.heap.size := ⟨_, rfl⟩
  obtain ⟨wb, hwb⟩ : ∃ u, u = (w.alloc (.cells (cellsB m) 27)).alloc (.cells Z 27) := ⟨_, rfl⟩
  have hbb : Below w.heap.size w wb := by rw [hwb]; exact ((Below.refl _ _).alloc (Nat.le_refl _) _).alloc (by simp) _
  have hbc : wb.heap[mb]? = some (.cells (cellsB m) 27 (0, 0)) := by rw [hwb, hmb]; exact CellsAt.alloc (heap_alloc_new w _) _
  have hbr : wb.heap[mb + 1]? = some (.cells Z 27 (0, 0)) := by
    have := heap_alloc_new (w.alloc (.cells (cellsB m) 27)) (.cells Z 27)
    rw [World.size_alloc] at this
    rw [hwb, hmb]
    exact this
  have Hmb := Lib.hid hmb.symm
  have HBb := Lib.hid hbb
  have HWb := Lib.hid hwb
  have Hbc := Lib.hid hbc
  have Hbr := Lib.hid hbr
  have HZ := Lib.hid hZ
  have HZs := Lib.hid hZs
  have HS := Lib.hid hsz
  clear hsz hZ hZs hmb hbb hwb hbc hbr
  cases hb : Gd.isBlk n with
  | false =>
    have HN := Lib.hid (place_no n hb)
    have hu : Gd.giveI m n = m := by unfold Gd.giveI; rw [hb]; rfl
    rw [hu]
    unfold mapV
    clear hb hu
    go_enter Tryz.func53, Tryz.ntmps53
    go_upto_region 1 with fail
    rw [← HZ.out, ← HWb.out, Hmb.out]
    go_upto_region 4 with (go_at_call 50; refine (HN.out _).mono ?_; rintro e w1 ⟨rfl, rfl⟩)
    go_wp2_with (first | (refine wpList_load_row rfl 27 _ rfl mb rfl 27 (cellsB m) (0, 0) _ Hbc.out Tryz.underlying27 rfl (by rw [HS.out]; exact Tryz.sizeMap) ?_) | (refine wpList_store_mid rfl 27 _ _ rfl (mb + 1) 0 (cellsB m) rfl rfl (there_at Hbr.out (by rw [HZs.out, HS.out])) (by rw [HS.out]; exact Tryz.sizeMap) (cellsB_one m) ?_; obtain ⟨hbw, hbg⟩ := whole_at Hbr.out (vs := (cellsB m).toList) (B := mb) (by rw [HZs.out, Array.length_toList, HS.out]) (Nat.le_succ mb); generalize (World.setCells _ _ _ _) = wf at hbw hbg ⊢))
    refine bodyPost_ret (results_cell_row rfl _ _ (mb + 1) 27 (cellsB m) (0, 0) _ rfl hbg Tryz.underlying27 rfl (by rw [HS.out]; exact Tryz.sizeMap)) rfl ?_
    exact ⟨rfl, HBb.out.trans (by rw [Hmb.out]; exact hbw)⟩
  | true =>
    obtain ⟨k, rfl⟩ : ∃ k : Nat, n = k := ⟨n.toNat, by unfold Gd.isBlk at hb; simp at hb; omega⟩
    have hk : 1 ≤ k ∧ k ≤ 128 := by unfold Gd.isBlk at hb; simp at hb; omega
    obtain ⟨x, hx, hxe⟩ := map_get hm hk.1 hk.2
    obtain ⟨i, hi⟩ : ∃ i, i = (k - 1) / 8 := ⟨_, rfl⟩
    rw [← hi] at hx
    have ha := andNot8 ⟨x.toNat, x.toNat_lt⟩ ⟨(k - 1) % 8, Gd.bit8 k⟩
    change bits .andNot .u8 (x.toNat : Int) ((Gd.bitOf k : Nat) : Int) = _ at ha
    obtain ⟨y, hy⟩ : ∃ y : UInt8, (bits .andNot .u8 (x.toNat : Int) ((Gd.bitOf k : Nat) : Int) = y.toNat) ∧ Gd.giveI m (k : Int) = m.set i y := by
      refine ⟨UInt8.ofNat (x.toNat &&& (255 - Gd.bitOf k)), ?_, ?_⟩
      · rw [ha, UInt8.toNat_ofNat']
        congr 1
        exact (Nat.mod_eq_of_lt (Gd.and_lt ⟨x.toNat, x.toNat_lt⟩ ⟨(k - 1) % 8, Gd.bit8 k⟩)).symm
      · unfold Gd.giveI Gd.giveB
        rw [hb, Int.toNat_natCast, ← hxe, ← hi]
        rfl
    have HPl := Lib.hid fun W => place_yes k hk.1 hk.2 W
    rw [← hi] at HPl
    rw [hy.2]
    have hy1 := hy.1
    obtain ⟨bt, hbt⟩ : ∃ bt : Nat, bt = Gd.bitOf k := ⟨_, rfl⟩
    rw [← hbt] at hy1 HPl
    have hi16 : i < 16 := by omega
    have Hx := Lib.hid hx
    have HS2 : Hid ((cellsB (m.set i y)).size = 16) := Lib.hid (by unfold cellsB; rw [List.size_toArray, byteCells_len, List.length_set]; exact hm)
    clear hb hx hxe hi hbt hy ha
    unfold mapV
    go_enter Tryz.func53, Tryz.ntmps53
    go_upto_region 1 with fail
    rw [← HZ.out, ← HWb.out, Hmb.out]
    go_wp2_with fail
    refine (HPl.out wb).mono ?_
    rintro e w1 ⟨rfl, hb1⟩
    have hm1 := (hb1.block mb (lt_get Hbc.out)).trans Hbc.out
    have hr1 := (hb1.block (mb + 1) (lt_get Hbr.out)).trans Hbr.out
    have HB1 := Lib.hid (HBb.out.trans (hb1.mono HBb.out.size))
    have hc := (cell_of_row w1 mb i _ _ _ hm1).trans (cellsB_get Hx.out)
    have hf := frozen_of_row w1 mb i _ _ hm1
    obtain ⟨w2, hw2⟩ : ∃ u, u = w1.setCell ⟨mb, i, none⟩ (.int .u8 y.toNat) := ⟨_, rfl⟩
    have hm2 : w2.heap[mb]? = some (.cells (cellsB (m.set i y)) 27 (0, 0)) := by
      rw [hw2, ← cellsB_set]
      exact Go.heap_setCell_same w1 mb i _ _ _ hm1
    have hr2 : w2.heap[mb + 1]? = some (.cells Z 27 (0, 0)) := by rw [hw2]; exact (Go.heap_setCell_other w1 ⟨mb, i, none⟩ (mb + 1) _ (by simp)).trans hr1
    have HB2 : Hid (Below w.heap.size w w2) := Lib.hid (by rw [hw2]; exact HB1.out.setCell (by rw [Hmb.out]; exact Nat.le_refl _) _)
    have Hm2 := Lib.hid hm2
    have Hr2 := Lib.hid hr2
    have HW2 := Lib.hid hw2
    clear hb1 hm1 hr1 hw2 hm2 hr2
    go_upto_region 4 with fail
    rw [← HW2.out]
    go_wp2_with (first | (refine wpList_load_row rfl 27 _ rfl mb rfl 27 (cellsB (m.set i y)) (0, 0) _ Hm2.out Tryz.underlying27 rfl (by rw [HS2.out]; exact Tryz.sizeMap) ?_) | (refine wpList_store_mid rfl 27 _ _ rfl (mb + 1) 0 (cellsB (m.set i y)) rfl rfl (there_at Hr2.out (by rw [HZs.out, HS2.out])) (by rw [HS2.out]; exact Tryz.sizeMap) (cellsB_one _) ?_; obtain ⟨hbw, hbg⟩ := whole_at Hr2.out (vs := (cellsB (m.set i y)).toList) (B := mb) (by rw [HZs.out, Array.length_toList, HS2.out]) (Nat.le_succ mb); generalize (World.setCells _ _ _ _) = wf at hbw hbg ⊢))
    refine bodyPost_ret (results_cell_row rfl _ _ (mb + 1) 27 (cellsB (m.set i y)) (0, 0) _ rfl hbg Tryz.underlying27 rfl (by rw [HS2.out]; exact Tryz.sizeMap)) rfl ?_
    exact ⟨rfl, HB2.out.trans (by rw [Hmb.out]; exact hbw)⟩

end Go.Proofs.YtginffdngphjpaaGreatDoor

/- Walks: which blocks are used: the first free one, how many, bytes and back. -/
namespace Go.Proofs.YtginffdngphjpaaGreatDoor
open Go.RowKit

attribute [local go_sem] Oper.semAt_some

theorem cellsB_len {m : List UInt8} (hm : m.length = 16) : (cellsB m).size = 16 := by unfold cellsB; rw [List.size_toArray, byteCells_len]; exact hm
theorem below_new (w : World) (C : Array Value) (t : TypeId) : Below w.heap.size w (w.alloc (.cells C t)) ∧ (w.alloc (.cells C t)).heap[w.heap.size]? = some (.cells C t (0, 0)) := ⟨(Below.refl _ _).alloc (Nat.le_refl _) _, heap_alloc_new _ _⟩

set_option maxHeartbeats 4000000 in
set_option maxRecDepth 100000 in
theorem first_any (m : List UInt8) (hm : m.length = 16) (w : World) : Calls Tryz.prog 18 #[mapV m, .int .i64 1] w fun e w' => e = .returned (.int .i64 (Gd.firstB m)) ∧ Below w.heap.size w w' := by
  have HS := Lib.hid (cellsB_len hm)
  have HU := Lib.hid (used_any m hm)
  obtain ⟨hbb, hbc⟩ := below_new w (cellsB m) 27
  obtain ⟨mb, hmb⟩ : ∃ mb, mb = w.heap.size := ⟨_, rfl⟩
  obtain ⟨wb, hwb⟩ : ∃ u, u = w.alloc (.cells (cellsB m) 27) := ⟨_, rfl⟩
  rw [← hwb, ← hmb] at hbc
  rw [← hwb] at hbb
  have Hmb := Lib.hid hmb.symm
  have HBb := Lib.hid hbb
  have HWb := Lib.hid hwb
  have Hbc := Lib.hid hbc
  have HF : Hid (Gd.firstB m = Gd.firstFrom m 128 1) := Lib.hid rfl
  obtain ⟨R, hR⟩ : ∃ R, R = Gd.firstB m := ⟨_, rfl⟩
  rw [← hR] at HF ⊢
  clear hmb hbb hwb hbc hR
  unfold mapV at *
  go_enter Tryz.func18, Tryz.ntmps18
  go_upto_region 2 with fail
  rw [← HWb.out, Hmb.out]
  go_loopw [5] (fun u wr => ∃ n : Nat, u = .int .i64 n ∧ 1 ≤ n ∧ n ≤ 129 ∧ Hid (R = Gd.firstFrom m (129 - n) n) ∧ Hid (Below w.heap.size w wr ∧ Below wb.heap.size wb wr)) (fun u _ => 129 - (intOf u).toNat)
  case atStart => exact ⟨1, rfl, by omega, by omega, HF, Lib.hid ⟨HBb.out, Below.refl _ _⟩⟩
  case round =>
    obtain ⟨n, rfl, hn1, hn2, HR, HB⟩ := hrel
    by_cases hlt : n ≤ 128
    · have h1 : (n : Int) ≤ 128 := by omega
      have hc := (HB.out.2.block mb (lt_get Hbc.out)).trans Hbc.out
      have Hc := Lib.hid hc
      have hui : Gd.usedI m (n : Int) = Gd.usedB m n := by
        unfold Gd.usedI Gd.isBlk
        rw [Int.toNat_natCast, decide_eq_true (by omega), decide_eq_true (by omega)]
        rfl
      have HU2 := Lib.hid (HU.out (n : Int) wr)
      rw [hui] at HU2
      have HR2 : Hid (R = if Gd.usedB m n = true then Gd.firstFrom m (129 - (n + 1)) (n + 1) else n) := Lib.hid (by
        rw [HR.out, show 129 - n = (129 - (n + 1)) + 1 by omega, Gd.firstFrom])
      obtain ⟨b, hb⟩ : ∃ b, b = Gd.usedB m n := ⟨_, rfl⟩
      rw [← hb] at HU2 HR2
      clear hc hui hb
      cases b with
      | true =>
        go_wp2_with (first | (refine wpList_load_row rfl 27 _ rfl mb rfl 27 (cellsB m) (0, 0) _ Hc.out Tryz.underlying27 rfl (by rw [HS.out]; exact Tryz.sizeMap) ?_) | (go_at_call 49; refine HU2.out.mono ?_; rintro e w2 ⟨rfl, hb2⟩))
        have HB2 : Hid (Below w.heap.size w w2 ∧ Below wb.heap.size wb w2) := Lib.hid ⟨HB.out.1.trans (hb2.mono HB.out.1.size), HB.out.2.trans (hb2.mono HB.out.2.size)⟩
        go_roundw
        case rel => exact ⟨n + 1, by go_num, by omega, by omega, Lib.hid (by rw [HR2.out]; simp), HB2⟩
        case measure => simp [intOf]; omega
      | false =>
        go_wp2_with (first | (refine wpList_load_row rfl 27 _ rfl mb rfl 27 (cellsB m) (0, 0) _ Hc.out Tryz.underlying27 rfl (by rw [HS.out]; exact Tryz.sizeMap) ?_) | (go_at_call 49; refine HU2.out.mono ?_; rintro e w2 ⟨rfl, hb2⟩))
        have HB2 : Hid (Below w.heap.size w w2) := Lib.hid (HB.out.1.trans (hb2.mono HB.out.1.size))
        go_ret
        refine ⟨ret_int ?_, HB2.out⟩
        rw [HR2.out, if_neg (by simp)]
    · obtain rfl : n = 129 := by omega
      clear hlt
      go_wp2
      go_ret
      refine ⟨ret_int ?_, HB.out.1⟩
      rw [HR.out]
      rfl

theorem run_index_one {P : Program} (t e : TypeId) (n : Nat) (cs : Array Value) (k q : IntKind) (i : Nat) (v : Value) (w : World) (h : P.underlying t = some (.array n e)) (he : P.underlying e = some (.int q)) (hs : (P.info? e).map (·.size) = some 1) (hi : i < n) (hv : cs[i]? = some v) :
    (Instr.index t (.agg cs) (.int k (i : Int))).run P w = .ok v w := by
  have hn : (0 : Int) ≤ i ∧ (i : Int) < (n : Int) := by omega
  cases hq : P.info? e with
  | none => simp [hq] at hs
  | some j =>
    have hj : j.size = 1 := by simpa [hq] using hs
    simp [Instr.index, run_underlying h, asIntOf, hn, part, isAgg, run_underlying he, sizeOf, typeInfo, hq, hj, hv, go_sem]
    intro hh
    omega

def cntTo (m : List UInt8) (i : Nat) : Nat := ((m.take i).map fun c => Gd.cnt c.toNat).sum
theorem cntTo_next {m : List UInt8} {i : Nat} {x : UInt8} (h : m[i]? = some x) : cntTo m (i + 1) = cntTo m i + Gd.cnt x.toNat := by
  unfold cntTo
  rw [List.take_add_one, h]
  simp
theorem cntTo_le (m : List UInt8) (i : Nat) : cntTo m i ≤ 8 * i := by
  induction i with
  | zero => simp [cntTo]
  | succ i ih =>
    cases hx : m[i]? with
    | none =>
      have : m.take (i + 1) = m.take i := by rw [List.take_add_one, hx]; simp
      unfold cntTo at *
      rw [this]
      omega
    | some x =>
      rw [cntTo_next hx]
      have := Gd.cnt_le ⟨x.toNat, x.toNat_lt⟩
      dsimp only at this
      omega

set_option maxHeartbeats 4000000 in
set_option maxRecDepth 100000 in
theorem count_any (m : List UInt8) (hm : m.length = 16) (w : World) : Calls Tryz.prog 17 #[mapV m] w fun e w' => e = .returned (.int .i64 (Gd.countB m)) ∧ Below w.heap.size w w' := by
  have HS := Lib.hid (cellsB_len hm)
  obtain ⟨hbb, hbc⟩ := below_new w (cellsB m) 27
  obtain ⟨mb, hmb⟩ : ∃ mb, mb = w.heap.size := ⟨_, rfl⟩
  obtain ⟨wb, hwb⟩ : ∃ u, u = w.alloc (.cells (cellsB m) 27) := ⟨_, rfl⟩
  rw [← hwb, ← hmb] at hbc
  rw [← hwb] at hbb
  have Hmb := Lib.hid hmb.symm
  have HBb := Lib.hid hbb
  have HWb := Lib.hid hwb
  have Hbc := Lib.hid hbc
  have Hm := Lib.hid hm
  clear hmb hbb hwb hbc hm
  unfold mapV at *
  go_enter Tryz.func17, Tryz.ntmps17
  go_upto_region 2 with fail
  rw [← HWb.out, Hmb.out]
  go_upto_region 3 with (refine wpList_load_row rfl 27 _ rfl mb rfl 27 (cellsB m) (0, 0) _ Hbc.out Tryz.underlying27 rfl (by rw [HS.out]; exact Tryz.sizeMap) ?_)
  go_loopw [3, 7] (fun u z wr => ∃ i : Nat, z = .int .i64 i ∧ i ≤ 16 ∧ u = .int .i64 (cntTo m i) ∧ wr = wb) (fun _ z _ => 16 - (intOf z).toNat)
  case atStart => exact ⟨0, rfl, by omega, rfl, rfl⟩
  case round =>
    obtain ⟨i, rfl, hi, rfl, rfl⟩ := hrel
    by_cases hlt : i < 16
    · obtain ⟨x, hx⟩ : ∃ x, m[i]? = some x := ⟨_, List.getElem?_eq_getElem (by have := Hm.out; omega)⟩
      have hc := run_index_one 27 5 16 (cellsB m) .i64 .u8 i _ wr Tryz.underlying27 Tryz.underlying5 Tryz.infoU8s hlt (cellsB_get hx)
      have h1 : (i : Int) < 16 := by omega
      have h0 : (0 : Int) ≤ i := by omega
      have HX := Lib.hid (cntTo_next hx)
      have HLe := Lib.hid (cntTo_le m (i + 1))
      obtain ⟨T, hT⟩ : ∃ T, T = cntTo m (i + 1) := ⟨_, rfl⟩
      rw [← hT] at HX HLe
      have HT := Lib.hid hT
      obtain ⟨M0, hM0⟩ : ∃ M0, M0 = cntTo m i := ⟨_, rfl⟩
      rw [← hM0] at HX ⊢
      have hxl := x.toNat_lt
      obtain ⟨c0, hc0⟩ : ∃ c0, c0 = x.toNat := ⟨_, rfl⟩
      rw [← hc0] at HX hxl hc
      clear hx hT hM0 hc0 hlt
      go_wp2
      go_loopw [3, 5] (fun u y wx => ∃ M c : Nat, u = .int .i64 M ∧ y = .int .u8 c ∧ c < 256 ∧ Hid (T = M + Gd.cnt c) ∧ wx = wr) (fun _ y _ => (intOf y).toNat)
      case atStart => exact ⟨M0, c0, rfl, rfl, hxl, HX, rfl⟩
      case round =>
        obtain ⟨M, c, rfl, rfl, hcl, HM, rfl⟩ := hrel
        by_cases hz : c = 0
        · subst hz
          have HM2 : Hid (M = T) := Lib.hid (by rw [HM.out]; rfl)
          go_wp2
          go_roundw
          case rel => exact ⟨i + 1, by go_num, by omega, by rw [HM2.out, HT.out], trivial⟩
          case measure => simp [intOf]; omega
        · have h2 : (c : Int) ≠ 0 := by omega
          have h3 := less8 ⟨c, hcl⟩ hz
          have h4 : IntKind.u8.wrap ((c : Int) - 1) = (c : Int) - 1 := by
            rw [show IntKind.u8.wrap ((c : Int) - 1) = ((c : Int) - 1) % 256 from rfl]
            omega
          have HSt : Hid (Gd.cnt c = 1 + Gd.cnt (c &&& (c - 1))) := Lib.hid (Gd.cnt_step ⟨c, hcl⟩ hz)
          have hle : c &&& (c - 1) ≤ c - 1 := Nat.and_le_right
          dsimp only at h3
          rw [h4] at h3
          obtain ⟨d, hd⟩ : ∃ d, d = c &&& (c - 1) := ⟨_, rfl⟩
          rw [← hd] at h3 HSt hle
          have hM8 : (M : Int) ≤ 1000 := by have := HM.out; have := HLe.out; omega
          clear hd
          go_wp2
          go_roundw
          case rel => exact ⟨M + 1, d, by go_num, rfl, by omega, Lib.hid (by rw [HM.out, HSt.out]; omega), trivial⟩
          case measure => simp [intOf]; omega
    · obtain rfl : i = 16 := by omega
      clear hlt
      go_wp2
      go_ret
      refine ⟨ret_int ?_, HBb.out⟩
      unfold cntTo Gd.countB
      rw [List.take_of_length_le (by have := Hm.out; omega)]

set_option maxHeartbeats 4000000 in
set_option maxRecDepth 100000 in
theorem bytesm_any (m : List UInt8) (hm : m.length = 16) (w : World) : Calls Tryz.prog 41 #[mapV m] w (GivesB w m) := by
  obtain ⟨hbb, hbc⟩ := below_new w (cellsB m) 27
  obtain ⟨mb, hmb⟩ : ∃ mb, mb = w.heap.size := ⟨_, rfl⟩
  obtain ⟨wb, hwb⟩ : ∃ u, u = w.alloc (.cells (cellsB m) 27) := ⟨_, rfl⟩
  rw [← hwb, ← hmb] at hbc
  rw [← hwb] at hbb
  have HBy : Hid (BytesAt wb (.slice (some ⟨mb, 0, none⟩) 16 16) m) := Lib.hid ⟨_, 16, by rw [hm], Or.inr ⟨mb, 0, rfl, lt_get hbc, fun j x hx => by rw [Nat.zero_add]; exact (cell_of_row wb mb j _ _ _ hbc).trans (cellsB_get hx)⟩⟩
  have Hmb := Lib.hid hmb.symm
  have HBb := Lib.hid hbb
  have HWb := Lib.hid hwb
  have Hm := Lib.hid hm
  clear hmb hbb hwb hbc hm
  unfold mapV at *
  go_enter Tryz.func41, Tryz.ntmps41
  go_upto_region 1 with fail
  rw [← HWb.out, Hmb.out]
  go_wp2_with (at_builtin; refine app_bytes rfl _ _ rfl w.heap.size (.slice none 0 0) [] wb rfl (ownB_nil _ _) _ m HBy.out rfl (by have := Hm.out; simp; omega) HBb.out.size ?_; intro v' w' ho' hb')
  have HO := Lib.hid ho'
  have HB := Lib.hid (HBb.out.trans hb')
  clear ho' hb'
  go_wp2
  go_ret
  exact ⟨_, rfl, HO.out, HB.out⟩

set_option maxHeartbeats 4000000 in
set_option maxRecDepth 100000 in
theorem readm_any (v : Value) (L : List UInt8) (B : Nat) (w : World) (hv : OwnB w B v L) (hl : 16 ≤ L.length) : Calls Tryz.prog 42 #[v] w fun e w' => e = .returned (.tuple #[mapV (L.take 16), .int .i64 0]) ∧ Below w.heap.size w w' := by
  have hm : (L.take 16).length = 16 := by rw [List.length_take]; omega
  obtain ⟨b, c, rfl, hlc, hb, hc⟩ : ∃ b c, v = .slice (some ⟨b, 0, none⟩) L.length c ∧ L.length ≤ c ∧ b < w.heap.size ∧ ∀ (j : Nat) (x : UInt8), L[j]? = some x → w.cell? ⟨b, 0 + j, none⟩ = some (.int .u8 x.toNat) := by
    obtain ⟨A, c', hv', hA⟩ := hv.at_
    rcases hv.2 with ⟨_, h0⟩ | ⟨g, cap, cur, e, _, hg, hcap, _⟩
    · omega
    · refine ⟨g, cap, e, hcap, lt_get hg, ?_⟩
      rw [e] at hv'
      cases hv'
      rcases hA with ⟨h0, _⟩ | ⟨b, o, h1, _, h3⟩
      · cases h0
      · cases h1
        exact h3
  obtain ⟨Z, hZ⟩ : ∃ Z : Array Value, Z = #[.int .u8 0, .int .u8 0, .int .u8 0, .int .u8 0, .int .u8 0, .int .u8 0, .int .u8 0, .int .u8 0, .int .u8 0, .int .u8 0, .int .u8 0, .int .u8 0, .int .u8 0, .int .u8 0, .int .u8 0, .int .u8 0] := ⟨_, rfl⟩
  have hZs : Z.size = 16 := by rw [hZ]; rfl
  obtain ⟨hbb, hbc⟩ := below_new w Z 27
  obtain ⟨r, hr⟩ : ∃ r, r = w.heap.size := ⟨_, rfl⟩
  obtain ⟨wb, hwb⟩ : ∃ u, u = w.alloc (.cells Z 27) := ⟨_, rfl⟩
  rw [← hwb, ← hr] at hbc
  rw [← hwb] at hbb
  have hrg : wb.rangeAt b 0 (Lib.byteCells (L.take 16)) := fun j u hu => by
    obtain ⟨x, hx, rfl⟩ := byteCells_inv hu
    have hj := (List.getElem?_eq_some_iff.1 hx).1
    rw [List.getElem?_take_of_lt (by omega)] at hx
    exact (hbb.cell (p := ⟨b, 0 + j, none⟩) hb).trans (hc j x hx)
  have HS := Lib.hid (cellsB_len hm)
  have HRg := Lib.hid hrg
  have Hr := Lib.hid hr.symm
  have HBb := Lib.hid hbb
  have HWb := Lib.hid hwb
  have Hbc := Lib.hid hbc
  have HZ := Lib.hid hZ
  have HZs := Lib.hid hZs
  have HLn : Hid ((Lib.byteCells (L.take 16)).length = 16) := Lib.hid (by rw [byteCells_len]; exact hm)
  obtain ⟨n, hn⟩ : ∃ n, n = L.length := ⟨_, rfl⟩
  rw [← hn] at hl hlc ⊢
  have h1 : ¬ ((n : Int) < 16) := by omega
  have h2 : (16 : Int) ≤ c := by omega
  have harr : (Instr.arrayAt 27 (.slice (some ⟨b, 0, none⟩) 16 c)).run Tryz.prog wb = .ok (.pointer (some ⟨b, 0, none⟩)) wb := by
    simp [Instr.arrayAt, run_underlying Tryz.underlying27, go_sem]
  clear hv hm hb hc hZ hZs hr hbb hwb hbc hrg hn
  go_enter Tryz.func42, Tryz.ntmps42
  go_upto_region 1 with fail
  rw [← HZ.out, ← HWb.out, Hr.out]
  go_upto_region 3 with fail
  go_wp2_with (first | (refine wpList_load_mid rfl 27 _ rfl b 0 rfl (Lib.byteCells (L.take 16)) _ HRg.out Tryz.underlying27 rfl (by rw [HLn.out]; exact Tryz.sizeMap) ?_) | (refine wpList_store_mid rfl 27 _ _ rfl r 0 (cellsB (L.take 16)) rfl rfl (there_at Hbc.out (by rw [HZs.out, HS.out])) (by rw [HS.out]; exact Tryz.sizeMap) (cellsB_one _) ?_; obtain ⟨hbw, hbg⟩ := whole_at Hbc.out (vs := (cellsB (L.take 16)).toList) (B := r) (by rw [HZs.out, Array.length_toList, HS.out]) (Nat.le_refl r); generalize (World.setCells _ _ _ _) = wf at hbw hbg ⊢))
  refine bodyPost_ret (results_row_tmp rfl _ _ r 27 (cellsB (L.take 16)) (0, 0) _ rfl hbg Tryz.underlying27 rfl (by rw [HS.out]; exact Tryz.sizeMap)) rfl ?_
  exact ⟨rfl, HBb.out.trans (by rw [Hr.out]; exact hbw)⟩

end Go.Proofs.YtginffdngphjpaaGreatDoor

/- Walks: inodes as values; which may be. -/
namespace Go.Proofs.YtginffdngphjpaaGreatDoor
open Go.RowKit

attribute [local go_sem] Oper.semAt_some

def intC (L : List Int) : List Value := L.map fun n => Value.int .i64 n
def inoL (x : Gd.Ino) : List Int := x.k :: x.l :: x.s :: (x.B ++ x.O)
def inoC (x : Gd.Ino) : Array Value := (intC (inoL x)).toArray
def inoV (x : Gd.Ino) : Value := .agg (inoC x)
theorem Tryz.sizeIno : (Tryz.prog.info? 25).map (fun i => i.size) = some 15 := by kernel_rfl
theorem Tryz.size4 : (Tryz.prog.info? 22).map (fun i => i.size) = some 4 := by kernel_rfl
theorem Tryz.size8 : (Tryz.prog.info? 23).map (fun i => i.size) = some 8 := by kernel_rfl
theorem Tryz.infoInts : (Tryz.prog.info? 3).map (·.size) = some 1 := by kernel_rfl
theorem intC_len (L : List Int) : (intC L).length = L.length := List.length_map ..
theorem intC_get {L : List Int} {j : Nat} {n : Int} (h : L[j]? = some n) : (intC L)[j]? = some (.int .i64 n) := by
  unfold intC
  rw [List.getElem?_map, h]
  rfl
theorem intC_one (L : List Int) : ∀ u ∈ intC L, u.oneCell' = true := by
  intro u hu
  unfold intC at hu
  obtain ⟨n, _, rfl⟩ := List.mem_map.1 hu
  rfl
theorem inoL_len {x : Gd.Ino} (h : x.Shape) : (inoL x).length = 15 := by
  unfold inoL
  simp only [List.length_cons, List.length_append, h.1, h.2]
theorem inoC_size {x : Gd.Ino} (h : x.Shape) : (inoC x).size = 15 := by
  unfold inoC
  rw [List.size_toArray, intC_len, inoL_len h]
theorem inoC_one (x : Gd.Ino) : (inoC x).all (·.oneCell') = true := all_oneCell_toArray (intC_one _)
theorem inoC_get {x : Gd.Ino} {j : Nat} {n : Int} (h : (inoL x)[j]? = some n) : (inoC x)[j]? = some (.int .i64 n) := by
  unfold inoC
  rw [List.getElem?_toArray]
  exact intC_get h
/-- an inode in a variable of its own -/
structure InoAt (w : World) (b : Nat) (x : Gd.Ino) : Prop where
  row : w.heap[b]? = some (.cells (inoC x) 25 (0, 0))
  shape : x.Shape
theorem InoAt.c0 {w : World} {b : Nat} {x : Gd.Ino} (h : InoAt w b x) : w.cell? ⟨b, 0, none⟩ = some (.int .i64 x.k) := (cell_of_row w b 0 _ _ _ h.row).trans (inoC_get rfl)
theorem InoAt.c1 {w : World} {b : Nat} {x : Gd.Ino} (h : InoAt w b x) : w.cell? ⟨b, 1, none⟩ = some (.int .i64 x.l) := (cell_of_row w b 1 _ _ _ h.row).trans (inoC_get rfl)
theorem InoAt.c2 {w : World} {b : Nat} {x : Gd.Ino} (h : InoAt w b x) : w.cell? ⟨b, 2, none⟩ = some (.int .i64 x.s) := (cell_of_row w b 2 _ _ _ h.row).trans (inoC_get rfl)
theorem InoAt.blocks {w : World} {b : Nat} {x : Gd.Ino} (h : InoAt w b x) : w.rangeAt b 3 (intC x.B) := fun j v hv => by
  unfold intC at hv
  rw [List.getElem?_map] at hv
  obtain ⟨n, hn, rfl⟩ := Option.map_eq_some_iff.1 hv
  have hj := (List.getElem?_eq_some_iff.1 hn).1
  refine (cell_of_row w b (3 + j) _ _ _ h.row).trans (inoC_get ?_)
  rw [show 3 + j = j + 3 by omega]
  show (x.B ++ x.O)[j]? = some n
  rw [List.getElem?_append_left hj]
  exact hn
theorem InoAt.opens {w : World} {b : Nat} {x : Gd.Ino} (h : InoAt w b x) : w.rangeAt b 7 (intC x.O) := fun j v hv => by
  unfold intC at hv
  rw [List.getElem?_map] at hv
  obtain ⟨n, hn, rfl⟩ := Option.map_eq_some_iff.1 hv
  have hB := h.shape.1
  refine (cell_of_row w b (7 + j) _ _ _ h.row).trans (inoC_get ?_)
  rw [show 7 + j = (4 + j) + 3 by omega]
  show (x.B ++ x.O)[4 + j]? = some n
  rw [List.getElem?_append_right (by omega), hB, show 4 + j - 4 = j by omega]
  exact hn
theorem InoAt.keep {w w' : World} {b : Nat} {x : Gd.Ino} (h : InoAt w b x) (hb : Below w.heap.size w w') : InoAt w' b x := ⟨(hb.block b (lt_get h.row)).trans h.row, h.shape⟩
theorem InoAt.range {w : World} {b : Nat} {x : Gd.Ino} (h : InoAt w b x) : w.rangeAt b 0 (intC (inoL x)) := fun j v hv => by
  rw [Nat.zero_add, cell_of_row w b j _ _ _ h.row]
  unfold inoC
  rw [List.getElem?_toArray]
  exact hv
theorem ino_box (w : World) {x : Gd.Ino} (h : x.Shape) : InoAt (w.alloc (.cells (inoC x) 25)) w.heap.size x ∧ Below w.heap.size w (w.alloc (.cells (inoC x) 25)) := ⟨⟨heap_alloc_new _ _, h⟩, (Below.refl _ _).alloc (Nat.le_refl _) _⟩
/-- numbers that fit -/
def AllI (L : List Int) : Prop := ∀ n ∈ L, I64 n
theorem opnB_take {most : Int} {O : List Int} {i : Nat} {n : Int} (h : O[i]? = some n) : Gd.opnB most (O.take (i + 1)) = (Gd.opnB most (O.take i) && (decide (0 ≤ n) && decide (n ≤ most))) := by
  unfold Gd.opnB
  rw [List.take_add_one, h, List.all_append]
  simp
theorem opnB_bad {most : Int} {O : List Int} {i : Nat} {n : Int} (h : O[i]? = some n) (hb : (decide (0 ≤ n) && decide (n ≤ most)) = false) : Gd.opnB most O = false := by
  unfold Gd.opnB
  rw [List.all_eq_false]
  exact ⟨n, List.mem_of_getElem? h, by rw [hb]; simp⟩

set_option maxHeartbeats 4000000 in
set_option maxRecDepth 100000 in
theorem opens_any (x : Gd.Ino) (hx : x.Shape) (most : Nat) (w : World) : Calls Tryz.prog 105 #[inoV x, .int .i64 most] w fun e w' => e = .returned (.bool (Gd.opnB most x.O)) ∧ Below w.heap.size w w' := by
  obtain ⟨hb0, hbb⟩ := ino_box w hx
  obtain ⟨b, hbe⟩ : ∃ b, b = w.heap.size := ⟨_, rfl⟩
  obtain ⟨wb, hwb⟩ : ∃ u, u = w.alloc (.cells (inoC x) 25) := ⟨_, rfl⟩
  rw [← hwb, ← hbe] at hb0
  rw [← hwb] at hbb
  have Hbe := Lib.hid hbe.symm
  have HBb := Lib.hid hbb
  have HWb := Lib.hid hwb
  have HI := Lib.hid hb0
  have HX := Lib.hid hx
  have HL : Hid ((intC x.O).length = 8) := Lib.hid (by rw [intC_len]; exact hx.2)
  clear hbe hbb hwb hb0 hx
  unfold inoV at *
  go_enter Tryz.func105, Tryz.ntmps105
  go_upto_region 1 with fail
  rw [← HWb.out, Hbe.out]
  go_upto_region 2 with (refine wpList_load_mid rfl 23 _ rfl b 7 rfl (intC x.O) _ HI.out.opens Tryz.underlying23 rfl (by rw [HL.out]; exact Tryz.size8) ?_)
  go_loopw [9] (fun z wr => ∃ i : Nat, z = .int .i64 i ∧ i ≤ 8 ∧ Hid (Gd.opnB most (x.O.take i) = true) ∧ wr = wb) (fun z _ => 8 - (intOf z).toNat)
  case atStart => exact ⟨0, rfl, by omega, Lib.hid (by simp [Gd.opnB]), rfl⟩
  case round =>
    obtain ⟨i, rfl, hi, HO, rfl⟩ := hrel
    by_cases hlt : i < 8
    · obtain ⟨n, hn⟩ : ∃ n, x.O[i]? = some n := ⟨_, List.getElem?_eq_getElem (by have := HX.out.2; omega)⟩
      have hc := run_index_one 23 3 8 (intC x.O).toArray .i64 .i64 i _ wr Tryz.underlying23 Tryz.underlying3 Tryz.infoInts hlt (by rw [List.getElem?_toArray]; exact intC_get hn)
      have h1 : (i : Int) < 8 := by omega
      have HT := Lib.hid (opnB_take (most := most) hn)
      have HN := Lib.hid (inoin_any n most wr)
      cases hb : (decide (0 ≤ n) && decide (n ≤ (most : Int))) with
      | true =>
        rw [hb] at HN HT
        have HO2 : Hid (Gd.opnB most (x.O.take (i + 1)) = true) := Lib.hid (by rw [HT.out, HO.out]; rfl)
        clear hn hb hlt HT
        go_wp2_with (go_at_call 104; refine HN.out.mono ?_; rintro e w2 ⟨rfl, rfl⟩)
        go_roundw
        case rel => exact ⟨i + 1, by go_num, by omega, HO2, trivial⟩
        case measure => simp [intOf]; omega
      | false =>
        rw [hb] at HN
        have HBd := Lib.hid (opnB_bad hn hb)
        clear hn hb hlt HT
        go_wp2_with (go_at_call 104; refine HN.out.mono ?_; rintro e w2 ⟨rfl, rfl⟩)
        go_ret
        exact ⟨ret_bool HBd.out.symm, HBb.out⟩
    · obtain rfl : i = 8 := by omega
      clear hlt
      go_wp2
      go_ret
      refine ⟨ret_bool ?_, HBb.out⟩
      have := HO.out
      rw [List.take_of_length_le (by have := HX.out.2; omega)] at this
      exact this.symm

theorem Tryz.hadZero : ∀ j : Fin 129, Tryz.zeroCells218[j.val]? = some (.bool false) := fun j => by
  have h : Tryz.zeroCells218 = Array.replicate 129 (.bool false) := by kernel_rfl
  rw [h, Array.getElem?_replicate, if_pos j.isLt]
theorem Tryz.hadSize : Tryz.zeroCells218.size = 129 := by kernel_rfl
/-- which numbers were had -/
structure HadAt (w : World) (h : Nat) (had : List Int) : Prop where
  row : ∃ C : Array Value, w.heap[h]? = some (.cells C 218 (0, 0)) ∧ C.size = 129 ∧ ∀ j : Nat, j < 129 → C[j]? = some (.bool (had.contains (j : Int)))
theorem HadAt.cell {w : World} {h : Nat} {had : List Int} (H : HadAt w h had) {j : Nat} (hj : j < 129) : w.cell? ⟨h, j, none⟩ = some (.bool (had.contains (j : Int))) ∧ w.frozen? ⟨h, j, none⟩ = false := by
  obtain ⟨C, hg, _, hc⟩ := H.row
  exact ⟨(cell_of_row w h j _ _ _ hg).trans (hc j hj), frozen_of_row w h j _ _ hg⟩
theorem HadAt.set {w : World} {h : Nat} {had : List Int} (H : HadAt w h had) {j : Nat} (hj : j < 129) : HadAt (w.setCell ⟨h, j, none⟩ (.bool true)) h (had ++ [(j : Int)]) := by
  obtain ⟨C, hg, hs, hc⟩ := H.row
  refine ⟨_, Go.heap_setCell_same w h j _ _ _ hg, by rw [Array.size_setIfInBounds]; exact hs, fun k hk => ?_⟩
  rw [Array.getElem?_setIfInBounds]
  by_cases e : j = k
  · subst e
    rw [if_pos rfl, if_pos (by omega)]
    simp
  · rw [if_neg e, hc k hk]
    simp
    intro e'
    omega
theorem HadAt.keep {w w' : World} {h : Nat} {had : List Int} (H : HadAt w h had) (hb : w'.heap[h]? = w.heap[h]?) : HadAt w' h had := by
  obtain ⟨C, hg, hs, hc⟩ := H.row
  exact ⟨C, hb.trans hg, hs, hc⟩
theorem HadAt.lt {w : World} {h : Nat} {had : List Int} (H : HadAt w h had) : h < w.heap.size := by
  obtain ⟨C, hg, hs, hc⟩ := H.row
  exact lt_get hg
theorem had_new (w : World) : HadAt (w.alloc (.cells Tryz.zeroCells218 218)) w.heap.size [] :=
  ⟨_, heap_alloc_new _ _, Tryz.hadSize, fun j hj => Tryz.hadZero ⟨j, hj⟩⟩
/-- what is asked of one block's number -/
def blkOk (kind size : Int) (k : Nat) (had : List Int) (b : Int) : Bool := (decide (0 ≤ b) && decide (b ≤ 128)) && !(decide (0 < b) && had.contains b) && !(decide (kind = 1) && (decide (0 < b) != decide ((64 * k : Int) < size)))
theorem blkB_cons (kind size : Int) (k : Nat) (had : List Int) (b : Int) (r : List Int) : Gd.blkB kind size k had (b :: r) = (blkOk kind size k had b && Gd.blkB kind size (k + 1) (had ++ [b]) r) := rfl

set_option maxHeartbeats 8000000 in
set_option maxRecDepth 100000 in
theorem blocks_any (x : Gd.Ino) (hx : x.Shape) (hI : AllI x.B) (w : World) : Calls Tryz.prog 106 #[inoV x] w fun e w' => e = .returned (.bool (Gd.blkB x.k x.s 0 [] x.B)) ∧ Below w.heap.size w w' := by
  obtain ⟨hb0, hbb⟩ := ino_box w hx
  obtain ⟨b, hbe⟩ : ∃ b, b = w.heap.size := ⟨_, rfl⟩
  obtain ⟨wb, hwb⟩ : ∃ u, u = w.alloc (.cells (inoC x) 25) := ⟨_, rfl⟩
  rw [← hwb, ← hbe] at hb0
  rw [← hwb] at hbb
  have hh0 := had_new wb
  have hhb : Below wb.heap.size wb (wb.alloc (.cells Tryz.zeroCells218 218)) := (Below.refl _ _).alloc (Nat.le_refl _) _
  obtain ⟨wh, hwh⟩ : ∃ u, u = wb.alloc (.cells Tryz.zeroCells218 218) := ⟨_, rfl⟩
  obtain ⟨h, hhe⟩ : ∃ h, h = wb.heap.size := ⟨_, rfl⟩
  rw [← hwh, ← hhe] at hh0
  rw [← hwh] at hhb
  have hbh : b < h := by rw [hhe]; exact lt_get hb0.row
  have hI1 := hb0.keep hhb
  have Hbe := Lib.hid hbe.symm
  have Hhe := Lib.hid hhe.symm
  have HBb : Hid (Below w.heap.size w wh) := Lib.hid (hbb.trans (hhb.mono hbb.size))
  have HWb := Lib.hid hwb
  have HWh := Lib.hid hwh
  have HI := Lib.hid hI1
  have HH := Lib.hid hh0
  have HX := Lib.hid hx
  have HA := Lib.hid hI
  have HL : Hid ((intC x.B).length = 4) := Lib.hid (by rw [intC_len]; exact hx.1)
  have Hbh := Lib.hid hbh
  obtain ⟨R, hR⟩ : ∃ R, R = Gd.blkB x.k x.s 0 [] x.B := ⟨_, rfl⟩
  have HR : Hid (R = Gd.blkB x.k x.s 0 [] (x.B.drop 0)) := Lib.hid hR
  rw [← hR]
  clear hbe hbb hwb hb0 hx hh0 hhb hwh hhe hbh hI1 hI hR
  unfold inoV at *
  go_enter Tryz.func106, Tryz.ntmps106
  go_upto_region 1 with fail
  rw [← HWb.out, Hbe.out]
  go_upto_region 2 with fail
  rw [← HWh.out, Hhe.out]
  go_upto_region 3 with (refine wpList_load_mid rfl 22 _ rfl b 3 rfl (intC x.B) _ HI.out.blocks Tryz.underlying22 rfl (by rw [HL.out]; exact Tryz.size4) ?_)
  go_loopw [8] (fun z wr => ∃ (i : Nat) (had : List Int), z = .int .i64 i ∧ i ≤ 4 ∧ Hid (R = Gd.blkB x.k x.s i had (x.B.drop i)) ∧ Hid (HadAt wr h had ∧ InoAt wr b x ∧ Below w.heap.size w wr)) (fun z _ => 4 - (intOf z).toNat)
  case atStart => exact ⟨0, [], rfl, by omega, HR, Lib.hid ⟨HH.out, HI.out, HBb.out⟩⟩
  case round =>
    obtain ⟨i, had, rfl, hi, HRi, HW⟩ := hrel
    by_cases hlt : i < 4
    · obtain ⟨n, hn⟩ : ∃ n, x.B[i]? = some n := ⟨_, List.getElem?_eq_getElem (by have := HX.out.1; omega)⟩
      have hc := run_index_one 22 3 4 (intC x.B).toArray .i64 .i64 i _ wr Tryz.underlying22 Tryz.underlying3 Tryz.infoInts hlt (by rw [List.getElem?_toArray]; exact intC_get hn)
      have h1 : (i : Int) < 4 := by omega
      have h0 : (0 : Int) ≤ i := by omega
      have hdr : x.B.drop i = n :: x.B.drop (i + 1) := by
        have hl := (List.getElem?_eq_some_iff.1 hn)
        rw [← hl.2, List.drop_eq_getElem_cons hl.1]
      have HRn : Hid (R = (blkOk x.k x.s i had n && Gd.blkB x.k x.s (i + 1) (had ++ [n]) (x.B.drop (i + 1)))) := Lib.hid (by rw [HRi.out, hdr, blkB_cons])
      have HN := Lib.hid (inoin_any n 128 wr)
      have k0 := HW.out.2.1.c0
      have k2 := HW.out.2.1.c2
      obtain ⟨kd, hkd⟩ : ∃ kd, kd = x.k := ⟨_, rfl⟩
      obtain ⟨sz, hsz⟩ : ∃ sz, sz = x.s := ⟨_, rfl⟩
      have Hks := Lib.hid (And.intro hkd hsz)
      rw [← hkd] at k0
      rw [← hsz] at k2
      rw [← hkd, ← hsz] at HRn
      clear hn hdr hlt HRi hkd hsz
      cases hb : (decide (0 ≤ n) && decide (n ≤ ((128 : Nat) : Int))) with
      | false =>
        rw [hb] at HN
        have HR0 : Hid (R = false) := Lib.hid (by
          rw [HRn.out]
          unfold blkOk
          rw [show (decide (0 ≤ n) && decide (n ≤ 128)) = false from hb]
          rfl)
        clear hb
        go_wp2_with (go_at_call 104; refine HN.out.mono ?_; rintro e w2 ⟨rfl, rfl⟩)
        go_ret
        exact ⟨ret_bool HR0.out.symm, HW.out.2.2⟩
      | true =>
        rw [hb] at HN
        obtain ⟨m, rfl⟩ : ∃ m : Nat, n = m := ⟨n.toNat, by simp at hb; omega⟩
        have hm : m ≤ 128 := by simp at hb; omega
        have hm9 : (m : Int) < 129 := by omega
        have hm0 : (0 : Int) ≤ m := by omega
        obtain ⟨d0, d1⟩ := HW.out.1.cell (j := m) (by omega)
        obtain ⟨g, hg⟩ : ∃ g, g = had.contains (m : Int) := ⟨_, rfl⟩
        rw [← hg] at d0
        have HOk : Hid (blkOk kd sz i had m = (!(decide (0 < (m : Int)) && g) && !(decide (kd = 1) && (decide (0 < (m : Int)) != decide ((64 * i : Int) < sz))))) := Lib.hid (by
          unfold blkOk
          rw [show (decide (0 ≤ (m : Int)) && decide ((m : Int) ≤ 128)) = true from hb, ← hg]
          rfl)
        obtain ⟨w3, hw3⟩ : ∃ u, u = wr.setCell ⟨h, m, none⟩ (.bool true) := ⟨_, rfl⟩
        have HW3 : Hid (HadAt w3 h (had ++ [(m : Int)]) ∧ InoAt w3 b x ∧ Below w.heap.size w w3) := Lib.hid (by
          rw [hw3]
          refine ⟨HW.out.1.set (by omega), ⟨(Go.heap_setCell_other wr ⟨h, m, none⟩ b _ (by have := Hbh.out; simp; omega)).trans HW.out.2.1.row, HW.out.2.1.shape⟩, HW.out.2.2.setCell ?_ _⟩
          have h1 := Hbh.out
          have h2 := Hbe.out
          show w.heap.size ≤ h
          omega)
        have Hw3 := Lib.hid hw3
        clear hw3 hb hg
        -- what the test comes to
        by_cases hbad : blkOk kd sz i had m = true
        · have HR1 : Hid (R = Gd.blkB x.k x.s (i + 1) (had ++ [(m : Int)]) (x.B.drop (i + 1))) := Lib.hid (by rw [HRn.out, hbad, Bool.true_and, Hks.out.1, Hks.out.2])
          have hok := hbad
          rw [HOk.out] at hok
          clear hbad
          by_cases hmz : m = 0
          · subst hmz
            by_cases hk1 : kd = 1
            · subst hk1
              have hs1 : sz ≤ (i : Int) * 64 := by simp at hok; omega
              clear hok
              go_wp2_with (go_at_call 104; refine HN.out.mono ?_; rintro e w2 ⟨rfl, rfl⟩)
              rw [← Hw3.out]
              go_roundw
              case rel => exact ⟨i + 1, _, by go_num, by omega, HR1, HW3⟩
              case measure => simp [intOf]; omega
            · clear hok
              go_wp2_with (go_at_call 104; refine HN.out.mono ?_; rintro e w2 ⟨rfl, rfl⟩)
              rw [← Hw3.out]
              (first | (go_roundw; (case rel => exact ⟨i + 1, _, by go_num, by omega, HR1, HW3⟩); (case measure => simp [intOf]; omega)) | (refine ⟨⟨i + 1, _, by go_num, by omega, HR1, HW3⟩, ?_⟩; simp [intOf]; omega))
          · have hmp : (0 : Int) < m := by omega
            have hg0 : g = false := by
              cases g with
              | false => rfl
              | true => simp [hmp] at hok; omega
            subst hg0
            by_cases hk1 : kd = 1
            · subst hk1
              have hs1 : (i : Int) * 64 < sz := by simp [hmp] at hok; omega
              clear hok
              go_wp2_with (go_at_call 104; refine HN.out.mono ?_; rintro e w2 ⟨rfl, rfl⟩)
              rw [← Hw3.out]
              (first | (go_roundw; (case rel => exact ⟨i + 1, _, by go_num, by omega, HR1, HW3⟩); (case measure => simp [intOf]; omega)) | (refine ⟨⟨i + 1, _, by go_num, by omega, HR1, HW3⟩, ?_⟩; simp [intOf]; omega))
            · clear hok
              go_wp2_with (go_at_call 104; refine HN.out.mono ?_; rintro e w2 ⟨rfl, rfl⟩)
              rw [← Hw3.out]
              (first | (go_roundw; (case rel => exact ⟨i + 1, _, by go_num, by omega, HR1, HW3⟩); (case measure => simp [intOf]; omega)) | (refine ⟨⟨i + 1, _, by go_num, by omega, HR1, HW3⟩, ?_⟩; simp [intOf]; omega))
        · have HR0 : Hid (R = false) := Lib.hid (by
            rw [HRn.out]
            simp only [Bool.not_eq_true] at hbad
            rw [hbad]
            rfl)
          have hok := hbad
          rw [HOk.out] at hok
          clear hbad
          by_cases hmz : m = 0
          · subst hmz
            obtain ⟨rfl, hs1⟩ : kd = 1 ∧ (i : Int) * 64 < sz := by
              simp at hok
              omega
            clear hok
            go_wp2_with (go_at_call 104; refine HN.out.mono ?_; rintro e w2 ⟨rfl, rfl⟩)
            go_ret
            exact ⟨ret_bool HR0.out.symm, HW.out.2.2⟩
          · have hmp : (0 : Int) < m := by omega
            cases g with
            | true =>
              clear hok
              go_wp2_with (go_at_call 104; refine HN.out.mono ?_; rintro e w2 ⟨rfl, rfl⟩)
              go_ret
              exact ⟨ret_bool HR0.out.symm, HW.out.2.2⟩
            | false =>
              obtain ⟨rfl, hs1⟩ : kd = 1 ∧ sz ≤ (i : Int) * 64 := by
                simp [hmp] at hok
                omega
              have hs2 : decide ((i : Int) * 64 < sz) = false := decide_eq_false (by omega)
              clear hok
              go_wp2_with (go_at_call 104; refine HN.out.mono ?_; rintro e w2 ⟨rfl, rfl⟩)
              go_ret
              exact ⟨ret_bool HR0.out.symm, HW.out.2.2⟩
    · obtain rfl : i = 4 := by omega
      clear hlt
      go_wp2
      go_ret
      refine ⟨ret_bool ?_, HW.out.2.2⟩
      rw [HRi.out, List.drop_eq_nil_of_le (by have := HX.out.1; omega)]
      rfl

end Go.Proofs.YtginffdngphjpaaGreatDoor
