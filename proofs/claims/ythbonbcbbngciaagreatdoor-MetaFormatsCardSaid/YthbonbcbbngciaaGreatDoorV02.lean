/- Rows of bytes, as values, that are compared. -/
import Derived.Test.YthbonbcbbngciaaGreatDoorV00
import Derived.ChangeKeysEq
import Derived.Test.YthbonbcbbngciaaGreatDoorV01
import Derived.Deep.MidRow
import Derived.Defers
import Derived.Lib.BufferWrite
import Derived.Laws.CopyOwn
set_option linter.unusedVariables false
set_option linter.unusedSimpArgs false
set_option linter.unusedSectionVars false
namespace Go.Proofs.YthbonbcbbngciaaGreatDoor
open Go.RowKit

theorem mapM_all {α β : Type} (f : α → Option β) (g : α → β) : ∀ (l : List α), (∀ a ∈ l, f a = some (g a)) → l.mapM f = some (l.map g)
  | [], _ => rfl
  | a :: r, h => by
    rw [List.mapM_cons, h a (List.mem_cons_self ..), mapM_all f g r fun b hb => h b (List.mem_cons_of_mem _ hb)]
    rfl
theorem flatten_one {α β : Type} (f : α → β) : ∀ (l : List α), (l.map fun a => [f a]).flatten = l.map f
  | [] => rfl
  | a :: r => by rw [List.map_cons, List.flatten_cons, flatten_one f r]; rfl
theorem range_getD {β : Type} (h : UInt8 → β) (L : List UInt8) : (List.range L.length).map (fun i => h (L.getD i 0)) = L.map h := by
  apply List.ext_getElem?
  intro i
  rw [List.getElem?_map, List.getElem?_map]
  by_cases hi : i < L.length
  · rw [List.getElem?_range hi, List.getElem?_eq_getElem hi]
    simp [List.getD_eq_getElem?_getD, List.getElem?_eq_getElem hi]
  · rw [List.getElem?_eq_none (by simpa using hi), List.getElem?_eq_none (by omega)]
    rfl
theorem u8_wf (x : UInt8) : (Lit.int .u8 x.toNat).wf = true := by
  have := x.toNat_lt
  simp [Lit.wf, show IntKind.u8.min = 0 from rfl, show IntKind.u8.max = 255 from rfl]
  omega
theorem u8_key (x : UInt8) : Tryz.prog.keyLits 1 5 [.int .u8 x.toNat] = some [.int .u8 x.toNat] := by
  unfold Program.keyLits
  simp [Tryz.underlying5, u8_wf x]
theorem u8_cells : Tryz.prog.cellsOf 5 = 1 := by kernel_rfl
theorem u8_items (L : List UInt8) : (List.range L.length).mapM (fun i => Tryz.prog.keyLits 1 5 (((Lib.byteCells L).toArray.toList.drop (i * Tryz.prog.cellsOf 5)).take (Tryz.prog.cellsOf 5))) = some ((List.range L.length).map fun i => [Lit.int .u8 (L.getD i 0).toNat]) := by
  refine mapM_all _ _ _ fun i hi => ?_
  have hi' : i < L.length := by simpa using hi
  rw [u8_cells, Nat.mul_one]
  have e : ((Lib.byteCells L).toArray.toList.drop i).take 1 = [Value.int .u8 (L.getD i 0).toNat] := by
    rw [List.getD_eq_getElem?_getD, List.getElem?_eq_getElem hi']
    have hb : (Lib.byteCells L)[i]? = some (.int .u8 L[i].toNat) := byteCells_get (List.getElem?_eq_getElem hi')
    have hl : i < (Lib.byteCells L).length := (List.getElem?_eq_some_iff.1 hb).1
    rw [List.drop_eq_getElem_cons hl, List.take_succ_cons, List.take_zero]
    have := (List.getElem?_eq_some_iff.1 hb).2
    rw [this]
    rfl
  rw [e]
  exact u8_key _
set_option maxRecDepth 100000 in
/-- two rows of bytes are the same just if their bytes are -/
theorem arr_eq {t : TypeId} (L M : List UInt8) (hl : M.length = L.length) (hu : Tryz.prog.underlying t = some (.array L.length 5)) (w : World) : (Op.equal t (.agg (Lib.byteCells L).toArray) (.agg (Lib.byteCells M).toArray)).run Tryz.prog w = .ok (decide (L = M)) w := by
  obtain ⟨i0, hi, _⟩ := info_parts Tryz.infoU8
  refine (run_equalIn_array w 9999 _ _ hu hi).trans ?_
  obtain ⟨r, hr, hiff⟩ := run_eqItems_plain w 9998 (P := Tryz.prog) (e := 5) (by kernel_rfl) (Lib.byteCells L).toArray (Lib.byteCells M).toArray (D := 1) (D' := 1) (List.range L.length) _ _ (u8_items L) (by rw [← hl]; exact u8_items M)
  refine hr.trans ?_
  congr 1
  rw [flatten_one, flatten_one, range_getD (fun x => Lit.int .u8 x.toNat) L, range_getD (fun x => Lit.int .u8 x.toNat) M] at hiff
  rw [Bool.eq_iff_iff, hiff, decide_eq_true_iff]
  constructor
  · intro h
    refine List.map_inj_right (fun x y e => ?_) |>.1 h
    have := (Lit.int.inj e).2
    exact UInt8.toNat_inj.1 (by omega)
  · intro h
    rw [h]
theorem arr_neq {t : TypeId} (L M : List UInt8) (hl : M.length = L.length) (hu : Tryz.prog.underlying t = some (.array L.length 5)) (w : World) : (binOp .neq t (.agg (Lib.byteCells L).toArray) (.agg (Lib.byteCells M).toArray)).run Tryz.prog w = .ok (.bool (!decide (L = M))) w := by
  simp [binOp, arr_eq L M hl hu w]
theorem arr_eql {t : TypeId} (L M : List UInt8) (hl : M.length = L.length) (hu : Tryz.prog.underlying t = some (.array L.length 5)) (w : World) : (binOp .eql t (.agg (Lib.byteCells L).toArray) (.agg (Lib.byteCells M).toArray)).run Tryz.prog w = .ok (.bool (decide (L = M))) w := by
  simp [binOp, arr_eq L M hl hu w]

end Go.Proofs.YthbonbcbbngciaaGreatDoor

/- Walks: the memory that lasts: cells are set on their way. -/
namespace Go.Proofs.YthbonbcbbngciaaGreatDoor
open Go.RowKit Go.Maps

theorem eight {S : List UInt8} {k n : Nat} (h : S.length = n * 8) (hk : k < n) : ∃ x0 x1 x2 x3 x4 x5 x6 x7, S[k * 8]? = some x0 ∧ S[k * 8 + 1]? = some x1 ∧ S[k * 8 + 2]? = some x2 ∧ S[k * 8 + 3]? = some x3 ∧ S[k * 8 + 4]? = some x4 ∧ S[k * 8 + 5]? = some x5 ∧ S[k * 8 + 6]? = some x6 ∧ S[k * 8 + 7]? = some x7 :=
  ⟨_, _, _, _, _, _, _, _, List.getElem?_eq_getElem (by omega), List.getElem?_eq_getElem (by omega), List.getElem?_eq_getElem (by omega), List.getElem?_eq_getElem (by omega), List.getElem?_eq_getElem (by omega), List.getElem?_eq_getElem (by omega), List.getElem?_eq_getElem (by omega), List.getElem?_eq_getElem (by omega)⟩
theorem cellB {w : World} {g t j : Nat} {S : List UInt8} {x : UInt8} (h : w.heap[g]? = some (.cells (cellsB S) t (0, 0))) (hx : S[j]? = some x) : w.cell? ⟨g, j, none⟩ = some (.int .u8 x.toNat) := (cell_of_row w g j _ _ _ h).trans (cellsB_get hx)

theorem MemAt.more {w : World} {m sb lb ab n K K' : Nat} {S : List UInt8} (h : MemAt w m sb lb ab n S K) (hK : K ≤ K') : MemAt w m sb lb ab n S K' := by
  obtain ⟨q, D, hq, ho, hD⟩ := h.away
  exact ⟨h.obj, h.seen, h.lasts, ⟨q, D, Nat.le_trans hq hK, ho, hD⟩, h.len, h.small, h.lines, h.ne⟩
set_option maxHeartbeats 4000000 in
set_option maxRecDepth 100000 in
theorem flushk_any {m sb lb ab n K bx : Nat} {S : List UInt8} (k : Nat) (hkn : k < n) (w : World) (h : MemAt w m sb lb ab n S K) (hbx : w.cell? ⟨bx, 0, none⟩ = some (.pointer (some ⟨m, 0, none⟩))) (hK : K < 1000000000000) :
    Calls Tryz.prog 143 #[.int .i64 k, .pointer (some ⟨bx, 0, none⟩)] w fun e w' => e = .returned (.tuple #[]) ∧ MemAt w' m sb lb ab n S (K + 1) ∧ Only (fun k => k = ab) w w' := by
  obtain ⟨Z, hZ, hl⟩ := h.lasts
  obtain ⟨x0, x1, x2, x3, x4, x5, x6, x7, s0, s1, s2, s3, s4, s5, s6, s7⟩ := eight h.len hkn
  obtain ⟨y0, y1, y2, y3, y4, y5, y6, y7, t0, t1, t2, t3, t4, t5, t6, t7⟩ := eight (hZ.trans h.len) hkn
  have a0 := cellB h.seen s0
  have a1 := cellB h.seen s1
  have a2 := cellB h.seen s2
  have a3 := cellB h.seen s3
  have a4 := cellB h.seen s4
  have a5 := cellB h.seen s5
  have a6 := cellB h.seen s6
  have a7 := cellB h.seen s7
  have b0 := cellB hl t0
  have b1 := cellB hl t1
  have b2 := cellB hl t2
  have b3 := cellB hl t3
  have b4 := cellB hl t4
  have b5 := cellB hl t5
  have b6 := cellB hl t6
  have b7 := cellB hl t7
  obtain ⟨c0, c1, c2⟩ := cell2 h.obj
  have HM := Lib.hid h
  have e1 : (k : Int) < n := by omega
  have hq := arr_neq (t := 93) [x0, x1, x2, x3, x4, x5, x6, x7] [y0, y1, y2, y3, y4, y5, y6, y7] rfl Tryz.underlying93
  obtain ⟨nb, hnb⟩ : ∃ nb : Bool, nb = !decide ([x0, x1, x2, x3, x4, x5, x6, x7] = [y0, y1, y2, y3, y4, y5, y6, y7]) := ⟨_, rfl⟩
  rw [← hnb] at hq
  simp only [Lib.byteCells, List.map_cons, List.map_nil] at hq
  clear hnb s0 s1 s2 s3 s4 s5 s6 s7 t0 t1 t2 t3 t4 t5 t6 t7 hZ hl h
  go_enter Tryz.func143, Tryz.ntmps143
  go_wp2
  go_quiet (fail)
  obtain ⟨wd, hwd⟩ : ∃ v, v = w.drewN nq := ⟨_, rfl⟩
  rw [← hwd]
  have hbd : Below w.heap.size w wd := by rw [hwd]; exact below_drewN (Below.refl _ _) _
  have HMd : Hid (MemAt wd m sb lb ab n S K) := Lib.hid (HM.out.keep fun k hk => hbd.block k (HM.out.lts k hk))
  have HOd : Hid (Only (fun k => k = ab) w wd) := Lib.hid (below_only hbd _)
  have cb : wd.cell? ⟨bx, 0, none⟩ = some (.pointer (some ⟨m, 0, none⟩)) := by rw [hwd]; exact hbx
  clear hwd a0 a1 a2 a3 a4 a5 a6 a7 b0 b1 b2 b3 b4 b5 b6 b7 c0 c1 c2 hq hbd hbx
  obtain ⟨c0, c1, c2⟩ := cell2 HMd.out.obj
  cases nb with
  | false =>
    go_wp2
    go_end0
    exact ⟨rfl, HMd.out.more (Nat.le_succ K), HOd.out⟩
  | true =>
    obtain ⟨q, D, hq, hown, hD⟩ := HMd.out.away
    have HD := Lib.hid (And.intro hq hD)
    have HKey := Lib.hid (keyOf_int_mk (P := Tryz.prog) Tryz.underlying3 (q := .i64) (a := (k : Int)) (nat_I64 (by have := HM.out.small; omega)))
    have HCnt : Hid (q < maxLen) := Lib.hid (by unfold maxLen; omega)
    clear hq hD
    go_wp2_with (at_mapUpdate; refine wpList_mapUpdate_in _ rfl _ _ _ 88 rfl 3 4 Tryz.intLaw Tryz.underlying88 _ ab q D rfl hown HCnt.out _ _ _ rfl rfl HKey.out (.lit (.bool true)) [] (plainElem_bool Tryz.underlying4 true) ?_)
    intro w1 hown1 hturn
    have HM1 : Hid (MemAt w1 m sb lb ab n S (K + 1)) := Lib.hid ((HMd.out.more (Nat.le_succ K)).turn HM.out.apart.1 HM.out.apart.2.1 hturn (by have := HD.out.1; omega) hown1 fun kl hkl => by
      by_cases e : kl = .int .i64 k
      · exact ⟨k, hkn, e⟩
      · rw [has_put_other e] at hkl
        exact HD.out.2 kl hkl)
    have HO1 : Hid (Only (fun k => k = ab) w w1) := Lib.hid (HOd.out.trans (only_turned hturn) fun j _ e => e)
    clear hown hown1 hturn
    go_wp2
    go_end0
    exact ⟨rfl, HM1.out, HO1.out⟩

set_option maxHeartbeats 4000000 in
set_option maxRecDepth 100000 in
theorem line_any {m sb lb ab n K bx : Nat} {S : List UInt8} (l : Nat) (hl : l * 8 + 8 ≤ n) (w : World) (h : MemAt w m sb lb ab n S K) (hbx : w.cell? ⟨bx, 0, none⟩ = some (.pointer (some ⟨m, 0, none⟩))) (hbl : bx < w.heap.size ∧ bx ≠ ab) (hK : K + 8 < 1000000000000) :
    Calls Tryz.prog 142 #[.pointer (some ⟨m, 0, none⟩), .int .i64 l, .func (.func 143) #[] #[.pointer (some ⟨bx, 0, none⟩)]] w fun e w' => e = .returned (.tuple #[]) ∧ MemAt w' m sb lb ab n S (K + 8) ∧ Only (fun k => k = ab) w w' := by
  have HM0 := Lib.hid h
  have Hbx := Lib.hid hbx
  have Hbl := Lib.hid hbl
  have hs := h.small
  obtain ⟨B, hB⟩ : ∃ B, B = l * 8 := ⟨_, rfl⟩
  have eB : (l : Int) * 8 = B := by omega
  have eT : ((l : Int) + 1) * 8 = (B : Int) + 8 := by omega
  have hB8 : B + 8 ≤ n := by omega
  have hl1 : l ≤ 131072 := by omega
  have Hl := Lib.hid hl
  clear h hbx hbl hl hB
  go_enter Tryz.func142, Tryz.ntmps142
  go_wp2
  go_loopw [6] (fun z wr => ∃ i : Nat, z = .int .i64 ((B : Int) + (i : Int)) ∧ i ≤ 8 ∧ Hid (MemAt wr m sb lb ab n S (K + i)) ∧ Hid (Only (fun k => k = ab) w wr)) (fun z _ => B + 8 - (intOf z).toNat)
  case atStart => exact ⟨0, by go_num, by omega, HM0, Lib.hid (Only.refl _ _)⟩
  case round =>
    obtain ⟨i, rfl, hi, HM, HO⟩ := hrel
    by_cases hlt : i < 8
    · have HF := Lib.hid (flushk_any (B + i) (by omega) wr HM.out ((HO.out.cell (p := ⟨bx, 0, none⟩) Hbl.out.1 Hbl.out.2).trans Hbx.out) (by omega))
      have e1 : (i : Int) < 8 := by omega
      have e2 : (B : Int) + 8 ≤ 1048576 := by omega
      go_wp2_with fail
      refine HF.out.mono ?_
      rintro e w2 ⟨rfl, hM2, hO2⟩
      have HM2 : Hid (MemAt w2 m sb lb ab n S (K + (i + 1))) := Lib.hid hM2
      have HO2 := Lib.hid (HO.out.trans hO2 fun _ _ e => e)
      clear hM2 hO2 HF
      go_wp2
      go_roundw
      case rel => exact ⟨i + 1, by go_num, by omega, HM2, HO2⟩
      case measure => simp [intOf]; omega
    · obtain rfl : i = 8 := by omega
      clear hlt
      go_wp2
      go_end0
      exact ⟨rfl, HM.out, HO.out⟩

end Go.Proofs.YthbonbcbbngciaaGreatDoor

/- Walks: the memory that lasts: Flush, and what is on its way lasts. -/
namespace Go.Proofs.YthbonbcbbngciaaGreatDoor
open Go.RowKit Go.Maps

set_option maxHeartbeats 4000000 in
set_option maxRecDepth 100000 in
theorem flush_at {m sb lb ab n K : Nat} {S : List UInt8} (a k : Nat) (w : World) (h : MemAt w m sb lb ab n S K) (hak : a + k ≤ S.length) (hk : k ≤ 100000) (hK : K < 900000000000) :
    Calls Tryz.prog 92 #[.pointer (some ⟨m, 0, none⟩), .int .i64 a, .int .i64 k] w fun e w' => e = .returned (.int .i64 0) ∧ MemAt w' m sb lb ab n S (K + 20000) ∧ Only (fun k => k = ab) w w' := by
  have hlen := h.len
  have hsm := h.small
  have hli := h.lines
  obtain ⟨wb, hwb⟩ : ∃ v, v = w.alloc (.cells #[.pointer (some ⟨m, 0, none⟩)] 23) := ⟨_, rfl⟩
  have hbb : Below w.heap.size w wb := by rw [hwb]; exact (Below.refl _ _).alloc (Nat.le_refl _) _
  have hbox : wb.heap[w.heap.size]? = some (.cells #[.pointer (some ⟨m, 0, none⟩)] 23 (0, 0)) := by rw [hwb]; exact heap_alloc_new _ _
  obtain ⟨bx, hbx⟩ : ∃ bx, bx = w.heap.size := ⟨_, rfl⟩
  have HMb := Lib.hid (h.keep fun q hq => hbb.block q (h.lts q hq))
  have hbc : wb.cell? ⟨bx, 0, none⟩ = some (.pointer (some ⟨m, 0, none⟩)) := by rw [hbx]; exact cell_of_row wb _ 0 _ _ _ hbox
  have Hbl : Hid (bx < wb.heap.size ∧ bx ≠ ab) := Lib.hid ⟨by rw [hbx]; exact lt_get hbox, by rw [hbx]; exact fun e => by have := h.away.lt; omega⟩
  have HW := Lib.hid (within_any (a : Int) (k : Int) (nat_I64 (by omega)) (nat_I64 (by omega)) wb HMb.out)
  have hwi : (decide (0 ≤ (a : Int)) && (decide (0 ≤ (k : Int)) && decide ((a : Int) + k ≤ S.length))) = true := by simp; omega
  rw [hwi] at HW
  have HWb := Lib.hid hwb
  have HBb := Lib.hid hbb
  have Hbc := Lib.hid hbc
  have Hbx := Lib.hid hbx.symm
  have hN : a + k ≤ n * 8 := by omega
  have HN := Lib.hid (And.intro hN (And.intro hsm hli))
  have ha1 : (a : Int) ≤ 1048576 := by omega
  have hk1 : (k : Int) ≤ 100000 := by omega
  clear h hwb hbb hbox hbx hwi hak hlen hsm hli hN
  go_enter Tryz.func92, Tryz.ntmps92
  go_upto_region 1 with fail
  rw [← HWb.out]
  rw [Hbx.out]
  go_upto_region 3 with (go_at_call 37; refine HW.out.mono ?_; rintro e w2 ⟨rfl, rfl⟩)
  obtain ⟨l0, hl0⟩ : ∃ l0, l0 = a / 64 := ⟨_, rfl⟩
  have el0 : (a : Int) / 64 = l0 := by omega
  have Hl0 := Lib.hid hl0
  clear hl0 hbc
  have HMx := Lib.hid HMb.out
  go_wp2
  go_loopw [7] (fun z wr => ∃ j : Nat, z = .int .i64 ((l0 : Int) + (j : Int)) ∧ j ≤ 2000 ∧ j ≤ k / 64 + 2 ∧ Hid (MemAt wr m sb lb ab n S (K + 8 * j)) ∧ Hid (Only (fun k => k = ab) w2 wr)) (fun z _ => l0 + 3000 - (intOf z).toNat)
  case atStart => exact ⟨0, by go_num, by omega, by omega, HMb, Lib.hid (Only.refl _ _)⟩
  case round =>
    obtain ⟨j, rfl, hj, hj2, HM, HO⟩ := hrel
    by_cases hc : 0 < k ∧ l0 + j ≤ (a + k - 1) / 64
    · obtain ⟨hk0, hlj⟩ := hc
      have e1 : (0 : Int) < k := by omega
      have e2 : ((a : Int) + k - 1) / 64 = (((a + k - 1) / 64 : Nat) : Int) := by omega
      have e3 : (l0 : Int) + j ≤ (((a + k - 1) / 64 : Nat) : Int) := by omega
      have e4 : (l0 : Int) + j ≤ 1000000 := by omega
      have e0 : wr.cell? ⟨bx, 0, none⟩ = some (.pointer (some ⟨m, 0, none⟩)) := (HO.out.cell (p := ⟨bx, 0, none⟩) Hbl.out.1 Hbl.out.2).trans Hbc.out
      have HL := Lib.hid (line_any (l0 + j) (by have := HN.out; have := Hl0.out; omega) wr HM.out e0 ⟨Nat.lt_of_lt_of_le Hbl.out.1 HO.out.size, Hbl.out.2⟩ (by omega))
      have hj3 : j + 1 ≤ k / 64 + 2 := by have := Hl0.out; omega
      clear hlj hk0
      go_wp2_with fail
      refine HL.out.mono ?_
      rintro e w3 ⟨rfl, hM3, hO3⟩
      have HM3 : Hid (MemAt w3 m sb lb ab n S (K + 8 * (j + 1))) := Lib.hid hM3
      have HO3 := Lib.hid (HO.out.trans hO3 fun _ _ e => e)
      clear hM3 hO3 HL e0
      go_wp2
      go_roundw
      case rel => exact ⟨j + 1, by go_num, by omega, hj3, HM3, HO3⟩
      case measure => simp [intOf]; omega
    · by_cases hk0 : 0 < k
      · have e1 : (0 : Int) < k := by omega
        have e2 : ((a : Int) + k - 1) / 64 = (((a + k - 1) / 64 : Nat) : Int) := by omega
        have e3 : (((a + k - 1) / 64 : Nat) : Int) < (l0 : Int) + j := by omega
        clear hc
        go_wp2
        go_ret
        exact ⟨rfl, HM.out.more (by omega), (below_only HBb.out _).trans HO.out fun _ _ e => e⟩
      · have e1 : (k : Int) ≤ 0 := by omega
        clear hc
        go_wp2
        go_ret
        exact ⟨rfl, HM.out.more (by omega), (below_only HBb.out _).trans HO.out fun _ _ e => e⟩

end Go.Proofs.YthbonbcbbngciaaGreatDoor

/- Walks: the memory that lasts: a cell lasts; all that is on its way. -/
namespace Go.Proofs.YthbonbcbbngciaaGreatDoor
open Go.RowKit Go.Maps

theorem setCells_bytes (b : Nat) (t : TypeId) : ∀ (X : List UInt8) (o : Nat) (w : World) (Z : List UInt8), w.heap[b]? = some (.cells (cellsB Z) t (0, 0)) → ∃ Z' : List UInt8, Z'.length = Z.length ∧ (w.setCells b o (Lib.byteCells X)).heap[b]? = some (.cells (cellsB Z') t (0, 0))
  | [], _, _, Z, h => ⟨Z, rfl, h⟩
  | x :: r, o, w, Z, h => by
    have h1 := Go.heap_setCell_same w b o _ t (.int .u8 x.toNat) h
    rw [cellsB_set] at h1
    obtain ⟨Z', hl, h2⟩ := setCells_bytes b t r (o + 1) _ (Z.set o x) h1
    exact ⟨Z', by rw [hl, List.length_set], h2⟩
theorem setCells_grownM (g : Nat) : ∀ (vs : List Value) (o : Nat) (w : World), w.grownBy (w.setCells g o vs) (some g)
  | [], _, w => ⟨rfl, rfl, rfl, Nat.le_refl _, fun _ _ _ => rfl⟩
  | v :: r, o, w => by
    have h := setCells_grownM g r (o + 1) (w.setCell ⟨g, o, none⟩ v)
    rw [World.setCells]
    exact grown_trans (setCell_grown g o w v) h
theorem there_cells {w : World} {g t : Nat} {C : Array Value} (h : w.heap[g]? = some (.cells C t (0, 0))) {o n : Nat} (ho : o + n ≤ C.size) : w.there g o n := fun j hj => by
  refine ⟨?_, frozen_of_row _ _ _ _ t h⟩
  have : C[o + j]? = some C[o + j] := Array.getElem?_eq_getElem (by omega)
  rw [cell_of_row _ _ (o + j) C t _ h, this]
  rfl
theorem Tryz.sizeCell : (Tryz.prog.info? 93).map (fun i => i.size) = some 8 := by kernel_rfl
theorem cellsB_size (S : List UInt8) : (cellsB S).size = S.length := by
  unfold cellsB
  rw [List.size_toArray, byteCells_len]

/-- a truth, in a box of its own: else a walk parts the ways at once -/
structure BoxB where
  b : Bool
def boxV (x : BoxB) : Value := .bool x.b
set_option maxRecDepth 100000 in
theorem elem_bool {v : Value} {y : DataW Unit × List MemPlace} (h : plainElem Tryz.prog 4 v = some y) : ∃ c : BoxB, v = boxV c := by
  unfold plainElem at h
  rw [Tryz.underlying4] at h
  cases v with
  | bool c => exact ⟨⟨c⟩, rfl⟩
  | _ => cases h
theorem keep_cell {w w' : World} {m sb lb ab n K r q cnt o : Nat} {S Z : List UInt8} {X : List UInt8} {D : DataW Unit} {left : Lit → Bool} (h : MemAt w m sb lb ab n S K) (hr : w.ranges Tryz.prog 3 (plainElem Tryz.prog 4) ab r q D left cnt) (hZ : Z.length = S.length) (hl : w.heap[lb]? = some (.cells (cellsB Z) 93 (0, 0))) (hw : w' = w.setCells lb o (Lib.byteCells X)) :
    MemAt w' m sb lb ab n S K ∧ w'.ranges Tryz.prog 3 (plainElem Tryz.prog 4) ab r q D left cnt ∧ Only (fun k => k = lb) w w' := by
  have hg : w.grownBy w' (some lb) := by rw [hw]; exact setCells_grownM _ _ _ _
  have hb : ∀ k, k < w.heap.size → k ≠ lb → w'.heap[k]? = w.heap[k]? := fun k hk hn => hg.block k hk (fun e => hn (Option.some.inj e))
  obtain ⟨Z', hZ', hl'⟩ := setCells_bytes lb _ X o w Z hl
  rw [← hw] at hl'
  have ha := h.apart
  refine ⟨⟨(hb m (lt_get h.obj) ha.2.2).trans h.obj, (hb sb (lt_get h.seen) h.ne).trans h.seen, ⟨Z', hZ'.trans hZ, hl'⟩, h.away.keep (hb ab h.away.lt ha.2.1.symm), h.len, h.small, h.lines, h.ne⟩, hr.kept hg (fun e => ha.2.1 (Option.some.inj e).symm) (fun e => ?_), grown_only hg fun k e => (Option.some.inj e).symm⟩
  obtain ⟨es, clock, since, seen, c0, _, _, _, _, hri, _⟩ := hr
  have hrl := Option.some.inj e
  rw [hrl, hl] at hri
  cases hri

set_option maxHeartbeats 4000000 in
set_option maxRecDepth 100000 in
theorem keep_any {m sb lb ab n K r q cnt : Nat} {S : List UInt8} {D : DataW Unit} {left : Lit → Bool} (k : Nat) (hkn : k < n) (w : World) (h : MemAt w m sb lb ab n S K) (hr : w.ranges Tryz.prog 3 (plainElem Tryz.prog 4) ab r q D left cnt) (hq : q ≤ K) (hD : ∀ kl, has D kl = true → ∃ j : Nat, j < n ∧ kl = .int .i64 j) :
    Calls Tryz.prog 144 #[.pointer (some ⟨m, 0, none⟩), .int .i64 k] w fun e w' => e = .returned (.tuple #[]) ∧ MemAt w' m sb lb ab n S K ∧ Only (fun k => k = lb ∨ k = ab) w w' ∧ ∃ cnt', w'.ranges Tryz.prog 3 (plainElem Tryz.prog 4) ab r q (D.del (.int .i64 k)) (fun z => left z && !z.sameKey (.int .i64 k)) cnt' ∧ cnt' ≤ cnt := by
  obtain ⟨Z, hZ, hl⟩ := h.lasts
  obtain ⟨x0, x1, x2, x3, x4, x5, x6, x7, s0, s1, s2, s3, s4, s5, s6, s7⟩ := eight h.len hkn
  have a0 := cellB h.seen s0
  have a1 := cellB h.seen s1
  have a2 := cellB h.seen s2
  have a3 := cellB h.seen s3
  have a4 := cellB h.seen s4
  have a5 := cellB h.seen s5
  have a6 := cellB h.seen s6
  have a7 := cellB h.seen s7
  obtain ⟨c0, c1, c2⟩ := cell2 h.obj
  have HM := Lib.hid h
  have HR := Lib.hid hr
  have HZ := Lib.hid (And.intro hZ hl)
  have HD := Lib.hid (And.intro hq hD)
  have e1 : (k : Int) < n := by omega
  clear s0 s1 s2 s3 s4 s5 s6 s7 hZ hl h hr hq hD
  have hbd := (Below.refl w.heap.size w).drew
  have HMd : Hid (MemAt w.drew m sb lb ab n S K) := Lib.hid (HM.out.keep fun k hk => hbd.block k (HM.out.lts k hk))
  have HRd : Hid (w.drew.ranges Tryz.prog 3 (plainElem Tryz.prog 4) ab r q D left cnt) := Lib.hid (HR.out.kept (row := none) ⟨hbd.os, hbd.tape, hbd.output, hbd.size, fun k hk _ => hbd.block k hk⟩ (by simp) (by simp))
  have HZd : Hid (w.drew.heap[lb]? = some (.cells (cellsB Z) 93 (0, 0))) := Lib.hid ((hbd.block lb (HM.out.lts lb (by simp))).trans HZ.out.2)
  have HOd : Hid (Only (fun k => k = lb ∨ k = ab) w w.drew) := Lib.hid (below_only hbd _)
  clear hbd
  go_enter Tryz.func144, Tryz.ntmps144
  go_wp2
  go_still_tail 13, (by kernel_rfl)
  change wpList _ _ _ _ _ w.drew
  clear a0 a1 a2 a3 a4 a5 a6 a7 c0 c1 c2
  generalize w.drew = wd at HMd HRd HZd HOd ⊢
  have HCe := Lib.hid fun w' (e : w' = wd.setCells lb (k * 8) (Lib.byteCells [x0, x1, x2, x3, x4, x5, x6, x7])) => keep_cell HMd.out HRd.out HZ.out.1 HZd.out e
  have HTh : Hid (wd.there lb (k * 8) 8) := Lib.hid (there_cells HZd.out (by rw [cellsB_size, HZ.out.1, HM.out.len]; omega))
  have HKey := Lib.hid (keyOf_int_mk (P := Tryz.prog) Tryz.underlying3 (q := .i64) (a := (k : Int)) (nat_I64 (by have := HM.out.small; omega)))
  go_wp2_with (first | (refine wpList_store_mid rfl 93 _ _ rfl lb (k * 8) #[.int .u8 x0.toNat, .int .u8 x1.toNat, .int .u8 x2.toNat, .int .u8 x3.toNat, .int .u8 x4.toNat, .int .u8 x5.toNat, .int .u8 x6.toNat, .int .u8 x7.toNat] rfl rfl HTh.out Tryz.sizeCell (by simp [Value.oneCell']) ?_; generalize hwe : (World.setCells _ _ _ _) = we; have HE := Lib.hid (HCe.out we (by rw [← hwe]; rfl)); clear hwe; obtain ⟨d0, d1, d2⟩ := cell2 HE.out.1.obj) | (at_delete; refine wpList_delete_ranges _ rfl _ _ 88 3 rfl 4 Tryz.intLaw Tryz.underlying88 (plainElem Tryz.prog 4) ab r q D _ cnt rfl HE.out.2.1 (.int .i64 k) (.int .i64 k) rfl HKey.out ?_; intro w5 cnt5 hrg5 hle5 hturn5))
  have HR5 := Lib.hid (And.intro hrg5 hle5)
  have HM5 : Hid (MemAt w5 m sb lb ab n S K) := Lib.hid (HE.out.1.turn HM.out.apart.1 HM.out.apart.2.1 hturn5 HD.out.1 hrg5.owns fun kl hkl => HD.out.2 kl (has_del_le hkl))
  have HO5 : Hid (Only (fun k => k = lb ∨ k = ab) w w5) := Lib.hid ((HOd.out.trans HE.out.2.2 fun _ _ e => Or.inl e).trans (only_turned hturn5) fun _ _ e => Or.inr e)
  clear hrg5 hle5 hturn5 d0 d1 d2
  go_wp2
  go_end0
  exact ⟨rfl, HM5.out, HO5.out, cnt5, HR5.out.1, HR5.out.2⟩

set_option maxHeartbeats 4000000 in
set_option maxRecDepth 100000 in
theorem fence_wp {m sb lb ab n K : Nat} {S : List UInt8} (w : World) (h : MemAt w m sb lb ab n S K) (c : Code) (hb : Tryz.f93.body = some c) :
    c.wp Tryz.prog (bodyPost Tryz.prog Tryz.f93 fun e w' => e = .returned (.tuple #[]) ∧ MemAt w' m sb lb ab n S K ∧ Only (fun k => k = lb ∨ k = ab) w w') { tmps := #[.pointer (some ⟨m, 0, none⟩)] ++ Array.replicate (Tryz.f93.ntmps - 1) undef, defers := [] } w := by
  cases hb
  obtain ⟨c0, c1, c2⟩ := cell2 h.obj
  obtain ⟨q, D, hq, hown, hD⟩ := h.away
  have HM := Lib.hid h
  have HD := Lib.hid (And.intro hq hD)
  have HOwn := Lib.hid hown
  clear h hq hown hD
  simp only [Tryz.ntmps93, List.size_toArray, List.length_cons, List.length_nil, Nat.reduceAdd, Nat.reduceSub, Array.replicate_succ, Array.replicate_zero, List.push_toArray, List.append_toArray, List.nil_append, List.cons_append]
  go_wp2_with (at_range; refine wpList_range_own _ rfl _ 88 rfl 3 4 Tryz.intLaw Tryz.underlying88 _ _ _ D rfl HOwn.out ?_; intro w0 hrg0 hg0 hs0)
  have HG0 := Lib.hid hg0
  clear c0 c1 c2 hs0 hg0
  go_frame
  go_loopw [] (fun wr => ∃ (D' : DataW Unit) (left : Lit → Bool) (cnt : Nat), wr.ranges Tryz.prog 3 (plainElem Tryz.prog 4) ab w.heap.size q D' left cnt ∧ Hid (∀ kl, has D' kl = true → ∃ j : Nat, j < n ∧ kl = .int .i64 j) ∧ Hid (∀ kl, left kl = true → ∃ j : Nat, j < n ∧ kl = .int .i64 j) ∧ Hid (MemAt wr m sb lb ab n S K) ∧ Hid (Only (fun k => k = lb ∨ k = ab) w wr))
    (fun wr => wr.rangeLeft ab w.heap.size)
  case atStart =>
    have hO : Only (fun k => k = lb ∨ k = ab) w w0 := grown_only HG0.out fun k e => by cases e
    exact ⟨D, _, _, hrg0, Lib.hid HD.out.2, Lib.hid HD.out.2, Lib.hid (HM.out.keep fun k hk => HG0.out.block k (HM.out.lts k hk) (by simp)), Lib.hid hO⟩
  case round =>
    obtain ⟨D', left, cnt, hrg, HD', HL, HMr, HO⟩ := hrel
    go_wp2_with (at_next; refine wpList_next_ranges _ rfl _ rfl 3 Tryz.intLaw (plainElem Tryz.prog 4) (Value.int .i64) boxV (fun key kl hk => by obtain ⟨x, hx, _⟩ := keyOf_int_inv Tryz.underlying3 hk; exact ⟨x, hx⟩) (fun v y hv => elem_bool hv) ab w.heap.size q _ _ _ rfl hrg ?_ ?_)
    · intro hc0 hl0
      clear hrg
      go_wp2
      go_end0
      exact ⟨rfl, HMr.out, HO.out⟩
    · intro x c kl yd yp w2 cnt2 hkey hlk hv hat hrg2 hlt hg2 hs2 hen
      skip
      obtain ⟨x', ex, rfl, hwx⟩ := keyOf_int_inv Tryz.underlying3 hkey
      cases ex
      obtain ⟨j, hj, ej⟩ := HL.out _ hlk
      obtain rfl : x = (j : Int) := by cases ej; rfl
      have hir : ∀ p, p = m ∨ p = sb ∨ p = lb ∨ p = ab → p ≠ w.heap.size := fun p hp e => by
        have := HM.out.lts p hp
        omega
      have HM2 : Hid (MemAt w2 m sb lb ab n S K) := Lib.hid (HMr.out.keep fun p hp => hg2.block p (HMr.out.lts p hp) (fun e => hir p hp (Option.some.inj e)))
      have hen2 : (Instr.entry (.pointer (some ⟨w.heap.size, 0, none⟩))).run Tryz.prog w2 = .ok (.tuple #[.int .i64 j, boxV c]) w2 := hen
      have HLeft : Hid (wr.rangeLeft ab w.heap.size = cnt) := hrg.left_eq
      have HLt := Lib.hid hlt
      have HKp := Lib.hid (keep_any j hj w2 HM2.out hrg2 HD.out.1 HD'.out)
      have HO2 : Hid (Only (fun k => k = lb ∨ k = ab) w w2) := Lib.hid ⟨hg2.os.trans HO.out.os, hg2.tape.trans HO.out.tape, hg2.output.trans HO.out.output, Nat.le_trans HO.out.size hg2.size, fun k hk hn => (hg2.block k (Nat.lt_of_lt_of_le hk HO.out.size) (by simp; omega)).trans (HO.out.block k hk hn)⟩
      clear hkey hlk hv hat hrg2 hlt hg2 hs2 hen hrg hir ej hwx
      go_wp2_with fail
      refine HKp.out.mono ?_
      rintro e w3 ⟨rfl, hM3, hO3, cnt3, hr3, hc3⟩
      rw [strike_twice] at hr3
      have HM3 := Lib.hid hM3
      have HO3 := Lib.hid (HO2.out.trans hO3 fun _ _ e => e)
      have HD3 : Hid (∀ kl, has (D'.del (.int .i64 j)) kl = true → ∃ j : Nat, j < n ∧ kl = .int .i64 j) := Lib.hid fun kl hkl => HD'.out kl (has_del_le hkl)
      have HL3 : Hid (∀ kl, (left kl && !kl.sameKey (.int .i64 j)) = true → ∃ j : Nat, j < n ∧ kl = .int .i64 j) := Lib.hid fun kl hkl => HL.out kl (by simp only [Bool.and_eq_true] at hkl; exact hkl.1)
      have HMs : Hid (w3.rangeLeft ab w.heap.size < wr.rangeLeft ab w.heap.size) := Lib.hid (by rw [hr3.left_eq, HLeft.out]; exact Nat.lt_of_le_of_lt hc3 HLt.out)
      clear hM3 hO3 HKp hen2 hc3
      go_wp2
      go_roundw
      case rel => exact ⟨_, _, cnt3, hr3, HD3, HL3, HM3, HO3⟩
      case measure => exact HMs.out

theorem flush_any {m K : Nat} {S : List UInt8} {F : Nat → Prop} (a k : Nat) (w : World) (h : MemF m S K w F) (hak : a + k ≤ S.length) (hk : k ≤ 100000) (hK : K < 900000000000) :
    Calls Tryz.prog 92 #[.pointer (some ⟨m, 0, none⟩), .int .i64 a, .int .i64 k] w fun e w' => e = .returned (.int .i64 0) ∧ MemF m S (K + 20000) w' F ∧ Only F w w' := by
  obtain ⟨sb, lb, ab, n, h, f1, f2, f3, f4⟩ := h
  refine (flush_at a k w h hak hk hK).mono ?_
  rintro e w' ⟨he, hM, hO⟩
  exact ⟨he, ⟨sb, lb, ab, n, hM, f1, f2, f3, f4⟩, hO.mono fun j _ e => e ▸ f4⟩
theorem fence_at {m sb lb ab n K : Nat} {S : List UInt8} (w : World) (h : MemAt w m sb lb ab n S K) :
    Calls Tryz.prog 93 #[.pointer (some ⟨m, 0, none⟩)] w fun e w' => e = .returned (.tuple #[]) ∧ MemAt w' m sb lb ab n S K ∧ Only (fun k => k = lb ∨ k = ab) w w' :=
  calls_of_wp Tryz.func93 rfl (fence_wp w h _ rfl)
theorem fence_atD {m sb lb ab n K : Nat} {S : List UInt8} (u : FrameMode) (w : World) (h : MemAt w m sb lb ab n S K) :
    CallsD Tryz.prog 93 #[.pointer (some ⟨m, 0, none⟩)] u w fun e u' w' => u' = u ∧ e = .returned (.tuple #[]) ∧ MemAt w' m sb lb ab n S K ∧ Only (fun k => k = lb ∨ k = ab) w w' :=
  callsD_of_wp Tryz.func93 rfl (fence_wp w h _ rfl)
theorem fence_anyD {m K : Nat} {S : List UInt8} {F : Nat → Prop} (u : FrameMode) (w : World) (h : MemF m S K w F) :
    CallsD Tryz.prog 93 #[.pointer (some ⟨m, 0, none⟩)] u w fun e u' w' => u' = u ∧ e = .returned (.tuple #[]) ∧ MemF m S K w' F ∧ Only F w w' := by
  obtain ⟨sb, lb, ab, n, h, f1, f2, f3, f4⟩ := h
  refine (fence_atD u w h).mono ?_
  rintro e u' w' ⟨hu, he, hM, hO⟩
  exact ⟨hu, he, ⟨sb, lb, ab, n, hM, f1, f2, f3, f4⟩, hO.mono fun j _ e => e.elim (fun e => e ▸ f3) fun e => e ▸ f4⟩
theorem fence_any {m K : Nat} {S : List UInt8} {F : Nat → Prop} (w : World) (h : MemF m S K w F) :
    Calls Tryz.prog 93 #[.pointer (some ⟨m, 0, none⟩)] w fun e w' => e = .returned (.tuple #[]) ∧ MemF m S K w' F ∧ Only F w w' := by
  obtain ⟨sb, lb, ab, n, h, f1, f2, f3, f4⟩ := h
  refine (fence_at w h).mono ?_
  rintro e w' ⟨he, hM, hO⟩
  exact ⟨he, ⟨sb, lb, ab, n, hM, f1, f2, f3, f4⟩, hO.mono fun j _ e => e.elim (fun e => e ▸ f3) fun e => e ▸ f4⟩

end Go.Proofs.YthbonbcbbngciaaGreatDoor

/- Walks: a transaction: a change that is laid over bytes. -/
namespace Go.Proofs.YthbonbcbbngciaaGreatDoor
open Go.RowKit

def paV (p : Gd.Pa) : Value := .agg #[.int .i64 p.1, .string ⟨p.2.toArray⟩]
theorem run_copy_min {P : Program} (w : World) (dT sT ty elem : TypeId) (g o dLen dCap : Nat) (s : ByteArray) (cur : Array Value) (t : TypeId)
    (hu : P.underlying dT = some (.slice elem)) (hs : (P.info? elem).map (·.size) = some 1) (hg : w.heap[g]? = some (.cells cur t (0, 0))) (hle : dLen ≤ s.size) (hfit : o + dLen ≤ cur.size) :
    (Builtin.copy_ #[dT, sT] ty #[.slice (some ⟨g, o, none⟩) dLen dCap, .string s]).run P w =
      .ok (goInt dLen) (w.setRow g (cur.toList.take o ++ Lib.byteCells (s.data.toList.take dLen) ++ cur.toList.drop (o + dLen)).toArray) := by
  have hss : s.size = s.data.toList.length := Lib.size_eq s
  have hlen : (Lib.byteCells (s.data.toList.take dLen)).length = dLen := by rw [Lib.byteCells_length, List.length_take]; omega
  have hst := run_storeCells_at P g o t (Lib.byteCells (s.data.toList.take dLen)) 0 cur w hg (by rw [hlen]; simpa using hfit) (Lib.byteCells_one _)
  have hmin : Nat.min s.size dLen = dLen := Nat.min_eq_right hle
  have htk : List.take dLen (List.map (fun b : UInt8 => Value.int IntKind.u8 (b.toNat : Int)) s.data.toList) = Lib.byteCells (s.data.toList.take dLen) := by
    rw [← List.map_take]
    rfl
  rw [hlen] at hst
  simp only [Nat.add_zero] at hst
  cases hq : P.info? elem with
  | none => simp [hq] at hs
  | some i =>
    simp [Builtin.copy_, run_underlying hu, Builtin.lenOf, Builtin.firstCells, sizeOf, typeInfo, hq, hmin]
    rw [htk, hst]
    simp [Result.andThen]
theorem wpList_copy_min {P : Program} (w : World) {ops : Array Oper} {rest : List Oper} {o : Oper} {a : Act} {Q : Exit → Act → World → Prop} (hgd : o.guard = none) (d s : Operand) (dT sT : TypeId) (ho : o.op = .call { callee := .builtin .copy, args := #[d, s], argTypes := #[dT, sT] })
    (elem : TypeId) (g k dLen dCap : Nat) (str : ByteArray) (cur : Array Value) (t : TypeId) (hu : P.underlying dT = some (.slice elem)) (hs : (P.info? elem).map (·.size) = some 1) (hg : w.heap[g]? = some (.cells cur t (0, 0))) (hle : dLen ≤ str.size) (hfit : k + dLen ≤ cur.size)
    (hd : a.eval d = .slice (some ⟨g, k, none⟩) dLen dCap) (hx : a.eval s = .string str)
    (h : wpList P ops Q rest (a.put o.dst (goInt dLen)) (w.setRow g (cur.toList.take k ++ Lib.byteCells (str.data.toList.take dLen) ++ cur.toList.drop (k + dLen)).toArray)) : wpList P ops Q (o :: rest) a w := by
  refine wpList_plain hgd fun K hK => ?_
  have hr := run_copy_min (P := P) w dT sT o.type elem g k dLen dCap str cur t hu hs hg hle hfit
  unfold Oper.wp execOp
  simp only [ho, resolve, invoke, builtin, Sem.run_bind, Sem.run_pure, Result.andThen_ok, List.map_toArray, List.map_cons, List.map_nil, hd, hx, hr]
  exact hK _ _ h
theorem byteCells_take (L : List UInt8) (k : Nat) : Lib.byteCells (L.take k) = (Lib.byteCells L).take k := List.map_take
theorem byteCells_drop (L : List UInt8) (k : Nat) : Lib.byteCells (L.drop k) = (Lib.byteCells L).drop k := List.map_drop
/-- bytes laid over bytes of one's own -/
theorem own_splice {w w' : World} {B g n c k : Nat} {cur : Array Value} {L X : List UInt8} (hB : B ≤ g) (hn : n = L.length) (hnc : n ≤ c) (hcm : c ≤ maxLen) (hcs : cur.size = c * 1) (hcur : cur.toList.take (n * 1) = Lib.byteCells L) (hk : k + X.length ≤ n)
    (hg : w.heap[g]? = some (.cells cur 5 (0, 0))) (hw : w' = w.setRow g (cur.toList.take k ++ Lib.byteCells X ++ cur.toList.drop (k + X.length)).toArray) : OwnB w' B (.slice (some ⟨g, 0, none⟩) n c) (Gd.splice L k X) := by
  have hl : (Gd.splice L k X).length = n := by rw [Gd.splice_length (S := L) (k := k) (b := X) (by omega)]; exact hn.symm
  rw [Nat.mul_one] at hcur hcs
  have hkc : k + X.length ≤ cur.toList.length := by rw [Array.length_toList (xs := cur)]; omega
  refine ⟨by rw [byteCells_len, Nat.mul_one], Or.inr ⟨g, c, _, by rw [hl], hB, by rw [hw]; exact setRow_heap w g cur _ _ _ hg, by omega, hcm, ?_, ?_⟩⟩
  · rw [List.size_toArray, List.length_append, List.length_append, List.length_take, List.length_drop, byteCells_len, Array.length_toList]
    rw [Array.length_toList] at hkc
    omega
  · rw [hl, Nat.mul_one]
    unfold Gd.splice
    rw [← byteCells_app, ← byteCells_app, byteCells_take, byteCells_drop, ← hcur]
    have e1 : (cur.toList.take n).take k = cur.toList.take k := by rw [List.take_take, Nat.min_eq_left (by omega)]
    have hk1 : (cur.toList.take k).length = k := by rw [List.length_take]; omega
    rw [e1, List.drop_take, List.append_assoc, List.take_append, hk1, List.take_of_length_le (l := cur.toList.take k) (by omega), List.take_append, byteCells_len, List.take_of_length_le (l := Lib.byteCells X) (by rw [byteCells_len]; omega), show n - k - X.length = n - (k + X.length) by omega]
theorem Tryz.infoU8s : (Tryz.prog.info? 5).map (·.size) = some 1 := by kernel_rfl

set_option maxHeartbeats 4000000 in
set_option maxRecDepth 100000 in
theorem over_any (v : Value) (L : List UInt8) (a : Nat) (p : Gd.Pa) (B : Nat) (w : World) (hB : B ≤ w.heap.size) (hown : OwnB w B v L) (hl : L.length ≤ 100000) (ha : a ≤ 2000000) (hp : p.1 ≤ 2000000) (hp2 : p.2.length ≤ 256) :
    Calls Tryz.prog 77 #[v, .int .i64 a, paV p] w fun e w' => e = .returned (.tuple #[]) ∧ OwnB w' B v (Gd.over L a p) ∧ Below B w w' := by
  obtain ⟨A, c, hv, _⟩ := hown.at_
  obtain ⟨wb, hwb⟩ : ∃ u, u = w.alloc (.cells #[.int .i64 p.1, .string ⟨p.2.toArray⟩] 142) := ⟨_, rfl⟩
  have hbb : Below w.heap.size w wb := by rw [hwb]; exact (Below.refl _ _).alloc (Nat.le_refl _) _
  have hbx : wb.heap[w.heap.size]? = some (.cells #[.int .i64 p.1, .string ⟨p.2.toArray⟩] 142 (0, 0)) := by rw [hwb]; exact heap_alloc_new _ _
  obtain ⟨bx, hbxe⟩ : ∃ bx, bx = w.heap.size := ⟨_, rfl⟩
  rw [← hbxe] at hbx
  have c0 := cell_of_row wb bx 0 _ _ _ hbx
  have c1 := cell_of_row wb bx 1 _ _ _ hbx
  have HO := Lib.hid (hown.keep hbb)
  have HBb := Lib.hid hbb
  have HWb := Lib.hid hwb
  have Hbx := Lib.hid hbxe.symm
  obtain ⟨s, hs⟩ : ∃ s : ByteArray, s = ⟨p.2.toArray⟩ := ⟨_, rfl⟩
  rw [← hs] at HWb c1
  have hsz : s.size = p.2.length := by rw [hs]; simp [ByteArray.size]
  have Hs := Lib.hid hs
  obtain ⟨n, hn⟩ : ∃ n, n = L.length := ⟨_, rfl⟩
  rw [← hn] at hv hl
  have Hn := Lib.hid hn
  obtain ⟨p1, hp1⟩ : ∃ p1, p1 = p.1 := ⟨_, rfl⟩
  rw [← hp1] at HWb c0 hp
  have Hp1 := Lib.hid hp1
  have Hsz := Lib.hid hsz
  have hss : s.size ≤ 256 := by omega
  unfold paV
  rw [← hs, ← hp1]
  subst hv
  clear hown hwb hbb hbx hbxe hs hn hp1 hsz hp2
  go_enter Tryz.func77, Tryz.ntmps77
  go_upto_region 1 with fail
  rw [← HWb.out]
  rw [Hbx.out]
  go_upto_region 3 with fail
  obtain ⟨F, hF⟩ : ∃ F, F = Gd.overFrom a p := ⟨_, rfl⟩
  obtain ⟨T, hT⟩ : ∃ T, T = Gd.overTo a L.length p := ⟨_, rfl⟩
  have HF := Lib.hid hF
  have HT := Lib.hid hT
  have ef : (if a < p1 then (p1 : Int) else a) = F := by
    rw [hF, Hp1.out]
    unfold Gd.overFrom
    split <;> omega
  have et : (if (p1 : Int) + s.size < (a : Int) + n then (p1 : Int) + s.size else (a : Int) + n) = T := by
    rw [hT, Hp1.out, Hsz.out, Hn.out]
    unfold Gd.overTo
    split <;> omega
  rw [ef, et]
  clear ef et hF hT
  by_cases hlt : F < T
  · have hov : Gd.over L a p = Gd.splice L (F - a) (Gd.part p.2 (F - p1) (T - F)) := by
      unfold Gd.over
      rw [← HF.out, ← HT.out, if_pos hlt, Hp1.out]
    have h1 : a ≤ F := by rw [HF.out]; unfold Gd.overFrom; omega
    have h2 : p1 ≤ F := by rw [HF.out, Hp1.out]; unfold Gd.overFrom; omega
    have h3 : T ≤ a + n := by rw [HT.out, Hn.out]; unfold Gd.overTo; omega
    have h4 : T ≤ p1 + s.size := by rw [HT.out, Hp1.out, Hsz.out]; unfold Gd.overTo; omega
    obtain ⟨g, cap, cur, hvv, hBg, hg, hnc, hcm, hcs, hcur⟩ : ∃ g cap cur, Value.slice A n c = .slice (some ⟨g, 0, none⟩) n cap ∧ B ≤ g ∧ wb.heap[g]? = some (.cells cur 5 (0, 0)) ∧ n ≤ cap ∧ cap ≤ maxLen ∧ cur.size = cap * 1 ∧ cur.toList.take (n * 1) = Lib.byteCells L := by
      have h := HO.out.2
      rw [← Hn.out] at h
      rcases h with ⟨_, h0⟩ | ⟨g, cap, cur, h⟩
      · omega
      · exact ⟨g, cap, cur, h⟩
    cases hvv
    have HOv := Lib.hid hov
    have HG := Lib.hid (And.intro hBg (And.intro hg (And.intro hcs hcur)))
    have HH := Lib.hid (And.intro h1 (And.intro h2 (And.intro h3 (And.intro h4 hlt))))
    have i1 : (a : Int) ≤ F := by omega
    have i2 : (p1 : Int) ≤ F := by omega
    have i3 : (T : Int) ≤ (a : Int) + n := by omega
    have i4 : (T : Int) ≤ (p1 : Int) + s.size := by omega
    have i5 : (F : Int) < T := by omega
    obtain ⟨FA, hFA⟩ : ∃ FA : Nat, FA = F - a := ⟨_, rfl⟩
    obtain ⟨TA, hTA⟩ : ∃ TA : Nat, TA = T - a := ⟨_, rfl⟩
    obtain ⟨FP, hFP⟩ : ∃ FP : Nat, FP = F - p1 := ⟨_, rfl⟩
    have HFA := Lib.hid (And.intro hFA (And.intro hTA hFP))
    have u1 : IntKind.i64.wrap ((F : Int) - a) = (FA : Nat) := by rw [IntWalk.i64_in _ (by omega)]; omega
    have u2 : IntKind.i64.wrap ((T : Int) - a) = (TA : Nat) := by rw [IntWalk.i64_in _ (by omega)]; omega
    have u3 : IntKind.i64.wrap ((F : Int) - p1) = (FP : Nat) := by rw [IntWalk.i64_in _ (by omega)]; omega
    have i6 : (FA : Int) ≤ TA := by omega
    have i9 : Hid (FA < TA) := Lib.hid (by omega)
    have i7 : (TA : Int) ≤ c := by omega
    have i8 : (FP : Int) ≤ s.size := by omega
    clear hFA hTA hFP i1 i2 i3 i4
    clear hov hBg hg hcs hcur h1 h2 h3 h4 hlt
    go_wp2
    go_still_tail 15, (by kernel_rfl)
    change wpList _ _ _ _ _ wb.drew
    rw [if_neg (show ¬ c = FA by have := i9.out; omega)]
    have hX : ((s.extract FP s.size).data.toList.take (TA - FA)) = Gd.part p.2 FP (TA - FA) := by
      rw [ba_tail]
      unfold Gd.part
      rw [Hs.out]
    have hXl : (Gd.part p.2 FP (TA - FA)).length = TA - FA := Gd.part_length (by have := HFA.out; have := HH.out; have := Hsz.out; omega)
    have hdr : Below wb.heap.size wb wb.drew := (Below.refl _ wb).drew
    refine wpList_copy_min wb.drew rfl _ _ 22 9 rfl 5 g FA (TA - FA) (c - FA) (s.extract FP s.size) cur 5 Tryz.underlying22 Tryz.infoU8s ((hdr.block g (lt_get HG.out.2.1)).trans HG.out.2.1) (by have h0 := HH.out; have h1 := HFA.out; rw [ByteArray.size_extract]; omega) (by have h0 := HH.out; have h1 := HFA.out; have h2 := HG.out.2.2.1; omega) rfl rfl ?_
    rw [hX]
    generalize hwz : (World.setRow _ _ _) = wz
    have HB5 : Hid (Below B w wz) := Lib.hid (by rw [← hwz]; exact below_setRow ((HBb.out.mono hB).trans (hdr.mono (Nat.le_trans hB HBb.out.size))) HG.out.1 _)
    have HO5 : Hid (OwnB wz B (.slice (some ⟨g, 0, none⟩) n c) (Gd.over L a p)) := Lib.hid (by
      rw [HOv.out]
      have e1 : F - a = FA := HFA.out.1.symm
      have e2 : F - p1 = FP := HFA.out.2.2.symm
      have e3 : T - F = TA - FA := by have := HH.out; have := HFA.out; omega
      rw [e1, e2, e3]
      exact own_splice HG.out.1 Hn.out hnc hcm HG.out.2.2.1 HG.out.2.2.2 (by rw [hXl]; have := HH.out; have := HFA.out; omega) ((hdr.block g (lt_get HG.out.2.1)).trans HG.out.2.1) (by rw [← hwz, hXl]))
    clear hX hXl hdr hwz
    go_wp2
    go_end0
    exact ⟨rfl, HO5.out, HB5.out⟩
  · have hov : Gd.over L a p = L := by
      unfold Gd.over
      rw [← HF.out, ← HT.out, if_neg hlt]
    have HOv := Lib.hid hov
    have h5 : (T : Int) ≤ F := by omega
    clear hov hlt
    go_wp2
    go_end0
    rw [HOv.out]
    exact ⟨rfl, HO.out, HBb.out.mono hB⟩

end Go.Proofs.YthbonbcbbngciaaGreatDoor

/- Walks: a transaction: bytes with its changes laid over. -/
namespace Go.Proofs.YthbonbcbbngciaaGreatDoor
open Go.RowKit

namespace Gd
theorem over_length (b : List UInt8) (k : Nat) (p : Pa) : (over b k p).length = b.length := by
  unfold over
  split
  · rename_i h
    have h1 : overTo k b.length p ≤ k + b.length := by unfold overTo; omega
    have h2 : overTo k b.length p ≤ p.1 + p.2.length := by unfold overTo; omega
    have h3 : k ≤ overFrom k p := by unfold overFrom; omega
    have h4 : p.1 ≤ overFrom k p := by unfold overFrom; omega
    rw [splice_length]
    rw [part_length (by omega)]
    omega
  · rfl
theorem overs_length : ∀ (P : List Pa) (b : List UInt8) (k : Nat), (overs b k P).length = b.length
  | [], _, _ => rfl
  | p :: r, b, k => by
    show (overs (over b k p) k r).length = _
    rw [overs_length r, over_length]
theorem overs_snoc (b : List UInt8) (k : Nat) (P : List Pa) (p : Pa) : overs b k (P ++ [p]) = over (overs b k P) k p := by
  unfold overs
  rw [List.foldl_append]
  rfl
theorem take_next {α : Type} {P : List α} {i : Nat} {p : α} (h : P[i]? = some p) : P.take (i + 1) = P.take i ++ [p] := by
  rw [List.take_add_one, h]
  rfl
end Gd
def paC (p : Gd.Pa) : List Value := [.int .i64 p.1, .string ⟨p.2.toArray⟩]
def flatP (P : List Gd.Pa) : List Value := P.flatMap paC
theorem flatP_snoc (P : List Gd.Pa) (p : Gd.Pa) : flatP P ++ paC p = flatP (P ++ [p]) := by
  unfold flatP
  rw [List.flatMap_append]
  simp
theorem flatP_get : ∀ {P : List Gd.Pa} {k : Nat} {p : Gd.Pa} (i : Nat), P[k]? = some p → i < 2 → (flatP P)[k * 2 + i]? = (paC p)[i]?
  | [], k, p, i, hx, _ => by simp at hx
  | a :: r, 0, p, i, hx, hi => by
    simp at hx
    subst hx
    unfold flatP
    rw [List.flatMap_cons, List.getElem?_append_left (by show 0 * 2 + i < 2; omega), Nat.zero_mul, Nat.zero_add]
  | a :: r, k + 1, p, i, hx, hi => by
    unfold flatP
    rw [List.flatMap_cons, List.getElem?_append_right (by show 2 ≤ _; omega)]
    have := flatP_get (P := r) (k := k) (p := p) i (by simpa using hx) hi
    unfold flatP at this
    rw [← this]
    congr 1
    show (k + 1) * 2 + i - 2 = _
    omega
/-- changes in a row -/
theorem row_pa {w : World} {B e : Nat} {v : Value} {P : List Gd.Pa} (h : w.ownsRow B e 2 v P.length (flatP P)) : ∃ A c, v = .slice A P.length c ∧ ((A = none ∧ P = []) ∨ ∃ b, A = some ⟨b, 0, none⟩ ∧ b < w.heap.size ∧ ∀ (k : Nat) (p : Gd.Pa), P[k]? = some p → w.cell? ⟨b, k * 2, none⟩ = some (.int .i64 p.1) ∧ w.cell? ⟨b, k * 2 + 1, none⟩ = some (.string ⟨p.2.toArray⟩)) := by
  have hr := h
  rcases h.2 with ⟨rfl, h0⟩ | ⟨b, cap, cur, rfl, hb, hg, hc, _, _, _⟩
  · exact ⟨none, 0, by rw [h0], Or.inl ⟨rfl, List.eq_nil_of_length_eq_zero h0⟩⟩
  · refine ⟨_, cap, rfl, Or.inr ⟨b, rfl, lt_get hg, fun k p hp => ?_⟩⟩
    have hk := (List.getElem?_eq_some_iff.1 hp).1
    exact ⟨(hr.cellAt (k * 2) (by omega)).trans (flatP_get 0 hp (by omega)), (hr.cellAt (k * 2 + 1) (by omega)).trans (flatP_get 1 hp (by omega))⟩
/-- a log, and where it lies -/
def LogAt (w : World) (g m : Nat) (la ls : Nat) : Prop := w.heap[g]? = some (.cells #[.pointer (some ⟨m, 0, none⟩), .int .i64 la, .int .i64 ls] 95 (0, 0))
structure TxnAt (w : World) (t m g : Nat) (pv : Value) (P : List Gd.Pa) : Prop where
  obj : w.heap[t]? = some (.cells #[.pointer (some ⟨m, 0, none⟩), .pointer (some ⟨g, 0, none⟩), pv] 98 (0, 0))
  row : w.ownsRow 0 142 2 pv P.length (flatP P)
/-- changes that may wait -/
structure PaOk (n : Nat) (P : List Gd.Pa) : Prop where
  fit : Gd.Fit n P
  len : ∀ p ∈ P, p.2.length ≤ 256
  many : P.length ≤ 64
/-- a transaction at t: over the bytes S, with the changes P -/
def TxnF [MemNo] (t : Nat) (S : List UInt8) (P : List Gd.Pa) (K : Nat) (w : World) (F : Nat → Prop) : Prop :=
  ∃ m g pv, MemF m S K w F ∧ TxnAt w t m g pv P ∧ LogAt w g m 2688 4096 ∧ F t ∧ F g ∧ (∀ q, pv.ownBlock = some q → F q) ∧ PaOk S.length P ∧ m = MemNo.no
theorem TxnF.held [MemNo] (t : Nat) (S : List UInt8) (P : List Gd.Pa) (K : Nat) : Held (TxnF t S P K) where
  keep := by
    rintro w w' F ⟨m, g, pv, hM, hT, hL, ft, fg, fq, hP, hmn⟩ hs hb
    refine ⟨m, g, pv, (MemF.held m S K).keep hM hs hb, ⟨(hb t (lt_get hT.obj) ft).trans hT.obj, ?_⟩, (hb g (lt_get hL) fg).trans hL, ft, fg, fq, hP, hmn⟩
    exact ⟨hT.row.1, hT.row.2.imp id fun ⟨q, cap, cur, hv, hB, hg, hr⟩ => ⟨q, cap, cur, hv, hB, (hb q (lt_get hg) (fq q (by rw [hv]; rfl))).trans hg, hr⟩⟩
  mono := by
    rintro w F G ⟨m, g, pv, hM, hT, hL, ft, fg, fq, hP, hmn⟩ hG
    refine ⟨m, g, pv, (MemF.held m S K).mono hM hG, hT, hL, hG t (lt_get hT.obj) ft, hG g (lt_get hL) fg, fun q hq => hG q (own_block hT.row q hq).2 (fq q hq), hP, hmn⟩

set_option maxHeartbeats 4000000 in
set_option maxRecDepth 100000 in
theorem tload_any [MemNo] {t K : Nat} {S : List UInt8} {P : List Gd.Pa} {F : Nat → Prop} (a k : Nat) (w : World) (h : TxnF t S P K w F) (hS : S.length ≤ 1000000) (hak : a + k ≤ S.length) (hk : k ≤ 100000) :
    Calls Tryz.prog 39 #[.pointer (some ⟨t, 0, none⟩), .int .i64 a, .int .i64 k] w (Loads w (Gd.part (Gd.view S P) a k)) := by
  obtain ⟨m, g, pv, hM, hT, hL, ft, fg, fq, hP, -⟩ := h
  have HLd := Lib.hid (mload_any a k w hM hak hk)
  obtain ⟨c0, _, _⟩ := cell2 hT.obj
  obtain ⟨A, c, rfl, hrow⟩ := row_pa hT.row
  have HT := Lib.hid hT.obj
  have HR := Lib.hid hrow
  have HP := Lib.hid hP
  have Hv : Hid (Gd.overs (Gd.part S a k) a P = Gd.part (Gd.view S P) a k) := Lib.hid (Gd.overs_part hak hP.fit)
  rw [← Hv.out]
  have HS := Lib.hid (And.intro hS hak)
  obtain ⟨n, hn⟩ : ∃ n, n = P.length := ⟨_, rfl⟩
  rw [← hn] at HT
  have Hn := Lib.hid hn
  have hn64 : n ≤ 64 := by rw [hn]; exact hP.many
  have ha : a ≤ 1000000 := by omega
  clear hM hL ft fg fq hT hrow hP hS hak hn
  go_enter Tryz.func39, Tryz.ntmps39
  go_wp2_with fail
  refine HLd.out.mono ?_
  rintro e w1 ⟨v, rfl, ho1, hb1⟩
  have HO1 := Lib.hid ho1
  have HB1 := Lib.hid hb1
  obtain ⟨_, _, d2⟩ := cell2 ((hb1.block t (lt_get HT.out)).trans HT.out)
  clear ho1 hb1 HLd c0
  go_upto_region 5 with fail
  go_loopw [30] (fun z wr => ∃ i : Nat, z = .int .i64 i ∧ i ≤ n ∧ Hid (OwnB wr w.heap.size v (Gd.overs (Gd.part S a k) a (P.take i))) ∧ Hid (Below w.heap.size w wr)) (fun z _ => n - (intOf z).toNat)
  case atStart => exact ⟨0, rfl, by omega, HO1, HB1⟩
  case round =>
    obtain ⟨i, rfl, hin, HO, HB⟩ := hrel
    by_cases hlt : i < n
    · obtain ⟨p, hp⟩ : ∃ p, P[i]? = some p := ⟨_, List.getElem?_eq_getElem (by have := Hn.out; omega)⟩
      rcases HR.out with ⟨_, h0⟩ | ⟨b, rfl, hbl, hcell⟩
      · rw [h0] at hp; simp at hp
      obtain ⟨q0, q1⟩ := hcell i p hp
      have r0 := (HB.out.cell (p := ⟨b, i * 2, none⟩) hbl).trans q0
      have r1 := (HB.out.cell (p := ⟨b, i * 2 + 1, none⟩) hbl).trans q1
      have h1 : (i : Int) < n := by omega
      have h0 : (0 : Int) ≤ i := by omega
      have HX := Lib.hid hp
      have Hpm := Lib.hid (List.mem_of_getElem? hp)
      clear hp hcell q0 q1 hlt
      go_upto_region 7 with fail
      obtain ⟨wz, hwz⟩ : ∃ u, u = wr.alloc (.cells #[.int .i64 p.1, .string ⟨p.2.toArray⟩] 142) := ⟨_, rfl⟩
      rw [← hwz]
      have hbz : Below wr.heap.size wr wz := by rw [hwz]; exact (Below.refl _ _).alloc (Nat.le_refl _) _
      have hz : wz.heap[wr.heap.size]? = some (.cells #[.int .i64 p.1, .string ⟨p.2.toArray⟩] 142 (0, 0)) := by rw [hwz]; exact heap_alloc_new _ _
      have z0 := cell_of_row wz wr.heap.size 0 _ _ _ hz
      have z1 := cell_of_row wz wr.heap.size 1 _ _ _ hz
      have HBz : Hid (Below w.heap.size w wz) := Lib.hid (HB.out.trans (hbz.mono HB.out.size))
      have hpf := HP.out.fit p Hpm.out
      have HOv := Lib.hid (over_any v (Gd.overs (Gd.part S a k) a (P.take i)) a p w.heap.size wz HBz.out.size (HO.out.keep hbz) (by rw [Gd.overs_length, Gd.part_length HS.out.2]; exact hk) (by omega) (by have := HS.out.1; omega) (HP.out.len p Hpm.out))
      unfold paV at HOv
      clear hwz hbz hz r0 r1 hpf
      go_wp2_with fail
      refine HOv.out.mono ?_
      rintro e w3 ⟨rfl, hO3, hB3⟩
      have HO3 : Hid (OwnB w3 w.heap.size v (Gd.overs (Gd.part S a k) a (P.take (i + 1)))) := Lib.hid (by rw [Gd.take_next HX.out, Gd.overs_snoc]; exact hO3)
      have HB3 := Lib.hid (HBz.out.trans hB3)
      clear hO3 hB3 HOv z0 z1
      go_wp2
      go_roundw
      case rel => exact ⟨i + 1, by go_num, by omega, HO3, HB3⟩
      case measure => simp [intOf]; omega
    · obtain rfl : i = n := by omega
      clear hlt
      go_wp2
      go_ret2
      have := HO.out
      rw [List.take_of_length_le (by have := Hn.out; omega)] at this
      exact ⟨v, rfl, this, HB.out⟩
set_option maxHeartbeats 4000000 in
set_option maxRecDepth 100000 in
theorem tload_bad [MemNo] {t K : Nat} {S : List UInt8} {P : List Gd.Pa} {F : Nat → Prop} (a k : Int) (ha : I64 a) (hk : I64 k) (w : World) (h : TxnF t S P K w F) (hn : ¬ (0 ≤ a ∧ 0 ≤ k ∧ a + k ≤ S.length)) :
    Calls Tryz.prog 39 #[.pointer (some ⟨t, 0, none⟩), .int .i64 a, .int .i64 k] w (Fails w) := by
  obtain ⟨m, g, pv, hM, hT, -⟩ := h
  have HLd := Lib.hid (mload_bad a k ha hk w hM hn)
  obtain ⟨c0, _, _⟩ := cell2 hT.obj
  clear hM hT
  go_enter Tryz.func39, Tryz.ntmps39
  go_wp2_with fail
  refine HLd.out.mono ?_
  rintro e w1 ⟨rfl, rfl⟩
  go_wp2
  go_ret2
  exact ⟨rfl, rfl⟩
set_option maxHeartbeats 4000000 in
set_option maxRecDepth 100000 in
theorem tdrop_any [MemNo] {t K : Nat} {S : List UInt8} {P : List Gd.Pa} {F : Nat → Prop} (w : World) (h : TxnF t S P K w F) :
    Calls Tryz.prog 29 #[.pointer (some ⟨t, 0, none⟩)] w fun e w' => e = .returned (.tuple #[]) ∧ TxnF t S [] K w' F ∧ Only F w w' := by
  obtain ⟨m, g, pv, hM, hT, hL, ft, fg, fq, hP, hmn⟩ := h
  have Hmn := Lib.hid hmn
  clear hmn
  have HM := Lib.hid hM
  have HT := Lib.hid hT
  have HL := Lib.hid hL
  have HF := Lib.hid (And.intro ft fg)
  obtain ⟨_, _, c2⟩ := cell2 hT.obj
  have f2 := frozen_of_row w t 2 _ _ hT.obj
  clear hM hT hL ft fg fq hP
  go_enter Tryz.func29, Tryz.ntmps29
  go_wp2
  go_end0
  have hg := setCell_grown t 2 w (.slice none 0 0)
  have hO : Only (fun k => k = t) w (w.setCell ⟨t, 2, none⟩ (.slice none 0 0)) := grown_only hg fun k e => (Option.some.inj e).symm
  refine ⟨rfl, ⟨m, g, .slice none 0 0, ?_, ⟨Go.heap_setCell_same w t 2 _ _ _ HT.out.obj, World.ownsRow_nil _ _ _ _⟩, ?_, HF.out.1, HF.out.2, (fun q hq => by cases hq), ⟨(fun p hp => by cases hp), (fun p hp => by cases hp), by simp⟩, Hmn.out⟩, hO.mono fun j _ e => e ▸ HF.out.1⟩
  · obtain ⟨sb, lb, ab, n, h, r⟩ := HM.out
    refine ⟨sb, lb, ab, n, h.keep fun k hk => hO.block k (h.lts k hk) fun e => ?_, r⟩
    have ho := HT.out.obj
    rw [← e] at ho
    rcases hk with rfl | rfl | rfl | rfl
    · exact absurd (Obj.cells.inj (Option.some.inj (ho.symm.trans h.obj))).2.1 (by decide)
    · exact absurd (Obj.cells.inj (Option.some.inj (ho.symm.trans h.seen))).2.1 (by decide)
    · obtain ⟨Z, _, hl⟩ := h.lasts
      exact absurd (Obj.cells.inj (Option.some.inj (ho.symm.trans hl))).2.1 (by decide)
    · obtain ⟨_, _, _, ⟨es, ck, hm, _⟩, _⟩ := h.away
      have := ho.symm.trans hm
      cases this
  · refine (hO.block g (lt_get HL.out) fun e => ?_).trans HL.out
    have ho := HT.out.obj
    rw [← e] at ho
    exact absurd (Obj.cells.inj (Option.some.inj (ho.symm.trans HL.out))).2.1 (by decide)

end Go.Proofs.YthbonbcbbngciaaGreatDoor
