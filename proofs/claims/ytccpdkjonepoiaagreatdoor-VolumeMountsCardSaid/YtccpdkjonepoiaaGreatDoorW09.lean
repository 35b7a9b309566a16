/- Walks: which blocks are used: the first free one, how many, bytes and back. -/
import Derived.Test.YtccpdkjonepoiaaGreatDoorW08
import Derived.Test.YtccpdkjonepoiaaGreatDoorW07
import Derived.Test.YtccpdkjonepoiaaGreatDoorW00
import Derived.DeepKeys
set_option linter.unusedVariables false
set_option linter.unusedSimpArgs false
set_option linter.unusedSectionVars false
namespace Go.Proofs.YtccpdkjonepoiaaGreatDoor
open Go.RowKit

attribute [local go_sem] Oper.semAt_some

theorem cellsB_len {m : List UInt8} (hm : m.length = 16) : (cellsB m).size = 16 := by unfold cellsB; rw [List.size_toArray, byteCells_len]; exact hm
theorem below_new (w : World) (C : Array Value) (t : TypeId) : Below w.heap.size w (w.alloc (.cells C t)) ∧ (w.alloc (.cells C t)).heap[w.heap.size]? = some (.cells C t (0, 0)) := ⟨(Below.refl _ _).alloc (Nat.le_refl _) _, heap_alloc_new _ _⟩

set_option maxHeartbeats 4000000 in
set_option maxRecDepth 100000 in
theorem first_any (m : List UInt8) (hm : m.length = 16) (w : World) : Calls Tryz.prog 184 #[mapV m, .int .i64 1] w fun e w' => e = .returned (.int .i64 (Gd.firstB m)) ∧ Below w.heap.size w w' := by
  have HS := Lib.hid (cellsB_len hm)
  have HU := Lib.hid (used_any m hm)
  obtain ⟨hbb, hbc⟩ := below_new w (cellsB m) 153
  obtain ⟨mb, hmb⟩ : ∃ mb, mb = w.heap.size := ⟨_, rfl⟩
  obtain ⟨wb, hwb⟩ : ∃ u, u = w.alloc (.cells (cellsB m) 153) := ⟨_, rfl⟩
  rw [← hwb, ← hmb] at hbc
  rw [← hwb] at hbb
  have Hmb := Lib.hid hmb.symm
  have HBb := Lib.hid hbb
  have HWb := Lib.hid hwb
  have Hbc := Lib.hid hbc
  have HF : Hid (Gd.firstB m = Gd.firstFrom m 128 1) := Lib.hid rfl
  obtain ⟨R, hR⟩ : ∃ R, R = Gd.firstB m := ⟨_, rfl⟩
  rw [← hR] at HF ⊢
  clear hmb hbb hwb hbc hR
  unfold mapV at *
  go_enter Tryz.func184, Tryz.ntmps184
  go_upto_region 2 with fail
  rw [← HWb.out, Hmb.out]
  go_loopw [5] (fun u wr => ∃ n : Nat, u = .int .i64 n ∧ 1 ≤ n ∧ n ≤ 129 ∧ Hid (R = Gd.firstFrom m (129 - n) n) ∧ Hid (Below w.heap.size w wr ∧ Below wb.heap.size wb wr)) (fun u _ => 129 - (intOf u).toNat)
  case atStart => exact ⟨1, rfl, by omega, by omega, HF, Lib.hid ⟨HBb.out, Below.refl _ _⟩⟩
  case round =>
    obtain ⟨n, rfl, hn1, hn2, HR, HB⟩ := hrel
    by_cases hlt : n ≤ 128
    · have h1 : (n : Int) ≤ 128 := by omega
      have hc := (HB.out.2.block mb (lt_get Hbc.out)).trans Hbc.out
      have Hc := Lib.hid hc
      have hui : Gd.usedI m (n : Int) = Gd.usedB m n := by
        unfold Gd.usedI Gd.isBlk
        rw [Int.toNat_natCast, decide_eq_true (by omega), decide_eq_true (by omega)]
        rfl
      have HU2 := Lib.hid (HU.out (n : Int) wr)
      rw [hui] at HU2
      have HR2 : Hid (R = if Gd.usedB m n = true then Gd.firstFrom m (129 - (n + 1)) (n + 1) else n) := Lib.hid (by
        rw [HR.out, show 129 - n = (129 - (n + 1)) + 1 by omega, Gd.firstFrom])
      obtain ⟨b, hb⟩ : ∃ b, b = Gd.usedB m n := ⟨_, rfl⟩
      rw [← hb] at HU2 HR2
      clear hc hui hb
      cases b with
      | true =>
        go_wp2_with (first | (refine wpList_load_row rfl 153 _ rfl mb rfl 153 (cellsB m) (0, 0) _ Hc.out Tryz.underlying153 rfl (by rw [HS.out]; exact Tryz.sizeMap) ?_) | (go_at_call 203; refine HU2.out.mono ?_; rintro e w2 ⟨rfl, hb2⟩))
        have HB2 : Hid (Below w.heap.size w w2 ∧ Below wb.heap.size wb w2) := Lib.hid ⟨HB.out.1.trans (hb2.mono HB.out.1.size), HB.out.2.trans (hb2.mono HB.out.2.size)⟩
        go_roundw
        case rel => exact ⟨n + 1, by go_num, by omega, by omega, Lib.hid (by rw [HR2.out]; simp), HB2⟩
        case measure => simp [intOf]; omega
      | false =>
        go_wp2_with (first | (refine wpList_load_row rfl 153 _ rfl mb rfl 153 (cellsB m) (0, 0) _ Hc.out Tryz.underlying153 rfl (by rw [HS.out]; exact Tryz.sizeMap) ?_) | (go_at_call 203; refine HU2.out.mono ?_; rintro e w2 ⟨rfl, hb2⟩))
        have HB2 : Hid (Below w.heap.size w w2) := Lib.hid (HB.out.1.trans (hb2.mono HB.out.1.size))
        go_ret
        refine ⟨ret_int ?_, HB2.out⟩
        rw [HR2.out, if_neg (by simp)]
    · obtain rfl : n = 129 := by omega
      clear hlt
      go_wp2
      go_ret
      refine ⟨ret_int ?_, HB.out.1⟩
      rw [HR.out]
      rfl

theorem run_index_one {P : Program} (t e : TypeId) (n : Nat) (cs : Array Value) (k q : IntKind) (i : Nat) (v : Value) (w : World) (h : P.underlying t = some (.array n e)) (he : P.underlying e = some (.int q)) (hs : (P.info? e).map (·.size) = some 1) (hi : i < n) (hv : cs[i]? = some v) :
    (Instr.index t (.agg cs) (.int k (i : Int))).run P w = .ok v w := by
  have hn : (0 : Int) ≤ i ∧ (i : Int) < (n : Int) := by omega
  cases hq : P.info? e with
  | none => simp [hq] at hs
  | some j =>
    have hj : j.size = 1 := by simpa [hq] using hs
    simp [Instr.index, run_underlying h, asIntOf, hn, part, isAgg, run_underlying he, sizeOf, typeInfo, hq, hj, hv, go_sem]
    intro hh
    omega

def cntTo (m : List UInt8) (i : Nat) : Nat := ((m.take i).map fun c => Gd.cnt c.toNat).sum
theorem cntTo_next {m : List UInt8} {i : Nat} {x : UInt8} (h : m[i]? = some x) : cntTo m (i + 1) = cntTo m i + Gd.cnt x.toNat := by
  unfold cntTo
  rw [List.take_add_one, h]
  simp
theorem cntTo_le (m : List UInt8) (i : Nat) : cntTo m i ≤ 8 * i := by
  induction i with
  | zero => simp [cntTo]
  | succ i ih =>
    cases hx : m[i]? with
    | none =>
      have : m.take (i + 1) = m.take i := by rw [List.take_add_one, hx]; simp
      unfold cntTo at *
      rw [this]
      omega
    | some x =>
      rw [cntTo_next hx]
      have := Gd.cnt_le ⟨x.toNat, x.toNat_lt⟩
      dsimp only at this
      omega

set_option maxHeartbeats 4000000 in
set_option maxRecDepth 100000 in
theorem count_any (m : List UInt8) (hm : m.length = 16) (w : World) : Calls Tryz.prog 185 #[mapV m] w fun e w' => e = .returned (.int .i64 (Gd.countB m)) ∧ Below w.heap.size w w' := by
  have HS := Lib.hid (cellsB_len hm)
  obtain ⟨hbb, hbc⟩ := below_new w (cellsB m) 153
  obtain ⟨mb, hmb⟩ : ∃ mb, mb = w.heap.size := ⟨_, rfl⟩
  obtain ⟨wb, hwb⟩ : ∃ u, u = w.alloc (.cells (cellsB m) 153) := ⟨_, rfl⟩
  rw [← hwb, ← hmb] at hbc
  rw [← hwb] at hbb
  have Hmb := Lib.hid hmb.symm
  have HBb := Lib.hid hbb
  have HWb := Lib.hid hwb
  have Hbc := Lib.hid hbc
  have Hm := Lib.hid hm
  clear hmb hbb hwb hbc hm
  unfold mapV at *
  go_enter Tryz.func185, Tryz.ntmps185
  go_upto_region 2 with fail
  rw [← HWb.out, Hmb.out]
  go_upto_region 3 with (refine wpList_load_row rfl 153 _ rfl mb rfl 153 (cellsB m) (0, 0) _ Hbc.out Tryz.underlying153 rfl (by rw [HS.out]; exact Tryz.sizeMap) ?_)
  go_loopw [3, 7] (fun u z wr => ∃ i : Nat, z = .int .i64 i ∧ i ≤ 16 ∧ u = .int .i64 (cntTo m i) ∧ wr = wb) (fun _ z _ => 16 - (intOf z).toNat)
  case atStart => exact ⟨0, rfl, by omega, rfl, rfl⟩
  case round =>
    obtain ⟨i, rfl, hi, rfl, rfl⟩ := hrel
    by_cases hlt : i < 16
    · obtain ⟨x, hx⟩ : ∃ x, m[i]? = some x := ⟨_, List.getElem?_eq_getElem (by have := Hm.out; omega)⟩
      have hc := run_index_one 153 5 16 (cellsB m) .i64 .u8 i _ wr Tryz.underlying153 Tryz.underlying5 Tryz.infoU8s hlt (cellsB_get hx)
      have h1 : (i : Int) < 16 := by omega
      have h0 : (0 : Int) ≤ i := by omega
      have HX := Lib.hid (cntTo_next hx)
      have HLe := Lib.hid (cntTo_le m (i + 1))
      obtain ⟨T, hT⟩ : ∃ T, T = cntTo m (i + 1) := ⟨_, rfl⟩
      rw [← hT] at HX HLe
      have HT := Lib.hid hT
      obtain ⟨M0, hM0⟩ : ∃ M0, M0 = cntTo m i := ⟨_, rfl⟩
      rw [← hM0] at HX ⊢
      have hxl := x.toNat_lt
      obtain ⟨c0, hc0⟩ : ∃ c0, c0 = x.toNat := ⟨_, rfl⟩
      rw [← hc0] at HX hxl hc
      clear hx hT hM0 hc0 hlt
      go_wp2
      go_loopw [3, 5] (fun u y wx => ∃ M c : Nat, u = .int .i64 M ∧ y = .int .u8 c ∧ c < 256 ∧ Hid (T = M + Gd.cnt c) ∧ wx = wr) (fun _ y _ => (intOf y).toNat)
      case atStart => exact ⟨M0, c0, rfl, rfl, hxl, HX, rfl⟩
      case round =>
        obtain ⟨M, c, rfl, rfl, hcl, HM, rfl⟩ := hrel
        by_cases hz : c = 0
        · subst hz
          have HM2 : Hid (M = T) := Lib.hid (by rw [HM.out]; rfl)
          go_wp2
          go_roundw
          case rel => exact ⟨i + 1, by go_num, by omega, by rw [HM2.out, HT.out], trivial⟩
          case measure => simp [intOf]; omega
        · have h2 : (c : Int) ≠ 0 := by omega
          have h3 := less8 ⟨c, hcl⟩ hz
          have h4 : IntKind.u8.wrap ((c : Int) - 1) = (c : Int) - 1 := by
            rw [show IntKind.u8.wrap ((c : Int) - 1) = ((c : Int) - 1) % 256 from rfl]
            omega
          have HSt : Hid (Gd.cnt c = 1 + Gd.cnt (c &&& (c - 1))) := Lib.hid (Gd.cnt_step ⟨c, hcl⟩ hz)
          have hle : c &&& (c - 1) ≤ c - 1 := Nat.and_le_right
          dsimp only at h3
          rw [h4] at h3
          obtain ⟨d, hd⟩ : ∃ d, d = c &&& (c - 1) := ⟨_, rfl⟩
          rw [← hd] at h3 HSt hle
          have hM8 : (M : Int) ≤ 1000 := by have := HM.out; have := HLe.out; omega
          clear hd
          go_wp2
          go_roundw
          case rel => exact ⟨M + 1, d, by go_num, rfl, by omega, Lib.hid (by rw [HM.out, HSt.out]; omega), trivial⟩
          case measure => simp [intOf]; omega
    · obtain rfl : i = 16 := by omega
      clear hlt
      go_wp2
      go_ret
      refine ⟨ret_int ?_, HBb.out⟩
      unfold cntTo Gd.countB
      rw [List.take_of_length_le (by have := Hm.out; omega)]

set_option maxHeartbeats 4000000 in
set_option maxRecDepth 100000 in
theorem bytesm_any (m : List UInt8) (hm : m.length = 16) (w : World) : Calls Tryz.prog 127 #[mapV m] w (GivesB w m) := by
  obtain ⟨hbb, hbc⟩ := below_new w (cellsB m) 153
  obtain ⟨mb, hmb⟩ : ∃ mb, mb = w.heap.size := ⟨_, rfl⟩
  obtain ⟨wb, hwb⟩ : ∃ u, u = w.alloc (.cells (cellsB m) 153) := ⟨_, rfl⟩
  rw [← hwb, ← hmb] at hbc
  rw [← hwb] at hbb
  have HBy : Hid (BytesAt wb (.slice (some ⟨mb, 0, none⟩) 16 16) m) := Lib.hid ⟨_, 16, by rw [hm], Or.inr ⟨mb, 0, rfl, lt_get hbc, fun j x hx => by rw [Nat.zero_add]; exact (cell_of_row wb mb j _ _ _ hbc).trans (cellsB_get hx)⟩⟩
  have Hmb := Lib.hid hmb.symm
  have HBb := Lib.hid hbb
  have HWb := Lib.hid hwb
  have Hm := Lib.hid hm
  clear hmb hbb hwb hbc hm
  unfold mapV at *
  go_enter Tryz.func127, Tryz.ntmps127
  go_upto_region 1 with fail
  rw [← HWb.out, Hmb.out]
  go_wp2_with (at_builtin; refine app_bytes rfl _ _ rfl w.heap.size (.slice none 0 0) [] wb rfl (ownB_nil _ _) _ m HBy.out rfl (by have := Hm.out; simp; omega) HBb.out.size ?_; intro v' w' ho' hb')
  have HO := Lib.hid ho'
  have HB := Lib.hid (HBb.out.trans hb')
  clear ho' hb'
  go_wp2
  go_ret
  exact ⟨_, rfl, HO.out, HB.out⟩

set_option maxHeartbeats 4000000 in
set_option maxRecDepth 100000 in
theorem readm_any (v : Value) (L : List UInt8) (B : Nat) (w : World) (hv : OwnB w B v L) (hl : 16 ≤ L.length) : Calls Tryz.prog 182 #[v] w fun e w' => e = .returned (.tuple #[mapV (L.take 16), .int .i64 0]) ∧ Below w.heap.size w w' := by
  have hm : (L.take 16).length = 16 := by rw [List.length_take]; omega
  obtain ⟨b, c, rfl, hlc, hb, hc⟩ : ∃ b c, v = .slice (some ⟨b, 0, none⟩) L.length c ∧ L.length ≤ c ∧ b < w.heap.size ∧ ∀ (j : Nat) (x : UInt8), L[j]? = some x → w.cell? ⟨b, 0 + j, none⟩ = some (.int .u8 x.toNat) := by
    obtain ⟨A, c', hv', hA⟩ := hv.at_
    rcases hv.2 with ⟨_, h0⟩ | ⟨g, cap, cur, e, _, hg, hcap, _⟩
    · omega
    · refine ⟨g, cap, e, hcap, lt_get hg, ?_⟩
      rw [e] at hv'
      cases hv'
      rcases hA with ⟨h0, _⟩ | ⟨b, o, h1, _, h3⟩
      · cases h0
      · cases h1
        exact h3
  obtain ⟨Z, hZ⟩ : ∃ Z : Array Value, Z = #[.int .u8 0, .int .u8 0, .int .u8 0, .int .u8 0, .int .u8 0, .int .u8 0, .int .u8 0, .int .u8 0, .int .u8 0, .int .u8 0, .int .u8 0, .int .u8 0, .int .u8 0, .int .u8 0, .int .u8 0, .int .u8 0] := ⟨_, rfl⟩
  have hZs : Z.size = 16 := by rw [hZ]; rfl
  obtain ⟨hbb, hbc⟩ := below_new w Z 153
  obtain ⟨r, hr⟩ : ∃ r, r = w.heap.size := ⟨_, rfl⟩
  obtain ⟨wb, hwb⟩ : ∃ u, u = w.alloc (.cells Z 153) := ⟨_, rfl⟩
  rw [← hwb, ← hr] at hbc
  rw [← hwb] at hbb
  have hrg : wb.rangeAt b 0 (Lib.byteCells (L.take 16)) := fun j u hu => by
    obtain ⟨x, hx, rfl⟩ := byteCells_inv hu
    have hj := (List.getElem?_eq_some_iff.1 hx).1
    rw [List.getElem?_take_of_lt (by omega)] at hx
    exact (hbb.cell (p := ⟨b, 0 + j, none⟩) hb).trans (hc j x hx)
  have HS := Lib.hid (cellsB_len hm)
  have HRg := Lib.hid hrg
  have Hr := Lib.hid hr.symm
  have HBb := Lib.hid hbb
  have HWb := Lib.hid hwb
  have Hbc := Lib.hid hbc
  have HZ := Lib.hid hZ
  have HZs := Lib.hid hZs
  have HLn : Hid ((Lib.byteCells (L.take 16)).length = 16) := Lib.hid (by rw [byteCells_len]; exact hm)
  obtain ⟨n, hn⟩ : ∃ n, n = L.length := ⟨_, rfl⟩
  rw [← hn] at hl hlc ⊢
  have h1 : ¬ ((n : Int) < 16) := by omega
  have h2 : (16 : Int) ≤ c := by omega
  have harr : (Instr.arrayAt 153 (.slice (some ⟨b, 0, none⟩) 16 c)).run Tryz.prog wb = .ok (.pointer (some ⟨b, 0, none⟩)) wb := by
    simp [Instr.arrayAt, run_underlying Tryz.underlying153, go_sem]
  clear hv hm hb hc hZ hZs hr hbb hwb hbc hrg hn
  go_enter Tryz.func182, Tryz.ntmps182
  go_upto_region 1 with fail
  rw [← HZ.out, ← HWb.out, Hr.out]
  go_upto_region 3 with fail
  go_wp2_with (first | (refine wpList_load_mid rfl 153 _ rfl b 0 rfl (Lib.byteCells (L.take 16)) _ HRg.out Tryz.underlying153 rfl (by rw [HLn.out]; exact Tryz.sizeMap) ?_) | (refine wpList_store_mid rfl 153 _ _ rfl r 0 (cellsB (L.take 16)) rfl rfl (there_at Hbc.out (by rw [HZs.out, HS.out])) (by rw [HS.out]; exact Tryz.sizeMap) (cellsB_one _) ?_; obtain ⟨hbw, hbg⟩ := whole_at Hbc.out (vs := (cellsB (L.take 16)).toList) (B := r) (by rw [HZs.out, Array.length_toList, HS.out]) (Nat.le_refl r); generalize (World.setCells _ _ _ _) = wf at hbw hbg ⊢))
  refine bodyPost_ret (results_row_tmp rfl _ _ r 153 (cellsB (L.take 16)) (0, 0) _ rfl hbg Tryz.underlying153 rfl (by rw [HS.out]; exact Tryz.sizeMap)) rfl ?_
  exact ⟨rfl, HBb.out.trans (by rw [Hr.out]; exact hbw)⟩

end Go.Proofs.YtccpdkjonepoiaaGreatDoor

/- Walks: inodes as values; which may be. -/
namespace Go.Proofs.YtccpdkjonepoiaaGreatDoor
open Go.RowKit

attribute [local go_sem] Oper.semAt_some

def intC (L : List Int) : List Value := L.map fun n => Value.int .i64 n
def inoL (x : Gd.Ino) : List Int := x.k :: x.l :: x.s :: (x.B ++ x.O)
def inoC (x : Gd.Ino) : Array Value := (intC (inoL x)).toArray
def inoV (x : Gd.Ino) : Value := .agg (inoC x)
theorem Tryz.sizeIno : (Tryz.prog.info? 40).map (fun i => i.size) = some 15 := by kernel_rfl
theorem Tryz.size4 : (Tryz.prog.info? 37).map (fun i => i.size) = some 4 := by kernel_rfl
theorem Tryz.size8 : (Tryz.prog.info? 38).map (fun i => i.size) = some 8 := by kernel_rfl
theorem Tryz.infoInts : (Tryz.prog.info? 3).map (·.size) = some 1 := by kernel_rfl
theorem intC_len (L : List Int) : (intC L).length = L.length := List.length_map ..
theorem intC_get {L : List Int} {j : Nat} {n : Int} (h : L[j]? = some n) : (intC L)[j]? = some (.int .i64 n) := by
  unfold intC
  rw [List.getElem?_map, h]
  rfl
theorem intC_one (L : List Int) : ∀ u ∈ intC L, u.oneCell' = true := by
  intro u hu
  unfold intC at hu
  obtain ⟨n, _, rfl⟩ := List.mem_map.1 hu
  rfl
theorem inoL_len {x : Gd.Ino} (h : x.Shape) : (inoL x).length = 15 := by
  unfold inoL
  simp only [List.length_cons, List.length_append, h.1, h.2]
theorem inoC_size {x : Gd.Ino} (h : x.Shape) : (inoC x).size = 15 := by
  unfold inoC
  rw [List.size_toArray, intC_len, inoL_len h]
theorem inoC_one (x : Gd.Ino) : (inoC x).all (·.oneCell') = true := all_oneCell_toArray (intC_one _)
theorem inoC_get {x : Gd.Ino} {j : Nat} {n : Int} (h : (inoL x)[j]? = some n) : (inoC x)[j]? = some (.int .i64 n) := by
  unfold inoC
  rw [List.getElem?_toArray]
  exact intC_get h
/-- an inode in a variable of its own -/
structure InoAt (w : World) (b : Nat) (x : Gd.Ino) : Prop where
  row : w.heap[b]? = some (.cells (inoC x) 40 (0, 0))
  shape : x.Shape
theorem InoAt.c0 {w : World} {b : Nat} {x : Gd.Ino} (h : InoAt w b x) : w.cell? ⟨b, 0, none⟩ = some (.int .i64 x.k) := (cell_of_row w b 0 _ _ _ h.row).trans (inoC_get rfl)
theorem InoAt.c1 {w : World} {b : Nat} {x : Gd.Ino} (h : InoAt w b x) : w.cell? ⟨b, 1, none⟩ = some (.int .i64 x.l) := (cell_of_row w b 1 _ _ _ h.row).trans (inoC_get rfl)
theorem InoAt.c2 {w : World} {b : Nat} {x : Gd.Ino} (h : InoAt w b x) : w.cell? ⟨b, 2, none⟩ = some (.int .i64 x.s) := (cell_of_row w b 2 _ _ _ h.row).trans (inoC_get rfl)
theorem InoAt.blocks {w : World} {b : Nat} {x : Gd.Ino} (h : InoAt w b x) : w.rangeAt b 3 (intC x.B) := fun j v hv => by
  unfold intC at hv
  rw [List.getElem?_map] at hv
  obtain ⟨n, hn, rfl⟩ := Option.map_eq_some_iff.1 hv
  have hj := (List.getElem?_eq_some_iff.1 hn).1
  refine (cell_of_row w b (3 + j) _ _ _ h.row).trans (inoC_get ?_)
  rw [show 3 + j = j + 3 by omega]
  show (x.B ++ x.O)[j]? = some n
  rw [List.getElem?_append_left hj]
  exact hn
theorem InoAt.opens {w : World} {b : Nat} {x : Gd.Ino} (h : InoAt w b x) : w.rangeAt b 7 (intC x.O) := fun j v hv => by
  unfold intC at hv
  rw [List.getElem?_map] at hv
  obtain ⟨n, hn, rfl⟩ := Option.map_eq_some_iff.1 hv
  have hB := h.shape.1
  refine (cell_of_row w b (7 + j) _ _ _ h.row).trans (inoC_get ?_)
  rw [show 7 + j = (4 + j) + 3 by omega]
  show (x.B ++ x.O)[4 + j]? = some n
  rw [List.getElem?_append_right (by omega), hB, show 4 + j - 4 = j by omega]
  exact hn
theorem InoAt.keep {w w' : World} {b : Nat} {x : Gd.Ino} (h : InoAt w b x) (hb : Below w.heap.size w w') : InoAt w' b x := ⟨(hb.block b (lt_get h.row)).trans h.row, h.shape⟩
theorem InoAt.range {w : World} {b : Nat} {x : Gd.Ino} (h : InoAt w b x) : w.rangeAt b 0 (intC (inoL x)) := fun j v hv => by
  rw [Nat.zero_add, cell_of_row w b j _ _ _ h.row]
  unfold inoC
  rw [List.getElem?_toArray]
  exact hv
theorem ino_box (w : World) {x : Gd.Ino} (h : x.Shape) : InoAt (w.alloc (.cells (inoC x) 40)) w.heap.size x ∧ Below w.heap.size w (w.alloc (.cells (inoC x) 40)) := ⟨⟨heap_alloc_new _ _, h⟩, (Below.refl _ _).alloc (Nat.le_refl _) _⟩
/-- numbers that fit -/
def AllI (L : List Int) : Prop := ∀ n ∈ L, I64 n
theorem opnB_take {most : Int} {O : List Int} {i : Nat} {n : Int} (h : O[i]? = some n) : Gd.opnB most (O.take (i + 1)) = (Gd.opnB most (O.take i) && (decide (0 ≤ n) && decide (n ≤ most))) := by
  unfold Gd.opnB
  rw [List.take_add_one, h, List.all_append]
  simp
theorem opnB_bad {most : Int} {O : List Int} {i : Nat} {n : Int} (h : O[i]? = some n) (hb : (decide (0 ≤ n) && decide (n ≤ most)) = false) : Gd.opnB most O = false := by
  unfold Gd.opnB
  rw [List.all_eq_false]
  exact ⟨n, List.mem_of_getElem? h, by rw [hb]; simp⟩

set_option maxHeartbeats 4000000 in
set_option maxRecDepth 100000 in
theorem opens_any (x : Gd.Ino) (hx : x.Shape) (most : Nat) (w : World) : Calls Tryz.prog 176 #[inoV x, .int .i64 most] w fun e w' => e = .returned (.bool (Gd.opnB most x.O)) ∧ Below w.heap.size w w' := by
  obtain ⟨hb0, hbb⟩ := ino_box w hx
  obtain ⟨b, hbe⟩ : ∃ b, b = w.heap.size := ⟨_, rfl⟩
  obtain ⟨wb, hwb⟩ : ∃ u, u = w.alloc (.cells (inoC x) 40) := ⟨_, rfl⟩
  rw [← hwb, ← hbe] at hb0
  rw [← hwb] at hbb
  have Hbe := Lib.hid hbe.symm
  have HBb := Lib.hid hbb
  have HWb := Lib.hid hwb
  have HI := Lib.hid hb0
  have HX := Lib.hid hx
  have HL : Hid ((intC x.O).length = 8) := Lib.hid (by rw [intC_len]; exact hx.2)
  clear hbe hbb hwb hb0 hx
  unfold inoV at *
  go_enter Tryz.func176, Tryz.ntmps176
  go_upto_region 1 with fail
  rw [← HWb.out, Hbe.out]
  go_upto_region 2 with (refine wpList_load_mid rfl 38 _ rfl b 7 rfl (intC x.O) _ HI.out.opens Tryz.underlying38 rfl (by rw [HL.out]; exact Tryz.size8) ?_)
  go_loopw [9] (fun z wr => ∃ i : Nat, z = .int .i64 i ∧ i ≤ 8 ∧ Hid (Gd.opnB most (x.O.take i) = true) ∧ wr = wb) (fun z _ => 8 - (intOf z).toNat)
  case atStart => exact ⟨0, rfl, by omega, Lib.hid (by simp [Gd.opnB]), rfl⟩
  case round =>
    obtain ⟨i, rfl, hi, HO, rfl⟩ := hrel
    by_cases hlt : i < 8
    · obtain ⟨n, hn⟩ : ∃ n, x.O[i]? = some n := ⟨_, List.getElem?_eq_getElem (by have := HX.out.2; omega)⟩
      have hc := run_index_one 38 3 8 (intC x.O).toArray .i64 .i64 i _ wr Tryz.underlying38 Tryz.underlying3 Tryz.infoInts hlt (by rw [List.getElem?_toArray]; exact intC_get hn)
      have h1 : (i : Int) < 8 := by omega
      have HT := Lib.hid (opnB_take (most := most) hn)
      have HN := Lib.hid (inoin_any n most wr)
      cases hb : (decide (0 ≤ n) && decide (n ≤ (most : Int))) with
      | true =>
        rw [hb] at HN HT
        have HO2 : Hid (Gd.opnB most (x.O.take (i + 1)) = true) := Lib.hid (by rw [HT.out, HO.out]; rfl)
        clear hn hb hlt HT
        go_wp2_with (go_at_call 175; refine HN.out.mono ?_; rintro e w2 ⟨rfl, rfl⟩)
        go_roundw
        case rel => exact ⟨i + 1, by go_num, by omega, HO2, trivial⟩
        case measure => simp [intOf]; omega
      | false =>
        rw [hb] at HN
        have HBd := Lib.hid (opnB_bad hn hb)
        clear hn hb hlt HT
        go_wp2_with (go_at_call 175; refine HN.out.mono ?_; rintro e w2 ⟨rfl, rfl⟩)
        go_ret
        exact ⟨ret_bool HBd.out.symm, HBb.out⟩
    · obtain rfl : i = 8 := by omega
      clear hlt
      go_wp2
      go_ret
      refine ⟨ret_bool ?_, HBb.out⟩
      have := HO.out
      rw [List.take_of_length_le (by have := HX.out.2; omega)] at this
      exact this.symm

theorem Tryz.hadZero : ∀ j : Fin 129, Tryz.zeroCells250[j.val]? = some (.bool false) := fun j => by
  have h : Tryz.zeroCells250 = Array.replicate 129 (.bool false) := by kernel_rfl
  rw [h, Array.getElem?_replicate, if_pos j.isLt]
theorem Tryz.hadSize : Tryz.zeroCells250.size = 129 := by kernel_rfl
/-- which numbers were had -/
structure HadAt (w : World) (h : Nat) (had : List Int) : Prop where
  row : ∃ C : Array Value, w.heap[h]? = some (.cells C 250 (0, 0)) ∧ C.size = 129 ∧ ∀ j : Nat, j < 129 → C[j]? = some (.bool (had.contains (j : Int)))
theorem HadAt.cell {w : World} {h : Nat} {had : List Int} (H : HadAt w h had) {j : Nat} (hj : j < 129) : w.cell? ⟨h, j, none⟩ = some (.bool (had.contains (j : Int))) ∧ w.frozen? ⟨h, j, none⟩ = false := by
  obtain ⟨C, hg, _, hc⟩ := H.row
  exact ⟨(cell_of_row w h j _ _ _ hg).trans (hc j hj), frozen_of_row w h j _ _ hg⟩
theorem HadAt.set {w : World} {h : Nat} {had : List Int} (H : HadAt w h had) {j : Nat} (hj : j < 129) : HadAt (w.setCell ⟨h, j, none⟩ (.bool true)) h (had ++ [(j : Int)]) := by
  obtain ⟨C, hg, hs, hc⟩ := H.row
  refine ⟨_, Go.heap_setCell_same w h j _ _ _ hg, by rw [Array.size_setIfInBounds]; exact hs, fun k hk => ?_⟩
  rw [Array.getElem?_setIfInBounds]
  by_cases e : j = k
  · subst e
    rw [if_pos rfl, if_pos (by omega)]
    simp
  · rw [if_neg e, hc k hk]
    simp
    intro e'
    omega
theorem HadAt.keep {w w' : World} {h : Nat} {had : List Int} (H : HadAt w h had) (hb : w'.heap[h]? = w.heap[h]?) : HadAt w' h had := by
  obtain ⟨C, hg, hs, hc⟩ := H.row
  exact ⟨C, hb.trans hg, hs, hc⟩
theorem HadAt.lt {w : World} {h : Nat} {had : List Int} (H : HadAt w h had) : h < w.heap.size := by
  obtain ⟨C, hg, hs, hc⟩ := H.row
  exact lt_get hg
theorem had_new (w : World) : HadAt (w.alloc (.cells Tryz.zeroCells250 250)) w.heap.size [] :=
  ⟨_, heap_alloc_new _ _, Tryz.hadSize, fun j hj => Tryz.hadZero ⟨j, hj⟩⟩
/-- what is asked of one block's number -/
def blkOk (kind size : Int) (k : Nat) (had : List Int) (b : Int) : Bool := (decide (0 ≤ b) && decide (b ≤ 128)) && !(decide (0 < b) && had.contains b) && !(decide (kind = 1) && (decide (0 < b) != decide ((64 * k : Int) < size)))
theorem blkB_cons (kind size : Int) (k : Nat) (had : List Int) (b : Int) (r : List Int) : Gd.blkB kind size k had (b :: r) = (blkOk kind size k had b && Gd.blkB kind size (k + 1) (had ++ [b]) r) := rfl

set_option maxHeartbeats 8000000 in
set_option maxRecDepth 100000 in
theorem blocks_any (x : Gd.Ino) (hx : x.Shape) (hI : AllI x.B) (w : World) : Calls Tryz.prog 177 #[inoV x] w fun e w' => e = .returned (.bool (Gd.blkB x.k x.s 0 [] x.B)) ∧ Below w.heap.size w w' := by
  obtain ⟨hb0, hbb⟩ := ino_box w hx
  obtain ⟨b, hbe⟩ : ∃ b, b = w.heap.size := ⟨_, rfl⟩
  obtain ⟨wb, hwb⟩ : ∃ u, u = w.alloc (.cells (inoC x) 40) := ⟨_, rfl⟩
  rw [← hwb, ← hbe] at hb0
  rw [← hwb] at hbb
  have hh0 := had_new wb
  have hhb : Below wb.heap.size wb (wb.alloc (.cells Tryz.zeroCells250 250)) := (Below.refl _ _).alloc (Nat.le_refl _) _
  obtain ⟨wh, hwh⟩ : ∃ u, u = wb.alloc (.cells Tryz.zeroCells250 250) := ⟨_, rfl⟩
  obtain ⟨h, hhe⟩ : ∃ h, h = wb.heap.size := ⟨_, rfl⟩
  rw [← hwh, ← hhe] at hh0
  rw [← hwh] at hhb
  have hbh : b < h := by rw [hhe]; exact lt_get hb0.row
  have hI1 := hb0.keep hhb
  have Hbe := Lib.hid hbe.symm
  have Hhe := Lib.hid hhe.symm
  have HBb : Hid (Below w.heap.size w wh) := Lib.hid (hbb.trans (hhb.mono hbb.size))
  have HWb := Lib.hid hwb
  have HWh := Lib.hid hwh
  have HI := Lib.hid hI1
  have HH := Lib.hid hh0
  have HX := Lib.hid hx
  have HA := Lib.hid hI
  have HL : Hid ((intC x.B).length = 4) := Lib.hid (by rw [intC_len]; exact hx.1)
  have Hbh := Lib.hid hbh
  obtain ⟨R, hR⟩ : ∃ R, R = Gd.blkB x.k x.s 0 [] x.B := ⟨_, rfl⟩
  have HR : Hid (R = Gd.blkB x.k x.s 0 [] (x.B.drop 0)) := Lib.hid hR
  rw [← hR]
  clear hbe hbb hwb hb0 hx hh0 hhb hwh hhe hbh hI1 hI hR
  unfold inoV at *
  go_enter Tryz.func177, Tryz.ntmps177
  go_upto_region 1 with fail
  rw [← HWb.out, Hbe.out]
  go_upto_region 2 with fail
  rw [← HWh.out, Hhe.out]
  go_upto_region 3 with (refine wpList_load_mid rfl 37 _ rfl b 3 rfl (intC x.B) _ HI.out.blocks Tryz.underlying37 rfl (by rw [HL.out]; exact Tryz.size4) ?_)
  go_loopw [8] (fun z wr => ∃ (i : Nat) (had : List Int), z = .int .i64 i ∧ i ≤ 4 ∧ Hid (R = Gd.blkB x.k x.s i had (x.B.drop i)) ∧ Hid (HadAt wr h had ∧ InoAt wr b x ∧ Below w.heap.size w wr)) (fun z _ => 4 - (intOf z).toNat)
  case atStart => exact ⟨0, [], rfl, by omega, HR, Lib.hid ⟨HH.out, HI.out, HBb.out⟩⟩
  case round =>
    obtain ⟨i, had, rfl, hi, HRi, HW⟩ := hrel
    by_cases hlt : i < 4
    · obtain ⟨n, hn⟩ : ∃ n, x.B[i]? = some n := ⟨_, List.getElem?_eq_getElem (by have := HX.out.1; omega)⟩
      have hc := run_index_one 37 3 4 (intC x.B).toArray .i64 .i64 i _ wr Tryz.underlying37 Tryz.underlying3 Tryz.infoInts hlt (by rw [List.getElem?_toArray]; exact intC_get hn)
      have h1 : (i : Int) < 4 := by omega
      have h0 : (0 : Int) ≤ i := by omega
      have hdr : x.B.drop i = n :: x.B.drop (i + 1) := by
        have hl := (List.getElem?_eq_some_iff.1 hn)
        rw [← hl.2, List.drop_eq_getElem_cons hl.1]
      have HRn : Hid (R = (blkOk x.k x.s i had n && Gd.blkB x.k x.s (i + 1) (had ++ [n]) (x.B.drop (i + 1)))) := Lib.hid (by rw [HRi.out, hdr, blkB_cons])
      have HN := Lib.hid (inoin_any n 128 wr)
      have k0 := HW.out.2.1.c0
      have k2 := HW.out.2.1.c2
      obtain ⟨kd, hkd⟩ : ∃ kd, kd = x.k := ⟨_, rfl⟩
      obtain ⟨sz, hsz⟩ : ∃ sz, sz = x.s := ⟨_, rfl⟩
      have Hks := Lib.hid (And.intro hkd hsz)
      rw [← hkd] at k0
      rw [← hsz] at k2
      rw [← hkd, ← hsz] at HRn
      clear hn hdr hlt HRi hkd hsz
      cases hb : (decide (0 ≤ n) && decide (n ≤ ((128 : Nat) : Int))) with
      | false =>
        rw [hb] at HN
        have HR0 : Hid (R = false) := Lib.hid (by
          rw [HRn.out]
          unfold blkOk
          rw [show (decide (0 ≤ n) && decide (n ≤ 128)) = false from hb]
          rfl)
        clear hb
        go_wp2_with (go_at_call 175; refine HN.out.mono ?_; rintro e w2 ⟨rfl, rfl⟩)
        go_ret
        exact ⟨ret_bool HR0.out.symm, HW.out.2.2⟩
      | true =>
        rw [hb] at HN
        obtain ⟨m, rfl⟩ : ∃ m : Nat, n = m := ⟨n.toNat, by simp at hb; omega⟩
        have hm : m ≤ 128 := by simp at hb; omega
        have hm9 : (m : Int) < 129 := by omega
        have hm0 : (0 : Int) ≤ m := by omega
        obtain ⟨d0, d1⟩ := HW.out.1.cell (j := m) (by omega)
        obtain ⟨g, hg⟩ : ∃ g, g = had.contains (m : Int) := ⟨_, rfl⟩
        rw [← hg] at d0
        have HOk : Hid (blkOk kd sz i had m = (!(decide (0 < (m : Int)) && g) && !(decide (kd = 1) && (decide (0 < (m : Int)) != decide ((64 * i : Int) < sz))))) := Lib.hid (by
          unfold blkOk
          rw [show (decide (0 ≤ (m : Int)) && decide ((m : Int) ≤ 128)) = true from hb, ← hg]
          rfl)
        obtain ⟨w3, hw3⟩ : ∃ u, u = wr.setCell ⟨h, m, none⟩ (.bool true) := ⟨_, rfl⟩
        have HW3 : Hid (HadAt w3 h (had ++ [(m : Int)]) ∧ InoAt w3 b x ∧ Below w.heap.size w w3) := Lib.hid (by
          rw [hw3]
          refine ⟨HW.out.1.set (by omega), ⟨(Go.heap_setCell_other wr ⟨h, m, none⟩ b _ (by have := Hbh.out; simp; omega)).trans HW.out.2.1.row, HW.out.2.1.shape⟩, HW.out.2.2.setCell ?_ _⟩
          have h1 := Hbh.out
          have h2 := Hbe.out
          show w.heap.size ≤ h
          omega)
        have Hw3 := Lib.hid hw3
        clear hw3 hb hg
        -- what the test comes to
        by_cases hbad : blkOk kd sz i had m = true
        · have HR1 : Hid (R = Gd.blkB x.k x.s (i + 1) (had ++ [(m : Int)]) (x.B.drop (i + 1))) := Lib.hid (by rw [HRn.out, hbad, Bool.true_and, Hks.out.1, Hks.out.2])
          have hok := hbad
          rw [HOk.out] at hok
          clear hbad
          by_cases hmz : m = 0
          · subst hmz
            by_cases hk1 : kd = 1
            · subst hk1
              have hs1 : sz ≤ (i : Int) * 64 := by simp at hok; omega
              clear hok
              go_wp2_with (go_at_call 175; refine HN.out.mono ?_; rintro e w2 ⟨rfl, rfl⟩)
              rw [← Hw3.out]
              go_roundw
              case rel => exact ⟨i + 1, _, by go_num, by omega, HR1, HW3⟩
              case measure => simp [intOf]; omega
            · clear hok
              go_wp2_with (go_at_call 175; refine HN.out.mono ?_; rintro e w2 ⟨rfl, rfl⟩)
              rw [← Hw3.out]
              (first | (go_roundw; (case rel => exact ⟨i + 1, _, by go_num, by omega, HR1, HW3⟩); (case measure => simp [intOf]; omega)) | (refine ⟨⟨i + 1, _, by go_num, by omega, HR1, HW3⟩, ?_⟩; simp [intOf]; omega))
          · have hmp : (0 : Int) < m := by omega
            have hg0 : g = false := by
              cases g with
              | false => rfl
              | true => simp [hmp] at hok; omega
            subst hg0
            by_cases hk1 : kd = 1
            · subst hk1
              have hs1 : (i : Int) * 64 < sz := by simp [hmp] at hok; omega
              clear hok
              go_wp2_with (go_at_call 175; refine HN.out.mono ?_; rintro e w2 ⟨rfl, rfl⟩)
              rw [← Hw3.out]
              (first | (go_roundw; (case rel => exact ⟨i + 1, _, by go_num, by omega, HR1, HW3⟩); (case measure => simp [intOf]; omega)) | (refine ⟨⟨i + 1, _, by go_num, by omega, HR1, HW3⟩, ?_⟩; simp [intOf]; omega))
            · clear hok
              go_wp2_with (go_at_call 175; refine HN.out.mono ?_; rintro e w2 ⟨rfl, rfl⟩)
              rw [← Hw3.out]
              (first | (go_roundw; (case rel => exact ⟨i + 1, _, by go_num, by omega, HR1, HW3⟩); (case measure => simp [intOf]; omega)) | (refine ⟨⟨i + 1, _, by go_num, by omega, HR1, HW3⟩, ?_⟩; simp [intOf]; omega))
        · have HR0 : Hid (R = false) := Lib.hid (by
            rw [HRn.out]
            simp only [Bool.not_eq_true] at hbad
            rw [hbad]
            rfl)
          have hok := hbad
          rw [HOk.out] at hok
          clear hbad
          by_cases hmz : m = 0
          · subst hmz
            obtain ⟨rfl, hs1⟩ : kd = 1 ∧ (i : Int) * 64 < sz := by
              simp at hok
              omega
            clear hok
            go_wp2_with (go_at_call 175; refine HN.out.mono ?_; rintro e w2 ⟨rfl, rfl⟩)
            go_ret
            exact ⟨ret_bool HR0.out.symm, HW.out.2.2⟩
          · have hmp : (0 : Int) < m := by omega
            cases g with
            | true =>
              clear hok
              go_wp2_with (go_at_call 175; refine HN.out.mono ?_; rintro e w2 ⟨rfl, rfl⟩)
              go_ret
              exact ⟨ret_bool HR0.out.symm, HW.out.2.2⟩
            | false =>
              obtain ⟨rfl, hs1⟩ : kd = 1 ∧ sz ≤ (i : Int) * 64 := by
                simp [hmp] at hok
                omega
              have hs2 : decide ((i : Int) * 64 < sz) = false := decide_eq_false (by omega)
              clear hok
              go_wp2_with (go_at_call 175; refine HN.out.mono ?_; rintro e w2 ⟨rfl, rfl⟩)
              go_ret
              exact ⟨ret_bool HR0.out.symm, HW.out.2.2⟩
    · obtain rfl : i = 4 := by omega
      clear hlt
      go_wp2
      go_ret
      refine ⟨ret_bool ?_, HW.out.2.2⟩
      rw [HRi.out, List.drop_eq_nil_of_le (by have := HX.out.1; omega)]
      rfl

end Go.Proofs.YtccpdkjonepoiaaGreatDoor

/- Walks: inodes that are compared; May. -/
namespace Go.Proofs.YtccpdkjonepoiaaGreatDoor
open Go.RowKit

attribute [local go_sem] Oper.semAt_some

theorem Tryz.cells4 : Tryz.prog.cellsOf 37 = 4 := by kernel_rfl
theorem Tryz.cells8 : Tryz.prog.cellsOf 38 = 8 := by kernel_rfl
theorem Tryz.cells1 : Tryz.prog.cellsOf 3 = 1 := by kernel_rfl
theorem Tryz.cells15 : Tryz.prog.cellsOf 40 = 15 := by kernel_rfl
theorem Tryz.inoKey : Tryz.prog.keyTypeAt 3 40 = true := by kernel_rfl
theorem int_key {n : Int} (h : I64 n) : Tryz.prog.keyLits 1 3 [.int .i64 n] = some [.int .i64 n] := by
  unfold I64 at h
  unfold Program.keyLits
  simp [Tryz.underlying3, h]
theorem int_items {L : List Int} (h : AllI L) (n : Nat) (hn : L.length = n) : (List.range n).mapM (fun i => Tryz.prog.keyLits 1 3 (((intC L).drop (i * Tryz.prog.cellsOf 3)).take (Tryz.prog.cellsOf 3))) = some ((List.range n).map fun i => [Lit.int .i64 (L.getD i 0)]) := by
  refine mapM_all _ _ _ fun i hi => ?_
  have hi' : i < L.length := by rw [hn]; simpa using hi
  rw [Tryz.cells1, Nat.mul_one]
  have hb : (intC L)[i]? = some (.int .i64 L[i]) := intC_get (List.getElem?_eq_getElem hi')
  have hl : i < (intC L).length := (List.getElem?_eq_some_iff.1 hb).1
  rw [List.drop_eq_getElem_cons hl, List.take_succ_cons, List.take_zero, (List.getElem?_eq_some_iff.1 hb).2, List.getD_eq_getElem?_getD, List.getElem?_eq_getElem hi']
  exact int_key (h _ (List.getElem_mem hi'))
theorem range_getI (L : List Int) (n : Nat) (hn : L.length = n) : ((List.range n).map fun i => [Lit.int .i64 (L.getD i 0)]).flatten = L.map (Lit.int .i64) := by
  rw [flatten_one]
  subst hn
  apply List.ext_getElem?
  intro i
  rw [List.getElem?_map, List.getElem?_map]
  by_cases hi : i < L.length
  · rw [List.getElem?_range hi, List.getElem?_eq_getElem hi]
    simp [List.getD_eq_getElem?_getD, List.getElem?_eq_getElem hi]
  · rw [List.getElem?_eq_none (by simpa using hi), List.getElem?_eq_none (by omega)]
    rfl
theorem key4 {L : List Int} (h : AllI L) (hn : L.length = 4) : Tryz.prog.keyLits 2 37 (intC L) = some (L.map (Lit.int .i64)) := by
  unfold Program.keyLits
  rw [Tryz.underlying37]
  simp only [intC_len, hn, Tryz.cells4, if_true]
  rw [int_items h 4 hn, Option.map_some, range_getI L 4 hn]
theorem key8 {L : List Int} (h : AllI L) (hn : L.length = 8) : Tryz.prog.keyLits 2 38 (intC L) = some (L.map (Lit.int .i64)) := by
  unfold Program.keyLits
  rw [Tryz.underlying38]
  simp only [intC_len, hn, Tryz.cells8, if_true]
  rw [int_items h 8 hn, Option.map_some, range_getI L 8 hn]
theorem int_key2 {n : Int} (h : I64 n) : Tryz.prog.keyLits 2 3 [.int .i64 n] = some [.int .i64 n] := by
  unfold I64 at h
  unfold Program.keyLits
  simp [Tryz.underlying3, h]
deriving instance DecidableEq for Gd.Ino
theorem ino_lits {x : Gd.Ino} (hs : x.Shape) (hI : AllI (inoL x)) : Tryz.prog.keyLits 3 40 (intC (inoL x)) = some ((inoL x).map (Lit.int .i64)) := by
  unfold Program.keyLits
  rw [Tryz.underlying40]
  have hc : intC (inoL x) = .int .i64 x.k :: .int .i64 x.l :: .int .i64 x.s :: (intC x.B ++ intC x.O) := by simp [intC, inoL]
  have e3 : ((intC (inoL x)).drop 3).take 4 = intC x.B := by
    rw [hc]
    show (intC x.B ++ intC x.O).take 4 = _
    exact List.take_left' (by rw [intC_len]; exact hs.1)
  have e7 : ((intC (inoL x)).drop 7).take 8 = intC x.O := by
    rw [hc]
    show ((intC x.B ++ intC x.O).drop 4).take 8 = _
    rw [List.drop_left' (by rw [intC_len]; exact hs.1), List.take_of_length_le (by rw [intC_len, hs.2]; omega)]
  have e0 : ((intC (inoL x)).drop 0).take 1 = [.int .i64 x.k] := by rw [hc]; rfl
  have e1 : ((intC (inoL x)).drop 1).take 1 = [.int .i64 x.l] := by rw [hc]; rfl
  have e2 : ((intC (inoL x)).drop 2).take 1 = [.int .i64 x.s] := by rw [hc]; rfl
  have k0 := int_key2 (hI x.k (by simp [inoL]))
  have k1 := int_key2 (hI x.l (by simp [inoL]))
  have k2 := int_key2 (hI x.s (by simp [inoL]))
  have k3 := key4 (L := x.B) (fun n h => hI n (by simp [inoL, h])) hs.1
  have k4 := key8 (L := x.O) (fun n h => hI n (by simp [inoL, h])) hs.2
  simp only [intC_len, inoL_len hs, Tryz.cells15, true_and]
  rw [if_pos (by kernel_rfl)]
  simp only [List.mapM_cons, List.mapM_nil, Tryz.cells1, Tryz.cells4, Tryz.cells8, e0, e1, e2, e3, e7, k0, k1, k2, k3, k4]
  simp [inoL]
theorem ino_formed {x : Gd.Ino} (hs : x.Shape) : (inoV x).formed Tryz.prog 40 = true := by
  unfold inoV Value.formed
  rw [Tryz.underlying40]
  simp [inoC_size hs, Tryz.cells15]
set_option maxRecDepth 100000 in
/-- two inodes are the same just if their numbers are -/
theorem ino_eq {x y : Gd.Ino} (hx : x.Shape) (hy : y.Shape) (hxI : AllI (inoL x)) (hyI : AllI (inoL y)) (w : World) : (Op.equal 40 (inoV x) (inoV y)).run Tryz.prog w = .ok (decide (x = y)) w := by
  obtain ⟨r, hr, hiff⟩ := run_equalIn_deep (P := Tryz.prog) 9997 3 40 Tryz.inoKey w 3 3 (inoV x) (inoV y) _ _ (ino_formed hx) (ino_formed hy) (ino_lits hx hxI) (ino_lits hy hyI)
  refine hr.trans ?_
  congr 1
  rw [Bool.eq_iff_iff, hiff, decide_eq_true_iff]
  constructor
  · intro h
    have h2 := (List.map_inj_right (fun a b e => (Lit.int.inj e).2)).1 h
    obtain ⟨k, l, s, B, O⟩ := x
    obtain ⟨k', l', s', B', O'⟩ := y
    simp only [inoL, List.cons.injEq] at h2
    obtain ⟨rfl, rfl, rfl, h3⟩ := h2
    obtain ⟨rfl, rfl⟩ := List.append_inj h3 (by rw [hx.1, hy.1])
    rfl
  · intro h
    rw [h]
theorem ino_eql {x y : Gd.Ino} (hx : x.Shape) (hy : y.Shape) (hxI : AllI (inoL x)) (hyI : AllI (inoL y)) (w : World) : (binOp .eql 40 (inoV x) (inoV y)).run Tryz.prog w = .ok (.bool (decide (x = y))) w := by
  have h := ino_eq hx hy hxI hyI w
  unfold inoV at h ⊢
  simp [binOp, h]
theorem ino_neq {x y : Gd.Ino} (hx : x.Shape) (hy : y.Shape) (hxI : AllI (inoL x)) (hyI : AllI (inoL y)) (w : World) : (binOp .neq 40 (inoV x) (inoV y)).run Tryz.prog w = .ok (.bool (!decide (x = y))) w := by
  have h := ino_eq hx hy hxI hyI w
  unfold inoV at h ⊢
  simp [binOp, h]
theorem noIno_shape : Gd.noIno.Shape := ⟨rfl, rfl⟩
theorem noIno_all : AllI (inoL Gd.noIno) := fun n h => by
  have : n = 0 := by simp [inoL, Gd.noIno] at h; exact h
  rw [this]
  rfl
/-- which may be, without a kind: none but the empty one -/
theorem mayI_none {x : Gd.Ino} (hs : x.Shape) (hk : x.k = 0) : Gd.mayI x = decide (x = Gd.noIno) := by
  rw [Bool.eq_iff_iff, decide_eq_true_iff]
  constructor
  · intro h
    exact Gd.mayI_zero hs h hk
  · intro h
    rw [h]
    rfl

theorem Tryz.noGuard : Tryz.prog.eqGuardType Tryz.prog.depth 40 = false := by kernel_rfl
theorem ino_guard (o : BinOp) (x y : Operand) (cs ds : Array Value) (w : World) : (eqGuard o 40 x y (.agg cs) (.agg ds)).run Tryz.prog w = .ok () w := by
  have hp : ∀ w : World, (Sem.program Sem.pure : Sem Program).run Tryz.prog w = .ok Tryz.prog w := fun _ => rfl
  simp only [eqGuard]
  cases o <;> simp [program, hp, Tryz.noGuard]
theorem InoAt.load {w : World} {b : Nat} {x : Gd.Ino} (h : InoAt w b x) : (Instr.loadAt 40 (.pointer (some ⟨b, 0, none⟩))).run Tryz.prog w = .ok (.agg (inoC x)) w := by
  have := run_loadAt_mid (P := Tryz.prog) w b 0 40 (intC (inoL x)) _ h.range Tryz.underlying40 rfl (by rw [intC_len, inoL_len h.shape]; exact Tryz.sizeIno)
  exact this
/-- a guarded load that is wanted -/
theorem wpList_load_guarded {P : Program} {ops : Array Oper} {rest : List Oper} {op : Oper} {a : Act} {w : World} {Q : Exit → Act → World → Prop} (i : Nat) (b : Bool) (hgd : op.guard = some (i, b)) (hw : Region.wanted op (yielded ops a.tmps) = true) (ty : TypeId) (x : Operand) (ho : op.op = .load ty x) (p v : Value) (hx : a.eval x = p)
    (hr : (Instr.loadAt ty p).run P w = .ok v w) (h : wpList P ops Q rest (a.put op.dst v) w) : wpList P ops Q (op :: rest) a w :=
  wpList_step fun K hK => by
    rw [if_pos hw]
    unfold Oper.wp execOp
    simp only [ho, hx, Sem.run_bind, Sem.run_pure, hr, Result.andThen_ok]
    exact hK _ _ h
/-- an operation on two values whose outcome is known -/
theorem wpList_bin {P : Program} {ops : Array Oper} {rest : List Oper} {op : Oper} {a : Act} {w : World} {Q : Exit → Act → World → Prop} (hgd : op.guard = none) (o : BinOp) (t ty : TypeId) (x y : Operand) (ho : op.op = .binOp o t x y ty) (u v r : Value) (hx : a.eval x = u) (hy : a.eval y = v)
    (hq : (eqGuard o t x y u v).run P w = .ok () w) (hr : (binOp o t u v).run P w = .ok r w) (h : wpList P ops Q rest (a.put op.dst r) w) : wpList P ops Q (op :: rest) a w :=
  wpList_plain hgd fun _ hK => by
    unfold Oper.wp execOp
    simp only [ho, hx, hy, Sem.run_bind, Sem.run_pure, hq, hr, Result.andThen_ok]
    exact hK _ _ h

set_option maxHeartbeats 8000000 in
set_option maxRecDepth 100000 in
theorem may_ino (x : Gd.Ino) (hx : x.Shape) (hI : AllI (inoL x)) (w : World) : Calls Tryz.prog 142 #[inoV x] w fun e w' => e = .returned (.bool (Gd.mayI x)) ∧ Below w.heap.size w w' := by
  obtain ⟨hb0, hbb⟩ := ino_box w hx
  obtain ⟨b, hbe⟩ : ∃ b, b = w.heap.size := ⟨_, rfl⟩
  obtain ⟨wb, hwb⟩ : ∃ u, u = w.alloc (.cells (inoC x) 40) := ⟨_, rfl⟩
  rw [← hwb, ← hbe] at hb0
  rw [← hwb] at hbb
  have hBI : AllI x.B := fun n h => hI n (by simp [inoL, h])
  have Hbe := Lib.hid hbe.symm
  have HBb := Lib.hid hbb
  have HWb := Lib.hid hwb
  have HI := Lib.hid hb0
  have HS := Lib.hid (inoC_size hx)
  have k0 := hb0.c0
  have k1 := hb0.c1
  have k2 := hb0.c2
  obtain ⟨k, hk⟩ : ∃ k, k = x.k := ⟨_, rfl⟩
  obtain ⟨l, hl⟩ : ∃ l, l = x.l := ⟨_, rfl⟩
  obtain ⟨s, hs⟩ : ∃ s, s = x.s := ⟨_, rfl⟩
  rw [← hk] at k0
  rw [← hl] at k1
  rw [← hs] at k2
  have HEq := Lib.hid (ino_eql hx noIno_shape hI noIno_all wb)
  have HZ : Hid (k = 0 → Gd.mayI x = decide (x = Gd.noIno)) := Lib.hid fun h => mayI_none hx (hk ▸ h)
  have HF : Hid (k = 1 → Gd.mayI x = ((((decide (0 ≤ l) && decide (l ≤ ((20 : Nat) : Int))) && (decide (0 ≤ s) && decide (s ≤ ((256 : Nat) : Int)))) && Gd.opnB 8 x.O) && Gd.blkB 1 s 0 [] x.B)) := Lib.hid fun h => by
    unfold Gd.mayI
    rw [← hk, if_neg (by omega), if_pos h, hl, hs]
    simp only [Bool.and_assoc]
    rfl
  have HD : Hid (k = 2 → Gd.mayI x = (((decide (l = 1) && (decide (0 ≤ s) && decide (s ≤ ((16 : Nat) : Int)))) && Gd.opnB 0 x.O) && Gd.blkB 2 s 0 [] x.B)) := Lib.hid fun h => by
    unfold Gd.mayI
    rw [← hk, if_neg (by omega), if_neg (by omega), if_pos h, hl, hs]
    simp only [Bool.and_assoc]
    rfl
  have HE : Hid (k ≠ 0 → k ≠ 1 → k ≠ 2 → Gd.mayI x = false) := Lib.hid fun h0 h1 h2 => by
    unfold Gd.mayI
    rw [← hk, if_neg h0, if_neg h1, if_neg h2]
  have HBl := Lib.hid (fun W => blocks_any x hx hBI W)
  have HO8 : Hid (Calls Tryz.prog 176 #[inoV x, .int .i64 8] wb fun e w' => e = .returned (.bool (Gd.opnB 8 x.O)) ∧ Below wb.heap.size wb w') := Lib.hid (opens_any x hx 8 wb)
  have HO0 : Hid (Calls Tryz.prog 176 #[inoV x, .int .i64 0] wb fun e w' => e = .returned (.bool (Gd.opnB 0 x.O)) ∧ Below wb.heap.size wb w') := Lib.hid (opens_any x hx 0 wb)
  rw [← hk, ← hs] at HBl
  obtain ⟨R, hR⟩ : ∃ R, R = Gd.mayI x := ⟨_, rfl⟩
  rw [← hR] at HZ HF HD HE ⊢
  clear hbe hbb hwb hb0 hx hI hBI hk hl hs hR
  go_enter Tryz.func142, Tryz.ntmps142
  unfold inoV at *
  go_upto_region 1 with fail
  rw [← HWb.out, Hbe.out]
  by_cases h0 : k = 0
  · subst h0
    have HX := Lib.hid (HZ.out rfl)
    have hq := HEq.out
    obtain ⟨g, hg⟩ : ∃ g, g = decide (x = Gd.noIno) := ⟨_, rfl⟩
    rw [← hg] at hq HX
    clear hg HEq HZ HF HD HE HBl HO8 HO0
    go_wp2_with (first | (refine wpList_bin rfl .eql 40 _ _ _ rfl (inoV x) (inoV Gd.noIno) (.bool g) rfl rfl (ino_guard _ _ _ _ _ _) hq ?_) | (refine wpList_load_row rfl 40 _ rfl b rfl 40 (inoC x) (0, 0) _ (by first | exact HI3.out.row | exact HI.out.row) Tryz.underlying40 rfl (by rw [HS.out]; exact Tryz.sizeIno) ?_))
    go_ret
    exact ⟨ret_bool HX.out.symm, HBb.out⟩
  have HL2 := Lib.hid HI.out.load
  by_cases h1 : k = 1
  · subst h1
    have HX := Lib.hid (HF.out rfl)
    clear HZ HF HD HE h0
    have HR := HX
    clear HX HEq
    obtain ⟨b3, hb3⟩ : ∃ g, g = Gd.opnB 8 x.O := ⟨_, rfl⟩
    obtain ⟨b4, hb4⟩ : ∃ g, g = Gd.blkB 1 s 0 [] x.B := ⟨_, rfl⟩
    have HOp := HO8
    rw [← hb3] at HOp HR
    rw [← hb4] at HBl HR
    clear hb3 hb4 HO8 HO0
    have HN1 : Hid (Calls Tryz.prog 175 #[.int .i64 l, .int .i64 20] wb fun e w' => e = .returned (.bool (decide (0 ≤ l) && decide (l ≤ ((20 : Nat) : Int)))) ∧ w' = wb) := Lib.hid (inoin_any l 20 wb)
    have HN2 : Hid (Calls Tryz.prog 175 #[.int .i64 s, .int .i64 256] wb fun e w' => e = .returned (.bool (decide (0 ≤ s) && decide (s ≤ ((256 : Nat) : Int)))) ∧ w' = wb) := Lib.hid (inoin_any s 256 wb)
    obtain ⟨b1, hb1⟩ : ∃ g, g = (decide (0 ≤ l) && decide (l ≤ ((20 : Nat) : Int))) := ⟨_, rfl⟩
    obtain ⟨b2, hb2⟩ : ∃ g, g = (decide (0 ≤ s) && decide (s ≤ ((256 : Nat) : Int))) := ⟨_, rfl⟩
    rw [← hb1] at HN1 HR
    rw [← hb2] at HN2 HR
    clear hb1 hb2
    cases b1 with
    | false =>
      go_wp2_with (first | (go_at_call 175; with_reducible refine HN1.out.mono ?_; rintro e w2 ⟨rfl, rfl⟩))
      go_ret
      exact ⟨ret_bool (by rw [HR.out]; rfl), HBb.out⟩
    | true =>
      cases b2 with
      | false =>
        go_wp2_with (first | (go_at_call 175; with_reducible refine HN1.out.mono ?_; rintro e w2 ⟨rfl, rfl⟩) | (go_at_call 175; with_reducible refine HN2.out.mono ?_; rintro e w2 ⟨rfl, rfl⟩))
        go_ret
        exact ⟨ret_bool (by rw [HR.out]; rfl), HBb.out⟩
      | true =>
        cases b3 with
        | false =>
          go_wp2_with (first | (refine wpList_load_guarded _ _ rfl (by rfl) 40 _ rfl (.pointer (some ⟨b, 0, none⟩)) (.agg (inoC x)) rfl (by first | exact HL3.out | exact HL2.out) ?_) | (go_at_call 175; with_reducible refine HN1.out.mono ?_; rintro e w2 ⟨rfl, rfl⟩) | (go_at_call 175; with_reducible refine HN2.out.mono ?_; rintro e w2 ⟨rfl, rfl⟩) | (go_at_call 176; with_reducible refine HOp.out.mono ?_; rintro e w3 ⟨rfl, hb3⟩; have HB3 := Lib.hid (HBb.out.trans (hb3.mono HBb.out.size)); have HL3 := Lib.hid (HI.out.keep hb3).load; clear hb3))
          go_ret
          exact ⟨ret_bool (by rw [HR.out]; rfl), HB3.out⟩
        | true =>
          go_wp2_with (first | (refine wpList_load_guarded _ _ rfl (by rfl) 40 _ rfl (.pointer (some ⟨b, 0, none⟩)) (.agg (inoC x)) rfl (by first | exact HL3.out | exact HL2.out) ?_) | (go_at_call 175; with_reducible refine HN1.out.mono ?_; rintro e w2 ⟨rfl, rfl⟩) | (go_at_call 175; with_reducible refine HN2.out.mono ?_; rintro e w2 ⟨rfl, rfl⟩) | (go_at_call 176; with_reducible refine HOp.out.mono ?_; rintro e w3 ⟨rfl, hb3⟩; have HB3 := Lib.hid (HBb.out.trans (hb3.mono HBb.out.size)); have HL3 := Lib.hid (HI.out.keep hb3).load; clear hb3) | (go_at_call 177; with_reducible refine (HBl.out w3).mono ?_; rintro e w4 ⟨rfl, hb4⟩; have HB4 := Lib.hid (HB3.out.trans (hb4.mono HB3.out.size)); clear hb4))
          go_ret
          exact ⟨ret_bool (by rw [HR.out]; rfl), HB4.out⟩

  by_cases h2 : k = 2
  · subst h2
    have HX := Lib.hid (HD.out rfl)
    clear HZ HF HD HE h0 h1
    have HR := HX
    clear HX HEq
    obtain ⟨b3, hb3⟩ : ∃ g, g = Gd.opnB 0 x.O := ⟨_, rfl⟩
    obtain ⟨b4, hb4⟩ : ∃ g, g = Gd.blkB 2 s 0 [] x.B := ⟨_, rfl⟩
    have HOp := HO0
    rw [← hb3] at HOp HR
    rw [← hb4] at HBl HR
    clear hb3 hb4 HO8 HO0
    have HN2 : Hid (Calls Tryz.prog 175 #[.int .i64 s, .int .i64 16] wb fun e w' => e = .returned (.bool (decide (0 ≤ s) && decide (s ≤ ((16 : Nat) : Int)))) ∧ w' = wb) := Lib.hid (inoin_any s 16 wb)
    obtain ⟨b2, hb2⟩ : ∃ g, g = (decide (0 ≤ s) && decide (s ≤ ((16 : Nat) : Int))) := ⟨_, rfl⟩
    rw [← hb2] at HN2 HR
    clear hb2
    by_cases hl1 : l = 1
    · subst hl1
      cases b2 with
      | false =>
        go_wp2_with (first | (go_at_call 175; with_reducible refine HN2.out.mono ?_; rintro e w2 ⟨rfl, rfl⟩))
        go_ret
        exact ⟨ret_bool (by rw [HR.out]; rfl), HBb.out⟩
      | true =>
        cases b3 with
        | false =>
          go_wp2_with (first | (refine wpList_load_guarded _ _ rfl (by rfl) 40 _ rfl (.pointer (some ⟨b, 0, none⟩)) (.agg (inoC x)) rfl (by first | exact HL3.out | exact HL2.out) ?_) | (go_at_call 175; with_reducible refine HN2.out.mono ?_; rintro e w2 ⟨rfl, rfl⟩) | (go_at_call 176; with_reducible refine HOp.out.mono ?_; rintro e w3 ⟨rfl, hb3⟩; have HB3 := Lib.hid (HBb.out.trans (hb3.mono HBb.out.size)); have HL3 := Lib.hid (HI.out.keep hb3).load; clear hb3))
          go_ret
          exact ⟨ret_bool (by rw [HR.out]; rfl), HB3.out⟩
        | true =>
          go_wp2_with (first | (refine wpList_load_guarded _ _ rfl (by rfl) 40 _ rfl (.pointer (some ⟨b, 0, none⟩)) (.agg (inoC x)) rfl (by first | exact HL3.out | exact HL2.out) ?_) | (go_at_call 175; with_reducible refine HN2.out.mono ?_; rintro e w2 ⟨rfl, rfl⟩) | (go_at_call 176; with_reducible refine HOp.out.mono ?_; rintro e w3 ⟨rfl, hb3⟩; have HB3 := Lib.hid (HBb.out.trans (hb3.mono HBb.out.size)); have HL3 := Lib.hid (HI.out.keep hb3).load; clear hb3) | (go_at_call 177; with_reducible refine (HBl.out w3).mono ?_; rintro e w4 ⟨rfl, hb4⟩; have HB4 := Lib.hid (HB3.out.trans (hb4.mono HB3.out.size)); clear hb4))
          go_ret
          exact ⟨ret_bool (by rw [HR.out]; rfl), HB4.out⟩
    · have HR0 : Hid (R = false) := Lib.hid (by rw [HR.out, decide_eq_false hl1]; rfl)
      clear HR
      go_wp2_with (first | fail)
      go_ret
      exact ⟨ret_bool HR0.out.symm, HBb.out⟩

  have HX := Lib.hid (HE.out h0 h1 h2)
  clear HZ HF HD HE HEq HBl HO8 HO0
  go_wp2
  go_ret
  exact ⟨ret_bool HX.out.symm, HBb.out⟩

end Go.Proofs.YtccpdkjonepoiaaGreatDoor

/- Walks: an inode as bytes. -/
namespace Go.Proofs.YtccpdkjonepoiaaGreatDoor
open Go.RowKit

attribute [local go_sem] Oper.semAt_some

set_option maxRecDepth 100000 in
theorem made_bytes (n : Nat) (hn : n ≤ 100000) (W : World) : (Instr.makeSlice 22 (.int .i64 n) (.int .i64 n)).run Tryz.prog W = .ok (.slice (some ⟨W.heap.size, 0, none⟩) n n) (W.alloc (.cells (cellsB (List.replicate n 0)) 5)) := by
  obtain ⟨i0, hi, hz0, hz1, hz2⟩ := info_parts Tryz.infoU8
  have := run_makeSlice (P := Tryz.prog) (w := W) 22 5 i0 _ Tryz.underlying22 hi hz0 .i64 .i64 n n (by omega) (by omega) (by rw [hz1, Int.toNat_natCast]; omega) (by rw [hz2]; omega) (by omega)
  rw [hz1, Int.toNat_natCast, Nat.mul_one] at this
  rw [this]
  congr 3
  unfold madeCells cellsB Lib.byteCells
  apply Array.ext
  · simp
  · intro i h1 h2
    simp only [Array.getElem_map, Array.getElem_range, List.getElem_toArray, List.getElem_map, List.getElem_replicate]
    have hc : (Value.int .u8 0).cells = #[.int .u8 0] := rfl
    rw [hc, getElem!_pos _ _ (by simp; omega)]
    simp
theorem own_made (W : World) (n : Nat) (hn : n ≤ 100000) (B : Nat) (hB : B ≤ W.heap.size) : OwnB (W.alloc (.cells (cellsB (List.replicate n 0)) 5)) B (.slice (some ⟨W.heap.size, 0, none⟩) n n) (List.replicate n 0) := by
  refine ⟨by rw [byteCells_len, Nat.mul_one], Or.inr ⟨W.heap.size, n, cellsB (List.replicate n 0), by rw [List.length_replicate], hB, heap_alloc_new _ _, by rw [List.length_replicate]; exact Nat.le_refl _, by unfold maxLen; omega, ?_, ?_⟩⟩
  · unfold cellsB
    rw [List.size_toArray, byteCells_len, List.length_replicate, Nat.mul_one]
  · rw [List.length_replicate, Nat.mul_one]
    unfold cellsB
    exact List.take_of_length_le (by rw [byteCells_len, List.length_replicate]; exact Nat.le_refl _)
theorem le_one (n : Int) : Gd.le n.toNat 1 = [Gd.byteOf n] := rfl
theorem bytes_take {L : List Int} {i : Nat} {n : Int} (h : L[i]? = some n) : (L.take (i + 1)).map Gd.byteOf = (L.take i).map Gd.byteOf ++ [Gd.byteOf n] := by
  rw [List.take_add_one, h]
  simp

/-- an inode that may not be: an error -/
def Bad1 (w : World) (e : Ending) (w' : World) : Prop := e = .returned (.tuple #[.slice none 0 0, .int .i64 1]) ∧ Below w.heap.size w w'

set_option maxHeartbeats 8000000 in
set_option maxRecDepth 100000 in
theorem puti_bad (x : Gd.Ino) (hx : x.Shape) (hI : AllI (inoL x)) (hm : Gd.mayI x = false) (w : World) : Calls Tryz.prog 105 #[inoV x] w (Bad1 w) := by
  obtain ⟨hb0, hbb⟩ := ino_box w hx
  obtain ⟨b, hbe⟩ : ∃ b, b = w.heap.size := ⟨_, rfl⟩
  obtain ⟨wb, hwb⟩ : ∃ u, u = w.alloc (.cells (inoC x) 40) := ⟨_, rfl⟩
  rw [← hwb, ← hbe] at hb0
  rw [← hwb] at hbb
  have Hbe := Lib.hid hbe.symm
  have HBb := Lib.hid hbb
  have HWb := Lib.hid hwb
  have HI := Lib.hid hb0
  have HS := Lib.hid (inoC_size hx)
  have HSh := Lib.hid hx
  have HMay := Lib.hid (may_ino x hx hI wb)
  clear hbe hbb hwb hb0 hx hI
  rw [hm] at HMay
  clear hm
  go_enter Tryz.func105, Tryz.ntmps105
  unfold inoV at *
  go_upto_region 1 with fail
  rw [← HWb.out, Hbe.out]
  go_wp2_with (first | (refine wpList_load_row rfl 40 _ rfl b rfl 40 (inoC x) (0, 0) _ HI.out.row Tryz.underlying40 rfl (by rw [HS.out]; exact Tryz.sizeIno) ?_) | (go_at_call 142; refine HMay.out.mono ?_; rintro e w1 ⟨rfl, hb1⟩))
  go_ret2
  exact ⟨rfl, HBb.out.trans (hb1.mono HBb.out.size)⟩

set_option maxHeartbeats 8000000 in
set_option maxRecDepth 100000 in
theorem puti_any (x : Gd.Ino) (hx : x.Shape) (hI : AllI (inoL x)) (hm : Gd.mayI x = true) (w : World) : Calls Tryz.prog 105 #[inoV x] w (Loads w (Gd.inoB x)) := by
  obtain ⟨hb0, hbb⟩ := ino_box w hx
  obtain ⟨b, hbe⟩ : ∃ b, b = w.heap.size := ⟨_, rfl⟩
  obtain ⟨wb, hwb⟩ : ∃ u, u = w.alloc (.cells (inoC x) 40) := ⟨_, rfl⟩
  rw [← hwb, ← hbe] at hb0
  rw [← hwb] at hbb
  have Hbe := Lib.hid hbe.symm
  have HBb := Lib.hid hbb
  have HWb := Lib.hid hwb
  have HI := Lib.hid hb0
  have HS := Lib.hid (inoC_size hx)
  have HSh := Lib.hid hx
  have HMay := Lib.hid (may_ino x hx hI wb)
  clear hbe hbb hwb hb0 hx hI
  rw [hm] at HMay
  have hin := Gd.mayI_in hm
  obtain ⟨⟨ik1, ik2⟩, ⟨il1, il2⟩, ⟨is1, is2⟩, iB, iO⟩ := hin
  obtain ⟨kn, hk⟩ : ∃ n : Nat, x.k = n := ⟨x.k.toNat, by omega⟩
  obtain ⟨ln, hl⟩ : ∃ n : Nat, x.l = n := ⟨x.l.toNat, by omega⟩
  obtain ⟨sn, hs⟩ : ∃ n : Nat, x.s = n := ⟨x.s.toNat, by omega⟩
  have Hk := Lib.hid (And.intro hk (And.intro hl hs))
  have HIn := Lib.hid (And.intro iB iO)
  have hk2 : kn ≤ 2 := by omega
  have hl20 : ln ≤ 20 := by omega
  have hs256 : sn ≤ 256 := by omega
  have HL4 : Hid ((intC x.B).length = 4) := Lib.hid (by rw [intC_len]; exact HSh.out.1)
  have HL8 : Hid ((intC x.O).length = 8) := Lib.hid (by rw [intC_len]; exact HSh.out.2)
  clear hk hl hs iB iO ik1 ik2 il1 il2 is1 is2 hm
  go_enter Tryz.func105, Tryz.ntmps105
  unfold inoV at *
  go_upto_region 1 with fail
  rw [← HWb.out, Hbe.out]
  go_upto_region 3 with (first | (refine wpList_load_row rfl 40 _ rfl b rfl 40 (inoC x) (0, 0) _ HI.out.row Tryz.underlying40 rfl (by rw [HS.out]; exact Tryz.sizeIno) ?_) | (go_at_call 142; refine HMay.out.mono ?_; rintro e w1 ⟨rfl, hb1⟩))
  have HB1 := Lib.hid (HBb.out.trans (hb1.mono HBb.out.size))
  have HI1 := Lib.hid (HI.out.keep hb1)
  clear hb1 HMay
  have c0 := HI1.out.c0
  rw [Hk.out.1] at c0
  by_cases hz : kn = 0
  · subst hz
    have hmk : (Instr.makeSlice 22 (.int .i64 64) (.int .i64 64)).run Tryz.prog w1 = .ok (.slice (some ⟨w1.heap.size, 0, none⟩) 64 64) (w1.alloc (.cells (cellsB (List.replicate 64 0)) 5)) := made_bytes 64 (by omega) w1
    have HMk := Lib.hid (own_made w1 64 (by omega) w.heap.size HB1.out.size)
    have HBm := Lib.hid ((Below.refl w1.heap.size w1).alloc (Nat.le_refl _) (.cells (cellsB (List.replicate 64 0)) 5))
    have HE : Hid (Gd.inoB x = List.replicate 64 0) := Lib.hid (by unfold Gd.inoB; rw [if_pos (by rw [Hk.out.1]; rfl)])
    obtain ⟨wm, hwm⟩ : ∃ u, u = w1.alloc (.cells (cellsB (List.replicate 64 0)) 5) := ⟨_, rfl⟩
    rw [← hwm] at hmk HMk HBm
    clear hwm
    go_wp2
    go_ret2
    refine ⟨_, rfl, ?_, HB1.out.trans (HBm.out.mono HB1.out.size)⟩
    rw [HE.out]
    exact HMk.out
  have hz1 : ¬ (kn : Int) = 0 := by omega
  have HE : Hid (Gd.inoB x = Gd.sealB (Gd.inoBody x)) := Lib.hid (by unfold Gd.inoB; rw [if_neg (by rw [Hk.out.1]; omega)])
  clear hz
  -- kind
  have HP1 := Lib.hid (putn_any (.slice none 0 0) [] kn 1 (Or.inl rfl) (by omega) (by omega) w1 (OwnB.at_ (B := 0) (World.ownsRow_nil _ _ _ _)) (by simp))
  go_wp2_with fail
  refine HP1.out.mono ?_
  rintro e w2 ⟨v2, rfl, ho2, hb2⟩
  rw [List.nil_append] at ho2
  have HO2 := Lib.hid (ho2.mono HB1.out.size)
  have HB2 := Lib.hid (HB1.out.trans (hb2.mono HB1.out.size))
  have HI2 := Lib.hid (HI1.out.keep hb2)
  clear ho2 hb2 HP1 c0
  have c1 := HI2.out.c1
  rw [Hk.out.2.1] at c1
  have HP2 := Lib.hid (putn_any v2 _ ln 1 (Or.inl rfl) (by omega) (by omega) w2 HO2.out.at_ (by rw [Gd.le_length]; omega))
  go_wp2_with fail
  refine HP2.out.mono ?_
  rintro e w3 ⟨v3, rfl, ho3, hb3⟩
  have HO3 := Lib.hid (ho3.mono HB2.out.size)
  have HB3 := Lib.hid (HB2.out.trans (hb3.mono HB2.out.size))
  have HI3 := Lib.hid (HI2.out.keep hb3)
  clear ho3 hb3 HP2 c1 HO2
  have c2 := HI3.out.c2
  rw [Hk.out.2.2] at c2
  have HP3 := Lib.hid (putn_any v3 _ sn 2 (Or.inr (Or.inl rfl)) (by omega) (by omega) w3 HO3.out.at_ (by rw [List.length_append, Gd.le_length, Gd.le_length]; omega))
  go_wp2_with fail
  refine HP3.out.mono ?_
  rintro e w4 ⟨v4, rfl, ho4, hb4⟩
  have HO4 := Lib.hid (ho4.mono HB3.out.size)
  have HB4 := Lib.hid (HB3.out.trans (hb4.mono HB3.out.size))
  have HI4 := Lib.hid (HI3.out.keep hb4)
  clear ho4 hb4 HP3 c2 HO3
  obtain ⟨L0, hL0⟩ : ∃ L0, L0 = Gd.le kn 1 ++ Gd.le ln 1 ++ Gd.le sn 2 := ⟨_, rfl⟩
  rw [← hL0] at HO4
  have HL0 : Hid (L0.length = 4) := Lib.hid (by rw [hL0]; simp [Gd.le_length])
  have HLb : Hid (Gd.inoBody x = L0 ++ x.B.map Gd.byteOf ++ x.O.map Gd.byteOf ++ List.replicate 44 0) := Lib.hid (by
    unfold Gd.inoBody
    rw [hL0, Hk.out.1, Hk.out.2.1, Hk.out.2.2]
    rfl)
  clear hL0 hk2 hl20 hs256
  -- loop over B
  go_upto_region 9 with (refine wpList_load_mid rfl 37 _ rfl b 3 rfl (intC x.B) _ HI4.out.blocks Tryz.underlying37 rfl (by rw [HL4.out]; exact Tryz.size4) ?_)
  go_loopw [4, 29] (fun u z wr => ∃ i : Nat, z = .int .i64 i ∧ i ≤ 4 ∧ Hid (OwnB wr w.heap.size u (L0 ++ (x.B.take i).map Gd.byteOf)) ∧ Hid (Below w.heap.size w wr ∧ Below w4.heap.size w4 wr)) (fun _ z _ => 4 - (intOf z).toNat)
  case atStart => exact ⟨0, rfl, by omega, Lib.hid (by have := HO4.out; rw [List.take_zero, List.map_nil, List.append_nil]; exact this), Lib.hid ⟨HB4.out, Below.refl _ _⟩⟩
  case round =>
    obtain ⟨i, rfl, hi, HO, HB⟩ := hrel
    by_cases hlt : i < 4
    · obtain ⟨n, hn⟩ : ∃ n, x.B[i]? = some n := ⟨_, List.getElem?_eq_getElem (by have := HSh.out; have := this.1; omega)⟩
      have hc := run_index_one 37 3 4 (intC x.B).toArray .i64 .i64 i _ wr Tryz.underlying37 Tryz.underlying3 Tryz.infoInts hlt (by rw [List.getElem?_toArray]; exact intC_get hn)
      have h1 : (i : Int) < 4 := by omega
      have h0 : (0 : Int) ≤ i := by omega
      have hrng := HIn.out.1 n (List.mem_of_getElem? hn)
      have HT := Lib.hid (bytes_take hn)
      obtain ⟨m, rfl⟩ : ∃ m : Nat, n = m := ⟨n.toNat, by omega⟩
      have HLn : Hid ((L0 ++ (x.B.take i).map Gd.byteOf).length ≤ 100) := Lib.hid (by
        have h1 := HL0.out
        have h2 := HSh.out.1
        have h3 := HSh.out.2
        simp only [List.length_append, List.length_map, List.length_take]
        omega)
      have HPt := Lib.hid (putn_any u4 _ m 1 (Or.inl rfl) (by omega) (by omega) wr HO.out.at_ (by have := HLn.out; omega))
      clear hn hlt hrng
      go_wp2_with fail
      refine HPt.out.mono ?_
      rintro e w5 ⟨v5, rfl, ho5, hb5⟩
      have HO5 : Hid (OwnB w5 w.heap.size v5 (L0 ++ (x.B.take (i + 1)).map Gd.byteOf)) := Lib.hid (by
        rw [HT.out, ← List.append_assoc]
        exact ho5.mono HB.out.1.size)
      have HB5 : Hid (Below w.heap.size w w5 ∧ Below w4.heap.size w4 w5) := Lib.hid ⟨HB.out.1.trans (hb5.mono HB.out.1.size), HB.out.2.trans (hb5.mono HB.out.2.size)⟩
      clear ho5 hb5 HPt
      go_wp2
      go_roundw
      case rel => exact ⟨i + 1, by go_num, by omega, HO5, HB5⟩
      case measure => simp [intOf]; omega
    · obtain rfl : i = 4 := by omega
      clear hlt
      have HOa : Hid (OwnB wr w.heap.size u4 (L0 ++ x.B.map Gd.byteOf)) := Lib.hid (by
        have := HO.out
        rw [List.take_of_length_le (by have := HSh.out.1; omega)] at this
        exact this)
      obtain ⟨w6, rfl⟩ : ∃ v, v = wr := ⟨_, rfl⟩
      have HI6 := Lib.hid (HI4.out.keep HB.out.2)
      have HB6 := Lib.hid HB.out.1
      have HO6 := HOa
      obtain ⟨v6, rfl⟩ : ∃ v, v = u4 := ⟨_, rfl⟩
      clear HO HB HOa
      -- loop over O
      go_upto_region 14 with (refine wpList_load_mid rfl 38 _ rfl b 7 rfl (intC x.O) _ HI6.out.opens Tryz.underlying38 rfl (by rw [HL8.out]; exact Tryz.size8) ?_)
      go_loopw [4, 38] (fun u z wr => ∃ i : Nat, z = .int .i64 i ∧ i ≤ 8 ∧ Hid (OwnB wr w.heap.size u ((L0 ++ x.B.map Gd.byteOf) ++ (x.O.take i).map Gd.byteOf)) ∧ Hid (Below w.heap.size w wr ∧ Below w6.heap.size w6 wr)) (fun _ z _ => 8 - (intOf z).toNat)
      case atStart => exact ⟨0, rfl, by omega, Lib.hid (by have := HO6.out; rw [List.take_zero, List.map_nil, List.append_nil]; exact this), Lib.hid ⟨HB6.out, Below.refl _ _⟩⟩
      case round =>
        obtain ⟨i, rfl, hi, HO, HB⟩ := hrel
        by_cases hlt : i < 8
        · obtain ⟨n, hn⟩ : ∃ n, x.O[i]? = some n := ⟨_, List.getElem?_eq_getElem (by have := HSh.out; have := this.2; omega)⟩
          have hc := run_index_one 38 3 8 (intC x.O).toArray .i64 .i64 i _ wr Tryz.underlying38 Tryz.underlying3 Tryz.infoInts hlt (by rw [List.getElem?_toArray]; exact intC_get hn)
          have h1 : (i : Int) < 8 := by omega
          have h0 : (0 : Int) ≤ i := by omega
          have hrng := HIn.out.2 n (List.mem_of_getElem? hn)
          have HT := Lib.hid (bytes_take hn)
          obtain ⟨m, rfl⟩ : ∃ m : Nat, n = m := ⟨n.toNat, by omega⟩
          have HLn : Hid (((L0 ++ x.B.map Gd.byteOf) ++ (x.O.take i).map Gd.byteOf).length ≤ 100) := Lib.hid (by
            have h1 := HL0.out
            have h2 := HSh.out.1
            have h3 := HSh.out.2
            simp only [List.length_append, List.length_map, List.length_take]
            omega)
          have HPt := Lib.hid (putn_any u4 _ m 1 (Or.inl rfl) (by omega) (by omega) wr HO.out.at_ (by have := HLn.out; omega))
          clear hn hlt hrng
          go_wp2_with fail
          refine HPt.out.mono ?_
          rintro e w5 ⟨v5, rfl, ho5, hb5⟩
          have HO5 : Hid (OwnB w5 w.heap.size v5 ((L0 ++ x.B.map Gd.byteOf) ++ (x.O.take (i + 1)).map Gd.byteOf)) := Lib.hid (by
            rw [HT.out, ← List.append_assoc]
            exact ho5.mono HB.out.1.size)
          have HB5 : Hid (Below w.heap.size w w5 ∧ Below w6.heap.size w6 w5) := Lib.hid ⟨HB.out.1.trans (hb5.mono HB.out.1.size), HB.out.2.trans (hb5.mono HB.out.2.size)⟩
          clear ho5 hb5 HPt
          go_wp2
          go_roundw
          case rel => exact ⟨i + 1, by go_num, by omega, HO5, HB5⟩
          case measure => simp [intOf]; omega
        · obtain rfl : i = 8 := by omega
          clear hlt
          have HOa : Hid (OwnB wr w.heap.size u4 (L0 ++ x.B.map Gd.byteOf ++ x.O.map Gd.byteOf)) := Lib.hid (by
            have := HO.out
            rw [List.take_of_length_le (by have := HSh.out.2; omega)] at this
            exact this)
          have HBa := Lib.hid HB.out.1
          clear HO HB
          obtain ⟨L1, hL1⟩ : ∃ L1, L1 = L0 ++ x.B.map Gd.byteOf ++ x.O.map Gd.byteOf := ⟨_, rfl⟩
          rw [← hL1] at HOa HLb
          have HL1 : Hid (L1.length = 16) := Lib.hid (by
            rw [hL1]
            have h1 := HL0.out
            have h2 := HSh.out.1
            have h3 := HSh.out.2
            simp only [List.length_append, List.length_map]
            omega)
          clear hL1
          obtain ⟨A4, c4, hv4, -⟩ := HOa.out.at_
          rw [HL1.out] at hv4
          subst hv4
          go_upto_region 18 with fail
          go_wp2_with (at_builtin; refine app_zeros rfl _ _ rfl w.heap.size (.slice A4 16 c4) L1 wr rfl HOa.out 44 _ rfl (by rfl) (by have := HL1.out; omega) HBa.out.size ?_; intro v7 w7 ho7 hb7)
          rw [← HLb.out] at ho7
          have HO7 := Lib.hid ho7
          have HB7 := Lib.hid (HBa.out.trans hb7)
          obtain ⟨X, hX⟩ : ∃ X, X = Gd.inoBody x := ⟨_, rfl⟩
          have HXl : Hid (X.length = 60) := Lib.hid (by rw [hX]; exact Gd.inoBody_length HSh.out)
          rw [← hX] at HO7 HE
          have HCr := Lib.hid (crc_any v7 X w7 HO7.out.at_ (by have := HXl.out; omega))
          have hcl := Gd.crc_lt X
          have HSl : Hid (Gd.sealB X = X ++ Gd.le (Gd.crc X) 4) := Lib.hid rfl
          obtain ⟨cc, hcc⟩ : ∃ cc, cc = Gd.crc X := ⟨_, rfl⟩
          rw [← hcc] at HCr HSl hcl
          have hc2 : (cc : Int) < 4294967296 := by omega
          clear hX hcc ho7 hb7 HOa HLb
          go_wp2_with fail
          refine HCr.out.mono ?_
          rintro e w8 ⟨rfl, hb8⟩
          have HB8 := Lib.hid (HB7.out.trans (hb8.mono HB7.out.size))
          have HO8 := Lib.hid (HO7.out.keep hb8)
          have HP8 := Lib.hid (putn_any v7 X cc 4 (Or.inr (Or.inr (Or.inl rfl))) (by omega) (by omega) w8 HO8.out.at_ (by have := HXl.out; omega))
          clear hb8 HCr HO7
          go_wp2_with fail
          refine HP8.out.mono ?_
          rintro e w9 ⟨v9, rfl, ho9, hb9⟩
          have HO9 := Lib.hid (ho9.mono HB8.out.size)
          have HB9 := Lib.hid (HB8.out.trans (hb9.mono HB8.out.size))
          clear ho9 hb9 HP8
          go_wp2
          go_ret2
          refine ⟨v9, rfl, ?_, HB9.out⟩
          rw [HE.out, HSl.out]
          exact HO9.out

end Go.Proofs.YtccpdkjonepoiaaGreatDoor
