/- Walks: bytes that are compared; an inode's bytes, piece by piece. -/
import Derived.Test.YtccpdkjonepoiaaGreatDoorW09
import Derived.Lib.SlBytesConst
set_option linter.unusedVariables false
set_option linter.unusedSimpArgs false
set_option linter.unusedSectionVars false
namespace Go.Proofs.YtccpdkjonepoiaaGreatDoor
open Go.RowKit

attribute [local go_sem] Oper.semAt_some

theorem ba_eq_list (L M : List UInt8) : (((⟨L.toArray⟩ : ByteArray).toList == (⟨M.toArray⟩ : ByteArray).toList) : Bool) = decide (L = M) := by
  rw [Bool.eq_iff_iff, decide_eq_true_iff, beq_iff_eq]
  constructor
  · intro h
    have h1 := Lib.toList_data (⟨L.toArray⟩ : ByteArray)
    have h2 := Lib.toList_data (⟨M.toArray⟩ : ByteArray)
    rw [h1, h2] at h
    simpa using h
  · intro h
    rw [h]

set_option maxHeartbeats 4000000 in
set_option maxRecDepth 100000 in
theorem bequal_any (u v : Value) (L M : List UInt8) (w : World) (hu : BytesAt w u L) (hv : BytesAt w v M) : Calls Tryz.prog 102 #[u, v] w fun e w' => e = .returned (.bool (decide (L = M))) ∧ w' = w := by
  have h1 := conv_any u L w hu
  have h2 := conv_any v M w hv
  have HE := Lib.hid (ba_eq_list L M)
  obtain ⟨a, ha⟩ : ∃ a : ByteArray, a = ⟨L.toArray⟩ := ⟨_, rfl⟩
  obtain ⟨b, hb⟩ : ∃ b : ByteArray, b = ⟨M.toArray⟩ := ⟨_, rfl⟩
  rw [← ha] at h1 HE
  rw [← hb] at h2 HE
  obtain ⟨A, c, rfl, -⟩ := hu
  obtain ⟨A', c', rfl, -⟩ := hv
  clear ha hb
  go_enter Tryz.func102, Tryz.ntmps102
  go_wp2
  go_ret
  exact ⟨ret_bool HE.out, rfl⟩

namespace Gd
theorem byteOf_nat {n : Int} (h0 : 0 ≤ n) (h1 : n < 256) : ((byteOf n).toNat : Int) = n := by
  unfold byteOf
  rw [UInt8.toNat_ofNat']
  omega
/-- an inode's bytes, read piece by piece -/
structure InoBytes (x : Ino) (L : List UInt8) : Prop where
  len : L.length = 64
  k : ∃ b : UInt8, L[0]? = some b ∧ (b.toNat : Int) = x.k
  l : ∃ b : UInt8, L[1]? = some b ∧ (b.toNat : Int) = x.l
  s : getN L 2 2 = x.s.toNat
  B : ∀ j n, x.B[j]? = some n → ∃ b : UInt8, L[4 + j]? = some b ∧ (b.toNat : Int) = n
  O : ∀ j n, x.O[j]? = some n → ∃ b : UInt8, L[8 + j]? = some b ∧ (b.toNat : Int) = n
  sum : getN L 60 4 = crc (L.take 60)
  ne : L ≠ List.replicate 64 0
theorem ino_bytes {x : Ino} (hs : x.Shape) (hm : mayI x = true) (hk : x.k ≠ 0) : InoBytes x (inoB x) := by
  have hin := mayI_in hm
  have hbl := inoBody_length hs
  have hB := hs.1
  have hO := hs.2
  have e : inoB x = inoBody x ++ le (crc (inoBody x)) 4 := by
    unfold inoB
    rw [if_neg hk]
    rfl
  have e2 : inoBody x = byteOf x.k :: byteOf x.l :: (le x.s.toNat 2 ++ (x.B.map byteOf ++ (x.O.map byteOf ++ List.replicate 44 0))) := by
    unfold inoBody
    rw [le_one, le_one]
    simp only [List.append_assoc, List.cons_append, List.nil_append]
  have ek : ((byteOf x.k).toNat : Int) = x.k := byteOf_nat hin.k.1 (by have := hin.k.2; omega)
  have el : ((byteOf x.l).toNat : Int) = x.l := byteOf_nat hin.l.1 (by have := hin.l.2; omega)
  have h0 : (inoB x)[0]? = some (byteOf x.k) := by rw [e, e2]; rfl
  refine ⟨inoB_length hs, ⟨_, h0, ek⟩, ⟨_, by rw [e, e2]; rfl, el⟩, ?_, ?_, ?_, ?_, ?_⟩
  · have h : inoB x = [byteOf x.k, byteOf x.l] ++ (le x.s.toNat 2 ++ ((x.B.map byteOf ++ (x.O.map byteOf ++ List.replicate 44 0)) ++ le (crc (inoBody x)) 4)) := by
      rw [e, e2]
      simp only [List.append_assoc, List.cons_append, List.nil_append]
    rw [h]
    exact getN_mid [byteOf x.k, byteOf x.l] _ x.s.toNat 2 (by have := hin.s; omega)
  · intro j n hj
    have hjl := (List.getElem?_eq_some_iff.1 hj).1
    have hn := hin.B n (List.mem_of_getElem? hj)
    refine ⟨byteOf n, ?_, byteOf_nat hn.1 (by omega)⟩
    rw [e, e2, show 4 + j = (2 + j) + 1 + 1 by omega, List.getElem?_append_left (by simp [le_length]; omega), List.getElem?_cons_succ, List.getElem?_cons_succ, List.getElem?_append_right (by rw [le_length]; omega), le_length, show 2 + j - 2 = j by omega, List.getElem?_append_left (by rw [List.length_map]; exact hjl), List.getElem?_map, hj]
    rfl
  · intro j n hj
    have hjl := (List.getElem?_eq_some_iff.1 hj).1
    have hn := hin.O n (List.mem_of_getElem? hj)
    refine ⟨byteOf n, ?_, byteOf_nat hn.1 (by omega)⟩
    rw [e, e2, show 8 + j = (6 + j) + 1 + 1 by omega, List.getElem?_append_left (by simp [le_length]; omega), List.getElem?_cons_succ, List.getElem?_cons_succ, List.getElem?_append_right (by rw [le_length]; omega), le_length, show 6 + j - 2 = 4 + j by omega, List.getElem?_append_right (by rw [List.length_map]; omega), List.length_map, hB, show 4 + j - 4 = j by omega, List.getElem?_append_left (by rw [List.length_map]; exact hjl), List.getElem?_map, hj]
    rfl
  · have ht : (inoB x).take 60 = inoBody x := by rw [e, List.take_left' hbl]
    rw [ht, e]
    have := getN_mid (inoBody x) [] (crc (inoBody x)) 4 (by have := crc_lt (inoBody x); omega)
    rw [List.append_nil, hbl] at this
    exact this
  · intro h
    rw [h, List.getElem?_replicate] at h0
    simp at h0
    rw [← h0] at ek
    exact hk ek.symm
end Gd
theorem ino_all {x : Gd.Ino} (hm : Gd.mayI x = true) : AllI (inoL x) := by
  have h := Gd.mayI_in hm
  intro n hn
  have hI : -9223372036854775808 ≤ n ∧ n ≤ 9223372036854775807 := by
    simp only [inoL, List.mem_cons, List.mem_append] at hn
    have hk := h.k
    have hl := h.l
    have hs := h.s
    rcases hn with rfl | rfl | rfl | hn | hn
    · omega
    · omega
    · omega
    · have := h.B n hn; omega
    · have := h.O n hn; omega
  unfold I64
  simp [Lit.wf, show IntKind.i64.min = -9223372036854775808 from rfl, show IntKind.i64.max = 9223372036854775807 from rfl]
  omega

end Go.Proofs.YtccpdkjonepoiaaGreatDoor

/- Walk: an inode out of its bytes. -/
namespace Go.Proofs.YtccpdkjonepoiaaGreatDoor
open Go.RowKit

attribute [local go_sem] Oper.semAt_some

/-- bytes of one's own that are there: where they lie -/
theorem OwnB.lies {w : World} {B : Nat} {v : Value} {L : List UInt8} (h : OwnB w B v L) (h0 : L ≠ []) : ∃ b c, v = .slice (some ⟨b, 0, none⟩) L.length c ∧ L.length ≤ c ∧ B ≤ b ∧ b < w.heap.size ∧ ∀ (j : Nat) (x : UInt8), L[j]? = some x → w.cell? ⟨b, j, none⟩ = some (.int .u8 x.toNat) := by
  obtain ⟨A, c', hv', hA⟩ := h.at_
  rcases h.2 with ⟨_, h1⟩ | ⟨g, cap, cur, e, hB, hg, hcap, _⟩
  · exact absurd (List.eq_nil_of_length_eq_zero h1) h0
  · refine ⟨g, cap, e, hcap, hB, lt_get hg, ?_⟩
    rw [e] at hv'
    cases hv'
    rcases hA with ⟨h0, _⟩ | ⟨b, o, h1, _, h3⟩
    · cases h0
    · cases h1
      intro j x hx
      have := h3 j x hx
      rwa [Nat.zero_add] at this
/-- the first so many bytes of a slice -/
theorem bytesAt_part {w : World} {b c : Nat} {L : List UInt8} (hb : b < w.heap.size) (hc : ∀ (j : Nat) (x : UInt8), L[j]? = some x → w.cell? ⟨b, j, none⟩ = some (.int .u8 x.toNat)) (n : Nat) (hn : n ≤ L.length) : BytesAt w (.slice (some ⟨b, 0, none⟩) n c) (L.take n) :=
  ⟨_, c, by rw [List.length_take, Nat.min_eq_left hn], Or.inr ⟨b, 0, rfl, hb, fun j x hx => by
    rw [Nat.zero_add]
    refine hc j x ?_
    have hj := (List.getElem?_eq_some_iff.1 hx).1
    rw [List.length_take] at hj
    rwa [List.getElem?_take_of_lt (by omega)] at hx⟩⟩
def zIno : Array Value := #[.int .i64 0, .int .i64 0, .int .i64 0, .int .i64 0, .int .i64 0, .int .i64 0, .int .i64 0, .int .i64 0, .int .i64 0, .int .i64 0, .int .i64 0, .int .i64 0, .int .i64 0, .int .i64 0, .int .i64 0]
theorem zIno_eq : zIno = inoC Gd.noIno := rfl
/-- an inode whose first so many blocks and descriptors are told -/
def partI (x : Gd.Ino) (i j : Nat) : Gd.Ino := ⟨x.k, x.l, x.s, x.B.take i ++ List.replicate (4 - i) 0, x.O.take j ++ List.replicate (8 - j) 0⟩
theorem partI_shape {x : Gd.Ino} (hs : x.Shape) {i j : Nat} (hi : i ≤ 4) (hj : j ≤ 8) : (partI x i j).Shape := by
  refine ⟨?_, ?_⟩
  · show (x.B.take i ++ List.replicate (4 - i) 0).length = 4
    rw [List.length_append, List.length_take, List.length_replicate, hs.1]
    omega
  · show (x.O.take j ++ List.replicate (8 - j) 0).length = 8
    rw [List.length_append, List.length_take, List.length_replicate, hs.2]
    omega
theorem fill_set {L : List Int} {n i : Nat} {a : Int} (hl : L.length = n) (ha : L[i]? = some a) : (L.take i ++ List.replicate (n - i) 0).set i a = L.take (i + 1) ++ List.replicate (n - (i + 1)) 0 := by
  have hi := (List.getElem?_eq_some_iff.1 ha).1
  have h1 : (L.take i).length = i := by rw [List.length_take]; omega
  rw [List.set_append_right _ _ (by omega), h1, Nat.sub_self, show n - i = (n - (i + 1)) + 1 by omega, List.replicate_succ, List.set_cons_zero, List.take_add_one, ha]
  simp
theorem partI_full {x : Gd.Ino} (hs : x.Shape) : partI x 4 8 = x := by
  obtain ⟨k, l, s, B, O⟩ := x
  unfold partI
  simp only [Nat.sub_self, List.replicate_zero, List.append_nil]
  rw [List.take_of_length_le (by rw [hs.1]; exact Nat.le_refl _), List.take_of_length_le (by rw [hs.2]; exact Nat.le_refl _)]
theorem intC_set (L : List Int) (j : Nat) (n : Int) : (intC L).toArray.setIfInBounds j (.int .i64 n) = (intC (L.set j n)).toArray := by
  unfold intC
  rw [← Array.toList_inj]
  simp [List.map_set]
theorem InoAt.setB {w : World} {b i j : Nat} {x : Gd.Ino} (h : InoAt w b (partI x i j)) (hs : x.Shape) (hj : j ≤ 8) {n : Int} (hn : x.B[i]? = some n) : InoAt (w.setCell ⟨b, 3 + i, none⟩ (.int .i64 n)) b (partI x (i + 1) j) := by
  have hi := (List.getElem?_eq_some_iff.1 hn).1
  have hB := hs.1
  refine ⟨?_, partI_shape hs (by omega) hj⟩
  have h1 := Go.heap_setCell_same w b (3 + i) _ _ (.int .i64 n) h.row
  rw [h1]
  congr 2
  unfold inoC
  rw [intC_set]
  congr 2
  show (x.k :: x.l :: x.s :: ((x.B.take i ++ List.replicate (4 - i) 0) ++ (x.O.take j ++ List.replicate (8 - j) 0))).set (3 + i) n = _
  rw [show 3 + i = i + 1 + 1 + 1 by omega, List.set_cons_succ, List.set_cons_succ, List.set_cons_succ, List.set_append_left _ _ (by rw [List.length_append, List.length_take, List.length_replicate]; omega), fill_set hB hn]
  rfl
theorem InoAt.setO {w : World} {b j : Nat} {x : Gd.Ino} (h : InoAt w b (partI x 4 j)) (hs : x.Shape) {n : Int} (hn : x.O[j]? = some n) : InoAt (w.setCell ⟨b, 7 + j, none⟩ (.int .i64 n)) b (partI x 4 (j + 1)) := by
  have hj := (List.getElem?_eq_some_iff.1 hn).1
  have hO := hs.2
  have hB := hs.1
  refine ⟨?_, partI_shape hs (Nat.le_refl _) (by omega)⟩
  have h1 := Go.heap_setCell_same w b (7 + j) _ _ (.int .i64 n) h.row
  rw [h1]
  congr 2
  unfold inoC
  rw [intC_set]
  congr 2
  show (x.k :: x.l :: x.s :: ((x.B.take 4 ++ List.replicate (4 - 4) 0) ++ (x.O.take j ++ List.replicate (8 - j) 0))).set (7 + j) n = _
  have h4 : (x.B.take 4 ++ List.replicate (4 - 4) (0 : Int)).length = 4 := by rw [List.length_append, List.length_take, List.length_replicate]; omega
  rw [show 7 + j = (4 + j) + 1 + 1 + 1 by omega, List.set_cons_succ, List.set_cons_succ, List.set_cons_succ, List.set_append_right _ _ (by omega), h4, show 4 + j - 4 = j by omega, fill_set hO hn]
  rfl

set_option maxHeartbeats 8000000 in
set_option maxRecDepth 100000 in
theorem readi_any (x : Gd.Ino) (hs : x.Shape) (hm : Gd.mayI x = true) (v : Value) (B0 : Nat) (w : World) (hv : OwnB w B0 v (Gd.inoB x)) : Calls Tryz.prog 53 #[v] w fun e w' => e = .returned (.tuple #[inoV x, .int .i64 0]) ∧ Below w.heap.size w w' := by
  have hlen := Gd.inoB_length hs
  obtain ⟨b, c, rfl, hlc, -, hbl, hcell⟩ := hv.lies (by intro e; rw [e] at hlen; simp at hlen)
  have hI := ino_all hm
  obtain ⟨L, hL⟩ : ∃ L, L = Gd.inoB x := ⟨_, rfl⟩
  rw [← hL] at hlen hlc hcell ⊢
  rw [hlen] at hlc ⊢
  -- the result's variable, and the noughts
  obtain ⟨w0, hw0⟩ : ∃ u, u = w.alloc (.cells zIno 40) := ⟨_, rfl⟩
  have hb0 : Below w.heap.size w w0 := by rw [hw0]; exact (Below.refl _ _).alloc (Nat.le_refl _) _
  have hr0 : w0.heap[w.heap.size]? = some (.cells zIno 40 (0, 0)) := by rw [hw0]; exact heap_alloc_new _ _
  obtain ⟨r, hr⟩ : ∃ r, r = w.heap.size := ⟨_, rfl⟩
  rw [← hr] at hr0
  have hmk : (Instr.makeSlice 22 (.int .i64 64) (.int .i64 64)).run Tryz.prog w0 = .ok (.slice (some ⟨w0.heap.size, 0, none⟩) 64 64) (w0.alloc (.cells (cellsB (List.replicate 64 0)) 5)) := made_bytes 64 (by omega) w0
  have hom := own_made w0 64 (by omega) 0 (Nat.zero_le _)
  have hbm : Below w0.heap.size w0 (w0.alloc (.cells (cellsB (List.replicate 64 0)) 5)) := (Below.refl _ _).alloc (Nat.le_refl _) _
  obtain ⟨wm, hwm⟩ : ∃ u, u = w0.alloc (.cells (cellsB (List.replicate 64 0)) 5) := ⟨_, rfl⟩
  rw [← hwm] at hmk hom hbm
  have HBm := Lib.hid (hb0.trans (hbm.mono hb0.size))
  have hcm : ∀ (j : Nat) (y : UInt8), L[j]? = some y → wm.cell? ⟨b, j, none⟩ = some (.int .u8 y.toNat) := fun j y hy => (HBm.out.cell (p := ⟨b, j, none⟩) hbl).trans (hcell j y hy)
  have hblm : b < wm.heap.size := Nat.lt_of_lt_of_le hbl HBm.out.size
  have hby64 := bytesAt_part (c := c) hblm hcm 64 (by omega)
  rw [List.take_of_length_le (by omega)] at hby64
  have HEq := Lib.hid (bequal_any (.slice (some ⟨b, 0, none⟩) 64 c) (.slice (some ⟨w0.heap.size, 0, none⟩) 64 64) L (List.replicate 64 0) wm hby64 hom.at_)
  have HHead := Lib.hid fun n hn => bytesAt_part (c := c) hblm hcm n hn
  have HR0 := Lib.hid ((hbm.block r (lt_get hr0)).trans hr0)
  have HW0 := Lib.hid hw0
  have Hr := Lib.hid hr.symm
  have HL := Lib.hid hL
  have HLen := Lib.hid hlen
  have HBy64 := Lib.hid hby64
  have HCm := Lib.hid (And.intro hblm hcm)
  have HSh := Lib.hid hs
  have HMy := Lib.hid hm
  have HAll := Lib.hid hI
  have hc64 : (64 : Int) ≤ c := by omega
  have hc60 : (60 : Int) ≤ c := by omega
  have hc64n : 64 ≤ c := hlc
  clear hv hs hm hlen hlc hbl hcell hI hL hw0 hb0 hr0 hr hom hbm hwm hcm hblm hby64
  go_enter Tryz.func53, Tryz.ntmps53
  go_upto_region 1 with fail
  rw [show w.alloc (.cells #[.int .i64 0, .int .i64 0, .int .i64 0, .int .i64 0, .int .i64 0, .int .i64 0, .int .i64 0, .int .i64 0, .int .i64 0, .int .i64 0, .int .i64 0, .int .i64 0, .int .i64 0, .int .i64 0, .int .i64 0] 40) = w0 from HW0.out.symm, Hr.out]
  go_upto_region 4 with fail
  by_cases hz : x.k = 0
  · have hx := Gd.mayI_zero HSh.out HMy.out hz
    have hLz : decide (L = List.replicate 64 0) = true := by
      rw [HL.out, decide_eq_true_iff]
      unfold Gd.inoB
      rw [if_pos hz]
    rw [hLz] at HEq
    clear hLz hz
    go_wp2_with (first | (go_at_call 102; with_reducible refine HEq.out.mono ?_; rintro e w1 ⟨rfl, rfl⟩) | (refine wpList_store_mid rfl 40 _ _ rfl r 0 zIno rfl rfl (there_at HR0.out rfl) Tryz.sizeIno (by rw [zIno_eq]; exact inoC_one _) ?_; obtain ⟨hbw, hbg⟩ := whole_at HR0.out (vs := zIno.toList) (B := r) rfl (Nat.le_refl r); generalize (World.setCells _ _ _ _) = wf at hbw hbg ⊢))
    refine bodyPost_ret (results_row_tmp rfl _ _ r 40 zIno (0, 0) _ rfl hbg Tryz.underlying40 rfl Tryz.sizeIno) rfl ?_
    refine ⟨?_, HBm.out.trans (by rw [Hr.out]; exact hbw)⟩
    rw [hx, zIno_eq]
    rfl
  · have hIB := Gd.ino_bytes HSh.out HMy.out hz
    rw [← HL.out] at hIB
    have hLz : decide (L = List.replicate 64 0) = false := decide_eq_false hIB.ne
    rw [hLz] at HEq
    have HIB := Lib.hid hIB
    obtain ⟨cc, hcc⟩ : ∃ cc, cc = Gd.crc (L.take 60) := ⟨_, rfl⟩
    have hcl : cc < 4294967296 := by rw [hcc]; exact Gd.crc_lt _
    have hg1 : Gd.getB L 60 4 = true ∧ Gd.get L 60 4 = (cc : Int) := by
      have h1 : Gd.getN L 60 4 = cc := by rw [hIB.sum, hcc]
      have h2 : Gd.getB L 60 4 = true := by
        unfold Gd.getB
        rw [show (60 : Int).toNat = 60 from rfl, h1, hIB.len]
        simp
        omega
      refine ⟨h2, ?_⟩
      unfold Gd.get
      rw [if_pos h2, show (60 : Int).toNat = 60 from rfl, h1]
    have hin := Gd.mayI_in HMy.out
    obtain ⟨sn, hsn⟩ : ∃ n : Nat, x.s = n := ⟨x.s.toNat, by have := hin.s; omega⟩
    have hs2 : sn ≤ 256 := by have := hin.s; omega
    have hg2 : Gd.getB L 2 2 = true ∧ Gd.get L 2 2 = (sn : Int) := by
      have h1 : Gd.getN L 2 2 = sn := by rw [hIB.s, hsn, Int.toNat_natCast]
      have h2 : Gd.getB L 2 2 = true := by
        unfold Gd.getB
        rw [show (2 : Int).toNat = 2 from rfl, h1, hIB.len]
        simp
        omega
      refine ⟨h2, ?_⟩
      unfold Gd.get
      rw [if_pos h2, show (2 : Int).toNat = 2 from rfl, h1]
    have HG1 : Hid (Calls Tryz.prog 103 #[.slice (some ⟨b, 0, none⟩) 64 c, .int .i64 60, .int .i64 4] wm fun e w' => e = .returned (.tuple #[.int .i64 cc, .bool true]) ∧ w' = wm) := Lib.hid (by
      have := get_any (.slice (some ⟨b, 0, none⟩) 64 c) L 60 4 (Or.inr (Or.inr (Or.inl rfl))) (nat_I64 (n := 60) (by omega)) wm HBy64.out (by have := HLen.out; omega)
      rw [hg1.1, hg1.2] at this
      exact this)
    have HCr := Lib.hid (crc_any (.slice (some ⟨b, 0, none⟩) 60 c) (L.take 60) wm (HHead.out 60 (by have := HLen.out; omega)) (by rw [List.length_take]; have := HLen.out; omega))
    rw [← hcc] at HCr
    have HG2 : Hid (∀ W, Below wm.heap.size wm W → Calls Tryz.prog 103 #[.slice (some ⟨b, 0, none⟩) 64 c, .int .i64 2, .int .i64 2] W fun e w' => e = .returned (.tuple #[.int .i64 sn, .bool true]) ∧ w' = W) := Lib.hid fun W hW => by
      have := get_any (.slice (some ⟨b, 0, none⟩) 64 c) L 2 2 (Or.inr (Or.inl rfl)) (nat_I64 (n := 2) (by omega)) W (HBy64.out.keep hW) (by have := HLen.out; omega)
      rw [hg2.1, hg2.2] at this
      exact this
    have hc2 : (cc : Int) < 4294967296 := by omega
    have Hsn := Lib.hid hsn
    have HIn := Lib.hid hin
    have Hz := Lib.hid hz
    clear hcc hg1 hg2 hsn hin hIB hLz HHead hz
    go_wp2_with (go_at_call 102; with_reducible refine HEq.out.mono ?_; rintro e w1 ⟨rfl, rfl⟩)
    refine HG1.out.mono ?_
    rintro e w2 ⟨rfl, rfl⟩
    clear HEq HG1
    go_wp2_with fail
    refine HCr.out.mono ?_
    rintro e w3 ⟨rfl, hb3⟩
    have HB3 := Lib.hid hb3
    clear hb3 HCr
    go_wp2_with fail
    refine (HG2.out w3 HB3.out).mono ?_
    rintro e w4 ⟨rfl, rfl⟩
    clear HG2
    obtain ⟨y0, hy0, hye0⟩ := HIB.out.k
    obtain ⟨y1, hy1, hye1⟩ := HIB.out.l
    have hdr : Below w4.heap.size w4 w4.drew := (Below.refl _ _).drew
    have hbd : Below w2.heap.size w2 w4.drew := HB3.out.trans (hdr.mono HB3.out.size)
    have hs0 : w4.drew.cell? ⟨b, 0, none⟩ = some (.int .u8 y0.toNat) ∧ w4.drew.cell? ⟨b, 1, none⟩ = some (.int .u8 y1.toNat) := ⟨(hbd.cell (p := ⟨b, 0, none⟩) HCm.out.1).trans (HCm.out.2 0 y0 hy0), (hbd.cell (p := ⟨b, 1, none⟩) HCm.out.1).trans (HCm.out.2 1 y1 hy1)⟩
    have Hye := Lib.hid (And.intro hye0 hye1)
    have HBd := Lib.hid hbd
    clear hy0 hye0 hy1 hye1 hdr hbd
    have hw0 : IntKind.i64.wrap (y0.toNat : Int) = y0.toNat := by rw [IntKind.wrap_i64]; have := y0.toNat_lt; omega
    have hw1 : IntKind.i64.wrap (y1.toNat : Int) = y1.toNat := by rw [IntKind.wrap_i64]; have := y1.toNat_lt; omega
    -- the inode's variable
    obtain ⟨ib, hib⟩ : ∃ ib, ib = w4.heap.size := ⟨_, rfl⟩
    obtain ⟨wA, hwA⟩ : ∃ u, u = (w4.alloc (.cells zIno 40)).drew := ⟨_, rfl⟩
    have hnA : wA.heap[w4.heap.size]? = some (.cells zIno 40 (0, 0)) := by rw [hwA]; exact heap_alloc_new w4 _
    have hbA : Below w4.heap.size w4 wA := by rw [hwA]; exact ((Below.refl w4.heap.size w4).alloc (Nat.le_refl _) _).drew
    have HBd4 : Hid (Below w2.heap.size w2 w4) := Lib.hid HB3.out
    obtain ⟨vs, hvs⟩ : ∃ vs : Array Value, vs = #[.int .i64 y0.toNat, .int .i64 y1.toNat, .int .i64 sn, .int .i64 0, .int .i64 0, .int .i64 0, .int .i64 0, .int .i64 0, .int .i64 0, .int .i64 0, .int .i64 0, .int .i64 0, .int .i64 0, .int .i64 0, .int .i64 0] := ⟨_, rfl⟩
    have hvz : vs = inoC (partI x 0 0) := by
      unfold inoC inoL partI
      rw [hvs, ← Hye.out.1, ← Hye.out.2, Hsn.out]
      rfl
    have hvsz : vs.size = 15 := by rw [hvs]; rfl
    obtain ⟨hbB, hnB⟩ := whole_at hnA (vs := vs.toList) (B := w4.heap.size) (by rw [Array.length_toList, hvsz]; rfl) (Nat.le_refl _)
    rw [← hib] at hnA hbA hbB hnB
    have hsA := And.intro ((hbA.cell (p := ⟨b, 0, none⟩) (Nat.lt_of_lt_of_le HCm.out.1 (by rw [hib]; exact HBd4.out.size))).trans hs0.1) ((hbA.cell (p := ⟨b, 1, none⟩) (Nat.lt_of_lt_of_le HCm.out.1 (by rw [hib]; exact HBd4.out.size))).trans hs0.2)
    have hsB := And.intro ((hbB.cell (p := ⟨b, 0, none⟩) (Nat.lt_of_lt_of_le HCm.out.1 (by rw [hib]; exact HBd4.out.size))).trans hsA.1) ((hbB.cell (p := ⟨b, 1, none⟩) (Nat.lt_of_lt_of_le HCm.out.1 (by rw [hib]; exact HBd4.out.size))).trans hsA.2)
    obtain ⟨wB, hwB⟩ : ∃ u, u = wA.setCells ib 0 vs.toList := ⟨_, rfl⟩
    rw [← hwB] at hnB hbB hsB
    have HIB0 : Hid (InoAt wB ib (partI x 0 0)) := Lib.hid ⟨by rw [hnB]; congr 2, partI_shape HSh.out (by omega) (by omega)⟩
    have hib2 : ib < wB.heap.size := lt_get HIB0.out.row
    have HBw : Hid (Below w.heap.size w wB ∧ Below w2.heap.size w2 wB ∧ w2.heap.size ≤ ib) := Lib.hid (by
      have h1 := HBd4.out.size
      rw [← hib] at h1
      have h2 := HBd4.out.trans ((hbA.trans hbB).mono h1)
      exact ⟨HBm.out.trans (h2.mono HBm.out.size), h2, h1⟩)
    have HvO : Hid (vs.all (·.oneCell') = true) := Lib.hid (by rw [hvz]; exact inoC_one _)
    have HTh : Hid (wA.there ib 0 vs.size) := Lib.hid (there_at hnA (n := vs.size) (by rw [hvsz]; rfl))
    have Hib := Lib.hid hib.symm
    have HwB := Lib.hid hwB.symm
    have Hvs := Lib.hid hvs
    have Hvz := Lib.hid hvsz
    have HwA := Lib.hid hwA
    clear hwA hib hnA hbA hvz hvsz hbB hnB hwB hvs hib2
    go_upto_region 10 with fail
    refine wp_region_held_drew (S := (fun W => W.cell? ⟨b, 0, none⟩ = some (.int .u8 y0.toNat) ∧ W.cell? ⟨b, 1, none⟩ = some (.int .u8 y1.toNat))) (by kernel_rfl) ?_ (fun hHeld => ?_)
    · exact hs0
    refine wpAnyH_take (i := 0) (oi := _) (v := ?_) rfl (by kernel_rfl) (by kernel_rfl) (by kernel_rfl) (fun _ _ _ h => h) (Or.inl ⟨by rfl, ?_⟩) (by assumption) ?_
    rotate_left
    · intro w hSw
      (try dsimp only at hSw)
      first | (go_simp; done) | (go_simp; with_reducible rfl)
    try simp only [List.getElem_toArray, List.getElem_cons_succ, List.getElem_cons_zero, Act.put, List.setIfInBounds_toArray, List.set_cons_zero, List.set_cons_succ]
    refine wpAnyH_take (i := 1) (oi := _) (v := ?_) rfl (by kernel_rfl) (by kernel_rfl) (by kernel_rfl) (fun _ _ _ h => h) (Or.inl ⟨by rfl, ?_⟩) (by assumption) ?_
    rotate_left
    · intro w hSw
      (try dsimp only at hSw)
      first | (go_simp; done) | (go_simp; with_reducible rfl)
    try simp only [List.getElem_toArray, List.getElem_cons_succ, List.getElem_cons_zero, Act.put, List.setIfInBounds_toArray, List.set_cons_zero, List.set_cons_succ]
    refine wpAnyH_take (i := 2) (oi := _) (v := ?_) rfl (by kernel_rfl) (by kernel_rfl) (by kernel_rfl) (fun _ _ _ h => h) (Or.inl ⟨by rfl, ?_⟩) (by assumption) ?_
    rotate_left
    · intro w hSw
      (try dsimp only at hSw)
      first | (go_simp; done) | (go_simp; with_reducible rfl)
    try simp only [List.getElem_toArray, List.getElem_cons_succ, List.getElem_cons_zero, Act.put, List.setIfInBounds_toArray, List.set_cons_zero, List.set_cons_succ]
    refine wpAnyH_take (i := 3) (oi := _) (v := ?_) rfl (by kernel_rfl) (by kernel_rfl) (by kernel_rfl) (fun _ _ _ h => h) (Or.inl ⟨by rfl, ?_⟩) (by assumption) ?_
    rotate_left
    · intro w hSw
      (try dsimp only at hSw)
      first | (go_simp; done) | (go_simp; with_reducible rfl)
    try simp only [List.getElem_toArray, List.getElem_cons_succ, List.getElem_cons_zero, Act.put, List.setIfInBounds_toArray, List.set_cons_zero, List.set_cons_succ]
    refine wpAnyH_take (i := 4) (oi := _) (v := ?_) rfl (by kernel_rfl) (by kernel_rfl) (by kernel_rfl) (fun _ _ _ h => h) (Or.inl ⟨by rfl, ?_⟩) (by assumption) ?_
    rotate_left
    · intro w hSw
      (try dsimp only at hSw)
      first | (go_simp; done) | (go_simp; with_reducible rfl)
    try simp only [List.getElem_toArray, List.getElem_cons_succ, List.getElem_cons_zero, Act.put, List.setIfInBounds_toArray, List.set_cons_zero, List.set_cons_succ]
    refine wpAnyH_take (i := 5) (oi := _) (v := ?_) rfl (by kernel_rfl) (by kernel_rfl) (by kernel_rfl) (fun _ _ _ h => h) (Or.inl ⟨by rfl, ?_⟩) (by assumption) ?_
    rotate_left
    · intro w hSw
      (try dsimp only at hSw)
      first | (go_simp; done) | (go_simp; with_reducible rfl)
    try simp only [List.getElem_toArray, List.getElem_cons_succ, List.getElem_cons_zero, Act.put, List.setIfInBounds_toArray, List.set_cons_zero, List.set_cons_succ]
    refine wpAnyH_take (i := 6) (oi := _) (v := ?_) rfl (by kernel_rfl) (by kernel_rfl) (by kernel_rfl) (fun _ _ _ h => h) (Or.inl ⟨by rfl, ?_⟩) (by assumption) ?_
    rotate_left
    · intro w hSw
      (try dsimp only at hSw)
      first | (go_simp; done) | (go_simp; with_reducible rfl)
    try simp only [List.getElem_toArray, List.getElem_cons_succ, List.getElem_cons_zero, Act.put, List.setIfInBounds_toArray, List.set_cons_zero, List.set_cons_succ]
    refine wpAnyH_take (i := 7) (oi := _) (v := ?_) rfl (by kernel_rfl) (by kernel_rfl) (by kernel_rfl) (fun _ _ _ h => h) (Or.inl ⟨by rfl, ?_⟩) (by assumption) ?_
    rotate_left
    · intro w hSw
      (try dsimp only at hSw)
      first | (go_simp; done) | (go_simp; with_reducible rfl)
    try simp only [List.getElem_toArray, List.getElem_cons_succ, List.getElem_cons_zero, Act.put, List.setIfInBounds_toArray, List.set_cons_zero, List.set_cons_succ]
    refine wpAnyH_take (i := 8) (oi := _) (v := ?_) rfl (by kernel_rfl) (by kernel_rfl) (by kernel_rfl) (fun _ _ _ h => h) (Or.inl ⟨by rfl, ?_⟩) (by assumption) ?_
    rotate_left
    · intro w hSw
      (try dsimp only at hSw)
      first | (go_simp; done) | (go_simp; with_reducible rfl)
    try simp only [List.getElem_toArray, List.getElem_cons_succ, List.getElem_cons_zero, Act.put, List.setIfInBounds_toArray, List.set_cons_zero, List.set_cons_succ]
    refine wpAnyH_take (i := 9) (oi := _) (v := ?_) rfl (by kernel_rfl) (by kernel_rfl) (by kernel_rfl) (fun _ _ _ h => h) (Or.inl ⟨by rfl, ?_⟩) (by assumption) ?_
    rotate_left
    · intro w hSw
      (try dsimp only at hSw)
      first | (go_simp; done) | (go_simp; with_reducible rfl)
    try simp only [List.getElem_toArray, List.getElem_cons_succ, List.getElem_cons_zero, Act.put, List.setIfInBounds_toArray, List.set_cons_zero, List.set_cons_succ]
    refine wpAnyH_ready (rs := [10]) (by kernel_rfl) (by simp) ?_
    refine AllReadyH.cons (o := _) rfl (fun K hK => ?_) AllReadyH.nil
    go_simp
    rw [show (w4.alloc (.cells #[.int .i64 0, .int .i64 0, .int .i64 0, .int .i64 0, .int .i64 0, .int .i64 0, .int .i64 0, .int .i64 0, .int .i64 0, .int .i64 0, .int .i64 0, .int .i64 0, .int .i64 0, .int .i64 0, .int .i64 0] 40)).drew = wA from HwA.out.symm, Hib.out]
    try dsimp only
    refine hK.out _ _ hsA (fun hHeld => ?_)
    clear hK K
    try simp only [List.getElem_toArray, List.getElem_cons_succ, List.getElem_cons_zero, Act.put, List.setIfInBounds_toArray, List.set_cons_zero, List.set_cons_succ]
    refine wpAnyH_ready (rs := [11]) (by kernel_rfl) (by simp) ?_
    refine AllReadyH.cons (o := _) rfl (fun K hK => ?_) AllReadyH.nil
    refine wp_store_mid 40 _ _ rfl ib 0 vs rfl (by rw [Hvs.out]; rfl) HTh.out (by rw [Hvz.out]; exact Tryz.sizeIno) HvO.out ?_
    rw [HwB.out]
    try dsimp only
    refine hK.out _ _ hsB (fun hHeld => ?_)
    clear hK K
    try simp only [List.getElem_toArray, List.getElem_cons_succ, List.getElem_cons_zero, Act.put, List.setIfInBounds_toArray, List.set_cons_zero, List.set_cons_succ]
    refine wpAnyH_done (by kernel_rfl) ?_ _
    (try simp only [Exit.then])
    (first | (refine (by assumption : ∀ (a : Act) (w : World), _) _ _ ?_) | skip)
    go_upto_region 12 with fail
    go_loopw [50] (fun z wr => ∃ i : Nat, z = .int .i64 i ∧ i ≤ 4 ∧ Hid (InoAt wr ib (partI x i 0) ∧ Below w.heap.size w wr ∧ Below w2.heap.size w2 wr)) (fun z _ => 4 - (intOf z).toNat)
    case atStart => exact ⟨0, rfl, by omega, Lib.hid ⟨HIB0.out, HBw.out.1, HBw.out.2.1⟩⟩
    case round =>
      obtain ⟨i, rfl, hi, HW⟩ := hrel
      by_cases hlt : i < 4
      · obtain ⟨n, hn⟩ : ∃ n, x.B[i]? = some n := ⟨_, List.getElem?_eq_getElem (by have := HSh.out.1; omega)⟩
        obtain ⟨y, hy, hye⟩ := HIB.out.B i n hn
        have hyl : 4 + i < 64 := by omega
        have hc := (HW.out.2.2.cell (p := ⟨b, 4 + i, none⟩) HCm.out.1).trans (HCm.out.2 (4 + i) y hy)
        have hq : wr.frozen? ⟨ib, 3 + i, none⟩ = false := frozen_of_row wr ib (3 + i) _ _ HW.out.1.row
        obtain ⟨old, hold⟩ : ∃ u, wr.cell? ⟨ib, 3 + i, none⟩ = some u := by
          rw [cell_of_row wr ib (3 + i) _ _ _ HW.out.1.row]
          exact ⟨_, Array.getElem?_eq_getElem (by rw [inoC_size HW.out.1.shape]; omega)⟩
        have hwy : IntKind.i64.wrap (y.toNat : Int) = y.toNat := by rw [IntKind.wrap_i64]; have := y.toNat_lt; omega
        have h1 : (i : Int) < 4 := by omega
        have h0 : (0 : Int) ≤ i := by omega
        obtain ⟨w5, hw5⟩ : ∃ u, u = wr.setCell ⟨ib, 3 + i, none⟩ (.int .i64 y.toNat) := ⟨_, rfl⟩
        have HW5 : Hid (InoAt w5 ib (partI x (i + 1) 0) ∧ Below w.heap.size w w5 ∧ Below w2.heap.size w2 w5) := Lib.hid (by
          have h2 := HBw.out.2.2
          have h3 := HBm.out.size
          rw [hw5]
          refine ⟨?_, HW.out.2.1.setCell (show w.heap.size ≤ ib by omega) _, HW.out.2.2.setCell (show w2.heap.size ≤ ib from h2) _⟩
          rw [hye]
          exact HW.out.1.setB HSh.out (by omega) hn)
        have Hw5 := Lib.hid hw5.symm
        have k1 : (4 : Int) + (i : Int) < 64 := by omega
        clear hn hy hye hw5 hlt
        go_wp2
        rw [Hw5.out]
        go_roundw
        case rel => exact ⟨i + 1, by go_num, by omega, HW5⟩
        case measure => simp [intOf]; omega
      · obtain rfl : i = 4 := by omega
        clear hlt
        obtain ⟨w6, rfl⟩ : ∃ v, v = wr := ⟨_, rfl⟩
        have HW6 := HW
        clear HW
        go_upto_region 17 with fail
        go_loopw [63] (fun z wr => ∃ i : Nat, z = .int .i64 i ∧ i ≤ 8 ∧ Hid (InoAt wr ib (partI x 4 i) ∧ Below w.heap.size w wr ∧ Below w2.heap.size w2 wr)) (fun z _ => 8 - (intOf z).toNat)
        case atStart => exact ⟨0, rfl, by omega, HW6⟩
        case round =>
          obtain ⟨i, rfl, hi, HW⟩ := hrel
          by_cases hlt : i < 8
          · obtain ⟨n, hn⟩ : ∃ n, x.O[i]? = some n := ⟨_, List.getElem?_eq_getElem (by have := HSh.out.2; omega)⟩
            obtain ⟨y, hy, hye⟩ := HIB.out.O i n hn
            have hyl : 8 + i < 64 := by omega
            have hc := (HW.out.2.2.cell (p := ⟨b, 8 + i, none⟩) HCm.out.1).trans (HCm.out.2 (8 + i) y hy)
            have hq : wr.frozen? ⟨ib, 7 + i, none⟩ = false := frozen_of_row wr ib (7 + i) _ _ HW.out.1.row
            obtain ⟨old, hold⟩ : ∃ u, wr.cell? ⟨ib, 7 + i, none⟩ = some u := by
              rw [cell_of_row wr ib (7 + i) _ _ _ HW.out.1.row]
              exact ⟨_, Array.getElem?_eq_getElem (by rw [inoC_size HW.out.1.shape]; omega)⟩
            have hwy : IntKind.i64.wrap (y.toNat : Int) = y.toNat := by rw [IntKind.wrap_i64]; have := y.toNat_lt; omega
            have h1 : (i : Int) < 8 := by omega
            have h0 : (0 : Int) ≤ i := by omega
            obtain ⟨w5, hw5⟩ : ∃ u, u = wr.setCell ⟨ib, 7 + i, none⟩ (.int .i64 y.toNat) := ⟨_, rfl⟩
            have HW5 : Hid (InoAt w5 ib (partI x 4 (i + 1)) ∧ Below w.heap.size w w5 ∧ Below w2.heap.size w2 w5) := Lib.hid (by
              have h2 := HBw.out.2.2
              have h3 := HBm.out.size
              rw [hw5]
              refine ⟨?_, HW.out.2.1.setCell (show w.heap.size ≤ ib by omega) _, HW.out.2.2.setCell (show w2.heap.size ≤ ib from h2) _⟩
              rw [hye]
              exact HW.out.1.setO HSh.out hn)
            have Hw5 := Lib.hid hw5.symm
            have k1 : (8 : Int) + (i : Int) < 64 := by omega
            clear hn hy hye hw5 hlt
            go_wp2
            rw [Hw5.out]
            go_roundw
            case rel => exact ⟨i + 1, by go_num, by omega, HW5⟩
            case measure => simp [intOf]; omega
          · obtain rfl : i = 8 := by omega
            clear hlt
            have hI7 := HW.out.1
            rw [partI_full HSh.out] at hI7
            have HI7 := Lib.hid hI7
            have HPu := Lib.hid (puti_any x HSh.out HAll.out HMy.out wr)
            have HS := Lib.hid (inoC_size HSh.out)
            have HR7 := Lib.hid ((HW.out.2.2.block r (lt_get HR0.out)).trans HR0.out)
            have HW7 := Lib.hid HW.out.2.1
            have HB7 := Lib.hid HW.out.2.2
            unfold inoV at HPu
            clear hI7 HW
            go_upto_region 21 with fail
            go_wp2_with (refine wpList_load_row rfl 40 _ rfl ib rfl 40 (inoC x) (0, 0) _ HI7.out.row Tryz.underlying40 rfl (by rw [HS.out]; exact Tryz.sizeIno) ?_)
            refine HPu.out.mono ?_
            rintro e w8 ⟨v8, rfl, ho8, hb8⟩
            rw [← HL.out] at ho8
            have HEq8 := Lib.hid (bequal_any v8 (.slice (some ⟨b, 0, none⟩) 64 c) L L w8 ho8.at_ (HBy64.out.keep (HB7.out.trans (hb8.mono HB7.out.size))))
            rw [decide_eq_true rfl] at HEq8
            have HI8 := Lib.hid (HI7.out.keep hb8)
            have HR8 := Lib.hid ((hb8.block r (lt_get HR7.out)).trans HR7.out)
            have HW8 := Lib.hid (HW7.out.trans (hb8.mono HW7.out.size))
            clear ho8 hb8 HPu
            go_wp2_with (first | (go_at_call 102; with_reducible refine HEq8.out.mono ?_; rintro e w9 ⟨rfl, rfl⟩) | (refine wpList_load_row rfl 40 _ rfl ib rfl 40 (inoC x) (0, 0) _ HI8.out.row Tryz.underlying40 rfl (by rw [HS.out]; exact Tryz.sizeIno) ?_) | (refine wpList_store_mid rfl 40 _ _ rfl r 0 (inoC x) rfl rfl (there_at HR8.out (by rw [HS.out]; rfl)) (by rw [HS.out]; exact Tryz.sizeIno) (inoC_one _) ?_; obtain ⟨hbw, hbg⟩ := whole_at HR8.out (vs := (inoC x).toList) (B := r) (by rw [Array.length_toList, HS.out]; rfl) (Nat.le_refl r); generalize (World.setCells _ _ _ _) = wf at hbw hbg ⊢))
            refine bodyPost_ret (results_row_tmp rfl _ _ r 40 (inoC x) (0, 0) _ rfl hbg Tryz.underlying40 rfl (by rw [HS.out]; exact Tryz.sizeIno)) rfl ?_
            exact ⟨rfl, HW8.out.trans (by rw [Hr.out]; exact hbw)⟩

end Go.Proofs.YtccpdkjonepoiaaGreatDoor

/- Walks: slots: numbers in a row, a checksum, a slot, a head. -/
namespace Go.Proofs.YtccpdkjonepoiaaGreatDoor
open Go.RowKit

attribute [local go_sem] Oper.semAt_some

namespace Gd
def nums (N : List Nat) (k : Nat) : List UInt8 := N.flatMap fun n => le n k
theorem nums_length : ∀ (N : List Nat) (k : Nat), (nums N k).length = N.length * k
  | [], k => by simp [nums]
  | n :: r, k => by
    have := nums_length r k
    unfold nums at *
    rw [List.flatMap_cons, List.length_append, le_length, this, List.length_cons, Nat.add_mul, Nat.one_mul, Nat.add_comm]
theorem nums_take {N : List Nat} {i n : Nat} (h : N[i]? = some n) (k : Nat) : nums (N.take (i + 1)) k = nums (N.take i) k ++ le n k := by
  unfold nums
  rw [List.take_add_one, h, List.flatMap_append]
  simp
def seal60 (L : List UInt8) : List UInt8 := sealB (L ++ List.replicate (60 - L.length) 0)
theorem seal60_length {L : List UInt8} (h : L.length ≤ 60) : (seal60 L).length = 64 := by
  unfold seal60
  rw [sealB_length, List.length_append, List.length_replicate]
  omega
/-- what is kept of a client -/
structure Slot where
  e : Nat
  h : Nat
  r : Nat
  ke : Nat
  ki : Nat
  w : Nat
structure Slot.May (s : Slot) : Prop where
  e : s.e ≤ 1073741824
  h : s.h ≤ 1024
  r : s.r ≤ 1099511627776
  ke : s.ke ≤ 255
  ki : s.ki ≤ 32
  w : s.w ≤ 1099511627776
def slotBody (s : Slot) : List UInt8 := nums [s.e, s.h] 4 ++ nums [s.r] 8 ++ nums [s.ke, s.ki] 1 ++ nums [s.w] 8
def slotB (s : Slot) : List UInt8 := seal60 (slotBody s)
theorem slotBody_length (s : Slot) : (slotBody s).length = 26 := by
  unfold slotBody
  simp only [List.length_append, nums_length, List.length_cons, List.length_nil]
def headBody (n : Nat) : List UInt8 := [67, 77, 78, 49, 0, 0, 0, 0] ++ nums [n] 8
def headB (n : Nat) : List UInt8 := seal60 (headBody n)
theorem slotB_length (s : Slot) : (slotB s).length = 64 := seal60_length (by rw [slotBody_length]; omega)
theorem headB_length (n : Nat) : (headB n).length = 64 := seal60_length (by unfold headBody; simp only [List.length_append, nums_length, List.length_cons, List.length_nil]; omega)
end Gd
/-- numbers in a row -/
def NatsAt (w : World) (b : Nat) (N : List Nat) : Prop := b < w.heap.size ∧ ∀ (j n : Nat), N[j]? = some n → w.cell? ⟨b, j, none⟩ = some (.int .i64 n)
theorem NatsAt.keep {w w' : World} {b : Nat} {N : List Nat} (h : NatsAt w b N) (hb : Below w.heap.size w w') : NatsAt w' b N := ⟨Nat.lt_of_lt_of_le h.1 hb.size, fun j n hn => (hb.cell (p := ⟨b, j, none⟩) h.1).trans (h.2 j n hn)⟩

set_option maxHeartbeats 4000000 in
set_option maxRecDepth 100000 in
theorem numbers_any (v : Value) (L : List UInt8) (k : Nat) (hk : Gd.wid k) (N : List Nat) (b c : Nat) (w : World) (hv : BytesAt w v L) (hN : NatsAt w b N) (h0 : 0 < N.length) (h8 : N.length ≤ 8) (hL : L.length ≤ 100000) (hf : ∀ n ∈ N, n < 256 ^ k ∧ n ≤ 9223372036854775807) :
    Calls Tryz.prog 113 #[v, .int .i64 k, .slice (some ⟨b, 0, none⟩) N.length c] w (GivesB w (L ++ Gd.nums N k)) := by
  have HV := Lib.hid hv
  have HN := Lib.hid hN
  have HF := Lib.hid hf
  have HL := Lib.hid hL
  have HK := Lib.hid hk
  have hk8 : k ≤ 8 := by rcases hk with rfl | rfl | rfl | rfl <;> omega
  obtain ⟨m, hm⟩ : ∃ m, m = N.length := ⟨_, rfl⟩
  rw [← hm] at h0 h8 ⊢
  have Hm := Lib.hid hm
  clear hv hN hf hL hk hm
  go_enter Tryz.func113, Tryz.ntmps113
  go_upto_region 2 with fail
  go_loopw [0, 11] (fun u z wr => ∃ i : Nat, z = .int .i64 i ∧ i ≤ m ∧ Hid (BytesAt wr u (L ++ Gd.nums (N.take i) k)) ∧ Hid (0 < i → OwnB wr w.heap.size u (L ++ Gd.nums (N.take i) k)) ∧ Hid (Below w.heap.size w wr)) (fun _ z _ => m - (intOf z).toNat)
  case atStart => exact ⟨0, rfl, by omega, Lib.hid (by rw [List.take_zero]; simpa [Gd.nums] using HV.out), Lib.hid (fun h => absurd h (by omega)), Lib.hid (Below.refl _ _)⟩
  case round =>
    obtain ⟨i, rfl, hi, HO, HOw, HB⟩ := hrel
    by_cases hlt : i < m
    · obtain ⟨n, hn⟩ : ∃ n, N[i]? = some n := ⟨_, List.getElem?_eq_getElem (by have := Hm.out; omega)⟩
      have hc := (HN.out.keep HB.out).2 i n hn
      have h1 : (i : Int) < m := by omega
      have h2 : (0 : Int) ≤ i := by omega
      have HT := Lib.hid (Gd.nums_take hn k)
      have hfn := HF.out n (List.mem_of_getElem? hn)
      have HPt := Lib.hid (putn_any u0 _ n k HK.out hfn.1 hfn.2 wr HO.out (by
        rw [List.length_append, Gd.nums_length, List.length_take]
        have h3 := HL.out
        have h4 : min i N.length * k ≤ 8 * 8 := Nat.mul_le_mul (by have := Hm.out; omega) hk8
        omega))
      clear hn hlt hfn
      go_wp2_with fail
      refine HPt.out.mono ?_
      rintro e w5 ⟨v5, rfl, ho5, hb5⟩
      rw [List.append_assoc, ← HT.out] at ho5
      have HO5 := Lib.hid ho5.at_
      have HOw5 : Hid (0 < i + 1 → OwnB w5 w.heap.size v5 (L ++ Gd.nums (N.take (i + 1)) k)) := Lib.hid fun _ => ho5.mono HB.out.size
      have HB5 := Lib.hid (HB.out.trans (hb5.mono HB.out.size))
      clear ho5 hb5 HPt
      go_wp2
      go_roundw
      case rel => exact ⟨i + 1, by go_num, by omega, HO5, HOw5, HB5⟩
      case measure => simp [intOf]; omega
    · obtain rfl : i = m := by omega
      clear hlt
      go_wp2
      go_ret
      refine ⟨_, rfl, ?_, HB.out⟩
      have := HOw.out h0
      rw [List.take_of_length_le (by have := Hm.out; omega)] at this
      exact this

set_option maxHeartbeats 4000000 in
set_option maxRecDepth 100000 in
theorem seal_any (v : Value) (L : List UInt8) (B : Nat) (w : World) (hv : OwnB w B v L) (hL : L.length ≤ 60) (hB : B ≤ w.heap.size) : Calls Tryz.prog 114 #[v] w fun e w' => ∃ u, e = .returned u ∧ OwnB w' B u (Gd.seal60 L) ∧ Below B w w' := by
  have HV := Lib.hid hv
  obtain ⟨A, c, rfl, -⟩ := hv.at_
  obtain ⟨l, hl⟩ : ∃ l, l = L.length := ⟨_, rfl⟩
  rw [← hl] at HV hL ⊢
  have Hl := Lib.hid hl
  have HB := Lib.hid hB
  have hl60 : (l : Int) ≤ 60 := by omega
  have hs : IntKind.i64.wrap (60 - (l : Int)) = ((60 - l : Nat) : Int) := by rw [IntKind.wrap_i64]; omega
  clear hv hl hB
  go_enter Tryz.func114, Tryz.ntmps114
  go_wp2_with (at_builtin; refine app_zeros rfl _ _ rfl B (.slice A l c) L w rfl HV.out (60 - l) _ rfl (by omega) (by have := Hl.out; omega) HB.out ?_; intro v7 w7 ho7 hb7)
  have HE : Hid (Gd.seal60 L = (L ++ List.replicate (60 - l) 0) ++ Gd.le (Gd.crc (L ++ List.replicate (60 - l) 0)) 4) := Lib.hid (by rw [Hl.out]; rfl)
  obtain ⟨X, hX⟩ : ∃ X, X = L ++ List.replicate (60 - l) 0 := ⟨_, rfl⟩
  have HXl : Hid (X.length = 60) := Lib.hid (by rw [hX, List.length_append, List.length_replicate]; have := Hl.out; omega)
  rw [← hX] at ho7 HE
  have HO7 := Lib.hid ho7
  have HB7 := Lib.hid hb7
  have HCr := Lib.hid (crc_any v7 X w7 HO7.out.at_ (by have := HXl.out; omega))
  have hcl := Gd.crc_lt X
  obtain ⟨cc, hcc⟩ : ∃ cc, cc = Gd.crc X := ⟨_, rfl⟩
  rw [← hcc] at HCr HE hcl
  have hc2 : (cc : Int) < 4294967296 := by omega
  clear hX hcc ho7 hb7 HV hs
  go_wp2_with fail
  refine HCr.out.mono ?_
  rintro e w8 ⟨rfl, hb8⟩
  have hB7 : B ≤ w7.heap.size := Nat.le_trans HB.out HB7.out.size
  have HB8 := Lib.hid (HB7.out.trans (hb8.mono hB7))
  have HO8 := Lib.hid (HO7.out.keep hb8)
  have HP8 := Lib.hid (putn_any v7 X cc 4 (Or.inr (Or.inr (Or.inl rfl))) (by omega) (by omega) w8 HO8.out.at_ (by have := HXl.out; omega))
  have HB2 := Lib.hid hB7
  clear hb8 HCr HO7 hB7
  go_wp2_with fail
  refine HP8.out.mono ?_
  rintro e w9 ⟨v9, rfl, ho9, hb9⟩
  have hB8 : B ≤ w8.heap.size := Nat.le_trans HB.out HB8.out.size
  have HO9 := Lib.hid (ho9.mono hB8)
  have HB9 := Lib.hid (HB8.out.trans (hb9.mono hB8))
  clear ho9 hb9 HP8 hB8
  go_wp2
  go_ret
  refine ⟨v9, rfl, ?_, HB9.out⟩
  rw [HE.out]
  exact HO9.out

set_option maxHeartbeats 4000000 in
set_option maxRecDepth 100000 in
theorem slin_any (n m : Nat) (hn : n ≤ m) (w : World) : Calls Tryz.prog 112 #[.int .i64 n, .int .i64 m] w fun e w' => e = .returned (.bool true) ∧ w' = w := by
  have h1 : (n : Int) ≤ m := by omega
  go_enter Tryz.func112, Tryz.ntmps112
  go_wp2
  go_ret
  exact ⟨rfl, rfl⟩

end Go.Proofs.YtccpdkjonepoiaaGreatDoor

/- Walks: a slot's bytes, a head's bytes. -/
namespace Go.Proofs.YtccpdkjonepoiaaGreatDoor
open Go.RowKit

attribute [local go_sem] Oper.semAt_some

def slotC (s : Gd.Slot) : Array Value := #[.int .i64 s.e, .int .i64 s.h, .int .i64 s.r, .int .i64 s.ke, .int .i64 s.ki, .int .i64 s.w]
def slotV (s : Gd.Slot) : Value := .agg (slotC s)
theorem slotC_get {w : World} {b : Nat} {s : Gd.Slot} (h : w.heap[b]? = some (.cells (slotC s) 48 (0, 0))) : w.cell? ⟨b, 0, none⟩ = some (.int .i64 s.e) ∧ w.cell? ⟨b, 1, none⟩ = some (.int .i64 s.h) ∧ w.cell? ⟨b, 2, none⟩ = some (.int .i64 s.r) ∧ w.cell? ⟨b, 3, none⟩ = some (.int .i64 s.ke) ∧ w.cell? ⟨b, 4, none⟩ = some (.int .i64 s.ki) ∧ w.cell? ⟨b, 5, none⟩ = some (.int .i64 s.w) :=
  ⟨cell_of_row w b 0 _ _ _ h, cell_of_row w b 1 _ _ _ h, cell_of_row w b 2 _ _ _ h, cell_of_row w b 3 _ _ _ h, cell_of_row w b 4 _ _ _ h, cell_of_row w b 5 _ _ _ h⟩
/-- a row of numbers that was just made -/
theorem nats_new2 (w : World) (a b : Nat) : NatsAt (w.alloc (.cells #[.int .i64 a, .int .i64 b] 3)) w.heap.size [a, b] := by
  have h := heap_alloc_new w (.cells #[.int .i64 a, .int .i64 b] 3)
  refine ⟨lt_get h, fun j n hj => ?_⟩
  rw [cell_of_row _ _ j _ _ _ h]
  match j, hj with
  | 0, hj => cases hj; rfl
  | 1, hj => cases hj; rfl
  | j + 2, hj => simp at hj
theorem nats_new1 (w : World) (a : Nat) : NatsAt (w.alloc (.cells #[.int .i64 a] 3)) w.heap.size [a] := by
  have h := heap_alloc_new w (.cells #[.int .i64 a] 3)
  refine ⟨lt_get h, fun j n hj => ?_⟩
  rw [cell_of_row _ _ j _ _ _ h]
  match j, hj with
  | 0, hj => cases hj; rfl
  | j + 1, hj => simp at hj

set_option maxHeartbeats 8000000 in
set_option maxRecDepth 100000 in
theorem putslot_any (s : Gd.Slot) (hs : s.May) (w : World) : Calls Tryz.prog 62 #[slotV s] w (Loads w (Gd.slotB s)) := by
  obtain ⟨wb, hwb⟩ : ∃ u, u = w.alloc (.cells (slotC s) 48) := ⟨_, rfl⟩
  have hbb : Below w.heap.size w wb := by rw [hwb]; exact (Below.refl _ _).alloc (Nat.le_refl _) _
  have hbc : wb.heap[w.heap.size]? = some (.cells (slotC s) 48 (0, 0)) := by rw [hwb]; exact heap_alloc_new _ _
  obtain ⟨b, hbe⟩ : ∃ b, b = w.heap.size := ⟨_, rfl⟩
  rw [← hbe] at hbc
  obtain ⟨m1, m2, m3, m4, m5, m6⟩ := hs
  have HE : Hid (Gd.slotB s = Gd.seal60 (Gd.nums [s.e, s.h] 4 ++ Gd.nums [s.r] 8 ++ Gd.nums [s.ke, s.ki] 1 ++ Gd.nums [s.w] 8)) := Lib.hid rfl
  obtain ⟨e, h, r, ke, ki, w0⟩ := s
  dsimp only at m1 m2 m3 m4 m5 m6 HE
  have HIe : Hid (∀ W, Calls Tryz.prog 112 #[.int .i64 e, .int .i64 1073741824] W fun e w' => e = .returned (.bool true) ∧ w' = W) := Lib.hid (slin_any e 1073741824 m1)
  have HIh : Hid (∀ W, Calls Tryz.prog 112 #[.int .i64 h, .int .i64 1024] W fun e w' => e = .returned (.bool true) ∧ w' = W) := Lib.hid (slin_any h 1024 m2)
  have HIr : Hid (∀ W, Calls Tryz.prog 112 #[.int .i64 r, .int .i64 1099511627776] W fun e w' => e = .returned (.bool true) ∧ w' = W) := Lib.hid (slin_any r 1099511627776 m3)
  have HIke : Hid (∀ W, Calls Tryz.prog 112 #[.int .i64 ke, .int .i64 255] W fun e w' => e = .returned (.bool true) ∧ w' = W) := Lib.hid (slin_any ke 255 m4)
  have HIki : Hid (∀ W, Calls Tryz.prog 112 #[.int .i64 ki, .int .i64 32] W fun e w' => e = .returned (.bool true) ∧ w' = W) := Lib.hid (slin_any ki 32 m5)
  have HIw : Hid (∀ W, Calls Tryz.prog 112 #[.int .i64 w0, .int .i64 1099511627776] W fun e w' => e = .returned (.bool true) ∧ w' = W) := Lib.hid (slin_any w0 1099511627776 m6)
  have HM := Lib.hid (And.intro m1 (And.intro m2 (And.intro m3 (And.intro m4 (And.intro m5 m6)))))
  have Hbe := Lib.hid hbe.symm
  have HBb := Lib.hid hbb
  have HWb := Lib.hid hwb
  have Hbc := Lib.hid hbc
  have hcc := slotC_get hbc
  unfold slotC at HWb
  dsimp only at hcc HWb
  obtain ⟨c0, c1, c2, c3, c4, c5⟩ := hcc
  unfold slotV slotC
  clear hbe hbb hwb hbc m1 m2 m3 m4 m5 m6
  go_enter Tryz.func62, Tryz.ntmps62
  go_upto_region 1 with fail
  rw [← HWb.out, Hbe.out]
  go_upto_region 5 with (first | (go_at_call 112; with_reducible refine (HIe.out _).mono ?_; rintro e w2 ⟨rfl, rfl⟩) | (go_at_call 112; with_reducible refine (HIh.out _).mono ?_; rintro e w2 ⟨rfl, rfl⟩) | (go_at_call 112; with_reducible refine (HIr.out _).mono ?_; rintro e w2 ⟨rfl, rfl⟩) | (go_at_call 112; with_reducible refine (HIke.out _).mono ?_; rintro e w2 ⟨rfl, rfl⟩) | (go_at_call 112; with_reducible refine (HIki.out _).mono ?_; rintro e w2 ⟨rfl, rfl⟩) | (go_at_call 112; with_reducible refine (HIw.out _).mono ?_; rintro e w2 ⟨rfl, rfl⟩))
  have HNu3 := Lib.hid (numbers_any (.slice none 0 0) ([]) 4 (Or.inr (Or.inr (Or.inl rfl))) [e, h] w2.heap.size 2 (w2.alloc (.cells #[.int .i64 e, .int .i64 h] 3)) (OwnB.at_ (B := 0) (World.ownsRow_nil _ _ _ _)) (nats_new2 w2 e h) (by simp) (by simp) (by simp [Gd.nums_length]) (fun n hn => by have h0 := HM.out; simp only [List.mem_cons, List.mem_nil_iff, or_false] at hn; omega))
  go_wp2_with fail
  refine HNu3.out.mono ?_
  rintro e w3 ⟨v3, rfl, ho3, hb3⟩
  rw [List.nil_append] at ho3
  have hsz3 : w2.heap.size ≤ (w2.alloc (.cells #[.int .i64 e, .int .i64 h] 3)).heap.size := by simp
  have HB3 := Lib.hid (HBb.out.trans ((((Below.refl w2.heap.size w2).alloc (Nat.le_refl _) (.cells #[.int .i64 e, .int .i64 h] 3)).trans (hb3.mono hsz3)).mono HBb.out.size))
  have HO3 := Lib.hid (ho3.mono (Nat.le_trans HBb.out.size hsz3))
  have hbc3 := ((((Below.refl w2.heap.size w2).alloc (Nat.le_refl _) (.cells #[.int .i64 e, .int .i64 h] 3)).trans (hb3.mono hsz3)).block b (lt_get Hbc.out)).trans Hbc.out
  have Hbc3 := Lib.hid hbc3
  clear ho3 hb3 hsz3 HNu3
  clear c0 c1 c2 c3 c4 c5
  have hcc3 := slotC_get hbc3
  dsimp only at hcc3
  obtain ⟨c0, c1, c2, c3, c4, c5⟩ := hcc3
  clear hbc3
  have HNu4 := Lib.hid (numbers_any v3 (Gd.nums [e, h] 4) 8 (Or.inr (Or.inr (Or.inr rfl))) [r] w3.heap.size 1 (w3.alloc (.cells #[.int .i64 r] 3)) (HO3.out.at_.keep ((Below.refl w3.heap.size w3).alloc (Nat.le_refl _) _)) (nats_new1 w3 r) (by simp) (by simp) (by simp [Gd.nums_length]) (fun n hn => by have h0 := HM.out; simp only [List.mem_cons, List.mem_nil_iff, or_false] at hn; omega))
  go_wp2_with fail
  refine HNu4.out.mono ?_
  rintro e w4 ⟨v4, rfl, ho4, hb4⟩
  
  have hsz4 : w3.heap.size ≤ (w3.alloc (.cells #[.int .i64 r] 3)).heap.size := by simp
  have HB4 := Lib.hid (HB3.out.trans ((((Below.refl w3.heap.size w3).alloc (Nat.le_refl _) (.cells #[.int .i64 r] 3)).trans (hb4.mono hsz4)).mono HB3.out.size))
  have HO4 := Lib.hid (ho4.mono (Nat.le_trans HB3.out.size hsz4))
  have hbc4 := ((((Below.refl w3.heap.size w3).alloc (Nat.le_refl _) (.cells #[.int .i64 r] 3)).trans (hb4.mono hsz4)).block b (lt_get Hbc3.out)).trans Hbc3.out
  have Hbc4 := Lib.hid hbc4
  clear ho4 hb4 hsz4 HNu4
  clear c0 c1 c2 c3 c4 c5
  have hcc4 := slotC_get hbc4
  dsimp only at hcc4
  obtain ⟨c0, c1, c2, c3, c4, c5⟩ := hcc4
  clear hbc4
  have HNu5 := Lib.hid (numbers_any v4 (Gd.nums [e, h] 4 ++ Gd.nums [r] 8) 1 (Or.inl rfl) [ke, ki] w4.heap.size 2 (w4.alloc (.cells #[.int .i64 ke, .int .i64 ki] 3)) (HO4.out.at_.keep ((Below.refl w4.heap.size w4).alloc (Nat.le_refl _) _)) (nats_new2 w4 ke ki) (by simp) (by simp) (by simp [Gd.nums_length]) (fun n hn => by have h0 := HM.out; simp only [List.mem_cons, List.mem_nil_iff, or_false] at hn; omega))
  go_wp2_with fail
  refine HNu5.out.mono ?_
  rintro e w5 ⟨v5, rfl, ho5, hb5⟩
  
  have hsz5 : w4.heap.size ≤ (w4.alloc (.cells #[.int .i64 ke, .int .i64 ki] 3)).heap.size := by simp
  have HB5 := Lib.hid (HB4.out.trans ((((Below.refl w4.heap.size w4).alloc (Nat.le_refl _) (.cells #[.int .i64 ke, .int .i64 ki] 3)).trans (hb5.mono hsz5)).mono HB4.out.size))
  have HO5 := Lib.hid (ho5.mono (Nat.le_trans HB4.out.size hsz5))
  have hbc5 := ((((Below.refl w4.heap.size w4).alloc (Nat.le_refl _) (.cells #[.int .i64 ke, .int .i64 ki] 3)).trans (hb5.mono hsz5)).block b (lt_get Hbc4.out)).trans Hbc4.out
  have Hbc5 := Lib.hid hbc5
  clear ho5 hb5 hsz5 HNu5
  clear c0 c1 c2 c3 c4 c5
  have hcc5 := slotC_get hbc5
  dsimp only at hcc5
  obtain ⟨c0, c1, c2, c3, c4, c5⟩ := hcc5
  clear hbc5
  have HNu6 := Lib.hid (numbers_any v5 (Gd.nums [e, h] 4 ++ Gd.nums [r] 8 ++ Gd.nums [ke, ki] 1) 8 (Or.inr (Or.inr (Or.inr rfl))) [w0] w5.heap.size 1 (w5.alloc (.cells #[.int .i64 w0] 3)) (HO5.out.at_.keep ((Below.refl w5.heap.size w5).alloc (Nat.le_refl _) _)) (nats_new1 w5 w0) (by simp) (by simp) (by simp [Gd.nums_length]) (fun n hn => by have h0 := HM.out; simp only [List.mem_cons, List.mem_nil_iff, or_false] at hn; omega))
  go_wp2_with fail
  refine HNu6.out.mono ?_
  rintro e w6 ⟨v6, rfl, ho6, hb6⟩
  
  have hsz6 : w5.heap.size ≤ (w5.alloc (.cells #[.int .i64 w0] 3)).heap.size := by simp
  have HB6 := Lib.hid (HB5.out.trans ((((Below.refl w5.heap.size w5).alloc (Nat.le_refl _) (.cells #[.int .i64 w0] 3)).trans (hb6.mono hsz6)).mono HB5.out.size))
  have HO6 := Lib.hid (ho6.mono (Nat.le_trans HB5.out.size hsz6))
  have hbc6 := ((((Below.refl w5.heap.size w5).alloc (Nat.le_refl _) (.cells #[.int .i64 w0] 3)).trans (hb6.mono hsz6)).block b (lt_get Hbc5.out)).trans Hbc5.out
  have Hbc6 := Lib.hid hbc6
  clear ho6 hb6 hsz6 HNu6
  clear c0 c1 c2 c3 c4 c5
  have hcc6 := slotC_get hbc6
  dsimp only at hcc6
  obtain ⟨c0, c1, c2, c3, c4, c5⟩ := hcc6
  clear hbc6
  have HSe := Lib.hid (seal_any v6 (Gd.nums [e, h] 4 ++ Gd.nums [r] 8 ++ Gd.nums [ke, ki] 1 ++ Gd.nums [w0] 8) w.heap.size w6 HO6.out (by simp [Gd.nums_length]) HB6.out.size)
  clear c0 c1 c2 c3 c4 c5
  go_wp2_with fail
  refine HSe.out.mono ?_
  rintro e w7 ⟨v7, rfl, ho7, hb7⟩
  have HO7 := Lib.hid ho7
  have HB7 := Lib.hid (HB6.out.trans hb7)
  clear ho7 hb7
  go_wp2
  go_ret2
  refine ⟨v7, rfl, ?_, HB7.out⟩
  rw [HE.out]
  exact HO7.out

set_option maxHeartbeats 8000000 in
set_option maxRecDepth 100000 in
theorem puthead_any (n : Nat) (hn : n ≤ 1152921504606846976) (w : World) : Calls Tryz.prog 65 #[.int .i64 n] w (Loads w (Gd.headB n)) := by
  have HI : Hid (∀ W, Calls Tryz.prog 112 #[.int .i64 n, .int .i64 1152921504606846976] W fun e w' => e = .returned (.bool true) ∧ w' = W) := Lib.hid (slin_any n 1152921504606846976 hn)
  have hcv := Lib.run_convert_bytes_const (P := Tryz.prog) w 22 5 #[.int .u8 67, .int .u8 77, .int .u8 78, .int .u8 49, .int .u8 0, .int .u8 0, .int .u8 0, .int .u8 0] 8 8 Tryz.underlying22 Tryz.underlying5
  obtain ⟨w1, hw1⟩ : ∃ u, u = w.alloc (.cells #[.int .u8 67, .int .u8 77, .int .u8 78, .int .u8 49, .int .u8 0, .int .u8 0, .int .u8 0, .int .u8 0] 5 ((#[.int .u8 67, .int .u8 77, .int .u8 78, .int .u8 49, .int .u8 0, .int .u8 0, .int .u8 0, .int .u8 0] : Array Value).size, (#[.int .u8 67, .int .u8 77, .int .u8 78, .int .u8 49, .int .u8 0, .int .u8 0, .int .u8 0, .int .u8 0] : Array Value).size + 1)) := ⟨_, rfl⟩
  rw [← hw1] at hcv
  have hb1 : Below w.heap.size w w1 := by rw [hw1]; exact (Below.refl _ _).alloc (Nat.le_refl _) _
  have hg1 : w1.heap[w.heap.size]? = some (.cells #[.int .u8 67, .int .u8 77, .int .u8 78, .int .u8 49, .int .u8 0, .int .u8 0, .int .u8 0, .int .u8 0] 5 (8, 9)) := by rw [hw1]; exact heap_alloc_new _ _
  obtain ⟨b, hbe⟩ : ∃ b, b = w.heap.size := ⟨_, rfl⟩
  rw [← hbe] at hg1
  have hby : BytesAt w1 (.slice (some ⟨b, 0, none⟩) 8 8) [67, 77, 78, 49, 0, 0, 0, 0] := ⟨_, 8, rfl, Or.inr ⟨b, 0, rfl, lt_get hg1, fun j x hx => by
    rw [Nat.zero_add, cell_of_row w1 b j _ _ _ hg1]
    match j, hx with
    | 0, hx => cases hx; rfl
    | 1, hx => cases hx; rfl
    | 2, hx => cases hx; rfl
    | 3, hx => cases hx; rfl
    | 4, hx => cases hx; rfl
    | 5, hx => cases hx; rfl
    | 6, hx => cases hx; rfl
    | 7, hx => cases hx; rfl
    | j + 8, hx => simp at hx⟩⟩
  have hba := (Below.refl w1.heap.size w1).alloc (Nat.le_refl _) (.cells #[.int .i64 n] 3)
  have HNu := Lib.hid (numbers_any (.slice (some ⟨b, 0, none⟩) 8 8) [67, 77, 78, 49, 0, 0, 0, 0] 8 (Or.inr (Or.inr (Or.inr rfl))) [n] w1.heap.size 1 (w1.alloc (.cells #[.int .i64 n] 3)) (hby.keep hba) (nats_new1 w1 n) (by simp) (by simp) (by simp) (fun k hk => by simp at hk; omega))
  have HBa := Lib.hid (hb1.trans (hba.mono hb1.size))
  have HW1 := Lib.hid hw1.symm
  have Hbe := Lib.hid hbe.symm
  have HE : Hid (Gd.headB n = Gd.seal60 ([67, 77, 78, 49, 0, 0, 0, 0] ++ Gd.nums [n] 8)) := Lib.hid rfl
  clear hn hw1 hb1 hg1 hbe hby hba
  go_enter Tryz.func65, Tryz.ntmps65
  go_upto_region 3 with (go_at_call 112; with_reducible refine (HI.out _).mono ?_; rintro e w2 ⟨rfl, rfl⟩)
  go_wp2_with fail
  rw [Hbe.out]
  refine HNu.out.mono ?_
  rintro e w3 ⟨v3, rfl, ho3, hb3⟩
  have HB3 := Lib.hid (HBa.out.trans (hb3.mono HBa.out.size))
  have HO3 := Lib.hid (ho3.mono HBa.out.size)
  have HSe := Lib.hid (seal_any v3 _ w2.heap.size w3 HO3.out (by simp [Gd.nums_length]) HB3.out.size)
  clear ho3 hb3 HNu
  go_wp2_with fail
  refine HSe.out.mono ?_
  rintro e w4 ⟨v4, rfl, ho4, hb4⟩
  have HO4 := Lib.hid ho4
  have HB4 := Lib.hid (HB3.out.trans hb4)
  clear ho4 hb4
  go_wp2
  go_ret2
  refine ⟨v4, rfl, ?_, HB4.out⟩
  rw [HE.out]
  exact HO4.out

end Go.Proofs.YtccpdkjonepoiaaGreatDoor
