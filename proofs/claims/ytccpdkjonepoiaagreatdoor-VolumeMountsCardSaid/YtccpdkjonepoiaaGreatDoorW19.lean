/- Walk: plog.Redo, of any bytes. -/
import Derived.Test.YtccpdkjonepoiaaGreatDoorW18
import Derived.Test.YtccpdkjonepoiaaGreatDoorW08
import Derived.Test.YtccpdkjonepoiaaGreatDoorW10
import Derived.Test.YtccpdkjonepoiaaGreatDoorW11
import Derived.Test.YtccpdkjonepoiaaGreatDoorW00
set_option linter.unusedVariables false
set_option linter.unusedSimpArgs false
set_option linter.unusedSectionVars false
namespace Go.Proofs.YtccpdkjonepoiaaGreatDoor
open Go.RowKit Go.Shelf

attribute [local go_sem] Oper.semAt_some

set_option maxHeartbeats 4000000 in
set_option maxRecDepth 100000 in
theorem redo_gen {g m sb lb ab n Kn : Nat} {S : List UInt8} (w : World) (h : MemAt w m sb lb ab n S Kn) (hL : LogAt w g m 2688 4096) (hS : S.length = 23168) (hK : Kn < 100000000000) :
    Calls Tryz.prog 44 #[.pointer (some ⟨g, 0, none⟩)] w fun e w' => (∃ c : Nat, e = .returned (.int .i64 c) ∧ c ≤ 511) ∧ (∃ S2 : List UInt8, S2.length = 23168 ∧ (Gd.part S 2688 8 = Gd.le 0 8 → S2 = S) ∧ MemAt w' m sb lb ab n (Gd.splice S2 2688 (List.replicate 8 0)) (Kn + 654080000 + 20000)) ∧ Only (Mem3 sb lb ab) w w' := by
  obtain ⟨w0, hw0⟩ : ∃ u, u = (w.alloc (.cells #[.pointer (some ⟨g, 0, none⟩)] 102)).alloc (.cells #[.int .i64 0] 3) := ⟨_, rfl⟩
  have hb0 : Below w.heap.size w w0 := by rw [hw0]; exact ((Below.refl _ _).alloc (Nat.le_refl _) _).alloc (by simp) _
  have hbl : CellsAt w0 w.heap.size 102 #[.pointer (some ⟨g, 0, none⟩)] := by rw [hw0]; exact CellsAt.alloc (heap_alloc_new w _) _
  have hbm : CellsAt w0 (w.heap.size + 1) 3 #[.int .i64 0] := by
    have := heap_alloc_new (w.alloc (.cells #[.pointer (some ⟨g, 0, none⟩)] 102)) (.cells #[.int .i64 0] 3)
    rw [World.size_alloc] at this
    rw [hw0]
    exact this
  obtain ⟨bl, hble⟩ : ∃ bl, bl = w.heap.size := ⟨_, rfl⟩
  have hM0 := h.below hb0
  have hL0 : LogAt w0 g m 2688 4096 := (hb0.block g (lt_get hL)).trans hL
  have hlow : LowAt m sb lb ab g bl := by
    have h1 := h.lts m (by simp)
    have h2 := h.lts sb (by simp)
    have h3 := h.lts lb (by simp)
    have h4 := h.lts ab (by simp)
    have h5 := lt_get hL
    rw [hble]
    exact ⟨h1, h2, h3, h4, h5⟩
  rw [← hble] at hbl hbm
  have HEa := Lib.hid (each_gen w0 hM0 hL0 hlow hS hbm hbl (by omega) (by rw [hble]; exact hb0.size) hK)
  have HS := Lib.hid hS
  have HK := Lib.hid hK
  have HW0 := Lib.hid hw0
  have HB0 := Lib.hid hb0
  have Hbl := Lib.hid hbl
  have HL0 := Lib.hid hL0
  have HM0 := Lib.hid hM0
  have HLo := Lib.hid hlow
  have HBe := Lib.hid hble.symm
  have l0 := cell_of_row w0 bl 0 _ _ _ hbl
  clear h hL hS hK hw0 hb0 hbl hbm hble hM0 hL0 hlow
  go_enter Tryz.func44, Tryz.ntmps44
  go_upto_region 2 with fail
  rw [← HW0.out, HBe.out]
  go_wp2_with fail
  refine HEa.out.mono ?_
  rintro e w1 ⟨⟨u1, rfl⟩, ⟨S2, c, hS2, hz2, hc, hM1, hC1⟩, hO1⟩
  have HS2 := Lib.hid (hS2.trans HS.out)
  have HZ2 := Lib.hid hz2
  have Hc := Lib.hid hc
  have HNb : Hid (¬ (Mem3 sb lb ab bl ∨ bl = bl + 1)) := Lib.hid (by
    rintro (e | e)
    · exact HLo.out.mem3 (Nat.le_refl _) e
    · omega)
  have HM1 := Lib.hid hM1
  have HO1 := Lib.hid hO1
  have HC1 := Lib.hid hC1
  have l1 := cell_of_row w1 bl 0 _ _ _ ((hO1.block bl Hbl.out.lt HNb.out).trans Hbl.out)
  have HL1 := Lib.hid (HL0.out.keep hO1 (by
    rintro (e | e)
    · exact HL0.out.apart HM0.out e
    · have := HLo.out.g; omega))
  obtain ⟨g1, -, -⟩ := cell2 HL1.out
  clear hM1 hO1 hC1 HEa l0 hS2 hz2 hc
  go_wp2_with fail
  refine (fence_at w1 HM1.out).mono ?_
  rintro e w2 ⟨rfl, hM2, hO2⟩
  have HO2 := Lib.hid (HO1.out.trans (hO2.mono (G := fun k => Mem3 sb lb ab k ∨ k = bl + 1) fun k _ e => Or.inl (e.elim (fun e => Or.inr (Or.inl e)) fun e => Or.inr (Or.inr e))) fun _ _ e => e)
  have HM2 := Lib.hid hM2
  have l2 := cell_of_row w2 bl 0 _ _ _ ((HO2.out.block bl Hbl.out.lt HNb.out).trans Hbl.out)
  have HL2 := Lib.hid (HL0.out.keep HO2.out (by
    rintro (e | e)
    · exact HL0.out.apart HM0.out e
    · have := HLo.out.g; omega))
  have HC2 : Hid (CellsAt w2 (bl + 1) 3 #[.int .i64 c]) := Lib.hid ((hO2.block _ HC1.out.lt (by
    rintro (e | e)
    · have := HLo.out.lb; omega
    · have := HLo.out.ab; omega)).trans HC1.out)
  clear hM2 hO2 HM1 HO1 HC1 HL1 l1 g1
  go_wp2_with fail
  refine (clear_at w2 HM2.out HL2.out HS2.out (by have := HK.out; omega)).mono ?_
  rintro e w3 ⟨rfl, hM3, hO3⟩
  have HM3 := Lib.hid hM3
  have l3 := cell_of_row w3 (bl + 1) 0 _ _ _ ((hO3.block _ HC2.out.lt (HLo.out.mem3 (by omega))).trans HC2.out)
  have HO3 := Lib.hid (HO2.out.trans (hO3.mono (G := fun k => Mem3 sb lb ab k ∨ k = bl + 1) fun k _ e => Or.inl e) fun _ _ e => e)
  clear hM3 hO3 l2
  go_wp2
  go_ret
  refine ⟨⟨c, rfl, Hc.out⟩, ⟨S2, HS2.out, fun e => (HZ2.out e).1, HM3.out⟩, ?_⟩
  refine ⟨HO3.out.os.trans HB0.out.os, HO3.out.tape.trans HB0.out.tape, HO3.out.output.trans HB0.out.output, Nat.le_trans HB0.out.size HO3.out.size, fun k hk hnk => ?_⟩
  refine (HO3.out.block k (Nat.lt_of_lt_of_le hk HB0.out.size) ?_).trans (HB0.out.block k hk)
  rintro (e | e)
  · exact hnk e
  · have := HBe.out; omega


end Go.Proofs.YtccpdkjonepoiaaGreatDoor

/- Walk: inode.Read of any bytes. -/
namespace Go.Proofs.YtccpdkjonepoiaaGreatDoor
namespace Gd
/-- what any 64 bytes say -/
def rawI (L : List UInt8) : Ino := ⟨(L.getD 0 0).toNat, (L.getD 1 0).toNat, getN L 2 2, (List.range 4).map fun j => ((L.getD (4 + j) 0).toNat : Int), (List.range 8).map fun j => ((L.getD (8 + j) 0).toNat : Int)⟩
structure InoRaw (x : Ino) (L : List UInt8) : Prop where
  len : L.length = 64
  k : ∃ b : UInt8, L[0]? = some b ∧ (b.toNat : Int) = x.k
  l : ∃ b : UInt8, L[1]? = some b ∧ (b.toNat : Int) = x.l
  s : x.s = getN L 2 2
  B : ∀ j n, x.B[j]? = some n → ∃ b : UInt8, L[4 + j]? = some b ∧ (b.toNat : Int) = n
  O : ∀ j n, x.O[j]? = some n → ∃ b : UInt8, L[8 + j]? = some b ∧ (b.toNat : Int) = n
theorem raw_shape (L : List UInt8) : (rawI L).Shape := ⟨by simp [rawI], by simp [rawI]⟩
theorem raw_one {L : List UInt8} {j : Nat} (h : j < L.length) : L[j]? = some (L.getD j 0) := by
  rw [List.getD_eq_getElem?_getD, List.getElem?_eq_getElem h]
  rfl
theorem raw_bytes {L : List UInt8} (h : L.length = 64) : InoRaw (rawI L) L := by
  refine ⟨h, ⟨_, raw_one (by omega), rfl⟩, ⟨_, raw_one (by omega), rfl⟩, rfl, fun j n hn => ?_, fun j n hn => ?_⟩
  · have hj := (List.getElem?_eq_some_iff.1 hn).1
    have hj4 : j < 4 := by simpa [rawI] using hj
    refine ⟨_, raw_one (by omega), ?_⟩
    simp only [rawI, List.getElem?_map, List.getElem?_range hj4, Option.map_some, Option.some.injEq] at hn
    exact hn
  · have hj := (List.getElem?_eq_some_iff.1 hn).1
    have hj8 : j < 8 := by simpa [rawI] using hj
    refine ⟨_, raw_one (by omega), ?_⟩
    simp only [rawI, List.getElem?_map, List.getElem?_range hj8, Option.map_some, Option.some.injEq] at hn
    exact hn
end Gd
open Go.RowKit

attribute [local go_sem] Oper.semAt_some

theorem raw_all (L : List UInt8) : AllI (inoL (Gd.rawI L)) := fun n hn => by
  have hr : 0 ≤ n ∧ n < 65536 := by
    simp only [inoL, Gd.rawI, List.mem_cons, List.mem_append, List.mem_map] at hn
    rcases hn with rfl | rfl | rfl | ⟨j, _, rfl⟩ | ⟨j, _, rfl⟩
    · have := (L.getD 0 0).toNat_lt; omega
    · have := (L.getD 1 0).toNat_lt; omega
    · have : Gd.getN L 2 2 < 65536 := getN_lt L 2 2
      omega
    · have := (L.getD (4 + j) 0).toNat_lt; omega
    · have := (L.getD (8 + j) 0).toNat_lt; omega
  have hI : -9223372036854775808 ≤ n ∧ n ≤ 9223372036854775807 := by omega
  unfold I64
  simp [Lit.wf, show IntKind.i64.min = -9223372036854775808 from rfl, show IntKind.i64.max = 9223372036854775807 from rfl]
  omega

set_option maxHeartbeats 8000000 in
set_option maxRecDepth 100000 in
theorem readi_bad (L : List UInt8) (hlen : L.length = 64) (hno : ∀ x : Gd.Ino, x.Shape → Gd.mayI x = true → L ≠ Gd.inoB x) (v : Value) (B0 : Nat) (w : World) (hv : OwnB w B0 v L) : Calls Tryz.prog 53 #[v] w fun e w' => ∃ E : Int, E ≠ 0 ∧ e = .returned (.tuple #[inoV Gd.noIno, .int .i64 E]) ∧ Below w.heap.size w w' := by
  obtain ⟨b, c, rfl, hlc, -, hbl, hcell⟩ := hv.lies (by intro e; rw [e] at hlen; simp at hlen)
  obtain ⟨x, hx⟩ : ∃ x, x = Gd.rawI L := ⟨_, rfl⟩
  have hs : x.Shape := by rw [hx]; exact Gd.raw_shape L
  have hI : AllI (inoL x) := by rw [hx]; exact raw_all L
  have hIB : Gd.InoRaw x L := by rw [hx]; exact Gd.raw_bytes hlen
  have hne : L ≠ List.replicate 64 0 := hno Gd.noIno ⟨rfl, rfl⟩ (by decide)
  rw [hlen] at hlc ⊢
  -- the result's variable, and the noughts
  obtain ⟨w0, hw0⟩ : ∃ u, u = w.alloc (.cells zIno 40) := ⟨_, rfl⟩
  have hb0 : Below w.heap.size w w0 := by rw [hw0]; exact (Below.refl _ _).alloc (Nat.le_refl _) _
  have hr0 : w0.heap[w.heap.size]? = some (.cells zIno 40 (0, 0)) := by rw [hw0]; exact heap_alloc_new _ _
  obtain ⟨r, hr⟩ : ∃ r, r = w.heap.size := ⟨_, rfl⟩
  rw [← hr] at hr0
  have hmk : (Instr.makeSlice 22 (.int .i64 64) (.int .i64 64)).run Tryz.prog w0 = .ok (.slice (some ⟨w0.heap.size, 0, none⟩) 64 64) (w0.alloc (.cells (cellsB (List.replicate 64 0)) 5)) := made_bytes 64 (by omega) w0
  have hom := own_made w0 64 (by omega) 0 (Nat.zero_le _)
  have hbm : Below w0.heap.size w0 (w0.alloc (.cells (cellsB (List.replicate 64 0)) 5)) := (Below.refl _ _).alloc (Nat.le_refl _) _
  obtain ⟨wm, hwm⟩ : ∃ u, u = w0.alloc (.cells (cellsB (List.replicate 64 0)) 5) := ⟨_, rfl⟩
  rw [← hwm] at hmk hom hbm
  have HBm := Lib.hid (hb0.trans (hbm.mono hb0.size))
  have hcm : ∀ (j : Nat) (y : UInt8), L[j]? = some y → wm.cell? ⟨b, j, none⟩ = some (.int .u8 y.toNat) := fun j y hy => (HBm.out.cell (p := ⟨b, j, none⟩) hbl).trans (hcell j y hy)
  have hblm : b < wm.heap.size := Nat.lt_of_lt_of_le hbl HBm.out.size
  have hby64 := bytesAt_part (c := c) hblm hcm 64 (by omega)
  rw [List.take_of_length_le (by omega)] at hby64
  have HEq := Lib.hid (bequal_any (.slice (some ⟨b, 0, none⟩) 64 c) (.slice (some ⟨w0.heap.size, 0, none⟩) 64 64) L (List.replicate 64 0) wm hby64 hom.at_)
  have HHead := Lib.hid fun n hn => bytesAt_part (c := c) hblm hcm n hn
  have HR0 := Lib.hid ((hbm.block r (lt_get hr0)).trans hr0)
  have HW0 := Lib.hid hw0
  have Hr := Lib.hid hr.symm
  have HNo := Lib.hid hno
  have HLen := Lib.hid hlen
  have HBy64 := Lib.hid hby64
  have HCm := Lib.hid (And.intro hblm hcm)
  have HSh := Lib.hid hs
  have HAll := Lib.hid hI
  have hc64 : (64 : Int) ≤ c := by omega
  have hc60 : (60 : Int) ≤ c := by omega
  have hc64n : 64 ≤ c := hlc
  clear hx hno hv hs hlen hlc hbl hcell hI hw0 hb0 hr0 hr hom hbm hwm hcm hblm hby64
  go_enter Tryz.func53, Tryz.ntmps53
  go_upto_region 1 with fail
  rw [show w.alloc (.cells #[.int .i64 0, .int .i64 0, .int .i64 0, .int .i64 0, .int .i64 0, .int .i64 0, .int .i64 0, .int .i64 0, .int .i64 0, .int .i64 0, .int .i64 0, .int .i64 0, .int .i64 0, .int .i64 0, .int .i64 0] 40) = w0 from HW0.out.symm, Hr.out]
  go_upto_region 4 with fail
  have hLz : decide (L = List.replicate 64 0) = false := decide_eq_false hne
  rw [hLz] at HEq
  have HIB := Lib.hid hIB
  obtain ⟨cc, hcc⟩ : ∃ cc, cc = Gd.crc (L.take 60) := ⟨_, rfl⟩
  have hcl : cc < 4294967296 := by rw [hcc]; exact Gd.crc_lt _
  obtain ⟨sn, hsn⟩ : ∃ n : Nat, n = Gd.getN L 2 2 := ⟨_, rfl⟩
  have hs2 : sn < 65536 := by rw [hsn]; exact getN_lt L 2 2
  have hxs : x.s = sn := by rw [hsn]; exact hIB.s
  have hg2 : Gd.getB L 2 2 = true ∧ Gd.get L 2 2 = (sn : Int) := by
    have h1 : Gd.getN L 2 2 = sn := hsn.symm
    have h2 : Gd.getB L 2 2 = true := by
      unfold Gd.getB
      rw [show (2 : Int).toNat = 2 from rfl, h1, hIB.len]
      simp
      omega
    refine ⟨h2, ?_⟩
    unfold Gd.get
    rw [if_pos h2, show (2 : Int).toNat = 2 from rfl, h1]
  obtain ⟨g1, hg1⟩ : ∃ g, g = Gd.get L 60 4 := ⟨_, rfl⟩
  have HG1 : Hid (Calls Tryz.prog 103 #[.slice (some ⟨b, 0, none⟩) 64 c, .int .i64 60, .int .i64 4] wm fun e w' => e = .returned (.tuple #[.int .i64 g1, .bool (Gd.getB L 60 4)]) ∧ w' = wm) := Lib.hid (by
    have := get_any (.slice (some ⟨b, 0, none⟩) 64 c) L 60 4 (Or.inr (Or.inr (Or.inl rfl))) (nat_I64 (n := 60) (by omega)) wm HBy64.out (by have := HLen.out; omega)
    rw [← hg1] at this
    exact this)
  have HCr := Lib.hid (crc_any (.slice (some ⟨b, 0, none⟩) 60 c) (L.take 60) wm (HHead.out 60 (by have := HLen.out; omega)) (by rw [List.length_take]; have := HLen.out; omega))
  rw [← hcc] at HCr
  have HG2 : Hid (∀ W, Below wm.heap.size wm W → Calls Tryz.prog 103 #[.slice (some ⟨b, 0, none⟩) 64 c, .int .i64 2, .int .i64 2] W fun e w' => e = .returned (.tuple #[.int .i64 sn, .bool true]) ∧ w' = W) := Lib.hid fun W hW => by
    have := get_any (.slice (some ⟨b, 0, none⟩) 64 c) L 2 2 (Or.inr (Or.inl rfl)) (nat_I64 (n := 2) (by omega)) W (HBy64.out.keep hW) (by have := HLen.out; omega)
    rw [hg2.1, hg2.2] at this
    exact this
  have hc2 : (cc : Int) < 4294967296 := by omega
  have Hsn := Lib.hid hxs
  clear hcc hg1 hg2 hsn hxs hIB hLz HHead
  go_wp2_with (go_at_call 102; with_reducible refine HEq.out.mono ?_; rintro e w1 ⟨rfl, rfl⟩)
  refine HG1.out.mono ?_
  rintro e w2 ⟨rfl, rfl⟩
  clear HEq HG1
  go_wp2_with fail
  refine HCr.out.mono ?_
  rintro e w3 ⟨rfl, hb3⟩
  have HB3 := Lib.hid hb3
  clear hb3 HCr
  by_cases hgc : ¬ g1 = cc
  · have HR3 := Lib.hid ((HB3.out.block r (lt_get HR0.out)).trans HR0.out)
    have hsb : (g1 != (cc : Int)) = true := by simp [hgc]
    clear hgc
    go_wp2_with (first | (refine wpList_store_mid rfl 40 _ _ rfl r 0 zIno rfl rfl (there_at HR3.out rfl) Tryz.sizeIno (by rw [zIno_eq]; exact inoC_one _) ?_; obtain ⟨hbw, hbg⟩ := whole_at HR3.out (vs := zIno.toList) (B := r) rfl (Nat.le_refl r); generalize (World.setCells _ _ _ _) = wf at hbw hbg ⊢))
    refine bodyPost_ret (results_row_tmp rfl _ _ r 40 zIno (0, 0) _ rfl hbg Tryz.underlying40 rfl Tryz.sizeIno) rfl ?_
    exact ⟨_, by decide, rfl, (HBm.out.trans (HB3.out.mono HBm.out.size)).trans (by rw [Hr.out]; exact hbw)⟩
  obtain rfl : g1 = cc := Classical.not_not.1 hgc
  clear hgc
  go_wp2_with fail
  refine (HG2.out w3 HB3.out).mono ?_
  rintro e w4 ⟨rfl, rfl⟩
  clear HG2
  obtain ⟨y0, hy0, hye0⟩ := HIB.out.k
  obtain ⟨y1, hy1, hye1⟩ := HIB.out.l
  have hdr : Below w4.heap.size w4 w4.drew := (Below.refl _ _).drew
  have hbd : Below w2.heap.size w2 w4.drew := HB3.out.trans (hdr.mono HB3.out.size)
  have hs0 : w4.drew.cell? ⟨b, 0, none⟩ = some (.int .u8 y0.toNat) ∧ w4.drew.cell? ⟨b, 1, none⟩ = some (.int .u8 y1.toNat) := ⟨(hbd.cell (p := ⟨b, 0, none⟩) HCm.out.1).trans (HCm.out.2 0 y0 hy0), (hbd.cell (p := ⟨b, 1, none⟩) HCm.out.1).trans (HCm.out.2 1 y1 hy1)⟩
  have Hye := Lib.hid (And.intro hye0 hye1)
  have HBd := Lib.hid hbd
  clear hy0 hye0 hy1 hye1 hdr hbd
  have hw0 : IntKind.i64.wrap (y0.toNat : Int) = y0.toNat := by rw [IntKind.wrap_i64]; have := y0.toNat_lt; omega
  have hw1 : IntKind.i64.wrap (y1.toNat : Int) = y1.toNat := by rw [IntKind.wrap_i64]; have := y1.toNat_lt; omega
  -- the inode's variable
  obtain ⟨ib, hib⟩ : ∃ ib, ib = w4.heap.size := ⟨_, rfl⟩
  obtain ⟨wA, hwA⟩ : ∃ u, u = (w4.alloc (.cells zIno 40)).drew := ⟨_, rfl⟩
  have hnA : wA.heap[w4.heap.size]? = some (.cells zIno 40 (0, 0)) := by rw [hwA]; exact heap_alloc_new w4 _
  have hbA : Below w4.heap.size w4 wA := by rw [hwA]; exact ((Below.refl w4.heap.size w4).alloc (Nat.le_refl _) _).drew
  have HBd4 : Hid (Below w2.heap.size w2 w4) := Lib.hid HB3.out
  obtain ⟨vs, hvs⟩ : ∃ vs : Array Value, vs = #[.int .i64 y0.toNat, .int .i64 y1.toNat, .int .i64 sn, .int .i64 0, .int .i64 0, .int .i64 0, .int .i64 0, .int .i64 0, .int .i64 0, .int .i64 0, .int .i64 0, .int .i64 0, .int .i64 0, .int .i64 0, .int .i64 0] := ⟨_, rfl⟩
  have hvz : vs = inoC (partI x 0 0) := by
    unfold inoC inoL partI
    rw [hvs, ← Hye.out.1, ← Hye.out.2, Hsn.out]
    rfl
  have hvsz : vs.size = 15 := by rw [hvs]; rfl
  obtain ⟨hbB, hnB⟩ := whole_at hnA (vs := vs.toList) (B := w4.heap.size) (by rw [Array.length_toList, hvsz]; rfl) (Nat.le_refl _)
  rw [← hib] at hnA hbA hbB hnB
  have hsA := And.intro ((hbA.cell (p := ⟨b, 0, none⟩) (Nat.lt_of_lt_of_le HCm.out.1 (by rw [hib]; exact HBd4.out.size))).trans hs0.1) ((hbA.cell (p := ⟨b, 1, none⟩) (Nat.lt_of_lt_of_le HCm.out.1 (by rw [hib]; exact HBd4.out.size))).trans hs0.2)
  have hsB := And.intro ((hbB.cell (p := ⟨b, 0, none⟩) (Nat.lt_of_lt_of_le HCm.out.1 (by rw [hib]; exact HBd4.out.size))).trans hsA.1) ((hbB.cell (p := ⟨b, 1, none⟩) (Nat.lt_of_lt_of_le HCm.out.1 (by rw [hib]; exact HBd4.out.size))).trans hsA.2)
  obtain ⟨wB, hwB⟩ : ∃ u, u = wA.setCells ib 0 vs.toList := ⟨_, rfl⟩
  rw [← hwB] at hnB hbB hsB
  have HIB0 : Hid (InoAt wB ib (partI x 0 0)) := Lib.hid ⟨by rw [hnB]; congr 2, partI_shape HSh.out (by omega) (by omega)⟩
  have hib2 : ib < wB.heap.size := lt_get HIB0.out.row
  have HBw : Hid (Below w.heap.size w wB ∧ Below w2.heap.size w2 wB ∧ w2.heap.size ≤ ib) := Lib.hid (by
    have h1 := HBd4.out.size
    rw [← hib] at h1
    have h2 := HBd4.out.trans ((hbA.trans hbB).mono h1)
    exact ⟨HBm.out.trans (h2.mono HBm.out.size), h2, h1⟩)
  have HvO : Hid (vs.all (·.oneCell') = true) := Lib.hid (by rw [hvz]; exact inoC_one _)
  have HTh : Hid (wA.there ib 0 vs.size) := Lib.hid (there_at hnA (n := vs.size) (by rw [hvsz]; rfl))
  have Hib := Lib.hid hib.symm
  have HwB := Lib.hid hwB.symm
  have Hvs := Lib.hid hvs
  have Hvz := Lib.hid hvsz
  have HwA := Lib.hid hwA
  clear hwA hib hnA hbA hvz hvsz hbB hnB hwB hvs hib2
  go_upto_region 10 with fail
  refine wp_region_held_drew (S := (fun W => W.cell? ⟨b, 0, none⟩ = some (.int .u8 y0.toNat) ∧ W.cell? ⟨b, 1, none⟩ = some (.int .u8 y1.toNat))) (by kernel_rfl) ?_ (fun hHeld => ?_)
  · exact hs0
  refine wpAnyH_take (i := 0) (oi := _) (v := ?_) rfl (by kernel_rfl) (by kernel_rfl) (by kernel_rfl) (fun _ _ _ h => h) (Or.inl ⟨by rfl, ?_⟩) (by assumption) ?_
  rotate_left
  · intro w hSw
    (try dsimp only at hSw)
    first | (go_simp; done) | (go_simp; with_reducible rfl)
  try simp only [List.getElem_toArray, List.getElem_cons_succ, List.getElem_cons_zero, Act.put, List.setIfInBounds_toArray, List.set_cons_zero, List.set_cons_succ]
  refine wpAnyH_take (i := 1) (oi := _) (v := ?_) rfl (by kernel_rfl) (by kernel_rfl) (by kernel_rfl) (fun _ _ _ h => h) (Or.inl ⟨by rfl, ?_⟩) (by assumption) ?_
  rotate_left
  · intro w hSw
    (try dsimp only at hSw)
    first | (go_simp; done) | (go_simp; with_reducible rfl)
  try simp only [List.getElem_toArray, List.getElem_cons_succ, List.getElem_cons_zero, Act.put, List.setIfInBounds_toArray, List.set_cons_zero, List.set_cons_succ]
  refine wpAnyH_take (i := 2) (oi := _) (v := ?_) rfl (by kernel_rfl) (by kernel_rfl) (by kernel_rfl) (fun _ _ _ h => h) (Or.inl ⟨by rfl, ?_⟩) (by assumption) ?_
  rotate_left
  · intro w hSw
    (try dsimp only at hSw)
    first | (go_simp; done) | (go_simp; with_reducible rfl)
  try simp only [List.getElem_toArray, List.getElem_cons_succ, List.getElem_cons_zero, Act.put, List.setIfInBounds_toArray, List.set_cons_zero, List.set_cons_succ]
  refine wpAnyH_take (i := 3) (oi := _) (v := ?_) rfl (by kernel_rfl) (by kernel_rfl) (by kernel_rfl) (fun _ _ _ h => h) (Or.inl ⟨by rfl, ?_⟩) (by assumption) ?_
  rotate_left
  · intro w hSw
    (try dsimp only at hSw)
    first | (go_simp; done) | (go_simp; with_reducible rfl)
  try simp only [List.getElem_toArray, List.getElem_cons_succ, List.getElem_cons_zero, Act.put, List.setIfInBounds_toArray, List.set_cons_zero, List.set_cons_succ]
  refine wpAnyH_take (i := 4) (oi := _) (v := ?_) rfl (by kernel_rfl) (by kernel_rfl) (by kernel_rfl) (fun _ _ _ h => h) (Or.inl ⟨by rfl, ?_⟩) (by assumption) ?_
  rotate_left
  · intro w hSw
    (try dsimp only at hSw)
    first | (go_simp; done) | (go_simp; with_reducible rfl)
  try simp only [List.getElem_toArray, List.getElem_cons_succ, List.getElem_cons_zero, Act.put, List.setIfInBounds_toArray, List.set_cons_zero, List.set_cons_succ]
  refine wpAnyH_take (i := 5) (oi := _) (v := ?_) rfl (by kernel_rfl) (by kernel_rfl) (by kernel_rfl) (fun _ _ _ h => h) (Or.inl ⟨by rfl, ?_⟩) (by assumption) ?_
  rotate_left
  · intro w hSw
    (try dsimp only at hSw)
    first | (go_simp; done) | (go_simp; with_reducible rfl)
  try simp only [List.getElem_toArray, List.getElem_cons_succ, List.getElem_cons_zero, Act.put, List.setIfInBounds_toArray, List.set_cons_zero, List.set_cons_succ]
  refine wpAnyH_take (i := 6) (oi := _) (v := ?_) rfl (by kernel_rfl) (by kernel_rfl) (by kernel_rfl) (fun _ _ _ h => h) (Or.inl ⟨by rfl, ?_⟩) (by assumption) ?_
  rotate_left
  · intro w hSw
    (try dsimp only at hSw)
    first | (go_simp; done) | (go_simp; with_reducible rfl)
  try simp only [List.getElem_toArray, List.getElem_cons_succ, List.getElem_cons_zero, Act.put, List.setIfInBounds_toArray, List.set_cons_zero, List.set_cons_succ]
  refine wpAnyH_take (i := 7) (oi := _) (v := ?_) rfl (by kernel_rfl) (by kernel_rfl) (by kernel_rfl) (fun _ _ _ h => h) (Or.inl ⟨by rfl, ?_⟩) (by assumption) ?_
  rotate_left
  · intro w hSw
    (try dsimp only at hSw)
    first | (go_simp; done) | (go_simp; with_reducible rfl)
  try simp only [List.getElem_toArray, List.getElem_cons_succ, List.getElem_cons_zero, Act.put, List.setIfInBounds_toArray, List.set_cons_zero, List.set_cons_succ]
  refine wpAnyH_take (i := 8) (oi := _) (v := ?_) rfl (by kernel_rfl) (by kernel_rfl) (by kernel_rfl) (fun _ _ _ h => h) (Or.inl ⟨by rfl, ?_⟩) (by assumption) ?_
  rotate_left
  · intro w hSw
    (try dsimp only at hSw)
    first | (go_simp; done) | (go_simp; with_reducible rfl)
  try simp only [List.getElem_toArray, List.getElem_cons_succ, List.getElem_cons_zero, Act.put, List.setIfInBounds_toArray, List.set_cons_zero, List.set_cons_succ]
  refine wpAnyH_take (i := 9) (oi := _) (v := ?_) rfl (by kernel_rfl) (by kernel_rfl) (by kernel_rfl) (fun _ _ _ h => h) (Or.inl ⟨by rfl, ?_⟩) (by assumption) ?_
  rotate_left
  · intro w hSw
    (try dsimp only at hSw)
    first | (go_simp; done) | (go_simp; with_reducible rfl)
  try simp only [List.getElem_toArray, List.getElem_cons_succ, List.getElem_cons_zero, Act.put, List.setIfInBounds_toArray, List.set_cons_zero, List.set_cons_succ]
  refine wpAnyH_ready (rs := [10]) (by kernel_rfl) (by simp) ?_
  refine AllReadyH.cons (o := _) rfl (fun K hK => ?_) AllReadyH.nil
  go_simp
  rw [show (w4.alloc (.cells #[.int .i64 0, .int .i64 0, .int .i64 0, .int .i64 0, .int .i64 0, .int .i64 0, .int .i64 0, .int .i64 0, .int .i64 0, .int .i64 0, .int .i64 0, .int .i64 0, .int .i64 0, .int .i64 0, .int .i64 0] 40)).drew = wA from HwA.out.symm, Hib.out]
  try dsimp only
  refine hK.out _ _ hsA (fun hHeld => ?_)
  clear hK K
  try simp only [List.getElem_toArray, List.getElem_cons_succ, List.getElem_cons_zero, Act.put, List.setIfInBounds_toArray, List.set_cons_zero, List.set_cons_succ]
  refine wpAnyH_ready (rs := [11]) (by kernel_rfl) (by simp) ?_
  refine AllReadyH.cons (o := _) rfl (fun K hK => ?_) AllReadyH.nil
  refine wp_store_mid 40 _ _ rfl ib 0 vs rfl (by rw [Hvs.out]; rfl) HTh.out (by rw [Hvz.out]; exact Tryz.sizeIno) HvO.out ?_
  rw [HwB.out]
  try dsimp only
  refine hK.out _ _ hsB (fun hHeld => ?_)
  clear hK K
  try simp only [List.getElem_toArray, List.getElem_cons_succ, List.getElem_cons_zero, Act.put, List.setIfInBounds_toArray, List.set_cons_zero, List.set_cons_succ]
  refine wpAnyH_done (by kernel_rfl) ?_ _
  (try simp only [Exit.then])
  (first | (refine (by assumption : ∀ (a : Act) (w : World), _) _ _ ?_) | skip)
  go_upto_region 12 with fail
  go_loopw [50] (fun z wr => ∃ i : Nat, z = .int .i64 i ∧ i ≤ 4 ∧ Hid (InoAt wr ib (partI x i 0) ∧ Below w.heap.size w wr ∧ Below w2.heap.size w2 wr)) (fun z _ => 4 - (intOf z).toNat)
  case atStart => exact ⟨0, rfl, by omega, Lib.hid ⟨HIB0.out, HBw.out.1, HBw.out.2.1⟩⟩
  case round =>
    obtain ⟨i, rfl, hi, HW⟩ := hrel
    by_cases hlt : i < 4
    · obtain ⟨n, hn⟩ : ∃ n, x.B[i]? = some n := ⟨_, List.getElem?_eq_getElem (by have := HSh.out.1; omega)⟩
      obtain ⟨y, hy, hye⟩ := HIB.out.B i n hn
      have hyl : 4 + i < 64 := by omega
      have hc := (HW.out.2.2.cell (p := ⟨b, 4 + i, none⟩) HCm.out.1).trans (HCm.out.2 (4 + i) y hy)
      have hq : wr.frozen? ⟨ib, 3 + i, none⟩ = false := frozen_of_row wr ib (3 + i) _ _ HW.out.1.row
      obtain ⟨old, hold⟩ : ∃ u, wr.cell? ⟨ib, 3 + i, none⟩ = some u := by
        rw [cell_of_row wr ib (3 + i) _ _ _ HW.out.1.row]
        exact ⟨_, Array.getElem?_eq_getElem (by rw [inoC_size HW.out.1.shape]; omega)⟩
      have hwy : IntKind.i64.wrap (y.toNat : Int) = y.toNat := by rw [IntKind.wrap_i64]; have := y.toNat_lt; omega
      have h1 : (i : Int) < 4 := by omega
      have h0 : (0 : Int) ≤ i := by omega
      obtain ⟨w5, hw5⟩ : ∃ u, u = wr.setCell ⟨ib, 3 + i, none⟩ (.int .i64 y.toNat) := ⟨_, rfl⟩
      have HW5 : Hid (InoAt w5 ib (partI x (i + 1) 0) ∧ Below w.heap.size w w5 ∧ Below w2.heap.size w2 w5) := Lib.hid (by
        have h2 := HBw.out.2.2
        have h3 := HBm.out.size
        rw [hw5]
        refine ⟨?_, HW.out.2.1.setCell (show w.heap.size ≤ ib by omega) _, HW.out.2.2.setCell (show w2.heap.size ≤ ib from h2) _⟩
        rw [hye]
        exact HW.out.1.setB HSh.out (by omega) hn)
      have Hw5 := Lib.hid hw5.symm
      have k1 : (4 : Int) + (i : Int) < 64 := by omega
      clear hn hy hye hw5 hlt
      go_wp2
      rw [Hw5.out]
      go_roundw
      case rel => exact ⟨i + 1, by go_num, by omega, HW5⟩
      case measure => simp [intOf]; omega
    · obtain rfl : i = 4 := by omega
      clear hlt
      obtain ⟨w6, rfl⟩ : ∃ v, v = wr := ⟨_, rfl⟩
      have HW6 := HW
      clear HW
      go_upto_region 17 with fail
      go_loopw [63] (fun z wr => ∃ i : Nat, z = .int .i64 i ∧ i ≤ 8 ∧ Hid (InoAt wr ib (partI x 4 i) ∧ Below w.heap.size w wr ∧ Below w2.heap.size w2 wr)) (fun z _ => 8 - (intOf z).toNat)
      case atStart => exact ⟨0, rfl, by omega, HW6⟩
      case round =>
        obtain ⟨i, rfl, hi, HW⟩ := hrel
        by_cases hlt : i < 8
        · obtain ⟨n, hn⟩ : ∃ n, x.O[i]? = some n := ⟨_, List.getElem?_eq_getElem (by have := HSh.out.2; omega)⟩
          obtain ⟨y, hy, hye⟩ := HIB.out.O i n hn
          have hyl : 8 + i < 64 := by omega
          have hc := (HW.out.2.2.cell (p := ⟨b, 8 + i, none⟩) HCm.out.1).trans (HCm.out.2 (8 + i) y hy)
          have hq : wr.frozen? ⟨ib, 7 + i, none⟩ = false := frozen_of_row wr ib (7 + i) _ _ HW.out.1.row
          obtain ⟨old, hold⟩ : ∃ u, wr.cell? ⟨ib, 7 + i, none⟩ = some u := by
            rw [cell_of_row wr ib (7 + i) _ _ _ HW.out.1.row]
            exact ⟨_, Array.getElem?_eq_getElem (by rw [inoC_size HW.out.1.shape]; omega)⟩
          have hwy : IntKind.i64.wrap (y.toNat : Int) = y.toNat := by rw [IntKind.wrap_i64]; have := y.toNat_lt; omega
          have h1 : (i : Int) < 8 := by omega
          have h0 : (0 : Int) ≤ i := by omega
          obtain ⟨w5, hw5⟩ : ∃ u, u = wr.setCell ⟨ib, 7 + i, none⟩ (.int .i64 y.toNat) := ⟨_, rfl⟩
          have HW5 : Hid (InoAt w5 ib (partI x 4 (i + 1)) ∧ Below w.heap.size w w5 ∧ Below w2.heap.size w2 w5) := Lib.hid (by
            have h2 := HBw.out.2.2
            have h3 := HBm.out.size
            rw [hw5]
            refine ⟨?_, HW.out.2.1.setCell (show w.heap.size ≤ ib by omega) _, HW.out.2.2.setCell (show w2.heap.size ≤ ib from h2) _⟩
            rw [hye]
            exact HW.out.1.setO HSh.out hn)
          have Hw5 := Lib.hid hw5.symm
          have k1 : (8 : Int) + (i : Int) < 64 := by omega
          clear hn hy hye hw5 hlt
          go_wp2
          rw [Hw5.out]
          go_roundw
          case rel => exact ⟨i + 1, by go_num, by omega, HW5⟩
          case measure => simp [intOf]; omega
        · obtain rfl : i = 8 := by omega
          clear hlt
          have hI7 := HW.out.1
          rw [partI_full HSh.out] at hI7
          have HI7 := Lib.hid hI7
          have HS := Lib.hid (inoC_size HSh.out)
          have HR7 := Lib.hid ((HW.out.2.2.block r (lt_get HR0.out)).trans HR0.out)
          have HW7 := Lib.hid HW.out.2.1
          have HB7 := Lib.hid HW.out.2.2
          clear hI7 HW
          by_cases hmy : Gd.mayI x = true
          · have HPu := Lib.hid (puti_any x HSh.out HAll.out hmy wr)
            have hne2 : decide (Gd.inoB x = L) = false := decide_eq_false fun e => HNo.out x HSh.out hmy e.symm
            unfold inoV at HPu
            go_upto_region 21 with fail
            go_wp2_with (refine wpList_load_row rfl 40 _ rfl ib rfl 40 (inoC x) (0, 0) _ HI7.out.row Tryz.underlying40 rfl (by rw [HS.out]; exact Tryz.sizeIno) ?_)
            refine HPu.out.mono ?_
            rintro e w8 ⟨v8, rfl, ho8, hb8⟩
            have HEq8 := Lib.hid (bequal_any v8 (.slice (some ⟨b, 0, none⟩) 64 c) (Gd.inoB x) L w8 ho8.at_ (HBy64.out.keep (HB7.out.trans (hb8.mono HB7.out.size))))
            rw [hne2] at HEq8
            have HR8 := Lib.hid ((hb8.block r (lt_get HR7.out)).trans HR7.out)
            have HW8 := Lib.hid (HW7.out.trans (hb8.mono HW7.out.size))
            clear ho8 hb8 HPu hne2
            go_wp2_with (first | (go_at_call 102; with_reducible refine HEq8.out.mono ?_; rintro e w9 ⟨rfl, rfl⟩) | (refine wpList_store_mid rfl 40 _ _ rfl r 0 zIno rfl rfl (there_at HR8.out rfl) Tryz.sizeIno (by rw [zIno_eq]; exact inoC_one _) ?_; obtain ⟨hbw, hbg⟩ := whole_at HR8.out (vs := zIno.toList) (B := r) rfl (Nat.le_refl r); generalize (World.setCells _ _ _ _) = wf at hbw hbg ⊢))
            refine bodyPost_ret (results_row_tmp rfl _ _ r 40 zIno (0, 0) _ rfl hbg Tryz.underlying40 rfl Tryz.sizeIno) rfl ?_
            exact ⟨_, by decide, rfl, HW8.out.trans (by rw [Hr.out]; exact hbw)⟩
          · have HPu := Lib.hid (puti_bad x HSh.out HAll.out (by simpa using hmy) wr)
            unfold inoV at HPu
            go_upto_region 21 with fail
            go_wp2_with (refine wpList_load_row rfl 40 _ rfl ib rfl 40 (inoC x) (0, 0) _ HI7.out.row Tryz.underlying40 rfl (by rw [HS.out]; exact Tryz.sizeIno) ?_)
            refine HPu.out.mono ?_
            rintro e w8 ⟨rfl, hb8⟩
            have HR8 := Lib.hid ((hb8.block r (lt_get HR7.out)).trans HR7.out)
            have HW8 := Lib.hid (HW7.out.trans (hb8.mono HW7.out.size))
            clear hb8 HPu
            go_wp2_with (first | (refine wpList_store_mid rfl 40 _ _ rfl r 0 zIno rfl rfl (there_at HR8.out rfl) Tryz.sizeIno (by rw [zIno_eq]; exact inoC_one _) ?_; obtain ⟨hbw, hbg⟩ := whole_at HR8.out (vs := zIno.toList) (B := r) rfl (Nat.le_refl r); generalize (World.setCells _ _ _ _) = wf at hbw hbg ⊢))
            refine bodyPost_ret (results_row_tmp rfl _ _ r 40 zIno (0, 0) _ rfl hbg Tryz.underlying40 rfl Tryz.sizeIno) rfl ?_
            exact ⟨_, by decide, rfl, HW8.out.trans (by rw [Hr.out]; exact hbw)⟩

end Go.Proofs.YtccpdkjonepoiaaGreatDoor

/- Slots and heads in plain words: what their bytes say. -/
namespace Go.Proofs.YtccpdkjonepoiaaGreatDoor
namespace Gd
theorem get_at (L A C : List UInt8) (n w : Nat) (k : Int) (hL : L = A ++ (le n w ++ C)) (hk : k = (A.length : Nat)) (hn : n < 256 ^ w) (h63 : n < 9223372036854775808) : get L k w = n := by
  subst hL; subst hk
  exact (get_mid A C n w hn h63).2
theorem seal60_sum {L : List UInt8} (h : L.length ≤ 60) : get (seal60 L) 60 4 = crc ((seal60 L).take 60) := by
  obtain ⟨X, hX⟩ : ∃ X, X = L ++ List.replicate (60 - L.length) 0 := ⟨_, rfl⟩
  have hl : X.length = 60 := by rw [hX, List.length_append, List.length_replicate]; omega
  have e : seal60 L = X ++ (le (crc X) 4 ++ []) := by unfold seal60 sealB; rw [← hX, List.append_nil]
  have ht : (seal60 L).take 60 = X := by rw [e, ← hl, List.take_left]
  rw [ht]
  have hc : crc X < 4294967296 := crc_lt _
  exact get_at _ X [] _ 4 60 e (by rw [hl]; rfl) (by omega) (by omega)
theorem headB_get {n : Nat} (hn : n ≤ 1152921504606846976) : get (headB n) 8 8 = n := by
  have e : headB n = [67, 77, 78, 49, 0, 0, 0, 0] ++ (le n 8 ++ (List.replicate (60 - (headBody n).length) 0 ++ le (crc (headBody n ++ List.replicate (60 - (headBody n).length) 0)) 4)) := by
    unfold headB seal60 sealB
    generalize crc _ = c
    generalize List.replicate _ (0 : UInt8) = r
    unfold headBody nums
    simp only [List.flatMap_cons, List.flatMap_nil, List.append_nil, List.append_assoc]
  exact get_at _ _ _ _ 8 8 e rfl (by omega) (by omega)
theorem get_ge (L : List UInt8) (k : Int) (w : Nat) : 0 ≤ get L k w := by
  unfold get
  split
  · omega
  · omega
/-- what any 64 bytes say -/
def rawS (L : List UInt8) : Slot := ⟨(get L 0 4).toNat, (get L 4 4).toNat, (get L 8 8).toNat, (get L 16 1).toNat, (get L 17 1).toNat, (get L 18 8).toNat⟩
theorem slotB_eq (s : Slot) : ∃ T, slotB s = le s.e 4 ++ (le s.h 4 ++ (le s.r 8 ++ (le s.ke 1 ++ (le s.ki 1 ++ (le s.w 8 ++ T))))) := by
  refine ⟨List.replicate (60 - (slotBody s).length) 0 ++ le (crc (slotBody s ++ List.replicate (60 - (slotBody s).length) 0)) 4, ?_⟩
  unfold slotB seal60 sealB
  generalize crc _ = c
  generalize List.replicate _ (0 : UInt8) = r
  unfold slotBody nums
  simp only [List.flatMap_cons, List.flatMap_nil, List.append_nil, List.append_assoc]
theorem rawS_slot {s : Slot} (hs : s.May) : rawS (slotB s) = s := by
  obtain ⟨T, e⟩ := slotB_eq s
  obtain ⟨h1, h2, h3, h4, h5, h6⟩ := hs
  have e1 : get (slotB s) 0 4 = s.e := get_at _ [] _ _ 4 0 e rfl (by omega) (by omega)
  have e2 : get (slotB s) 4 4 = s.h := get_at _ (le s.e 4) _ _ 4 4 e (by rw [le_length]; rfl) (by omega) (by omega)
  have e3 : get (slotB s) 8 8 = s.r := get_at _ (le s.e 4 ++ le s.h 4) (le s.ke 1 ++ (le s.ki 1 ++ (le s.w 8 ++ T))) _ 8 8 (by rw [e]; simp only [List.append_assoc]) (by simp only [List.length_append, le_length]; rfl) (by omega) (by omega)
  have e4 : get (slotB s) 16 1 = s.ke := get_at _ (le s.e 4 ++ le s.h 4 ++ le s.r 8) (le s.ki 1 ++ (le s.w 8 ++ T)) _ 1 16 (by rw [e]; simp only [List.append_assoc]) (by simp only [List.length_append, le_length]; rfl) (by omega) (by omega)
  have e5 : get (slotB s) 17 1 = s.ki := get_at _ (le s.e 4 ++ le s.h 4 ++ le s.r 8 ++ le s.ke 1) (le s.w 8 ++ T) _ 1 17 (by rw [e]; simp only [List.append_assoc]) (by simp only [List.length_append, le_length]; rfl) (by omega) (by omega)
  have e6 : get (slotB s) 18 8 = s.w := get_at _ (le s.e 4 ++ le s.h 4 ++ le s.r 8 ++ le s.ke 1 ++ le s.ki 1) T _ 8 18 (by rw [e]; simp only [List.append_assoc]) (by simp only [List.length_append, le_length]; rfl) (by omega) (by omega)
  unfold rawS
  rw [e1, e2, e3, e4, e5, e6]
  simp only [Int.toNat_natCast]
theorem slotB_sum (s : Slot) : get (slotB s) 60 4 = crc ((slotB s).take 60) := seal60_sum (by rw [slotBody_length]; omega)
theorem headB_sum (n : Nat) : get (headB n) 60 4 = crc ((headB n).take 60) := seal60_sum (by unfold headBody; simp only [List.length_append, nums_length, List.length_cons, List.length_nil]; omega)
instance (s : Slot) : Decidable s.May := decidable_of_iff (s.e ≤ 1073741824 ∧ s.h ≤ 1024 ∧ s.r ≤ 1099511627776 ∧ s.ke ≤ 255 ∧ s.ki ≤ 32 ∧ s.w ≤ 1099511627776) ⟨fun ⟨a, b, c, d, e, f⟩ => ⟨a, b, c, d, e, f⟩, fun ⟨a, b, c, d, e, f⟩ => ⟨a, b, c, d, e, f⟩⟩
/-- whether bytes are a slot's, and a head's -/
def isSlot (L : List UInt8) : Prop := (rawS L).May ∧ L = slotB (rawS L)
def isHead (L : List UInt8) : Prop := get L 8 8 ≤ 1152921504606846976 ∧ L = headB (get L 8 8).toNat
theorem isSlot_slotB {s : Slot} (hs : s.May) : isSlot (slotB s) := by
  unfold isSlot
  rw [rawS_slot hs]
  exact ⟨hs, rfl⟩
theorem isHead_headB {n : Nat} (hn : n ≤ 1152921504606846976) : isHead (headB n) := by
  unfold isHead
  rw [headB_get hn]
  exact ⟨by omega, rfl⟩
end Gd

end Go.Proofs.YtccpdkjonepoiaaGreatDoor

/- Walks: meta.Inode over any bytes. -/
namespace Go.Proofs.YtccpdkjonepoiaaGreatDoor
open Go.RowKit

attribute [local go_sem] Oper.semAt_some

set_option maxHeartbeats 8000000 in
set_option maxRecDepth 100000 in
theorem inode_good [MemNo] {x t c K : Nat} {S : List UInt8} {P : List Gd.Pa} {F : Nat → Prop} (i : Int) (y : Gd.Ino) (w : World) (h : MetaF x t S P c K w F) (h1 : 1 ≤ i) (h2 : i ≤ 32) (hs : y.Shape) (hm : Gd.mayI y = true) (hb : Gd.part (Gd.view S P) (Gd.inoAt i.toNat) 64 = Gd.inoB y) :
    Calls Tryz.prog 16 #[.pointer (some ⟨x, 0, none⟩), .int .i64 i] w fun e w' => e = .returned (.tuple #[inoV y, .int .i64 0]) ∧ Below w.heap.size w w' := by
  obtain ⟨w0, hw0⟩ : ∃ u, u = w.alloc (.cells zIno 40) := ⟨_, rfl⟩
  have hb0 : Below w.heap.size w w0 := by rw [hw0]; exact (Below.refl _ _).alloc (Nat.le_refl _) _
  have hr0 : w0.heap[w.heap.size]? = some (.cells zIno 40 (0, 0)) := by rw [hw0]; exact heap_alloc_new _ _
  obtain ⟨r, hr⟩ : ∃ r, r = w.heap.size := ⟨_, rfl⟩
  rw [← hr] at hr0
  have HLd := Lib.hid (load_some 4 i _ w0 (h.below hb0) (Gd.ptAt_node h1 h2))
  dsimp only at HLd
  rw [hb] at HLd
  have HR0 := Lib.hid hr0
  have HB0 := Lib.hid hb0
  have HW0 := Lib.hid hw0.symm
  have Hr := Lib.hid hr.symm
  have HSm := Lib.hid (And.intro hs hm)
  have HS := Lib.hid (inoC_size hs)
  unfold zIno at HW0
  clear h hw0 hb0 hr0 hr h1 h2 hs hm hb
  go_enter Tryz.func16, Tryz.ntmps16
  go_upto_region 1 with fail
  rw [HW0.out, Hr.out]
  go_wp2_with fail
  refine HLd.out.mono ?_
  rintro e w1 ⟨v1, rfl, ho1, hb1⟩
  have HR1 := Lib.hid ((hb1.block r (lt_get HR0.out)).trans HR0.out)
  have HB1 := Lib.hid (HB0.out.trans (hb1.mono HB0.out.size))
  have HRd := Lib.hid (readi_any y HSm.out.1 HSm.out.2 v1 _ w1 ho1)
  clear hb1 HLd ho1
  go_wp2_with fail
  refine HRd.out.mono ?_
  rintro e w2 ⟨rfl, hb2⟩
  have HR2 := Lib.hid ((hb2.block r (lt_get HR1.out)).trans HR1.out)
  have HB2 := Lib.hid (HB1.out.trans (hb2.mono HB1.out.size))
  unfold inoV
  obtain ⟨w3, hw3⟩ : ∃ u, u = (w2.alloc (.cells zIno 40)) := ⟨_, rfl⟩
  have hb3 : Below w2.heap.size w2 w3 := by rw [hw3]; exact (Below.refl _ _).alloc (Nat.le_refl _) _
  have hn3 : w3.heap[w2.heap.size]? = some (.cells zIno 40 (0, 0)) := by rw [hw3]; exact heap_alloc_new _ _
  obtain ⟨b, hbe⟩ : ∃ b, b = w2.heap.size := ⟨_, rfl⟩
  rw [← hbe] at hn3
  have HN3 := Lib.hid hn3
  have HR3 := Lib.hid ((hb3.block r (lt_get HR2.out)).trans HR2.out)
  have HB3 := Lib.hid (HB2.out.trans (hb3.mono HB2.out.size))
  have Hbe := Lib.hid hbe.symm
  have HW3 := Lib.hid hw3.symm
  have HbB : Hid (r < b) := Lib.hid (by rw [hbe]; exact lt_get HR2.out)
  unfold zIno at HW3
  clear hb2 HRd hw3 hb3 hn3 hbe
  go_wp2_with (first | (refine wpList_store_mid rfl 40 _ _ rfl b 0 (inoC y) (by rw [← Hbe.out]; rfl) rfl (by rw [show w2.alloc (.cells #[.int .i64 0, .int .i64 0, .int .i64 0, .int .i64 0, .int .i64 0, .int .i64 0, .int .i64 0, .int .i64 0, .int .i64 0, .int .i64 0, .int .i64 0, .int .i64 0, .int .i64 0, .int .i64 0, .int .i64 0] 40) = w3 from HW3.out]; exact there_at HN3.out (by rw [HS.out]; rfl)) (by rw [HS.out]; exact Tryz.sizeIno) (inoC_one _) ?_; rw [HW3.out]; obtain ⟨hbw, hbg⟩ := whole_at HN3.out (vs := (inoC y).toList) (B := b) (by rw [Array.length_toList, HS.out]; rfl) (Nat.le_refl b); generalize (World.setCells _ _ _ _) = w4 at hbw hbg ⊢; have HG4 := Lib.hid hbg; have HR4 := Lib.hid ((hbw.block r HbB.out).trans HR3.out); have HB4 := Lib.hid (HB3.out.trans (hbw.mono (show w.heap.size ≤ b by have := HbB.out; have := Hr.out; omega))); clear hbw hbg) | (refine wpList_load_row rfl 40 _ rfl b (by rw [← Hbe.out]; rfl) 40 (inoC y) (0, 0) _ HG4.out Tryz.underlying40 rfl (by rw [HS.out]; exact Tryz.sizeIno) ?_) | (refine wpList_store_mid rfl 40 _ _ rfl r 0 (inoC y) rfl rfl (there_at HR4.out (by rw [HS.out]; rfl)) (by rw [HS.out]; exact Tryz.sizeIno) (inoC_one _) ?_; obtain ⟨hbw, hbg⟩ := whole_at HR4.out (vs := (inoC y).toList) (B := r) (by rw [Array.length_toList, HS.out]; rfl) (Nat.le_refl r); generalize (World.setCells _ _ _ _) = wf at hbw hbg ⊢))
  refine bodyPost_ret (results_row_tmp rfl _ _ r 40 (inoC y) (0, 0) _ rfl hbg Tryz.underlying40 rfl (by rw [HS.out]; exact Tryz.sizeIno)) rfl ?_
  exact ⟨rfl, HB4.out.trans (by rw [Hr.out]; exact hbw)⟩


set_option maxHeartbeats 8000000 in
set_option maxRecDepth 100000 in
theorem inode_wrong [MemNo] {x t c K : Nat} {S : List UInt8} {P : List Gd.Pa} {F : Nat → Prop} (i : Int) (w : World) (h : MetaF x t S P c K w F) (h1 : 1 ≤ i) (h2 : i ≤ 32) (hl : (Gd.part (Gd.view S P) (Gd.inoAt i.toNat) 64).length = 64) (hno : ∀ y : Gd.Ino, y.Shape → Gd.mayI y = true → Gd.part (Gd.view S P) (Gd.inoAt i.toNat) 64 ≠ Gd.inoB y) :
    Calls Tryz.prog 16 #[.pointer (some ⟨x, 0, none⟩), .int .i64 i] w fun e w' => (∃ E : Int, E ≠ 0 ∧ e = .returned (.tuple #[inoV Gd.noIno, .int .i64 E])) ∧ Below w.heap.size w w' := by
  obtain ⟨w0, hw0⟩ : ∃ u, u = w.alloc (.cells zIno 40) := ⟨_, rfl⟩
  have hb0 : Below w.heap.size w w0 := by rw [hw0]; exact (Below.refl _ _).alloc (Nat.le_refl _) _
  have hr0 : w0.heap[w.heap.size]? = some (.cells zIno 40 (0, 0)) := by rw [hw0]; exact heap_alloc_new _ _
  obtain ⟨r, hr⟩ : ∃ r, r = w.heap.size := ⟨_, rfl⟩
  rw [← hr] at hr0
  have HLd := Lib.hid (load_some 4 i _ w0 (h.below hb0) (Gd.ptAt_node h1 h2))
  dsimp only at HLd
  have HNo := Lib.hid (And.intro hl hno)
  have HR0 := Lib.hid hr0
  have HB0 := Lib.hid hb0
  have HW0 := Lib.hid hw0.symm
  have Hr := Lib.hid hr.symm
  unfold zIno at HW0
  clear h hw0 hb0 hr0 hr h1 h2 hl hno
  go_enter Tryz.func16, Tryz.ntmps16
  go_upto_region 1 with fail
  rw [HW0.out, Hr.out]
  go_wp2_with fail
  refine HLd.out.mono ?_
  rintro e w1 ⟨v1, rfl, ho1, hb1⟩
  have HR1 := Lib.hid ((hb1.block r (lt_get HR0.out)).trans HR0.out)
  have HB1 := Lib.hid (HB0.out.trans (hb1.mono HB0.out.size))
  obtain ⟨y, hy⟩ : ∃ y, y = Gd.noIno := ⟨_, rfl⟩
  have HS : Hid ((inoC y).size = 15) := Lib.hid (by rw [hy]; rfl)
  have HRd := Lib.hid (readi_bad _ HNo.out.1 HNo.out.2 v1 _ w1 ho1)
  rw [← hy] at HRd
  clear hy
  clear hb1 HLd ho1
  go_wp2_with fail
  refine HRd.out.mono ?_
  rintro e w2 ⟨E, hE, rfl, hb2⟩
  have HR2 := Lib.hid ((hb2.block r (lt_get HR1.out)).trans HR1.out)
  have HB2 := Lib.hid (HB1.out.trans (hb2.mono HB1.out.size))
  unfold inoV
  obtain ⟨w3, hw3⟩ : ∃ u, u = (w2.alloc (.cells zIno 40)) := ⟨_, rfl⟩
  have hb3 : Below w2.heap.size w2 w3 := by rw [hw3]; exact (Below.refl _ _).alloc (Nat.le_refl _) _
  have hn3 : w3.heap[w2.heap.size]? = some (.cells zIno 40 (0, 0)) := by rw [hw3]; exact heap_alloc_new _ _
  obtain ⟨b, hbe⟩ : ∃ b, b = w2.heap.size := ⟨_, rfl⟩
  rw [← hbe] at hn3
  have HN3 := Lib.hid hn3
  have HR3 := Lib.hid ((hb3.block r (lt_get HR2.out)).trans HR2.out)
  have HB3 := Lib.hid (HB2.out.trans (hb3.mono HB2.out.size))
  have Hbe := Lib.hid hbe.symm
  have HW3 := Lib.hid hw3.symm
  have HbB : Hid (r < b) := Lib.hid (by rw [hbe]; exact lt_get HR2.out)
  unfold zIno at HW3
  clear hb2 HRd hw3 hb3 hn3 hbe
  have hE1 : ¬ E = 0 := hE
  have hsb : (E != 0) = true := by simp [hE1]
  clear hE
  go_wp2_with (first | (refine wpList_store_mid rfl 40 _ _ rfl b 0 (inoC y) (by rw [← Hbe.out]; rfl) rfl (by rw [show w2.alloc (.cells #[.int .i64 0, .int .i64 0, .int .i64 0, .int .i64 0, .int .i64 0, .int .i64 0, .int .i64 0, .int .i64 0, .int .i64 0, .int .i64 0, .int .i64 0, .int .i64 0, .int .i64 0, .int .i64 0, .int .i64 0] 40) = w3 from HW3.out]; exact there_at HN3.out (by rw [HS.out]; rfl)) (by rw [HS.out]; exact Tryz.sizeIno) (inoC_one _) ?_; rw [HW3.out]; obtain ⟨hbw, hbg⟩ := whole_at HN3.out (vs := (inoC y).toList) (B := b) (by rw [Array.length_toList, HS.out]; rfl) (Nat.le_refl b); generalize (World.setCells _ _ _ _) = w4 at hbw hbg ⊢; have HG4 := Lib.hid hbg; have HR4 := Lib.hid ((hbw.block r HbB.out).trans HR3.out); have HB4 := Lib.hid (HB3.out.trans (hbw.mono (show w.heap.size ≤ b by have := HbB.out; have := Hr.out; omega))); clear hbw hbg) | (refine wpList_store_mid rfl 40 _ _ rfl r 0 zIno rfl rfl (there_at HR4.out rfl) Tryz.sizeIno (by rw [zIno_eq]; exact inoC_one _) ?_; obtain ⟨hbw, hbg⟩ := whole_at HR4.out (vs := zIno.toList) (B := r) rfl (Nat.le_refl r); generalize (World.setCells _ _ _ _) = wf at hbw hbg ⊢))
  refine bodyPost_ret (results_row_tmp rfl _ _ r 40 zIno (0, 0) _ rfl hbg Tryz.underlying40 rfl Tryz.sizeIno) rfl ?_
  exact ⟨⟨_, by decide, rfl⟩, HB4.out.trans (by rw [Hr.out]; exact hbw)⟩

end Go.Proofs.YtccpdkjonepoiaaGreatDoor

/- Plain words: bytes put where they stand already. -/
namespace Go.Proofs.YtccpdkjonepoiaaGreatDoor
namespace Gd
theorem splice_own {S : List UInt8} {k : Nat} {b : List UInt8} (h : part S k b.length = b) : splice S k b = S := by
  unfold splice
  unfold part at h
  conv => rhs; rw [← List.take_append_drop k S, ← List.take_append_drop b.length (S.drop k), h, List.drop_drop]
theorem splice_nil8 {S : List UInt8} {k : Nat} (h : part S k 8 = le 0 8) : splice S k (List.replicate 8 0) = S := splice_own (by rw [List.length_replicate, h]; rfl)
end Gd

end Go.Proofs.YtccpdkjonepoiaaGreatDoor
