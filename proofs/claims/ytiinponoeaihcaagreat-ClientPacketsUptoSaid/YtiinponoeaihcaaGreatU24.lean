/- wire.Read: the packet of bytes. -/
import Derived.Test.YtiinponoeaihcaaGreatU23
set_option linter.unusedVariables false
set_option linter.unusedSimpArgs false
set_option linter.unusedSectionVars false
namespace Go.Proofs.YtiinponoeaihcaaGreat
open Go.RowKit Go.Shelf

attribute [local go_sem] Oper.semAt_some
set_option maxHeartbeats 16000000 in
set_option maxRecDepth 100000 in
theorem wread_any (X : List UInt8) (b o c : Nat) (w : World) (hX : X.length ≤ c) (hc : c ≤ 9223372036854775807) (hl : X.length ≤ 900000) (hb : b < w.heap.size) (hcell : ∀ (j : Nat) (x : UInt8), X[j]? = some x → w.cell? ⟨b, o + j, none⟩ = some (.int .u8 x.toNat)) (hK : rdS X → rn (rd0 X) 1 = 2 ∨ rn (rd0 X) 1 = 4) :
    Calls Tryz.prog 18 #[.slice (some ⟨b, o, none⟩) X.length c] w (ReadA X w) := by
  have HX := Lib.hid (And.intro hX (And.intro hc (And.intro hl hb)))
  have HCe := Lib.hid hcell
  have HK := Lib.hid hK
  obtain ⟨n, hn⟩ : ∃ n, n = X.length := ⟨_, rfl⟩
  rw [← hn] at hX hl ⊢
  have Hn := Lib.hid hn
  clear hcell hK hn
  go_enter Tryz.func18, Tryz.ntmps18
  go_upto_region 1 with fail
  generalize hw : World.alloc w _ = w1
  obtain ⟨n0, hn0⟩ : ∃ u, u = w.heap.size := ⟨_, rfl⟩
  have h0 : w1.heap[n0]? = some (.cells (pkC {}) 41 (0, 0)) := by rw [← hw, hn0]; exact heap_alloc_new _ _
  have HB := Lib.hid (show Below w.heap.size w w1 by rw [← hw]; exact (Below.refl _ _).alloc (Nat.le_refl _) _)
  rw [← hn0]
  have Hn0 := Lib.hid hn0
  have H0 := Lib.hid h0
  clear hw hn0 h0
  have HTh : Hid (w1.there n0 0 43) := Lib.hid (there_at H0.out rfl)
  have HWh : Hid (Below w.heap.size w (w1.setCells n0 0 (pkC {}).toList) ∧ (w1.setCells n0 0 (pkC {}).toList).heap[n0]? = some (.cells (pkC {}) 41 (0, 0))) := Lib.hid (by
    obtain ⟨h1, h2⟩ := whole_at (B := w.heap.size) (vs := (pkC {}).toList) H0.out rfl (by rw [Hn0.out]; exact Nat.le_refl _)
    exact ⟨HB.out.trans h1, h2⟩)
  by_cases h4 : n < 4
  · have HN4 := Lib.hid h4
    have h4' : (n : Int) - 4 < 0 := by omega
    go_wp2_with (refine wpList_store_mid rfl 41 _ _ rfl n0 0 (pkC {}) rfl rfl (by exact HTh.out) Tryz.sizePk (pk_all _ rfl) ?_; generalize hwe : (World.setCells _ _ _ _) = we; have HE : Hid (Below w.heap.size w we ∧ we.heap[n0]? = some (.cells (pkC {}) 41 (0, 0))) := (Lib.hid (by rw [← hwe]; exact HWh.out)); clear hwe)
    refine bodyPost_ret (results_row_tmp rfl _ _ n0 41 (pkC {}) (0, 0) _ rfl HE.out.2 Tryz.underlying41 rfl Tryz.sizePk) rfl ?_
    exact ⟨{}, 3, rfl, Or.inl ⟨by decide, fun h => by have h1 := h.1.1; rw [← Hn.out] at h1; have := HN4.out; omega⟩, rfl, HE.out.1⟩
  obtain ⟨m, rfl⟩ : ∃ m, n = m + 4 := ⟨n - 4, by omega⟩
  clear h4
  have hm4 : X.length - 4 = m := by rw [← Hn.out]; omega
  have Hm4 := Lib.hid hm4
  have hbyt : BytesAt w1 (.slice (some ⟨b, o, none⟩) X.length c) X := ⟨_, c, rfl, Or.inr ⟨b, o, rfl, Nat.lt_of_lt_of_le HX.out.2.2.2 HB.out.size, fun j x hx => (HB.out.cell (p := ⟨b, o + j, none⟩) HX.out.2.2.2).trans (HCe.out j x hx)⟩⟩
  have hbyt2 : BytesAt w1 (.slice (some ⟨b, o, none⟩) m c) (X.take m) := by
    have h := part_at (Nat.lt_of_lt_of_le HX.out.2.2.2 HB.out.size) (fun j x hx => (HB.out.cell (p := ⟨b, o + j, none⟩) HX.out.2.2.2).trans (HCe.out j x hx)) 0 c m (by have := Hn.out; omega)
    rw [Nat.add_zero, List.drop_zero] at h
    exact h
  have hG := get_any (.slice (some ⟨b, o, none⟩) X.length c) X (m : Int) 4 (Or.inr (Or.inr (Or.inl rfl))) (nat_I64 (by omega)) w1 hbyt (by have := Hn.out; omega)
  have hC := crc_any (.slice (some ⟨b, o, none⟩) m c) (X.take m) w1 hbyt2 (by rw [List.length_take]; omega)
  rw [← Hn.out] at hG
  obtain ⟨gx, hgx⟩ : ∃ y, y = Gd.get X (m : Int) 4 := ⟨_, rfl⟩
  obtain ⟨gb, hgb⟩ : ∃ y, y = Gd.getB X (m : Int) 4 := ⟨_, rfl⟩
  obtain ⟨cr, hcr⟩ : ∃ y, y = Gd.crc (X.take m) := ⟨_, rfl⟩
  have hcl := Gd.crc_lt (X.take m)
  rw [← hgx, ← hgb] at hG
  rw [← hcr] at hC hcl
  have HG : Hid (Calls Tryz.prog 33 #[.slice (some ⟨b, o, none⟩) (m + 4) c, .int .i64 m, .int .i64 4] w1 fun e w' => e = .returned (.tuple #[.int .i64 gx, .bool gb]) ∧ w' = w1) := Lib.hid hG
  have HCr := Lib.hid hC
  have HSum : Hid (rdS X ↔ gx = cr) := Lib.hid (by
    unfold rdS
    rw [Hm4.out, ← hgx, ← hcr]
    exact ⟨fun h => h.2, fun h => ⟨by have := Hn.out; omega, h⟩⟩)
  clear hbyt hbyt2 hG hC hgx hgb hcr hm4
  have hmc : m ≤ c := by omega
  have hmc2 : (m : Int) ≤ c := by omega
  have hm0 : ¬ ((m : Int) + 4 - 4 < 0) := by omega
  have HWn : Hid (∀ W, Below w.heap.size w W → W.heap[n0]? = some (.cells (pkC {}) 41 (0, 0)) → Below w.heap.size w (W.setCells n0 0 (pkC {}).toList) ∧ (W.setCells n0 0 (pkC {}).toList).heap[n0]? = some (.cells (pkC {}) 41 (0, 0))) := Lib.hid fun W h1 h2 => by
    obtain ⟨h3, h4⟩ := whole_at (B := w.heap.size) (vs := (pkC {}).toList) h2 rfl (by rw [Hn0.out]; exact Nat.le_refl _)
    exact ⟨h1.trans h3, h4⟩
  by_cases hs : gx = (cr : Int)
  rotate_left
  · have HNs := Lib.hid hs
    have hb : (gx == (cr : Int)) = false := by rw [beq_eq_false_iff_ne]; exact hs
    clear hs
    go_wp2_with (first | ((with_reducible refine HG.out.mono ?_); rintro e wq ⟨rfl, hwq⟩; subst hwq) | ((with_reducible refine HCr.out.mono ?_); rintro e w2 ⟨rfl, hb2⟩; have HB2 := Lib.hid (HB.out.trans (hb2.mono HB.out.size)); have H2 := Lib.hid ((hb2.block n0 (lt_get H0.out)).trans H0.out); have HTh2 : Hid (w2.there n0 0 43) := Lib.hid (there_at H2.out rfl); have HWh2 : Hid (Below w.heap.size w (w2.setCells n0 0 (pkC {}).toList) ∧ (w2.setCells n0 0 (pkC {}).toList).heap[n0]? = some (.cells (pkC {}) 41 (0, 0))) := (Lib.hid (HWn.out w2 HB2.out H2.out)); clear hb2) | (refine wpList_store_mid rfl 41 _ _ rfl n0 0 (pkC {}) rfl rfl (by exact HTh2.out) Tryz.sizePk (pk_all _ rfl) ?_; generalize hwe : (World.setCells _ _ _ _) = we; have HE : Hid (Below w.heap.size w we ∧ we.heap[n0]? = some (.cells (pkC {}) 41 (0, 0))) := (Lib.hid (by rw [← hwe]; exact HWh2.out)); clear hwe))
    refine bodyPost_ret (results_row_tmp rfl _ _ n0 41 (pkC {}) (0, 0) _ rfl HE.out.2 Tryz.underlying41 rfl Tryz.sizePk) rfl ?_
    exact ⟨{}, 4, rfl, Or.inl ⟨by decide, fun h => HNs.out (HSum.out.1 h.1)⟩, rfl, HE.out.1⟩
  subst hs
  have HOkS : Hid (rdS X) := Lib.hid (HSum.out.2 rfl)
  clear HSum
  go_upto_region 8 with (first | ((with_reducible refine HG.out.mono ?_); rintro e wq ⟨rfl, hwq⟩; subst hwq) | ((with_reducible refine HCr.out.mono ?_); rintro e w2 ⟨rfl, hb2⟩; have HB2 := Lib.hid (HB.out.trans (hb2.mono HB.out.size)); have H2 := Lib.hid ((hb2.block n0 (lt_get H0.out)).trans H0.out); have HTh2 : Hid (w2.there n0 0 43) := Lib.hid (there_at H2.out rfl); have HWh2 : Hid (Below w.heap.size w (w2.setCells n0 0 (pkC {}).toList) ∧ (w2.setCells n0 0 (pkC {}).toList).heap[n0]? = some (.cells (pkC {}) 41 (0, 0))) := (Lib.hid (HWn.out w2 HB2.out H2.out)); clear hb2))
  generalize hw3 : World.alloc w2 _ = w3
  obtain ⟨r, hr⟩ : ∃ u, u = w2.heap.size := ⟨_, rfl⟩
  rw [← hr]
  have hR3 : RdrAt w3 r b o c (rd0 X) := by
    have hlen : (rd0 X).1.length = m := by show (X.take (X.length - 4)).length = m; rw [Hm4.out, List.length_take]; have := Hn.out; omega
    have hbr : b < r := by rw [hr]; exact Nat.lt_of_lt_of_le HX.out.2.2.2 HB2.out.size
    refine ⟨?_, by omega, ?_, by rw [hlen]; have := HX.out.1; have := Hn.out; omega, HX.out.2.1, by rw [hlen]; have := HX.out.2.2.1; have := Hn.out; omega, fun j x hx => ?_⟩
    · rw [hlen, ← hw3, hr]
      exact heap_alloc_new _ _
    · rw [← hw3]
      have := HX.out.2.2.2
      have := HB2.out.size
      simp
      omega
    · have hx2 : X[j]? = some x := by
        have h2 : (X.take (X.length - 4))[j]? = some x := hx
        rw [List.getElem?_take] at h2
        split at h2
        · exact h2
        · cases h2
      rw [← hw3]
      exact (((HB2.out.alloc HB2.out.size _).cell (p := ⟨b, o + j, none⟩) HX.out.2.2.2)).trans (HCe.out j x hx2)
  have HB3 : Hid (Below w.heap.size w w3 ∧ n0 < r ∧ w3.heap.size = r + 1) := Lib.hid (by
    rw [← hw3]
    exact ⟨HB2.out.alloc HB2.out.size _, by rw [hr]; exact lt_get H2.out, by simp [hr]⟩)
  have H3 : Hid (w3.heap[n0]? = some (.cells (pkC {}) 41 (0, 0))) := Lib.hid (by rw [← hw3]; exact (heap_alloc_old w2 _ (lt_get H2.out)).trans H2.out)
  have hN : Calls Tryz.prog 35 #[.pointer (some ⟨r, 0, none⟩), .int .i64 1] w3 fun e w' => e = .returned (.int .i64 (rn (rd0 X) 1)) ∧ (∃ o' c', RdrAt w' r b o' c' (rd1 X)) ∧ Only (fun q => q = r) w3 w' := rnum_any 1 (Or.inl rfl) w3 hR3
  obtain ⟨x0, hx0⟩ : ∃ x, x = rn (rd0 X) 1 := ⟨_, rfl⟩
  rw [← hx0] at hN
  have HX0 := Lib.hid hx0
  have HN := Lib.hid hN
  have HLr := Lib.hid hR3.ne
  have HLb := Lib.hid hR3.lt
  clear hN hx0 hw3 hr hR3 HTh HWh HG HCr HTh2 HWh2
  have HTn : Hid (∀ (W : World) (Z : Array Value), Z.size = 43 → (W.alloc (.cells Z 41)).there W.heap.size 0 43) := Lib.hid fun W Z hZ => there_at (C := Z) (heap_alloc_new _ _) hZ
  have HPn : Hid (∀ (W : World) (Z : Array Value), Z.size = 43 → (∃ o' c', RdrAt W r b o' c' (rd1 X)) → RP ((W.alloc (.cells Z 41)).setCells W.heap.size 0 (pkC { kd := x0 }).toList) r W.heap.size b (rd1 X) { kd := x0 } ((W.alloc (.cells Z 41)).setCells W.heap.size 0 (pkC { kd := x0 }).toList) ∧ Below W.heap.size W ((W.alloc (.cells Z 41)).setCells W.heap.size 0 (pkC { kd := x0 }).toList)) := Lib.hid fun W Z hZ hR => by
    obtain ⟨o', c', hR⟩ := hR
    obtain ⟨h3, h4⟩ := whole_at (B := W.heap.size) (vs := (pkC { kd := x0 }).toList) (heap_alloc_new W (.cells Z 41)) hZ (Nat.le_refl _)
    have hb := ((Below.refl W.heap.size W).alloc (Nat.le_refl _) _).trans h3
    exact ⟨⟨⟨o', c', hR.below hb⟩, h4, ⟨by have := lt_get hR.obj; omega, by have := hR.lt; omega⟩, Only.refl _ _⟩, hb⟩
  go_upto_region 9 with (first | ((with_reducible refine HN.out.mono ?_); rintro e w4 ⟨rfl, hr4, hO4⟩; have HR4 := Lib.hid hr4; have HO4 := Lib.hid hO4; clear hr4 hO4) | (refine wpList_store_mid rfl 41 _ _ rfl w4.heap.size 0 (pkC { kd := x0 }) rfl rfl (by exact HTn.out w4 _ rfl) Tryz.sizePk (pk_all _ rfl) ?_; generalize hwe : (World.setCells _ _ _ _) = v0; have HP0 : Hid (RP v0 r w4.heap.size b (rd1 X) { kd := x0 } v0 ∧ Below w4.heap.size w4 v0) := (Lib.hid (by rw [← hwe]; exact HPn.out w4 _ rfl HR4.out)); clear hwe))
  obtain ⟨pb, hpb⟩ : ∃ u, u = w4.heap.size := ⟨_, rfl⟩
  have HBk : Hid (Below w.heap.size w v0 ∧ v0.heap[n0]? = some (.cells (pkC {}) 41 (0, 0)) ∧ n0 < r ∧ r < pb ∧ w.heap.size ≤ n0) := Lib.hid (by
    have hs4 := HO4.out.size
    have h1 : Below w.heap.size w w4 := HB3.out.1.trans (HO4.out.below HB3.out.1.size fun k hk e => by have := HB3.out.2.1; have := Hn0.out; omega)
    have h2 : w4.heap[n0]? = some (.cells (pkC {}) 41 (0, 0)) := (HO4.out.block n0 (lt_get H3.out) (by have := HB3.out.2.1; omega)).trans H3.out
    refine ⟨h1.trans (HP0.out.2.mono h1.size), (HP0.out.2.block n0 (lt_get h2)).trans h2, HB3.out.2.1, ?_, by rw [Hn0.out]; exact Nat.le_refl _⟩
    rw [hpb]
    have := HB3.out.2.2
    omega)
  have HP1 : Hid (RP v0 r pb b (rd1 X) { kd := x0 } v0) := Lib.hid (by rw [hpb]; exact HP0.out.1)
  rw [← hpb]
  clear hpb HP0 HPn HTn HO4 HR4 HN HB3 H3
  have hN : Calls Tryz.prog 35 #[.pointer (some ⟨r, 0, none⟩), .int .i64 1] v0 fun e w' => e = .returned (.int .i64 (rn (rd1 X) 1)) ∧ RP v0 r pb b (rd2 X) { kd := x0 } w' := HP1.out.num 1 (Or.inl rfl)
  obtain ⟨x1, hx⟩ : ∃ x, x = rn (rd1 X) 1 := ⟨_, rfl⟩
  rw [← hx] at hN
  have HX1 := Lib.hid hx
  have HN := Lib.hid hN
  clear hN hx
  go_wp2_with fail
  refine HN.out.mono ?_
  rintro e wm ⟨rfl, hm⟩
  have Hm := Lib.hid hm
  have cf := hm.at_ 1
  obtain ⟨cf1, cf2⟩ := cf
  have cf1' : wm.cell? ⟨pb, 1, none⟩ = some (.int .i64 0) := cf1
  clear hm HN cf1
  go_upto_region 10 with fail
  obtain ⟨v1, hw⟩ : ∃ u, u = wm.setCell ⟨pb, 1, none⟩ (.int .i64 x1) := ⟨_, rfl⟩
  rw [← hw]
  have HP2 : Hid (RP v0 r pb b (rd2 X) { kd := x0, cl := x1 } v1) := Lib.hid (by rw [hw]; exact Hm.out.set (p' := { kd := x0, cl := x1 }) rfl)
  clear hw cf1' cf2 Hm HP1
  have hN : Calls Tryz.prog 35 #[.pointer (some ⟨r, 0, none⟩), .int .i64 4] v1 fun e w' => e = .returned (.int .i64 (rn (rd2 X) 4)) ∧ RP v0 r pb b (rd3 X) { kd := x0, cl := x1 } w' := HP2.out.num 4 (Or.inr (Or.inr (Or.inl rfl)))
  obtain ⟨x2, hx⟩ : ∃ x, x = rn (rd2 X) 4 := ⟨_, rfl⟩
  rw [← hx] at hN
  have HX2 := Lib.hid hx
  have HN := Lib.hid hN
  clear hN hx
  go_wp2_with fail
  refine HN.out.mono ?_
  rintro e wm ⟨rfl, hm⟩
  have Hm := Lib.hid hm
  have cf := hm.at_ 2
  obtain ⟨cf1, cf2⟩ := cf
  have cf1' : wm.cell? ⟨pb, 2, none⟩ = some (.int .i64 0) := cf1
  clear hm HN cf1
  go_upto_region 11 with fail
  obtain ⟨v2, hw⟩ : ∃ u, u = wm.setCell ⟨pb, 2, none⟩ (.int .i64 x2) := ⟨_, rfl⟩
  rw [← hw]
  have HP3 : Hid (RP v0 r pb b (rd3 X) { kd := x0, cl := x1, ep := x2 } v2) := Lib.hid (by rw [hw]; exact Hm.out.set (p' := { kd := x0, cl := x1, ep := x2 }) rfl)
  clear hw cf1' cf2 Hm HP2
  have hN : Calls Tryz.prog 35 #[.pointer (some ⟨r, 0, none⟩), .int .i64 8] v2 fun e w' => e = .returned (.int .i64 (rn (rd3 X) 8)) ∧ RP v0 r pb b (rd4 X) { kd := x0, cl := x1, ep := x2 } w' := HP3.out.num 8 (Or.inr (Or.inr (Or.inr rfl)))
  obtain ⟨x3, hx⟩ : ∃ x, x = rn (rd3 X) 8 := ⟨_, rfl⟩
  rw [← hx] at hN
  have HX3 := Lib.hid hx
  have HN := Lib.hid hN
  clear hN hx
  go_wp2_with fail
  refine HN.out.mono ?_
  rintro e wm ⟨rfl, hm⟩
  have Hm := Lib.hid hm
  have cf := hm.at_ 3
  obtain ⟨cf1, cf2⟩ := cf
  have cf1' : wm.cell? ⟨pb, 3, none⟩ = some (.int .i64 0) := cf1
  clear hm HN cf1
  go_upto_region 13 with fail
  obtain ⟨v3, hw⟩ : ∃ u, u = wm.setCell ⟨pb, 3, none⟩ (.int .i64 x3) := ⟨_, rfl⟩
  rw [← hw]
  have HP4 : Hid (RP v0 r pb b (rd4 X) { kd := x0, cl := x1, ep := x2, sq := x3 } v3) := Lib.hid (by rw [hw]; exact Hm.out.set (p' := { kd := x0, cl := x1, ep := x2, sq := x3 }) rfl)
  clear hw cf1' cf2 Hm HP3
  have HHd : Hid (({ kd := x0, cl := x1, ep := x2, sq := x3 } : Pk) = rdH X) := Lib.hid (by rw [HX0.out, HX1.out, HX2.out, HX3.out]; rfl)
  have hk2 := HK.out HOkS.out
  rw [← HX0.out] at hk2
  have HPS : Hid (RP v3 r pb b (rd4 X) { kd := x0, cl := x1, ep := x2, sq := x3 } v3) := Lib.hid ⟨HP4.out.rd, HP4.out.pk, HP4.out.ne, Only.refl _ _⟩
  rcases hk2 with hkd | hkd
  ·
    have a0 : v3.cell? ⟨pb, 0, none⟩ = some (.int .i64 2) := by rw [← hkd]; exact (HP4.out.at_ 0).1
    have hV := rvt_any v3 HPS.out
    have HV := Lib.hid hV
    have Hkd := Lib.hid hkd
    clear hV hkd
    go_upto_region 25 with ((with_reducible refine HV.out.mono ?_); rintro e v4 ⟨rfl, h5⟩; have H5 := Lib.hid h5; clear h5)
    clear a0
    obtain ⟨PE, hPE0⟩ : ∃ q, q = vtP (rd4 X) { kd := x0, cl := x1, ep := x2, sq := x3 } := ⟨_, rfl⟩
    rw [← hPE0] at H5
    have HPE : Hid (∃ u, (∃ A m c, u = Value.slice A m c) ∧ PE = setNv (rdP X) u) := Lib.hid ⟨.slice none 0 0, ⟨_, _, _, rfl⟩, by rw [hPE0, rdP, ← HX0.out, if_pos Hkd.out, HHd.out]; exact (setNv_id rfl).symm⟩
    have HOne : Hid (PE.nv.oneCell' = true) := Lib.hid (by rw [hPE0]; rfl)
    have HCl : Hid (PE.cl = x1) := Lib.hid (by rw [hPE0]; rfl)
    clear hPE0
    obtain ⟨⟨o2, c2, hrd⟩, hpk, hne, hon⟩ := id H5.out
    obtain ⟨SE, hSE⟩ : ∃ s, s = vtE (rd4 X) := ⟨_, rfl⟩
    rw [← hSE] at hrd
    have HSE : Hid (SE = rdE X) := Lib.hid (by rw [hSE, rdE, ← HX0.out, if_pos Hkd.out])
    have e0 : v4.cell? ⟨r, 0, none⟩ = some (.slice (some ⟨b, o2, none⟩) SE.1.length c2) := cell_of_row v4 r 0 _ _ _ hrd.obj
    have e1 : v4.cell? ⟨r, 1, none⟩ = some (.bool SE.2) := cell_of_row v4 r 1 _ _ _ hrd.obj
    have e3 : v4.cell? ⟨pb, 1, none⟩ = some (.int .i64 x1) := (cell_of_row v4 pb 1 _ _ _ hpk).trans (congrArg (fun z => some (Value.int .i64 z)) HCl.out)
    have hBv : Below w.heap.size w v4 := HBk.out.1.trans ((HP4.out.only.trans hon fun _ _ e => e).below HBk.out.1.size fun k hk e => by have := HBk.out; rcases e with e | e <;> omega)
    have hnv : v4.heap[n0]? = some (.cells (pkC {}) 41 (0, 0)) := ((HP4.out.only.trans hon fun _ _ e => e).block n0 (lt_get HBk.out.2.1) (fun e => by have := HBk.out; rcases e with e | e <;> omega)).trans HBk.out.2.1
    have HThv : Hid (v4.there n0 0 43) := Lib.hid (there_at hnv rfl)
    have HWhv := Lib.hid (HWn.out v4 hBv hnv)
    have HBv := Lib.hid (And.intro hBv hnv)
    have hr1 := row_rangeK hpk
    obtain ⟨od, hod⟩ : ∃ z, z = SE.2 := ⟨_, rfl⟩
    obtain ⟨ln, hln⟩ : ∃ z, z = SE.1.length := ⟨_, rfl⟩
    rw [← hod] at e1
    rw [← hln] at e0
    have HOd := Lib.hid hod
    have HLn := Lib.hid hln
    clear hrd hpk hne hon hSE hBv hnv hod hln H5
    have HNo : Hid (rdOk X → od = false ∧ ln = 0 ∧ 1 ≤ x1 ∧ x1 ≤ 8) := Lib.hid fun h => ⟨by rw [HOd.out, HSE.out]; exact h.2.1, by rw [HLn.out, HSE.out, h.2.2.1]; rfl, by rw [HX1.out]; exact h.2.2.2.1, by rw [HX1.out]; exact h.2.2.2.2⟩
    rcases bdic od with h | h
    rotate_left
    · subst h
      go_wp2_with (refine wpList_store_mid rfl 41 _ _ rfl n0 0 (pkC {}) rfl rfl (by exact HThv.out) Tryz.sizePk (pk_all _ rfl) ?_; generalize hwe : (World.setCells _ _ _ _) = we; have HE : Hid (Below w.heap.size w we ∧ we.heap[n0]? = some (.cells (pkC {}) 41 (0, 0))) := (Lib.hid (by rw [← hwe]; exact HWhv.out)); clear hwe)
      refine bodyPost_ret (results_row_tmp rfl _ _ n0 41 (pkC {}) (0, 0) _ rfl HE.out.2 Tryz.underlying41 rfl Tryz.sizePk) rfl ?_
      exact ⟨{}, 2, rfl, Or.inl ⟨by decide, fun h => absurd (HNo.out h).1 (by decide)⟩, rfl, HE.out.1⟩
    subst h
    by_cases hl0 : 0 < ln
    · have HZ := Lib.hid hl0
      have hl0' : (0 : Int) < ln := by omega
      go_wp2_with (refine wpList_store_mid rfl 41 _ _ rfl n0 0 (pkC {}) rfl rfl (by exact HThv.out) Tryz.sizePk (pk_all _ rfl) ?_; generalize hwe : (World.setCells _ _ _ _) = we; have HE : Hid (Below w.heap.size w we ∧ we.heap[n0]? = some (.cells (pkC {}) 41 (0, 0))) := (Lib.hid (by rw [← hwe]; exact HWhv.out)); clear hwe)
      refine bodyPost_ret (results_row_tmp rfl _ _ n0 41 (pkC {}) (0, 0) _ rfl HE.out.2 Tryz.underlying41 rfl Tryz.sizePk) rfl ?_
      exact ⟨{}, 2, rfl, Or.inl ⟨by decide, fun h => by have h1 := (HNo.out h).2.1; have h2 := HZ.out; omega⟩, rfl, HE.out.1⟩
    have hl0' : ¬ (0 : Int) < ln := by omega
    by_cases hc1 : x1 < 1
    · have HZ := Lib.hid hc1
      go_wp2_with (refine wpList_store_mid rfl 41 _ _ rfl n0 0 (pkC {}) rfl rfl (by exact HThv.out) Tryz.sizePk (pk_all _ rfl) ?_; generalize hwe : (World.setCells _ _ _ _) = we; have HE : Hid (Below w.heap.size w we ∧ we.heap[n0]? = some (.cells (pkC {}) 41 (0, 0))) := (Lib.hid (by rw [← hwe]; exact HWhv.out)); clear hwe)
      refine bodyPost_ret (results_row_tmp rfl _ _ n0 41 (pkC {}) (0, 0) _ rfl HE.out.2 Tryz.underlying41 rfl Tryz.sizePk) rfl ?_
      exact ⟨{}, 2, rfl, Or.inl ⟨by decide, fun h => by have h1 := (HNo.out h).2.2.1; have h2 := HZ.out; omega⟩, rfl, HE.out.1⟩
    by_cases hc8 : x1 > 8
    · have HZ := Lib.hid hc8
      go_wp2_with (refine wpList_store_mid rfl 41 _ _ rfl n0 0 (pkC {}) rfl rfl (by exact HThv.out) Tryz.sizePk (pk_all _ rfl) ?_; generalize hwe : (World.setCells _ _ _ _) = we; have HE : Hid (Below w.heap.size w we ∧ we.heap[n0]? = some (.cells (pkC {}) 41 (0, 0))) := (Lib.hid (by rw [← hwe]; exact HWhv.out)); clear hwe)
      refine bodyPost_ret (results_row_tmp rfl _ _ n0 41 (pkC {}) (0, 0) _ rfl HE.out.2 Tryz.underlying41 rfl Tryz.sizePk) rfl ?_
      exact ⟨{}, 2, rfl, Or.inl ⟨by decide, fun h => by have h1 := (HNo.out h).2.2.2; have h2 := HZ.out; omega⟩, rfl, HE.out.1⟩
    have HZ := Lib.hid (And.intro hl0 (And.intro hc1 hc8))
    have HOk : Hid (rdOk X) := Lib.hid ⟨HOkS.out, by rw [← HSE.out, ← HOd.out], by rw [← HSE.out]; exact List.eq_nil_of_length_eq_zero (by have := HLn.out; have := HZ.out.1; omega), by rw [← HX1.out]; have := HZ.out.2.1; omega, by rw [← HX1.out]; have := HZ.out.2.2; omega⟩
    have HWf : Hid (Below w.heap.size w (v4.setCells n0 0 (pkC PE).toList) ∧ (v4.setCells n0 0 (pkC PE).toList).heap[n0]? = some (.cells (pkC PE) 41 (0, 0))) := Lib.hid (by
      obtain ⟨h3, h4⟩ := whole_at (B := w.heap.size) (vs := (pkC PE).toList) HBv.out.2 rfl HBk.out.2.2.2.2
      exact ⟨HBv.out.1.trans h3, h4⟩)
    go_wp2_with (first | (refine wpList_load_mid rfl 41 _ rfl pb 0 rfl (pkC PE).toList _ hr1 Tryz.underlying41 rfl (pk_len _) ?_) | (refine wpList_store_mid rfl 41 _ _ rfl n0 0 (pkC PE).toList.toArray rfl rfl (by exact HThv.out) (pk_size _) (pk_one _ HOne.out) ?_; generalize hwe : (World.setCells _ _ _ _) = we; have HE : Hid (Below w.heap.size w we ∧ we.heap[n0]? = some (.cells (pkC PE) 41 (0, 0))) := (Lib.hid (by rw [← hwe]; exact HWf.out)); clear hwe))
    refine bodyPost_ret (results_row_tmp rfl _ _ n0 41 (pkC PE) (0, 0) _ rfl HE.out.2 Tryz.underlying41 rfl Tryz.sizePk) rfl ?_
    exact ⟨PE, 0, rfl, Or.inr ⟨rfl, HOk.out, HPE.out⟩, HOne.out, HE.out.1⟩
  ·
    have a0 : v3.cell? ⟨pb, 0, none⟩ = some (.int .i64 4) := by rw [← hkd]; exact (HP4.out.at_ 0).1
    have hV := rrt_any v3 HPS.out rfl
    have HV := Lib.hid hV
    have Hkd := Lib.hid hkd
    clear hV hkd
    go_upto_region 25 with ((with_reducible refine HV.out.mono ?_); rintro e v4 ⟨rfl, u, hu, h5⟩; have Hu := Lib.hid hu; have H5 := Lib.hid h5; clear h5 hu)
    clear a0
    obtain ⟨PE, hPE0⟩ : ∃ q, q = setNv (rtP (rd4 X) { kd := x0, cl := x1, ep := x2, sq := x3 }) u := ⟨_, rfl⟩
    rw [← hPE0] at H5
    have HPE : Hid (∃ u, (∃ A m c, u = Value.slice A m c) ∧ PE = setNv (rdP X) u) := Lib.hid ⟨u, Hu.out, by rw [hPE0, rdP, ← HX0.out, if_neg (by rw [Hkd.out]; decide), HHd.out]⟩
    have HOne : Hid (PE.nv.oneCell' = true) := Lib.hid (by rw [hPE0, setNv_nv]; obtain ⟨A, m', c', hu⟩ := Hu.out; rw [hu]; rfl)
    have HCl : Hid (PE.cl = x1) := Lib.hid (by rw [hPE0, setNv_cl, rtP_cl])
    clear hPE0
    obtain ⟨⟨o2, c2, hrd⟩, hpk, hne, hon⟩ := id H5.out
    obtain ⟨SE, hSE⟩ : ∃ s, s = rtE (rd4 X) := ⟨_, rfl⟩
    rw [← hSE] at hrd
    have HSE : Hid (SE = rdE X) := Lib.hid (by rw [hSE, rdE, ← HX0.out, if_neg (by rw [Hkd.out]; decide)])
    have e0 : v4.cell? ⟨r, 0, none⟩ = some (.slice (some ⟨b, o2, none⟩) SE.1.length c2) := cell_of_row v4 r 0 _ _ _ hrd.obj
    have e1 : v4.cell? ⟨r, 1, none⟩ = some (.bool SE.2) := cell_of_row v4 r 1 _ _ _ hrd.obj
    have e3 : v4.cell? ⟨pb, 1, none⟩ = some (.int .i64 x1) := (cell_of_row v4 pb 1 _ _ _ hpk).trans (congrArg (fun z => some (Value.int .i64 z)) HCl.out)
    have hBv : Below w.heap.size w v4 := HBk.out.1.trans ((HP4.out.only.trans hon fun _ _ e => e).below HBk.out.1.size fun k hk e => by have := HBk.out; rcases e with e | e <;> omega)
    have hnv : v4.heap[n0]? = some (.cells (pkC {}) 41 (0, 0)) := ((HP4.out.only.trans hon fun _ _ e => e).block n0 (lt_get HBk.out.2.1) (fun e => by have := HBk.out; rcases e with e | e <;> omega)).trans HBk.out.2.1
    have HThv : Hid (v4.there n0 0 43) := Lib.hid (there_at hnv rfl)
    have HWhv := Lib.hid (HWn.out v4 hBv hnv)
    have HBv := Lib.hid (And.intro hBv hnv)
    have hr1 := row_rangeK hpk
    obtain ⟨od, hod⟩ : ∃ z, z = SE.2 := ⟨_, rfl⟩
    obtain ⟨ln, hln⟩ : ∃ z, z = SE.1.length := ⟨_, rfl⟩
    rw [← hod] at e1
    rw [← hln] at e0
    have HOd := Lib.hid hod
    have HLn := Lib.hid hln
    clear hrd hpk hne hon hSE hBv hnv hod hln H5
    have HNo : Hid (rdOk X → od = false ∧ ln = 0 ∧ 1 ≤ x1 ∧ x1 ≤ 8) := Lib.hid fun h => ⟨by rw [HOd.out, HSE.out]; exact h.2.1, by rw [HLn.out, HSE.out, h.2.2.1]; rfl, by rw [HX1.out]; exact h.2.2.2.1, by rw [HX1.out]; exact h.2.2.2.2⟩
    rcases bdic od with h | h
    rotate_left
    · subst h
      go_wp2_with (refine wpList_store_mid rfl 41 _ _ rfl n0 0 (pkC {}) rfl rfl (by exact HThv.out) Tryz.sizePk (pk_all _ rfl) ?_; generalize hwe : (World.setCells _ _ _ _) = we; have HE : Hid (Below w.heap.size w we ∧ we.heap[n0]? = some (.cells (pkC {}) 41 (0, 0))) := (Lib.hid (by rw [← hwe]; exact HWhv.out)); clear hwe)
      refine bodyPost_ret (results_row_tmp rfl _ _ n0 41 (pkC {}) (0, 0) _ rfl HE.out.2 Tryz.underlying41 rfl Tryz.sizePk) rfl ?_
      exact ⟨{}, 2, rfl, Or.inl ⟨by decide, fun h => absurd (HNo.out h).1 (by decide)⟩, rfl, HE.out.1⟩
    subst h
    by_cases hl0 : 0 < ln
    · have HZ := Lib.hid hl0
      have hl0' : (0 : Int) < ln := by omega
      go_wp2_with (refine wpList_store_mid rfl 41 _ _ rfl n0 0 (pkC {}) rfl rfl (by exact HThv.out) Tryz.sizePk (pk_all _ rfl) ?_; generalize hwe : (World.setCells _ _ _ _) = we; have HE : Hid (Below w.heap.size w we ∧ we.heap[n0]? = some (.cells (pkC {}) 41 (0, 0))) := (Lib.hid (by rw [← hwe]; exact HWhv.out)); clear hwe)
      refine bodyPost_ret (results_row_tmp rfl _ _ n0 41 (pkC {}) (0, 0) _ rfl HE.out.2 Tryz.underlying41 rfl Tryz.sizePk) rfl ?_
      exact ⟨{}, 2, rfl, Or.inl ⟨by decide, fun h => by have h1 := (HNo.out h).2.1; have h2 := HZ.out; omega⟩, rfl, HE.out.1⟩
    have hl0' : ¬ (0 : Int) < ln := by omega
    by_cases hc1 : x1 < 1
    · have HZ := Lib.hid hc1
      go_wp2_with (refine wpList_store_mid rfl 41 _ _ rfl n0 0 (pkC {}) rfl rfl (by exact HThv.out) Tryz.sizePk (pk_all _ rfl) ?_; generalize hwe : (World.setCells _ _ _ _) = we; have HE : Hid (Below w.heap.size w we ∧ we.heap[n0]? = some (.cells (pkC {}) 41 (0, 0))) := (Lib.hid (by rw [← hwe]; exact HWhv.out)); clear hwe)
      refine bodyPost_ret (results_row_tmp rfl _ _ n0 41 (pkC {}) (0, 0) _ rfl HE.out.2 Tryz.underlying41 rfl Tryz.sizePk) rfl ?_
      exact ⟨{}, 2, rfl, Or.inl ⟨by decide, fun h => by have h1 := (HNo.out h).2.2.1; have h2 := HZ.out; omega⟩, rfl, HE.out.1⟩
    by_cases hc8 : x1 > 8
    · have HZ := Lib.hid hc8
      go_wp2_with (refine wpList_store_mid rfl 41 _ _ rfl n0 0 (pkC {}) rfl rfl (by exact HThv.out) Tryz.sizePk (pk_all _ rfl) ?_; generalize hwe : (World.setCells _ _ _ _) = we; have HE : Hid (Below w.heap.size w we ∧ we.heap[n0]? = some (.cells (pkC {}) 41 (0, 0))) := (Lib.hid (by rw [← hwe]; exact HWhv.out)); clear hwe)
      refine bodyPost_ret (results_row_tmp rfl _ _ n0 41 (pkC {}) (0, 0) _ rfl HE.out.2 Tryz.underlying41 rfl Tryz.sizePk) rfl ?_
      exact ⟨{}, 2, rfl, Or.inl ⟨by decide, fun h => by have h1 := (HNo.out h).2.2.2; have h2 := HZ.out; omega⟩, rfl, HE.out.1⟩
    have HZ := Lib.hid (And.intro hl0 (And.intro hc1 hc8))
    have HOk : Hid (rdOk X) := Lib.hid ⟨HOkS.out, by rw [← HSE.out, ← HOd.out], by rw [← HSE.out]; exact List.eq_nil_of_length_eq_zero (by have := HLn.out; have := HZ.out.1; omega), by rw [← HX1.out]; have := HZ.out.2.1; omega, by rw [← HX1.out]; have := HZ.out.2.2; omega⟩
    have HWf : Hid (Below w.heap.size w (v4.setCells n0 0 (pkC PE).toList) ∧ (v4.setCells n0 0 (pkC PE).toList).heap[n0]? = some (.cells (pkC PE) 41 (0, 0))) := Lib.hid (by
      obtain ⟨h3, h4⟩ := whole_at (B := w.heap.size) (vs := (pkC PE).toList) HBv.out.2 rfl HBk.out.2.2.2.2
      exact ⟨HBv.out.1.trans h3, h4⟩)
    go_wp2_with (first | (refine wpList_load_mid rfl 41 _ rfl pb 0 rfl (pkC PE).toList _ hr1 Tryz.underlying41 rfl (pk_len _) ?_) | (refine wpList_store_mid rfl 41 _ _ rfl n0 0 (pkC PE).toList.toArray rfl rfl (by exact HThv.out) (pk_size _) (pk_one _ HOne.out) ?_; generalize hwe : (World.setCells _ _ _ _) = we; have HE : Hid (Below w.heap.size w we ∧ we.heap[n0]? = some (.cells (pkC PE) 41 (0, 0))) := (Lib.hid (by rw [← hwe]; exact HWf.out)); clear hwe))
    refine bodyPost_ret (results_row_tmp rfl _ _ n0 41 (pkC PE) (0, 0) _ rfl HE.out.2 Tryz.underlying41 rfl Tryz.sizePk) rfl ?_
    exact ⟨PE, 0, rfl, Or.inr ⟨rfl, HOk.out, HPE.out⟩, HOne.out, HE.out.1⟩
end Go.Proofs.YtiinponoeaihcaaGreat

/- What is sent is put; what is told is put, or not, and its bytes begin with its kind. -/
namespace Go.Proofs.YtiinponoeaihcaaGreat
open Go.RowKit Go.Shelf

theorem I64_u {x : Int} (h : 0 ≤ x ∧ x ≤ 9223372036854775807) : I64 x := WalkArith.wf_i64 (by omega)
theorem GoodP.w3 {p : Pk} (h : GoodP p) (hk : p.kd = 3) : PkW p := by
  obtain ⟨h1, h2, h3, h4⟩ := h
  rcases h4 with ⟨_, a0, a1, a2, a3, a4, a5, a6⟩ | ⟨a, _⟩
  rotate_left
  · omega
  constructor
  · rw [hk]; exact small_I64 (by decide)
  · rw [h1]; exact small_I64 (by decide)
  · exact I64_u ⟨h2.1, by omega⟩
  · exact I64_u h3
  · exact I64_u ⟨by omega, by omega⟩
  · rw [a0]; exact small_I64 (x := 0) (by decide)
  · rw [a0]; exact small_I64 (x := 0) (by decide)
  · rw [a0]; exact small_I64 (x := 0) (by decide)
  · rw [a0]; exact small_I64 (x := 0) (by decide)
  · rw [a0]; exact small_I64 (x := 0) (by decide)
  · exact I64_u ⟨a5.1, by omega⟩
  · rw [a0]; exact small_I64 (x := 0) (by decide)
  · rw [a0]; exact small_I64 (x := 0) (by decide)
  · rw [a6]; exact small_I64 (by decide)
  · exact I64_u ⟨a2.1, by omega⟩
  · rw [a0]; exact small_I64 (x := 0) (by decide)
  · rw [a0]; exact small_I64 (x := 0) (by decide)
  · rw [a0]; exact small_I64 (x := 0) (by decide)
  · rw [a0]; exact small_I64 (x := 0) (by decide)
  · rw [a0]; exact small_I64 (x := 0) (by decide)
  · rw [a0]; exact small_I64 (x := 0) (by decide)
  · rw [a0]; exact small_I64 (x := 0) (by decide)
  · rw [a0]; exact small_I64 (x := 0) (by decide)
  · rw [a0]; exact small_I64 (x := 0) (by decide)
  · rw [a0]; exact small_I64 (x := 0) (by decide)
  · rw [a0]; exact small_I64 (x := 0) (by decide)
  · rw [a0]; exact small_I64 (x := 0) (by decide)
  · rw [a0]; exact small_I64 (x := 0) (by decide)
  · rw [a0]; exact small_I64 (x := 0) (by decide)
  · rw [a0]; exact small_I64 (x := 0) (by decide)
  · rw [a0]; exact small_I64 (x := 0) (by decide)
  · rw [a0]; exact small_I64 (x := 0) (by decide)
  · rw [a0]; exact small_I64 (x := 0) (by decide)
  · rw [a0]; exact small_I64 (x := 0) (by decide)
  · rw [a0]; exact small_I64 (x := 0) (by decide)
  · rw [a0]; exact small_I64 (x := 0) (by decide)
  · rw [a0]; exact small_I64 (x := 0) (by decide)
  · rw [a0]; exact Nat.zero_le _
  · omega
  · omega
  · rw [a0]; exact Nat.zero_le _
  · rw [a0]; exact Nat.zero_le _
theorem GoodP.nv3 {p : Pk} (h : GoodP p) (hk : p.kd = 3) : p.nv = .slice none ([] : List (List UInt8)).length 0 := by
  rw [(h.ok3 hk).1]
  rfl
theorem GoodP.w1 {p : Pk} (h : GoodP p) (hk : p.kd = 1) : PkW p := by
  obtain ⟨h1, h2, h3, h4⟩ := h
  rcases h4 with ⟨a, _⟩ | ⟨_, a0, a1, a2, a3, a4, a5, a6⟩
  · omega
  constructor
  · rw [hk]; exact small_I64 (by decide)
  · rw [h1]; exact small_I64 (by decide)
  · exact I64_u ⟨h2.1, by omega⟩
  · exact I64_u h3
  · exact I64_u ⟨by omega, by omega⟩
  · exact I64_u ⟨a2.1, by omega⟩
  · exact I64_u ⟨a3.1, by omega⟩
  · rw [a5]; exact small_I64 (by decide)
  · rw [a6]; exact small_I64 (by decide)
  · rw [a0]; exact small_I64 (x := 0) (by decide)
  · rw [a0]; exact small_I64 (x := 0) (by decide)
  · rw [a0]; exact small_I64 (x := 0) (by decide)
  · rw [a0]; exact small_I64 (x := 0) (by decide)
  · rw [a0]; exact small_I64 (x := 0) (by decide)
  · rw [a0]; exact small_I64 (x := 0) (by decide)
  · rw [a0]; exact small_I64 (x := 0) (by decide)
  · rw [a0]; exact small_I64 (x := 0) (by decide)
  · rw [a0]; exact small_I64 (x := 0) (by decide)
  · rw [a0]; exact small_I64 (x := 0) (by decide)
  · rw [a0]; exact small_I64 (x := 0) (by decide)
  · rw [a0]; exact small_I64 (x := 0) (by decide)
  · rw [a0]; exact small_I64 (x := 0) (by decide)
  · rw [a0]; exact small_I64 (x := 0) (by decide)
  · rw [a0]; exact small_I64 (x := 0) (by decide)
  · rw [a0]; exact small_I64 (x := 0) (by decide)
  · rw [a0]; exact small_I64 (x := 0) (by decide)
  · rw [a0]; exact small_I64 (x := 0) (by decide)
  · rw [a0]; exact small_I64 (x := 0) (by decide)
  · rw [a0]; exact small_I64 (x := 0) (by decide)
  · rw [a0]; exact small_I64 (x := 0) (by decide)
  · rw [a0]; exact small_I64 (x := 0) (by decide)
  · rw [a0]; exact small_I64 (x := 0) (by decide)
  · rw [a0]; exact small_I64 (x := 0) (by decide)
  · rw [a0]; exact small_I64 (x := 0) (by decide)
  · rw [a0]; exact small_I64 (x := 0) (by decide)
  · rw [a0]; exact small_I64 (x := 0) (by decide)
  · rw [a0]; exact small_I64 (x := 0) (by decide)
  · omega
  · rw [a0]; exact Nat.zero_le _
  · rw [a0]; exact Nat.zero_le _
  · rw [a0]; exact Nat.zero_le _
  · rw [a0]; exact Nat.zero_le _
theorem GoodP.nv1 {p : Pk} (h : GoodP p) (hk : p.kd = 1) : p.nv = .slice none ([] : List (List UInt8)).length 0 := by
  rw [(h.ok1 hk).1]
  rfl
/-- what is sent is put -/
theorem good_put {p : Pk} (h : GoodP p) (w : World) :
    Calls Tryz.prog 6 #[.agg (pkC p)] w fun e w' => (∃ v, e = .returned (.tuple #[v, .int .i64 0])) ∧ Below w.heap.size w w' := by
  rcases (show p.kd = 3 ∨ p.kd = 1 from h.is.elim (fun h => Or.inl h.1) fun h => Or.inr h.1) with hk | hk
  · refine (put_gen p (oth3 p) (in3 p) (fun _ => h.len3 hk) w fun W hW => inner3_any p hk none 0 [] (h.nv3 hk) (Nat.zero_le _) W (Or.inl rfl) (h.w3 hk)).mono ?_
    rintro e w' (⟨hn, _⟩ | ⟨_, v, he, _, hb⟩)
    · exact absurd ⟨(h.ok3 hk).2, (h.ok3 hk).1⟩ hn
    · exact ⟨⟨v, he⟩, hb⟩
  · refine (put_gen p (oth1 p) (in1 p) (fun _ => h.len1 hk) w fun W hW => inner1_any p hk none 0 [] (h.nv1 hk) (Nat.zero_le _) W (Or.inl rfl) (h.w1 hk)).mono ?_
    rintro e w' (⟨hn, _⟩ | ⟨_, v, he, _, hb⟩)
    · exact absurd ⟨(h.ok1 hk).2, (h.ok1 hk).1⟩ hn
    · exact ⟨⟨v, he⟩, hb⟩
/-! ### what is told -/
theorem stN_pre (s : Sw) (n : Int) (k : Nat) (lo hi : Int) : ∃ M, (stN s n k lo hi).1 = s.1 ++ M := by
  show ∃ M, numL s.1 n k lo hi = s.1 ++ M
  unfold numL Gd.put
  split
  · split
    · exact ⟨_, rfl⟩
    · exact ⟨[], (List.append_nil _).symm⟩
  · exact ⟨[], (List.append_nil _).symm⟩
theorem stT_pre (s : Sw) (t : ByteArray) (k : Nat) (hi : Int) : ∃ M, (stT s t k hi).1 = s.1 ++ M := by
  obtain ⟨M, h⟩ := stN_pre s t.size k 0 hi
  refine ⟨M ++ t.data.toList, ?_⟩
  show numL s.1 t.size k 0 hi ++ t.data.toList = _
  have h2 : numL s.1 t.size k 0 hi = s.1 ++ M := h
  rw [h2, List.append_assoc]
def Begins (x : UInt8) (s : Sw) : Prop := ∃ M, s.1 = x :: M
theorem Begins.n {x : UInt8} {s : Sw} (h : Begins x s) (n : Int) (k : Nat) (lo hi : Int) : Begins x (stN s n k lo hi) := by
  obtain ⟨M, h⟩ := h
  obtain ⟨M2, h2⟩ := stN_pre s n k lo hi
  exact ⟨M ++ M2, by rw [h2, h]; rfl⟩
theorem Begins.t {x : UInt8} {s : Sw} (h : Begins x s) (t : ByteArray) (k : Nat) (hi : Int) : Begins x (stT s t k hi) := by
  obtain ⟨M, h⟩ := h
  obtain ⟨M2, h2⟩ := stT_pre s t k hi
  exact ⟨M ++ M2, by rw [h2, h]; rfl⟩
theorem inNm_cons (y : List UInt8) (r : List (List UInt8)) (s : Sw) : inNm (y :: r) s = inNm r (stT s ⟨y.toArray⟩ 1 12) := by
  unfold inNm
  rw [List.foldl_cons]
theorem Begins.nm {x : UInt8} : ∀ (L : List (List UInt8)) {s : Sw}, Begins x s → Begins x (inNm L s)
  | [], _, h => h
  | y :: r, s, h => by
    rw [inNm_cons]
    exact Begins.nm r (h.t ⟨y.toArray⟩ 1 12)
theorem stN_inv {s : Sw} {n : Int} {k : Nat} {lo hi : Int} (h : (stN s n k lo hi).2 = false) : s.2 = false ∧ numOk n k lo hi = true := by
  have h : (s.2 || !numOk n k lo hi) = false := h
  rw [Bool.or_eq_false_iff] at h
  exact ⟨h.1, by simpa using h.2⟩
theorem stT_inv {s : Sw} {t : ByteArray} {k : Nat} {hi : Int} (h : (stT s t k hi).2 = false) : s.2 = false ∧ (t.size : Int) ≤ hi := by
  have h : (s.2 || !numOk t.size k 0 hi) = false := h
  rw [Bool.or_eq_false_iff] at h
  refine ⟨h.1, ?_⟩
  have h2 : numOk t.size k 0 hi = true := by simpa using h.2
  unfold numOk at h2
  simp only [Bool.and_eq_true, decide_eq_true_eq] at h2
  exact h2.2
theorem inNm_inv (L : List (List UInt8)) : ∀ {s : Sw}, (inNm L s).2 = false → s.2 = false ∧ (inNm L s).1.length ≤ s.1.length + 13 * L.length := by
  induction L with
  | nil => exact fun h => ⟨h, Nat.le_refl _⟩
  | cons y r ih =>
    intro s h
    rw [inNm_cons] at h ⊢
    obtain ⟨h1, h2⟩ := ih h
    obtain ⟨h3, h4⟩ := stT_inv h1
    have h5 := stT_len s ⟨y.toArray⟩ 1 12 (Nat.le_refl _) (q := 12) (by omega)
    refine ⟨h3, ?_⟩
    rw [List.length_cons]
    omega
theorem begins_kd {kd : Int} {x : UInt8} (h : numL [] kd 1 1 5 = [x]) : Begins x (stN ([], false) kd 1 1 5) := ⟨[], h⟩
theorem begins2 (p : Pk) : Begins 2 (in2 p) := by
  have h0 : Begins 2 (stN ([], false) 2 1 1 5) := begins_kd (by decide)
  exact (((((((h0.n _ _ _ _).n _ _ _ _).n _ _ _ _).n _ _ _ _).n _ _ _ _).t _ _ _).n _ _ _ _)
theorem inB_begins {x : UInt8} (p : Pk) {s : Sw} (h : Begins x s) : ∀ i, Begins x (inB p i s)
  | 0 => h
  | i + 1 => (inB_begins p h i).n _ _ _ _
theorem begins4 (p : Pk) (L : List (List UInt8)) : Begins 4 (in4 p L) := by
  have h0 : Begins 4 (stN ([], false) 4 1 1 5) := begins_kd (by decide)
  have h1 : Begins 4 (in4a p) := ((((((((((((((h0.n _ _ _ _).n _ _ _ _).n _ _ _ _).n _ _ _ _).n _ _ _ _).n _ _ _ _).n _ _ _ _).n _ _ _ _).n _ _ _ _).n _ _ _ _).n _ _ _ _).n _ _ _ _).n _ _ _ _).n _ _ _ _)
  exact Begins.nm L ((inB_begins p h1 4).n _ _ _ _)
theorem len2 (p : Pk) (h : (in2 p).2 = false) : (in2 p).1.length ≤ 900000 := by
  unfold in2 at h ⊢
  have h1 := (stN_inv h).1
  have h2 := (stT_inv h1).2
  refine Nat.le_trans (stN_len _ _ _ _ _ (stT_len _ _ _ _ (q := 128) (stN_len _ _ _ _ _ (stN_len _ _ _ _ _ (stN_len _ _ _ _ _ (stN_len _ _ _ _ _ (stN_len _ _ _ _ _ (stN_len _ _ _ _ _ (m := 0) (Nat.le_refl _))))))) (by omega))) ?_
  decide
theorem len4 (p : Pk) (L : List (List UInt8)) (h : (in4 p L).2 = false) : (in4 p L).1.length ≤ 900000 := by
  unfold in4 at h ⊢
  obtain ⟨h1, h2⟩ := inNm_inv L h
  obtain ⟨h3, h4⟩ := stN_inv h1
  unfold numOk at h4
  simp only [Bool.and_eq_true, decide_eq_true_eq] at h4
  have h5 : (in4a p).1.length ≤ 100 := by
    unfold in4a
    refine Nat.le_trans (stN_len _ _ _ _ _ (stN_len _ _ _ _ _ (stN_len _ _ _ _ _ (stN_len _ _ _ _ _ (stN_len _ _ _ _ _ (stN_len _ _ _ _ _ (stN_len _ _ _ _ _ (stN_len _ _ _ _ _ (stN_len _ _ _ _ _ (stN_len _ _ _ _ _ (stN_len _ _ _ _ _ (stN_len _ _ _ _ _ (stN_len _ _ _ _ _ (stN_len _ _ _ _ _ (stN_len _ _ _ _ _ (m := 0) (Nat.le_refl _)))))))))))))))) ?_
    decide
  have h6 := stN_len (inB p 4 (in4a p)) L.length 1 0 16 (inB_len p (in4a p) h5 4)
  omega
/-- the first byte is read as the kind -/
theorem rd_first {x : UInt8} {s : Sw} (h : Begins x s) : rn (rd0 (s.1 ++ Gd.le (Gd.crc s.1) 4)) 1 = (x.toNat : Int) := by
  obtain ⟨M, h⟩ := h
  have hl : (Gd.le (Gd.crc s.1) 4).length = 4 := Gd.le_length _ _
  have h2 : rd0 (s.1 ++ Gd.le (Gd.crc s.1) 4) = (x :: M, false) := by
    unfold rd0
    rw [List.length_append, hl, Nat.add_sub_cancel, List.take_left' rfl, h]
  rw [h2]
  have hN : Gd.getN (x :: M) 0 1 = x.toNat := by
    show Gd.unle [x] = x.toNat
    simp [Gd.unle]
  have hx := x.toNat_lt
  have hB : Gd.getB (x :: M) 0 1 = true := by
    unfold Gd.getB
    rw [show (0 : Int).toNat = 0 from rfl, hN]
    simp
    omega
  have hk : rok (x :: M, false) 1 = true := by
    unfold rok
    show (Gd.getB (x :: M) 0 1 && !false) = true
    rw [hB]
    rfl
  rw [rn, if_pos hk]
  show Gd.get (x :: M) 0 1 = _
  rw [Gd.get, if_pos hB, show (0 : Int).toNat = 0 from rfl, hN]
/-- what is read fits -/
theorem tn_le (s : Rs) (k most : Nat) : (tn s k most).size ≤ most := tn_size s k most
theorem setB_same (p : Pk) (i : Nat) (v : Int) : (setB p i v).ino = p.ino ∧ (setB p i v).at_ = p.at_ ∧ (setB p i v).ns = p.ns ∧ (setB p i v).d = p.d ∧ (setB p i v).kd = p.kd ∧ (setB p i v).op = p.op ∧ (setB p i v).er = p.er ∧ (setB p i v).sq = p.sq ∧ (setB p i v).ep = p.ep := by
  unfold setB
  split <;> exact ⟨rfl, rfl, rfl, rfl, rfl, rfl, rfl, rfl, rfl⟩
theorem blkP_same (i : Nat) (s : Rs) (p : Pk) : (blkP i s p).ino = p.ino ∧ (blkP i s p).at_ = p.at_ ∧ (blkP i s p).ns = p.ns ∧ (blkP i s p).d = p.d ∧ (blkP i s p).kd = p.kd ∧ (blkP i s p).op = p.op ∧ (blkP i s p).er = p.er ∧ (blkP i s p).sq = p.sq ∧ (blkP i s p).ep = p.ep := by
  induction i with
  | zero => exact ⟨rfl, rfl, rfl, rfl, rfl, rfl, rfl, rfl, rfl⟩
  | succ i ih =>
    rw [blkP_succ]
    have h := setB_same (blkP i s p) i (rn (rsN i s) 1)
    exact ⟨h.1.trans ih.1, h.2.1.trans ih.2.1, h.2.2.1.trans ih.2.2.1, h.2.2.2.1.trans ih.2.2.2.1, h.2.2.2.2.1.trans ih.2.2.2.2.1, h.2.2.2.2.2.1.trans ih.2.2.2.2.2.1, h.2.2.2.2.2.2.1.trans ih.2.2.2.2.2.2.1, h.2.2.2.2.2.2.2.1.trans ih.2.2.2.2.2.2.2.1, h.2.2.2.2.2.2.2.2.trans ih.2.2.2.2.2.2.2.2⟩
theorem rn_ge0 (s : Rs) (k : Nat) : 0 ≤ rn s k := by
  obtain ⟨N, h⟩ := rn_ge s k
  omega
theorem rn_b1 (s : Rs) : 0 ≤ rn s 1 ∧ rn s 1 < 256 := ⟨rn_ge0 s 1, rn_lt⟩
theorem rn_b2 (s : Rs) : 0 ≤ rn s 2 ∧ rn s 2 < 65536 := ⟨rn_ge0 s 2, rn_lt⟩
theorem rn_b4 (s : Rs) : 0 ≤ rn s 4 ∧ rn s 4 < 4294967296 := ⟨rn_ge0 s 4, rn_lt⟩
theorem setNv_same (p : Pk) (u : Value) : (setNv p u).ino = p.ino ∧ (setNv p u).at_ = p.at_ ∧ (setNv p u).ns = p.ns ∧ (setNv p u).d = p.d ∧ (setNv p u).kd = p.kd ∧ (setNv p u).nv = u := ⟨rfl, rfl, rfl, rfl, rfl, rfl⟩
theorem vtP_same (s : Rs) (p : Pk) : (vtP s p).ino = p.ino ∧ (vtP s p).at_ = p.at_ ∧ (vtP s p).ns = p.ns ∧ (vtP s p).d = tn (rs (rs s 1) 1) 2 128 ∧ (vtP s p).kd = p.kd := by
  refine ⟨?_, ?_, ?_, ?_, ?_⟩ <;> simp only [vtP]
theorem rtP0_same (s : Rs) (p : Pk) : (rtP0 s p).ino = rn (rt2 s) 1 ∧ (rtP0 s p).at_ = rn (rt4 s) 4 ∧ (rtP0 s p).ns = rn (rt10 s) 2 ∧ (rtP0 s p).d = p.d ∧ (rtP0 s p).kd = p.kd := by
  refine ⟨?_, ?_, ?_, ?_, ?_⟩ <;> simp only [rtP0]
theorem rdH_same (X : List UInt8) : (rdH X).ino = 0 ∧ (rdH X).at_ = 0 ∧ (rdH X).ns = 0 ∧ (rdH X).d = ⟨#[]⟩ ∧ (rdH X).kd = rn (rd0 X) 1 := by
  refine ⟨?_, ?_, ?_, ?_, ?_⟩ <;> simp only [rdH]
theorem rdP_ok (X : List UInt8) {u : Value} (hu : ∃ A m c, u = .slice A m c) : POk (setNv (rdP X) u) ∧ (setNv (rdP X) u).kd = rn (rd0 X) 1 := by
  obtain ⟨s1, s2, s3, s4, s5, s6⟩ := setNv_same (rdP X) u
  obtain ⟨h1, h2, h3, h4, h5⟩ := rdH_same X
  have key : (0 ≤ (rdP X).ino ∧ (rdP X).ino < 256) ∧ (0 ≤ (rdP X).at_ ∧ (rdP X).at_ < 4294967296) ∧ (0 ≤ (rdP X).ns ∧ (rdP X).ns < 65536) ∧ (rdP X).d.size ≤ 128 ∧ (rdP X).kd = rn (rd0 X) 1 := by
    unfold rdP
    split
    · obtain ⟨v1, v2, v3, v4, v5⟩ := vtP_same (rd4 X) (rdH X)
      rw [v1, v2, v3, v4, v5, h1, h2, h3, h5]
      exact ⟨⟨by omega, by omega⟩, ⟨by omega, by omega⟩, ⟨by omega, by omega⟩, tn_size _ 2 128, rfl⟩
    · obtain ⟨b1, b2, b3, b4, b5, _⟩ := blkP_same 4 (rt11 (rd4 X)) (rtP0 (rd4 X) (rdH X))
      obtain ⟨v1, v2, v3, v4, v5⟩ := rtP0_same (rd4 X) (rdH X)
      unfold rtP
      rw [b1, b2, b3, b4, b5, v1, v2, v3, v4, v5, h4, h5]
      exact ⟨rn_b1 _, rn_b4 _, rn_b2 _, Nat.zero_le _, rfl⟩
  refine ⟨⟨?_, ?_, ?_, ?_, ?_⟩, ?_⟩
  · rw [s1]; exact key.1
  · rw [s2]; exact key.2.1
  · rw [s3]; exact key.2.2.1
  · rw [s4]; exact key.2.2.2.1
  · rw [s6]; exact hu
  · rw [s5]; exact key.2.2.2.2
theorem RdQ.readP {X : List UInt8} {p : Pk} {er : Int} (hk : rn (rd0 X) 1 = 2 ∨ rn (rd0 X) 1 = 4) (h : RdQ X p er) : ReadP p er := fun e => by
  rcases h with ⟨h, _⟩ | ⟨_, _, u, hu, rfl⟩
  · exact absurd e h
  · have h2 := rdP_ok X hu
    exact ⟨h2.1, by rw [h2.2]; exact hk⟩
end Go.Proofs.YtiinponoeaihcaaGreat

/- What a client sends next is good. -/
namespace Go.Proofs.YtiinponoeaihcaaGreat
open Go.RowKit Go.Shelf

theorem good_call {T : Cs} (op id ino : Int) (p1 p2 : ByteArray) (fl : Int) (hcl : T.cl = 1) (hep : 0 ≤ T.ep ∧ T.ep < 4294967296) (hid : 0 ≤ id ∧ id ≤ 9223372036854775807) (hop : 0 ≤ op ∧ op < 256) (hi : 0 ≤ ino ∧ ino < 256) (h1 : p1.size ≤ 100) (h2 : p2.size ≤ 100) (hf : 0 ≤ fl ∧ fl < 256) : GoodP (sentP T (callP op id ino 0 p1 p2 fl 0 0 0 ⟨#[]⟩)) :=
  ⟨hcl, hep, hid, Or.inl ⟨rfl, by simp only [sentP, callP, oth3], hop, hi, h1, h2, hf, rfl⟩⟩
theorem good_verb {T : Cs} (op a n : Int) (d : ByteArray) (sq : Int) (hcl : T.cl = 1) (hep : 0 ≤ T.ep ∧ T.ep < 4294967296) (hsq : 0 ≤ sq ∧ sq ≤ 9223372036854775807) (hop : 1 ≤ op ∧ op ≤ 4) (ha : 0 ≤ a ∧ a < 4294967296) (hn : 0 ≤ n ∧ n < 65536) (hd : d.size ≤ 128) : GoodP (sentP T { kd := 1, sq := sq, op := op, at_ := a, n := n, d := d }) :=
  ⟨hcl, hep, hsq, Or.inr ⟨rfl, by simp only [sentP, oth1], hop, ha, hn, hd, rfl, rfl⟩⟩
theorem own_id {S : Cs} (h0 : 0 ≤ S.id) (ht : S.id ≤ topN S) (hl : 0 ≤ S.life ∧ S.life < 1048576) (hc : 0 ≤ S.cnt ∧ S.cnt ≤ 8000) : 0 ≤ (ownS S).id ∧ (ownS S).id ≤ 9223372036854775807 := by
  unfold topN at ht
  unfold ownS
  split
  · show 0 ≤ S.life * 1048576 + (S.cnt + 1) ∧ S.life * 1048576 + (S.cnt + 1) ≤ _
    omega
  · omega
theorem own_cl (S : Cs) : (ownS S).cl = S.cl ∧ (ownS S).ep = S.ep ∧ (ownS S).life = S.life ∧ (ownS S).vs = S.vs := by
  unfold ownS
  split <;> exact ⟨rfl, rfl, rfl, rfl⟩
theorem own_cnt (S : Cs) : (ownS S).cnt = S.cnt ∨ (ownS S).cnt = S.cnt + 1 := by
  unfold ownS
  split
  · exact Or.inr rfl
  · exact Or.inl rfl
theorem ba0 : (⟨#[]⟩ : ByteArray).size ≤ 100 := Nat.zero_le _
theorem next_good {N : Nat} {g : Int} {S T : Cs} {p : Pk} (hI : Iv N g S) (hN : N ≤ 8000) (hid : 0 ≤ S.id) (hcl : S.cl = 1) (hT : NextP S T p) : GoodP (sentP T p) ∧ 0 ≤ T.id ∧ T.cl = 1 := by
  have hl := hI.bd.life
  have hc := hI.bd.cnt
  have hc2 : 0 ≤ S.cnt ∧ S.cnt ≤ 8000 := ⟨hc.1, by omega⟩
  have hep := hI.bd.ep
  have ht := hI.sn.id
  have hvs := hI.bd.vs
  obtain ⟨o1, o2, o3, o4⟩ := own_cl S
  have hown := own_id hid ht hl hc2
  have hnew : 0 ≤ S.life * 1048576 + (S.cnt + 1) ∧ S.life * 1048576 + (S.cnt + 1) ≤ 9223372036854775807 := by omega
  rcases hT with ⟨_, rfl, rfl⟩ | ⟨he, _, rfl, rfl⟩ | ⟨he, hw, h2, h3, h4, h5, rfl, p2, fl, hn, rfl⟩ | ⟨he, hw, h2, hold, k, _, hf, rfl, rfl⟩ | ⟨he, hw, _, own, rfl, rfl⟩ | ⟨he, hw, _, rfl, a, n, ha1, ha2, hn, rfl⟩ | ⟨he, hw, _, rfl, rfl⟩ | ⟨he, hw, _, rfl, op, a, n, d, rfl, hop, ha1, ha2, hn1, hn2, hd⟩
  · exact ⟨good_call (T := numS S) 20 _ 0 _ _ 0 hcl hep hnew (by omega) (by omega) ba0 ba0 (by omega), hid, hcl⟩
  · exact ⟨good_call (T := numS S) 21 _ 0 _ _ 0 hcl hep hnew (by omega) (by omega) ba0 ba0 (by omega), hid, hcl⟩
  · have hok := hI.bd.ok hw he
    have hk : (0 ≤ S.K.kd ∧ S.K.kd < 256) ∧ S.K.p1.size ≤ 100 ∧ ((S.K.kd = 9 ∨ S.K.kd = 11) → S.K.p2.size ≤ 100) ∧ (S.K.kd = 1 → 0 ≤ S.K.fl ∧ S.K.fl ≤ 3) := by
      rcases hok with ⟨a, b, c, d⟩ | ⟨a, b, c⟩ | ⟨a, b⟩ | ⟨_, a | ⟨a, _⟩ | ⟨a, _⟩ | ⟨a, _⟩⟩
      · exact ⟨by omega, d, fun e => by omega, fun _ => ⟨b, c⟩⟩
      · exact ⟨by omega, b, fun _ => c, fun e => by omega⟩
      · exact ⟨by omega, b, fun e => by omega, fun e => by omega⟩
      · exact absurd a h2
      · exact absurd a h3
      · exact absurd a h4
      · exact absurd a h5
    have hpf : p2.size ≤ 100 ∧ 0 ≤ fl ∧ fl < 256 := by
      rcases hn with ⟨rfl, hk2, rfl⟩ | ⟨rfl, ⟨hk1, rfl | rfl⟩ | rfl⟩
      · exact ⟨hk.2.2.1 hk2, by omega, by omega⟩
      · have := hk.2.2.2 hk1
        exact ⟨ba0, by omega, by omega⟩
      · have := hk.2.2.2 hk1
        exact ⟨ba0, by omega, by omega⟩
      · exact ⟨ba0, by omega, by omega⟩
    exact ⟨good_call (T := ownS S) _ _ 0 _ _ _ (o1.trans hcl) (by rw [o2]; exact hep) hown hk.1 (by omega) hk.2.1 hpf.1 hpf.2, hown.1, o1.trans hcl⟩
  · have hid2 : (setHd S hold).id = S.id := rfl
    have hown2 := own_id (S := setHd S hold) hid ht hl hc2
    obtain ⟨q1, q2, q3, q4⟩ := own_cl (setHd S hold)
    exact ⟨good_call (T := ownS (setHd S hold)) 2 _ _ _ _ 0 (q1.trans hcl) (by rw [q2]; exact hep) hown2 (by omega) (hI.bd.f k) ba0 ba0 (by omega), hown2.1, q1.trans hcl⟩
  · refine ⟨good_call (T := leaseS S (inoF S.f S.K.fd)) 22 _ _ _ _ _ hcl hep hnew (by omega) (hI.bd.ino _) ba0 ba0 ?_, hid, hcl⟩
    cases own
    · exact ⟨by decide, by decide⟩
    · exact ⟨by decide, by decide⟩
  · refine ⟨good_verb (T := T) 2 a n ⟨#[]⟩ (T.vs + 1) hcl hep (by omega) (by omega) (by omega) (by omega) (Nat.zero_le _), hid, hcl⟩
  · obtain ⟨q1, q2, q3, q4⟩ := own_cl S
    refine ⟨good_call (T := numS (ownS S)) 24 _ 0 _ _ 0 (q1.trans hcl) (by show 0 ≤ (ownS S).ep ∧ (ownS S).ep < _; rw [q2]; exact hep) ?_ (by omega) (by omega) ba0 ba0 (by omega), hown.1, q1.trans hcl⟩
    have := own_cnt S
    rw [q3]
    omega
  · refine ⟨good_verb (T := ownS S) op a n d ((ownS S).vs + 1) (o1.trans hcl) (by rw [o2]; exact hep) (by rw [o4]; omega) (by omega) (by omega) (by omega) (by omega), hown.1, o1.trans hcl⟩
end Go.Proofs.YtiinponoeaihcaaGreat

/- What the law's rounds keep. -/
namespace Go.Proofs.YtiinponoeaihcaaGreat
open Go.RowKit Go.Shelf

def Tn (S : Cs) : Prop := ∃ A m c, S.tn = .slice A m c
theorem did_tn {S T : Cs} (h : Tn S) (hD : DidP S T) : Tn T := by
  rcases hD with rfl | ⟨_, K, hs, hg, rfl | ⟨D, rfl⟩⟩ | ⟨q, rfl⟩ | ⟨q, n, i, H, v, hn, hi, rfl⟩
  · exact h
  · exact h
  · exact ⟨_, _, _, rfl⟩
  · exact h
  · exact ⟨_, _, _, rfl⟩
theorem ans_tn {S T : Cs} {p : Pk} (h : Tn S) (hA : AnsP S p T) : Tn T := by
  rcases hA with ⟨rfl, _⟩ | rfl | ⟨f, tf, A, n, c, hf, rfl⟩
  · exact h
  · exact ⟨_, _, _, rfl⟩
  · exact ⟨_, _, _, rfl⟩
theorem take_tn {S T : Cs} {p : Pk} (h : Tn S) (hT : TakeP S p T) : Tn T := by
  rcases hT with ⟨_, rfl⟩ | ⟨_, hD⟩ | ⟨_, _, q, rfl⟩ | ⟨_, ⟨rfl, _⟩ | ⟨_, _, er, rfl⟩⟩ | ⟨ho, rfl | rfl⟩ | ⟨_, ⟨b, rfl⟩ | ⟨q, rfl⟩ | rfl⟩ | ⟨ho, ⟨hold, hf, rfl⟩ | rfl⟩ | ⟨_, _, _, _, hA⟩ | ⟨_, rfl⟩
  · exact h
  · exact did_tn (S := incV S) h hD
  · exact h
  · exact h
  · exact ⟨_, _, _, rfl⟩
  · exact h
  · exact ⟨_, _, _, rfl⟩
  · exact h
  · exact h
  · exact ⟨_, _, _, rfl⟩
  · exact h
  · exact ⟨_, _, _, rfl⟩
  · exact ans_tn h hA
  · exact h
theorem next_tn {S T : Cs} {p : Pk} (h : Tn S) (hT : NextP S T p) : Tn T ∧ T.up = S.up := by
  have ho : ∀ {S : Cs}, Tn S → Tn (ownS S) ∧ (ownS S).up = S.up := fun {S} h => by
    unfold ownS
    split <;> exact ⟨h, rfl⟩
  rcases hT with ⟨_, rfl, rfl⟩ | ⟨he, _, rfl, rfl⟩ | ⟨he, hw, h2, h3, h4, h5, rfl, p2, fl, hn, rfl⟩ | ⟨he, hw, h2, hold, k, _, hf, rfl, rfl⟩ | ⟨he, hw, _, own, rfl, rfl⟩ | ⟨he, hw, _, rfl, a, n, ha1, ha2, hn, rfl⟩ | ⟨he, hw, _, rfl, rfl⟩ | ⟨he, hw, _, rfl, op, a, n, d, rfl, hop, ha1, ha2, hn1, hn2, hd⟩
  · exact ⟨h, rfl⟩
  · exact ⟨h, rfl⟩
  · exact ho h
  · exact ho (S := setHd S hold) h
  · exact ⟨h, rfl⟩
  · exact ⟨h, rfl⟩
  · exact ho (S := S) h
  · exact ho h
theorem next_nv {S T : Cs} {p : Pk} (hT : NextP S T p) : p.nv = .slice none 0 0 := by
  rcases hT with ⟨_, rfl, rfl⟩ | ⟨he, _, rfl, rfl⟩ | ⟨he, hw, h2, h3, h4, h5, rfl, p2, fl, hn, rfl⟩ | ⟨he, hw, h2, hold, k, _, hf, rfl, rfl⟩ | ⟨he, hw, _, own, rfl, rfl⟩ | ⟨he, hw, _, rfl, a, n, ha1, ha2, hn, rfl⟩ | ⟨he, hw, _, rfl, rfl⟩ | ⟨he, hw, _, rfl, op, a, n, d, rfl, hop, ha1, ha2, hn1, hn2, hd⟩ <;> rfl
/-- what the law's rounds keep -/
structure Jv (N : Nat) (g : Int) (S : Cs) : Prop where
  iv : Iv N g S
  id : 0 ≤ S.id
  cl : S.cl = 1
  up : S.up = true
  out : S.waits = true → GoodP S.out
  nv : S.out.nv = .slice none 0 0
  tn : Tn S
theorem Jv.tick {N : Nat} {g : Int} {S : Cs} (h : Jv N g S) (now : Int) : Jv N g (sentAt S now) :=
  have b := h.iv.bd
  ⟨⟨⟨b.life, b.cnt, b.ep, b.vs, b.tail, b.f, b.hm, b.wm, b.hn, b.hold, b.fd, b.got, b.d, b.ok⟩, tick_sn now h.iv.sn, fun e => tick_wt now (h.iv.wt e)⟩, h.id, h.cl, h.up, h.out, h.nv, h.tn⟩
theorem Jv.told {N : Nat} {g : Int} {S : Cs} (h : Jv N g S) : Jv N g (toldS S) := ⟨h.iv.told, h.id, h.cl, h.up, h.out, h.nv, ⟨_, _, _, rfl⟩⟩
theorem Jv.given {N : Nat} {g : Int} {S U : Cs} {K : Wk} {b : Nat} (h : Jv N g S) (hwk : S.wk = none) (hg : K.got = []) (hf : I64 K.fd) (hd : K.d.size ≤ 80) (hU : LookP (givenS S K b) U) : Jv N g U := by
  have hi := h.iv.given hwk hg hf hd hU
  rcases hU with ⟨rfl, _⟩ | ⟨_, _, er, rfl⟩
  · exact ⟨hi, Int.le_refl _, h.cl, h.up, h.out, h.nv, h.tn⟩
  · exact ⟨hi, Int.le_refl _, h.cl, h.up, h.out, h.nv, ⟨_, _, _, rfl⟩⟩
theorem Jv.take {N : Nat} {g : Int} {S U : Cs} {p : Pk} (h : Jv N g S) (hf : FitsP S p) (hp : POk p) (hT : TakeP (unwait S) p U) : Jv (N + 2) g U ∧ U.waits = false := by
  have hi := h.iv.take hf hp hT
  have hn := take_near hT
  have hw : U.waits = false := hn.waits
  refine ⟨⟨hi, ?_, hn.cl.trans h.cl, hn.up.trans h.up, fun e => (by rw [hw] at e; cases e), (congrArg Pk.nv hn.out).trans h.nv, take_tn (S := unwait S) h.tn hT⟩, hw⟩
  rcases hn.id with e | e
  · rw [e]; exact h.id
  · rw [e]
    have := hi.bd.life.1
    have := hi.bd.cnt.1
    omega
/-- what a client that does not wait sends -/
theorem Jv.sent {N : Nat} {g : Int} {S T : Cs} {p : Pk} (now : Int) (h : Jv N g S) (hN : N ≤ 8000) (hw : S.waits = false) (hT : NextP S T p) :
    GoodP (sentP T p) ∧ ∃ g', (p.kd = 3 → (g < p.sq ∨ p.sq = (outS T p now).id) ∧ g' = max g p.sq) ∧ (p.kd = 1 → g' = g) ∧ (p.kd = 1 ∨ p.kd = 3) ∧ Jv (N + 2) g' (outS T p now) := by
  obtain ⟨h1, h2, h3⟩ := next_good h.iv hN h.id h.cl hT
  obtain ⟨b, wt, sn⟩ := h.iv.sent now hw hT
  obtain ⟨t1, t2⟩ := next_tn h.tn hT
  have hup : (outS T p now).up = true := t2.trans h.up
  refine ⟨h1, ?_⟩
  rcases sn with ⟨hk, hs⟩ | ⟨hk, hs, hs2⟩
  · exact ⟨g, fun e => by omega, fun _ => rfl, Or.inl hk, ⟨⟨b, hs, fun _ => wt⟩, h2, h3, hup, fun _ => h1, (show p.nv = .slice none 0 0 from next_nv hT), t1⟩⟩
  · exact ⟨max g p.sq, fun _ => ⟨hs, rfl⟩, fun e => by omega, Or.inr hk, ⟨⟨b, hs2, fun _ => wt⟩, h2, h3, hup, fun _ => h1, (show p.nv = .slice none 0 0 from next_nv hT), t1⟩⟩
end Go.Proofs.YtiinponoeaihcaaGreat

/- A packet that is told: its bytes, and what is read of them. -/
namespace Go.Proofs.YtiinponoeaihcaaGreat
open Go.RowKit Go.Shelf

/-- bytes with their sum -/
def sealB (s : Sw) : List UInt8 := s.1 ++ Gd.le (Gd.crc s.1) 4
/-- what comes of a packet that is told: no bytes, or such that are read -/
def ToldA (w : World) (e : Ending) (w' : World) : Prop :=
  (e = .returned (.tuple #[.slice none 0 0, .int .i64 1]) ∧ Below w.heap.size w w') ∨
  ∃ v, e = .returned (.tuple #[v, .int .i64 0]) ∧ Below w.heap.size w w' ∧ (∃ (g n c : Nat), w.heap.size ≤ g ∧ v = .slice (some ⟨g, 0, none⟩) n c) ∧
    ∀ W, Below w'.heap.size w' W → Calls Tryz.prog 18 #[v] W fun e w2 => ∃ p er, e = .returned (.tuple #[.agg (pkC p), .int .i64 er]) ∧ ReadP p er ∧ p.nv.oneCell' = true ∧ Below W.heap.size W w2
theorem sealB_len (s : Sw) : (sealB s).length = s.1.length + 4 := by
  unfold sealB
  rw [List.length_append, Gd.le_length]
theorem read_bytes {w w' : World} {v : Value} {s : Sw} (hl : s.1.length ≤ 800000) (hk : rn (rd0 (sealB s)) 1 = 2 ∨ rn (rd0 (sealB s)) 1 = 4) (ho : OwnB w' w.heap.size v (sealB s)) :
    (∃ g c, w.heap.size ≤ g ∧ v = .slice (some ⟨g, 0, none⟩) (sealB s).length c) ∧ ∀ W, Below w'.heap.size w' W → Calls Tryz.prog 18 #[v] W (ReadA (sealB s) W) := by
  have hlen := sealB_len s
  rcases ho.2 with ⟨_, h0⟩ | ⟨g, cap, cur, rfl, hB, hg, h1, h2, h3, h4⟩
  · omega
  · refine ⟨⟨g, cap, hB, rfl⟩, fun W hW => ?_⟩
    have hat := (ho.keep hW).at_
    obtain ⟨A, c, he, h5 | ⟨b, o, hA, hb, hcell⟩⟩ := hat
    · have := congrArg List.length h5.2.1
      rw [hlen] at this
      simp at this
    · cases he
      cases hA
      exact wread_any (sealB s) g 0 cap W h1 (by unfold maxLen at h2; omega) (by omega) hb hcell fun _ => hk
theorem told_of {p q : Pk} {s : Sw} {w : World} {e : Ending} {w' : World} (hlen : s.2 = false → s.1.length ≤ 800000) (hk : rn (rd0 (sealB s)) 1 = 2 ∨ rn (rd0 (sealB s)) 1 = 4) (h : PutA p q s w e w') : ToldA w e w' := by
  rcases h with ⟨_, he, hb⟩ | ⟨hs, v, he, ho, hb⟩
  · exact Or.inl ⟨he, hb⟩
  · obtain ⟨⟨g, c, h1, h2⟩, h3⟩ := read_bytes (hlen hs) hk ho
    refine Or.inr ⟨v, he, hb, ⟨g, _, c, h1, h2⟩, fun W hW => (h3 W hW).mono ?_⟩
    rintro e w2 ⟨p, er, h4, h5, h6, h7⟩
    exact ⟨p, er, h4, h5.readP hk, h6, h7⟩
theorem len2b (p : Pk) (h : (in2 p).2 = false) : (in2 p).1.length ≤ 800000 := by
  unfold in2 at h ⊢
  have h1 := (stN_inv h).1
  have h2 := (stT_inv h1).2
  refine Nat.le_trans (stN_len _ _ _ _ _ (stT_len _ _ _ _ (q := 128) (stN_len _ _ _ _ _ (stN_len _ _ _ _ _ (stN_len _ _ _ _ _ (stN_len _ _ _ _ _ (stN_len _ _ _ _ _ (stN_len _ _ _ _ _ (m := 0) (Nat.le_refl _))))))) (by omega))) ?_
  decide
theorem len4b (p : Pk) (L : List (List UInt8)) (h : (in4 p L).2 = false) : (in4 p L).1.length ≤ 800000 := by
  unfold in4 at h ⊢
  obtain ⟨h1, h2⟩ := inNm_inv L h
  obtain ⟨h3, h4⟩ := stN_inv h1
  unfold numOk at h4
  simp only [Bool.and_eq_true, decide_eq_true_eq] at h4
  have h5 : (in4a p).1.length ≤ 100 := by
    unfold in4a
    refine Nat.le_trans (stN_len _ _ _ _ _ (stN_len _ _ _ _ _ (stN_len _ _ _ _ _ (stN_len _ _ _ _ _ (stN_len _ _ _ _ _ (stN_len _ _ _ _ _ (stN_len _ _ _ _ _ (stN_len _ _ _ _ _ (stN_len _ _ _ _ _ (stN_len _ _ _ _ _ (stN_len _ _ _ _ _ (stN_len _ _ _ _ _ (stN_len _ _ _ _ _ (stN_len _ _ _ _ _ (stN_len _ _ _ _ _ (m := 0) (Nat.le_refl _)))))))))))))))) ?_
    decide
  have h6 := stN_len (inB p 4 (in4a p)) L.length 1 0 16 (inB_len p (in4a p) h5 4)
  omega
/-- Put of a packet that is told -/
theorem told_put (p : Pk) (hk : p.kd = 2 ∨ p.kd = 4) (A : Option Addr) (c : Nat) (L : List (List UInt8)) (hnv : p.nv = .slice A L.length c) (hL : nmB L ≤ 1100000) (w : World) (hS : StrR w A L) (hp : PkW p) :
    Calls Tryz.prog 6 #[.agg (pkC p)] w (ToldA w) := by
  have hl := nmB_len L
  rcases hk with hk | hk
  · refine (put_gen p (oth2 p) (in2 p) (len2 p) w fun W hW => inner2_any p hk A c L hnv (by omega) W (hS.keep hW) hp).mono fun e w' h => told_of (len2b p) (Or.inl ?_) h
    exact rd_first (begins2 p)
  · refine (put_gen p (oth4 p) (in4 p L) (len4 p L) w fun W hW => inner4_any p hk A c L hnv hL W (hS.keep hW) hp).mono fun e w' h => told_of (len4b p L) (Or.inr ?_) h
    exact rd_first (begins4 p L)
end Go.Proofs.YtiinponoeaihcaaGreat
