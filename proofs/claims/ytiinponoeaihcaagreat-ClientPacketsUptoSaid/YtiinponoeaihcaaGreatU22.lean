/- commonsref07.others: questions and their answers. -/
import Derived.Test.YtiinponoeaihcaaGreatU21
set_option linter.unusedVariables false
set_option linter.unusedSimpArgs false
set_option linter.unusedSectionVars false
namespace Go.Proofs.YtiinponoeaihcaaGreat
open Go.RowKit Go.Shelf

attribute [local go_sem] Oper.semAt_some
theorem PkW.oth3 {p : Pk} (h : PkW p) : PkW (oth3 p) := by
  constructor
  · exact small_I64 (x := 3) (by decide)
  · exact h.cl
  · exact h.ep
  · exact h.sq
  · exact h.op
  · exact small_I64 (x := 0) (by decide)
  · exact small_I64 (x := 0) (by decide)
  · exact small_I64 (x := 0) (by decide)
  · exact small_I64 (x := 0) (by decide)
  · exact small_I64 (x := 0) (by decide)
  · exact h.fl
  · exact small_I64 (x := 0) (by decide)
  · exact small_I64 (x := 0) (by decide)
  · exact h.cn
  · exact h.ino
  · exact small_I64 (x := 0) (by decide)
  · exact small_I64 (x := 0) (by decide)
  · exact small_I64 (x := 0) (by decide)
  · exact small_I64 (x := 0) (by decide)
  · exact small_I64 (x := 0) (by decide)
  · exact small_I64 (x := 0) (by decide)
  · exact small_I64 (x := 0) (by decide)
  · exact small_I64 (x := 0) (by decide)
  · exact small_I64 (x := 0) (by decide)
  · exact small_I64 (x := 0) (by decide)
  · exact small_I64 (x := 0) (by decide)
  · exact small_I64 (x := 0) (by decide)
  · exact small_I64 (x := 0) (by decide)
  · exact small_I64 (x := 0) (by decide)
  · exact small_I64 (x := 0) (by decide)
  · exact small_I64 (x := 0) (by decide)
  · exact small_I64 (x := 0) (by decide)
  · exact small_I64 (x := 0) (by decide)
  · exact small_I64 (x := 0) (by decide)
  · exact small_I64 (x := 0) (by decide)
  · exact small_I64 (x := 0) (by decide)
  · exact small_I64 (x := 0) (by decide)
  · exact Nat.zero_le _
  · exact h.p1
  · exact h.p2
  · exact Nat.zero_le _
  · exact Nat.zero_le _
set_option maxHeartbeats 16000000 in
set_option maxRecDepth 100000 in
theorem others3_any (p : Pk) (hk : p.kd = 3) (A : Option Addr) (c : Nat) (L : List (List UInt8)) (hnv : p.nv = .slice A L.length c) (hL : L.length ≤ 2000000) (w : World) (hS : StrR w A L) (hp : PkW p) :
    Calls Tryz.prog 30 #[.agg (pkC p)] w (OthB p (oth3 p) w) := by
  have hnq : (oth3 p).nv = .slice none ([] : List (List UInt8)).length 0 := rfl
  have hlm : p = oth3 p → L = ([] : List (List UInt8)) := fun e => by have h2 := congrArg Pk.nv e; rw [hnv] at h2; simp only [oth3, Value.slice.injEq] at h2; exact List.eq_nil_of_length_eq_zero h2.2.1
  have hS2 : ∀ W, Below w.heap.size w W → Calls Tryz.prog 65 #[.agg (pkC p), .agg (pkC (oth3 p))] W (SameB p (oth3 p) W) := fun W hW => psame_any p (oth3 p) A none c 0 L ([] : List (List UInt8)) hnv hnq hL (Nat.zero_le _) W (hS.keep hW) (Or.inl rfl) hp hp.oth3 hlm
  have HS := Lib.hid hS2
  have Hnv := Lib.hid hnv
  clear hnv hL hS hp hnq hlm hS2
  go_enter Tryz.func30, Tryz.ntmps30
  go_upto_region 1 with fail
  obtain ⟨w1, hw⟩ : ∃ u, u = w.alloc (.cells (pkC p) 41) := ⟨_, rfl⟩
  obtain ⟨n0, hn⟩ : ∃ u, u = w.heap.size := ⟨_, rfl⟩
  have h0 : w1.heap[n0]? = some (.cells (pkC p) 41 (0, 0)) := by rw [hw, hn]; exact heap_alloc_new _ _
  have HB := Lib.hid (show Below w.heap.size w w1 ∧ w1.heap.size = n0 + 1 by rw [hw, hn]; exact ⟨(Below.refl _ _).alloc (Nat.le_refl _) _, by simp⟩)
  rw [← hw, ← hn]
  have hsz := HB.out.2
  have a0 : w1.cell? ⟨n0, 0, none⟩ = some (.int .i64 p.kd) := cell_of_row w1 n0 0 _ _ _ h0
  have a1 : w1.cell? ⟨n0, 1, none⟩ = some (.int .i64 p.cl) := cell_of_row w1 n0 1 _ _ _ h0
  have a2 : w1.cell? ⟨n0, 2, none⟩ = some (.int .i64 p.ep) := cell_of_row w1 n0 2 _ _ _ h0
  have a3 : w1.cell? ⟨n0, 3, none⟩ = some (.int .i64 p.sq) := cell_of_row w1 n0 3 _ _ _ h0
  have H0 := Lib.hid h0
  have Hn := Lib.hid hn
  clear hw hn h0
  have HTh : Hid (∀ Z : Array Value, Z.size = 43 → (w1.alloc (.cells Z 41)).there (n0 + 1) 0 43) := Lib.hid fun Z hZ => there_at (C := Z) (by rw [← HB.out.2]; exact heap_alloc_new _ _) hZ
  have HWh : Hid (∀ Z : Array Value, Z.size = 43 → Q2 w n0 p { kd := 3, cl := p.cl, ep := p.ep, sq := p.sq } ((w1.alloc (.cells Z 41)).setCells (n0 + 1) 0 (pkC { kd := 3, cl := p.cl, ep := p.ep, sq := p.sq }).toList)) := Lib.hid fun Z hZ => by
    obtain ⟨hbe, hee⟩ := whole_at (B := w1.heap.size) (vs := (pkC { kd := 3, cl := p.cl, ep := p.ep, sq := p.sq }).toList) (show (w1.alloc (.cells Z 41)).heap[n0 + 1]? = _ by rw [← HB.out.2]; exact heap_alloc_new _ _) hZ (by have := HB.out.2; omega)
    have hb2 := ((Below.refl w1.heap.size w1).alloc (Nat.le_refl _) _).trans hbe
    exact ⟨(hb2.block n0 (lt_get H0.out)).trans H0.out, hee, Hn.out.symm, HB.out.1.trans (hb2.mono HB.out.1.size)⟩
  go_upto_region 2 with (refine wpList_store_mid rfl 41 _ _ rfl (n0 + 1) 0 (pkC { kd := 3, cl := p.cl, ep := p.ep, sq := p.sq }) rfl rfl (by exact HTh.out _ rfl) Tryz.sizePk (pk_all _ rfl) ?_; generalize hwe : (World.setCells _ _ _ _) = we; have HE : Hid (Q2 w n0 p { kd := 3, cl := p.cl, ep := p.ep, sq := p.sq } we) := (Lib.hid (by rw [← hwe]; exact HWh.out _ rfl)); clear hwe)
  clear HTh HWh
  clear a0 a1 a2 a3 H0 HB hsz
  have a0 : we.cell? ⟨n0, 0, none⟩ = some (.int .i64 p.kd) := HE.out.cell 0
  rw [hk] at a0
  have hfz := HE.out.fz
  have hth : we.there (n0 + 1) 0 43 := there_at HE.out.b rfl
  have c4 : we.cell? ⟨n0, 4, none⟩ = some (.int .i64 p.op) := HE.out.cell 4
  have g4 := hfz 4
  obtain ⟨z, hz⟩ := HE.out.st 4 (by omega)
  clear hfz hth
  go_upto_region 17 with fail
  obtain ⟨w2, hw⟩ : ∃ u, u = we.setCell ⟨n0 + 1, 4, none⟩ (.int .i64 p.op) := ⟨_, rfl⟩
  rw [← hw]
  have H2 : Hid (Q2 w n0 p { kd := 3, cl := p.cl, ep := p.ep, sq := p.sq, op := p.op } w2) := Lib.hid (by rw [hw]; exact HE.out.set (q' := { kd := 3, cl := p.cl, ep := p.ep, sq := p.sq, op := p.op }) rfl)
  clear hw c4 g4 hz HE a0
  have a0 : w2.cell? ⟨n0, 0, none⟩ = some (.int .i64 p.kd) := H2.out.cell 0
  rw [hk] at a0
  have hfz := H2.out.fz
  have hth : w2.there (n0 + 1) 0 43 := there_at H2.out.b rfl
  have c18 : w2.cell? ⟨n0, 18, none⟩ = some (.int .i64 p.ino) := H2.out.cell 18
  have g18 := hfz 18
  obtain ⟨z, hz⟩ := H2.out.st 18 (by omega)
  clear hfz hth
  go_upto_region 18 with fail
  obtain ⟨w3, hw⟩ : ∃ u, u = w2.setCell ⟨n0 + 1, 18, none⟩ (.int .i64 p.ino) := ⟨_, rfl⟩
  rw [← hw]
  have H3 : Hid (Q2 w n0 p { kd := 3, cl := p.cl, ep := p.ep, sq := p.sq, op := p.op, ino := p.ino } w3) := Lib.hid (by rw [hw]; exact H2.out.set (q' := { kd := 3, cl := p.cl, ep := p.ep, sq := p.sq, op := p.op, ino := p.ino }) rfl)
  clear hw c18 g18 hz H2 a0
  have a0 : w3.cell? ⟨n0, 0, none⟩ = some (.int .i64 p.kd) := H3.out.cell 0
  rw [hk] at a0
  have hfz := H3.out.fz
  have hth : w3.there (n0 + 1) 0 43 := there_at H3.out.b rfl
  have c11 : w3.cell? ⟨n0, 11, none⟩ = some (.string p.p1) := H3.out.cell 11
  have c12 : w3.cell? ⟨n0, 12, none⟩ = some (.string p.p2) := H3.out.cell 12
  have c13 : w3.cell? ⟨n0, 13, none⟩ = some (.int .i64 p.fl) := H3.out.cell 13
  have c16 : w3.cell? ⟨n0, 16, none⟩ = some (.int .i64 p.cn) := H3.out.cell 16
  have hth2 : w3.there (n0 + 1) 10 8 := H3.out.there 10 8 (by omega)
  go_upto_region 29 with (refine wpList_store_mid rfl 30 _ _ rfl (n0 + 1) 10 ([.int .i64 0, .string p.p1, .string p.p2, .int .i64 p.fl, .int .i64 0, .int .i64 0, .int .i64 p.cn, .string ⟨#[]⟩] : List Value).toArray rfl rfl hth2 (by kernel_rfl) (by simp [Value.oneCell', Hnv.out]) ?_; generalize hwe : (World.setCells _ _ _ _) = w4; have H4 : Hid (Q2 w n0 p { kd := 3, cl := p.cl, ep := p.ep, sq := p.sq, op := p.op, ino := p.ino, p1 := p.p1, p2 := p.p2, fl := p.fl, cn := p.cn } w4) := (Lib.hid (by rw [← hwe]; exact H3.out.sets (q' := { kd := 3, cl := p.cl, ep := p.ep, sq := p.sq, op := p.op, ino := p.ino, p1 := p.p1, p2 := p.p2, fl := p.fl, cn := p.cn }) (by kernel_rfl))); clear hwe)
  clear hfz hth hth2 c11 c12 c13 c16 H3 a0
  have hr0 := row_rangeK H4.out.a
  have hr1 := row_rangeK H4.out.b
  have HC := Lib.hid (HS.out w4 H4.out.bl)
  go_wp2_with (first | (refine wpList_load_mid rfl 41 _ rfl n0 0 rfl (pkC p).toList _ hr0 Tryz.underlying41 rfl (pk_len p) ?_) | (refine wpList_load_mid rfl 41 _ rfl (n0 + 1) 0 rfl (pkC (oth3 p)).toList _ hr1 Tryz.underlying41 rfl (pk_len _) ?_) | ((with_reducible refine HC.out.mono ?_); rintro e wz ⟨r, rfl, h1, h2⟩; have HR := Lib.hid h1; have HZ := Lib.hid (H4.out.bl.trans (h2.mono H4.out.bl.size)); clear h1 h2))
  go_ret
  exact ⟨r, rfl, HR.out, HZ.out⟩
theorem PkW.oth4 {p : Pk} (h : PkW p) : PkW (oth4 p) := by
  constructor
  · exact small_I64 (x := 4) (by decide)
  · exact h.cl
  · exact h.ep
  · exact h.sq
  · exact h.op
  · exact h.at_
  · exact small_I64 (x := 0) (by decide)
  · exact small_I64 (x := 0) (by decide)
  · exact small_I64 (x := 0) (by decide)
  · exact small_I64 (x := 0) (by decide)
  · exact small_I64 (x := 0) (by decide)
  · exact small_I64 (x := 0) (by decide)
  · exact small_I64 (x := 0) (by decide)
  · exact small_I64 (x := 0) (by decide)
  · exact h.ino
  · exact h.er
  · exact small_I64 (x := 0) (by decide)
  · exact small_I64 (x := 0) (by decide)
  · exact h.ik
  · exact h.il
  · exact h.isz
  · exact h.wr
  · exact h.nk
  · exact h.nl
  · exact h.ns
  · exact h.b0
  · exact h.b1
  · exact h.b2
  · exact h.b3
  · exact small_I64 (x := 0) (by decide)
  · exact small_I64 (x := 0) (by decide)
  · exact small_I64 (x := 0) (by decide)
  · exact small_I64 (x := 0) (by decide)
  · exact small_I64 (x := 0) (by decide)
  · exact small_I64 (x := 0) (by decide)
  · exact small_I64 (x := 0) (by decide)
  · exact small_I64 (x := 0) (by decide)
  · exact Nat.zero_le _
  · exact Nat.zero_le _
  · exact Nat.zero_le _
  · exact Nat.zero_le _
  · exact Nat.zero_le _
set_option maxHeartbeats 16000000 in
set_option maxRecDepth 100000 in
theorem others4_any (p : Pk) (hk : p.kd = 4) (A : Option Addr) (c : Nat) (L : List (List UInt8)) (hnv : p.nv = .slice A L.length c) (hL : L.length ≤ 2000000) (w : World) (hS : StrR w A L) (hp : PkW p) :
    Calls Tryz.prog 30 #[.agg (pkC p)] w (OthB p (oth4 p) w) := by
  have hnq : (oth4 p).nv = .slice A L.length c := hnv
  have hlm : p = oth4 p → L = L := fun e => rfl
  have hS2 : ∀ W, Below w.heap.size w W → Calls Tryz.prog 65 #[.agg (pkC p), .agg (pkC (oth4 p))] W (SameB p (oth4 p) W) := fun W hW => psame_any p (oth4 p) A A c c L L hnv hnq hL hL W (hS.keep hW) (hS.keep hW) hp hp.oth4 hlm
  have HS := Lib.hid hS2
  have Hnv := Lib.hid hnv
  clear hnv hL hS hp hnq hlm hS2
  go_enter Tryz.func30, Tryz.ntmps30
  go_upto_region 1 with fail
  obtain ⟨w1, hw⟩ : ∃ u, u = w.alloc (.cells (pkC p) 41) := ⟨_, rfl⟩
  obtain ⟨n0, hn⟩ : ∃ u, u = w.heap.size := ⟨_, rfl⟩
  have h0 : w1.heap[n0]? = some (.cells (pkC p) 41 (0, 0)) := by rw [hw, hn]; exact heap_alloc_new _ _
  have HB := Lib.hid (show Below w.heap.size w w1 ∧ w1.heap.size = n0 + 1 by rw [hw, hn]; exact ⟨(Below.refl _ _).alloc (Nat.le_refl _) _, by simp⟩)
  rw [← hw, ← hn]
  have hsz := HB.out.2
  have a0 : w1.cell? ⟨n0, 0, none⟩ = some (.int .i64 p.kd) := cell_of_row w1 n0 0 _ _ _ h0
  have a1 : w1.cell? ⟨n0, 1, none⟩ = some (.int .i64 p.cl) := cell_of_row w1 n0 1 _ _ _ h0
  have a2 : w1.cell? ⟨n0, 2, none⟩ = some (.int .i64 p.ep) := cell_of_row w1 n0 2 _ _ _ h0
  have a3 : w1.cell? ⟨n0, 3, none⟩ = some (.int .i64 p.sq) := cell_of_row w1 n0 3 _ _ _ h0
  have H0 := Lib.hid h0
  have Hn := Lib.hid hn
  clear hw hn h0
  have HTh : Hid (∀ Z : Array Value, Z.size = 43 → (w1.alloc (.cells Z 41)).there (n0 + 1) 0 43) := Lib.hid fun Z hZ => there_at (C := Z) (by rw [← HB.out.2]; exact heap_alloc_new _ _) hZ
  have HWh : Hid (∀ Z : Array Value, Z.size = 43 → Q2 w n0 p { kd := 4, cl := p.cl, ep := p.ep, sq := p.sq } ((w1.alloc (.cells Z 41)).setCells (n0 + 1) 0 (pkC { kd := 4, cl := p.cl, ep := p.ep, sq := p.sq }).toList)) := Lib.hid fun Z hZ => by
    obtain ⟨hbe, hee⟩ := whole_at (B := w1.heap.size) (vs := (pkC { kd := 4, cl := p.cl, ep := p.ep, sq := p.sq }).toList) (show (w1.alloc (.cells Z 41)).heap[n0 + 1]? = _ by rw [← HB.out.2]; exact heap_alloc_new _ _) hZ (by have := HB.out.2; omega)
    have hb2 := ((Below.refl w1.heap.size w1).alloc (Nat.le_refl _) _).trans hbe
    exact ⟨(hb2.block n0 (lt_get H0.out)).trans H0.out, hee, Hn.out.symm, HB.out.1.trans (hb2.mono HB.out.1.size)⟩
  go_upto_region 2 with (refine wpList_store_mid rfl 41 _ _ rfl (n0 + 1) 0 (pkC { kd := 4, cl := p.cl, ep := p.ep, sq := p.sq }) rfl rfl (by exact HTh.out _ rfl) Tryz.sizePk (pk_all _ rfl) ?_; generalize hwe : (World.setCells _ _ _ _) = we; have HE : Hid (Q2 w n0 p { kd := 4, cl := p.cl, ep := p.ep, sq := p.sq } we) := (Lib.hid (by rw [← hwe]; exact HWh.out _ rfl)); clear hwe)
  clear HTh HWh
  clear a0 a1 a2 a3 H0 HB hsz
  have a0 : we.cell? ⟨n0, 0, none⟩ = some (.int .i64 p.kd) := HE.out.cell 0
  rw [hk] at a0
  have hfz := HE.out.fz
  have hth : we.there (n0 + 1) 0 43 := there_at HE.out.b rfl
  have c4 : we.cell? ⟨n0, 4, none⟩ = some (.int .i64 p.op) := HE.out.cell 4
  have g4 := hfz 4
  obtain ⟨z, hz⟩ := HE.out.st 4 (by omega)
  clear hfz hth
  go_upto_region 21 with fail
  obtain ⟨w2, hw⟩ : ∃ u, u = we.setCell ⟨n0 + 1, 4, none⟩ (.int .i64 p.op) := ⟨_, rfl⟩
  rw [← hw]
  have H2 : Hid (Q2 w n0 p { kd := 4, cl := p.cl, ep := p.ep, sq := p.sq, op := p.op } w2) := Lib.hid (by rw [hw]; exact HE.out.set (q' := { kd := 4, cl := p.cl, ep := p.ep, sq := p.sq, op := p.op }) rfl)
  clear hw c4 g4 hz HE a0
  have a0 : w2.cell? ⟨n0, 0, none⟩ = some (.int .i64 p.kd) := H2.out.cell 0
  rw [hk] at a0
  have hfz := H2.out.fz
  have hth : w2.there (n0 + 1) 0 43 := there_at H2.out.b rfl
  have c19 : w2.cell? ⟨n0, 19, none⟩ = some (.int .i64 p.er) := H2.out.cell 19
  have g19 := hfz 19
  obtain ⟨z, hz⟩ := H2.out.st 19 (by omega)
  clear hfz hth
  go_upto_region 22 with fail
  obtain ⟨w3, hw⟩ : ∃ u, u = w2.setCell ⟨n0 + 1, 19, none⟩ (.int .i64 p.er) := ⟨_, rfl⟩
  rw [← hw]
  have H3 : Hid (Q2 w n0 p { kd := 4, cl := p.cl, ep := p.ep, sq := p.sq, op := p.op, er := p.er } w3) := Lib.hid (by rw [hw]; exact H2.out.set (q' := { kd := 4, cl := p.cl, ep := p.ep, sq := p.sq, op := p.op, er := p.er }) rfl)
  clear hw c19 g19 hz H2 a0
  have a0 : w3.cell? ⟨n0, 0, none⟩ = some (.int .i64 p.kd) := H3.out.cell 0
  rw [hk] at a0
  have hfz := H3.out.fz
  have hth : w3.there (n0 + 1) 0 43 := there_at H3.out.b rfl
  have c18 : w3.cell? ⟨n0, 18, none⟩ = some (.int .i64 p.ino) := H3.out.cell 18
  have g18 := hfz 18
  obtain ⟨z, hz⟩ := H3.out.st 18 (by omega)
  clear hfz hth
  go_upto_region 23 with fail
  obtain ⟨w4, hw⟩ : ∃ u, u = w3.setCell ⟨n0 + 1, 18, none⟩ (.int .i64 p.ino) := ⟨_, rfl⟩
  rw [← hw]
  have H4 : Hid (Q2 w n0 p { kd := 4, cl := p.cl, ep := p.ep, sq := p.sq, op := p.op, er := p.er, ino := p.ino } w4) := Lib.hid (by rw [hw]; exact H3.out.set (q' := { kd := 4, cl := p.cl, ep := p.ep, sq := p.sq, op := p.op, er := p.er, ino := p.ino }) rfl)
  clear hw c18 g18 hz H3 a0
  have a0 : w4.cell? ⟨n0, 0, none⟩ = some (.int .i64 p.kd) := H4.out.cell 0
  rw [hk] at a0
  have hfz := H4.out.fz
  have hth : w4.there (n0 + 1) 0 43 := there_at H4.out.b rfl
  have c27 : w4.cell? ⟨n0, 27, none⟩ = some (.int .i64 p.wr) := H4.out.cell 27
  have g27 := hfz 27
  obtain ⟨z, hz⟩ := H4.out.st 27 (by omega)
  clear hfz hth
  go_upto_region 24 with fail
  obtain ⟨w5, hw⟩ : ∃ u, u = w4.setCell ⟨n0 + 1, 27, none⟩ (.int .i64 p.wr) := ⟨_, rfl⟩
  rw [← hw]
  have H5 : Hid (Q2 w n0 p { kd := 4, cl := p.cl, ep := p.ep, sq := p.sq, op := p.op, er := p.er, ino := p.ino, wr := p.wr } w5) := Lib.hid (by rw [hw]; exact H4.out.set (q' := { kd := 4, cl := p.cl, ep := p.ep, sq := p.sq, op := p.op, er := p.er, ino := p.ino, wr := p.wr }) rfl)
  clear hw c27 g27 hz H4 a0
  have a0 : w5.cell? ⟨n0, 0, none⟩ = some (.int .i64 p.kd) := H5.out.cell 0
  rw [hk] at a0
  have hfz := H5.out.fz
  have hth : w5.there (n0 + 1) 0 43 := there_at H5.out.b rfl
  have c5 : w5.cell? ⟨n0, 5, none⟩ = some (.int .i64 p.at_) := H5.out.cell 5
  have g5 := hfz 5
  obtain ⟨z, hz⟩ := H5.out.st 5 (by omega)
  clear hfz hth
  go_upto_region 25 with fail
  obtain ⟨w6, hw⟩ : ∃ u, u = w5.setCell ⟨n0 + 1, 5, none⟩ (.int .i64 p.at_) := ⟨_, rfl⟩
  rw [← hw]
  have H6 : Hid (Q2 w n0 p { kd := 4, cl := p.cl, ep := p.ep, sq := p.sq, op := p.op, er := p.er, ino := p.ino, wr := p.wr, at_ := p.at_ } w6) := Lib.hid (by rw [hw]; exact H5.out.set (q' := { kd := 4, cl := p.cl, ep := p.ep, sq := p.sq, op := p.op, er := p.er, ino := p.ino, wr := p.wr, at_ := p.at_ }) rfl)
  clear hw c5 g5 hz H5 a0
  have a0 : w6.cell? ⟨n0, 0, none⟩ = some (.int .i64 p.kd) := H6.out.cell 0
  rw [hk] at a0
  have hfz := H6.out.fz
  have hth : w6.there (n0 + 1) 0 43 := there_at H6.out.b rfl
  have c23 : w6.cell? ⟨n0, 23, none⟩ = some (.slice A L.length c) := (H6.out.cell 23).trans (congrArg some Hnv.out)
  have c24 : w6.cell? ⟨n0, 24, none⟩ = some (.int .i64 p.ik) := H6.out.cell 24
  have c25 : w6.cell? ⟨n0, 25, none⟩ = some (.int .i64 p.il) := H6.out.cell 25
  have c26 : w6.cell? ⟨n0, 26, none⟩ = some (.int .i64 p.isz) := H6.out.cell 26
  have hth2 : w6.there (n0 + 1) 20 7 := H6.out.there 20 7 (by omega)
  go_upto_region 26 with (refine wpList_store_mid rfl 35 _ _ rfl (n0 + 1) 20 ([.int .i64 0, .int .i64 0, .string ⟨#[]⟩, .slice A L.length c, .int .i64 p.ik, .int .i64 p.il, .int .i64 p.isz] : List Value).toArray rfl rfl hth2 (by kernel_rfl) (by simp [Value.oneCell', Hnv.out]) ?_; generalize hwe : (World.setCells _ _ _ _) = w7; have H7 : Hid (Q2 w n0 p { kd := 4, cl := p.cl, ep := p.ep, sq := p.sq, op := p.op, er := p.er, ino := p.ino, wr := p.wr, at_ := p.at_, nv := p.nv, ik := p.ik, il := p.il, isz := p.isz } w7) := (Lib.hid (by rw [← hwe]; exact H6.out.sets (q' := { kd := 4, cl := p.cl, ep := p.ep, sq := p.sq, op := p.op, er := p.er, ino := p.ino, wr := p.wr, at_ := p.at_, nv := p.nv, ik := p.ik, il := p.il, isz := p.isz }) (by rw [← Hnv.out]; kernel_rfl))); clear hwe)
  clear hfz hth hth2 c23 c24 c25 c26 H6 a0
  have a0 : w7.cell? ⟨n0, 0, none⟩ = some (.int .i64 p.kd) := H7.out.cell 0
  rw [hk] at a0
  have hfz := H7.out.fz
  have hth : w7.there (n0 + 1) 0 43 := there_at H7.out.b rfl
  have c28 : w7.cell? ⟨n0, 28, none⟩ = some (.int .i64 p.nk) := H7.out.cell 28
  have c29 : w7.cell? ⟨n0, 29, none⟩ = some (.int .i64 p.nl) := H7.out.cell 29
  have c30 : w7.cell? ⟨n0, 30, none⟩ = some (.int .i64 p.ns) := H7.out.cell 30
  have c31 : w7.cell? ⟨n0, 31, none⟩ = some (.int .i64 p.b0) := H7.out.cell 31
  have c32 : w7.cell? ⟨n0, 32, none⟩ = some (.int .i64 p.b1) := H7.out.cell 32
  have c33 : w7.cell? ⟨n0, 33, none⟩ = some (.int .i64 p.b2) := H7.out.cell 33
  have c34 : w7.cell? ⟨n0, 34, none⟩ = some (.int .i64 p.b3) := H7.out.cell 34
  have hth2 : w7.there (n0 + 1) 28 15 := H7.out.there 28 15 (by omega)
  go_upto_region 29 with (refine wpList_store_mid rfl 39 _ _ rfl (n0 + 1) 28 ([.int .i64 p.nk, .int .i64 p.nl, .int .i64 p.ns, .int .i64 p.b0, .int .i64 p.b1, .int .i64 p.b2, .int .i64 p.b3, .int .i64 0, .int .i64 0, .int .i64 0, .int .i64 0, .int .i64 0, .int .i64 0, .int .i64 0, .int .i64 0] : List Value).toArray rfl rfl hth2 (by kernel_rfl) (by simp [Value.oneCell', Hnv.out]) ?_; generalize hwe : (World.setCells _ _ _ _) = w8; have H8 : Hid (Q2 w n0 p { kd := 4, cl := p.cl, ep := p.ep, sq := p.sq, op := p.op, er := p.er, ino := p.ino, wr := p.wr, at_ := p.at_, nv := p.nv, ik := p.ik, il := p.il, isz := p.isz, nk := p.nk, nl := p.nl, ns := p.ns, b0 := p.b0, b1 := p.b1, b2 := p.b2, b3 := p.b3 } w8) := (Lib.hid (by rw [← hwe]; exact H7.out.sets (q' := { kd := 4, cl := p.cl, ep := p.ep, sq := p.sq, op := p.op, er := p.er, ino := p.ino, wr := p.wr, at_ := p.at_, nv := p.nv, ik := p.ik, il := p.il, isz := p.isz, nk := p.nk, nl := p.nl, ns := p.ns, b0 := p.b0, b1 := p.b1, b2 := p.b2, b3 := p.b3 }) (by kernel_rfl))); clear hwe)
  clear hfz hth hth2 c28 c29 c30 c31 c32 c33 c34 H7 a0
  have hr0 := row_rangeK H8.out.a
  have hr1 := row_rangeK H8.out.b
  have HC := Lib.hid (HS.out w8 H8.out.bl)
  go_wp2_with (first | (refine wpList_load_mid rfl 41 _ rfl n0 0 rfl (pkC p).toList _ hr0 Tryz.underlying41 rfl (pk_len p) ?_) | (refine wpList_load_mid rfl 41 _ rfl (n0 + 1) 0 rfl (pkC (oth4 p)).toList _ hr1 Tryz.underlying41 rfl (pk_len _) ?_) | ((with_reducible refine HC.out.mono ?_); rintro e wz ⟨r, rfl, h1, h2⟩; have HR := Lib.hid h1; have HZ := Lib.hid (H8.out.bl.trans (h2.mono H8.out.bl.size)); clear h1 h2))
  go_ret
  exact ⟨r, rfl, HR.out, HZ.out⟩
end Go.Proofs.YtiinponoeaihcaaGreat
