/- commonsref07.others: the fields that a kind does not have. -/
import Derived.Test.YtiinponoeaihcaaGreatU20
set_option linter.unusedVariables false
set_option linter.unusedSimpArgs false
set_option linter.unusedSectionVars false
namespace Go.Proofs.YtiinponoeaihcaaGreat
open Go.RowKit Go.Shelf

attribute [local go_sem] Oper.semAt_some
def oth1 (p : Pk) : Pk := { kd := 1, cl := p.cl, ep := p.ep, sq := p.sq, op := p.op, at_ := p.at_, n := p.n, d := p.d, old := p.old, new := p.new }
def oth2 (p : Pk) : Pk := { kd := 2, cl := p.cl, ep := p.ep, sq := p.sq, op := p.op, er := p.er, d := p.d, old := p.old }
def oth3 (p : Pk) : Pk := { kd := 3, cl := p.cl, ep := p.ep, sq := p.sq, op := p.op, ino := p.ino, p1 := p.p1, p2 := p.p2, fl := p.fl, cn := p.cn }
def oth4 (p : Pk) : Pk := { kd := 4, cl := p.cl, ep := p.ep, sq := p.sq, op := p.op, er := p.er, ino := p.ino, wr := p.wr, at_ := p.at_, nv := p.nv, ik := p.ik, il := p.il, isz := p.isz, nk := p.nk, nl := p.nl, ns := p.ns, b0 := p.b0, b1 := p.b1, b2 := p.b2, b3 := p.b3 }
theorem pk_all (q : Pk) (hp : q.nv.oneCell' = true) : (pkC q).all (·.oneCell') = true := by
  have := pk_one q hp
  rwa [Array.toArray_toList] at this
/-- two packets in memory -/
structure Q2 (w0 : World) (n0 : Nat) (p q : Pk) (w : World) : Prop where
  a : w.heap[n0]? = some (.cells (pkC p) 41 (0, 0))
  b : w.heap[n0 + 1]? = some (.cells (pkC q) 41 (0, 0))
  low : w0.heap.size = n0
  bl : Below w0.heap.size w0 w
section
variable {w0 w : World} {n0 : Nat} {p q q' : Pk}
theorem Q2.set (h : Q2 w0 n0 p q w) {i : Nat} {v : Value} (hC : pkC q' = (pkC q).setIfInBounds i v) : Q2 w0 n0 p q' (w.setCell ⟨n0 + 1, i, none⟩ v) := by
  refine ⟨(Go.heap_setCell_other w ⟨n0 + 1, i, none⟩ n0 v (by simp)).trans h.a, ?_, h.low, h.bl.setCell (by show _ ≤ n0 + 1; have := h.low; omega) v⟩
  rw [hC]
  exact Go.heap_setCell_same w (n0 + 1) i _ _ _ h.b
theorem Q2.sets (h : Q2 w0 n0 p q w) {i : Nat} {vs : List Value} (hC : pkC q' = putCells2 (pkC q) i vs) : Q2 w0 n0 p q' (w.setCells (n0 + 1) i vs) := by
  refine ⟨(Below.block (setCells_below2 (B := n0 + 1) (Nat.le_refl _) vs i w w (Below.refl _ _)) n0 (by omega)).trans h.a, ?_, h.low, setCells_below2 (by have := h.low; omega) vs i w0 w h.bl⟩
  rw [hC]
  exact setCells_heap2 _ _ vs i _ _ h.b
theorem Q2.there (h : Q2 w0 n0 p q w) (o n : Nat) (hn : o + n ≤ 43) : w.there (n0 + 1) o n := fun j hj => by
  refine ⟨?_, frozen_of_row w (n0 + 1) (o + j) _ _ h.b⟩
  rw [cell_of_row w (n0 + 1) (o + j) _ _ _ h.b, Array.getElem?_eq_getElem (show o + j < (pkC q).size by show _ < 43; omega)]
  rfl
theorem Q2.cell (h : Q2 w0 n0 p q w) (i : Nat) : w.cell? ⟨n0, i, none⟩ = (pkC p)[i]? := cell_of_row w n0 i _ _ _ h.a
theorem Q2.fz (h : Q2 w0 n0 p q w) (i : Nat) : w.frozen? ⟨n0 + 1, i, none⟩ = false := frozen_of_row w (n0 + 1) i _ _ h.b
theorem Q2.st (h : Q2 w0 n0 p q w) (i : Nat) (hi : i < 43) : ∃ v, w.cell? ⟨n0 + 1, i, none⟩ = some v := by
  have e := cell_of_row w (n0 + 1) i _ _ _ h.b
  exact ⟨_, e.trans (Array.getElem?_eq_getElem (show i < (pkC q).size from hi))⟩
end
theorem PkW.z : PkW {} := by
  constructor <;> first | exact small_I64 (x := 0) (by decide) | exact Nat.zero_le _
/-- others tells something, and that nothing else is there -/
def OthB (p q : Pk) (w : World) (e : Ending) (w' : World) : Prop := ∃ r : Bool, e = .returned (.bool r) ∧ (p = q → r = true) ∧ Below w.heap.size w w'
theorem PkW.oth1 {p : Pk} (h : PkW p) : PkW (oth1 p) := by
  constructor
  · exact small_I64 (x := 1) (by decide)
  · exact h.cl
  · exact h.ep
  · exact h.sq
  · exact h.op
  · exact h.at_
  · exact h.n
  · exact h.old
  · exact h.new
  · exact small_I64 (x := 0) (by decide)
  · exact small_I64 (x := 0) (by decide)
  · exact small_I64 (x := 0) (by decide)
  · exact small_I64 (x := 0) (by decide)
  · exact small_I64 (x := 0) (by decide)
  · exact small_I64 (x := 0) (by decide)
  · exact small_I64 (x := 0) (by decide)
  · exact small_I64 (x := 0) (by decide)
  · exact small_I64 (x := 0) (by decide)
  · exact small_I64 (x := 0) (by decide)
  · exact small_I64 (x := 0) (by decide)
  · exact small_I64 (x := 0) (by decide)
  · exact small_I64 (x := 0) (by decide)
  · exact small_I64 (x := 0) (by decide)
  · exact small_I64 (x := 0) (by decide)
  · exact small_I64 (x := 0) (by decide)
  · exact small_I64 (x := 0) (by decide)
  · exact small_I64 (x := 0) (by decide)
  · exact small_I64 (x := 0) (by decide)
  · exact small_I64 (x := 0) (by decide)
  · exact small_I64 (x := 0) (by decide)
  · exact small_I64 (x := 0) (by decide)
  · exact small_I64 (x := 0) (by decide)
  · exact small_I64 (x := 0) (by decide)
  · exact small_I64 (x := 0) (by decide)
  · exact small_I64 (x := 0) (by decide)
  · exact small_I64 (x := 0) (by decide)
  · exact small_I64 (x := 0) (by decide)
  · exact h.d
  · exact Nat.zero_le _
  · exact Nat.zero_le _
  · exact Nat.zero_le _
  · exact Nat.zero_le _
set_option maxHeartbeats 16000000 in
set_option maxRecDepth 100000 in
theorem others1_any (p : Pk) (hk : p.kd = 1) (A : Option Addr) (c : Nat) (L : List (List UInt8)) (hnv : p.nv = .slice A L.length c) (hL : L.length ≤ 2000000) (w : World) (hS : StrR w A L) (hp : PkW p) :
    Calls Tryz.prog 30 #[.agg (pkC p)] w (OthB p (oth1 p) w) := by
  have hnq : (oth1 p).nv = .slice none ([] : List (List UInt8)).length 0 := rfl
  have hlm : p = oth1 p → L = ([] : List (List UInt8)) := fun e => by have h2 := congrArg Pk.nv e; rw [hnv] at h2; simp only [oth1, Value.slice.injEq] at h2; exact List.eq_nil_of_length_eq_zero h2.2.1
  have hS2 : ∀ W, Below w.heap.size w W → Calls Tryz.prog 65 #[.agg (pkC p), .agg (pkC (oth1 p))] W (SameB p (oth1 p) W) := fun W hW => psame_any p (oth1 p) A none c 0 L ([] : List (List UInt8)) hnv hnq hL (Nat.zero_le _) W (hS.keep hW) (Or.inl rfl) hp hp.oth1 hlm
  have HS := Lib.hid hS2
  have Hnv := Lib.hid hnv
  clear hnv hL hS hp hnq hlm hS2
  go_enter Tryz.func30, Tryz.ntmps30
  go_upto_region 1 with fail
  obtain ⟨w1, hw⟩ : ∃ u, u = w.alloc (.cells (pkC p) 41) := ⟨_, rfl⟩
  obtain ⟨n0, hn⟩ : ∃ u, u = w.heap.size := ⟨_, rfl⟩
  have h0 : w1.heap[n0]? = some (.cells (pkC p) 41 (0, 0)) := by rw [hw, hn]; exact heap_alloc_new _ _
  have HB := Lib.hid (show Below w.heap.size w w1 ∧ w1.heap.size = n0 + 1 by rw [hw, hn]; exact ⟨(Below.refl _ _).alloc (Nat.le_refl _) _, by simp⟩)
  rw [← hw, ← hn]
  have hsz := HB.out.2
  have a0 : w1.cell? ⟨n0, 0, none⟩ = some (.int .i64 p.kd) := cell_of_row w1 n0 0 _ _ _ h0
  have a1 : w1.cell? ⟨n0, 1, none⟩ = some (.int .i64 p.cl) := cell_of_row w1 n0 1 _ _ _ h0
  have a2 : w1.cell? ⟨n0, 2, none⟩ = some (.int .i64 p.ep) := cell_of_row w1 n0 2 _ _ _ h0
  have a3 : w1.cell? ⟨n0, 3, none⟩ = some (.int .i64 p.sq) := cell_of_row w1 n0 3 _ _ _ h0
  have H0 := Lib.hid h0
  have Hn := Lib.hid hn
  clear hw hn h0
  have HTh : Hid (∀ Z : Array Value, Z.size = 43 → (w1.alloc (.cells Z 41)).there (n0 + 1) 0 43) := Lib.hid fun Z hZ => there_at (C := Z) (by rw [← HB.out.2]; exact heap_alloc_new _ _) hZ
  have HWh : Hid (∀ Z : Array Value, Z.size = 43 → Q2 w n0 p { kd := 1, cl := p.cl, ep := p.ep, sq := p.sq } ((w1.alloc (.cells Z 41)).setCells (n0 + 1) 0 (pkC { kd := 1, cl := p.cl, ep := p.ep, sq := p.sq }).toList)) := Lib.hid fun Z hZ => by
    obtain ⟨hbe, hee⟩ := whole_at (B := w1.heap.size) (vs := (pkC { kd := 1, cl := p.cl, ep := p.ep, sq := p.sq }).toList) (show (w1.alloc (.cells Z 41)).heap[n0 + 1]? = _ by rw [← HB.out.2]; exact heap_alloc_new _ _) hZ (by have := HB.out.2; omega)
    have hb2 := ((Below.refl w1.heap.size w1).alloc (Nat.le_refl _) _).trans hbe
    exact ⟨(hb2.block n0 (lt_get H0.out)).trans H0.out, hee, Hn.out.symm, HB.out.1.trans (hb2.mono HB.out.1.size)⟩
  go_upto_region 2 with (refine wpList_store_mid rfl 41 _ _ rfl (n0 + 1) 0 (pkC { kd := 1, cl := p.cl, ep := p.ep, sq := p.sq }) rfl rfl (by exact HTh.out _ rfl) Tryz.sizePk (pk_all _ rfl) ?_; generalize hwe : (World.setCells _ _ _ _) = we; have HE : Hid (Q2 w n0 p { kd := 1, cl := p.cl, ep := p.ep, sq := p.sq } we) := (Lib.hid (by rw [← hwe]; exact HWh.out _ rfl)); clear hwe)
  clear HTh HWh
  clear a0 a1 a2 a3 H0 HB hsz
  have a0 : we.cell? ⟨n0, 0, none⟩ = some (.int .i64 p.kd) := HE.out.cell 0
  rw [hk] at a0
  have hfz := HE.out.fz
  have hth : we.there (n0 + 1) 0 43 := there_at HE.out.b rfl
  have c4 : we.cell? ⟨n0, 4, none⟩ = some (.int .i64 p.op) := HE.out.cell 4
  have g4 := hfz 4
  obtain ⟨z, hz⟩ := HE.out.st 4 (by omega)
  clear hfz hth
  go_upto_region 5 with fail
  obtain ⟨w2, hw⟩ : ∃ u, u = we.setCell ⟨n0 + 1, 4, none⟩ (.int .i64 p.op) := ⟨_, rfl⟩
  rw [← hw]
  have H2 : Hid (Q2 w n0 p { kd := 1, cl := p.cl, ep := p.ep, sq := p.sq, op := p.op } w2) := Lib.hid (by rw [hw]; exact HE.out.set (q' := { kd := 1, cl := p.cl, ep := p.ep, sq := p.sq, op := p.op }) rfl)
  clear hw c4 g4 hz HE a0
  have a0 : w2.cell? ⟨n0, 0, none⟩ = some (.int .i64 p.kd) := H2.out.cell 0
  rw [hk] at a0
  have hfz := H2.out.fz
  have hth : w2.there (n0 + 1) 0 43 := there_at H2.out.b rfl
  have c5 : w2.cell? ⟨n0, 5, none⟩ = some (.int .i64 p.at_) := H2.out.cell 5
  have g5 := hfz 5
  obtain ⟨z, hz⟩ := H2.out.st 5 (by omega)
  clear hfz hth
  go_upto_region 6 with fail
  obtain ⟨w3, hw⟩ : ∃ u, u = w2.setCell ⟨n0 + 1, 5, none⟩ (.int .i64 p.at_) := ⟨_, rfl⟩
  rw [← hw]
  have H3 : Hid (Q2 w n0 p { kd := 1, cl := p.cl, ep := p.ep, sq := p.sq, op := p.op, at_ := p.at_ } w3) := Lib.hid (by rw [hw]; exact H2.out.set (q' := { kd := 1, cl := p.cl, ep := p.ep, sq := p.sq, op := p.op, at_ := p.at_ }) rfl)
  clear hw c5 g5 hz H2 a0
  have a0 : w3.cell? ⟨n0, 0, none⟩ = some (.int .i64 p.kd) := H3.out.cell 0
  rw [hk] at a0
  have hfz := H3.out.fz
  have hth : w3.there (n0 + 1) 0 43 := there_at H3.out.b rfl
  have c6 : w3.cell? ⟨n0, 6, none⟩ = some (.int .i64 p.n) := H3.out.cell 6
  have g6 := hfz 6
  obtain ⟨z, hz⟩ := H3.out.st 6 (by omega)
  clear hfz hth
  go_upto_region 7 with fail
  obtain ⟨w4, hw⟩ : ∃ u, u = w3.setCell ⟨n0 + 1, 6, none⟩ (.int .i64 p.n) := ⟨_, rfl⟩
  rw [← hw]
  have H4 : Hid (Q2 w n0 p { kd := 1, cl := p.cl, ep := p.ep, sq := p.sq, op := p.op, at_ := p.at_, n := p.n } w4) := Lib.hid (by rw [hw]; exact H3.out.set (q' := { kd := 1, cl := p.cl, ep := p.ep, sq := p.sq, op := p.op, at_ := p.at_, n := p.n }) rfl)
  clear hw c6 g6 hz H3 a0
  have a0 : w4.cell? ⟨n0, 0, none⟩ = some (.int .i64 p.kd) := H4.out.cell 0
  rw [hk] at a0
  have hfz := H4.out.fz
  have hth : w4.there (n0 + 1) 0 43 := there_at H4.out.b rfl
  have c7 : w4.cell? ⟨n0, 7, none⟩ = some (.string p.d) := H4.out.cell 7
  have g7 := hfz 7
  obtain ⟨z, hz⟩ := H4.out.st 7 (by omega)
  clear hfz hth
  go_upto_region 8 with fail
  obtain ⟨w5, hw⟩ : ∃ u, u = w4.setCell ⟨n0 + 1, 7, none⟩ (.string p.d) := ⟨_, rfl⟩
  rw [← hw]
  have H5 : Hid (Q2 w n0 p { kd := 1, cl := p.cl, ep := p.ep, sq := p.sq, op := p.op, at_ := p.at_, n := p.n, d := p.d } w5) := Lib.hid (by rw [hw]; exact H4.out.set (q' := { kd := 1, cl := p.cl, ep := p.ep, sq := p.sq, op := p.op, at_ := p.at_, n := p.n, d := p.d }) rfl)
  clear hw c7 g7 hz H4 a0
  have a0 : w5.cell? ⟨n0, 0, none⟩ = some (.int .i64 p.kd) := H5.out.cell 0
  rw [hk] at a0
  have hfz := H5.out.fz
  have hth : w5.there (n0 + 1) 0 43 := there_at H5.out.b rfl
  have c8 : w5.cell? ⟨n0, 8, none⟩ = some (.int .i64 p.old) := H5.out.cell 8
  have g8 := hfz 8
  obtain ⟨z, hz⟩ := H5.out.st 8 (by omega)
  clear hfz hth
  go_upto_region 9 with fail
  obtain ⟨w6, hw⟩ : ∃ u, u = w5.setCell ⟨n0 + 1, 8, none⟩ (.int .i64 p.old) := ⟨_, rfl⟩
  rw [← hw]
  have H6 : Hid (Q2 w n0 p { kd := 1, cl := p.cl, ep := p.ep, sq := p.sq, op := p.op, at_ := p.at_, n := p.n, d := p.d, old := p.old } w6) := Lib.hid (by rw [hw]; exact H5.out.set (q' := { kd := 1, cl := p.cl, ep := p.ep, sq := p.sq, op := p.op, at_ := p.at_, n := p.n, d := p.d, old := p.old }) rfl)
  clear hw c8 g8 hz H5 a0
  have a0 : w6.cell? ⟨n0, 0, none⟩ = some (.int .i64 p.kd) := H6.out.cell 0
  rw [hk] at a0
  have hfz := H6.out.fz
  have hth : w6.there (n0 + 1) 0 43 := there_at H6.out.b rfl
  have c9 : w6.cell? ⟨n0, 9, none⟩ = some (.int .i64 p.new) := H6.out.cell 9
  have g9 := hfz 9
  obtain ⟨z, hz⟩ := H6.out.st 9 (by omega)
  clear hfz hth
  go_upto_region 29 with fail
  obtain ⟨w7, hw⟩ : ∃ u, u = w6.setCell ⟨n0 + 1, 9, none⟩ (.int .i64 p.new) := ⟨_, rfl⟩
  rw [← hw]
  have H7 : Hid (Q2 w n0 p { kd := 1, cl := p.cl, ep := p.ep, sq := p.sq, op := p.op, at_ := p.at_, n := p.n, d := p.d, old := p.old, new := p.new } w7) := Lib.hid (by rw [hw]; exact H6.out.set (q' := { kd := 1, cl := p.cl, ep := p.ep, sq := p.sq, op := p.op, at_ := p.at_, n := p.n, d := p.d, old := p.old, new := p.new }) rfl)
  clear hw c9 g9 hz H6 a0
  have hr0 := row_rangeK H7.out.a
  have hr1 := row_rangeK H7.out.b
  have HC := Lib.hid (HS.out w7 H7.out.bl)
  go_wp2_with (first | (refine wpList_load_mid rfl 41 _ rfl n0 0 rfl (pkC p).toList _ hr0 Tryz.underlying41 rfl (pk_len p) ?_) | (refine wpList_load_mid rfl 41 _ rfl (n0 + 1) 0 rfl (pkC (oth1 p)).toList _ hr1 Tryz.underlying41 rfl (pk_len _) ?_) | ((with_reducible refine HC.out.mono ?_); rintro e wz ⟨r, rfl, h1, h2⟩; have HR := Lib.hid h1; have HZ := Lib.hid (H7.out.bl.trans (h2.mono H7.out.bl.size)); clear h1 h2))
  go_ret
  exact ⟨r, rfl, HR.out, HZ.out⟩
theorem PkW.oth2 {p : Pk} (h : PkW p) : PkW (oth2 p) := by
  constructor
  · exact small_I64 (x := 2) (by decide)
  · exact h.cl
  · exact h.ep
  · exact h.sq
  · exact h.op
  · exact small_I64 (x := 0) (by decide)
  · exact small_I64 (x := 0) (by decide)
  · exact h.old
  · exact small_I64 (x := 0) (by decide)
  · exact small_I64 (x := 0) (by decide)
  · exact small_I64 (x := 0) (by decide)
  · exact small_I64 (x := 0) (by decide)
  · exact small_I64 (x := 0) (by decide)
  · exact small_I64 (x := 0) (by decide)
  · exact small_I64 (x := 0) (by decide)
  · exact h.er
  · exact small_I64 (x := 0) (by decide)
  · exact small_I64 (x := 0) (by decide)
  · exact small_I64 (x := 0) (by decide)
  · exact small_I64 (x := 0) (by decide)
  · exact small_I64 (x := 0) (by decide)
  · exact small_I64 (x := 0) (by decide)
  · exact small_I64 (x := 0) (by decide)
  · exact small_I64 (x := 0) (by decide)
  · exact small_I64 (x := 0) (by decide)
  · exact small_I64 (x := 0) (by decide)
  · exact small_I64 (x := 0) (by decide)
  · exact small_I64 (x := 0) (by decide)
  · exact small_I64 (x := 0) (by decide)
  · exact small_I64 (x := 0) (by decide)
  · exact small_I64 (x := 0) (by decide)
  · exact small_I64 (x := 0) (by decide)
  · exact small_I64 (x := 0) (by decide)
  · exact small_I64 (x := 0) (by decide)
  · exact small_I64 (x := 0) (by decide)
  · exact small_I64 (x := 0) (by decide)
  · exact small_I64 (x := 0) (by decide)
  · exact h.d
  · exact Nat.zero_le _
  · exact Nat.zero_le _
  · exact Nat.zero_le _
  · exact Nat.zero_le _
set_option maxHeartbeats 16000000 in
set_option maxRecDepth 100000 in
theorem others2_any (p : Pk) (hk : p.kd = 2) (A : Option Addr) (c : Nat) (L : List (List UInt8)) (hnv : p.nv = .slice A L.length c) (hL : L.length ≤ 2000000) (w : World) (hS : StrR w A L) (hp : PkW p) :
    Calls Tryz.prog 30 #[.agg (pkC p)] w (OthB p (oth2 p) w) := by
  have hnq : (oth2 p).nv = .slice none ([] : List (List UInt8)).length 0 := rfl
  have hlm : p = oth2 p → L = ([] : List (List UInt8)) := fun e => by have h2 := congrArg Pk.nv e; rw [hnv] at h2; simp only [oth2, Value.slice.injEq] at h2; exact List.eq_nil_of_length_eq_zero h2.2.1
  have hS2 : ∀ W, Below w.heap.size w W → Calls Tryz.prog 65 #[.agg (pkC p), .agg (pkC (oth2 p))] W (SameB p (oth2 p) W) := fun W hW => psame_any p (oth2 p) A none c 0 L ([] : List (List UInt8)) hnv hnq hL (Nat.zero_le _) W (hS.keep hW) (Or.inl rfl) hp hp.oth2 hlm
  have HS := Lib.hid hS2
  have Hnv := Lib.hid hnv
  clear hnv hL hS hp hnq hlm hS2
  go_enter Tryz.func30, Tryz.ntmps30
  go_upto_region 1 with fail
  obtain ⟨w1, hw⟩ : ∃ u, u = w.alloc (.cells (pkC p) 41) := ⟨_, rfl⟩
  obtain ⟨n0, hn⟩ : ∃ u, u = w.heap.size := ⟨_, rfl⟩
  have h0 : w1.heap[n0]? = some (.cells (pkC p) 41 (0, 0)) := by rw [hw, hn]; exact heap_alloc_new _ _
  have HB := Lib.hid (show Below w.heap.size w w1 ∧ w1.heap.size = n0 + 1 by rw [hw, hn]; exact ⟨(Below.refl _ _).alloc (Nat.le_refl _) _, by simp⟩)
  rw [← hw, ← hn]
  have hsz := HB.out.2
  have a0 : w1.cell? ⟨n0, 0, none⟩ = some (.int .i64 p.kd) := cell_of_row w1 n0 0 _ _ _ h0
  have a1 : w1.cell? ⟨n0, 1, none⟩ = some (.int .i64 p.cl) := cell_of_row w1 n0 1 _ _ _ h0
  have a2 : w1.cell? ⟨n0, 2, none⟩ = some (.int .i64 p.ep) := cell_of_row w1 n0 2 _ _ _ h0
  have a3 : w1.cell? ⟨n0, 3, none⟩ = some (.int .i64 p.sq) := cell_of_row w1 n0 3 _ _ _ h0
  have H0 := Lib.hid h0
  have Hn := Lib.hid hn
  clear hw hn h0
  have HTh : Hid (∀ Z : Array Value, Z.size = 43 → (w1.alloc (.cells Z 41)).there (n0 + 1) 0 43) := Lib.hid fun Z hZ => there_at (C := Z) (by rw [← HB.out.2]; exact heap_alloc_new _ _) hZ
  have HWh : Hid (∀ Z : Array Value, Z.size = 43 → Q2 w n0 p { kd := 2, cl := p.cl, ep := p.ep, sq := p.sq } ((w1.alloc (.cells Z 41)).setCells (n0 + 1) 0 (pkC { kd := 2, cl := p.cl, ep := p.ep, sq := p.sq }).toList)) := Lib.hid fun Z hZ => by
    obtain ⟨hbe, hee⟩ := whole_at (B := w1.heap.size) (vs := (pkC { kd := 2, cl := p.cl, ep := p.ep, sq := p.sq }).toList) (show (w1.alloc (.cells Z 41)).heap[n0 + 1]? = _ by rw [← HB.out.2]; exact heap_alloc_new _ _) hZ (by have := HB.out.2; omega)
    have hb2 := ((Below.refl w1.heap.size w1).alloc (Nat.le_refl _) _).trans hbe
    exact ⟨(hb2.block n0 (lt_get H0.out)).trans H0.out, hee, Hn.out.symm, HB.out.1.trans (hb2.mono HB.out.1.size)⟩
  go_upto_region 2 with (refine wpList_store_mid rfl 41 _ _ rfl (n0 + 1) 0 (pkC { kd := 2, cl := p.cl, ep := p.ep, sq := p.sq }) rfl rfl (by exact HTh.out _ rfl) Tryz.sizePk (pk_all _ rfl) ?_; generalize hwe : (World.setCells _ _ _ _) = we; have HE : Hid (Q2 w n0 p { kd := 2, cl := p.cl, ep := p.ep, sq := p.sq } we) := (Lib.hid (by rw [← hwe]; exact HWh.out _ rfl)); clear hwe)
  clear HTh HWh
  clear a0 a1 a2 a3 H0 HB hsz
  have a0 : we.cell? ⟨n0, 0, none⟩ = some (.int .i64 p.kd) := HE.out.cell 0
  rw [hk] at a0
  have hfz := HE.out.fz
  have hth : we.there (n0 + 1) 0 43 := there_at HE.out.b rfl
  have c4 : we.cell? ⟨n0, 4, none⟩ = some (.int .i64 p.op) := HE.out.cell 4
  have g4 := hfz 4
  obtain ⟨z, hz⟩ := HE.out.st 4 (by omega)
  clear hfz hth
  go_upto_region 12 with fail
  obtain ⟨w2, hw⟩ : ∃ u, u = we.setCell ⟨n0 + 1, 4, none⟩ (.int .i64 p.op) := ⟨_, rfl⟩
  rw [← hw]
  have H2 : Hid (Q2 w n0 p { kd := 2, cl := p.cl, ep := p.ep, sq := p.sq, op := p.op } w2) := Lib.hid (by rw [hw]; exact HE.out.set (q' := { kd := 2, cl := p.cl, ep := p.ep, sq := p.sq, op := p.op }) rfl)
  clear hw c4 g4 hz HE a0
  have a0 : w2.cell? ⟨n0, 0, none⟩ = some (.int .i64 p.kd) := H2.out.cell 0
  rw [hk] at a0
  have hfz := H2.out.fz
  have hth : w2.there (n0 + 1) 0 43 := there_at H2.out.b rfl
  have c19 : w2.cell? ⟨n0, 19, none⟩ = some (.int .i64 p.er) := H2.out.cell 19
  have g19 := hfz 19
  obtain ⟨z, hz⟩ := H2.out.st 19 (by omega)
  clear hfz hth
  go_upto_region 13 with fail
  obtain ⟨w3, hw⟩ : ∃ u, u = w2.setCell ⟨n0 + 1, 19, none⟩ (.int .i64 p.er) := ⟨_, rfl⟩
  rw [← hw]
  have H3 : Hid (Q2 w n0 p { kd := 2, cl := p.cl, ep := p.ep, sq := p.sq, op := p.op, er := p.er } w3) := Lib.hid (by rw [hw]; exact H2.out.set (q' := { kd := 2, cl := p.cl, ep := p.ep, sq := p.sq, op := p.op, er := p.er }) rfl)
  clear hw c19 g19 hz H2 a0
  have a0 : w3.cell? ⟨n0, 0, none⟩ = some (.int .i64 p.kd) := H3.out.cell 0
  rw [hk] at a0
  have hfz := H3.out.fz
  have hth : w3.there (n0 + 1) 0 43 := there_at H3.out.b rfl
  have c7 : w3.cell? ⟨n0, 7, none⟩ = some (.string p.d) := H3.out.cell 7
  have g7 := hfz 7
  obtain ⟨z, hz⟩ := H3.out.st 7 (by omega)
  clear hfz hth
  go_upto_region 14 with fail
  obtain ⟨w4, hw⟩ : ∃ u, u = w3.setCell ⟨n0 + 1, 7, none⟩ (.string p.d) := ⟨_, rfl⟩
  rw [← hw]
  have H4 : Hid (Q2 w n0 p { kd := 2, cl := p.cl, ep := p.ep, sq := p.sq, op := p.op, er := p.er, d := p.d } w4) := Lib.hid (by rw [hw]; exact H3.out.set (q' := { kd := 2, cl := p.cl, ep := p.ep, sq := p.sq, op := p.op, er := p.er, d := p.d }) rfl)
  clear hw c7 g7 hz H3 a0
  have a0 : w4.cell? ⟨n0, 0, none⟩ = some (.int .i64 p.kd) := H4.out.cell 0
  rw [hk] at a0
  have hfz := H4.out.fz
  have hth : w4.there (n0 + 1) 0 43 := there_at H4.out.b rfl
  have c8 : w4.cell? ⟨n0, 8, none⟩ = some (.int .i64 p.old) := H4.out.cell 8
  have g8 := hfz 8
  obtain ⟨z, hz⟩ := H4.out.st 8 (by omega)
  clear hfz hth
  go_upto_region 29 with fail
  obtain ⟨w5, hw⟩ : ∃ u, u = w4.setCell ⟨n0 + 1, 8, none⟩ (.int .i64 p.old) := ⟨_, rfl⟩
  rw [← hw]
  have H5 : Hid (Q2 w n0 p { kd := 2, cl := p.cl, ep := p.ep, sq := p.sq, op := p.op, er := p.er, d := p.d, old := p.old } w5) := Lib.hid (by rw [hw]; exact H4.out.set (q' := { kd := 2, cl := p.cl, ep := p.ep, sq := p.sq, op := p.op, er := p.er, d := p.d, old := p.old }) rfl)
  clear hw c8 g8 hz H4 a0
  have hr0 := row_rangeK H5.out.a
  have hr1 := row_rangeK H5.out.b
  have HC := Lib.hid (HS.out w5 H5.out.bl)
  go_wp2_with (first | (refine wpList_load_mid rfl 41 _ rfl n0 0 rfl (pkC p).toList _ hr0 Tryz.underlying41 rfl (pk_len p) ?_) | (refine wpList_load_mid rfl 41 _ rfl (n0 + 1) 0 rfl (pkC (oth2 p)).toList _ hr1 Tryz.underlying41 rfl (pk_len _) ?_) | ((with_reducible refine HC.out.mono ?_); rintro e wz ⟨r, rfl, h1, h2⟩; have HR := Lib.hid h1; have HZ := Lib.hid (H5.out.bl.trans (h2.mono H5.out.bl.size)); clear h1 h2))
  go_ret
  exact ⟨r, rfl, HR.out, HZ.out⟩
end Go.Proofs.YtiinponoeaihcaaGreat

/- commonsref07.Inner: the bytes of a packet. -/
namespace Go.Proofs.YtiinponoeaihcaaGreat
open Go.RowKit Go.Shelf

attribute [local go_sem] Oper.semAt_some
/-- how many bytes names are, with their lengths -/
def nmB (L : List (List UInt8)) : Nat := (L.map fun x => x.length + 1).sum
theorem nmB_len : ∀ L : List (List UInt8), L.length ≤ nmB L
  | [] => Nat.zero_le _
  | x :: r => by
    have := nmB_len r
    show r.length + 1 ≤ (x.length + 1) + nmB r
    omega
/-- bytes that are put, and whether all did not fit -/
abbrev Sw := List UInt8 × Bool
def stN (s : Sw) (n : Int) (k : Nat) (lo hi : Int) : Sw := (numL s.1 n k lo hi, s.2 || !numOk n k lo hi)
def stT (s : Sw) (t : ByteArray) (k : Nat) (hi : Int) : Sw := (textL s.1 t k hi, s.2 || !numOk t.size k 0 hi)
theorem stN_len (s : Sw) (n : Int) (k : Nat) (lo hi : Int) {m : Nat} (h : s.1.length ≤ m) : (stN s n k lo hi).1.length ≤ m + k := by
  have := numL_len (L := s.1) n k lo hi
  show (numL s.1 n k lo hi).length ≤ _
  omega
theorem stT_len (s : Sw) (t : ByteArray) (k : Nat) (hi : Int) {m q : Nat} (h : s.1.length ≤ m) (ht : t.size ≤ q) : (stT s t k hi).1.length ≤ m + k + q := by
  have := numL_len (L := s.1) t.size k 0 hi
  show (numL s.1 t.size k 0 hi ++ t.data.toList).length ≤ _
  have e : t.data.toList.length = t.size := Array.length_toList
  rw [List.length_append, e]
  omega
abbrev WrS (b : Nat) (s : Sw) (w0 : World) (Ls : List (Nat × Obj)) (w : World) : Prop := Wr b s.1 s.2 w0 Ls w
theorem wst_num {b : Nat} {s : Sw} {w0 : World} {Ls : List (Nat × Obj)} (n : Int) (k : Nat) (lo hi : Int) (hk : Gd.wid k) (hn : I64 n) {m : Nat} (hl : s.1.length ≤ m) (hm : m ≤ 4000000) (w : World) (h : WrS b s w0 Ls w) :
    Calls Tryz.prog 28 #[.pointer (some ⟨b, 0, none⟩), .int .i64 n, .int .i64 k, .int .i64 lo, .int .i64 hi] w fun e w' => e = .returned (.tuple #[]) ∧ WrS b (stN s n k lo hi) w0 Ls w' :=
  wnum_any n k lo hi hk hn (Nat.le_trans hl hm) w h
theorem wst_text {b : Nat} {s : Sw} {w0 : World} {Ls : List (Nat × Obj)} (t : ByteArray) (k : Nat) (hi : Int) (hk : Gd.wid k) (ht : t.size ≤ 2000000) {m : Nat} (hl : s.1.length ≤ m) (hm : m ≤ 4000000) (hLs : NoBytes Ls) (w : World) (h : WrS b s w0 Ls w) :
    Calls Tryz.prog 29 #[.pointer (some ⟨b, 0, none⟩), .string t, .int .i64 k, .int .i64 hi] w fun e w' => e = .returned (.tuple #[]) ∧ WrS b (stT s t k hi) w0 Ls w' :=
  wtext_any t k hi hk ht (Nat.le_trans hl hm) hLs w h
theorem noBytes_pk (n0 : Nat) (p : Pk) : NoBytes [(n0, .cells (pkC p) 41 (0, 0))] := fun q hq cur f e => by
  simp only [List.mem_singleton] at hq
  subst hq
  cases e
/-- what Inner answers: bytes, and whether the packet may be -/
def InP (p q : Pk) (s : Sw) (w : World) (e : Ending) (w' : World) : Prop := ∃ v r, e = .returned (.tuple #[v, .bool (!s.2 && r)]) ∧ (p = q → r = true) ∧ OwnB w' w.heap.size v s.1 ∧ Below w.heap.size w w'
def in1 (p : Pk) : Sw := (stN (stN (stT (stN (stN (stN (stN (stN (stN (stN ([], false) 1 1 1 5) p.cl 1 1 8) p.ep 4 0 9223372036854775807) p.sq 8 0 9223372036854775807) p.op 1 1 4) p.at_ 4 0 9223372036854775807) p.n 2 0 9223372036854775807) p.d 2 128) p.old 8 0 9223372036854775807) p.new 8 0 9223372036854775807)
def in2 (p : Pk) : Sw := (stN (stT (stN (stN (stN (stN (stN (stN ([], false) 2 1 1 5) p.cl 1 1 8) p.ep 4 0 9223372036854775807) p.sq 8 0 9223372036854775807) p.op 1 1 4) p.er 1 0 9223372036854775807) p.d 2 128) p.old 8 0 9223372036854775807)
def in3 (p : Pk) : Sw := (stN (stN (stT (stT (stN (stN (stN (stN (stN (stN ([], false) 3 1 1 5) p.cl 1 1 8) p.ep 4 0 9223372036854775807) p.sq 8 0 9223372036854775807) p.op 1 0 9223372036854775807) p.ino 1 0 9223372036854775807) p.p1 1 100) p.p2 1 100) p.fl 1 0 9223372036854775807) p.cn 4 0 9223372036854775807)
def in4a (p : Pk) : Sw := (stN (stN (stN (stN (stN (stN (stN (stN (stN (stN (stN (stN (stN (stN (stN ([], false) 4 1 1 5) p.cl 1 1 8) p.ep 4 0 9223372036854775807) p.sq 8 0 9223372036854775807) p.op 1 0 9223372036854775807) p.er 1 0 9223372036854775807) p.ino 1 0 9223372036854775807) p.wr 8 0 9223372036854775807) p.at_ 4 0 9223372036854775807) p.ik 1 0 9223372036854775807) p.il 1 0 9223372036854775807) p.isz 2 0 9223372036854775807) p.nk 1 0 9223372036854775807) p.nl 1 0 9223372036854775807) p.ns 2 0 9223372036854775807)
theorem wr_new (p : Pk) (w : World) : WrS (w.heap.size + 1) ([], false) w [(w.heap.size, .cells (pkC p) 41 (0, 0))] ((w.alloc (.cells (pkC p) 41)).alloc (.cells #[.slice none 0 0, .bool false] 74)) := by
  have h1 := heap_alloc_new (w.alloc (.cells (pkC p) 41)) (.cells #[.slice none 0 0, .bool false] 74)
  have hs : (w.alloc (.cells (pkC p) 41)).heap.size = w.heap.size + 1 := by simp
  rw [hs] at h1
  refine ⟨.slice none 0 0, h1, ownB_nil _ _, by simp [Value.ownBlock], Nat.le_succ _, ((Below.refl _ _).alloc (Nat.le_refl _) _).alloc (by simp) _, fun q hq => ?_⟩
  simp only [List.mem_singleton] at hq
  subst hq
  refine ⟨by show w.heap.size ≠ w.heap.size + 1; omega, by simp [Value.ownBlock], Nat.le_refl _, ?_⟩
  show _ = some (Obj.cells _ _ _)
  rw [Below.heap_alloc _ _ _ (by simp)]
  exact heap_alloc_new _ _
theorem Wr.bl {b : Nat} {L : List UInt8} {no : Bool} {w0 w : World} {Ls : List (Nat × Obj)} (h : Wr b L no w0 Ls w) : Below w0.heap.size w0 w := h.elim fun _ h => h.2.2.2.2.1
set_option maxHeartbeats 16000000 in
set_option maxRecDepth 100000 in
theorem inner1_any (p : Pk) (hk : p.kd = 1) (A : Option Addr) (c : Nat) (L : List (List UInt8)) (hnv : p.nv = .slice A L.length c) (hL : L.length ≤ 2000000) (w : World) (hS : StrR w A L) (hpk : PkW p) :
    Calls Tryz.prog 16 #[.agg (pkC p)] w (InP p (oth1 p) (in1 p) w) := by
  have HO := Lib.hid (fun W (hW : Below w.heap.size w W) => others1_any p hk A c L hnv hL W (hS.keep hW) hpk)
  have hp := Lib.hid hpk
  clear hnv hL hS hpk
  go_enter Tryz.func16, Tryz.ntmps16
  go_upto_region 2 with fail
  obtain ⟨w1, hw⟩ : ∃ u, u = (w.alloc (.cells (pkC p) 41)).alloc (.cells #[.slice none 0 0, .bool false] 74) := ⟨_, rfl⟩
  obtain ⟨n0, hn⟩ : ∃ u, u = w.heap.size := ⟨_, rfl⟩
  have hH : WrS (n0 + 1) ([], false) w [(n0, .cells (pkC p) 41 (0, 0))] w1 := by
    rw [hw, hn]
    exact wr_new p w
  rw [← hw, ← hn]
  have H1 := Lib.hid hH
  have Hn := Lib.hid hn
  have HL1 : Hid ((([], false) : Sw).1.length ≤ 0) := Lib.hid (Nat.le_refl _)
  clear hw hn hH
  have hb := H1.out.get (k := n0) List.mem_cons_self
  have a0 : w1.cell? ⟨n0, 0, none⟩ = some (.int .i64 1) := (by rw [← hk]; exact cell_of_row w1 n0 0 _ _ _ hb)
  have hN : Calls Tryz.prog 28 #[.pointer (some ⟨n0 + 1, 0, none⟩), .int .i64 1, .int .i64 1, .int .i64 1, .int .i64 5] w1 fun e w' => e = .returned (.tuple #[]) ∧ WrS (n0 + 1) (stN ([], false) 1 1 1 5) w [(n0, .cells (pkC p) 41 (0, 0))] w' := wst_num 1 1 1 5 (Or.inl rfl) (small_I64 (by decide)) HL1.out (by omega) w1 H1.out
  obtain ⟨s2, hs⟩ : ∃ s, s = stN ([], false) 1 1 1 5 := ⟨_, rfl⟩
  rw [← hs] at hN
  have HL2 : Hid (s2.1.length ≤ 1) := Lib.hid (by rw [hs]; exact stN_len _ _ _ _ _ HL1.out)
  have HS2 := Lib.hid hs
  have HN := Lib.hid hN
  clear hb hN hs HL1
  go_upto_region 3 with ((with_reducible refine HN.out.mono ?_); rintro e w2 ⟨rfl, hx⟩; have hb := hx.get (k := n0) List.mem_cons_self; have a0 : w2.cell? ⟨n0, 0, none⟩ = some (.int .i64 1) := (by rw [← hk]; exact cell_of_row w2 n0 0 _ _ _ hb); have H2 := Lib.hid hx; clear hx hb)
  clear HN H1 a0
  have hb := H2.out.get (k := n0) List.mem_cons_self
  have a1 : w2.cell? ⟨n0, 1, none⟩ = some (.int .i64 p.cl) := cell_of_row w2 n0 1 _ _ _ hb
  have hN : Calls Tryz.prog 28 #[.pointer (some ⟨n0 + 1, 0, none⟩), .int .i64 p.cl, .int .i64 1, .int .i64 1, .int .i64 8] w2 fun e w' => e = .returned (.tuple #[]) ∧ WrS (n0 + 1) (stN s2 p.cl 1 1 8) w [(n0, .cells (pkC p) 41 (0, 0))] w' := wst_num p.cl 1 1 8 (Or.inl rfl) hp.out.cl HL2.out (by omega) w2 H2.out
  obtain ⟨s3, hs⟩ : ∃ s, s = stN s2 p.cl 1 1 8 := ⟨_, rfl⟩
  rw [← hs] at hN
  have HL3 : Hid (s3.1.length ≤ 2) := Lib.hid (by rw [hs]; exact stN_len _ _ _ _ _ HL2.out)
  have HS3 := Lib.hid hs
  have HN := Lib.hid hN
  clear hb hN hs HL2
  go_upto_region 4 with ((with_reducible refine HN.out.mono ?_); rintro e w3 ⟨rfl, hx⟩; have hb := hx.get (k := n0) List.mem_cons_self; have a0 : w3.cell? ⟨n0, 0, none⟩ = some (.int .i64 1) := (by rw [← hk]; exact cell_of_row w3 n0 0 _ _ _ hb); have H3 := Lib.hid hx; clear hx hb)
  clear HN H2 a1
  have hb := H3.out.get (k := n0) List.mem_cons_self
  have a2 : w3.cell? ⟨n0, 2, none⟩ = some (.int .i64 p.ep) := cell_of_row w3 n0 2 _ _ _ hb
  have hN : Calls Tryz.prog 28 #[.pointer (some ⟨n0 + 1, 0, none⟩), .int .i64 p.ep, .int .i64 4, .int .i64 0, .int .i64 9223372036854775807] w3 fun e w' => e = .returned (.tuple #[]) ∧ WrS (n0 + 1) (stN s3 p.ep 4 0 9223372036854775807) w [(n0, .cells (pkC p) 41 (0, 0))] w' := wst_num p.ep 4 0 9223372036854775807 (Or.inr (Or.inr (Or.inl rfl))) hp.out.ep HL3.out (by omega) w3 H3.out
  obtain ⟨s4, hs⟩ : ∃ s, s = stN s3 p.ep 4 0 9223372036854775807 := ⟨_, rfl⟩
  rw [← hs] at hN
  have HL4 : Hid (s4.1.length ≤ 6) := Lib.hid (by rw [hs]; exact stN_len _ _ _ _ _ HL3.out)
  have HS4 := Lib.hid hs
  have HN := Lib.hid hN
  clear hb hN hs HL3
  go_upto_region 5 with ((with_reducible refine HN.out.mono ?_); rintro e w4 ⟨rfl, hx⟩; have hb := hx.get (k := n0) List.mem_cons_self; have a0 : w4.cell? ⟨n0, 0, none⟩ = some (.int .i64 1) := (by rw [← hk]; exact cell_of_row w4 n0 0 _ _ _ hb); have H4 := Lib.hid hx; clear hx hb)
  clear HN H3 a2
  have hb := H4.out.get (k := n0) List.mem_cons_self
  have a3 : w4.cell? ⟨n0, 3, none⟩ = some (.int .i64 p.sq) := cell_of_row w4 n0 3 _ _ _ hb
  have hN : Calls Tryz.prog 28 #[.pointer (some ⟨n0 + 1, 0, none⟩), .int .i64 p.sq, .int .i64 8, .int .i64 0, .int .i64 9223372036854775807] w4 fun e w' => e = .returned (.tuple #[]) ∧ WrS (n0 + 1) (stN s4 p.sq 8 0 9223372036854775807) w [(n0, .cells (pkC p) 41 (0, 0))] w' := wst_num p.sq 8 0 9223372036854775807 (Or.inr (Or.inr (Or.inr rfl))) hp.out.sq HL4.out (by omega) w4 H4.out
  obtain ⟨s5, hs⟩ : ∃ s, s = stN s4 p.sq 8 0 9223372036854775807 := ⟨_, rfl⟩
  rw [← hs] at hN
  have HL5 : Hid (s5.1.length ≤ 14) := Lib.hid (by rw [hs]; exact stN_len _ _ _ _ _ HL4.out)
  have HS5 := Lib.hid hs
  have HN := Lib.hid hN
  clear hb hN hs HL4
  go_upto_region 7 with ((with_reducible refine HN.out.mono ?_); rintro e w5 ⟨rfl, hx⟩; have hb := hx.get (k := n0) List.mem_cons_self; have a0 : w5.cell? ⟨n0, 0, none⟩ = some (.int .i64 1) := (by rw [← hk]; exact cell_of_row w5 n0 0 _ _ _ hb); have H5 := Lib.hid hx; clear hx hb)
  clear HN H4 a3
  have hb := H5.out.get (k := n0) List.mem_cons_self
  have a4 : w5.cell? ⟨n0, 4, none⟩ = some (.int .i64 p.op) := cell_of_row w5 n0 4 _ _ _ hb
  have hN : Calls Tryz.prog 28 #[.pointer (some ⟨n0 + 1, 0, none⟩), .int .i64 p.op, .int .i64 1, .int .i64 1, .int .i64 4] w5 fun e w' => e = .returned (.tuple #[]) ∧ WrS (n0 + 1) (stN s5 p.op 1 1 4) w [(n0, .cells (pkC p) 41 (0, 0))] w' := wst_num p.op 1 1 4 (Or.inl rfl) hp.out.op HL5.out (by omega) w5 H5.out
  obtain ⟨s6, hs⟩ : ∃ s, s = stN s5 p.op 1 1 4 := ⟨_, rfl⟩
  rw [← hs] at hN
  have HL6 : Hid (s6.1.length ≤ 15) := Lib.hid (by rw [hs]; exact stN_len _ _ _ _ _ HL5.out)
  have HS6 := Lib.hid hs
  have HN := Lib.hid hN
  clear hb hN hs HL5
  go_upto_region 9 with ((with_reducible refine HN.out.mono ?_); rintro e w6 ⟨rfl, hx⟩; have hb := hx.get (k := n0) List.mem_cons_self; have a0 : w6.cell? ⟨n0, 0, none⟩ = some (.int .i64 1) := (by rw [← hk]; exact cell_of_row w6 n0 0 _ _ _ hb); have H6 := Lib.hid hx; clear hx hb)
  clear HN H5 a4
  have hb := H6.out.get (k := n0) List.mem_cons_self
  have a5 : w6.cell? ⟨n0, 5, none⟩ = some (.int .i64 p.at_) := cell_of_row w6 n0 5 _ _ _ hb
  have hN : Calls Tryz.prog 28 #[.pointer (some ⟨n0 + 1, 0, none⟩), .int .i64 p.at_, .int .i64 4, .int .i64 0, .int .i64 9223372036854775807] w6 fun e w' => e = .returned (.tuple #[]) ∧ WrS (n0 + 1) (stN s6 p.at_ 4 0 9223372036854775807) w [(n0, .cells (pkC p) 41 (0, 0))] w' := wst_num p.at_ 4 0 9223372036854775807 (Or.inr (Or.inr (Or.inl rfl))) hp.out.at_ HL6.out (by omega) w6 H6.out
  obtain ⟨s7, hs⟩ : ∃ s, s = stN s6 p.at_ 4 0 9223372036854775807 := ⟨_, rfl⟩
  rw [← hs] at hN
  have HL7 : Hid (s7.1.length ≤ 19) := Lib.hid (by rw [hs]; exact stN_len _ _ _ _ _ HL6.out)
  have HS7 := Lib.hid hs
  have HN := Lib.hid hN
  clear hb hN hs HL6
  go_upto_region 10 with ((with_reducible refine HN.out.mono ?_); rintro e w7 ⟨rfl, hx⟩; have hb := hx.get (k := n0) List.mem_cons_self; have a0 : w7.cell? ⟨n0, 0, none⟩ = some (.int .i64 1) := (by rw [← hk]; exact cell_of_row w7 n0 0 _ _ _ hb); have H7 := Lib.hid hx; clear hx hb)
  clear HN H6 a5
  have hb := H7.out.get (k := n0) List.mem_cons_self
  have a6 : w7.cell? ⟨n0, 6, none⟩ = some (.int .i64 p.n) := cell_of_row w7 n0 6 _ _ _ hb
  have hN : Calls Tryz.prog 28 #[.pointer (some ⟨n0 + 1, 0, none⟩), .int .i64 p.n, .int .i64 2, .int .i64 0, .int .i64 9223372036854775807] w7 fun e w' => e = .returned (.tuple #[]) ∧ WrS (n0 + 1) (stN s7 p.n 2 0 9223372036854775807) w [(n0, .cells (pkC p) 41 (0, 0))] w' := wst_num p.n 2 0 9223372036854775807 (Or.inr (Or.inl rfl)) hp.out.n HL7.out (by omega) w7 H7.out
  obtain ⟨s8, hs⟩ : ∃ s, s = stN s7 p.n 2 0 9223372036854775807 := ⟨_, rfl⟩
  rw [← hs] at hN
  have HL8 : Hid (s8.1.length ≤ 21) := Lib.hid (by rw [hs]; exact stN_len _ _ _ _ _ HL7.out)
  have HS8 := Lib.hid hs
  have HN := Lib.hid hN
  clear hb hN hs HL7
  go_upto_region 12 with ((with_reducible refine HN.out.mono ?_); rintro e w8 ⟨rfl, hx⟩; have hb := hx.get (k := n0) List.mem_cons_self; have a0 : w8.cell? ⟨n0, 0, none⟩ = some (.int .i64 1) := (by rw [← hk]; exact cell_of_row w8 n0 0 _ _ _ hb); have H8 := Lib.hid hx; clear hx hb)
  clear HN H7 a6
  have hb := H8.out.get (k := n0) List.mem_cons_self
  have a7 : w8.cell? ⟨n0, 7, none⟩ = some (.string p.d) := cell_of_row w8 n0 7 _ _ _ hb
  have hN : Calls Tryz.prog 29 #[.pointer (some ⟨n0 + 1, 0, none⟩), .string p.d, .int .i64 2, .int .i64 128] w8 fun e w' => e = .returned (.tuple #[]) ∧ WrS (n0 + 1) (stT s8 p.d 2 128) w [(n0, .cells (pkC p) 41 (0, 0))] w' := wst_text p.d 2 128 (Or.inr (Or.inl rfl)) (Nat.le_trans hp.out.d (by omega)) HL8.out (by omega) (noBytes_pk n0 p) w8 H8.out
  obtain ⟨s9, hs⟩ : ∃ s, s = stT s8 p.d 2 128 := ⟨_, rfl⟩
  rw [← hs] at hN
  have HL9 : Hid (s9.1.length ≤ 1100023) := Lib.hid (by rw [hs]; exact stT_len _ _ _ _ HL8.out hp.out.d)
  have HS9 := Lib.hid hs
  have HN := Lib.hid hN
  clear hb hN hs HL8
  go_upto_region 13 with ((with_reducible refine HN.out.mono ?_); rintro e w9 ⟨rfl, hx⟩; have hb := hx.get (k := n0) List.mem_cons_self; have a0 : w9.cell? ⟨n0, 0, none⟩ = some (.int .i64 1) := (by rw [← hk]; exact cell_of_row w9 n0 0 _ _ _ hb); have H9 := Lib.hid hx; clear hx hb)
  clear HN H8 a7
  have hb := H9.out.get (k := n0) List.mem_cons_self
  have a8 : w9.cell? ⟨n0, 8, none⟩ = some (.int .i64 p.old) := cell_of_row w9 n0 8 _ _ _ hb
  have hN : Calls Tryz.prog 28 #[.pointer (some ⟨n0 + 1, 0, none⟩), .int .i64 p.old, .int .i64 8, .int .i64 0, .int .i64 9223372036854775807] w9 fun e w' => e = .returned (.tuple #[]) ∧ WrS (n0 + 1) (stN s9 p.old 8 0 9223372036854775807) w [(n0, .cells (pkC p) 41 (0, 0))] w' := wst_num p.old 8 0 9223372036854775807 (Or.inr (Or.inr (Or.inr rfl))) hp.out.old HL9.out (by omega) w9 H9.out
  obtain ⟨s10, hs⟩ : ∃ s, s = stN s9 p.old 8 0 9223372036854775807 := ⟨_, rfl⟩
  rw [← hs] at hN
  have HL10 : Hid (s10.1.length ≤ 1100031) := Lib.hid (by rw [hs]; exact stN_len _ _ _ _ _ HL9.out)
  have HS10 := Lib.hid hs
  have HN := Lib.hid hN
  clear hb hN hs HL9
  go_upto_region 15 with ((with_reducible refine HN.out.mono ?_); rintro e w10 ⟨rfl, hx⟩; have hb := hx.get (k := n0) List.mem_cons_self; have a0 : w10.cell? ⟨n0, 0, none⟩ = some (.int .i64 1) := (by rw [← hk]; exact cell_of_row w10 n0 0 _ _ _ hb); have H10 := Lib.hid hx; clear hx hb)
  clear HN H9 a8
  have hb := H10.out.get (k := n0) List.mem_cons_self
  have a9 : w10.cell? ⟨n0, 9, none⟩ = some (.int .i64 p.new) := cell_of_row w10 n0 9 _ _ _ hb
  have hN : Calls Tryz.prog 28 #[.pointer (some ⟨n0 + 1, 0, none⟩), .int .i64 p.new, .int .i64 8, .int .i64 0, .int .i64 9223372036854775807] w10 fun e w' => e = .returned (.tuple #[]) ∧ WrS (n0 + 1) (stN s10 p.new 8 0 9223372036854775807) w [(n0, .cells (pkC p) 41 (0, 0))] w' := wst_num p.new 8 0 9223372036854775807 (Or.inr (Or.inr (Or.inr rfl))) hp.out.new HL10.out (by omega) w10 H10.out
  obtain ⟨s11, hs⟩ : ∃ s, s = stN s10 p.new 8 0 9223372036854775807 := ⟨_, rfl⟩
  rw [← hs] at hN
  have HL11 : Hid (s11.1.length ≤ 1100039) := Lib.hid (by rw [hs]; exact stN_len _ _ _ _ _ HL10.out)
  have HS11 := Lib.hid hs
  have HN := Lib.hid hN
  clear hb hN hs HL10
  go_upto_region 46 with ((with_reducible refine HN.out.mono ?_); rintro e w11 ⟨rfl, hx⟩; have hb := hx.get (k := n0) List.mem_cons_self; have a0 : w11.cell? ⟨n0, 0, none⟩ = some (.int .i64 1) := (by rw [← hk]; exact cell_of_row w11 n0 0 _ _ _ hb); have H11 := Lib.hid hx; clear hx hb)
  clear HN H10 a9
  have hb := H11.out.get (k := n0) List.mem_cons_self
  have hr0 := row_rangeK hb
  have HC := Lib.hid (HO.out w11 H11.out.bl)
  clear hb
  go_upto_region 47 with (first | (refine wpList_load_mid rfl 41 _ rfl n0 0 rfl (pkC p).toList _ hr0 Tryz.underlying41 rfl (pk_len p) ?_) | ((with_reducible refine HC.out.mono ?_); rintro e wz ⟨r, rfl, h1, h2⟩; have HR := Lib.hid h1; have HZ := Lib.hid (H11.out.below h2); clear h1 h2))
  obtain ⟨v, g1, g2, g3, g4, g5, g6⟩ := HZ.out
  have e0 : wz.cell? ⟨n0 + 1, 0, none⟩ = some v := cell_of_row wz (n0 + 1) 0 _ _ _ g1
  have e1 : wz.cell? ⟨n0 + 1, 1, none⟩ = some (.bool s11.2) := cell_of_row wz (n0 + 1) 1 _ _ _ g1
  obtain ⟨A2, c2, hv⟩ := rv_slice g2
  subst hv
  have HE : Hid (s11 = in1 p) := Lib.hid (by have e := HS2.out; subst e; have e := HS3.out; subst e; have e := HS4.out; subst e; have e := HS5.out; subst e; have e := HS6.out; subst e; have e := HS7.out; subst e; have e := HS8.out; subst e; have e := HS9.out; subst e; have e := HS10.out; subst e; have e := HS11.out; subst e; rfl)
  have HOw := Lib.hid g2
  have HBl := Lib.hid g5
  clear g1 g2 g3 g4 g5 g6 HS2 HS3 HS4 HS5 HS6 HS7 HS8 HS9 HS10 HS11 HC HO H11 HZ
  obtain ⟨o, ho⟩ : ∃ o, o = s11.2 := ⟨_, rfl⟩
  rw [← ho] at e1
  have Ho := Lib.hid ho
  clear ho hr0
  rcases bdic o with h | h
  · subst h
    go_quiet (fail)
    go_wp2_with fail
    go_ret2
    refine ⟨.slice A2 s11.1.length c2, r, ?_, HR.out, ?_, below_drewN HBl.out _⟩
    · rw [← HE.out, ← Ho.out]; rfl
    · rw [← HE.out]; exact HOw.out.keep (below_drewN (Below.refl _ _) _)
  · subst h
    go_quiet (fail)
    go_wp2_with fail
    go_ret2
    refine ⟨.slice A2 s11.1.length c2, r, ?_, HR.out, ?_, below_drewN HBl.out _⟩
    · rw [← HE.out, ← Ho.out]; rfl
    · rw [← HE.out]; exact HOw.out.keep (below_drewN (Below.refl _ _) _)
set_option maxHeartbeats 16000000 in
set_option maxRecDepth 100000 in
theorem inner2_any (p : Pk) (hk : p.kd = 2) (A : Option Addr) (c : Nat) (L : List (List UInt8)) (hnv : p.nv = .slice A L.length c) (hL : L.length ≤ 2000000) (w : World) (hS : StrR w A L) (hpk : PkW p) :
    Calls Tryz.prog 16 #[.agg (pkC p)] w (InP p (oth2 p) (in2 p) w) := by
  have HO := Lib.hid (fun W (hW : Below w.heap.size w W) => others2_any p hk A c L hnv hL W (hS.keep hW) hpk)
  have hp := Lib.hid hpk
  clear hnv hL hS hpk
  go_enter Tryz.func16, Tryz.ntmps16
  go_upto_region 2 with fail
  obtain ⟨w1, hw⟩ : ∃ u, u = (w.alloc (.cells (pkC p) 41)).alloc (.cells #[.slice none 0 0, .bool false] 74) := ⟨_, rfl⟩
  obtain ⟨n0, hn⟩ : ∃ u, u = w.heap.size := ⟨_, rfl⟩
  have hH : WrS (n0 + 1) ([], false) w [(n0, .cells (pkC p) 41 (0, 0))] w1 := by
    rw [hw, hn]
    exact wr_new p w
  rw [← hw, ← hn]
  have H1 := Lib.hid hH
  have Hn := Lib.hid hn
  have HL1 : Hid ((([], false) : Sw).1.length ≤ 0) := Lib.hid (Nat.le_refl _)
  clear hw hn hH
  have hb := H1.out.get (k := n0) List.mem_cons_self
  have a0 : w1.cell? ⟨n0, 0, none⟩ = some (.int .i64 2) := (by rw [← hk]; exact cell_of_row w1 n0 0 _ _ _ hb)
  have hN : Calls Tryz.prog 28 #[.pointer (some ⟨n0 + 1, 0, none⟩), .int .i64 2, .int .i64 1, .int .i64 1, .int .i64 5] w1 fun e w' => e = .returned (.tuple #[]) ∧ WrS (n0 + 1) (stN ([], false) 2 1 1 5) w [(n0, .cells (pkC p) 41 (0, 0))] w' := wst_num 2 1 1 5 (Or.inl rfl) (small_I64 (by decide)) HL1.out (by omega) w1 H1.out
  obtain ⟨s2, hs⟩ : ∃ s, s = stN ([], false) 2 1 1 5 := ⟨_, rfl⟩
  rw [← hs] at hN
  have HL2 : Hid (s2.1.length ≤ 1) := Lib.hid (by rw [hs]; exact stN_len _ _ _ _ _ HL1.out)
  have HS2 := Lib.hid hs
  have HN := Lib.hid hN
  clear hb hN hs HL1
  go_upto_region 3 with ((with_reducible refine HN.out.mono ?_); rintro e w2 ⟨rfl, hx⟩; have hb := hx.get (k := n0) List.mem_cons_self; have a0 : w2.cell? ⟨n0, 0, none⟩ = some (.int .i64 2) := (by rw [← hk]; exact cell_of_row w2 n0 0 _ _ _ hb); have H2 := Lib.hid hx; clear hx hb)
  clear HN H1 a0
  have hb := H2.out.get (k := n0) List.mem_cons_self
  have a1 : w2.cell? ⟨n0, 1, none⟩ = some (.int .i64 p.cl) := cell_of_row w2 n0 1 _ _ _ hb
  have hN : Calls Tryz.prog 28 #[.pointer (some ⟨n0 + 1, 0, none⟩), .int .i64 p.cl, .int .i64 1, .int .i64 1, .int .i64 8] w2 fun e w' => e = .returned (.tuple #[]) ∧ WrS (n0 + 1) (stN s2 p.cl 1 1 8) w [(n0, .cells (pkC p) 41 (0, 0))] w' := wst_num p.cl 1 1 8 (Or.inl rfl) hp.out.cl HL2.out (by omega) w2 H2.out
  obtain ⟨s3, hs⟩ : ∃ s, s = stN s2 p.cl 1 1 8 := ⟨_, rfl⟩
  rw [← hs] at hN
  have HL3 : Hid (s3.1.length ≤ 2) := Lib.hid (by rw [hs]; exact stN_len _ _ _ _ _ HL2.out)
  have HS3 := Lib.hid hs
  have HN := Lib.hid hN
  clear hb hN hs HL2
  go_upto_region 4 with ((with_reducible refine HN.out.mono ?_); rintro e w3 ⟨rfl, hx⟩; have hb := hx.get (k := n0) List.mem_cons_self; have a0 : w3.cell? ⟨n0, 0, none⟩ = some (.int .i64 2) := (by rw [← hk]; exact cell_of_row w3 n0 0 _ _ _ hb); have H3 := Lib.hid hx; clear hx hb)
  clear HN H2 a1
  have hb := H3.out.get (k := n0) List.mem_cons_self
  have a2 : w3.cell? ⟨n0, 2, none⟩ = some (.int .i64 p.ep) := cell_of_row w3 n0 2 _ _ _ hb
  have hN : Calls Tryz.prog 28 #[.pointer (some ⟨n0 + 1, 0, none⟩), .int .i64 p.ep, .int .i64 4, .int .i64 0, .int .i64 9223372036854775807] w3 fun e w' => e = .returned (.tuple #[]) ∧ WrS (n0 + 1) (stN s3 p.ep 4 0 9223372036854775807) w [(n0, .cells (pkC p) 41 (0, 0))] w' := wst_num p.ep 4 0 9223372036854775807 (Or.inr (Or.inr (Or.inl rfl))) hp.out.ep HL3.out (by omega) w3 H3.out
  obtain ⟨s4, hs⟩ : ∃ s, s = stN s3 p.ep 4 0 9223372036854775807 := ⟨_, rfl⟩
  rw [← hs] at hN
  have HL4 : Hid (s4.1.length ≤ 6) := Lib.hid (by rw [hs]; exact stN_len _ _ _ _ _ HL3.out)
  have HS4 := Lib.hid hs
  have HN := Lib.hid hN
  clear hb hN hs HL3
  go_upto_region 5 with ((with_reducible refine HN.out.mono ?_); rintro e w4 ⟨rfl, hx⟩; have hb := hx.get (k := n0) List.mem_cons_self; have a0 : w4.cell? ⟨n0, 0, none⟩ = some (.int .i64 2) := (by rw [← hk]; exact cell_of_row w4 n0 0 _ _ _ hb); have H4 := Lib.hid hx; clear hx hb)
  clear HN H3 a2
  have hb := H4.out.get (k := n0) List.mem_cons_self
  have a3 : w4.cell? ⟨n0, 3, none⟩ = some (.int .i64 p.sq) := cell_of_row w4 n0 3 _ _ _ hb
  have hN : Calls Tryz.prog 28 #[.pointer (some ⟨n0 + 1, 0, none⟩), .int .i64 p.sq, .int .i64 8, .int .i64 0, .int .i64 9223372036854775807] w4 fun e w' => e = .returned (.tuple #[]) ∧ WrS (n0 + 1) (stN s4 p.sq 8 0 9223372036854775807) w [(n0, .cells (pkC p) 41 (0, 0))] w' := wst_num p.sq 8 0 9223372036854775807 (Or.inr (Or.inr (Or.inr rfl))) hp.out.sq HL4.out (by omega) w4 H4.out
  obtain ⟨s5, hs⟩ : ∃ s, s = stN s4 p.sq 8 0 9223372036854775807 := ⟨_, rfl⟩
  rw [← hs] at hN
  have HL5 : Hid (s5.1.length ≤ 14) := Lib.hid (by rw [hs]; exact stN_len _ _ _ _ _ HL4.out)
  have HS5 := Lib.hid hs
  have HN := Lib.hid hN
  clear hb hN hs HL4
  go_upto_region 7 with ((with_reducible refine HN.out.mono ?_); rintro e w5 ⟨rfl, hx⟩; have hb := hx.get (k := n0) List.mem_cons_self; have a0 : w5.cell? ⟨n0, 0, none⟩ = some (.int .i64 2) := (by rw [← hk]; exact cell_of_row w5 n0 0 _ _ _ hb); have H5 := Lib.hid hx; clear hx hb)
  clear HN H4 a3
  have hb := H5.out.get (k := n0) List.mem_cons_self
  have a4 : w5.cell? ⟨n0, 4, none⟩ = some (.int .i64 p.op) := cell_of_row w5 n0 4 _ _ _ hb
  have hN : Calls Tryz.prog 28 #[.pointer (some ⟨n0 + 1, 0, none⟩), .int .i64 p.op, .int .i64 1, .int .i64 1, .int .i64 4] w5 fun e w' => e = .returned (.tuple #[]) ∧ WrS (n0 + 1) (stN s5 p.op 1 1 4) w [(n0, .cells (pkC p) 41 (0, 0))] w' := wst_num p.op 1 1 4 (Or.inl rfl) hp.out.op HL5.out (by omega) w5 H5.out
  obtain ⟨s6, hs⟩ : ∃ s, s = stN s5 p.op 1 1 4 := ⟨_, rfl⟩
  rw [← hs] at hN
  have HL6 : Hid (s6.1.length ≤ 15) := Lib.hid (by rw [hs]; exact stN_len _ _ _ _ _ HL5.out)
  have HS6 := Lib.hid hs
  have HN := Lib.hid hN
  clear hb hN hs HL5
  go_upto_region 11 with ((with_reducible refine HN.out.mono ?_); rintro e w6 ⟨rfl, hx⟩; have hb := hx.get (k := n0) List.mem_cons_self; have a0 : w6.cell? ⟨n0, 0, none⟩ = some (.int .i64 2) := (by rw [← hk]; exact cell_of_row w6 n0 0 _ _ _ hb); have H6 := Lib.hid hx; clear hx hb)
  clear HN H5 a4
  have hb := H6.out.get (k := n0) List.mem_cons_self
  have a19 : w6.cell? ⟨n0, 19, none⟩ = some (.int .i64 p.er) := cell_of_row w6 n0 19 _ _ _ hb
  have hN : Calls Tryz.prog 28 #[.pointer (some ⟨n0 + 1, 0, none⟩), .int .i64 p.er, .int .i64 1, .int .i64 0, .int .i64 9223372036854775807] w6 fun e w' => e = .returned (.tuple #[]) ∧ WrS (n0 + 1) (stN s6 p.er 1 0 9223372036854775807) w [(n0, .cells (pkC p) 41 (0, 0))] w' := wst_num p.er 1 0 9223372036854775807 (Or.inl rfl) hp.out.er HL6.out (by omega) w6 H6.out
  obtain ⟨s7, hs⟩ : ∃ s, s = stN s6 p.er 1 0 9223372036854775807 := ⟨_, rfl⟩
  rw [← hs] at hN
  have HL7 : Hid (s7.1.length ≤ 16) := Lib.hid (by rw [hs]; exact stN_len _ _ _ _ _ HL6.out)
  have HS7 := Lib.hid hs
  have HN := Lib.hid hN
  clear hb hN hs HL6
  go_upto_region 12 with ((with_reducible refine HN.out.mono ?_); rintro e w7 ⟨rfl, hx⟩; have hb := hx.get (k := n0) List.mem_cons_self; have a0 : w7.cell? ⟨n0, 0, none⟩ = some (.int .i64 2) := (by rw [← hk]; exact cell_of_row w7 n0 0 _ _ _ hb); have H7 := Lib.hid hx; clear hx hb)
  clear HN H6 a19
  have hb := H7.out.get (k := n0) List.mem_cons_self
  have a7 : w7.cell? ⟨n0, 7, none⟩ = some (.string p.d) := cell_of_row w7 n0 7 _ _ _ hb
  have hN : Calls Tryz.prog 29 #[.pointer (some ⟨n0 + 1, 0, none⟩), .string p.d, .int .i64 2, .int .i64 128] w7 fun e w' => e = .returned (.tuple #[]) ∧ WrS (n0 + 1) (stT s7 p.d 2 128) w [(n0, .cells (pkC p) 41 (0, 0))] w' := wst_text p.d 2 128 (Or.inr (Or.inl rfl)) (Nat.le_trans hp.out.d (by omega)) HL7.out (by omega) (noBytes_pk n0 p) w7 H7.out
  obtain ⟨s8, hs⟩ : ∃ s, s = stT s7 p.d 2 128 := ⟨_, rfl⟩
  rw [← hs] at hN
  have HL8 : Hid (s8.1.length ≤ 1100018) := Lib.hid (by rw [hs]; exact stT_len _ _ _ _ HL7.out hp.out.d)
  have HS8 := Lib.hid hs
  have HN := Lib.hid hN
  clear hb hN hs HL7
  go_upto_region 13 with ((with_reducible refine HN.out.mono ?_); rintro e w8 ⟨rfl, hx⟩; have hb := hx.get (k := n0) List.mem_cons_self; have a0 : w8.cell? ⟨n0, 0, none⟩ = some (.int .i64 2) := (by rw [← hk]; exact cell_of_row w8 n0 0 _ _ _ hb); have H8 := Lib.hid hx; clear hx hb)
  clear HN H7 a7
  have hb := H8.out.get (k := n0) List.mem_cons_self
  have a8 : w8.cell? ⟨n0, 8, none⟩ = some (.int .i64 p.old) := cell_of_row w8 n0 8 _ _ _ hb
  have hN : Calls Tryz.prog 28 #[.pointer (some ⟨n0 + 1, 0, none⟩), .int .i64 p.old, .int .i64 8, .int .i64 0, .int .i64 9223372036854775807] w8 fun e w' => e = .returned (.tuple #[]) ∧ WrS (n0 + 1) (stN s8 p.old 8 0 9223372036854775807) w [(n0, .cells (pkC p) 41 (0, 0))] w' := wst_num p.old 8 0 9223372036854775807 (Or.inr (Or.inr (Or.inr rfl))) hp.out.old HL8.out (by omega) w8 H8.out
  obtain ⟨s9, hs⟩ : ∃ s, s = stN s8 p.old 8 0 9223372036854775807 := ⟨_, rfl⟩
  rw [← hs] at hN
  have HL9 : Hid (s9.1.length ≤ 1100026) := Lib.hid (by rw [hs]; exact stN_len _ _ _ _ _ HL8.out)
  have HS9 := Lib.hid hs
  have HN := Lib.hid hN
  clear hb hN hs HL8
  go_upto_region 46 with ((with_reducible refine HN.out.mono ?_); rintro e w9 ⟨rfl, hx⟩; have hb := hx.get (k := n0) List.mem_cons_self; have a0 : w9.cell? ⟨n0, 0, none⟩ = some (.int .i64 2) := (by rw [← hk]; exact cell_of_row w9 n0 0 _ _ _ hb); have H9 := Lib.hid hx; clear hx hb)
  clear HN H8 a8
  have hb := H9.out.get (k := n0) List.mem_cons_self
  have hr0 := row_rangeK hb
  have HC := Lib.hid (HO.out w9 H9.out.bl)
  clear hb
  go_upto_region 47 with (first | (refine wpList_load_mid rfl 41 _ rfl n0 0 rfl (pkC p).toList _ hr0 Tryz.underlying41 rfl (pk_len p) ?_) | ((with_reducible refine HC.out.mono ?_); rintro e wz ⟨r, rfl, h1, h2⟩; have HR := Lib.hid h1; have HZ := Lib.hid (H9.out.below h2); clear h1 h2))
  obtain ⟨v, g1, g2, g3, g4, g5, g6⟩ := HZ.out
  have e0 : wz.cell? ⟨n0 + 1, 0, none⟩ = some v := cell_of_row wz (n0 + 1) 0 _ _ _ g1
  have e1 : wz.cell? ⟨n0 + 1, 1, none⟩ = some (.bool s9.2) := cell_of_row wz (n0 + 1) 1 _ _ _ g1
  obtain ⟨A2, c2, hv⟩ := rv_slice g2
  subst hv
  have HE : Hid (s9 = in2 p) := Lib.hid (by have e := HS2.out; subst e; have e := HS3.out; subst e; have e := HS4.out; subst e; have e := HS5.out; subst e; have e := HS6.out; subst e; have e := HS7.out; subst e; have e := HS8.out; subst e; have e := HS9.out; subst e; rfl)
  have HOw := Lib.hid g2
  have HBl := Lib.hid g5
  clear g1 g2 g3 g4 g5 g6 HS2 HS3 HS4 HS5 HS6 HS7 HS8 HS9 HC HO H9 HZ
  obtain ⟨o, ho⟩ : ∃ o, o = s9.2 := ⟨_, rfl⟩
  rw [← ho] at e1
  have Ho := Lib.hid ho
  clear ho hr0
  rcases bdic o with h | h
  · subst h
    go_quiet (fail)
    go_wp2_with fail
    go_ret2
    refine ⟨.slice A2 s9.1.length c2, r, ?_, HR.out, ?_, below_drewN HBl.out _⟩
    · rw [← HE.out, ← Ho.out]; rfl
    · rw [← HE.out]; exact HOw.out.keep (below_drewN (Below.refl _ _) _)
  · subst h
    go_quiet (fail)
    go_wp2_with fail
    go_ret2
    refine ⟨.slice A2 s9.1.length c2, r, ?_, HR.out, ?_, below_drewN HBl.out _⟩
    · rw [← HE.out, ← Ho.out]; rfl
    · rw [← HE.out]; exact HOw.out.keep (below_drewN (Below.refl _ _) _)
end Go.Proofs.YtiinponoeaihcaaGreat
