/- Walks: slots.Read of any bytes. -/
import Derived.Test.YtccpdkjonepoiaaGreatDoorW20
import Derived.Test.YtccpdkjonepoiaaGreatDoorW11
import Derived.Test.YtccpdkjonepoiaaGreatDoorW19
import Derived.Test.YtccpdkjonepoiaaGreatDoorW07
import Derived.Test.YtccpdkjonepoiaaGreatDoorW15
set_option linter.unusedVariables false
set_option linter.unusedSimpArgs false
set_option linter.unusedSectionVars false
namespace Go.Proofs.YtccpdkjonepoiaaGreatDoor
open Go.RowKit

attribute [local go_sem] Oper.semAt_some

/-- what Read holds: its bytes, where it reads next, its answer -/
structure RdG (w0 : World) (v : Value) (rb ab at_ : Nat) (W : World) : Prop where
  below : Below w0.heap.size w0 W
  cb : CellsAt W w0.heap.size 22 #[v]
  ca : CellsAt W ab 3 #[.int .i64 at_]
  cr : W.heap[rb]? = some (.cells (slotC ⟨0, 0, 0, 0, 0, 0⟩) 48 (0, 0))
  lb : w0.heap.size < ab ∧ w0.heap.size < rb ∧ rb < ab
theorem RdG.step {w0 : World} {v : Value} {rb ab at_ : Nat} {W : World} (h : RdG w0 v rb ab at_ W) (n : Nat) : RdG w0 v rb ab n (W.setCell ⟨ab, 0, none⟩ (.int .i64 n)) := by
  obtain ⟨h1, h2, h3⟩ := h.lb
  exact ⟨h.below.setCell (show w0.heap.size ≤ ab by omega) _, (Go.heap_setCell_other _ _ _ _ (by simp; omega)).trans h.cb, Go.heap_setCell_same _ _ 0 _ _ _ h.ca, (Go.heap_setCell_other _ _ _ _ (by simp; omega)).trans h.cr, h.lb⟩
theorem RdG.apart {w0 : World} {v : Value} {rb ab at_ : Nat} {W W' : World} (h : RdG w0 v rb ab at_ W) {ib : Nat} (hi : ab < ib) (hO : Only (fun k => k = ib) W W') : RdG w0 v rb ab at_ W' := by
  obtain ⟨h1, h2, h3⟩ := h.lb
  refine ⟨⟨hO.os.trans h.below.os, hO.tape.trans h.below.tape, hO.output.trans h.below.output, Nat.le_trans h.below.size hO.size, fun k hk => (hO.block k (Nat.lt_of_lt_of_le hk h.below.size) (by omega)).trans (h.below.block k hk)⟩, (hO.block _ h.cb.lt (by omega)).trans h.cb, (hO.block _ h.ca.lt (by omega)).trans h.ca, (hO.block _ (lt_get h.cr) (by omega)).trans h.cr, h.lb⟩

set_option maxHeartbeats 4000000 in
set_option maxRecDepth 100000 in
theorem read1_gen {w0 : World} {v : Value} {rb ab at_ : Nat} (L : List UInt8) (hv : BytesAt w0 v L) (k : Nat) (hk : Gd.wid k) (w : World) (h : RdG w0 v rb ab at_ w) (hl : L.length ≤ 1000000) (hat : at_ ≤ 1000000) :
    Calls Tryz.prog 107 #[.int .i64 k, .pointer (some ⟨w0.heap.size, 0, none⟩), .pointer (some ⟨ab, 0, none⟩)] w fun e w' => e = .returned (.int .i64 ((Gd.get L at_ k).toNat : Nat)) ∧ RdG w0 v rb ab (at_ + k) w' ∧ Only (fun j => j = ab) w w' := by
  have hvw := hv.keep h.below
  have HGt := Lib.hid (get_any v L at_ k hk (nat_I64 (by omega)) w hvw hl)
  obtain ⟨N, hN⟩ : ∃ N, N = Gd.get L at_ k := ⟨_, rfl⟩
  obtain ⟨g, hg⟩ : ∃ g, g = Gd.getB L at_ k := ⟨_, rfl⟩
  rw [← hN, ← hg] at HGt
  have hNn : (((Gd.get L at_ k).toNat : Nat) : Int) = N := by rw [← hN]; exact Int.toNat_of_nonneg (by rw [hN]; exact Gd.get_ge L at_ k)
  rw [hNn]
  have x1 := cell_of_row w _ 0 _ _ _ h.cb
  have x2 := cell_of_row w _ 0 _ _ _ h.ca
  have y2 := frozen_of_row w _ 0 _ _ h.ca
  have hk8 : (k : Int) ≤ 8 := by rcases hk with rfl | rfl | rfl | rfl <;> omega
  have ha : (at_ : Int) ≤ 1000000 := by omega
  have hfin : Hid (RdG w0 v rb ab (at_ + k) (w.setCell ⟨ab, 0, none⟩ (.int .i64 ((at_ : Int) + k))) ∧ Only (fun j => j = ab) w (w.setCell ⟨ab, 0, none⟩ (.int .i64 ((at_ : Int) + k)))) := Lib.hid (by
    rw [show ((at_ : Int) + k) = ((at_ + k : Nat) : Int) by omega]
    exact ⟨h.step _, only_setCell _ _ _ rfl⟩)
  obtain ⟨n0, hn0⟩ : ∃ n0, n0 = w0.heap.size := ⟨_, rfl⟩
  rw [← hn0] at x1 ⊢
  clear hvw hN hNn hg hn0 h hat
  go_enter Tryz.func107, Tryz.ntmps107
  go_wp2_with fail
  refine HGt.out.mono ?_
  rintro e w1 ⟨rfl, rfl⟩
  clear HGt
  go_wp2
  go_ret
  exact ⟨rfl, hfin.out⟩

theorem Tryz.sizeSlot : (Tryz.prog.info? 48).map (fun i => i.size) = some 6 := by kernel_rfl
theorem slotC_one (s : Gd.Slot) : (slotC s).all (·.oneCell') = true := all_oneCell_toArray (intC_one [s.e, s.h, s.r, s.ke, s.ki, s.w])

set_option maxHeartbeats 16000000 in
set_option maxRecDepth 100000 in
theorem readslot_any (L : List UInt8) (hlen : L.length = 64) (v : Value) (B0 : Nat) (w : World) (hv : OwnB w B0 v L) :
    Calls Tryz.prog 55 #[v] w fun e w' => Below w.heap.size w w' ∧ ((Gd.isSlot L ∧ e = .returned (.tuple #[slotV (Gd.rawS L), .int .i64 0])) ∨ (¬ Gd.isSlot L ∧ ∃ E : Int, E ≠ 0 ∧ e = .returned (.tuple #[slotV ⟨0, 0, 0, 0, 0, 0⟩, .int .i64 E]))) := by
  obtain ⟨b, c, rfl, hlc, -, hbl, hcell⟩ := hv.lies (by intro e; rw [e] at hlen; simp at hlen)
  rw [hlen] at hlc ⊢
  have HO := Lib.hid fun (W : World) (hW : Below w.heap.size w W) => opened_any b c L hlen hlc W (Nat.lt_of_lt_of_le hbl hW.size) (fun j x hx => (hW.cell (p := ⟨b, j, none⟩) hbl).trans (hcell j x hx))
  have hby64 := bytesAt_part (c := c) hbl hcell 64 (by omega)
  rw [List.take_of_length_le (by omega)] at hby64
  have HS : Hid (Gd.isSlot L → Gd.get L 60 4 = Gd.crc (L.take 60)) := Lib.hid fun h => by
    rw [h.2]
    exact Gd.slotB_sum _
  have HI : Hid (Gd.isSlot L ↔ ((Gd.rawS L).May ∧ Gd.slotB (Gd.rawS L) = L)) := Lib.hid ⟨fun h => ⟨h.1, h.2.symm⟩, fun h => ⟨h.1, h.2.symm⟩⟩
  have hlL : L.length ≤ 1000000 := by omega
  obtain ⟨vv, hvv⟩ : ∃ vv : Value, vv = .slice (some ⟨b, 0, none⟩) 64 c := ⟨_, rfl⟩
  rw [← hvv] at hby64
  obtain ⟨q0, hq0⟩ : ∃ q, q = (Gd.get L (0 : Nat) 4).toNat := ⟨_, rfl⟩
  obtain ⟨q1, hq1⟩ : ∃ q, q = (Gd.get L (4 : Nat) 4).toNat := ⟨_, rfl⟩
  obtain ⟨q2, hq2⟩ : ∃ q, q = (Gd.get L (8 : Nat) 8).toNat := ⟨_, rfl⟩
  obtain ⟨q3, hq3⟩ : ∃ q, q = (Gd.get L (16 : Nat) 1).toNat := ⟨_, rfl⟩
  obtain ⟨q4, hq4⟩ : ∃ q, q = (Gd.get L (17 : Nat) 1).toNat := ⟨_, rfl⟩
  obtain ⟨q5, hq5⟩ : ∃ q, q = (Gd.get L (18 : Nat) 8).toNat := ⟨_, rfl⟩
  have hraw : Gd.rawS L = ⟨q0, q1, q2, q3, q4, q5⟩ := by rw [hq0, hq1, hq2, hq3, hq4, hq5]; rfl
  rw [hraw] at HI ⊢
  obtain ⟨W, hW⟩ : ∃ W, W = (w.alloc (.cells #[.slice (some ⟨b, 0, none⟩) 64 c] 22)).alloc (.cells #[.int .i64 0, .int .i64 0, .int .i64 0, .int .i64 0, .int .i64 0, .int .i64 0] 48) := ⟨_, rfl⟩
  have hbW : Below w.heap.size w W := by rw [hW]; exact ((Below.refl _ _).alloc (Nat.le_refl _) _).alloc (by simp) _
  have hcbW : CellsAt W w.heap.size 22 #[vv] := by rw [hW, hvv]; exact CellsAt.alloc (heap_alloc_new w _) _
  obtain ⟨rb, hrb⟩ : ∃ rb, rb = w.heap.size + 1 := ⟨_, rfl⟩
  have hcrW : W.heap[rb]? = some (.cells (slotC ⟨0, 0, 0, 0, 0, 0⟩) 48 (0, 0)) := by
    have := heap_alloc_new (w.alloc (.cells #[.slice (some ⟨b, 0, none⟩) 64 c] 22)) (.cells #[.int .i64 0, .int .i64 0, .int .i64 0, .int .i64 0, .int .i64 0, .int .i64 0] 48)
    rw [World.size_alloc] at this
    rw [hW, hrb]
    exact this
  obtain ⟨n0, hn0⟩ : ∃ n0, n0 = w.heap.size := ⟨_, rfl⟩
  have HN0 : Hid (∀ ab U, RdG w vv rb ab 0 U → Calls Tryz.prog 107 #[.int .i64 4, .pointer (some ⟨n0, 0, none⟩), .pointer (some ⟨ab, 0, none⟩)] U fun e w' => e = .returned (.int .i64 q0) ∧ RdG w vv rb ab 4 w' ∧ Only (fun j => j = ab) U w') := Lib.hid fun ab U h => by
    rw [hq0, hn0]
    exact read1_gen L hby64 4 (Or.inr (Or.inr (Or.inl rfl))) U h hlL (by omega)
  have HN1 : Hid (∀ ab U, RdG w vv rb ab 4 U → Calls Tryz.prog 107 #[.int .i64 4, .pointer (some ⟨n0, 0, none⟩), .pointer (some ⟨ab, 0, none⟩)] U fun e w' => e = .returned (.int .i64 q1) ∧ RdG w vv rb ab 8 w' ∧ Only (fun j => j = ab) U w') := Lib.hid fun ab U h => by
    rw [hq1, hn0]
    exact read1_gen L hby64 4 (Or.inr (Or.inr (Or.inl rfl))) U h hlL (by omega)
  have HN2 : Hid (∀ ab U, RdG w vv rb ab 8 U → Calls Tryz.prog 107 #[.int .i64 8, .pointer (some ⟨n0, 0, none⟩), .pointer (some ⟨ab, 0, none⟩)] U fun e w' => e = .returned (.int .i64 q2) ∧ RdG w vv rb ab 16 w' ∧ Only (fun j => j = ab) U w') := Lib.hid fun ab U h => by
    rw [hq2, hn0]
    exact read1_gen L hby64 8 (Or.inr (Or.inr (Or.inr rfl))) U h hlL (by omega)
  have HN3 : Hid (∀ ab U, RdG w vv rb ab 16 U → Calls Tryz.prog 107 #[.int .i64 1, .pointer (some ⟨n0, 0, none⟩), .pointer (some ⟨ab, 0, none⟩)] U fun e w' => e = .returned (.int .i64 q3) ∧ RdG w vv rb ab 17 w' ∧ Only (fun j => j = ab) U w') := Lib.hid fun ab U h => by
    rw [hq3, hn0]
    exact read1_gen L hby64 1 (Or.inl rfl) U h hlL (by omega)
  have HN4 : Hid (∀ ab U, RdG w vv rb ab 17 U → Calls Tryz.prog 107 #[.int .i64 1, .pointer (some ⟨n0, 0, none⟩), .pointer (some ⟨ab, 0, none⟩)] U fun e w' => e = .returned (.int .i64 q4) ∧ RdG w vv rb ab 18 w' ∧ Only (fun j => j = ab) U w') := Lib.hid fun ab U h => by
    rw [hq4, hn0]
    exact read1_gen L hby64 1 (Or.inl rfl) U h hlL (by omega)
  have HN5 : Hid (∀ ab U, RdG w vv rb ab 18 U → Calls Tryz.prog 107 #[.int .i64 8, .pointer (some ⟨n0, 0, none⟩), .pointer (some ⟨ab, 0, none⟩)] U fun e w' => e = .returned (.int .i64 q5) ∧ RdG w vv rb ab 26 w' ∧ Only (fun j => j = ab) U w') := Lib.hid fun ab U h => by
    rw [hq5, hn0]
    exact read1_gen L hby64 8 (Or.inr (Or.inr (Or.inr rfl))) U h hlL (by omega)
  have HBw := Lib.hid hbW
  have Hcb := Lib.hid hcbW
  have Hcr := Lib.hid hcrW
  have Hrb := Lib.hid (And.intro hrb hn0)
  have HBy := Lib.hid hby64
  have hOW := HO.out W hbW
  have HOW := Lib.hid hOW
  have Hvv := Lib.hid hvv
  have HW := Lib.hid hW.symm
  have hmf : ∀ (fn : Fn) (first cap : Array Value) (w : World), (Instr.makeFunc fn first cap).run Tryz.prog w = .ok (.func fn first cap) w := fun _ _ _ _ => rfl
  have x0 := cell_of_row W _ 0 _ _ _ hcbW
  rw [hvv] at x0
  rw [← hn0] at x0
  clear hn0 hlc hbl hcell hlen hv hq0 hq1 hq2 hq3 hq4 hq5 hraw hbW hcbW hcrW hrb hby64 hOW HO hW hlL hvv
  go_enter Tryz.func55, Tryz.ntmps55
  go_upto_region 1 with fail
  rw [HW.out, ← Hrb.out.2, show n0 + 1 = rb by have := Hrb.out; omega]
  go_wp2_with fail
  refine HOW.out.mono ?_
  rintro e w1 ⟨hb1, hor⟩
  have HB1 := Lib.hid hb1
  clear hb1 HOW
  rcases hor with ⟨hsum, rfl⟩ | ⟨hsum, E, hE, rfl⟩
  · clear hsum
    obtain ⟨hn1, hn2⟩ := Hrb.out
    have hcb1 : CellsAt w1 n0 22 #[vv] := by rw [hn2]; exact (HB1.out.block _ Hcb.out.lt).trans Hcb.out
    have y0 := cell_of_row w1 _ 0 _ _ _ hcb1
    have z0 := frozen_of_row w1 _ 0 _ _ hcb1
    obtain ⟨w2, hw2⟩ : ∃ u, u = w1.setCell ⟨n0, 0, none⟩ (.slice (some ⟨b, 0, none⟩) 64 c) := ⟨_, rfl⟩
    have hcb2 : CellsAt w2 n0 22 #[vv] := by rw [hw2, Hvv.out]; exact Go.heap_setCell_same _ _ 0 _ _ _ hcb1
    have hcr1 : w1.heap[rb]? = some (.cells (slotC ⟨0, 0, 0, 0, 0, 0⟩) 48 (0, 0)) := (HB1.out.block _ (lt_get Hcr.out)).trans Hcr.out
    have hcr2 : w2.heap[rb]? = some (.cells (slotC ⟨0, 0, 0, 0, 0, 0⟩) 48 (0, 0)) := by rw [hw2]; exact (Go.heap_setCell_other _ _ _ _ (by simp; omega)).trans hcr1
    have hb2 : Below w.heap.size w w2 := by rw [hw2]; exact (HBw.out.trans (HB1.out.mono HBw.out.size)).setCell (show w.heap.size ≤ n0 by omega) _
    obtain ⟨w3, hw3⟩ : ∃ u, u = w2.alloc (.cells #[.int .i64 0] 3) := ⟨_, rfl⟩
    obtain ⟨ab, hab⟩ : ∃ ab, ab = w2.heap.size := ⟨_, rfl⟩
    have HR3 : Hid (RdG w vv rb ab 0 w3) := Lib.hid (by
      have h1 := lt_get hcr2
      refine ⟨by rw [hw3]; exact hb2.alloc hb2.size _, ?_, ?_, ?_, by omega, by omega, by omega⟩
      · rw [hw3, ← hn2]; exact CellsAt.alloc hcb2 _
      · rw [hw3, hab]; exact heap_alloc_new _ _
      · rw [hw3]; exact CellsAt.alloc hcr2 _)
    have Hw2 := Lib.hid hw2.symm
    have Hw3 := Lib.hid hw3.symm
    have Hab := Lib.hid hab.symm
    clear hn1 hn2 hcb1 hw2 hcb2 hcr1 hcr2 hb2 hw3 hab
    go_upto_region 2 with fail
    rw [Hw2.out]
    clear x0 y0 z0
    go_upto_region 6 with fail
    rw [Hab.out, Hw3.out]
    go_wp2_with fail
    refine (HN0.out ab w3 HR3.out).mono ?_
    rintro e w4 ⟨rfl, hR4, hO4⟩
    obtain ⟨wa, hwa⟩ : ∃ u, u = w4.alloc (.cells #[.int .i64 q0, .int .i64 0, .int .i64 0, .int .i64 0, .int .i64 0, .int .i64 0] 48) := ⟨_, rfl⟩
    obtain ⟨ib, hib⟩ : ∃ ib, ib = w4.heap.size := ⟨_, rfl⟩
    have HI0 : Hid (wa.heap[ib]? = some (.cells (slotC ⟨q0, 0, 0, 0, 0, 0⟩) 48 (0, 0))) := Lib.hid (by rw [hwa, hib]; exact heap_alloc_new _ _)
    have HL0 : Hid (ab < ib) := Lib.hid (by rw [hib]; exact hR4.ca.lt)
    have HR0 : Hid (RdG w vv rb ab 4 wa) := Lib.hid (hR4.apart (ib := ib) HL0.out (by rw [hwa]; exact below_only ((Below.refl _ w4).alloc (Nat.le_refl _) _) _))
    have Hwa := Lib.hid hwa.symm
    have Hib := Lib.hid hib.symm
    clear hR4 hO4 hwa hib
    go_upto_region 7 with fail
    rw [Hib.out, Hwa.out]
    go_wp2_with fail
    refine (HN1.out ab _ HR0.out).mono ?_
    rintro e u1 ⟨rfl, hR, hO⟩
    have hs : u1.heap[ib]? = some (.cells (slotC ⟨q0, 0, 0, 0, 0, 0⟩) 48 (0, 0)) := (hO.block ib (lt_get HI0.out) (by have := HL0.out; omega)).trans HI0.out
    have c1 := cell_of_row u1 ib 1 _ _ _ hs
    have f1 := frozen_of_row u1 ib 1 _ _ hs
    obtain ⟨v1, hv1⟩ : ∃ u, u = u1.setCell ⟨ib, 1, none⟩ (.int .i64 q1) := ⟨_, rfl⟩
    have HI1 : Hid (v1.heap[ib]? = some (.cells (slotC ⟨q0, q1, 0, 0, 0, 0⟩) 48 (0, 0))) := Lib.hid (by rw [hv1]; exact Go.heap_setCell_same _ _ 1 _ _ _ hs)
    have HR1 : Hid (RdG w vv rb ab 8 v1) := Lib.hid (hR.apart (ib := ib) HL0.out (by rw [hv1]; exact only_setCell _ _ _ rfl))
    have Hv1 := Lib.hid hv1.symm
    clear hR hO hs hv1
    go_upto_region 8 with fail
    rw [Hv1.out]
    clear c1 f1
    go_wp2_with fail
    refine (HN2.out ab _ HR1.out).mono ?_
    rintro e u2 ⟨rfl, hR, hO⟩
    have hs : u2.heap[ib]? = some (.cells (slotC ⟨q0, q1, 0, 0, 0, 0⟩) 48 (0, 0)) := (hO.block ib (lt_get HI1.out) (by have := HL0.out; omega)).trans HI1.out
    have c2 := cell_of_row u2 ib 2 _ _ _ hs
    have f2 := frozen_of_row u2 ib 2 _ _ hs
    obtain ⟨v2, hv2⟩ : ∃ u, u = u2.setCell ⟨ib, 2, none⟩ (.int .i64 q2) := ⟨_, rfl⟩
    have HI2 : Hid (v2.heap[ib]? = some (.cells (slotC ⟨q0, q1, q2, 0, 0, 0⟩) 48 (0, 0))) := Lib.hid (by rw [hv2]; exact Go.heap_setCell_same _ _ 2 _ _ _ hs)
    have HR2 : Hid (RdG w vv rb ab 16 v2) := Lib.hid (hR.apart (ib := ib) HL0.out (by rw [hv2]; exact only_setCell _ _ _ rfl))
    have Hv2 := Lib.hid hv2.symm
    clear hR hO hs hv2
    go_upto_region 9 with fail
    rw [Hv2.out]
    clear c2 f2
    go_wp2_with fail
    refine (HN3.out ab _ HR2.out).mono ?_
    rintro e u3 ⟨rfl, hR, hO⟩
    have hs : u3.heap[ib]? = some (.cells (slotC ⟨q0, q1, q2, 0, 0, 0⟩) 48 (0, 0)) := (hO.block ib (lt_get HI2.out) (by have := HL0.out; omega)).trans HI2.out
    have c3 := cell_of_row u3 ib 3 _ _ _ hs
    have f3 := frozen_of_row u3 ib 3 _ _ hs
    obtain ⟨v3, hv3⟩ : ∃ u, u = u3.setCell ⟨ib, 3, none⟩ (.int .i64 q3) := ⟨_, rfl⟩
    have HI3 : Hid (v3.heap[ib]? = some (.cells (slotC ⟨q0, q1, q2, q3, 0, 0⟩) 48 (0, 0))) := Lib.hid (by rw [hv3]; exact Go.heap_setCell_same _ _ 3 _ _ _ hs)
    have HR3 : Hid (RdG w vv rb ab 17 v3) := Lib.hid (hR.apart (ib := ib) HL0.out (by rw [hv3]; exact only_setCell _ _ _ rfl))
    have Hv3 := Lib.hid hv3.symm
    clear hR hO hs hv3
    go_upto_region 10 with fail
    rw [Hv3.out]
    clear c3 f3
    go_wp2_with fail
    refine (HN4.out ab _ HR3.out).mono ?_
    rintro e u4 ⟨rfl, hR, hO⟩
    have hs : u4.heap[ib]? = some (.cells (slotC ⟨q0, q1, q2, q3, 0, 0⟩) 48 (0, 0)) := (hO.block ib (lt_get HI3.out) (by have := HL0.out; omega)).trans HI3.out
    have c4 := cell_of_row u4 ib 4 _ _ _ hs
    have f4 := frozen_of_row u4 ib 4 _ _ hs
    obtain ⟨v4, hv4⟩ : ∃ u, u = u4.setCell ⟨ib, 4, none⟩ (.int .i64 q4) := ⟨_, rfl⟩
    have HI4 : Hid (v4.heap[ib]? = some (.cells (slotC ⟨q0, q1, q2, q3, q4, 0⟩) 48 (0, 0))) := Lib.hid (by rw [hv4]; exact Go.heap_setCell_same _ _ 4 _ _ _ hs)
    have HR4 : Hid (RdG w vv rb ab 18 v4) := Lib.hid (hR.apart (ib := ib) HL0.out (by rw [hv4]; exact only_setCell _ _ _ rfl))
    have Hv4 := Lib.hid hv4.symm
    clear hR hO hs hv4
    go_upto_region 11 with fail
    rw [Hv4.out]
    clear c4 f4
    go_wp2_with fail
    refine (HN5.out ab _ HR4.out).mono ?_
    rintro e u5 ⟨rfl, hR, hO⟩
    have hs : u5.heap[ib]? = some (.cells (slotC ⟨q0, q1, q2, q3, q4, 0⟩) 48 (0, 0)) := (hO.block ib (lt_get HI4.out) (by have := HL0.out; omega)).trans HI4.out
    have c5 := cell_of_row u5 ib 5 _ _ _ hs
    have f5 := frozen_of_row u5 ib 5 _ _ hs
    obtain ⟨v5, hv5⟩ : ∃ u, u = u5.setCell ⟨ib, 5, none⟩ (.int .i64 q5) := ⟨_, rfl⟩
    have HI5 : Hid (v5.heap[ib]? = some (.cells (slotC ⟨q0, q1, q2, q3, q4, q5⟩) 48 (0, 0))) := Lib.hid (by rw [hv5]; exact Go.heap_setCell_same _ _ 5 _ _ _ hs)
    have HR5 : Hid (RdG w vv rb ab 26 v5) := Lib.hid (hR.apart (ib := ib) HL0.out (by rw [hv5]; exact only_setCell _ _ _ rfl))
    have Hv5 := Lib.hid hv5.symm
    clear hR hO hs hv5
    go_upto_region 12 with fail
    rw [Hv5.out]
    clear c5 f5
    by_cases hmay : (⟨q0, q1, q2, q3, q4, q5⟩ : Gd.Slot).May
    · have HPu := Lib.hid (putslot_any ⟨q0, q1, q2, q3, q4, q5⟩ hmay v5)
      unfold slotV at HPu
      have Hmay := Lib.hid hmay
      clear hmay
      go_wp2_with (refine wpList_load_row rfl 48 _ rfl ib rfl 48 (slotC ⟨q0, q1, q2, q3, q4, q5⟩) (0, 0) _ HI5.out Tryz.underlying48 rfl Tryz.sizeSlot ?_)
      refine HPu.out.mono ?_
      rintro e w8 ⟨v8, rfl, ho8, hb8⟩
      have HB8 : Hid (Below w.heap.size w w8) := Lib.hid (HR5.out.below.trans (hb8.mono HR5.out.below.size))
      have HEq := Lib.hid (bequal_any v8 vv (Gd.slotB ⟨q0, q1, q2, q3, q4, q5⟩) L w8 ho8.at_ (HBy.out.keep HB8.out))
      have HR8 := Lib.hid ((hb8.block _ (lt_get HR5.out.cr)).trans HR5.out.cr)
      have HI8 := Lib.hid ((hb8.block _ (lt_get HI5.out)).trans HI5.out)
      have x8 := cell_of_row w8 _ 0 _ _ _ ((hb8.block _ HR5.out.cb.lt).trans HR5.out.cb)
      rw [← Hrb.out.2] at x8
      clear ho8 hb8 HPu
      by_cases he : Gd.slotB ⟨q0, q1, q2, q3, q4, q5⟩ = L
      · rw [decide_eq_true he] at HEq
        have He := Lib.hid he
        clear he
        go_wp2_with (first | (go_at_call 102; with_reducible refine HEq.out.mono ?_; rintro e w9 ⟨rfl, rfl⟩) | (refine wpList_load_row rfl 48 _ rfl ib rfl 48 (slotC ⟨q0, q1, q2, q3, q4, q5⟩) (0, 0) _ HI8.out Tryz.underlying48 rfl Tryz.sizeSlot ?_) | (refine wpList_store_mid rfl 48 _ _ rfl rb 0 (slotC ⟨q0, q1, q2, q3, q4, q5⟩) rfl rfl (there_at HR8.out rfl) Tryz.sizeSlot (slotC_one _) ?_; obtain ⟨hbw, hbg⟩ := whole_at HR8.out (vs := (slotC ⟨q0, q1, q2, q3, q4, q5⟩).toList) (B := w.heap.size) rfl (by have := Hrb.out; omega); generalize (World.setCells _ _ _ _) = wf at hbw hbg ⊢))
        refine bodyPost_ret (results_row_tmp rfl _ _ rb 48 (slotC ⟨q0, q1, q2, q3, q4, q5⟩) (0, 0) _ rfl hbg Tryz.underlying48 rfl Tryz.sizeSlot) rfl ?_
        exact ⟨HB8.out.trans hbw, Or.inl ⟨HI.out.2 ⟨Hmay.out, He.out⟩, rfl⟩⟩
      · rw [decide_eq_false he] at HEq
        have He := Lib.hid he
        clear he
        go_wp2_with (first | (go_at_call 102; with_reducible refine HEq.out.mono ?_; rintro e w9 ⟨rfl, rfl⟩) | (refine wpList_store_mid rfl 48 _ _ rfl rb 0 (slotC ⟨0, 0, 0, 0, 0, 0⟩) rfl rfl (there_at HR8.out rfl) Tryz.sizeSlot (slotC_one _) ?_; obtain ⟨hbw, hbg⟩ := whole_at HR8.out (vs := (slotC ⟨0, 0, 0, 0, 0, 0⟩).toList) (B := w.heap.size) rfl (by have := Hrb.out; omega); generalize (World.setCells _ _ _ _) = wf at hbw hbg ⊢))
        refine bodyPost_ret (results_row_tmp rfl _ _ rb 48 (slotC ⟨0, 0, 0, 0, 0, 0⟩) (0, 0) _ rfl hbg Tryz.underlying48 rfl Tryz.sizeSlot) rfl ?_
        exact ⟨HB8.out.trans hbw, Or.inr ⟨fun h => He.out (HI.out.1 h).2, _, by decide, rfl⟩⟩
    · have HPu := Lib.hid (putslot_bad ⟨q0, q1, q2, q3, q4, q5⟩ hmay v5)
      unfold slotV at HPu
      have Hmay := Lib.hid hmay
      clear hmay
      go_wp2_with (refine wpList_load_row rfl 48 _ rfl ib rfl 48 (slotC ⟨q0, q1, q2, q3, q4, q5⟩) (0, 0) _ HI5.out Tryz.underlying48 rfl Tryz.sizeSlot ?_)
      refine HPu.out.mono ?_
      rintro e w8 ⟨rfl, hb8⟩
      have HB8 : Hid (Below w.heap.size w w8) := Lib.hid (HR5.out.below.trans (hb8.mono HR5.out.below.size))
      have HR8 := Lib.hid ((hb8.block _ (lt_get HR5.out.cr)).trans HR5.out.cr)
      clear hb8 HPu
      go_wp2_with (refine wpList_store_mid rfl 48 _ _ rfl rb 0 (slotC ⟨0, 0, 0, 0, 0, 0⟩) rfl rfl (there_at HR8.out rfl) Tryz.sizeSlot (slotC_one _) ?_; obtain ⟨hbw, hbg⟩ := whole_at HR8.out (vs := (slotC ⟨0, 0, 0, 0, 0, 0⟩).toList) (B := w.heap.size) rfl (by have := Hrb.out; omega); generalize (World.setCells _ _ _ _) = wf at hbw hbg ⊢)
      refine bodyPost_ret (results_row_tmp rfl _ _ rb 48 (slotC ⟨0, 0, 0, 0, 0, 0⟩) (0, 0) _ rfl hbg Tryz.underlying48 rfl Tryz.sizeSlot) rfl ?_
      exact ⟨HB8.out.trans hbw, Or.inr ⟨fun h => Hmay.out (HI.out.1 h).1, _, by decide, rfl⟩⟩
  · have Hs := Lib.hid hsum
    have hE1 : ¬ E = 0 := hE
    have hsb : (E != 0) = true := by simp [hE1]
    have HE := Lib.hid hE
    obtain ⟨hn1, hn2⟩ := Hrb.out
    have hcb1 : CellsAt w1 n0 22 #[vv] := by rw [hn2]; exact (HB1.out.block _ Hcb.out.lt).trans Hcb.out
    have y0 := cell_of_row w1 _ 0 _ _ _ hcb1
    have z0 := frozen_of_row w1 _ 0 _ _ hcb1
    obtain ⟨w2, hw2⟩ : ∃ u, u = w1.setCell ⟨n0, 0, none⟩ (.slice none 0 0) := ⟨_, rfl⟩
    have hcr1 : w1.heap[rb]? = some (.cells (slotC ⟨0, 0, 0, 0, 0, 0⟩) 48 (0, 0)) := (HB1.out.block _ (lt_get Hcr.out)).trans Hcr.out
    have HR8 : Hid (w2.heap[rb]? = some (.cells (slotC ⟨0, 0, 0, 0, 0, 0⟩) 48 (0, 0))) := Lib.hid (by rw [hw2]; exact (Go.heap_setCell_other _ _ _ _ (by simp; omega)).trans hcr1)
    have HB8 : Hid (Below w.heap.size w w2) := Lib.hid (by rw [hw2]; exact (HBw.out.trans (HB1.out.mono HBw.out.size)).setCell (show w.heap.size ≤ n0 by omega) _)
    have Hw2 := Lib.hid hw2.symm
    clear hE hE1 hsum hn1 hn2 hcb1 hw2 hcr1
    go_upto_region 2 with fail
    rw [Hw2.out]
    clear x0 y0 z0
    go_wp2_with (refine wpList_store_mid rfl 48 _ _ rfl rb 0 (slotC ⟨0, 0, 0, 0, 0, 0⟩) rfl rfl (there_at HR8.out rfl) Tryz.sizeSlot (slotC_one _) ?_; obtain ⟨hbw, hbg⟩ := whole_at HR8.out (vs := (slotC ⟨0, 0, 0, 0, 0, 0⟩).toList) (B := w.heap.size) rfl (by have := Hrb.out; omega); generalize (World.setCells _ _ _ _) = wf at hbw hbg ⊢)
    refine bodyPost_ret (results_row_tmp rfl _ _ rb 48 (slotC ⟨0, 0, 0, 0, 0, 0⟩) (0, 0) _ rfl hbg Tryz.underlying48 rfl Tryz.sizeSlot) rfl ?_
    exact ⟨HB8.out.trans hbw, Or.inr ⟨fun h => Hs.out (HS.out h), E, HE.out, rfl⟩⟩

end Go.Proofs.YtccpdkjonepoiaaGreatDoor

/- Walks: a volume's parts. -/
namespace Go.Proofs.YtccpdkjonepoiaaGreatDoor
open Go.RowKit

attribute [local go_sem] Oper.semAt_some

set_option maxHeartbeats 8000000 in
set_option maxRecDepth 100000 in
theorem vpart_some [MemNo] {x t c K : Nat} {S : List UInt8} {P : List Gd.Pa} {F : Nat → Prop} (k m : Int) (p : Gd.Pt) (w : World) (h : MetaF x t S P c K w F) (hp : Gd.ptAt k m = some p) :
    Calls Tryz.prog 54 #[.agg #[.pointer (some ⟨t, 0, none⟩)], .int .i64 k, .int .i64 m] w (Loads w (Gd.part (Gd.view S P) p.a p.s)) := by
  obtain ⟨w0, hw0⟩ : ∃ u, u = w.alloc (.cells #[.pointer (some ⟨t, 0, none⟩)] 76) := ⟨_, rfl⟩
  have hb0 : Below w.heap.size w w0 := by rw [hw0]; exact (Below.refl _ _).alloc (Nat.le_refl _) _
  obtain ⟨x0, hx0⟩ : ∃ x0, x0 = w.heap.size := ⟨_, rfl⟩
  have hxc : CellsAt w0 x0 76 #[.pointer (some ⟨t, 0, none⟩)] := by rw [hw0, hx0]; exact heap_alloc_new _ _
  have HF := Lib.hid (find_any5 k m w0)
  rw [hp] at HF
  have hpi := ptAt_in hp
  have H := Lib.hid h
  have Hxc := Lib.hid hxc
  have HB0 := Lib.hid hb0
  have Hw0 := Lib.hid hw0.symm
  have Hx0 := Lib.hid hx0.symm
  clear h hp hb0 hxc hw0 hx0
  go_enter Tryz.func54, Tryz.ntmps54
  go_upto_region 1 with fail
  rw [Hw0.out, Hx0.out]
  go_wp2_with fail
  refine HF.out.mono ?_
  rintro e w1 ⟨rfl, hb1⟩
  unfold ptO ptV
  have hn := heap_alloc_new w1 (.cells (ptC p) 139)
  have hba := (Below.refl w1.heap.size w1).alloc (Nat.le_refl _) (.cells (ptC p) 139)
  obtain ⟨w2, hw2⟩ : ∃ u, u = w1.alloc (.cells (ptC p) 139) := ⟨_, rfl⟩
  rw [← hw2] at hn hba
  have hb2 : Below w0.heap.size w0 w2 := hb1.trans (hba.mono hb1.size)
  obtain ⟨pb, hpb⟩ : ∃ pb, pb = w1.heap.size := ⟨_, rfl⟩
  rw [← hpb] at hn
  have hdr : Below w0.heap.size w0 w2 := hb2
  have hdw : Below w.heap.size w w2 := HB0.out.trans (hdr.mono HB0.out.size)
  have H2 := H.out.below hdw
  have hx : CellsAt w2 x0 76 #[.pointer (some ⟨t, 0, none⟩)] := (hdr.block x0 Hxc.out.lt).trans Hxc.out
  have hnd : w2.heap[pb]? = some (.cells (ptC p) 139 (0, 0)) := hn
  have hs0 : w2.cell? ⟨x0, 0, none⟩ = some (.pointer (some ⟨t, 0, none⟩)) ∧ w2.cell? ⟨pb, 2, none⟩ = some (.int .i64 p.a) ∧ w2.cell? ⟨pb, 3, none⟩ = some (.int .i64 p.s) := ⟨cell_of_row _ x0 0 _ _ _ hx, cell_of_row _ pb 2 _ _ _ hnd, cell_of_row _ pb 3 _ _ _ hnd⟩
  have HLd := Lib.hid (tload_any p.a p.s w2 H2.txn (by have := H2.len; omega) (by have := H2.len; omega) (by omega))
  have HTr : Hid (∀ W, Below w2.heap.size w2 W → W.cell? ⟨x0, 0, none⟩ = some (.pointer (some ⟨t, 0, none⟩)) ∧ W.cell? ⟨pb, 2, none⟩ = some (.int .i64 p.a) ∧ W.cell? ⟨pb, 3, none⟩ = some (.int .i64 p.s)) := Lib.hid fun W hW => ⟨(hW.cell (p := ⟨x0, 0, none⟩) hx.lt).trans hs0.1, (hW.cell (p := ⟨pb, 2, none⟩) (lt_get hnd)).trans hs0.2.1, (hW.cell (p := ⟨pb, 3, none⟩) (lt_get hnd)).trans hs0.2.2⟩
  have HD := Lib.hid hdw
  have Hpb := Lib.hid hpb.symm
  have Hw2 := Lib.hid hw2.symm
  unfold ptC at Hw2
  clear hb1 HF hn hba hw2 hb2 hpb hdr hdw H2 hx hnd hpi
  go_upto_region 4 with fail
  rw [Hw2.out, Hpb.out]
  obtain ⟨x1, x2, x3⟩ := hs0
  clear HTr
  go_wp2_with fail
  refine HLd.out.mono ?_
  rintro e w3 ⟨v3, rfl, ho3, hb3⟩
  have HO3 := Lib.hid ho3
  have HB3 := Lib.hid hb3
  clear ho3 hb3 x1 x2 x3
  go_wp2
  go_ret2
  exact ⟨v3, rfl, HO3.out.mono HD.out.size, HD.out.trans (HB3.out.mono HD.out.size)⟩

end Go.Proofs.YtccpdkjonepoiaaGreatDoor

/- Walks: a volume's slots and its head, of any bytes. -/
namespace Go.Proofs.YtccpdkjonepoiaaGreatDoor
open Go.RowKit

attribute [local go_sem] Oper.semAt_some

/-- a volume's object -/
def VolAt (w : World) (o t x f : Nat) : Prop := w.heap[o]? = some (.cells #[.pointer (some ⟨t, 0, none⟩), .pointer (some ⟨x, 0, none⟩), .pointer (some ⟨f, 0, none⟩)] 79 (0, 0))
theorem Tryz.sizeStore : (Tryz.prog.info? 76).map (fun i => i.size) = some 1 := by kernel_rfl

set_option maxHeartbeats 8000000 in
set_option maxRecDepth 100000 in
theorem vcommits_gen [MemNo] {o f x t c K : Nat} {S : List UInt8} {P : List Gd.Pa} {F : Nat → Prop} (w : World) (h : MetaF x t S P c K w F) (hv : VolAt w o t x f) :
    Calls Tryz.prog 30 #[.pointer (some ⟨o, 0, none⟩)] w fun e w' => Below w.heap.size w w' ∧ ((Gd.isHead (Gd.part (Gd.view S P) 0 64) ∧ e = .returned (.int .i64 (Gd.get (Gd.part (Gd.view S P) 0 64) 8 8))) ∨ (¬ Gd.isHead (Gd.part (Gd.view S P) 0 64) ∧ e = .returned (.int .i64 0))) := by
  have HPa := Lib.hid (vpart_some 1 0 ⟨1, 0, 0, 64⟩ w h rfl)
  dsimp only at HPa
  have hl : (Gd.part (Gd.view S P) 0 64).length = 64 := Gd.part_length (by rw [h.view_len]; omega)
  have Hl := Lib.hid hl
  have Hv := Lib.hid hv
  have hvr : w.heap[o]? = some (.cells #[.pointer (some ⟨t, 0, none⟩), .pointer (some ⟨x, 0, none⟩), .pointer (some ⟨f, 0, none⟩)] 79 (0, 0)) := hv
  obtain ⟨c0, c1, c2⟩ := cell2 hvr
  have hrow : w.rangeAt o 0 [.pointer (some ⟨t, 0, none⟩)] := fun j v hj => by
    match j, hj with
    | 0, hj => cases hj; exact c0
    | j + 1, hj => simp at hj
  clear h hl hv hvr
  go_enter Tryz.func30, Tryz.ntmps30
  go_wp2_with (refine wpList_load_mid rfl 76 _ rfl o 0 rfl [.pointer (some ⟨t, 0, none⟩)] _ hrow Tryz.underlying76 rfl Tryz.sizeStore ?_)
  refine HPa.out.mono ?_
  rintro e w1 ⟨v1, rfl, ho1, hb1⟩
  have HRh := Lib.hid (readhead_any _ Hl.out v1 _ w1 ho1)
  have HB1 := Lib.hid hb1
  clear ho1 hb1 HPa c0 c1 c2 hrow
  go_wp2_with fail
  refine HRh.out.mono ?_
  rintro e w2 ⟨hb2, hor⟩
  have HB2 := Lib.hid (HB1.out.trans (hb2.mono HB1.out.size))
  clear hb2 HRh
  rcases hor with ⟨hh, rfl⟩ | ⟨hh, E, hE, rfl⟩
  · have Hh := Lib.hid hh
    clear hh
    go_wp2
    go_ret
    exact ⟨HB2.out, Or.inl ⟨Hh.out, rfl⟩⟩
  · have Hh := Lib.hid hh
    clear hh hE
    go_wp2
    go_ret
    exact ⟨HB2.out, Or.inr ⟨Hh.out, rfl⟩⟩

set_option maxHeartbeats 8000000 in
set_option maxRecDepth 100000 in
theorem vslot_gen [MemNo] {o f x t c K : Nat} {S : List UInt8} {P : List Gd.Pa} {F : Nat → Prop} (k a : Nat) (w : World) (h : MetaF x t S P c K w F) (hv : VolAt w o t x f) (hp : Gd.ptAt 2 k = some ⟨2, k, a, 64⟩) :
    Calls Tryz.prog 17 #[.pointer (some ⟨o, 0, none⟩), .int .i64 k] w fun e w' => Below w.heap.size w w' ∧ ((Gd.isSlot (Gd.part (Gd.view S P) a 64) ∧ e = .returned (.tuple #[slotV (Gd.rawS (Gd.part (Gd.view S P) a 64)), .int .i64 0])) ∨ (¬ Gd.isSlot (Gd.part (Gd.view S P) a 64) ∧ ∃ E : Int, E ≠ 0 ∧ e = .returned (.tuple #[slotV ⟨0, 0, 0, 0, 0, 0⟩, .int .i64 E]))) := by
  have hpi := ptAt_in hp
  dsimp only at hpi
  have hl : (Gd.part (Gd.view S P) a 64).length = 64 := Gd.part_length (by rw [h.view_len]; omega)
  obtain ⟨L, hL⟩ : ∃ L, L = Gd.part (Gd.view S P) a 64 := ⟨_, rfl⟩
  obtain ⟨w0, hw0⟩ : ∃ u, u = w.alloc (.cells #[.int .i64 0, .int .i64 0, .int .i64 0, .int .i64 0, .int .i64 0, .int .i64 0] 48) := ⟨_, rfl⟩
  have hb0 : Below w.heap.size w w0 := by rw [hw0]; exact (Below.refl _ _).alloc (Nat.le_refl _) _
  obtain ⟨rb, hrb⟩ : ∃ rb, rb = w.heap.size := ⟨_, rfl⟩
  have hr0 : w0.heap[rb]? = some (.cells (slotC ⟨0, 0, 0, 0, 0, 0⟩) 48 (0, 0)) := by rw [hw0, hrb]; exact heap_alloc_new _ _
  have HPa := Lib.hid (vpart_some 2 k ⟨2, k, a, 64⟩ w0 (h.below hb0) hp)
  dsimp only at HPa
  rw [← hL] at HPa hl ⊢
  have Hl := Lib.hid hl
  have hvr : w0.heap[o]? = some (.cells #[.pointer (some ⟨t, 0, none⟩), .pointer (some ⟨x, 0, none⟩), .pointer (some ⟨f, 0, none⟩)] 79 (0, 0)) := (hb0.block o (lt_get hv)).trans hv
  obtain ⟨c0, c1, c2⟩ := cell2 hvr
  have hrow : w0.rangeAt o 0 [.pointer (some ⟨t, 0, none⟩)] := fun j v hj => by
    match j, hj with
    | 0, hj => cases hj; exact c0
    | j + 1, hj => simp at hj
  have HR0 := Lib.hid hr0
  have HB0 := Lib.hid hb0
  have Hw0 := Lib.hid hw0.symm
  have Hrb := Lib.hid hrb.symm
  clear h hl hv hvr hp hpi hL hw0 hb0 hr0 hrb
  go_enter Tryz.func17, Tryz.ntmps17
  go_upto_region 1 with fail
  rw [Hw0.out, Hrb.out]
  go_wp2_with (refine wpList_load_mid rfl 76 _ rfl o 0 rfl [.pointer (some ⟨t, 0, none⟩)] _ hrow Tryz.underlying76 rfl Tryz.sizeStore ?_)
  refine HPa.out.mono ?_
  rintro e w1 ⟨v1, rfl, ho1, hb1⟩
  have HRh := Lib.hid (readslot_any _ Hl.out v1 _ w1 ho1)
  have HB1 := Lib.hid (HB0.out.trans (hb1.mono HB0.out.size))
  have HR1 := Lib.hid ((hb1.block _ (lt_get HR0.out)).trans HR0.out)
  clear ho1 hb1 HPa c0 c1 c2 hrow
  go_wp2_with fail
  refine HRh.out.mono ?_
  rintro e w2 ⟨hb2, hor⟩
  have HB2 := Lib.hid (HB1.out.trans (hb2.mono HB1.out.size))
  have HR2 := Lib.hid ((hb2.block _ (lt_get HR1.out)).trans HR1.out)
  clear hb2 HRh
  rcases hor with ⟨hh, rfl⟩ | ⟨hh, E, hE, rfl⟩
  · obtain ⟨s, hs⟩ : ∃ s, s = Gd.rawS L := ⟨_, rfl⟩
    rw [← hs]
    have Hh := Lib.hid (And.intro hh hs.symm)
    clear hh hs
    unfold slotV
    obtain ⟨w3, hw3⟩ : ∃ u, u = (w2.alloc (.cells #[.int .i64 0, .int .i64 0, .int .i64 0, .int .i64 0, .int .i64 0, .int .i64 0] 48)) := ⟨_, rfl⟩
    have hb3 : Below w2.heap.size w2 w3 := by rw [hw3]; exact (Below.refl _ _).alloc (Nat.le_refl _) _
    have hn3 : w3.heap[w2.heap.size]? = some (.cells (slotC ⟨0, 0, 0, 0, 0, 0⟩) 48 (0, 0)) := by rw [hw3]; exact heap_alloc_new _ _
    obtain ⟨b, hbe⟩ : ∃ b, b = w2.heap.size := ⟨_, rfl⟩
    rw [← hbe] at hn3
    have HN3 := Lib.hid hn3
    have HR3 := Lib.hid ((hb3.block rb (lt_get HR2.out)).trans HR2.out)
    have HB3 := Lib.hid (HB2.out.trans (hb3.mono HB2.out.size))
    have Hbe := Lib.hid hbe.symm
    have HW3 := Lib.hid hw3.symm
    have HbB : Hid (rb < b) := Lib.hid (by rw [hbe]; exact lt_get HR2.out)
    clear hw3 hb3 hn3 hbe
    go_wp2_with (first | (refine wpList_store_mid rfl 48 _ _ rfl b 0 (slotC s) (by rw [← Hbe.out]; rfl) rfl (by rw [show w2.alloc (.cells #[.int .i64 0, .int .i64 0, .int .i64 0, .int .i64 0, .int .i64 0, .int .i64 0] 48) = w3 from HW3.out]; exact there_at HN3.out rfl) Tryz.sizeSlot (slotC_one _) ?_; rw [HW3.out]; obtain ⟨hbw, hbg⟩ := whole_at HN3.out (vs := (slotC s).toList) (B := b) rfl (Nat.le_refl b); generalize (World.setCells _ _ _ _) = w4 at hbw hbg ⊢; have HG4 := Lib.hid hbg; have HR4 := Lib.hid ((hbw.block rb HbB.out).trans HR3.out); have HB4 := Lib.hid (HB3.out.trans (hbw.mono (show w.heap.size ≤ b by have := HbB.out; have := Hrb.out; omega))); clear hbw hbg) | (refine wpList_load_row rfl 48 _ rfl b (by rw [← Hbe.out]; rfl) 48 (slotC s) (0, 0) _ HG4.out Tryz.underlying48 rfl Tryz.sizeSlot ?_) | (refine wpList_store_mid rfl 48 _ _ rfl rb 0 (slotC s) rfl rfl (there_at HR4.out rfl) Tryz.sizeSlot (slotC_one _) ?_; obtain ⟨hbw, hbg⟩ := whole_at HR4.out (vs := (slotC s).toList) (B := rb) rfl (Nat.le_refl rb); generalize (World.setCells _ _ _ _) = wf at hbw hbg ⊢))
    refine bodyPost_ret (results_row_tmp rfl _ _ rb 48 (slotC s) (0, 0) _ rfl hbg Tryz.underlying48 rfl Tryz.sizeSlot) rfl ?_
    refine ⟨HB4.out.trans (by rw [Hrb.out]; exact hbw), Or.inl ⟨Hh.out.1, ?_⟩⟩
    rw [Hh.out.2]
    rfl
  · have Hh := Lib.hid hh
    have hE1 : ¬ E = 0 := hE
    have hsb : (E != 0) = true := by simp [hE1]
    clear hh hE hE1
    unfold slotV
    obtain ⟨w3, hw3⟩ : ∃ u, u = (w2.alloc (.cells #[.int .i64 0, .int .i64 0, .int .i64 0, .int .i64 0, .int .i64 0, .int .i64 0] 48)) := ⟨_, rfl⟩
    have hb3 : Below w2.heap.size w2 w3 := by rw [hw3]; exact (Below.refl _ _).alloc (Nat.le_refl _) _
    have hn3 : w3.heap[w2.heap.size]? = some (.cells (slotC ⟨0, 0, 0, 0, 0, 0⟩) 48 (0, 0)) := by rw [hw3]; exact heap_alloc_new _ _
    obtain ⟨b, hbe⟩ : ∃ b, b = w2.heap.size := ⟨_, rfl⟩
    rw [← hbe] at hn3
    have HN3 := Lib.hid hn3
    have HR3 := Lib.hid ((hb3.block rb (lt_get HR2.out)).trans HR2.out)
    have HB3 := Lib.hid (HB2.out.trans (hb3.mono HB2.out.size))
    have Hbe := Lib.hid hbe.symm
    have HW3 := Lib.hid hw3.symm
    have HbB : Hid (rb < b) := Lib.hid (by rw [hbe]; exact lt_get HR2.out)
    clear hw3 hb3 hn3 hbe
    go_wp2_with (first | (refine wpList_store_mid rfl 48 _ _ rfl b 0 (slotC ⟨0, 0, 0, 0, 0, 0⟩) (by rw [← Hbe.out]; rfl) rfl (by rw [show w2.alloc (.cells #[.int .i64 0, .int .i64 0, .int .i64 0, .int .i64 0, .int .i64 0, .int .i64 0] 48) = w3 from HW3.out]; exact there_at HN3.out rfl) Tryz.sizeSlot (slotC_one _) ?_; rw [HW3.out]; obtain ⟨hbw, hbg⟩ := whole_at HN3.out (vs := (slotC ⟨0, 0, 0, 0, 0, 0⟩).toList) (B := b) rfl (Nat.le_refl b); generalize (World.setCells _ _ _ _) = w4 at hbw hbg ⊢; have HG4 := Lib.hid hbg; have HR4 := Lib.hid ((hbw.block rb HbB.out).trans HR3.out); have HB4 := Lib.hid (HB3.out.trans (hbw.mono (show w.heap.size ≤ b by have := HbB.out; have := Hrb.out; omega))); clear hbw hbg) | (refine wpList_store_mid rfl 48 _ _ rfl rb 0 (slotC ⟨0, 0, 0, 0, 0, 0⟩) rfl rfl (there_at HR4.out rfl) Tryz.sizeSlot (slotC_one _) ?_; obtain ⟨hbw, hbg⟩ := whole_at HR4.out (vs := (slotC ⟨0, 0, 0, 0, 0, 0⟩).toList) (B := rb) rfl (Nat.le_refl rb); generalize (World.setCells _ _ _ _) = wf at hbw hbg ⊢))
    refine bodyPost_ret (results_row_tmp rfl _ _ rb 48 (slotC ⟨0, 0, 0, 0, 0, 0⟩) (0, 0) _ rfl hbg Tryz.underlying48 rfl Tryz.sizeSlot) rfl ?_
    exact ⟨HB4.out.trans (by rw [Hrb.out]; exact hbw), Or.inr ⟨Hh.out, _, by decide, rfl⟩⟩

end Go.Proofs.YtccpdkjonepoiaaGreatDoor

/- Walk: whether a volume is sound, of any bytes. -/
namespace Go.Proofs.YtccpdkjonepoiaaGreatDoor
open Go.RowKit

attribute [local go_sem] Oper.semAt_some

namespace Gd
def slotPt (k : Nat) : Option Pt := ptAt 2 (k : Int)
def isIno (V : List UInt8) (i : Nat) : Prop := ∃ y : Ino, y.Shape ∧ mayI y = true ∧ part V (inoAt i) 64 = inoB y
def isRoot (V : List UInt8) : Prop := ∃ y : Ino, y.Shape ∧ mayI y = true ∧ part V (inoAt 1) 64 = inoB y ∧ y.k = 2
/-- a volume that is sound -/
structure SoundV (V : List UInt8) : Prop where
  head : isHead (part V 0 64)
  slot : ∀ k, 1 ≤ k → k ≤ 8 → isSlot (part V (64 * k) 64)
  ino : ∀ i, 1 ≤ i → i ≤ 32 → isIno V i
  root : isRoot V
theorem ptAt_slotV {k : Nat} (h1 : 1 ≤ k) (h2 : k ≤ 8) : ptAt 2 (k : Int) = some ⟨2, k, 64 * k, 64⟩ := by
  have : ∀ k : Fin 8, ptAt 2 ((k.val + 1 : Nat) : Int) = some ⟨2, k.val + 1, 64 * (k.val + 1), 64⟩ := by decide +kernel
  have h := this ⟨k - 1, by omega⟩
  simp only [show k - 1 + 1 = k by omega] at h
  exact h
theorem inoB_k {y z : Ino} (hs : y.Shape) (hs' : z.Shape) (hm : mayI y = true) (hm' : mayI z = true) (h : inoB y = inoB z) (h2 : z.k = 2) : y.k = 2 := by
  have hz' := ino_bytes hs' hm' (by omega)
  by_cases hz : y.k = 0
  · exact absurd (by rw [← h]; unfold inoB; rw [if_pos hz]) hz'.ne
  · obtain ⟨b, hb, hk⟩ := (ino_bytes hs hm hz).k
    obtain ⟨b', hb', hk'⟩ := hz'.k
    rw [h, hb'] at hb
    cases hb
    omega
end Gd

set_option maxHeartbeats 16000000 in
set_option maxRecDepth 100000 in
theorem sound_gen [MemNo] {o f x t c K : Nat} {S : List UInt8} {P : List Gd.Pa} {F : Nat → Prop} (w : World) (h : MetaF x t S P c K w F) (hv : VolAt w o t x f) :
    Calls Tryz.prog 46 #[.pointer (some ⟨o, 0, none⟩)] w fun e w' => Below w.heap.size w w' ∧ ((Gd.SoundV (Gd.view S P) ∧ e = .returned (.bool true)) ∨ (¬ Gd.SoundV (Gd.view S P) ∧ e = .returned (.bool false))) := by
  have HPa := Lib.hid (vpart_some 1 0 ⟨1, 0, 0, 64⟩ w h rfl)
  dsimp only at HPa
  have Hl : Hid ((Gd.part (Gd.view S P) 0 64).length = 64) := Lib.hid (Gd.part_length (by rw [h.view_len]; omega))
  have HV : Hid ((Gd.view S P).length = 23168) := Lib.hid h.view_len
  have H := Lib.hid h
  have Hv := Lib.hid hv
  have HSl : Hid (∀ (k : Nat) (W : World), 1 ≤ k → k ≤ 8 → Below w.heap.size w W → Calls Tryz.prog 17 #[.pointer (some ⟨o, 0, none⟩), .int .i64 k] W fun e w' => ∃ (s : Gd.Slot) (E : Int), e = .returned (.tuple #[slotV s, .int .i64 E]) ∧ (E = 0 ↔ Gd.isSlot (Gd.part (Gd.view S P) (64 * k) 64)) ∧ Below W.heap.size W w') := Lib.hid fun k W h1 h2 hb => by
    refine (vslot_gen k (64 * k) W (h.below hb) ((hb.block o (lt_get hv)).trans hv) (Gd.ptAt_slotV h1 h2)).mono ?_
    rintro e w' ⟨hb', ⟨hs, rfl⟩ | ⟨hs, E, hE, rfl⟩⟩
    · exact ⟨_, 0, rfl, ⟨fun _ => hs, fun _ => rfl⟩, hb'⟩
    · exact ⟨_, E, rfl, ⟨fun e => absurd e hE, fun e => absurd e hs⟩, hb'⟩
  have HIn : Hid (∀ (i : Nat) (W : World), 1 ≤ i → i ≤ 32 → Below w.heap.size w W → Calls Tryz.prog 16 #[.pointer (some ⟨x, 0, none⟩), .int .i64 i] W fun e w' => ∃ (y : Gd.Ino) (E : Int), e = .returned (.tuple #[inoV y, .int .i64 E]) ∧ y.Shape ∧ (E = 0 → Gd.mayI y = true ∧ Gd.part (Gd.view S P) (Gd.inoAt i) 64 = Gd.inoB y) ∧ (¬ E = 0 → ¬ Gd.isIno (Gd.view S P) i) ∧ Below W.heap.size W w') := Lib.hid fun i W h1 h2 hb => by
    by_cases hi : Gd.isIno (Gd.view S P) i
    · obtain ⟨y, hs, hm, hp⟩ := hi
      refine (inode_good (i : Int) y W (h.below hb) (by omega) (by omega) hs hm hp).mono ?_
      rintro e w' ⟨rfl, hb'⟩
      exact ⟨y, 0, rfl, hs, fun _ => ⟨hm, hp⟩, fun e => absurd rfl e, hb'⟩
    · refine (inode_wrong (i : Int) W (h.below hb) (by omega) (by omega) (Gd.part_length (by have := h.view_len; unfold Gd.inoAt; omega)) (fun y a b c => hi ⟨y, a, b, c⟩)).mono ?_
      rintro e w' ⟨⟨E, hE, rfl⟩, hb'⟩
      exact ⟨_, E, rfl, ⟨rfl, rfl⟩, fun e => absurd e hE, fun _ => hi, hb'⟩
  have hvr : w.heap[o]? = some (.cells #[.pointer (some ⟨t, 0, none⟩), .pointer (some ⟨x, 0, none⟩), .pointer (some ⟨f, 0, none⟩)] 79 (0, 0)) := hv
  obtain ⟨c0, c1, c2⟩ := cell2 hvr
  have hrow : w.rangeAt o 0 [.pointer (some ⟨t, 0, none⟩)] := fun j v hj => by
    match j, hj with
    | 0, hj => cases hj; exact c0
    | j + 1, hj => simp at hj
  have HX : Hid (∀ W, Below w.heap.size w W → W.cell? ⟨o, 1, none⟩ = some (.pointer (some ⟨x, 0, none⟩))) := Lib.hid fun W hb => (hb.cell (p := ⟨o, 1, none⟩) (lt_get hvr)).trans c1
  clear h hv hvr
  go_enter Tryz.func46, Tryz.ntmps46
  go_wp2_with (refine wpList_load_mid rfl 76 _ rfl o 0 rfl [.pointer (some ⟨t, 0, none⟩)] _ hrow Tryz.underlying76 rfl Tryz.sizeStore ?_)
  refine HPa.out.mono ?_
  rintro e w1 ⟨v1, rfl, ho1, hb1⟩
  have HRh := Lib.hid (readhead_any _ Hl.out v1 _ w1 ho1)
  have HB1 := Lib.hid hb1
  clear ho1 hb1 HPa c0 c1 c2 hrow
  go_wp2_with fail
  refine HRh.out.mono ?_
  rintro e w2 ⟨hb2, hor⟩
  have HB2 := Lib.hid (HB1.out.trans (hb2.mono HB1.out.size))
  clear hb2 HRh
  rcases hor with ⟨hh, rfl⟩ | ⟨hh, E, hE, rfl⟩
  rotate_left
  · have Hh := Lib.hid hh
    have hE1 : ¬ E = 0 := hE
    have hsb : (E != 0) = true := by simp [hE1]
    clear hh hE hE1
    go_wp2
    go_ret
    exact ⟨HB2.out, Or.inr ⟨fun h => Hh.out h.head, rfl⟩⟩
  have Hh := Lib.hid hh
  clear hh
  go_upto_region 6 with fail
  go_loopw [28] (fun z wr => ∃ i : Nat, z = .int .i64 i ∧ i ≤ 8 ∧ Hid (∀ k, 1 ≤ k → k ≤ i → Gd.isSlot (Gd.part (Gd.view S P) (64 * k) 64)) ∧ Hid (Below w.heap.size w wr)) (fun z _ => 8 - (intOf z).toNat)
  case atStart => exact ⟨0, rfl, by omega, Lib.hid fun k h1 h2 => by omega, HB2⟩
  case round =>
    obtain ⟨i, rfl, hi, HSk, HBr⟩ := hrel
    by_cases hlt : i < 8
    · have hlt' : (i : Int) < 8 := by omega
      have hi0 : (0 : Int) ≤ i := by omega
      have HC := Lib.hid (HSl.out (i + 1) wr (by omega) (by omega) HBr.out)
      rw [show ((i + 1 : Nat) : Int) = (i : Int) + 1 by omega] at HC
      clear hlt
      go_wp2_with fail
      refine HC.out.mono ?_
      rintro e w2 ⟨s, E, rfl, hE, hb2⟩
      have HE := Lib.hid hE
      have HB2 := Lib.hid (HBr.out.trans (hb2.mono HBr.out.size))
      clear hE hb2 HC
      unfold slotV
      obtain ⟨w3, hw3⟩ : ∃ u, u = (w2.alloc (.cells #[.int .i64 0, .int .i64 0, .int .i64 0, .int .i64 0, .int .i64 0, .int .i64 0] 48)) := ⟨_, rfl⟩
      have hb3 : Below w2.heap.size w2 w3 := by rw [hw3]; exact (Below.refl _ _).alloc (Nat.le_refl _) _
      have hn3 : w3.heap[w2.heap.size]? = some (.cells (slotC ⟨0, 0, 0, 0, 0, 0⟩) 48 (0, 0)) := by rw [hw3]; exact heap_alloc_new _ _
      obtain ⟨b, hbe⟩ : ∃ b, b = w2.heap.size := ⟨_, rfl⟩
      rw [← hbe] at hn3
      have HN3 := Lib.hid hn3
      have HB3 := Lib.hid (HB2.out.trans (hb3.mono HB2.out.size))
      have Hbe := Lib.hid hbe.symm
      have HW3 := Lib.hid hw3.symm
      clear hw3 hb3 hn3 hbe
      by_cases hE0 : E = 0
      · have Hok := Lib.hid (HE.out.1 hE0)
        subst hE0
        go_wp2_with (refine wpList_store_mid rfl 48 _ _ rfl b 0 (slotC s) (by rw [← Hbe.out]; rfl) rfl (by rw [show w2.alloc (.cells #[.int .i64 0, .int .i64 0, .int .i64 0, .int .i64 0, .int .i64 0, .int .i64 0] 48) = w3 from HW3.out]; exact there_at HN3.out (by first | rfl | (rw [rfl]; rfl))) (by first | exact Tryz.sizeSlot | (rw [rfl]; exact Tryz.sizeIno)) (by first | exact slotC_one _ | exact inoC_one _) ?_; rw [HW3.out]; obtain ⟨hbw, hbg⟩ := whole_at HN3.out (vs := ((slotC s)).toList) (B := b) (by first | rfl | (rw [Array.length_toList, rfl]; rfl)) (Nat.le_refl b); generalize (World.setCells _ _ _ _) = w4 at hbw hbg ⊢; have HG4 := Lib.hid hbg; have HB4 := Lib.hid (HB3.out.trans (hbw.mono (show w.heap.size ≤ b by have := HB2.out.size; have := Hbe.out; omega))); clear hbw hbg)
        go_roundw
        case rel =>
          refine ⟨i + 1, by go_num, by omega, Lib.hid fun k h1 h2 => ?_, HB4⟩
          by_cases hk : k = i + 1
          · subst hk; exact Hok.out
          · exact HSk.out k h1 (by omega)
        case measure => simp [intOf]; omega
      · have hsb : (E != 0) = true := by simp [hE0]
        have Hno := Lib.hid fun h => hE0 (HE.out.2 h)
        clear hE0
        go_wp2_with (refine wpList_store_mid rfl 48 _ _ rfl b 0 (slotC s) (by rw [← Hbe.out]; rfl) rfl (by rw [show w2.alloc (.cells #[.int .i64 0, .int .i64 0, .int .i64 0, .int .i64 0, .int .i64 0, .int .i64 0] 48) = w3 from HW3.out]; exact there_at HN3.out (by first | rfl | (rw [rfl]; rfl))) (by first | exact Tryz.sizeSlot | (rw [rfl]; exact Tryz.sizeIno)) (by first | exact slotC_one _ | exact inoC_one _) ?_; rw [HW3.out]; obtain ⟨hbw, hbg⟩ := whole_at HN3.out (vs := ((slotC s)).toList) (B := b) (by first | rfl | (rw [Array.length_toList, rfl]; rfl)) (Nat.le_refl b); generalize (World.setCells _ _ _ _) = w4 at hbw hbg ⊢; have HG4 := Lib.hid hbg; have HB4 := Lib.hid (HB3.out.trans (hbw.mono (show w.heap.size ≤ b by have := HB2.out.size; have := Hbe.out; omega))); clear hbw hbg)
        go_ret
        exact ⟨HB4.out, Or.inr ⟨fun h => Hno.out (h.slot (i + 1) (by omega) (by omega)), rfl⟩⟩
    · obtain rfl : i = 8 := by omega
      clear hlt
      go_upto_region 13 with fail
      clear hi
      have HSk8 := Lib.hid HSk.out
      obtain ⟨w5, rfl⟩ : ∃ v, v = wr := ⟨_, rfl⟩
      have HB5 := HBr
      clear HBr HSk
      go_loopw [41] (fun z wr => ∃ i : Nat, z = .int .i64 i ∧ i ≤ 32 ∧ Hid ((∀ k, 1 ≤ k → k ≤ i → Gd.isIno (Gd.view S P) k) ∧ (1 ≤ i → Gd.isRoot (Gd.view S P))) ∧ Hid (Below w.heap.size w wr)) (fun z _ => 32 - (intOf z).toNat)
      case atStart => exact ⟨0, rfl, by omega, Lib.hid ⟨fun k h1 h2 => by omega, fun h => by omega⟩, HB5⟩
      case round =>
        obtain ⟨i, rfl, hi, HIk, HBr⟩ := hrel
        by_cases hlt : i < 32
        · have hlt' : (i : Int) < 32 := by omega
          have hi0 : (0 : Int) ≤ i := by omega
          have HC := Lib.hid (HIn.out (i + 1) wr (by omega) (by omega) HBr.out)
          rw [show ((i + 1 : Nat) : Int) = (i : Int) + 1 by omega] at HC
          have x1 := HX.out wr HBr.out
          clear hlt
          go_wp2_with fail
          refine HC.out.mono ?_
          rintro e w2 ⟨y, E, rfl, hs, hE, hEn, hb2⟩
          have HE := Lib.hid (And.intro hE hEn)
          have HSh := Lib.hid hs
          have HS := Lib.hid (inoC_size hs)
          have HB2 := Lib.hid (HBr.out.trans (hb2.mono HBr.out.size))
          clear hE hEn hs hb2 HC x1
          unfold inoV
          obtain ⟨w3, hw3⟩ : ∃ u, u = (w2.alloc (.cells #[.int .i64 0, .int .i64 0, .int .i64 0, .int .i64 0, .int .i64 0, .int .i64 0, .int .i64 0, .int .i64 0, .int .i64 0, .int .i64 0, .int .i64 0, .int .i64 0, .int .i64 0, .int .i64 0, .int .i64 0] 40)) := ⟨_, rfl⟩
          have hb3 : Below w2.heap.size w2 w3 := by rw [hw3]; exact (Below.refl _ _).alloc (Nat.le_refl _) _
          have hn3 : w3.heap[w2.heap.size]? = some (.cells zIno 40 (0, 0)) := by rw [hw3]; exact heap_alloc_new _ _
          obtain ⟨b, hbe⟩ : ∃ b, b = w2.heap.size := ⟨_, rfl⟩
          rw [← hbe] at hn3
          have HN3 := Lib.hid hn3
          have HB3 := Lib.hid (HB2.out.trans (hb3.mono HB2.out.size))
          have Hbe := Lib.hid hbe.symm
          have HW3 := Lib.hid hw3.symm
          clear hw3 hb3 hn3 hbe
          go_upto_region 16 with (refine wpList_store_mid rfl 40 _ _ rfl b 0 (inoC y) (by rw [← Hbe.out]; rfl) rfl (by rw [show w2.alloc (.cells #[.int .i64 0, .int .i64 0, .int .i64 0, .int .i64 0, .int .i64 0, .int .i64 0, .int .i64 0, .int .i64 0, .int .i64 0, .int .i64 0, .int .i64 0, .int .i64 0, .int .i64 0, .int .i64 0, .int .i64 0] 40) = w3 from HW3.out]; exact there_at HN3.out (by first | rfl | (rw [HS.out]; rfl))) (by first | exact Tryz.sizeSlot | (rw [HS.out]; exact Tryz.sizeIno)) (by first | exact slotC_one _ | exact inoC_one _) ?_; rw [HW3.out]; obtain ⟨hbw, hbg⟩ := whole_at HN3.out (vs := ((inoC y)).toList) (B := b) (by first | rfl | (rw [Array.length_toList, HS.out]; rfl)) (Nat.le_refl b); generalize (World.setCells _ _ _ _) = w4 at hbw hbg ⊢; have HG4 := Lib.hid hbg; have HB4 := Lib.hid (HB3.out.trans (hbw.mono (show w.heap.size ≤ b by have := HB2.out.size; have := Hbe.out; omega))); clear hbw hbg)
          have x4 : w4.cell? ⟨w2.heap.size, 0, none⟩ = some (.int .i64 y.k) := by rw [Hbe.out]; exact (cell_of_row w4 b 0 _ _ _ HG4.out).trans (inoC_get rfl)
          by_cases hE0 : E = 0
          · obtain ⟨hm, hp⟩ := HE.out.1 hE0
            have Hmp := Lib.hid (And.intro hm hp)
            subst hE0
            clear hm hp
            by_cases hz : i = 0
            · subst hz
              by_cases hk : y.k = 2
              · have Hk := Lib.hid hk
                have hkb : (y.k != 2) = false := by simp [hk]
                clear hk
                go_wp2
                go_roundw
                case rel =>
                  refine ⟨_, _, _, _, _, ⟨0 + 1, by go_num, by omega, Lib.hid ⟨fun k h1 h2 => ?_, fun _ => ⟨y, HSh.out, Hmp.out.1, Hmp.out.2, Hk.out⟩⟩⟩, rfl, rfl, rfl, rfl, rfl⟩
                  obtain rfl : k = 1 := by omega
                  exact ⟨y, HSh.out, Hmp.out.1, Hmp.out.2⟩
                case measure => simp [intOf]
              · have Hk := Lib.hid hk
                have hkb : (y.k != 2) = true := by simp [hk]
                clear hk
                go_wp2
                go_ret
                refine ⟨HB4.out, Or.inr ⟨fun h => ?_, rfl⟩⟩
                obtain ⟨y', h1, h2, h3, h4⟩ := h.root
                exact Hk.out (Gd.inoB_k HSh.out h1 Hmp.out.1 h2 (Hmp.out.2.symm.trans h3) h4)
            · have hz1 : ¬ (i : Int) + 1 = 1 := by omega
              have hzb : ((i : Int) + 1 == 1) = false := by simp [hz1]
              have Hz := Lib.hid hz
              clear hz
              go_wp2
              go_roundw
              case rel =>
                refine ⟨_, _, _, _, _, ⟨i + 1, by go_num, by omega, Lib.hid ⟨fun k h1 h2 => ?_, fun _ => HIk.out.2 (by have := Hz.out; omega)⟩⟩, rfl, rfl, rfl, rfl, rfl⟩
                by_cases hk : k = i + 1
                · subst hk; exact ⟨y, HSh.out, Hmp.out.1, Hmp.out.2⟩
                · exact HIk.out.1 k h1 (by omega)
              case measure => simp [intOf]; omega
          · have hsb : (E != 0) = true := by simp [hE0]
            have Hno := Lib.hid (HE.out.2 hE0)
            clear hE0
            go_wp2
            go_ret
            exact ⟨HB4.out, Or.inr ⟨fun h => Hno.out (h.ino (i + 1) (by omega) (by omega)), rfl⟩⟩
        · obtain rfl : i = 32 := by omega
          clear hlt
          go_wp2
          go_ret
          exact ⟨HBr.out, Or.inl ⟨⟨Hh.out, HSk8.out, HIk.out.1, HIk.out.2 (by omega)⟩, rfl⟩⟩

end Go.Proofs.YtccpdkjonepoiaaGreatDoor

/- Walk: files.New. -/
namespace Go.Proofs.YtccpdkjonepoiaaGreatDoor
open Go.RowKit Go.Shelf

attribute [local go_sem] Oper.semAt_some

theorem fnew_any5 (t x : Nat) (w : World) : Calls Tryz.prog 89 #[.pointer (some ⟨t, 0, none⟩), .pointer (some ⟨x, 0, none⟩)] w fun e w' => e = .returned (.pointer (some ⟨w.heap.size, 0, none⟩)) ∧ w' = w.alloc (.cells #[.pointer (some ⟨t, 0, none⟩), .pointer (some ⟨x, 0, none⟩)] 182) := by
  go_enter Tryz.func89, Tryz.ntmps89
  go_wp2
  go_ret
  exact ⟨rfl, rfl⟩

end Go.Proofs.YtccpdkjonepoiaaGreatDoor

/- A volume's head and slots, in plain words. -/
namespace Go.Proofs.YtccpdkjonepoiaaGreatDoor
namespace Gd
theorem part_get? {S : List UInt8} {k n : Nat} (i : Nat) : (part S k n)[i]? = if i < n then S[k + i]? else none := by
  by_cases h : i < n
  · rw [if_pos h, part_get h]
  · rw [if_neg h]
    unfold part
    exact List.getElem?_eq_none (by rw [List.length_take]; omega)
theorem part_part {S : List UInt8} {k n a m : Nat} (h : a + m ≤ n) : part (part S k n) a m = part S (k + a) m := by
  apply List.ext_getElem?
  intro i
  rw [part_get?, part_get?, part_get?]
  by_cases hi : i < m
  · rw [if_pos hi, if_pos (show a + i < n by omega), if_pos hi, Nat.add_assoc]
  · rw [if_neg hi, if_neg hi]
/-- bytes put into a part -/
theorem part_splice_in {S b : List UInt8} {k n a : Nat} (hb : a + b.length ≤ n) (hn : k + n ≤ S.length) : part (splice S (k + a) b) k n = splice (part S k n) a b := by
  have hp : (part S k n).length = n := part_length hn
  apply List.ext_getElem?
  intro i
  rw [part_get?, splice_get (by omega), splice_get (by omega), part_get?]
  by_cases hi : i < n
  · rw [if_pos hi, if_pos hi]
    by_cases h1 : a ≤ i ∧ i < a + b.length
    · rw [if_pos (by omega), if_pos h1, show k + i - (k + a) = i - a by omega]
    · rw [if_neg (by omega), if_neg h1]
  · rw [if_neg hi, if_neg hi, if_neg (by omega)]
def Vol.setHead (M : Vol) (a : Nat) (b : List UInt8) : Vol := { M with head := splice M.head a b }
theorem Good.setHead {V : List UInt8} {M : Vol} (h : Good V M) {a : Nat} {b : List UInt8} (hb : a + b.length ≤ 576) : Good (splice V a b) (M.setHead a b) := by
  have hV := h.len
  have hf : a + b.length ≤ V.length := by omega
  refine ⟨by rw [splice_length hf]; exact hV, h.shape, h.may, fun j j1 j2 => ?_, h.mapl, ?_, h.blkl, fun n n1 n2 => ?_, ?_, ?_⟩
  · rw [part_splice_apart (by unfold inoAt; omega) hf (by unfold inoAt; omega)]
    exact h.ino j j1 j2
  · rw [part_splice_apart (by omega) hf (by omega)]
    exact h.map
  · rw [part_splice_apart (by unfold blkAt; omega) hf (by unfold blkAt; omega)]
    exact h.blk n n1 n2
  · show part _ 0 576 = splice M.head a b
    have := part_splice_in (S := V) (k := 0) hb (by omega)
    rw [Nat.zero_add] at this
    rw [this, h.head]
  · rw [part_splice_apart (by omega) hf (by omega)]
    exact h.logs
/-- what the head and the slots of a volume are -/
structure HeadIs (M : Vol) (n : Nat) (s : Nat → Slot) : Prop where
  len : M.head.length = 576
  few : n ≤ 1152921504606846976
  head : part M.head 0 64 = headB n
  may : ∀ k, 1 ≤ k → k ≤ 8 → (s k).May
  slot : ∀ k, 1 ≤ k → k ≤ 8 → part M.head (64 * k) 64 = slotB (s k)
theorem HeadIs.same {M N : Vol} {n : Nat} {s : Nat → Slot} (h : HeadIs M n s) (e : N.head = M.head) : HeadIs N n s :=
  ⟨by rw [e]; exact h.len, h.few, by rw [e]; exact h.head, h.may, fun k h1 h2 => by rw [e]; exact h.slot k h1 h2⟩
theorem HeadIs.commit {M : Vol} {n m : Nat} {s : Nat → Slot} (h : HeadIs M n s) (hm : m ≤ 1152921504606846976) : HeadIs (M.setHead 0 (headB m)) m s := by
  have hl := h.len
  have hb := headB_length m
  have hf : 0 + (headB m).length ≤ M.head.length := by omega
  refine ⟨(splice_length hf).trans hl, hm, ?_, h.may, fun k h1 h2 => ?_⟩
  · have := part_splice_same hf
    rw [hb] at this
    exact this
  · show part (splice M.head 0 (headB m)) _ _ = _
    rw [part_splice_apart (by omega) hf (by omega)]
    exact h.slot k h1 h2
def updS (s : Nat → Slot) (k : Nat) (x : Slot) (j : Nat) : Slot := if j = k then x else s j
theorem HeadIs.set {M : Vol} {n k : Nat} {s : Nat → Slot} {x : Slot} (h : HeadIs M n s) (k1 : 1 ≤ k) (k2 : k ≤ 8) (hx : x.May) : HeadIs (M.setHead (64 * k) (slotB x)) n (updS s k x) := by
  have hl := h.len
  have hb := slotB_length x
  have hf : 64 * k + (slotB x).length ≤ M.head.length := by omega
  refine ⟨(splice_length hf).trans hl, h.few, ?_, fun j h1 h2 => ?_, fun j h1 h2 => ?_⟩
  · show part (splice M.head (64 * k) (slotB x)) _ _ = _
    rw [part_splice_apart (by omega) hf (by omega)]
    exact h.head
  · unfold updS
    split
    · exact hx
    · exact h.may j h1 h2
  · unfold updS
    show part (splice M.head (64 * k) (slotB x)) _ _ = _
    by_cases e : j = k
    · subst e
      rw [if_pos rfl]
      have := part_splice_same hf
      rw [hb] at this
      exact this
    · rw [if_neg e, part_splice_apart (by omega) hf (by omega)]
      exact h.slot j h1 h2
/-- of a volume that was formatted -/
theorem HeadIs.fresh {Z : List UInt8} (hZ : Z.length = 23168) : HeadIs (freshV Z) 0 fun _ => slot0 := by
  have hfit : Fit Z.length fmtP := fmtP_fit (by omega)
  have hl : (view Z fmtP).length = 23168 := by rw [view_length hfit, hZ]
  have hlh := headB_length 0
  have hd : (freshV Z).head = part (view Z fmtP) 0 576 := by dsimp only [freshV]
  refine ⟨by rw [hd]; exact part_length (by rw [hl]; omega), by omega, ?_, fun _ _ _ => slot0_may, fun k h1 h2 => ?_⟩
  · rw [hd]
    rw [part_part (by omega)]
    have := view_at (p := (0, headB 0)) (P := []) (Q := fmtS 8 ++ [(576, List.replicate 16 0)] ++ [(inoAt 1, inoB rootI)] ++ fmtN 31) (S := Z) (by rw [List.nil_append]; simpa [fmtP, List.append_assoc] using hfit) fun q hq => by
      rw [hlh]
      simp only [List.mem_append, List.mem_singleton] at hq
      rcases hq with ((hq | rfl) | rfl) | hq
      · obtain ⟨c, hc, h | h⟩ := fmtS_mem hq <;> omega
      · left; show 0 + 64 ≤ 576; omega
      · left; show 0 + 64 ≤ inoAt 1; unfold inoAt; omega
      · obtain ⟨i, hi, h1, h2⟩ := fmtN_mem hq
        rw [h1]; unfold inoAt; omega
    rw [hlh] at this
    simpa [fmtP, List.append_assoc] using this
  · rw [hd]
    rw [part_part (by omega)]
    have hS : ∀ n c, c < n → ∃ A B, fmtS n = A ++ [(64 + 64 * c, slotB slot0)] ++ B ∧ ∀ q ∈ B, 64 + 64 * c + 64 ≤ q.1 := by
      intro n
      induction n with
      | zero => intro c hc; omega
      | succ n ih =>
        intro c hc
        rw [fmtS_succ]
        by_cases e : c = n
        · subst e
          refine ⟨fmtS c, [(6784 + 1024 * c, List.replicate 8 0)], rfl, fun q hq => ?_⟩
          rw [List.mem_singleton.1 hq]
          show 64 + 64 * c + 64 ≤ 6784 + 1024 * c
          omega
        · obtain ⟨A, B, h1, h2⟩ := ih c (by omega)
          refine ⟨A, B ++ [(64 + 64 * n, slotB slot0)] ++ [(6784 + 1024 * n, List.replicate 8 0)], by rw [h1]; simp [List.append_assoc], fun q hq => ?_⟩
          simp only [List.mem_append, List.mem_singleton] at hq
          rcases hq with (hq | rfl) | rfl
          · exact h2 q hq
          · show 64 + 64 * c + 64 ≤ 64 + 64 * n; omega
          · show 64 + 64 * c + 64 ≤ 6784 + 1024 * n; omega
    obtain ⟨A, B, hAB, hB⟩ := hS 8 (k - 1) (by omega)
    have hsl := slotB_length slot0
    have heq : fmtP = ([(0, headB 0)] ++ A) ++ [(64 + 64 * (k - 1), slotB slot0)] ++ (B ++ [(576, List.replicate 16 0)] ++ [(inoAt 1, inoB rootI)] ++ fmtN 31) := by
      unfold fmtP
      rw [hAB]
      simp only [List.append_assoc]
    have := view_at (p := (64 + 64 * (k - 1), slotB slot0)) (P := [(0, headB 0)] ++ A) (Q := B ++ [(576, List.replicate 16 0)] ++ [(inoAt 1, inoB rootI)] ++ fmtN 31) (S := Z) (by rw [← heq]; exact hfit) fun q hq => by
      rw [hsl]
      simp only [List.mem_append, List.mem_singleton] at hq
      rcases hq with ((hq | rfl) | rfl) | hq
      · exact Or.inl (hB q hq)
      · left; show 64 + 64 * (k - 1) + 64 ≤ 576; omega
      · left; show 64 + 64 * (k - 1) + 64 ≤ inoAt 1; unfold inoAt; omega
      · obtain ⟨i, hi, h1, h2⟩ := fmtN_mem hq
        rw [h1]; unfold inoAt; omega
    rw [← heq, hsl, show 64 + 64 * (k - 1) = 0 + 64 * k by omega] at this
    exact this
/-- a good volume with its head is sound -/
theorem HeadIs.sound {V : List UInt8} {M : Vol} {n : Nat} {s : Nat → Slot} (hh : HeadIs M n s) (h : Good V M) (hr : (M.ino 1).k = 2) : SoundV V := by
  have e : ∀ a m, a + m ≤ 576 → part V a m = part M.head a m := fun a m ham => by rw [← h.head, part_part ham, Nat.zero_add]
  refine ⟨?_, fun k h1 h2 => ?_, fun i h1 h2 => ⟨M.ino i, h.shape i h1 h2, h.may i h1 h2, h.ino i h1 h2⟩, ⟨M.ino 1, h.shape 1 (by omega) (by omega), h.may 1 (by omega) (by omega), h.ino 1 (by omega) (by omega), hr⟩⟩
  · rw [e 0 64 (by omega), hh.head]
    exact isHead_headB hh.few
  · rw [e (64 * k) 64 (by omega), hh.slot k h1 h2]
    exact isSlot_slotB (hh.may k h1 h2)
/-- a sound volume's model -/
theorem SoundV.good {V : List UInt8} (h : SoundV V) (hl : V.length = 23168) : ∃ M, Good V M ∧ (M.ino 1).k = 2 := by
  classical
  have H : ∀ i, ∃ y : Ino, (1 ≤ i ∧ i ≤ 32) → (y.Shape ∧ mayI y = true ∧ part V (inoAt i) 64 = inoB y) := fun i => by
    by_cases e : 1 ≤ i ∧ i ≤ 32
    · obtain ⟨y, hy⟩ := h.ino i e.1 e.2
      exact ⟨y, fun _ => hy⟩
    · exact ⟨noIno, fun h => absurd h e⟩
  refine ⟨⟨fun i => Classical.choose (H i), part V 576 16, fun n => part V (blkAt n) 64, part V 0 576, part V 6784 8192⟩, ⟨hl, fun i h1 h2 => ?_, fun i h1 h2 => ?_, fun i h1 h2 => ?_, part_length (by omega), rfl, fun n n1 n2 => part_length (by unfold blkAt; omega), fun _ _ _ => rfl, rfl, rfl⟩, ?_⟩
  · exact (Classical.choose_spec (H i) ⟨h1, h2⟩).1
  · exact (Classical.choose_spec (H i) ⟨h1, h2⟩).2.1
  · exact (Classical.choose_spec (H i) ⟨h1, h2⟩).2.2
  · show (Classical.choose (H 1)).k = 2
    obtain ⟨c1, c2, c3⟩ := Classical.choose_spec (H 1) ⟨by omega, by omega⟩
    obtain ⟨y, y1, y2, y3, y4⟩ := h.root
    exact inoB_k c1 y1 c2 y2 (c3.symm.trans y3) y4
end Gd
end Go.Proofs.YtccpdkjonepoiaaGreatDoor
