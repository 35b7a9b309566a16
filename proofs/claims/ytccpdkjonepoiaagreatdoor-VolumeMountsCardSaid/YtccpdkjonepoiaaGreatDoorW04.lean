/- Walk: layout.Size; and where a part lies. -/
import Derived.Test.YtccpdkjonepoiaaGreatDoorW03
import Derived.Test.YtccpdkjonepoiaaGreatDoorW02
import Derived.Test.YtccpdkjonepoiaaGreatDoorW00
import Derived.Test.YtccpdkjonepoiaaGreatDoorW01
import Derived.Deep.RegionWith
import Derived.StillTailTactics
set_option linter.unusedVariables false
set_option linter.unusedSimpArgs false
set_option linter.unusedSectionVars false
namespace Go.Proofs.YtccpdkjonepoiaaGreatDoor
open Go.RowKit Go.Shelf

attribute [local go_sem] Oper.semAt_some

namespace Gd
deriving instance DecidableEq for Pt
def ptAt (k m : Int) : Option Pt := (partAt k m).map fun x => ⟨k.toNat, m.toNat, x.1, x.2⟩
theorem findP_some : ∀ (k : Fin 8) (m : Fin 129), findP (k.val : Int) (m.val : Int) = ptAt (k.val : Int) (m.val : Int) := by decide +kernel
theorem parts_in : ∀ p ∈ partsL, p.k ≤ 7 ∧ p.n ≤ 128 := by decide +kernel
theorem findP_at (k m : Int) : findP k m = ptAt k m := by
  by_cases h : 0 ≤ k ∧ k ≤ 7 ∧ 0 ≤ m ∧ m ≤ 128
  · have := findP_some ⟨k.toNat, by omega⟩ ⟨m.toNat, by omega⟩
    rw [show ((⟨k.toNat, by omega⟩ : Fin 8).val : Int) = k by simp; omega, show ((⟨m.toNat, by omega⟩ : Fin 129).val : Int) = m by simp; omega] at this
    exact this
  · have e : findP k m = none := List.find?_eq_none.2 fun p hp => by
      have := parts_in p hp
      simp only [isP, Bool.and_eq_true, beq_iff_eq, not_and]
      intro h1 h2
      omega
    rw [e]
    unfold ptAt partAt
    symm
    rw [Option.map_eq_none_iff]
    split <;> (try split) <;> (try split) <;> (try split) <;> (try split) <;> (try split) <;> (try split) <;> (try split) <;> first | rfl | omega
theorem parts_small : ∀ p ∈ partsL, p.s ≤ 4096 := by decide +kernel
theorem parts_size : (partsL.map (fun p => p.s)).sum = 23168 := by decide +kernel
end Gd

def SizeIs (pre : List Gd.Pt) (v : Int) : Prop := (∀ p ∈ pre, p.s ≤ 4096) → v = ((pre.map fun p => p.s).sum : Nat) ∧ (pre.map fun p => p.s).sum ≤ pre.length * 4096

set_option maxRecDepth 100000 in
set_option maxHeartbeats 8000000 in
theorem size_in (F : Fence) (n : Nat) (hf : F.fn 82) (hf2 : F.fn 124) (hf3 : F.fn 158) (hro : F.round = none) (hn : 6 ≤ n) (w : World) :
    CallsIn F n Tryz.prog 82 #[] w fun e W' => e = .returned (.int .i64 23168) ∧ Below w.heap.size w W' := by
  have h1 : 1 ≤ n := by omega
  refine callsIn_of_wp_marks Tryz.func82 rfl hf ?_ hro
  simp only [Tryz.ntmps82, List.size_toArray, List.length_cons, List.length_nil, Nat.reduceAdd, Nat.reduceSub, Array.replicate_succ, Array.replicate_zero, List.push_toArray, List.append_toArray, List.nil_append, List.cons_append]
  gi_wp2
  obtain ⟨W0, hW0⟩ : ∃ W0, W0 = w.alloc (.cells #[.int .i64 0] 3) := ⟨_, rfl⟩
  have c0 : CellsAt W0 w.heap.size 3 #[.int .i64 0] := by rw [hW0]; exact heap_alloc_new w _
  have hB0 : Below w.heap.size w W0 := by rw [hW0]; exact (Below.refl _ w).alloc (Nat.le_refl _) _
  have hsz : W0.heap.size = w.heap.size + 1 := by rw [hW0]; simp
  rw [← hW0]
  clear hW0
  refine wpIn_rangeFunc_ownH hro h1 (gf := 124) (lb := #[]) rfl hf2 (enters_of Tryz.func124 (by kernel_rfl) rfl)
    (parts_stops F (n - 1) hf2 hf3 hro (by omega) W0.heap.size W0 (Nat.le_refl _)) (keepsC_t _) (keepsC_b _ (w := W0)) (Below.refl _ _) (fun _ => rfl)
    (fun pre W => (∃ v : Int, SizeIs pre v ∧ CellsAt W w.heap.size 3 #[.int .i64 v]) ∧ Below w.heap.size w W)
    (fun c pre W => False)
    ?o1 ?o2 ?o3
    (fun x a' W => ∃ Bx, w.heap.size + 1 ≤ Bx ∧ CellsAt W Bx 139 (ptC x) ∧ a' = { tmps := #[.int .i64 0, .pointer (some ⟨w.heap.size, 0, none⟩), .pointer (some ⟨Bx, 0, none⟩), ptV x, undef, undef, undef, undef, undef], defers := [] })
    ?o4 ?assign ?body ?done ?stop
  case o1 => exact OwnFrom.and (fun s X Y row ⟨v, h1, h2⟩ hg hr => ⟨v, h1, cellsAt_own _ _ (fun (_ : Unit) => #[Value.int .i64 v]) () X Y row h2 hg (fun r e => (hr r e).2)⟩) (ownFrom_below (Nat.le_refl _) (by omega))
  case o2 => exact fun c => ownFrom_pure _ _
  case o3 => exact ⟨⟨0, fun _ => ⟨rfl, Nat.le_refl _⟩, c0⟩, hB0⟩
  case o4 =>
    rintro x a' _ X Y row ⟨Bx, e1, e2, e3⟩ hg hr
    exact ⟨Bx, e1, cellsAt_own _ _ (fun (_ : Unit) => ptC x) () X Y row e2 hg (fun r e => (hr r e).2), e3⟩
  case assign =>
    rintro l pre ⟨pk, pn, pa, ps⟩ W K ⟨⟨v, hv, q0⟩, hB1⟩ hK
    have HK := Lib.hid hK
    have HP := Lib.hid (And.intro hv q0)
    have HB := Lib.hid hB1
    have hlt := hB1.size
    have hlt3 := q0.lt
    clear hK hv q0 hB1
    unfold ptV
    gi_wp2
    exact HK.out _ _ ((KeepsOthers.alloc _ _).from _) (keepsC_below _ ((Below.refl _ W).alloc (Nat.le_refl _) _)) ⟨⟨v, HP.out.1, HP.out.2.alloc _⟩, HB.out.alloc hlt _⟩ ⟨W.heap.size, by omega, heap_alloc_new W _, rfl⟩
  case body =>
    rintro l pre ⟨pk, pn, pa, ps⟩ a' W hl ⟨r, hr⟩ ⟨⟨v, hv, q0⟩, hB1⟩ ⟨Bx, hBx, bX, rfl⟩ hlt
    have HP := Lib.hid (And.intro hv q0)
    have HB := Lib.hid hB1
    have HL := Lib.hid hlt
    have x3 := cell_of_row W Bx 3 _ _ _ bX
    have y0 := cell_of_row W _ 0 _ _ _ q0
    have z0 := frozen_of_row W _ 0 _ _ q0
    unfold ptC at x3
    clear hl hr bX hv q0 hB1 hlt
    unfold ptV
    gi_wp2
    refine ⟨(KeepsOthers.setCell _ _ _).from _, fun k hk c t fr h => (Go.heap_setCell_other W ⟨w.heap.size, 0, none⟩ k _ (show k ≠ w.heap.size by omega)).trans h, ⟨_, fun hs => ?_, Go.heap_setCell_same W _ 0 _ _ _ HP.out.2⟩, HB.out.setCell (Nat.le_refl _) _⟩
    obtain ⟨e1, e2⟩ := HP.out.1 fun p hp => hs p (List.mem_append.2 (Or.inl hp))
    have e3 := hs ⟨pk, pn, pa, ps⟩ (List.mem_append.2 (Or.inr (List.mem_singleton.2 rfl)))
    have e4 := HL.out
    dsimp only at e3
    simp only [List.map_append, List.sum_append, List.map_cons, List.map_nil, List.sum_cons, List.sum_nil, Nat.add_zero, List.length_append, List.length_singleton]
    generalize (pre.map fun p => p.s).sum = S at *
    subst e1
    constructor
    · unfold wrap64
      omega
    · omega
  case done =>
    rintro D zs W hD rfl ⟨⟨v, hv, q0⟩, hB1⟩ hK
    have y0 := cell_of_row W _ 0 _ _ _ q0
    obtain rfl : v = 23168 := by rw [(hv Gd.parts_small).1, Gd.parts_size]; rfl
    have HQ := Lib.hid q0
    have HK := Lib.hid (And.intro hB1 hK)
    clear hv q0 hB1 hK
    gi_wp2
    have y0 : (W.putObj D (.deferred none)).cell? ⟨w.heap.size, 0, none⟩ = some (.int .i64 23168) := cell_of_row _ _ 0 _ _ _ ((World.putObj_heap_other (show w.heap.size ≠ D by omega)).trans HQ.out)
    refine ⟨by simp, .inl ⟨_, _, rfl, run_takeDeferred HK.out.2, ?_⟩⟩
    refine ⟨.int .i64 23168, ?_, rfl, HK.out.1.trans ?_⟩
    · simp [results, Tryz.f82, go_sem]
    · exact belowK_b (w := w) (Nat.le_refl _) _ D _ _ (by omega) HK.out.2 rfl rfl
  case stop =>
    rintro D c pre W hD hpre hF hK
    exact hF.elim

end Go.Proofs.YtccpdkjonepoiaaGreatDoor

/- Walks: the log: its end, keep, Clear. -/
namespace Go.Proofs.YtccpdkjonepoiaaGreatDoor
open Go.RowKit Go.Shelf

attribute [local go_sem] Oper.semAt_some

theorem le_get {N : Nat} (hN : N < 9223372036854775808) : Gd.get (Gd.le N 8) 0 8 = N := by
  have e : Gd.getN (Gd.le N 8) 0 8 = N := by
    unfold Gd.getN
    rw [List.drop_zero, List.take_of_length_le (by rw [Gd.le_length]; exact Nat.le_refl _)]
    exact Gd.unle_le 8 N (by omega)
  unfold Gd.get Gd.getB
  rw [Gd.le_length, show (0 : Int).toNat = 0 from rfl, e]
  simp
  omega

set_option maxHeartbeats 4000000 in
set_option maxRecDepth 100000 in
theorem end_any {g m K N : Nat} {S : List UInt8} {F : Nat → Prop} (hN : N ≤ 4088) (w : World) (hM : MemF m S K w F) (hL : LogAt w g m 2688 4096) (hS : S.length = 23168) (he : Gd.part S 2688 8 = Gd.le N 8) :
    Calls Tryz.prog 125 #[.pointer (some ⟨g, 0, none⟩)] w fun e w' => e = .returned (.int .i64 N) ∧ Below w.heap.size w w' := by
  have hbd := (Below.refl w.heap.size w).drew
  have HLd := Lib.hid (mload_any 2688 8 w.drew ((MemF.held m S K).below hM hbd) (by omega) (by omega))
  rw [he] at HLd
  obtain ⟨c0, c1, c2⟩ := cell2 hL
  have HLg : Hid (LogAt w.drew g m 2688 4096) := Lib.hid ((hbd.block g (lt_get hL)).trans hL)
  have HBd := Lib.hid hbd
  have HGg := Lib.hid (fun N (h : N < 9223372036854775808) => @le_get N h)
  clear hM hL hbd
  go_enter Tryz.func125, Tryz.ntmps125
  go_wp2
  go_region_with (go_at_call 18; refine HLd.out.mono ?_; rintro e w1 ⟨v, rfl, ho, hb⟩; have HO := Lib.hid ho; have HB := Lib.hid hb; clear ho hb)
  all_goals
    have HGt := Lib.hid (get_any v (Gd.le N 8) 0 8 (Or.inr (Or.inr (Or.inr rfl))) (nat_I64 (n := 0) (by omega)) w1 HO.out.at_ (by rw [Gd.le_length]; omega))
    rw [HGg.out N (by omega)] at HGt
    obtain ⟨_, _, d2⟩ := cell2 ((HB.out.block g (lt_get HLg.out)).trans HLg.out)
    have e1 : (N : Int) ≤ 4088 := by omega
    have HW : Hid (Below w.heap.size w w1) := Lib.hid (HBd.out.trans (HB.out.mono HBd.out.size))
    clear HLd HO HGg c0 c1 c2
    simp only [Exit.then]
    (first | (refine (by assumption : ∀ (a : Act) (w : World), _) _ _ ?_) | skip)
    go_wp2_with fail
    refine HGt.out.mono ?_
    rintro e w2 ⟨rfl, rfl⟩
    go_wp2
    go_ret
    exact ⟨rfl, HW.out⟩

end Go.Proofs.YtccpdkjonepoiaaGreatDoor

/- Walks: the log: keep, Clear. -/
namespace Go.Proofs.YtccpdkjonepoiaaGreatDoor
open Go.RowKit Go.Shelf

attribute [local go_sem] Oper.semAt_some

/-- the blocks of a memory that its calls may turn -/
def Mem3 (sb lb ab : Nat) (k : Nat) : Prop := k = sb ∨ k = lb ∨ k = ab
theorem LogAt.apart {w : World} {g m sb lb ab n K la ls : Nat} {S : List UInt8} (hL : LogAt w g m la ls) (h : MemAt w m sb lb ab n S K) : ¬ Mem3 sb lb ab g := by
  obtain ⟨k, D, _, ⟨es, ck, hm, _⟩, _⟩ := h.away
  obtain ⟨Z, hZ, hl⟩ := h.lasts
  have h2 := h.seen
  unfold LogAt at hL
  rintro (e | e | e)
  · rw [e, h2] at hL
    exact absurd (Obj.cells.inj (Option.some.inj hL)).2.1 (by decide)
  · rw [e, hl] at hL
    exact absurd (Obj.cells.inj (Option.some.inj hL)).2.1 (by decide)
  · rw [e, hm] at hL
    cases hL
theorem LogAt.keep {w w' : World} {g m la ls : Nat} {F : Nat → Prop} (h : LogAt w g m la ls) (hO : Only F w w') (hn : ¬ F g) : LogAt w' g m la ls := (hO.block g (lt_get h) hn).trans h

set_option maxHeartbeats 4000000 in
set_option maxRecDepth 100000 in
theorem lkeep_at {g m sb lb ab n K la ls : Nat} {S : List UInt8} (a : Nat) (v : Value) (b : List UInt8) (w : World) (h : MemAt w m sb lb ab n S K) (hL : LogAt w g m la ls) (hb : BytesAt w v b) (hap : ∀ q, v.ownBlock = some q → q ≠ sb ∧ q ≠ ab) (hak : a + b.length ≤ S.length) (hk : b.length ≤ 100000) (hK : K < 900000000000) :
    Calls Tryz.prog 90 #[.pointer (some ⟨g, 0, none⟩), .int .i64 a, v] w fun e w' => e = .returned (.tuple #[]) ∧ MemAt w' m sb lb ab n (Gd.splice S a b) (K + 20000) ∧ Only (Mem3 sb lb ab) w w' := by
  have HSt := Lib.hid (mstore_at a v b w h hb hap hak hk)
  have HFl : Hid (∀ w1, MemAt w1 m sb lb ab n (Gd.splice S a b) K → Calls Tryz.prog 26 #[.pointer (some ⟨m, 0, none⟩), .int .i64 a, .int .i64 b.length] w1 fun e w' => e = .returned (.int .i64 0) ∧ MemAt w' m sb lb ab n (Gd.splice S a b) (K + 20000) ∧ Only (fun k => k = ab) w1 w') := Lib.hid fun w1 h1 => flush_at a b.length w1 h1 (by rw [Gd.splice_length hak]; exact hak) hk hK
  have HN := Lib.hid (hL.apart h)
  have HL := Lib.hid hL
  have HI : Hid (a + b.length ≤ 1048576 ∧ b.length ≤ 100000) := Lib.hid ⟨by have := h.len; have := h.small; omega, hk⟩
  obtain ⟨c0, c1, c2⟩ := cell2 hL
  obtain ⟨A, c, rfl, -⟩ := hb
  clear h hL hap hak hk hK
  go_enter_defers Tryz.func90, Tryz.ntmps90
  go_wp2_with fail
  refine HSt.out.mono ?_
  rintro e w1 ⟨rfl, hM1, hO1⟩
  have HM1 := Lib.hid hM1
  have HO1 := Lib.hid (hO1.mono (G := Mem3 sb lb ab) fun k _ e => e.elim Or.inl (fun e => Or.inr (Or.inr e)))
  have HL1 := Lib.hid (HL.out.keep HO1.out HN.out)
  obtain ⟨d0, d1, d2⟩ := cell2 HL1.out
  clear hM1 hO1 c0 c1 c2 HSt
  go_wp2_with fail
  refine (HFl.out w1 HM1.out).mono ?_
  rintro e w2 ⟨rfl, hM2, hO2⟩
  have HM2 := Lib.hid hM2
  have HO2 := Lib.hid (HO1.out.trans hO2 fun k _ e => Or.inr (Or.inr e))
  clear hM2 hO2 d0 d1 d2 HFl
  go_wp2
  refine leaves_cons (f := 27) (args := #[.pointer (some ⟨m, 0, none⟩)]) (by simp) (by simp [go_sem]) ?_
  refine (fence_atD .returning w2 HM2.out).mono ?_
  rintro e u' w3 ⟨rfl, rfl, hM3, hO3⟩
  exact ⟨_, results_none rfl _ _ _, rfl, hM3, HO2.out.trans hO3 fun k _ e => e.elim (fun e => Or.inr (Or.inl e)) (fun e => Or.inr (Or.inr e))⟩

theorem made8 (W : World) : (Instr.makeSlice 22 (.int .i64 8) (.int .i64 8)).run Tryz.prog W = .ok (.slice (some ⟨W.heap.size, 0, none⟩) 8 8) (W.alloc (.cells (cellsB (List.replicate 8 0)) 5)) := by
  obtain ⟨i0, hi, hz0, hz1, hz2⟩ := info_parts Tryz.infoU8
  have := run_makeSlice (P := Tryz.prog) (w := W) 22 5 i0 _ Tryz.underlying22 hi hz0 .i64 .i64 8 8 (by omega) (by omega) (by rw [hz1]; decide) (by rw [hz2]; omega) (by omega)
  rw [hz1, show madeCells (Value.int .u8 0).cells (Int.toNat 8 * 1) = cellsB (List.replicate 8 0) from by first | kernel_rfl | rfl | decide] at this
  exact this
theorem made_at (W : World) (L : List UInt8) (c : Nat) : BytesAt (W.alloc (.cells (cellsB L) 5)) (.slice (some ⟨W.heap.size, 0, none⟩) L.length c) L :=
  ⟨_, _, rfl, Or.inr ⟨_, 0, rfl, by simp, fun j x hx => by
    rw [Nat.zero_add]
    exact (cell_of_row _ _ j _ _ _ (heap_alloc_new W _)).trans (cellsB_get hx)⟩⟩

set_option maxHeartbeats 4000000 in
set_option maxRecDepth 100000 in
theorem clear_at {g m sb lb ab n K : Nat} {S : List UInt8} (w : World) (h : MemAt w m sb lb ab n S K) (hL : LogAt w g m 2688 4096) (hS : S.length = 23168) (hK : K < 900000000000) :
    Calls Tryz.prog 47 #[.pointer (some ⟨g, 0, none⟩)] w fun e w' => e = .returned (.tuple #[]) ∧ MemAt w' m sb lb ab n (Gd.splice S 2688 (List.replicate 8 0)) (K + 20000) ∧ Only (Mem3 sb lb ab) w w' := by
  have hbd := (Below.refl w.heap.size w).drew
  have hsz := hbd.size
  have hMd : MemAt w.drew m sb lb ab n S K := h.keep fun k hk => hbd.block k (h.lts k hk)
  have hLd : LogAt w.drew g m 2688 4096 := (hbd.block g (lt_get hL)).trans hL
  have HLt := Lib.hid hMd.lts
  have HKp : Hid (∀ W v, Below w.drew.heap.size w.drew W → BytesAt W v (List.replicate 8 0) → (∀ q, v.ownBlock = some q → w.drew.heap.size ≤ q) → Calls Tryz.prog 90 #[.pointer (some ⟨g, 0, none⟩), .int .i64 2688, v] W fun e w' => e = .returned (.tuple #[]) ∧ MemAt w' m sb lb ab n (Gd.splice S 2688 (List.replicate 8 0)) (K + 20000) ∧ Only (Mem3 sb lb ab) w w') := Lib.hid fun W v hb hv hq => by
    refine (lkeep_at 2688 v (List.replicate 8 0) W (hMd.keep fun k hk => hb.block k (hMd.lts k hk)) ((hb.block g (lt_get hLd)).trans hLd) hv (fun q hqq => ?_) (by simp; omega) (by simp) hK).mono ?_
    · have h1 := hq q hqq
      have h2 := hMd.lts sb (by simp)
      have h3 := hMd.lts ab (by simp)
      omega
    · rintro e w' ⟨he, hM, hO⟩
      exact ⟨he, hM, ((below_only hbd _).trans (below_only hb _) fun _ _ e => e).trans hO fun _ _ e => e⟩
  have hmk := made8 w.drew
  have hba := made_at w.drew (List.replicate 8 0) 8
  have hbl := (Below.refl w.drew.heap.size w.drew).alloc (Nat.le_refl _) (.cells (cellsB (List.replicate 8 0)) 5)
  generalize w.drew.alloc (.cells (cellsB (List.replicate 8 0)) 5) = wm at hmk hba hbl
  have HKq := Lib.hid (HKp.out wm (.slice (some ⟨w.drew.heap.size, 0, none⟩) 8 8) hbl hba (fun q hq => by cases hq; exact Nat.le_refl _))
  obtain ⟨c0, c1, c2⟩ := cell2 hLd
  obtain ⟨d0, d1, d2⟩ := cell2 ((hbl.block g (lt_get hLd)).trans hLd)
  clear h hL hMd hLd hbd HKp hba hbl
  go_enter Tryz.func47, Tryz.ntmps47
  go_wp2
  go_region_with (go_at_call 90; refine HKq.out.mono ?_; rintro e w' ⟨rfl, hM, hO⟩)
  all_goals
    try simp only [Exit.then]
    go_end0
    exact ⟨rfl, hM, hO⟩

end Go.Proofs.YtccpdkjonepoiaaGreatDoor
