/- Walks: the law's played. -/
import Derived.Test.YtbpejjmfdhkfhaaGreatDoorPosFacts
import Derived.Test.YtbpejjmfdhkfhaaGreatDoorPosRefV
import Derived.Deep.RegionHeld3
set_option linter.unusedVariables false
set_option linter.unusedSimpArgs false
namespace Go.Proofs.YtbpejjmfdhkfhaaGreatDoor
open Go.RowKit

namespace Pz
theorem opens_names (S : Fil) (cl flags : Int) (p : List UInt8) : (opens S cl flags p).2.names = [] := by
  unfold opens
  split
  · rfl
  split
  · split
    · rfl
    split
    · rfl
    split <;> rfl
  · split
    · split
      · rfl
      split <;> rfl
    · rfl
theorem file_names (S : Fil) (cl : Int) (n : Nat) (kind fd off m : Int) (d : List UInt8) : (file S cl n kind fd off m d).2.names = [] := by
  unfold file
  split
  · rfl
  split
  · show (if _ then _ else _ : Rep).names = []
    split
    · rfl
    split <;> rfl
  split
  · split
    · rfl
    split
    · rfl
    split <;> rfl
  split
  · split
    · rfl
    split <;> rfl
  · rfl
theorem mkdir_names (S : Fil) (p : List UInt8) : (mkdir S p).2.names = [] := by
  unfold mkdir
  split
  · rfl
  · split <;> rfl
theorem rmdir_names (S : Fil) (p : List UInt8) : (rmdirR S p).2.names = [] := by
  unfold rmdirR
  split
  · rfl
  split
  · rfl
  split
  · split
    · rfl
    split <;> rfl
  · rfl
theorem link_names (S : Fil) (p p2 : List UInt8) : (link S p p2).2.names = [] := by
  unfold link
  split
  · rfl
  split
  · rfl
  split
  · rfl
  split
  · rfl
  split
  · rfl
  split
  · rfl
  split <;> rfl
theorem unlink_names (S : Fil) (p : List UInt8) : (unlink S p).2.names = [] := by
  unfold unlink
  split
  · rfl
  split
  · rfl
  split <;> rfl
theorem rename_names (S : Fil) (p p2 : List UInt8) : (rename S p p2).2.names = [] := by
  unfold rename
  split
  · rfl
  split
  · rfl
  split
  · rfl
  split
  · rfl
  split
  · rfl
  split
  · rfl
  split <;> rfl
theorem tells_names (S : Fil) (kind : Int) (p : List UInt8) : (tells S kind p).2.names.length ≤ S.E.length := by
  unfold tells
  simp only
  split
  · exact Nat.zero_le _
  · split
    · split <;> exact Nat.zero_le _
    · split
      · exact namesOf_le _ _
      · exact Nat.zero_le _
theorem do_names (S : Fil) (cl kind : Int) (p p2 : List UInt8) (flags fd off m : Int) (d : List UInt8) : (doA S cl kind p p2 flags fd off m d).2.names.length ≤ S.E.length := by
  unfold doA
  split
  · exact Nat.zero_le _
  split
  · rw [opens_names]; exact Nat.zero_le _
  split
  · split
    · exact Nat.zero_le _
    · rw [file_names]; exact Nat.zero_le _
  split
  · rw [mkdir_names]; exact Nat.zero_le _
  split
  · rw [rmdir_names]; exact Nat.zero_le _
  split
  · rw [link_names]; exact Nat.zero_le _
  split
  · rw [unlink_names]; exact Nat.zero_le _
  split
  · rw [rename_names]; exact Nat.zero_le _
  split
  · exact tells_names _ _ _
  · exact Nat.zero_le _
end Pz

def PlayedYes [Inhabited XBox] (w : World) (e : Ending) (w' : World) : Prop :=
  ∃ pr rr S F G, e = .returned (.tuple #[.pointer (some ⟨pr, 0, none⟩), .pointer (some ⟨rr, 0, none⟩), .bool true]) ∧ Both w pr rr S S F G w' ∧ Pz.Good 200 S ∧ Pz.FewT S

theorem call8 {w : World} {g t : Nat} {a0 a1 a2 a3 a4 a5 a6 a7 : Value} (h : w.heap[g]? = some (.cells #[a0, a1, a2, a3, a4, a5, a6, a7] t (0, 0))) : w.cell? ⟨g, 0, none⟩ = some a0 ∧ w.cell? ⟨g, 1, none⟩ = some a1 ∧ w.cell? ⟨g, 2, none⟩ = some a2 ∧ w.cell? ⟨g, 3, none⟩ = some a3 ∧ w.cell? ⟨g, 4, none⟩ = some a4 ∧ w.cell? ⟨g, 5, none⟩ = some a5 ∧ w.cell? ⟨g, 6, none⟩ = some a6 ∧ w.cell? ⟨g, 7, none⟩ = some a7 :=
  ⟨cell_of_row w g 0 _ t _ h, cell_of_row w g 1 _ t _ h, cell_of_row w g 2 _ t _ h, cell_of_row w g 3 _ t _ h, cell_of_row w g 4 _ t _ h, cell_of_row w g 5 _ t _ h, cell_of_row w g 6 _ t _ h, cell_of_row w g 7 _ t _ h⟩

set_option maxHeartbeats 4000000 in
set_option maxRecDepth 8192 in
theorem played_any [Inhabited XBox] (A : Option Addr) (L : List Ask) (c m : Nat) (w : World) (hm : m ≤ 60) (hx : MxX w) (hlen : L.length ≤ 9223372036854775807) (hA : Asks w A L) (hI : ∀ a ∈ L, I64 a.cl ∧ I64 a.fd) :
    Calls Tryz.prog 6 #[.slice A L.length c, .int .i64 m] w (PlayedYes w) := by
  have HX := Lib.hid hx
  have HA := Lib.hid hA
  have HI := Lib.hid hI
  clear hx hA hI
  go_enter Tryz.func6, Tryz.ntmps6
  go_wp2_with fail
  refine (fnew_any w HX.out).mono ?_
  rintro e w1 ⟨rfl, hR1, hb1⟩
  have HR1 := Lib.hid (And.intro hR1 hb1)
  clear hR1 hb1
  go_wp2_with fail
  refine (rnew_any w1).mono ?_
  rintro e w2 ⟨rfl, hR2, hb2⟩
  have HB := Lib.hid (both_new HX.out HR1.out.1 HR1.out.2 hR2 hb2)
  clear hR2 hb2 HR1
  obtain ⟨pr, hpr⟩ : ∃ pr, pr = w.heap.size + 3 := ⟨_, rfl⟩
  obtain ⟨rr, hrr⟩ : ∃ rr, rr = w1.heap.size := ⟨_, rfl⟩
  rw [← hpr, ← hrr] at HB
  try rw [← hpr, ← hrr]
  clear hpr hrr
  go_wp2
  go_loopw [9] (fun v wr => ∃ (k : Nat) (S : Pz.Fil) (F G : Nat → Prop), v = .int .i64 k ∧ k ≤ L.length ∧ k ≤ m ∧ Hid (Both w pr rr S S F G wr ∧ Pz.Good (3 * k + 1) S ∧ Pz.FewT S)) (fun v _ => m - (intOf v).toNat)
  case atStart => exact ⟨0, newFS, _, _, rfl, by omega, by omega, HB.out, Pz.new_good.1, Pz.new_goodT⟩
  case round =>
    obtain ⟨k, S, F, G, rfl, hkl, hkm, HS⟩ := hrel
    by_cases h1 : k < L.length
    · by_cases h2 : k < m
      · obtain ⟨a, ha⟩ : ∃ a, L[k]? = some a := ⟨_, List.getElem?_eq_getElem h1⟩
        have hai := HI.out a (List.mem_of_getElem? ha)
        rcases HA.out with h0 | ⟨b, o, rfl, hb, hcells⟩
        · rw [h0] at h1; simp at h1
        have hcs : ∀ W, Below w.heap.size w W → ∀ i, W.cell? ⟨b, i, none⟩ = w.cell? ⟨b, i, none⟩ := fun W hW i => hW.cell (p := ⟨b, i, none⟩) hb
        have HC0 := Lib.hid (And.intro (hcells k a ha).1 (hcells k a ha).2.2.2.2.2.2.2.2.2)
        obtain ⟨c0, c1, c2, c3, c4, c5, c6, c7, c8, c9⟩ := hcells k a ha
        have ew := hcs wr HS.out.1.below
        rw [← ew] at c0 c1 c2 c3 c4 c5 c6 c7 c8 c9
        have h1' : (k : Int) < (L.length : Int) := by omega
        have h2' : (k : Int) < (m : Int) := by omega
        have h0' : (0 : Int) ≤ (k : Int) := by omega
        have HCs := Lib.hid hcs
        have HAi := Lib.hid hai
        have HBb := Lib.hid hb
        clear hcells ha h1 h2 hcs hai hb ew
        go_wp2_with fail
        refine (cut_any a.kind a.flags a.fd a.off a.n a.p a.p2 a.data wr).mono ?_
        rintro e w3 ⟨rfl, hb3⟩
        obtain ⟨w4, hw4⟩ : ∃ w4, w4 = w3.alloc (.cells #[.int .i64 a.kind, .string (cutB a.p 60), .string (cutB a.p2 60), .int .i64 a.flags, .int .i64 a.fd, .int .i64 a.off, .int .i64 a.n, .string (cutB a.data 100)] 24) := ⟨_, rfl⟩
        have hb4 : Below wr.heap.size wr w4 := by rw [hw4]; exact hb3.alloc hb3.size _
        have HW4 := Lib.hid hw4
        have HB4 := Lib.hid (HS.out.1.keep hb4)
        have d0 := (HCs.out w4 HB4.out.below (o + k * 10)).trans HC0.out.1
        have d9 := (HCs.out w4 HB4.out.below (o + k * 10 + 9)).trans HC0.out.2
        have HWr : Hid (wr.heap.size ≤ w3.heap.size) := Lib.hid hb3.size
        have hbw3 := HS.out.1.below.trans (hb3.mono HS.out.1.below.size)
        have g9 := (HCs.out w3 hbw3 (o + k * 10 + 9)).trans HC0.out.2
        have g0 := (HCs.out w3 hbw3 (o + k * 10)).trans HC0.out.1
        have gb : b < w3.heap.size := Nat.lt_of_lt_of_le HBb.out hbw3.size
        clear hw4 hb3 hb4 hbw3 c0 c1 c2 c3 c4 c5 c6 c7 c8 c9
        unfold callV
        cases hdr : a.drop with
        | true =>
          rw [hdr] at d9 g9
          have e9 : ∀ x, (w3.alloc x).cell? ⟨b, o + k * 10 + 9, none⟩ = some (.bool true) := fun x => (World.cell?_of_block (w := w3) (a := ⟨b, o + k * 10 + 9, none⟩) (Below.heap_alloc _ _ _ gb)).trans g9
          have e0 : ∀ x, (w3.alloc x).cell? ⟨b, o + k * 10, none⟩ = some (.int .i64 a.cl) := fun x => (World.cell?_of_block (w := w3) (a := ⟨b, o + k * 10, none⟩) (Below.heap_alloc _ _ _ gb)).trans g0
          go_wp2_with fail
          rw [← HW4.out]
          refine (fdrop_any pr S a.cl w4 F HAi.out.1 HS.out.2.2.i64 HS.out.2.1.one HB4.out.real).mono ?_
          rintro e w5 ⟨rfl, hi5, ho5⟩
          have HB5 := Lib.hid (HB4.out.doReal hi5 ho5)
          have d5 := (HCs.out w5 HB5.out.below (o + k * 10)).trans HC0.out.1
          clear hi5 ho5 e0 e9
          go_wp2_with fail
          refine (drop_any rr S a.cl w5 G (Nat.le_trans HS.out.2.1.o (by omega)) HB5.out.ref).mono ?_
          rintro e w6 ⟨rfl, hi6, ho6⟩
          have HB6 := Lib.hid (HB5.out.doRef hi6 ho6)
          have HG := Lib.hid (ask_goodT HS.out.2.1 HS.out.2.2 a)
          have HE : Hid (askA S a = { S with O := Pz.drop S.O a.cl }) := Lib.hid (by unfold askA; rw [hdr]; rfl)
          rw [HE.out] at HG
          clear hi6 ho6
          go_wp2
          go_roundw
          case rel => exact ⟨k + 1, _, _, _, by go_num, by omega, by omega, HB6.out, HG.out.1, HG.out.2⟩
          case measure => simp [intOf]; omega
        | false =>
          rw [hdr] at d9 g9
          have e9 : ∀ x, (w3.alloc x).cell? ⟨b, o + k * 10 + 9, none⟩ = some (.bool false) := fun x => (World.cell?_of_block (w := w3) (a := ⟨b, o + k * 10 + 9, none⟩) (Below.heap_alloc _ _ _ gb)).trans g9
          have h4 : w4.heap[w3.heap.size]? = some (.cells #[.int .i64 a.kind, .string (cutB a.p 60), .string (cutB a.p2 60), .int .i64 a.flags, .int .i64 a.fd, .int .i64 a.off, .int .i64 a.n, .string (cutB a.data 100)] 24 (0, 0)) := by
            rw [HW4.out]; exact heap_alloc_new _ _
          have k0 := cell_of_row w4 _ 0 _ _ _ h4
          have k1 := cell_of_row w4 _ 1 _ _ _ h4
          have k2 := cell_of_row w4 _ 2 _ _ _ h4
          have k3 := cell_of_row w4 _ 3 _ _ _ h4
          have k4 := cell_of_row w4 _ 4 _ _ _ h4
          have k5 := cell_of_row w4 _ 5 _ _ _ h4
          have k6 := cell_of_row w4 _ 6 _ _ _ h4
          have k7 := cell_of_row w4 _ 7 _ _ _ h4
          have HRe := Lib.hid fun W (hW : Below w4.heap.size w4 W) => fdo_any pr S a.cl a.kind a.flags a.fd a.off a.n (cutB a.p 60) (cutB a.p2 60) (cutB a.data 100) W F HAi.out.1 HAi.out.2 (Nat.le_trans (cutB_size _ _) (by omega)) (Nat.le_trans (cutB_size _ _) (by omega)) (HS.out.2.1.mono (by omega)) (HB4.out.keep hW).real
          have HH4 := Lib.hid h4
          have HLt : Hid (w3.heap.size < w4.heap.size) := Lib.hid (by rw [HW4.out]; simp)
          clear h4
          have HRf := Lib.hid fun W H (hH : RefF rr S W H) => rdo_any rr S a.cl a.kind a.flags a.fd a.off a.n (cutB a.p 60) (cutB a.p2 60) (cutB a.data 100) W H (Nat.le_trans (cutB_size _ _) (by omega)) (Nat.le_trans (cutB_size _ _) (by omega)) (HS.out.2.1.mono (by omega)) hH
          obtain ⟨R, hR⟩ : ∃ R, R = Pz.doA S a.cl a.kind (cutB a.p 60).data.toList (cutB a.p2 60).data.toList a.flags a.fd a.off a.n (cutB a.data 100).data.toList := ⟨_, rfl⟩
          rw [← hR] at HRe HRf
          have HRR := Lib.hid hR
          clear hR
          unfold callV at HRe HRf
          go_wp2
          rw [← HW4.out]
          go_region_held3 (fun w' => w'.cell? ⟨b, o + k * 10, none⟩ = some (.int .i64 a.cl) ∧ w'.cell? ⟨w3.heap.size, 0, none⟩ = some (.int .i64 a.kind) ∧ w'.cell? ⟨w3.heap.size, 1, none⟩ = some (.string (cutB a.p 60)) ∧ w'.cell? ⟨w3.heap.size, 2, none⟩ = some (.string (cutB a.p2 60)) ∧ w'.cell? ⟨w3.heap.size, 3, none⟩ = some (.int .i64 a.flags) ∧ w'.cell? ⟨w3.heap.size, 4, none⟩ = some (.int .i64 a.fd) ∧ w'.cell? ⟨w3.heap.size, 5, none⟩ = some (.int .i64 a.off) ∧ w'.cell? ⟨w3.heap.size, 6, none⟩ = some (.int .i64 a.n) ∧ w'.cell? ⟨w3.heap.size, 7, none⟩ = some (.string (cutB a.data 100))) (first | go_keep | exact hs5 | exact hs6 | exact hs7) (first | (go_at_call 7; refine (HRe.out _ (Below.refl _ w4).drew).mono ?_; rintro e w5 ⟨A5, c5, rfl, hS5, hi5, ho5⟩; have HB5 := Lib.hid ((HB4.out.keep (Below.refl _ w4).drew).doReal hi5 ho5); have HS5 := Lib.hid hS5; have HH5 := Lib.hid ((ho5.block w3.heap.size HLt.out (fun e => absurd (HS.out.1.fl _ e).1 (Nat.not_lt.2 HWr.out))).trans HH4.out); have HZ5 := Lib.hid (Nat.lt_of_lt_of_le HLt.out ho5.size); have hs5 : w5.cell? ⟨b, o + k * 10, none⟩ = some (.int .i64 a.cl) ∧ w5.cell? ⟨w3.heap.size, 0, none⟩ = some (.int .i64 a.kind) ∧ w5.cell? ⟨w3.heap.size, 1, none⟩ = some (.string (cutB a.p 60)) ∧ w5.cell? ⟨w3.heap.size, 2, none⟩ = some (.string (cutB a.p2 60)) ∧ w5.cell? ⟨w3.heap.size, 3, none⟩ = some (.int .i64 a.flags) ∧ w5.cell? ⟨w3.heap.size, 4, none⟩ = some (.int .i64 a.fd) ∧ w5.cell? ⟨w3.heap.size, 5, none⟩ = some (.int .i64 a.off) ∧ w5.cell? ⟨w3.heap.size, 6, none⟩ = some (.int .i64 a.n) ∧ w5.cell? ⟨w3.heap.size, 7, none⟩ = some (.string (cutB a.data 100)) := ⟨(HCs.out w5 HB5.out.below (o + k * 10)).trans HC0.out.1, call8 HH5.out⟩) | (go_at_call 9; refine (HRf.out _ _ HB5.out.ref).mono ?_; rintro e w6 ⟨A6, c6, rfl, hS6, hi6, ho6⟩; have HB6 := Lib.hid (HB5.out.doRef hi6 ho6); have HS6 := Lib.hid (And.intro ((HS5.out.only ho6 fun j hj _ e => absurd (HS.out.1.gl _ e).1 (Nat.not_lt.2 (Nat.le_trans HWr.out (Nat.le_trans (Nat.le_of_lt HLt.out) hj)))).low (Nat.zero_le _)) (hS6.low (Nat.zero_le _))); have HH6 := Lib.hid ((ho6.block w3.heap.size HZ5.out (fun e => absurd (HS.out.1.gl _ e).1 (Nat.not_lt.2 HWr.out))).trans HH5.out); have HZ6 := Lib.hid (Nat.lt_of_lt_of_le HZ5.out ho6.size); have hs6 : w6.cell? ⟨b, o + k * 10, none⟩ = some (.int .i64 a.cl) ∧ w6.cell? ⟨w3.heap.size, 0, none⟩ = some (.int .i64 a.kind) ∧ w6.cell? ⟨w3.heap.size, 1, none⟩ = some (.string (cutB a.p 60)) ∧ w6.cell? ⟨w3.heap.size, 2, none⟩ = some (.string (cutB a.p2 60)) ∧ w6.cell? ⟨w3.heap.size, 3, none⟩ = some (.int .i64 a.flags) ∧ w6.cell? ⟨w3.heap.size, 4, none⟩ = some (.int .i64 a.fd) ∧ w6.cell? ⟨w3.heap.size, 5, none⟩ = some (.int .i64 a.off) ∧ w6.cell? ⟨w3.heap.size, 6, none⟩ = some (.int .i64 a.n) ∧ w6.cell? ⟨w3.heap.size, 7, none⟩ = some (.string (cutB a.data 100)) := ⟨(HCs.out w6 HB6.out.below (o + k * 10)).trans HC0.out.1, call8 HH6.out⟩) | (go_at_call 13; refine (samereply_any R.2 A5 A6 c5 c6 0 w6 (by rw [HRR.out]; exact Nat.le_trans (Pz.do_names _ _ _ _ _ _ _ _ _ _) (Nat.le_trans HS.out.2.1.e (by omega))) HS6.out.1 HS6.out.2).mono ?_; rintro e w7 ⟨rfl, hb7⟩; have hs7 : w7.cell? ⟨b, o + k * 10, none⟩ = some (.int .i64 a.cl) ∧ w7.cell? ⟨w3.heap.size, 0, none⟩ = some (.int .i64 a.kind) ∧ w7.cell? ⟨w3.heap.size, 1, none⟩ = some (.string (cutB a.p 60)) ∧ w7.cell? ⟨w3.heap.size, 2, none⟩ = some (.string (cutB a.p2 60)) ∧ w7.cell? ⟨w3.heap.size, 3, none⟩ = some (.int .i64 a.flags) ∧ w7.cell? ⟨w3.heap.size, 4, none⟩ = some (.int .i64 a.fd) ∧ w7.cell? ⟨w3.heap.size, 5, none⟩ = some (.int .i64 a.off) ∧ w7.cell? ⟨w3.heap.size, 6, none⟩ = some (.int .i64 a.n) ∧ w7.cell? ⟨w3.heap.size, 7, none⟩ = some (.string (cutB a.data 100)) := ⟨(HCs.out w7 (HB6.out.keep hb7).below (o + k * 10)).trans HC0.out.1, call8 ((hb7.block w3.heap.size HZ6.out).trans HH6.out)⟩))
          have HB7 := Lib.hid (HB6.out.keep hb7)
          have HG := Lib.hid (ask_goodT HS.out.2.1 HS.out.2.2 a)
          have HE : Hid (askA S a = R.1) := Lib.hid (by rw [HRR.out]; unfold askA; rw [hdr]; rfl)
          rw [HE.out] at HG
          try simp only [Exit.then]
          go_wp2
          go_roundw
          case rel => exact ⟨k + 1, _, _, _, by go_num, by omega, by omega, HB7.out, HG.out.1, HG.out.2⟩
          case measure => simp [intOf]; omega
      · have h2' : (m : Int) ≤ (k : Int) := by omega
        have h1' : (k : Int) < (L.length : Int) := by omega
        clear h1 h2
        go_wp2
        go_ret3
        exact ⟨pr, rr, S, F, G, rfl, HS.out.1, HS.out.2.1.mono (by omega), HS.out.2.2⟩
    · have h1' : (L.length : Int) ≤ (k : Int) := by omega
      clear h1
      go_wp2
      go_ret3
      exact ⟨pr, rr, S, F, G, rfl, HS.out.1, HS.out.2.1.mono (by omega), HS.out.2.2⟩

end Go.Proofs.YtbpejjmfdhkfhaaGreatDoor
