/- Walk: meta.Format. -/
import Derived.Test.YtccpdkjonepoiaaGreatDoorW11
import Derived.Test.YtccpdkjonepoiaaGreatDoorRows
import Derived.Test.YtccpdkjonepoiaaGreatDoorW00
import Derived.WalkSpells
import Derived.WalkLawsBesides
import Derived.Lib.OthersKept
import Derived.Lib.Hide
import Derived.BigQuiet
import Derived.Deep.QuietTactic
import Derived.Test.YtccpdkjonepoiaaGreatDoorShelf
import Derived.Lib.SplitLaws
set_option linter.unusedVariables false
set_option linter.unusedSimpArgs false
set_option linter.unusedSectionVars false
namespace Go.Proofs.YtccpdkjonepoiaaGreatDoor
open Go.RowKit

attribute [local go_sem] Oper.semAt_some

namespace Gd
def slot0 : Slot := ⟨0, 0, 0, 0, 0, 0⟩
def rootI : Ino := ⟨2, 1, 0, [0, 0, 0, 0], [0, 0, 0, 0, 0, 0, 0, 0]⟩
def fmtS (k : Nat) : List Pa := (List.range k).flatMap fun c => [(64 + 64 * c, slotB slot0), (6784 + 1024 * c, List.replicate 8 0)]
def fmtN (k : Nat) : List Pa := (List.range k).map fun i => (inoAt (i + 2), List.replicate 64 0)
/-- what Format stores -/
def fmtP : List Pa := [(0, headB 0)] ++ fmtS 8 ++ [(576, List.replicate 16 0)] ++ [(inoAt 1, inoB rootI)] ++ fmtN 31
theorem fmtS_succ (k : Nat) : fmtS (k + 1) = fmtS k ++ [(64 + 64 * k, slotB slot0)] ++ [(6784 + 1024 * k, List.replicate 8 0)] := by
  unfold fmtS
  rw [List.range_succ, List.flatMap_append]
  simp
theorem fmtN_succ (k : Nat) : fmtN (k + 1) = fmtN k ++ [(inoAt (k + 2), List.replicate 64 0)] := by
  unfold fmtN
  rw [List.range_succ, List.map_append]
  simp
theorem ptAt_slot {k : Nat} (h : k < 8) : ptAt 2 ((k : Int) + 1) = some ⟨2, k + 1, 64 + 64 * k, 64⟩ := by
  unfold ptAt partAt
  rw [if_neg (by omega), if_pos rfl, if_pos ⟨by omega, by omega⟩]
  simp
theorem ptAt_clog {k : Nat} (h : k < 8) : ptAt 6 ((k : Int) + 1) = some ⟨6, k + 1, 6784 + 1024 * k, 1024⟩ := by
  unfold ptAt partAt
  rw [if_neg (by omega), if_neg (by omega), if_neg (by omega), if_neg (by omega), if_neg (by omega), if_pos rfl, if_pos ⟨by omega, by omega⟩]
  simp
theorem ptAt_head : ptAt 1 0 = some ⟨1, 0, 0, 64⟩ := rfl
theorem slot0_may : slot0.May := ⟨by decide, by decide, by decide, by decide, by decide, by decide⟩
theorem root_may : mayI rootI = true := by decide
theorem root_shape : rootI.Shape := ⟨rfl, rfl⟩
end Gd
theorem BytesAt.only {w w' : World} {v : Value} {L : List UInt8} {G : Nat → Prop} (h : BytesAt w v L) (hO : Only G w w') (hn : ∀ q, v.ownBlock = some q → ¬ G q) : BytesAt w' v L := by
  obtain ⟨A, c, rfl, hA⟩ := h
  refine ⟨A, c, rfl, hA.imp id ?_⟩
  rintro ⟨b, o, rfl, hb, hc⟩
  exact ⟨b, o, rfl, Nat.lt_of_lt_of_le hb hO.size, fun j x hx => (hO.cell (p := ⟨b, o + j, none⟩) hb (hn b rfl)).trans (hc j x hx)⟩

set_option maxHeartbeats 4000000 in
set_option maxRecDepth 100000 in
theorem fmtfirst_any (eb : Nat) (w : World) (h : CellsAt w eb 26 #[.int .i64 0]) : Calls Tryz.prog 92 #[.int .i64 0, .pointer (some ⟨eb, 0, none⟩)] w fun e w' => e = .returned (.tuple #[]) ∧ Only (fun k => k = eb) w w' ∧ CellsAt w' eb 26 #[.int .i64 0] := by
  have c0 := cell_of_row w eb 0 _ _ _ h
  have f0 := frozen_of_row w eb 0 _ _ h
  have H := Lib.hid h
  clear h
  go_enter Tryz.func92, Tryz.ntmps92
  go_wp2
  go_end0
  exact ⟨rfl, only_setCell w _ _ rfl, Go.heap_setCell_same _ _ 0 _ _ _ H.out⟩

/-- what Format holds: the transaction, its error, a slot's bytes -/
def FmtI [MemNo] (x t : Nat) (S : List UInt8) (P : List Gd.Pa) (c K : Nat) (F : Nat → Prop) (w0 : World) (eb : Nat) (v5 : Value) (wr : World) : Prop :=
  ∃ F', Step (MetaF x t S P c K) F w0 F' wr ∧ ¬ F' eb ∧ CellsAt wr eb 26 #[.int .i64 0] ∧ BytesAt wr v5 (Gd.slotB Gd.slot0) ∧ ∀ q, v5.ownBlock = some q → ¬ F' q ∧ q ≠ eb
theorem FmtI.below [MemNo] {x t c K eb : Nat} {S : List UInt8} {P : List Gd.Pa} {F : Nat → Prop} {w0 w w' : World} {v5 : Value} (h : FmtI x t S P c K F w0 eb v5 w) (hb : Below w.heap.size w w') : FmtI x t S P c K F w0 eb v5 w' := by
  obtain ⟨F', h1, h2, h3, h4, h5⟩ := h
  exact ⟨F', h1.ahead hb, h2, (hb.block eb h3.lt).trans h3, h4.keep hb, h5⟩
theorem FmtI.first [MemNo] {x t c K eb : Nat} {S : List UInt8} {P : List Gd.Pa} {F : Nat → Prop} {w0 w w' : World} {v5 : Value} (h : FmtI x t S P c K F w0 eb v5 w) (h0 : w0.heap.size ≤ eb) (hO : Only (fun k => k = eb) w w') (hC : CellsAt w' eb 26 #[.int .i64 0]) : FmtI x t S P c K F w0 eb v5 w' := by
  obtain ⟨F', h1, h2, h3, h4, h5⟩ := h
  refine ⟨F', ⟨h1.inv.keep hO.size fun k hk hF => hO.block k hk fun e => h2 (e ▸ hF), h1.old, h1.only.trans hO fun j hj e => ?_⟩, h2, hC, h4.only hO fun q hq e => (h5 q hq).2 e, h5⟩
  omega
theorem FmtI.step [MemNo] {x t c d K eb : Nat} {S : List UInt8} {P Q : List Gd.Pa} {F : Nat → Prop} {w0 w w' : World} {v5 : Value} (h : FmtI x t S P c K F w0 eb v5 w) (hs : ∀ F', MetaF x t S P c K w F' → (∀ k, F' k → k < w.heap.size) → ∃ F2, Step (MetaF x t S Q d K) F' w F2 w') : FmtI x t S Q d K F w0 eb v5 w' := by
  obtain ⟨F', h1, h2, h3, h4, h5⟩ := h
  obtain ⟨F2, hs⟩ := hs F' h1.inv h1.inv.tight
  have hb : ∀ q, v5.ownBlock = some q → q < w.heap.size := fun q hq => by
    obtain ⟨A, c, rfl, hA⟩ := h4
    rcases hA with ⟨rfl, _⟩ | ⟨b, o, rfl, hb, _⟩
    · cases hq
    · cases hq
      exact hb
  exact ⟨F2, h1.trans hs, (hs.own h3.lt h2).2, (hs.own h3.lt h2).1.trans h3, h4.only hs.only fun q hq => (h5 q hq).1, fun q hq => ⟨(hs.own (hb q hq) (h5 q hq).1).2, (h5 q hq).2⟩⟩

theorem fmt_store [MemNo] {x t c K eb : Nat} {S : List UInt8} {P : List Gd.Pa} {F : Nat → Prop} {w0 w1 : World} {v5 : Value} (k m : Int) (p : Gd.Pt) (v : Value) (L : List UInt8) (w : World) (h : FmtI x t S P c K F w0 eb v5 w1) (hb : Below w1.heap.size w1 w) (hp : Gd.ptAt k m = some p) (hv : BytesAt w v L) (hL : L.length ≤ 64) (hLp : L.length ≤ p.s) (hc : c < 64) (hap : ∀ q, v.ownBlock = some q → w1.heap.size ≤ q ∨ v5.ownBlock = some q) :
    Calls Tryz.prog 91 #[.pointer (some ⟨x, 0, none⟩), .int .i64 k, .int .i64 m, v] w fun e w' => e = .returned (.int .i64 0) ∧ FmtI x t S (P ++ [(p.a, L)]) (c + 1) K F w0 eb v5 w' := by
  obtain ⟨F', h1, h2, h3, h4, h5⟩ := h
  have hap2 : ∀ q, v.ownBlock = some q → ¬ F' q := fun q hq e => by
    rcases hap q hq with e2 | e2
    · have := h1.inv.tight q e
      omega
    · exact (h5 q e2).1 e
  refine (store_some k m p v L w (h1.inv.below hb) hp hv hL hLp hc hap2).mono ?_
  rintro e w' ⟨he, F2, hs⟩
  have hH : FmtI x t S P c K F w0 eb v5 w := (show FmtI x t S P c K F w0 eb v5 w1 from ⟨F', h1, h2, h3, h4, h5⟩).below hb
  have hs2 := Step.behind hb hs
  have hlt : ∀ q, v5.ownBlock = some q → q < w1.heap.size := fun q hq => by
    obtain ⟨A, c, rfl, hA⟩ := h4
    rcases hA with ⟨rfl, _⟩ | ⟨b, o, rfl, hb, _⟩
    · cases hq
    · cases hq
      exact hb
  exact ⟨he, F2, h1.trans hs2, (hs2.own h3.lt h2).2, (hs2.own h3.lt h2).1.trans h3, h4.only hs2.only fun q hq => (h5 q hq).1, fun q hq => ⟨(hs2.own (hlt q hq) (h5 q hq).1).2, (h5 q hq).2⟩⟩
theorem fmt_map [MemNo] {x t c K eb : Nat} {S : List UInt8} {P : List Gd.Pa} {F : Nat → Prop} {w0 : World} {v5 : Value} (m : List UInt8) (hm : m.length = 16) (w : World) (h : FmtI x t S P c K F w0 eb v5 w) (hc : c < 64) :
    Calls Tryz.prog 93 #[.pointer (some ⟨x, 0, none⟩), mapV m] w fun e w' => e = .returned (.int .i64 0) ∧ FmtI x t S (P ++ [(576, m)]) (c + 1) K F w0 eb v5 w' := by
  have h0 := h
  obtain ⟨F', h1, h2, h3, h4, h5⟩ := h
  refine (setmap_f m hm w h1.inv hc).mono ?_
  rintro e w' ⟨he, F2, hs⟩
  have hlt : ∀ q, v5.ownBlock = some q → q < w.heap.size := fun q hq => by
    obtain ⟨A, c, rfl, hA⟩ := h4
    rcases hA with ⟨rfl, _⟩ | ⟨b, o, rfl, hb, _⟩
    · cases hq
    · cases hq
      exact hb
  exact ⟨he, F2, h1.trans hs, (hs.own h3.lt h2).2, (hs.own h3.lt h2).1.trans h3, h4.only hs.only fun q hq => (h5 q hq).1, fun q hq => ⟨(hs.own (hlt q hq) (h5 q hq).1).2, (h5 q hq).2⟩⟩
theorem fmt_ino [MemNo] {x t c K eb : Nat} {S : List UInt8} {P : List Gd.Pa} {F : Nat → Prop} {w0 : World} {v5 : Value} (i : Int) (y : Gd.Ino) (hy : y.Shape) (hm : Gd.mayI y = true) (w : World) (h : FmtI x t S P c K F w0 eb v5 w) (i1 : 1 ≤ i) (i2 : i ≤ 32) (hc : c < 64) :
    Calls Tryz.prog 94 #[.pointer (some ⟨x, 0, none⟩), .int .i64 i, inoV y] w fun e w' => e = .returned (.int .i64 0) ∧ FmtI x t S (P ++ [(Gd.inoAt i.toNat, Gd.inoB y)]) (c + 1) K F w0 eb v5 w' := by
  obtain ⟨F', h1, h2, h3, h4, h5⟩ := h
  refine (setino_f i y hy hm w h1.inv i1 i2 hc).mono ?_
  rintro e w' ⟨he, F2, hs⟩
  have hlt : ∀ q, v5.ownBlock = some q → q < w.heap.size := fun q hq => by
    obtain ⟨A, c, rfl, hA⟩ := h4
    rcases hA with ⟨rfl, _⟩ | ⟨b, o, rfl, hb, _⟩
    · cases hq
    · cases hq
      exact hb
  exact ⟨he, F2, h1.trans hs, (hs.own h3.lt h2).2, (hs.own h3.lt h2).1.trans h3, h4.only hs.only fun q hq => (h5 q hq).1, fun q hq => ⟨(hs.own (hlt q hq) (h5 q hq).1).2, (h5 q hq).2⟩⟩

set_option maxHeartbeats 8000000 in
set_option maxRecDepth 100000 in
theorem format_any [MemNo] {x t c K : Nat} {S : List UInt8} {P : List Gd.Pa} {F : Nat → Prop} (w : World) (h : MetaF x t S P c K w F) (hc : c + 50 ≤ 64) :
    Calls Tryz.prog 48 #[.pointer (some ⟨x, 0, none⟩)] w fun e w' => e = .returned (.int .i64 0) ∧ ∃ F', Step (MetaF x t S (P ++ Gd.fmtP) (c + 50) K) F w F' w' := by
  have H := Lib.hid h
  have HC := Lib.hid hc
  have HHd : Hid (Calls Tryz.prog 65 #[.int .i64 0] w (Loads w (Gd.headB 0))) := Lib.hid (puthead_any 0 (by omega) w)
  have HSl : Hid (∀ W, Calls Tryz.prog 62 #[.agg #[.int .i64 0, .int .i64 0, .int .i64 0, .int .i64 0, .int .i64 0, .int .i64 0]] W (Loads W (Gd.slotB Gd.slot0))) := Lib.hid fun W => putslot_any Gd.slot0 Gd.slot0_may W
  clear h hc
  go_enter Tryz.func48, Tryz.ntmps48
  go_wp2_with fail
  refine HHd.out.mono ?_
  rintro e w1 ⟨v3, rfl, ho3, hb1⟩
  clear HHd
  have HO3 := Lib.hid ho3
  have HB1 := Lib.hid hb1
  clear ho3 hb1
  go_wp2_with fail
  refine (HSl.out w1).mono ?_
  rintro e w2 ⟨v5, rfl, ho5, hb2⟩
  have HB2 := Lib.hid (HB1.out.trans (hb2.mono HB1.out.size))
  have HSt := Lib.hid (store_some 1 0 _ v3 (Gd.headB 0) w2 (H.out.below HB2.out) Gd.ptAt_head (HO3.out.keep hb2).at_ (by rw [Gd.headB_length]; exact Nat.le_refl _) (by rw [Gd.headB_length]; exact Nat.le_refl _) (by have := HC.out; omega) (fun q hq e => by
    have h3 := (own_block HO3.out q hq).1
    have h4 := H.out.tight q e
    omega))
  have HO5 := Lib.hid ho5
  have HQ5 : Hid (∀ q, v5.ownBlock = some q → w.heap.size ≤ q ∧ q < w2.heap.size) := Lib.hid fun q hq => by
    have h3 := own_block ho5 q hq
    have h4 := HB1.out.size
    omega
  clear ho5 hb2 HSl HO3
  go_wp2_with fail
  refine HSt.out.mono ?_
  rintro e w3 ⟨rfl, F3, hs3⟩
  -- the error's variable
  obtain ⟨w4, hw4⟩ : ∃ u, u = w3.alloc (.cells #[.int .i64 0] 26) := ⟨_, rfl⟩
  obtain ⟨eb, heb⟩ : ∃ eb, eb = w3.heap.size := ⟨_, rfl⟩
  have hb4 : Below w3.heap.size w3 w4 := by rw [hw4]; exact (Below.refl _ _).alloc (Nat.le_refl _) _
  have hc4 : CellsAt w4 eb 26 #[.int .i64 0] := by rw [hw4, heb]; exact heap_alloc_new _ _
  have HI4 : Hid (FmtI x t S (P ++ [(0, Gd.headB 0)] ++ Gd.fmtS 0) (c + 1 + 2 * 0) K F w eb v5 w4) := Lib.hid (by
    have hs4 := (Step.behind HB2.out hs3).ahead hb4
    rw [show Gd.fmtS 0 = [] from rfl, List.append_nil]
    refine ⟨F3, hs4, fun e => ?_, hc4, ?_, fun q hq => ⟨fun e => ?_, ?_⟩⟩
    · have := hs3.inv.tight eb e
      omega
    · exact ((HO5.out.at_).only hs3.only fun q hq e => by have h1 := H.out.tight q e; have h2 := HQ5.out q hq; omega).keep hb4
    · have h1 := hs3.old q (HQ5.out q hq).2 e
      have h2 := H.out.tight q h1
      have h3 := HQ5.out q hq
      omega
    · have h3 := (HQ5.out q hq).2
      have h4 := hs3.only.size
      omega)
  have HEb : Hid (w.heap.size ≤ eb) := Lib.hid (by have h1 := HB2.out.size; have h2 := hs3.only.size; omega)
  have Hw4 := Lib.hid hw4.symm
  have Heb := Lib.hid heb.symm
  have HC4 := Lib.hid hc4
  clear hs3 hw4 heb hb4 hc4 HSt
  have HQ := Lib.hid (And.intro HO5.out HQ5.out)
  go_upto_region 6 with fail
  rw [Hw4.out, Heb.out]
  go_loopw [24] (fun z wr => ∃ k : Nat, z = .int .i64 k ∧ k ≤ 8 ∧ Hid (FmtI x t S (P ++ [(0, Gd.headB 0)] ++ Gd.fmtS k) (c + 1 + 2 * k) K F w eb v5 wr)) (fun z _ => 8 - (intOf z).toNat)
  case atStart => exact ⟨0, rfl, by omega, HI4⟩
  case round =>
    obtain ⟨k, rfl, hk, HI⟩ := hrel
    by_cases hlt : k < 8
    · have h1 : (k : Int) < 8 := by omega
      have hP5 : BytesAt wr v5 (Gd.slotB Gd.slot0) := by
        obtain ⟨_, _, _, _, h4, _⟩ := HI.out
        exact h4
      have HSt := Lib.hid (fmt_store 2 ((k : Int) + 1) _ v5 (Gd.slotB Gd.slot0) wr HI.out (Below.refl _ _) (Gd.ptAt_slot hlt) hP5 (by rw [Gd.slotB_length]; exact Nat.le_refl _) (by rw [Gd.slotB_length]; exact Nat.le_refl _) (by have := HC.out; omega) (fun q hq => Or.inr hq))
      dsimp only at HSt
      have Hlt := Lib.hid hlt
      clear hP5 hlt
      go_wp2_with fail
      refine HSt.out.mono ?_
      rintro e w5 ⟨rfl, hI5⟩
      have HI5 := Lib.hid hI5
      clear hI5 HSt
      go_wp2_with fail
      refine (fmtfirst_any eb w5 (by obtain ⟨_, _, _, h3, _⟩ := HI5.out; exact h3)).mono ?_
      rintro e w6 ⟨rfl, hO6, hC6⟩
      have HI6 := Lib.hid (HI5.out.first HEb.out hO6 hC6)
      clear hO6 hC6
      have hmk : (Instr.makeSlice 22 (.int .i64 8) (.int .i64 8)).run Tryz.prog w6 = .ok (.slice (some ⟨w6.heap.size, 0, none⟩) 8 8) (w6.alloc (.cells (cellsB (List.replicate 8 0)) 5)) := made_bytes 8 (by omega) w6
      have hom := own_made w6 8 (by omega) w6.heap.size (Nat.le_refl _)
      have hba := (Below.refl w6.heap.size w6).alloc (Nat.le_refl _) (.cells (cellsB (List.replicate 8 0)) 5)
      obtain ⟨w7, hw7⟩ : ∃ u, u = w6.alloc (.cells (cellsB (List.replicate 8 0)) 5) := ⟨_, rfl⟩
      rw [← hw7] at hmk hom hba
      have HSt := Lib.hid (fmt_store 6 ((k : Int) + 1) _ _ (List.replicate 8 0) w7 HI6.out hba (Gd.ptAt_clog Hlt.out) hom.at_ (by simp) (by rw [List.length_replicate]; show 8 ≤ 1024; omega) (by have := HC.out; have := Hlt.out; omega) (fun q hq => Or.inl (own_block hom q hq).1))
      dsimp only at HSt
      clear hom hba hw7
      go_wp2_with fail
      refine HSt.out.mono ?_
      rintro e w8 ⟨rfl, hI8⟩
      have HI8 := Lib.hid hI8
      clear hI8 HSt hmk
      go_wp2_with fail
      refine (fmtfirst_any eb w8 (by obtain ⟨_, _, _, h3, _⟩ := HI8.out; exact h3)).mono ?_
      rintro e w9 ⟨rfl, hO9, hC9⟩
      have HI9 := Lib.hid (HI8.out.first HEb.out hO9 hC9)
      clear hO9 hC9
      have HI10 : Hid (FmtI x t S (P ++ [(0, Gd.headB 0)] ++ Gd.fmtS (k + 1)) (c + 1 + 2 * (k + 1)) K F w eb v5 w9) := Lib.hid (by
        have := HI9.out
        rw [Gd.fmtS_succ, ← List.append_assoc, ← List.append_assoc, show c + 1 + 2 * (k + 1) = c + 1 + 2 * k + 1 + 1 by omega]
        exact this)
      go_wp2
      go_roundw
      case rel => exact ⟨k + 1, by go_num, by have := Hlt.out; omega, HI10⟩
      case measure => simp [intOf]; have := Hlt.out; omega
    · obtain rfl : k = 8 := by omega
      clear hlt
      have HSm : Hid (Calls Tryz.prog 93 #[.pointer (some ⟨x, 0, none⟩), .agg #[.int .u8 0, .int .u8 0, .int .u8 0, .int .u8 0, .int .u8 0, .int .u8 0, .int .u8 0, .int .u8 0, .int .u8 0, .int .u8 0, .int .u8 0, .int .u8 0, .int .u8 0, .int .u8 0, .int .u8 0, .int .u8 0]] wr fun e w' => e = .returned (.int .i64 0) ∧ FmtI x t S (P ++ [(0, Gd.headB 0)] ++ Gd.fmtS 8 ++ [(576, List.replicate 16 0)]) (c + 1 + 2 * 8 + 1) K F w eb v5 w') := Lib.hid (fmt_map (List.replicate 16 0) rfl wr HI.out (by have := HC.out; omega))
      go_wp2_with fail
      refine HSm.out.mono ?_
      rintro e w5 ⟨rfl, hI5⟩
      have HI5 := Lib.hid hI5
      clear hI5 HSm HI
      go_wp2_with fail
      refine (fmtfirst_any eb w5 (by obtain ⟨_, _, _, h3, _⟩ := HI5.out; exact h3)).mono ?_
      rintro e w6 ⟨rfl, hO6, hC6⟩
      have HI6 := Lib.hid (HI5.out.first HEb.out hO6 hC6)
      clear hO6 hC6
      have HSi : Hid (Calls Tryz.prog 94 #[.pointer (some ⟨x, 0, none⟩), .int .i64 1, .agg #[.int .i64 2, .int .i64 1, .int .i64 0, .int .i64 0, .int .i64 0, .int .i64 0, .int .i64 0, .int .i64 0, .int .i64 0, .int .i64 0, .int .i64 0, .int .i64 0, .int .i64 0, .int .i64 0, .int .i64 0]] w6 fun e w' => e = .returned (.int .i64 0) ∧ FmtI x t S (P ++ [(0, Gd.headB 0)] ++ Gd.fmtS 8 ++ [(576, List.replicate 16 0)] ++ [(Gd.inoAt 1, Gd.inoB Gd.rootI)]) (c + 1 + 2 * 8 + 1 + 1) K F w eb v5 w') := Lib.hid (fmt_ino 1 Gd.rootI Gd.root_shape Gd.root_may w6 HI6.out (by omega) (by omega) (by have := HC.out; omega))
      go_wp2_with fail
      refine HSi.out.mono ?_
      rintro e w7 ⟨rfl, hI7⟩
      have HI7 := Lib.hid hI7
      clear hI7 HSi HI5 HI6
      go_wp2_with fail
      refine (fmtfirst_any eb w7 (by obtain ⟨_, _, _, h3, _⟩ := HI7.out; exact h3)).mono ?_
      rintro e w8 ⟨rfl, hO8, hC8⟩
      have HI8 := Lib.hid (HI7.out.first HEb.out hO8 hC8)
      clear hO8 hC8
      have HI9 : Hid (FmtI x t S (P ++ [(0, Gd.headB 0)] ++ Gd.fmtS 8 ++ [(576, List.replicate 16 0)] ++ [(Gd.inoAt 1, Gd.inoB Gd.rootI)] ++ Gd.fmtN 0) (c + 19 + 0) K F w eb v5 w8) := Lib.hid (by
        have := HI8.out
        rw [show Gd.fmtN 0 = [] from rfl, List.append_nil]
        exact this)
      clear HI7 HI8
      go_upto_region 14 with fail
      go_loopw [10] (fun z wr => ∃ k : Nat, z = .int .i64 (k + 1 : Nat) ∧ k ≤ 31 ∧ Hid (FmtI x t S (P ++ [(0, Gd.headB 0)] ++ Gd.fmtS 8 ++ [(576, List.replicate 16 0)] ++ [(Gd.inoAt 1, Gd.inoB Gd.rootI)] ++ Gd.fmtN k) (c + 19 + k) K F w eb v5 wr)) (fun z _ => 32 - (intOf z).toNat)
      case atStart => exact ⟨0, rfl, by omega, HI9⟩
      case round =>
        obtain ⟨k, rfl, hk, HI⟩ := hrel
        by_cases hlt : k < 31
        · have h1 : ((k + 1 : Nat) : Int) < 32 := by omega
          have h2 : (k : Int) + 1 < 32 := by omega
          have HSi : Hid (Calls Tryz.prog 94 #[.pointer (some ⟨x, 0, none⟩), .int .i64 ((k : Int) + 1 + 1), .agg #[.int .i64 0, .int .i64 0, .int .i64 0, .int .i64 0, .int .i64 0, .int .i64 0, .int .i64 0, .int .i64 0, .int .i64 0, .int .i64 0, .int .i64 0, .int .i64 0, .int .i64 0, .int .i64 0, .int .i64 0]] wr fun e w' => e = .returned (.int .i64 0) ∧ FmtI x t S (P ++ [(0, Gd.headB 0)] ++ Gd.fmtS 8 ++ [(576, List.replicate 16 0)] ++ [(Gd.inoAt 1, Gd.inoB Gd.rootI)] ++ Gd.fmtN (k + 1)) (c + 19 + (k + 1)) K F w eb v5 w') := Lib.hid (by
            have := fmt_ino ((k : Int) + 1 + 1) Gd.noIno noIno_shape (by decide) wr HI.out (by omega) (by omega) (by have := HC.out; omega)
            rw [Gd.fmtN_succ, ← List.append_assoc]
            rw [show ((k : Int) + 1 + 1).toNat = k + 2 by omega] at this
            exact this)
          have Hlt := Lib.hid hlt
          clear hlt
          go_wp2_with fail
          refine HSi.out.mono ?_
          rintro e w5 ⟨rfl, hI5⟩
          have HI5 := Lib.hid hI5
          clear hI5 HSi
          go_wp2_with fail
          refine (fmtfirst_any eb w5 (by obtain ⟨_, _, _, h3, _⟩ := HI5.out; exact h3)).mono ?_
          rintro e w6 ⟨rfl, hO6, hC6⟩
          have HI6 := Lib.hid (HI5.out.first HEb.out hO6 hC6)
          clear hO6 hC6
          go_wp2
          go_roundw
          case rel => exact ⟨k + 1, by go_num, by have := Hlt.out; omega, HI6⟩
          case measure => simp [intOf]; have := Hlt.out; omega
        · obtain rfl : k = 31 := by omega
          have hce := (show CellsAt wr eb 26 #[.int .i64 0] by obtain ⟨_, _, _, h3, _⟩ := HI.out; exact h3)
          have c0 := cell_of_row wr eb 0 _ _ _ hce
          clear hlt hce
          go_wp2
          go_ret
          obtain ⟨F', h1, _⟩ := HI.out
          refine ⟨rfl, F', h1.mono fun h' => ?_⟩
          have e : P ++ Gd.fmtP = P ++ [(0, Gd.headB 0)] ++ Gd.fmtS 8 ++ [(576, List.replicate 16 0)] ++ [(Gd.inoAt 1, Gd.inoB Gd.rootI)] ++ Gd.fmtN 31 := by
            unfold Gd.fmtP
            simp only [List.append_assoc]
          rw [e]
          exact h'

end Go.Proofs.YtccpdkjonepoiaaGreatDoor

/- Plain functions for names, paths, joins and hashes, and their laws. No program in sight. -/
namespace Go.Proofs.YtccpdkjonepoiaaGreatDoor.Np

def okc (c : UInt8) : Bool := (decide (97 ≤ c.toNat) && decide (c.toNat ≤ 122)) || (decide (48 ≤ c.toNat) && decide (c.toNat ≤ 57)) || c == 46 || c == 95 || c == 45

/-- is it a name -/
def nameB (l : List UInt8) : Bool := l.all okc && !l.isEmpty && decide (l.length ≤ 12) && !(l == [46]) && !(l == [46, 46])

/-- cut at every slash -/
def splitS : List UInt8 → List (List UInt8)
  | [] => [[]]
  | c :: r => if c = 47 then [] :: splitS r else
    match splitS r with
    | p :: ps => (c :: p) :: ps
    | [] => [[c]]

/-- the first piece, and the rest -/
def headS : List UInt8 → List UInt8
  | [] => []
  | c :: r => if c = 47 then [] else c :: headS r
def tailS : List UInt8 → List (List UInt8)
  | [] => []
  | c :: r => if c = 47 then splitS r else tailS r

theorem splitS_eq : ∀ l, splitS l = headS l :: tailS l
  | [] => rfl
  | c :: r => by
    unfold splitS headS tailS
    by_cases h : c = 47
    · simp [h]
    · simp only [h, if_false]
      rw [splitS_eq r]

/-- a path's names -/
def pathL : List UInt8 → Option (List (List UInt8))
  | [] => none
  | c :: r => if c = 47 then (if r = [] then some [] else if decide ((splitS r).length ≤ 6) && (splitS r).all nameB then some (splitS r) else none) else none

/-- '/' and the names with '/' between -/
def joinS : List (List UInt8) → List UInt8
  | [] => []
  | [x] => x
  | x :: y :: r => x ++ 47 :: joinS (y :: r)

def joinP (L : List (List UInt8)) : List UInt8 := 47 :: joinS L

/-- the path of names -/
def joinL (L : List (List UInt8)) : Option (List UInt8) :=
  if decide (L.length ≤ 6) && L.all nameB then some (joinP L) else none

theorem okc_slash : okc 47 = false := by decide
theorem name_noslash {l : List UInt8} (h : nameB l = true) : ∀ c ∈ l, c ≠ 47 := by
  intro c hc e
  subst e
  simp only [nameB, Bool.and_eq_true, List.all_eq_true] at h
  have := h.1.1.1.1 _ hc
  rw [okc_slash] at this
  cases this
theorem name_ne {l : List UInt8} (h : nameB l = true) : l ≠ [] := by
  intro e; subst e; simp [nameB] at h

theorem splitS_plain : ∀ (x : List UInt8), (∀ c ∈ x, c ≠ 47) → splitS x = [x]
  | [], _ => rfl
  | c :: r, h => by
    unfold splitS
    rw [if_neg (h c (by simp)), splitS_plain r (fun d hd => h d (by simp [hd]))]

theorem splitS_app : ∀ (x r : List UInt8), (∀ c ∈ x, c ≠ 47) → splitS (x ++ 47 :: r) = x :: splitS r
  | [], r, _ => by simp [splitS]
  | c :: x, r, h => by
    have ih := splitS_app x r (fun d hd => h d (by simp [hd]))
    rw [List.cons_append, splitS, if_neg (h c (by simp)), ih]

theorem splitS_join : ∀ (L : List (List UInt8)), L ≠ [] → (∀ x ∈ L, ∀ c ∈ x, c ≠ 47) → splitS (joinS L) = L
  | [], h, _ => absurd rfl h
  | [x], _, h => splitS_plain x (h x (by simp))
  | x :: y :: r, _, h => by
    unfold joinS
    rw [splitS_app x _ (h x (by simp)), splitS_join (y :: r) (by simp) (fun z hz => h z (by simp [hz]))]

theorem joinS_splitS : ∀ (l : List UInt8), joinS (splitS l) = l
  | [] => rfl
  | c :: r => by
    have ih := joinS_splitS r
    unfold splitS
    by_cases h : c = 47
    · rw [if_pos h]
      rw [splitS_eq r] at ih ⊢
      unfold joinS
      rw [ih, h]; rfl
    · rw [if_neg h]
      rw [splitS_eq r] at ih ⊢
      simp only
      cases ht : tailS r with
      | nil => rw [ht] at ih; simp only [joinS] at ih ⊢; rw [ih]
      | cons y ys =>
        rw [ht] at ih
        have e : joinS ((c :: headS r) :: y :: ys) = c :: joinS (headS r :: y :: ys) := rfl
        rw [e, ih]

theorem joinS_ne : ∀ (L : List (List UInt8)), L ≠ [] → (∀ x ∈ L, x ≠ []) → joinS L ≠ []
  | [], h, _ => absurd rfl h
  | [x], _, h => h x (by simp)
  | x :: y :: r, _, h => by
    unfold joinS
    simp

/-- the path of joined names has just these names, where they may be -/
theorem pathL_join (L : List (List UInt8)) (h : (decide (L.length ≤ 6) && L.all nameB) = true) : pathL (joinP L) = some L := by
  simp only [Bool.and_eq_true, decide_eq_true_eq, List.all_eq_true] at h
  rw [joinP, pathL, if_pos rfl]
  by_cases hL : L = []
  · subst hL; rfl
  · rw [if_neg (joinS_ne L hL fun x hx => name_ne (h.2 x hx)), splitS_join L hL fun x hx => name_noslash (h.2 x hx)]
    rw [if_pos]
    simp only [Bool.and_eq_true, decide_eq_true_eq, List.all_eq_true]
    exact h

/-- .. and nowhere else -/
theorem pathL_some {l : List UInt8} {L : List (List UInt8)} (h : pathL l = some L) : (decide (L.length ≤ 6) && L.all nameB) = true ∧ joinP L = l := by
  unfold pathL at h
  split at h
  · cases h
  · rename_i c r
    by_cases hc : c = 47
    · rw [if_pos hc] at h
      by_cases hr : r = []
      · rw [if_pos hr] at h
        cases h
        exact ⟨rfl, by subst hc hr; rfl⟩
      · rw [if_neg hr] at h
        split at h
        · rename_i hcond
          cases h
          exact ⟨hcond, by rw [joinP, joinS_splitS, hc]⟩
        · cases h
    · rw [if_neg hc] at h; cases h

theorem joinL_iff (L : List (List UInt8)) : (pathL (joinP L) = some L) ↔ (decide (L.length ≤ 6) && L.all nameB) = true :=
  ⟨fun h => (pathL_some h).1, pathL_join L⟩

/-! the reference's loop over a path's bytes -/
def go : List (List UInt8) → List UInt8 → List UInt8 → Option (List (List UInt8))
  | out, cur, [] => if nameB cur && decide (out.length ≠ 6) then some (out ++ [cur]) else none
  | out, cur, c :: r => if c = 47 then (if nameB cur && decide (out.length ≠ 6) then go (out ++ [cur]) [] r else none) else go out (cur ++ [c]) r

theorem go_eq : ∀ (r : List UInt8) (out : List (List UInt8)) (cur : List UInt8), out.length ≤ 6 →
    go out cur r = if (decide (out.length + 1 + (tailS r).length ≤ 6) && ((cur ++ headS r) :: tailS r).all nameB) = true then some (out ++ (cur ++ headS r) :: tailS r) else none
  | [], out, cur, h6 => by
    simp only [go, headS, tailS, List.append_nil, List.length_nil, Nat.add_zero, List.all_cons, List.all_nil, Bool.and_true]
    by_cases h1 : nameB cur = true <;> by_cases h2 : out.length = 6
    · simp [h1, h2]
    · have : out.length + 1 ≤ 6 := by omega
      simp [h1, h2, this]
    · simp [h1]
    · simp [h1]
  | c :: r, out, cur, h6 => by
    unfold go headS tailS
    by_cases hc : c = 47
    · simp only [hc, if_true, List.append_nil]
      by_cases h1 : nameB cur = true
      · by_cases h2 : out.length = 6
        · have h3 : ¬ (out.length + 1 + (splitS r).length ≤ 6) := by omega
          simp [h1, h2]
          intro h; omega
        · rw [if_pos (by simp [h1, h2]), go_eq r (out ++ [cur]) [] (by simp; omega), splitS_eq r]
          simp only [List.length_append, List.length_cons, List.length_nil, List.nil_append, List.all_cons, h1, Bool.true_and, List.append_assoc, List.singleton_append]
          have e : (out.length + (0 + 1) + 1 + (tailS r).length ≤ 6) = (out.length + 1 + ((tailS r).length + 1) ≤ 6) := by
            apply propext; omega
          simp only [e]
      · simp [h1]
    · simp only [hc, if_false]
      rw [go_eq r out (cur ++ [c]) h6]
      simp only [List.append_assoc, List.singleton_append]

theorem pathL_go (r : List UInt8) (h : r ≠ []) : pathL (47 :: r) = go [] [] r := by
  rw [go_eq r [] [] (by simp)]
  rw [pathL, if_pos rfl, if_neg h, splitS_eq r]
  simp only [List.length_nil, List.nil_append, List.length_cons]
  have e : ((tailS r).length + 1 ≤ 6) = (0 + 1 + (tailS r).length ≤ 6) := by apply propext; omega
  simp only [e]

/-! parents -/
def parentL (l : List UInt8) : Option (List (List UInt8) × List UInt8) :=
  match pathL l with
  | some L => match L.getLast? with
    | some x => some (L.dropLast, x)
    | none => none
  | none => none

/-! hashes -/
def hashStep (h : Nat) (c : UInt8) : Nat := ((h ^^^ c.toNat) * 16777619) % 4294967296
def basis : Nat := 2166136261
theorem basis_lt : basis < 4294967296 := by unfold basis; omega
def hashN (l : List UInt8) : Nat := l.foldl hashStep basis
theorem hashStep_lt (h : Nat) (c : UInt8) : hashStep h c < 4294967296 := by
  unfold hashStep
  exact Nat.mod_lt _ (by decide)
theorem foldl_lt : ∀ (l : List UInt8) (h : Nat), h < 4294967296 → l.foldl hashStep h < 4294967296
  | [], _, hh => hh
  | c :: r, h, _ => foldl_lt r _ (hashStep_lt h c)
theorem hashN_lt (l : List UInt8) : hashN l < 4294967296 := by
  unfold hashN
  exact foldl_lt l _ basis_lt
theorem hashN_snoc (l : List UInt8) (c : UInt8) : hashN (l ++ [c]) = hashStep (hashN l) c := by
  unfold hashN
  rw [List.foldl_append, List.foldl_cons, List.foldl_nil]

/-- the sum of the bits that differ, of the first k -/
def bitx (a b : Nat) : Nat → Nat
  | 0 => 0
  | k + 1 => bitx a b k + (if a / 2 ^ k % 2 ≠ b / 2 ^ k % 2 then 2 ^ k else 0)

theorem xor_low : ∀ (a b k : Nat), bitx a b k = (a ^^^ b) % 2 ^ k
  | a, b, 0 => by simp [bitx, Nat.mod_one]
  | a, b, k + 1 => by
    have e : (a ^^^ b) % 2 ^ (k + 1) = (a ^^^ b) % 2 ^ k + 2 ^ k * ((a ^^^ b) / 2 ^ k % 2) := by
      rw [Nat.pow_succ, Nat.mod_mul]
    have e2 : (a ^^^ b) / 2 ^ k % 2 = if a / 2 ^ k % 2 ≠ b / 2 ^ k % 2 then 1 else 0 := by
      have ht := Nat.testBit_xor (x := a) (y := b) (i := k)
      rw [Nat.testBit_eq_decide_div_mod_eq, Nat.testBit_eq_decide_div_mod_eq, Nat.testBit_eq_decide_div_mod_eq] at ht
      have h0 : (a ^^^ b) / 2 ^ k % 2 < 2 := Nat.mod_lt _ (by omega)
      have h1 : a / 2 ^ k % 2 < 2 := Nat.mod_lt _ (by omega)
      have h2 : b / 2 ^ k % 2 < 2 := Nat.mod_lt _ (by omega)
      generalize (a ^^^ b) / 2 ^ k % 2 = z at *
      generalize a / 2 ^ k % 2 = x at *
      generalize b / 2 ^ k % 2 = y at *
      rcases (show x = 0 ∨ x = 1 by omega) with rfl | rfl <;> rcases (show y = 0 ∨ y = 1 by omega) with rfl | rfl <;> rcases (show z = 0 ∨ z = 1 by omega) with rfl | rfl <;> simp at ht ⊢
    rw [bitx, xor_low a b k, e, e2]
    split <;> simp

theorem xor_byte (h c : Nat) (hc : c < 256) : h ^^^ c = h - h % 256 + bitx h c 8 := by
  rw [xor_low]
  have e : (h ^^^ c) / 256 = h / 256 := by
    rw [show 256 = 2 ^ 8 from rfl, ← Nat.shiftRight_eq_div_pow, ← Nat.shiftRight_eq_div_pow, Nat.shiftRight_xor_distrib]
    rw [Nat.shiftRight_eq_div_pow c, Nat.div_eq_of_lt (by omega), Nat.xor_zero]
  have := Nat.div_add_mod (h ^^^ c) 256
  have h2 := Nat.div_add_mod h 256
  rw [show (2 : Nat) ^ 8 = 256 from rfl]
  omega

end Go.Proofs.YtccpdkjonepoiaaGreatDoor.Np

/- Walks: few, names.May, commonsref05.May. -/
namespace Go.Proofs.YtccpdkjonepoiaaGreatDoor
open Go.RowKit

/-- is it the number of a letter of a name -/
def okr (r : Nat) : Bool := (decide (97 ≤ r) && decide (r ≤ 122)) || (decide (48 ≤ r) && decide (r ≤ 57)) || r == 46 || r == 95 || r == 45
theorem okr_lt {r : Nat} (h : okr r = true) : r < 128 := by
  unfold okr at h
  simp only [Bool.or_eq_true, Bool.and_eq_true, decide_eq_true_eq, beq_iff_eq] at h
  omega
theorem okc_okr (c : UInt8) : Np.okc c = okr c.toNat := by
  have h46 : (c == 46) = (c.toNat == 46) := by rw [Bool.eq_iff_iff]; simp [← UInt8.toNat_inj]
  have h95 : (c == 95) = (c.toNat == 95) := by rw [Bool.eq_iff_iff]; simp [← UInt8.toNat_inj]
  have h45 : (c == 45) = (c.toNat == 45) := by rw [Bool.eq_iff_iff]; simp [← UInt8.toNat_inj]
  unfold Np.okc okr
  rw [h46, h95, h45]

theorem take_snoc (s : ByteArray) (k : Nat) (h : k < s.size) : s.data.toList.take (k + 1) = s.data.toList.take k ++ [s[k]] := by
  rw [List.take_succ_eq_append_getElem (by simpa using h)]; rfl
theorem all_next {s : ByteArray} {pos : Nat} (h : (s.data.toList.take pos).all Np.okc = true) (hp : pos < s.size) (hr : okr (Utf8.decode s pos).1 = true) :
    (Utf8.decode s pos).2 = 1 ∧ (s.data.toList.take (pos + 1)).all Np.okc = true := by
  have ha : (s[pos]'hp).toNat < 128 := by
    rcases Nat.lt_or_ge (s[pos]'hp).toNat 128 with h1 | h1
    · exact h1
    · have := (decode_high s pos hp h1).1
      have := okr_lt hr
      omega
  rw [decode_ascii s pos hp ha] at hr ⊢
  refine ⟨rfl, ?_⟩
  rw [take_snoc s pos hp, List.all_append, h, Bool.true_and, List.all_cons, List.all_nil, Bool.and_true, okc_okr]
  exact hr
theorem all_stop {s : ByteArray} {pos : Nat} (hp : pos < s.size) (hr : okr (Utf8.decode s pos).1 = false) : Np.nameB s.data.toList = false := by
  have hn : Np.okc (s[pos]'hp) = false := by
    rw [okc_okr]
    rcases Nat.lt_or_ge (s[pos]'hp).toNat 128 with h1 | h1
    · rw [decode_ascii s pos hp h1] at hr; exact hr
    · cases h : okr (s[pos]'hp).toNat with
      | false => rfl
      | true => have := okr_lt h; omega
  have hm : (s[pos]'hp) ∈ s.data.toList := by simp [ByteArray.getElem_eq_getElem_data]
  have : s.data.toList.all Np.okc = false := by
    rw [List.all_eq_false]
    exact ⟨_, hm, by rw [hn]; simp⟩
  unfold Np.nameB
  rw [this]; rfl
theorem all_end {s : ByteArray} {pos : Nat} (h : (s.data.toList.take pos).all Np.okc = true) (hp : ¬ pos < s.size) :
    Np.nameB s.data.toList = (!s.data.toList.isEmpty && decide (s.data.toList.length ≤ 12) && !(s.data.toList == [46]) && !(s.data.toList == [46, 46])) := by
  rw [List.take_of_length_le (by rw [← Lib.size_eq]; omega)] at h
  unfold Np.nameB
  rw [h, Bool.true_and]

set_option maxHeartbeats 1000000 in
theorem may_any (s : ByteArray) (w : World) (hs : s.size ≤ 9223372036854775807) :
    Calls Tryz.prog 166 #[.string s] w fun e w' => e = .returned (.bool (Np.nameB s.data.toList)) ∧ Below w.heap.size w w' := by
  go_enter Tryz.func166, Tryz.ntmps166
  go_wp2
  go_loopw [] (fun wr => ∃ pos : Nat, wr.heap[w.heap.size]? = some (.stringIter s pos) ∧ Below w.heap.size w wr ∧ Hid ((s.data.toList.take pos).all Np.okc = true)) (fun wr => s.size - wr.iterPos w.heap.size)
  case atStart =>
    refine ⟨0, ?_, (Below.refl _ w).alloc (Nat.le_refl _) _, by show (s.data.toList.take 0).all Np.okc = true; simp⟩
    have := World.iter_heap w s 0
    simpa using this
  case round =>
    obtain ⟨pos, hit, hbw, hok⟩ := hrel
    by_cases hp : pos < s.size
    · have hnx : ∀ ty, (Instr.next (.pointer (some ⟨w.heap.size, 0, none⟩)) true ty).run Tryz.prog wr = _ := fun ty => Lib.run_next_any_at wr w.heap.size s pos ty hit hp
      have hbw2 := Lib.below_iterAt hbw (k := w.heap.size) (by omega) s (pos + (Utf8.decode s pos).2)
      have hit2 := Lib.iterAt_heap wr w.heap.size s pos (pos + (Utf8.decode s pos).2) hit
      obtain ⟨r, hr⟩ : ∃ r, r = (Utf8.decode s pos).1 := ⟨_, rfl⟩
      have Hr := Lib.hid hr
      rw [← hr] at hnx
      clear hr
      go_wp2
      all_goals first
        | (have hk : okr r = true := by
             (simp only [okr, Bool.or_eq_true, Bool.and_eq_true, decide_eq_true_eq, beq_iff_eq]
              try simp only [Bool.not_eq_eq_eq_not, Bool.not_true, Bool.not_false, decide_eq_true_eq, decide_eq_false_iff_not, bne_iff_ne, bne_eq_false_iff_eq, ne_eq] at *
              omega)
           rw [Hr.out] at hk
           obtain ⟨h1, h2⟩ := all_next hok.out hp hk
           go_roundw
           case rel => exact ⟨_, hit2, hbw2, by rw [h1]; exact h2⟩
           case measure =>
             rw [World.iterPos, World.iterPos, hit2, hit]
             show s.size - (pos + (Utf8.decode s pos).2) < s.size - pos
             omega)
        | (have hk : okr r = false := by
             (rw [Bool.eq_false_iff]
              simp only [okr, ne_eq, Bool.or_eq_true, Bool.and_eq_true, decide_eq_true_eq, beq_iff_eq]
              try simp only [Bool.not_eq_eq_eq_not, Bool.not_true, Bool.not_false, decide_eq_true_eq, decide_eq_false_iff_not, bne_iff_ne, bne_eq_false_iff_eq, ne_eq] at *
              omega)
           rw [Hr.out] at hk
           go_ret
           exact ⟨ret_bool (all_stop hp hk).symm, hbw2⟩)
    · have hnx : ∀ ty, (Instr.next (.pointer (some ⟨w.heap.size, 0, none⟩)) true ty).run Tryz.prog wr = _ := fun ty => Lib.run_next_end_at wr w.heap.size s pos ty hit hp
      have hend := all_end hok.out hp
      rw [← Lib.toList_data, show s.toList.length = s.size by rw [Lib.toList_data, ← Lib.size_eq]] at hend
      have Hend := Lib.hid hend
      clear hend
      go_wp2
      all_goals
        go_ret
        refine ⟨ret_bool ?_, hbw⟩
        rw [← Lib.toList_data, Hend.out]
        generalize s.toList = l at *
        first
          | (have h : l = [] := by assumption
             rw [h]; rfl)
          | (have h : l = [46] := by assumption
             rw [h]; simp; done)
          | (have h : (s.size : Int) ≤ 12 := by assumption
             rw [decide_eq_true (by omega : s.size ≤ 12)]; simp; done)
          | (rw [decide_eq_false (by omega : ¬ s.size ≤ 12)]; simp; done)

theorem nameB_no (l : List UInt8) (h : l.isEmpty = true ∨ 12 < l.length ∨ l = [46] ∨ l = [46, 46]) : Np.nameB l = false := by
  unfold Np.nameB
  rcases h with h | h | h | h
  · rw [h]; simp
  · rw [decide_eq_false (by omega : ¬ l.length ≤ 12)]; simp
  · rw [h]; simp
  · rw [h]; simp
theorem nameB_yes (l : List UInt8) (h1 : l.isEmpty = false) (h2 : l.length ≤ 12) (h3 : l ≠ [46]) (h4 : l ≠ [46, 46]) : Np.nameB l = l.all Np.okc := by
  unfold Np.nameB
  rw [h1, decide_eq_true h2, beq_eq_false_iff_ne.2 h3, beq_eq_false_iff_ne.2 h4]; simp
theorem okc_num {s : ByteArray} {k : Nat} (hp : k < s.size) {b : Bool} (h : okr (s[k]'hp).toNat = b) : (s.data.toList.take (k + 1)).all Np.okc = ((s.data.toList.take k).all Np.okc && b) := by
  rw [take_snoc s k hp, List.all_append, List.all_cons, List.all_nil, Bool.and_true, okc_okr, h]
theorem all_take_false {l : List UInt8} {k : Nat} (h : (l.take k).all Np.okc = false) : l.all Np.okc = false := by
  rw [List.all_eq_false] at h ⊢
  obtain ⟨x, hx, h2⟩ := h
  exact ⟨x, List.mem_of_mem_take hx, h2⟩


end Go.Proofs.YtccpdkjonepoiaaGreatDoor

/- Walks: the path test, slices.IndexFunc, slices.ContainsFunc at it, commonsref05.Same. -/
namespace Go.Proofs.YtccpdkjonepoiaaGreatDoor
open Go.RowKit

/-- a list of texts that lies in memory from block B on, and may be written -/
def Strs (w : World) (B : Nat) (A : Option Addr) (L : List (List UInt8)) : Prop :=
  L = [] ∨ ∃ b o, A = some ⟨b, o, none⟩ ∧ B ≤ b ∧ b < w.heap.size ∧ (∀ j x, L[j]? = some x → w.cell? ⟨b, o + j, none⟩ = some (.string ⟨x.toArray⟩)) ∧ ∀ j, w.frozen? ⟨b, j, none⟩ = false
theorem Strs.keep {w w' : World} {B : Nat} {A : Option Addr} {L : List (List UInt8)} (h : Strs w B A L) (hb : Below w.heap.size w w') : Strs w' B A L := by
  rcases h with h | ⟨b, o, h1, h2, h3, h4, h5⟩
  · exact Or.inl h
  · have := hb.size
    exact Or.inr ⟨b, o, h1, h2, by omega, fun j x hx => (hb.cell (p := ⟨b, o + j, none⟩) h3).trans (h4 j x hx), fun j => (hb.frozen (p := ⟨b, j, none⟩) h3).trans (h5 j)⟩
theorem Strs.low {w : World} {B B' : Nat} {A : Option Addr} {L : List (List UInt8)} (h : Strs w B A L) (hB : B' ≤ B) : Strs w B' A L := by
  rcases h with h | ⟨b, o, h1, h2, h3, h4⟩
  · exact Or.inl h
  · exact Or.inr ⟨b, o, h1, by omega, h3, h4⟩
theorem Strs.drewN {w : World} {B : Nat} {A : Option Addr} {L : List (List UInt8)} (h : Strs w B A L) (n : Nat) : Strs (w.drewN n) B A L := h

set_option maxHeartbeats 400000 in
theorem lit_any (s : ByteArray) (w : World) (hs : s.size ≤ 9223372036854775807) :
    Calls Tryz.prog 165 #[.string s] w fun e w' => e = .returned (.bool (!Np.nameB s.data.toList)) ∧ Below w.heap.size w w' := by
  go_enter Tryz.func165, Tryz.ntmps165
  go_wp2_with (go_at_call 166; refine (may_any s _ hs).mono ?_; rintro e w' ⟨rfl, hb⟩)
  go_ret
  exact ⟨rfl, by assumption⟩

theorem all_step {L : List (List UInt8)} {k : Nat} {x : List UInt8} (h : (L.take k).all Np.nameB = true) (hx : L[k]? = some x) : (L.take (k + 1)).all Np.nameB = Np.nameB x := by
  rw [List.take_add_one, hx, List.all_append, h]; simp

/-- the literal at a list of bytes, its answer decided -/
theorem lit_l (x : List UInt8) (b : Bool) (h : Np.nameB x = b) (w : World) (hs : x.length ≤ 1000000) :
    Calls Tryz.prog 165 #[.string ⟨x.toArray⟩] w fun e w' => e = .returned (.bool (!b)) ∧ Below w.heap.size w w' := by
  have := lit_any ⟨x.toArray⟩ w (by rw [Lib.size_eq]; show x.length ≤ _; omega)
  rw [show (⟨x.toArray⟩ : ByteArray).data.toList = x from rfl, h] at this
  exact this

def IdxPost (L : List (List UInt8)) (w : World) (e : Ending) (w' : World) : Prop := ∃ r : Int, e = .returned (.int .i64 r) ∧ decide (0 ≤ r) = !L.all Np.nameB ∧ Below w.heap.size w w'
theorem all_found {L : List (List UInt8)} {k : Nat} {x : List UInt8} (hx : L[k]? = some x) (h : Np.nameB x = false) : L.all Np.nameB = false := by
  rw [List.all_eq_false]
  exact ⟨x, List.mem_of_getElem? hx, by rw [h]; simp⟩

set_option maxHeartbeats 1000000 in
theorem index_any (A : Option Addr) (L : List (List UInt8)) (c : Nat) (B : Nat) (w : World) (hL : L.length ≤ 1000000) (hsz : ∀ x ∈ L, x.length ≤ 1000000) (hS : Strs w B A L) :
    Calls Tryz.prog 189 #[.slice A L.length c, .func (.func 165) #[] #[]] w (IdxPost L w) := by
  have HS := Lib.hid hS; clear hS
  have HZ := Lib.hid hsz; clear hsz
  go_enter Tryz.func189, Tryz.ntmps189
  go_wp2
  go_loopw [5, 8] (fun _ i wr => ∃ k : Nat, k ≤ L.length ∧ i = .int .i64 k ∧ Hid ((L.take k).all Np.nameB = true) ∧ Below w.heap.size w wr) (fun _ i _ => L.length - (intOf i).toNat)
  case atStart => exact ⟨0, by omega, rfl, by show (L.take 0).all _ = true; simp, Below.refl _ _⟩
  case round =>
    obtain ⟨k, hk, rfl, hok, hbw⟩ := hrel
    by_cases hlt : k < L.length
    · obtain ⟨x, hx⟩ : ∃ x, L[k]? = some x := ⟨_, List.getElem?_eq_getElem hlt⟩
      rcases HS.out with h | ⟨b, o, rfl, h2, h3, h4, _⟩
      · subst h; simp at hlt
      have hc : wr.cell? ⟨b, o + k, none⟩ = some (.string ⟨x.toArray⟩) := (hbw.cell (p := ⟨b, o + k, none⟩) h3).trans (h4 k x hx)
      clear h4
      have hxl := HZ.out x (List.mem_of_getElem? hx)
      have Hx := Lib.hid hx; clear hx
      by_cases hn : Np.nameB x = true
      · have Hn := Lib.hid hn; clear hn
        go_wp2_with fail
        refine (lit_l x true Hn.out _ hxl).mono ?_
        rintro e w2 ⟨rfl, hb⟩
        go_wp2
        go_roundw
        case rel => exact ⟨k + 1, by omega, by go_num, by show _ = _; rw [all_step hok.out Hx.out, Hn.out], hbw.trans (hb.mono hbw.size)⟩
        case measure => simp [intOf]; omega
      · have hn' : Np.nameB x = false := by simpa using hn
        have Hn := Lib.hid hn'; clear hn hn'
        go_wp2_with fail
        refine (lit_l x false Hn.out _ hxl).mono ?_
        rintro e w2 ⟨rfl, hb⟩
        go_wp2
        go_ret
        refine ⟨_, rfl, ?_, hbw.trans (hb.mono hbw.size)⟩
        rw [all_found Hx.out Hn.out]; simp
    · go_wp2
      go_ret
      refine ⟨_, rfl, ?_, hbw⟩
      have := hok.out
      rw [List.take_of_length_le (by omega)] at this
      rw [this]; rfl

set_option maxHeartbeats 400000 in
theorem contains_any (A : Option Addr) (L : List (List UInt8)) (c : Nat) (B : Nat) (w : World) (hL : L.length ≤ 1000000) (hsz : ∀ x ∈ L, x.length ≤ 1000000) (hS : Strs w B A L) :
    Calls Tryz.prog 164 #[.slice A L.length c, .func (.func 165) #[] #[]] w fun e w' => e = .returned (.bool (!L.all Np.nameB)) ∧ Below w.heap.size w w' := by
  have h := fun W => index_any A L c B W hL hsz
  have H := Lib.hid h; clear h
  have HS := Lib.hid hS; clear hS
  clear hsz
  go_enter Tryz.func164, Tryz.ntmps164
  go_wp2_with fail
  refine (H.out _ HS.out).mono ?_
  rintro e w2 ⟨r, rfl, hr, hb⟩
  have Hr := Lib.hid hr; clear hr
  go_wp2
  go_ret
  exact ⟨ret_bool Hr.out, hb⟩


end Go.Proofs.YtccpdkjonepoiaaGreatDoor

/- Walks: names.Path over the library's Split. -/
namespace Go.Proofs.YtccpdkjonepoiaaGreatDoor
open Go.RowKit

theorem split_one : ∀ l : List UInt8, Lib.splitK [47] 0 (Lib.count l [47]) l = Np.splitS l
  | [] => by rw [Lib.count_miss (by simp [Lib.index])]; rfl
  | b :: l => by
    have ih := split_one l
    by_cases h : b = 47
    · subst h
      have hix : Lib.index (47 :: l) [47] = ((0 : Nat) : Int) := by rw [Lib.index]; simp [List.isPrefixOf]
      rw [Lib.count_cons_eq, Nat.add_comm, Lib.splitK, hix]
      simp only [Np.splitS, if_true]
      rw [if_neg (by simp)]
      simp [ih]
    · have hp : ([47] : List UInt8).isPrefixOf (b :: l) = false := by simp [List.isPrefixOf, Ne.symm h]
      have hix : Lib.index (b :: l) [47] = if Lib.index l [47] == -1 then -1 else Lib.index l [47] + 1 := by rw [Lib.index, hp]; simp
      rw [Lib.count_cons_ne b 47 l h]
      rw [Np.splitS, if_neg h, ← ih]
      cases hk : Lib.count l [47] with
      | zero => simp [Lib.splitK]
      | succ k =>
        by_cases hm : Lib.index l [47] = -1
        · rw [Lib.count_miss hm] at hk; cases hk
        · have hge := Lib.index_ge l [47]
          obtain ⟨i, hi⟩ : ∃ i : Nat, Lib.index l [47] = i := ⟨(Lib.index l [47]).toNat, by omega⟩
          have hix' : Lib.index (b :: l) [47] = ((i + 1 : Nat) : Int) := by rw [hix, if_neg (fun e => hm (beq_iff_eq.1 e)), hi]; omega
          rw [Lib.splitK, Lib.splitK, hix', hi, if_neg (by simp <;> omega), if_neg (by simp <;> omega)]
          simp

theorem split_len : ∀ l : List UInt8, (Np.splitS l).length ≤ l.length + 1
  | [] => by simp [Np.splitS]
  | c :: r => by
    have := split_len r
    rw [Np.splitS_eq r] at this
    unfold Np.splitS
    split
    · rw [Np.splitS_eq r]; simp at this ⊢; omega
    · rw [Np.splitS_eq r]; simp at this ⊢; omega

theorem frozen_new (w : World) (c : Array Value) (t : TypeId) (j : Nat) : (w.alloc (.cells c t)).frozen? ⟨w.heap.size, j, none⟩ = false := by
  unfold World.frozen?
  rw [heap_alloc_new]
  simp
/-- strings.Split at a slash -/
theorem split_any (s : ByteArray) (m : Int) (w : World) (hs : s.size ≤ 100000) (hm : w.cell? ⟨0, 0, none⟩ = some (.int .i64 m)) :
    Calls Tryz.prog 163 #[.string s, .string ⟨#[47]⟩] w fun e w' =>
      e = .returned (.slice (some ⟨w.heap.size, 0, none⟩) (Np.splitS s.data.toList).length (Np.splitS s.data.toList).length) ∧
      (∀ j x, (Np.splitS s.data.toList)[j]? = some x → w'.cell? ⟨w.heap.size, j, none⟩ = some (.string ⟨x.toArray⟩)) ∧ (∀ j, w'.frozen? ⟨w.heap.size, j, none⟩ = false) ∧ w.heap.size < w'.heap.size ∧ Below w.heap.size w w' := by
  have h := Tryz.strings_Split s ⟨#[47]⟩ m w (by omega) hm (by decide)
  refine h.mono fun e w' ⟨he, hw⟩ => ?_
  have hd : (Lib.splitB ⟨#[47]⟩ 0 (Lib.countB s ⟨#[47]⟩) s).map (·.data.toList) = Np.splitS s.data.toList := by
    rw [Lib.splitB_data]
    exact split_one _
  have hl : (Lib.splitB ⟨#[47]⟩ 0 (Lib.countB s ⟨#[47]⟩) s).length = Lib.countB s ⟨#[47]⟩ + 1 := Lib.splitB_all _ (by decide) 0 _ s rfl
  have hl2 : (Np.splitS s.data.toList).length = Lib.countB s ⟨#[47]⟩ + 1 := by rw [← hd, List.length_map, hl]
  refine ⟨by rw [hl2]; exact he, ?_, ?_, ?_, ?_⟩
  · intro j x hx
    rw [← hd, List.getElem?_map] at hx
    cases hj : (Lib.splitB ⟨#[47]⟩ 0 (Lib.countB s ⟨#[47]⟩) s)[j]? with
    | none => rw [hj] at hx; cases hx
    | some y =>
      rw [hj] at hx
      have hxy : y.data.toList = x := Option.some.inj hx
      rw [hw, World.cell?_alloc_new]
      rw [List.getElem?_toArray, List.getElem?_map, hj, ← hxy, ba_mk]
      rfl
  · intro j
    rw [hw]
    exact frozen_new _ _ _ _
  · rw [hw]; simp
  · rw [hw]; exact (Below.refl _ _).alloc (Nat.le_refl _) _

/-! names.Path -/
theorem pathL_split (l : List UInt8) (h : l ≠ [47]) : Np.pathL l = if decide (2 ≤ (Np.splitS l).length) && decide ((Np.splitS l).length ≤ 7) && (Np.headS l).isEmpty && (Np.tailS l).all Np.nameB then some (Np.tailS l) else none := by
  rw [Np.splitS_eq l]
  cases l with
  | nil => rfl
  | cons c r =>
    by_cases hc : c = 47
    · subst hc
      have hr : r ≠ [] := fun e => h (by rw [e])
      rw [Np.pathL, if_pos rfl, if_neg hr]
      have e1 : Np.headS (47 :: r) = [] := by rw [Np.headS, if_pos rfl]
      have e2 : Np.tailS (47 :: r) = Np.splitS r := by rw [Np.tailS, if_pos rfl]
      rw [e1, e2]
      have h1 : 1 ≤ (Np.splitS r).length := by rw [Np.splitS_eq]; simp
      have e : (decide (2 ≤ (([] : List UInt8) :: Np.splitS r).length) && decide ((([] : List UInt8) :: Np.splitS r).length ≤ 7) && ([] : List UInt8).isEmpty && (Np.splitS r).all Np.nameB) = (decide ((Np.splitS r).length ≤ 6) && (Np.splitS r).all Np.nameB) := by
        congr 1
        rw [Bool.eq_iff_iff]
        simp only [List.length_cons, List.isEmpty_nil, Bool.and_true, Bool.and_eq_true, decide_eq_true_eq]
        omega
      rw [e]
    · rw [Np.pathL, if_neg hc]
      have e1 : Np.headS (c :: r) = c :: Np.headS r := by rw [Np.headS, if_neg hc]
      rw [e1]
      simp
theorem tailS_get {l : List UInt8} {j : Nat} : (Np.tailS l)[j]? = (Np.splitS l)[j + 1]? := by rw [Np.splitS_eq l]; simp
theorem pathL_names {l : List UInt8} {L : List (List UInt8)} (h : Np.pathL l = some L) : L.length ≤ 6 ∧ ∀ x ∈ L, Np.nameB x = true := by
  have := (Np.pathL_some h).1
  simpa using this
theorem nameB_len {x : List UInt8} (h : Np.nameB x = true) : x.length ≤ 12 := by
  unfold Np.nameB at h
  simp only [Bool.and_eq_true, decide_eq_true_eq] at h
  exact h.1.1.2
theorem split_part_len : ∀ {l : List UInt8} {x : List UInt8}, x ∈ Np.splitS l → x.length ≤ l.length
  | [], x, h => by simp [Np.splitS] at h; simp [h]
  | c :: r, x, h => by
    unfold Np.splitS at h
    split at h
    · rcases List.mem_cons.1 h with rfl | h
      · simp
      · have := split_part_len h; simp; omega
    · rw [Np.splitS_eq r] at h
      rcases List.mem_cons.1 h with rfl | h
      · have := split_part_len (l := r) (x := Np.headS r) (by rw [Np.splitS_eq]; simp)
        simp; exact this
      · have := split_part_len (l := r) (x := x) (by rw [Np.splitS_eq]; simp [h])
        simp; omega

def PathYes (L : List (List UInt8)) (w : World) (e : Ending) (w' : World) : Prop :=
  ∃ A c, e = .returned (.tuple #[.slice A L.length c, .int .i64 0]) ∧ L.length ≤ c ∧ Strs w' w.heap.size A L ∧ Below w.heap.size w w'

set_option maxHeartbeats 1000000 in
theorem path_root (w : World) : Calls Tryz.prog 131 #[.string ⟨#[47]⟩] w (PathYes [] w) := by
  go_enter Tryz.func131, Tryz.ntmps131
  go_wp2
  go_ret2
  exact ⟨_, _, rfl, Nat.le_refl _, Or.inl rfl, Below.refl _ _⟩

set_option maxHeartbeats 1000000 in
theorem path_few (s : ByteArray) (m : Int) (w : World) (hs : s.size ≤ 100000) (hm : w.cell? ⟨0, 0, none⟩ = some (.int .i64 m)) (h47 : (s.toList == [47]) = false)
    (hbad : (Np.splitS s.data.toList).length < 2 ∨ 7 < (Np.splitS s.data.toList).length ∨ (Np.headS s.data.toList).isEmpty = false) :
    Calls Tryz.prog 131 #[.string s] w fun e w' => e = .returned (.tuple #[.slice none 0 0, .int .i64 15]) ∧ Below w.heap.size w w' := by
  have h := split_any s m w hs hm
  have H := Lib.hid h; clear h
  have hl := split_len s.data.toList
  rw [← Lib.size_eq] at hl
  have heq := Np.splitS_eq s.data.toList
  obtain ⟨P, hP⟩ : ∃ P, P = Np.splitS s.data.toList := ⟨_, rfl⟩
  obtain ⟨hd, hhd⟩ : ∃ hd, hd = Np.headS s.data.toList := ⟨_, rfl⟩
  rw [← hP, ← hhd] at hbad
  rw [← hP] at H hl
  have h0 : P[0]? = some hd := by rw [hP, heq, hhd]; rfl
  clear heq hP hhd hm
  have H0 := Lib.hid h0; clear h0
  rcases hbad with hb | hb | hb
  · go_enter Tryz.func131, Tryz.ntmps131
    go_wp2_with fail
    refine H.out.mono ?_
    rintro e w1 ⟨rfl, hc, hf, hz, hB⟩
    go_wp2
    go_ret2
    exact ⟨rfl, hB⟩
  · go_enter Tryz.func131, Tryz.ntmps131
    go_wp2_with fail
    refine H.out.mono ?_
    rintro e w1 ⟨rfl, hc, hf, hz, hB⟩
    go_wp2
    go_ret2
    exact ⟨rfl, hB⟩
  · by_cases h2 : P.length < 2
    · go_enter Tryz.func131, Tryz.ntmps131
      go_wp2_with fail
      refine H.out.mono ?_
      rintro e w1 ⟨rfl, hc, hf, hz, hB⟩
      go_wp2
      go_ret2
      exact ⟨rfl, hB⟩
    · go_enter Tryz.func131, Tryz.ntmps131
      go_wp2_with fail
      refine H.out.mono ?_
      rintro e w1 ⟨rfl, hc, hf, hz, hB⟩
      have c0 := hc 0 hd H0.out
      clear hc
      have hp : 0 < P.length := by omega
      go_wp2
      all_goals (go_ret2; exact ⟨rfl, hB⟩)

set_option maxHeartbeats 1000000 in
theorem path_most_yes (s : ByteArray) (m : Int) (w : World) (hs : s.size ≤ 100000) (hm : w.cell? ⟨0, 0, none⟩ = some (.int .i64 m)) (h47 : (s.toList == [47]) = false)
    (h2 : 2 ≤ (Np.splitS s.data.toList).length) (h7 : (Np.splitS s.data.toList).length ≤ 7) (h0 : (Np.headS s.data.toList).isEmpty = true) (hb : (Np.tailS s.data.toList).all Np.nameB = true) :
    Calls Tryz.prog 131 #[.string s] w (PathYes (Np.tailS s.data.toList) w) := by
  have h := split_any s m w hs hm
  have H := Lib.hid h; clear h
  have heq := Np.splitS_eq s.data.toList
  have hpl : ∀ x ∈ Np.tailS s.data.toList, x.length ≤ 1000000 := fun x hx => by
    have := split_part_len (l := s.data.toList) (x := x) (by rw [heq]; simp [hx])
    rw [← Lib.size_eq] at this
    omega
  have htl : (Np.tailS s.data.toList).length = (Np.splitS s.data.toList).length - 1 := by rw [heq]; simp
  have hsg : ∀ j x, (Np.tailS s.data.toList)[j]? = some x → (Np.splitS s.data.toList)[j + 1]? = some x := fun j x hx => by rw [← tailS_get]; exact hx
  have h00 : (Np.splitS s.data.toList)[0]? = some [] := by
    rw [heq]
    cases h : Np.headS s.data.toList with
    | nil => rfl
    | cons _ _ => rw [h] at h0; cases h0
  obtain ⟨P, hP⟩ : ∃ P, P = Np.splitS s.data.toList := ⟨_, rfl⟩
  obtain ⟨T, hT⟩ : ∃ T, T = Np.tailS s.data.toList := ⟨_, rfl⟩
  rw [← hP] at H h2 h7 htl hsg h00
  rw [← hT] at hpl htl hsg hb ⊢
  clear heq hP hT h0 hm
  have H0 := Lib.hid h00; clear h00
  have Hsg := Lib.hid hsg; clear hsg
  have Hpl := Lib.hid hpl; clear hpl
  have hT1 : T.length ≤ 6 := by omega
  obtain ⟨n, hn⟩ : ∃ n, n = T.length := ⟨_, rfl⟩
  have hPn : P.length = n + 1 := by omega
  rw [hPn] at H
  have Hn := Lib.hid hn
  have hn1 : 1 ≤ n := by omega
  have hn2 : n ≤ 6 := by omega
  clear hn hPn htl h2 h7 hT1
  have Hb := Lib.hid hb; clear hb
  go_enter Tryz.func131, Tryz.ntmps131
  go_wp2_with fail
  refine H.out.mono ?_
  rintro e w1 ⟨rfl, hc, hf, hz, hB⟩
  have c0 := hc 0 _ H0.out
  have hS : Strs w1 w.heap.size (some ⟨w.heap.size, 1, none⟩) T := Or.inr ⟨_, _, rfl, Nat.le_refl _, hz, fun j x hx => by rw [Nat.add_comm]; exact hc (j + 1) x (Hsg.out j x hx), hf⟩
  clear hc hf
  have hcn := contains_any (some ⟨w.heap.size, 1, none⟩) T n w.heap.size w1 (by have := Hn.out; omega) Hpl.out hS
  rw [← Hn.out, Hb.out] at hcn
  have Hcn := Lib.hid hcn; clear hcn
  have HS := Lib.hid hS; clear hS
  have hne : ¬ (n + 1 = 1) := by omega
  go_wp2_with fail
  refine Hcn.out.mono ?_
  rintro e w2 ⟨rfl, hb2⟩
  go_wp2
  go_ret2
  refine ⟨some ⟨w.heap.size, 1, none⟩, n, ?_, by rw [← Hn.out]; exact Nat.le_refl _, HS.out.keep hb2, hB.trans (hb2.mono hB.size)⟩
  rw [← Hn.out]
  rfl

set_option maxHeartbeats 1000000 in
theorem path_most_no (s : ByteArray) (m : Int) (w : World) (hs : s.size ≤ 100000) (hm : w.cell? ⟨0, 0, none⟩ = some (.int .i64 m)) (h47 : (s.toList == [47]) = false)
    (h2 : 2 ≤ (Np.splitS s.data.toList).length) (h7 : (Np.splitS s.data.toList).length ≤ 7) (h0 : (Np.headS s.data.toList).isEmpty = true) (hb : (Np.tailS s.data.toList).all Np.nameB = false) :
    Calls Tryz.prog 131 #[.string s] w fun e w' => e = .returned (.tuple #[.slice none 0 0, .int .i64 15]) ∧ Below w.heap.size w w' := by
  have h := split_any s m w hs hm
  have H := Lib.hid h; clear h
  have heq := Np.splitS_eq s.data.toList
  have hpl : ∀ x ∈ Np.tailS s.data.toList, x.length ≤ 1000000 := fun x hx => by
    have := split_part_len (l := s.data.toList) (x := x) (by rw [heq]; simp [hx])
    rw [← Lib.size_eq] at this
    omega
  have htl : (Np.tailS s.data.toList).length = (Np.splitS s.data.toList).length - 1 := by rw [heq]; simp
  have hsg : ∀ j x, (Np.tailS s.data.toList)[j]? = some x → (Np.splitS s.data.toList)[j + 1]? = some x := fun j x hx => by rw [← tailS_get]; exact hx
  have h00 : (Np.splitS s.data.toList)[0]? = some [] := by
    rw [heq]
    cases h : Np.headS s.data.toList with
    | nil => rfl
    | cons _ _ => rw [h] at h0; cases h0
  obtain ⟨P, hP⟩ : ∃ P, P = Np.splitS s.data.toList := ⟨_, rfl⟩
  obtain ⟨T, hT⟩ : ∃ T, T = Np.tailS s.data.toList := ⟨_, rfl⟩
  rw [← hP] at H h2 h7 htl hsg h00
  rw [← hT] at hpl htl hsg hb
  clear heq hP hT h0 hm
  have H0 := Lib.hid h00; clear h00
  have Hsg := Lib.hid hsg; clear hsg
  have Hpl := Lib.hid hpl; clear hpl
  have hT1 : T.length ≤ 6 := by omega
  obtain ⟨n, hn⟩ : ∃ n, n = T.length := ⟨_, rfl⟩
  have hPn : P.length = n + 1 := by omega
  rw [hPn] at H
  have Hn := Lib.hid hn
  have hn1 : 1 ≤ n := by omega
  have hn2 : n ≤ 6 := by omega
  clear hn hPn htl h2 h7 hT1
  have Hb := Lib.hid hb; clear hb
  go_enter Tryz.func131, Tryz.ntmps131
  go_wp2_with fail
  refine H.out.mono ?_
  rintro e w1 ⟨rfl, hc, hf, hz, hB⟩
  have c0 := hc 0 _ H0.out
  have hS : Strs w1 w.heap.size (some ⟨w.heap.size, 1, none⟩) T := Or.inr ⟨_, _, rfl, Nat.le_refl _, hz, fun j x hx => by rw [Nat.add_comm]; exact hc (j + 1) x (Hsg.out j x hx), hf⟩
  clear hc hf
  have hcn := contains_any (some ⟨w.heap.size, 1, none⟩) T n w.heap.size w1 (by have := Hn.out; omega) Hpl.out hS
  rw [← Hn.out, Hb.out] at hcn
  have Hcn := Lib.hid hcn; clear hcn
  have HS := Lib.hid hS; clear hS
  have hne : ¬ (n + 1 = 1) := by omega
  go_wp2_with fail
  refine Hcn.out.mono ?_
  rintro e w2 ⟨rfl, hb2⟩
  go_wp2
  go_ret2
  exact ⟨rfl, hB.trans (hb2.mono hB.size)⟩

theorem path_yes (s : ByteArray) (L : List (List UInt8)) (m : Int) (w : World) (hs : s.size ≤ 100000) (hm : w.cell? ⟨0, 0, none⟩ = some (.int .i64 m)) (h : Np.pathL s.data.toList = some L) :
    Calls Tryz.prog 131 #[.string s] w (PathYes L w) := by
  by_cases h47 : s.data.toList = [47]
  · rw [h47] at h
    obtain rfl : ([] : List (List UInt8)) = L := Option.some.inj h
    obtain rfl : s = ⟨#[47]⟩ := ba_ext h47
    exact path_root w
  · rw [pathL_split _ h47] at h
    split at h
    · rename_i hc
      simp only [Bool.and_eq_true, decide_eq_true_eq] at hc
      obtain rfl : Np.tailS s.data.toList = L := Option.some.inj h
      exact path_most_yes s m w hs hm (by rw [Lib.toList_data]; exact beq_eq_false_iff_ne.2 h47) hc.1.1.1 hc.1.1.2 hc.1.2 hc.2
    · cases h
theorem path_no (s : ByteArray) (m : Int) (w : World) (hs : s.size ≤ 100000) (hm : w.cell? ⟨0, 0, none⟩ = some (.int .i64 m)) (h : Np.pathL s.data.toList = none) :
    Calls Tryz.prog 131 #[.string s] w fun e w' => e = .returned (.tuple #[.slice none 0 0, .int .i64 15]) ∧ Below w.heap.size w w' := by
  by_cases h47 : s.data.toList = [47]
  · rw [h47] at h; cases h
  · rw [pathL_split _ h47] at h
    have h47' : (s.toList == [47]) = false := by rw [Lib.toList_data]; exact beq_eq_false_iff_ne.2 h47
    by_cases h2 : 2 ≤ (Np.splitS s.data.toList).length
    · by_cases h7 : (Np.splitS s.data.toList).length ≤ 7
      · by_cases h0 : (Np.headS s.data.toList).isEmpty = true
        · by_cases hn : (Np.tailS s.data.toList).all Np.nameB = true
          · rw [decide_eq_true h2, decide_eq_true h7, h0, hn] at h; cases h
          · exact path_most_no s m w hs hm h47' h2 h7 h0 (by simpa using hn)
        · exact path_few s m w hs hm h47' (Or.inr (Or.inr (by simpa using h0)))
      · exact path_few s m w hs hm h47' (Or.inr (Or.inl (by omega)))
    · exact path_few s m w hs hm h47' (Or.inl (by omega))

end Go.Proofs.YtccpdkjonepoiaaGreatDoor

/- Walks: names.Parent, names.Hash, commonsref05.bit, commonsref05.Hash. -/
namespace Go.Proofs.YtccpdkjonepoiaaGreatDoor
open Go.RowKit

def ParYes (L : List (List UInt8)) (x : List UInt8) (w : World) (e : Ending) (w' : World) : Prop :=
  ∃ A, e = .returned (.tuple #[.slice A L.length L.length, .string ⟨x.toArray⟩, .int .i64 0]) ∧ Strs w' w.heap.size A L ∧ Below w.heap.size w w'

set_option maxHeartbeats 1000000 in
theorem parent_yes (s : ByteArray) (L : List (List UInt8)) (x : List UInt8) (m : Int) (w : World) (hs : s.size ≤ 100000) (hm : w.cell? ⟨0, 0, none⟩ = some (.int .i64 m)) (h : Np.pathL s.data.toList = some (L ++ [x])) :
    Calls Tryz.prog 133 #[.string s] w (ParYes L x w) := by
  have hp := path_yes s (L ++ [x]) m w hs hm h
  have hl6 := (pathL_names h).1
  obtain ⟨n, hn⟩ : ∃ n, n = L.length := ⟨_, rfl⟩
  have hx : (L ++ [x])[n]? = some x := by rw [hn]; simp
  rw [show (L ++ [x]).length = n + 1 by simp [hn]] at hl6
  have hpre : ∀ j y, L[j]? = some y → (L ++ [x])[j]? = some y := fun j y hy => by rw [List.getElem?_append_left (List.getElem?_eq_some_iff.1 hy).1]; exact hy
  have Hp : Hid (Calls Tryz.prog 131 #[.string s] w fun e w' => ∃ b o c, e = .returned (.tuple #[.slice (some ⟨b, o, none⟩) (n + 1) c, .int .i64 0]) ∧ n + 1 ≤ c ∧ w'.cell? ⟨b, o + n, none⟩ = some (.string ⟨x.toArray⟩) ∧ Strs w' w.heap.size (some ⟨b, o, none⟩) L ∧ Below w.heap.size w w') := by
    refine hp.mono fun e w' ⟨A, c, he, hc, hS, hB⟩ => ?_
    rcases hS with h0 | ⟨b, o, rfl, h1, h2, h3, h4⟩
    · simp at h0
    · refine ⟨b, o, c, by rw [he]; simp [hn], by simpa [hn] using hc, h3 n x hx, Or.inr ⟨b, o, rfl, h1, h2, fun j y hy => h3 j y (hpre j y hy), h4⟩, hB⟩
  clear hp h hx hpre hm
  have Hn := Lib.hid hn; clear hn
  go_enter Tryz.func133, Tryz.ntmps133
  go_wp2_with fail
  refine Hp.out.mono ?_
  rintro e w1 ⟨b, o, c, rfl, hc, hcell, hS, hB⟩
  have HS := Lib.hid hS; clear hS
  have hi1 : (0 : Int) ≤ n := by omega
  have hi2 : (n : Int) < (n : Int) + 1 := by omega
  have hi3 : (n : Int) ≤ c := by omega
  go_wp2
  go_quiet (fail)
  go_wp2
  go_ret3
  rw [Hn.out]
  exact ⟨_, rfl, HS.out.drewN _, below_drewN hB _⟩

set_option maxHeartbeats 1000000 in
theorem parent_no (s : ByteArray) (m : Int) (w : World) (hs : s.size ≤ 100000) (hm : w.cell? ⟨0, 0, none⟩ = some (.int .i64 m)) (h : Np.pathL s.data.toList = none ∨ Np.pathL s.data.toList = some []) :
    Calls Tryz.prog 133 #[.string s] w fun e w' => e = .returned (.tuple #[.slice none 0 0, .string ⟨#[]⟩, .int .i64 15]) ∧ Below w.heap.size w w' := by
  rcases h with h | h
  · have hp := path_no s m w hs hm h
    have Hp := Lib.hid hp; clear hp h hm
    go_enter Tryz.func133, Tryz.ntmps133
    go_wp2_with fail
    refine Hp.out.mono ?_
    rintro e w1 ⟨rfl, hB⟩
    go_wp2
    go_ret3
    exact ⟨rfl, hB⟩
  · have hp := path_yes s [] m w hs hm h
    have Hp := Lib.hid hp; clear hp h hm
    go_enter Tryz.func133, Tryz.ntmps133
    go_wp2_with fail
    refine Hp.out.mono ?_
    rintro e w1 ⟨A, c, rfl, hc, hS, hB⟩
    clear hS
    go_wp2
    go_ret3
    exact ⟨rfl, hB⟩

theorem xor32 (h : Nat) (c : UInt8) (hh : h < 4294967296) : bits BinOp.xor IntKind.u32 (h : Int) ((c.toNat : Int) % 4294967296) * 16777619 % 4294967296 = ((Np.hashStep h c : Nat) : Int) := by
  have hc : c.toNat < 256 := c.toNat_lt
  rw [show ((c.toNat : Int) % 4294967296) = ((c.toNat : Nat) : Int) by omega, u32_xor_nat h c.toNat hh (by omega)]
  unfold Np.hashStep
  simp

/-- what a hash comes to -/
def hashV (l : List UInt8) : Int := ((Np.hashN l / 268435456 : Nat) : Int)
theorem hashV_eq {l : List UInt8} {h : Nat} (e : h = Np.hashN l) : (h : Int) / 268435456 = hashV l := by
  subst e; unfold hashV; omega
theorem hashV_lt (l : List UInt8) : 0 ≤ hashV l ∧ hashV l ≤ 15 := by
  have := Np.hashN_lt l
  unfold hashV; omega

set_option maxHeartbeats 1000000 in
theorem hash_any (s : ByteArray) (w : World) (hs : s.size ≤ 100000) :
    Calls Tryz.prog 208 #[.string s] w fun e w' => e = .returned (.int .i64 (hashV s.data.toList)) ∧ w = w' := by
  go_enter Tryz.func208, Tryz.ntmps208
  go_wp2
  go_loop [3, 4, 7] (fun h _ i => ∃ k n : Nat, k ≤ s.size ∧ n < 4294967296 ∧ i = .int .i64 k ∧ h = .int .u32 n ∧ Hid (n = Np.hashN (s.data.toList.take k))) (fun _ _ i => s.size - (intOf i).toNat)
  case atStart => exact ⟨0, 2166136261, by omega, by omega, rfl, rfl, rfl⟩
  case round =>
    obtain ⟨k, h, hk, hlt', rfl, rfl, Hh⟩ := hrel
    by_cases hlt : k < s.size
    · go_wp2
      go_round
      case rel =>
        refine ⟨k + 1, Np.hashStep h (s[k]'hlt), by omega, Np.hashStep_lt _ _, by go_num, by rw [xor32 h _ hlt'], ?_⟩
        show Np.hashStep h (s[k]'hlt) = _
        rw [take_snoc s k hlt, Np.hashN_snoc, ← Hh.out]
      case measure => simp [intOf]; omega
    · go_wp2
      go_ret
      refine ⟨?_, rfl⟩
      rw [← hashV_eq (h := h) (by rw [Hh.out, List.take_of_length_le (by rw [← Lib.size_eq]; omega)])]
      rfl


end Go.Proofs.YtccpdkjonepoiaaGreatDoor

/- Directories in plain words: entries, tables, their bytes. -/
namespace Go.Proofs.YtccpdkjonepoiaaGreatDoor
namespace Gd
/-- a name, and its inode -/
structure Ent where
  s : List UInt8
  i : Nat
deriving instance DecidableEq for Ent
def noEnt : Ent := ⟨[], 0⟩
def Ent.May (e : Ent) : Prop := e = noEnt ∨ (Np.nameB e.s = true ∧ 1 ≤ e.i ∧ e.i ≤ 32)
abbrev Tab := List Ent
def noTab : Tab := List.replicate 16 noEnt
/-- a table -/
structure TabOk (T : Tab) : Prop where
  len : T.length = 16
  may : ∀ e ∈ T, e.May
def entB (e : Ent) : List UInt8 := UInt8.ofNat e.i :: UInt8.ofNat e.s.length :: (e.s ++ List.replicate (14 - e.s.length) 0)
def blkT (T : Tab) (k : Nat) : List UInt8 := ((T.drop (4 * k)).take 4).flatMap entB
/-- the places of a name, in their order -/
def placesL (h : Nat) : List (Fin 16) := (List.range 16).map fun i => ⟨(h + i) % 16, Nat.mod_lt _ (by omega)⟩
def entAt (T : Tab) (j : Nat) : Ent := T.getD j noEnt
/-- where a name stands -/
def findT (T : Tab) (s : List UInt8) (h : Nat) : Option (Fin 16) := (placesL h).find? fun j => decide ((entAt T j.val).s = s) && !s.isEmpty
/-- where a name may stand -/
def placeT (T : Tab) (h : Nat) : Option (Fin 16) := (placesL h).find? fun j => decide (entAt T j.val = noEnt)
def setT (T : Tab) (j : Nat) (e : Ent) : Tab := T.set j e
def usedT (T : Tab) (k : Nat) : Bool := ((T.drop (4 * k)).take 4).any fun e => decide (e ≠ noEnt)
theorem entAt_get {T : Tab} {j : Nat} (hT : T.length = 16) (hj : j < 16) : T[j]? = some (entAt T j) := by
  unfold entAt
  rw [List.getD_eq_getElem?_getD, List.getElem?_eq_getElem (by omega)]
  rfl
theorem May.len {e : Ent} (h : e.May) : e.s.length ≤ 12 ∧ e.i ≤ 32 := by
  rcases h with rfl | ⟨h1, h2, h3⟩
  · exact ⟨by decide, by decide⟩
  · unfold Np.nameB at h1
    simp only [Bool.and_eq_true, decide_eq_true_eq] at h1
    omega
theorem entB_length {e : Ent} (h : e.May) : (entB e).length = 16 := by
  have := May.len h
  unfold entB
  simp only [List.length_cons, List.length_append, List.length_replicate]
  omega
theorem noTab_ok : TabOk noTab := ⟨rfl, fun e he => Or.inl (List.eq_of_mem_replicate he)⟩
theorem TabOk.set {T : Tab} (h : TabOk T) {j : Nat} {e : Ent} (he : e.May) : TabOk (setT T j e) := by
  refine ⟨by unfold setT; rw [List.length_set]; exact h.len, fun x hx => ?_⟩
  rcases List.mem_or_eq_of_mem_set hx with hx | rfl
  · exact h.may x hx
  · exact he
theorem entAt_may {T : Tab} (h : TabOk T) (j : Nat) : (entAt T j).May := by
  unfold entAt
  rw [List.getD_eq_getElem?_getD]
  cases hx : T[j]? with
  | none => exact Or.inl rfl
  | some e => exact h.may e (List.mem_of_getElem? hx)
end Gd
end Go.Proofs.YtccpdkjonepoiaaGreatDoor
