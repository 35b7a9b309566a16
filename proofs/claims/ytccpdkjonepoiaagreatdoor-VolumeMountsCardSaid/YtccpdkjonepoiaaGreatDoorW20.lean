/- Walks: slots.Put of what may not be. -/
import Derived.Test.YtccpdkjonepoiaaGreatDoorW10
import Derived.Test.YtccpdkjonepoiaaGreatDoorW19
set_option linter.unusedVariables false
set_option linter.unusedSimpArgs false
set_option linter.unusedSectionVars false
namespace Go.Proofs.YtccpdkjonepoiaaGreatDoor
open Go.RowKit

attribute [local go_sem] Oper.semAt_some

set_option maxHeartbeats 4000000 in
set_option maxRecDepth 100000 in
theorem slin_bad (n m : Nat) (hn : m < n) (w : World) : Calls Tryz.prog 112 #[.int .i64 n, .int .i64 m] w fun e w' => e = .returned (.bool false) ∧ w' = w := by
  have h1 : ¬ (n : Int) ≤ m := by omega
  have h2 : (0 : Int) ≤ n := by omega
  go_enter Tryz.func112, Tryz.ntmps112
  go_wp2
  go_ret
  exact ⟨rfl, rfl⟩

set_option maxHeartbeats 4000000 in
set_option maxRecDepth 100000 in
theorem puthead_bad (n : Nat) (hn : 1152921504606846976 < n) (w : World) : Calls Tryz.prog 65 #[.int .i64 n] w fun e w' => e = .returned (.tuple #[.slice none 0 0, .int .i64 1]) ∧ w' = w := by
  have HI : Hid (∀ W, Calls Tryz.prog 112 #[.int .i64 n, .int .i64 1152921504606846976] W fun e w' => e = .returned (.bool false) ∧ w' = W) := Lib.hid (slin_bad n 1152921504606846976 hn)
  clear hn
  go_enter Tryz.func65, Tryz.ntmps65
  go_wp2_with (go_at_call 112; with_reducible refine (HI.out _).mono ?_; rintro e w2 ⟨rfl, rfl⟩)
  go_ret2
  exact ⟨rfl, rfl⟩

theorem slin_gen (n m : Nat) (w : World) : Calls Tryz.prog 112 #[.int .i64 n, .int .i64 m] w fun e w' => e = .returned (.bool (decide (n ≤ m))) ∧ w' = w := by
  by_cases h : n ≤ m
  · rw [decide_eq_true h]; exact slin_any n m h w
  · rw [decide_eq_false h]; exact slin_bad n m (by omega) w
theorem three (a b : Bool) : a = false ∨ (a = true ∧ b = false) ∨ (a = true ∧ b = true) := by cases a <;> cases b <;> simp

set_option maxHeartbeats 16000000 in
set_option maxRecDepth 100000 in
theorem putslot_bad (s : Gd.Slot) (hs : ¬ s.May) (w : World) : Calls Tryz.prog 62 #[slotV s] w fun e w' => e = .returned (.tuple #[.slice none 0 0, .int .i64 1]) ∧ Below w.heap.size w w' := by
  obtain ⟨wb, hwb⟩ : ∃ u, u = w.alloc (.cells (slotC s) 48) := ⟨_, rfl⟩
  have hbb : Below w.heap.size w wb := by rw [hwb]; exact (Below.refl _ _).alloc (Nat.le_refl _) _
  have hbc : wb.heap[w.heap.size]? = some (.cells (slotC s) 48 (0, 0)) := by rw [hwb]; exact heap_alloc_new _ _
  obtain ⟨b, hbe⟩ : ∃ b, b = w.heap.size := ⟨_, rfl⟩
  rw [← hbe] at hbc
  obtain ⟨e, h, r, ke, ki, w0⟩ := s
  obtain ⟨qe, hqe⟩ : ∃ q, q = decide (e ≤ 1073741824) := ⟨_, rfl⟩
  obtain ⟨qh, hqh⟩ : ∃ q, q = decide (h ≤ 1024) := ⟨_, rfl⟩
  obtain ⟨qr, hqr⟩ : ∃ q, q = decide (r ≤ 1099511627776) := ⟨_, rfl⟩
  obtain ⟨qke, hqke⟩ : ∃ q, q = decide (ke ≤ 255) := ⟨_, rfl⟩
  obtain ⟨qki, hqki⟩ : ∃ q, q = decide (ki ≤ 32) := ⟨_, rfl⟩
  obtain ⟨qw, hqw⟩ : ∃ q, q = decide (w0 ≤ 1099511627776) := ⟨_, rfl⟩
  have hno : (qe && qh && qr && qw && qke && qki) = false := by
    rw [Bool.eq_false_iff]
    intro hh
    simp only [Bool.and_eq_true, hqe, hqh, hqr, hqw, hqke, hqki, decide_eq_true_eq] at hh
    obtain ⟨⟨⟨⟨⟨h1, h2⟩, h3⟩, h4⟩, h5⟩, h6⟩ := hh
    exact hs ⟨h1, h2, h3, h5, h6, h4⟩
  have HIe : Hid (∀ W, Calls Tryz.prog 112 #[.int .i64 e, .int .i64 1073741824] W fun e w' => e = .returned (.bool qe) ∧ w' = W) := Lib.hid (by rw [hqe]; exact slin_gen e 1073741824)
  have HIh : Hid (∀ W, Calls Tryz.prog 112 #[.int .i64 h, .int .i64 1024] W fun e w' => e = .returned (.bool qh) ∧ w' = W) := Lib.hid (by rw [hqh]; exact slin_gen h 1024)
  have HIr : Hid (∀ W, Calls Tryz.prog 112 #[.int .i64 r, .int .i64 1099511627776] W fun e w' => e = .returned (.bool qr) ∧ w' = W) := Lib.hid (by rw [hqr]; exact slin_gen r 1099511627776)
  have HIke : Hid (∀ W, Calls Tryz.prog 112 #[.int .i64 ke, .int .i64 255] W fun e w' => e = .returned (.bool qke) ∧ w' = W) := Lib.hid (by rw [hqke]; exact slin_gen ke 255)
  have HIki : Hid (∀ W, Calls Tryz.prog 112 #[.int .i64 ki, .int .i64 32] W fun e w' => e = .returned (.bool qki) ∧ w' = W) := Lib.hid (by rw [hqki]; exact slin_gen ki 32)
  have HIw : Hid (∀ W, Calls Tryz.prog 112 #[.int .i64 w0, .int .i64 1099511627776] W fun e w' => e = .returned (.bool qw) ∧ w' = W) := Lib.hid (by rw [hqw]; exact slin_gen w0 1099511627776)
  have Hbe := Lib.hid hbe.symm
  have HBb := Lib.hid hbb
  have HWb := Lib.hid hwb
  have hcc := slotC_get hbc
  unfold slotC at HWb
  dsimp only at hcc HWb
  obtain ⟨c0, c1, c2, c3, c4, c5⟩ := hcc
  unfold slotV slotC
  clear hbe hbb hwb hbc hs hqe hqh hqr hqke hqki hqw
  rcases three qr qw with rfl | ⟨rfl, rfl⟩ | ⟨rfl, rfl⟩ <;> rcases three qke qki with rfl | ⟨rfl, rfl⟩ | ⟨rfl, rfl⟩ <;> rcases three qe qh with rfl | ⟨rfl, rfl⟩ | ⟨rfl, rfl⟩
  all_goals first | (exact absurd hno (by decide)) | skip
  all_goals
    clear hno
    go_enter Tryz.func62, Tryz.ntmps62
    go_upto_region 1 with fail
    rw [← HWb.out, Hbe.out]
    go_wp2_with (first | (go_at_call 112; with_reducible refine (HIe.out _).mono ?_; rintro e w2 ⟨rfl, rfl⟩) | (go_at_call 112; with_reducible refine (HIh.out _).mono ?_; rintro e w2 ⟨rfl, rfl⟩) | (go_at_call 112; with_reducible refine (HIr.out _).mono ?_; rintro e w2 ⟨rfl, rfl⟩) | (go_at_call 112; with_reducible refine (HIke.out _).mono ?_; rintro e w2 ⟨rfl, rfl⟩) | (go_at_call 112; with_reducible refine (HIki.out _).mono ?_; rintro e w2 ⟨rfl, rfl⟩) | (go_at_call 112; with_reducible refine (HIw.out _).mono ?_; rintro e w2 ⟨rfl, rfl⟩))
    (first | go_ret | go_ret2)
    exact ⟨rfl, HBb.out⟩

end Go.Proofs.YtccpdkjonepoiaaGreatDoor

/- Walks: slots.opened, ReadHead, of any bytes. -/
namespace Go.Proofs.YtccpdkjonepoiaaGreatDoor
open Go.RowKit

attribute [local go_sem] Oper.semAt_some

set_option maxHeartbeats 4000000 in
set_option maxRecDepth 100000 in
theorem opened_any (b c : Nat) (L : List UInt8) (hlen : L.length = 64) (hc : 64 ≤ c) (w : World) (hb : b < w.heap.size) (hcell : ∀ (j : Nat) (x : UInt8), L[j]? = some x → w.cell? ⟨b, j, none⟩ = some (.int .u8 x.toNat)) :
    Calls Tryz.prog 106 #[.slice (some ⟨b, 0, none⟩) 64 c] w fun e w' => Below w.heap.size w w' ∧ ((Gd.get L 60 4 = Gd.crc (L.take 60) ∧ e = .returned (.tuple #[.slice (some ⟨b, 0, none⟩) 64 c, .int .i64 0])) ∨ (Gd.get L 60 4 ≠ Gd.crc (L.take 60) ∧ ∃ E : Int, E ≠ 0 ∧ e = .returned (.tuple #[.slice none 0 0, .int .i64 E]))) := by
  have hby64 := bytesAt_part (c := c) hb hcell 64 (by omega)
  rw [List.take_of_length_le (by omega)] at hby64
  obtain ⟨cc, hcc⟩ : ∃ cc, cc = Gd.crc (L.take 60) := ⟨_, rfl⟩
  have hcl : cc < 4294967296 := by rw [hcc]; exact Gd.crc_lt _
  obtain ⟨g1, hg1⟩ : ∃ g, g = Gd.get L 60 4 := ⟨_, rfl⟩
  have HG1 : Hid (Calls Tryz.prog 103 #[.slice (some ⟨b, 0, none⟩) 64 c, .int .i64 60, .int .i64 4] w fun e w' => e = .returned (.tuple #[.int .i64 g1, .bool (Gd.getB L 60 4)]) ∧ w' = w) := Lib.hid (by
    have := get_any (.slice (some ⟨b, 0, none⟩) 64 c) L 60 4 (Or.inr (Or.inr (Or.inl rfl))) (nat_I64 (n := 60) (by omega)) w hby64 (by omega)
    rw [← hg1] at this
    exact this)
  have HCr := Lib.hid (crc_any (.slice (some ⟨b, 0, none⟩) 60 c) (L.take 60) w (bytesAt_part (c := c) hb hcell 60 (by omega)) (by rw [List.length_take]; omega))
  rw [← hcc] at HCr
  rw [← hcc, ← hg1]
  have hc2 : (cc : Int) < 4294967296 := by omega
  have hc64 : (64 : Int) ≤ c := by omega
  have hc60 : (60 : Int) ≤ c := by omega
  clear hcc hg1 hby64 hcell hb hlen
  go_enter Tryz.func106, Tryz.ntmps106
  go_wp2_with fail
  refine HG1.out.mono ?_
  rintro e w2 ⟨rfl, rfl⟩
  clear HG1
  go_wp2_with fail
  refine HCr.out.mono ?_
  rintro e w3 ⟨rfl, hb3⟩
  have HB3 := Lib.hid hb3
  clear hb3 HCr
  by_cases hgc : ¬ g1 = cc
  · have hsb : (g1 != (cc : Int)) = true := by simp [hgc]
    have Hgc := Lib.hid hgc
    clear hgc
    go_wp2
    go_ret2
    exact ⟨HB3.out, Or.inr ⟨Hgc.out, _, by decide, rfl⟩⟩
  · obtain rfl : g1 = cc := Classical.not_not.1 hgc
    clear hgc
    go_wp2
    go_ret2
    refine ⟨HB3.out, ?_⟩
    first | exact Or.inl ⟨rfl, rfl⟩ | rfl | exact ⟨rfl, rfl⟩

set_option maxHeartbeats 8000000 in
set_option maxRecDepth 100000 in
theorem readhead_any (L : List UInt8) (hlen : L.length = 64) (v : Value) (B0 : Nat) (w : World) (hv : OwnB w B0 v L) :
    Calls Tryz.prog 75 #[v] w fun e w' => Below w.heap.size w w' ∧ ((Gd.isHead L ∧ e = .returned (.tuple #[.int .i64 (Gd.get L 8 8), .int .i64 0])) ∨ (¬ Gd.isHead L ∧ ∃ E : Int, E ≠ 0 ∧ e = .returned (.tuple #[.int .i64 0, .int .i64 E]))) := by
  obtain ⟨b, c, rfl, hlc, -, hbl, hcell⟩ := hv.lies (by intro e; rw [e] at hlen; simp at hlen)
  rw [hlen] at hlc ⊢
  have HO := Lib.hid (opened_any b c L hlen hlc w hbl hcell)
  have hby64 := bytesAt_part (c := c) hbl hcell 64 (by omega)
  rw [List.take_of_length_le (by omega)] at hby64
  obtain ⟨n, hn⟩ : ∃ n : Nat, (n : Int) = Gd.get L 8 8 := ⟨(Gd.get L 8 8).toNat, Int.toNat_of_nonneg (Gd.get_ge L 8 8)⟩
  have hn2 : (Gd.get L 8 8).toNat = n := by rw [← hn]; rfl
  have HG2 : Hid (∀ W, Below w.heap.size w W → Calls Tryz.prog 103 #[.slice (some ⟨b, 0, none⟩) 64 c, .int .i64 8, .int .i64 8] W fun e w' => e = .returned (.tuple #[.int .i64 n, .bool (Gd.getB L 8 8)]) ∧ w' = W) := Lib.hid fun W hW => by
    have := get_any (.slice (some ⟨b, 0, none⟩) 64 c) L 8 8 (Or.inr (Or.inr (Or.inr rfl))) (nat_I64 (n := 8) (by omega)) W (hby64.keep hW) (by omega)
    rw [← hn] at this
    exact this
  have HBy := Lib.hid hby64
  have HS : Hid (Gd.isHead L → Gd.get L 60 4 = Gd.crc (L.take 60)) := Lib.hid fun h => by
    rw [h.2]
    exact Gd.headB_sum _
  have HH : Hid (Gd.isHead L ↔ (n ≤ 1152921504606846976 ∧ Gd.headB n = L)) := Lib.hid (by
    unfold Gd.isHead
    rw [hn2, ← hn]
    exact ⟨fun h => ⟨by omega, h.2.symm⟩, fun h => ⟨by omega, h.2.symm⟩⟩)
  rw [← hn]
  clear hn hn2 hby64 hv hbl hcell hlen hlc
  go_enter Tryz.func75, Tryz.ntmps75
  go_wp2_with fail
  refine HO.out.mono ?_
  rintro e w1 ⟨hb1, hor⟩
  have HB1 := Lib.hid hb1
  clear hb1 HO
  rcases hor with ⟨hsum, rfl⟩ | ⟨hsum, E, hE, rfl⟩
  · clear hsum
    go_wp2_with fail
    refine (HG2.out w1 HB1.out).mono ?_
    rintro e w2 ⟨rfl, rfl⟩
    clear HG2
    by_cases hle : n ≤ 1152921504606846976
    · have HPu := Lib.hid (puthead_any n hle w2)
      have Hle := Lib.hid hle
      clear hle
      go_wp2_with fail
      refine HPu.out.mono ?_
      rintro e w3 ⟨v3, rfl, ho3, hb3⟩
      have HEq := Lib.hid (bequal_any v3 (.slice (some ⟨b, 0, none⟩) 64 c) (Gd.headB n) L w3 ho3.at_ (HBy.out.keep (HB1.out.trans (hb3.mono HB1.out.size))))
      have HB3 := Lib.hid (HB1.out.trans (hb3.mono HB1.out.size))
      clear ho3 hb3 HPu
      by_cases he : Gd.headB n = L
      · rw [decide_eq_true he] at HEq
        have He := Lib.hid he
        clear he
        go_wp2_with (go_at_call 102; with_reducible refine HEq.out.mono ?_; rintro e w4 ⟨rfl, rfl⟩)
        go_ret2
        exact ⟨HB3.out, Or.inl ⟨HH.out.2 ⟨Hle.out, He.out⟩, rfl⟩⟩
      · rw [decide_eq_false he] at HEq
        have He := Lib.hid he
        clear he
        go_wp2_with (go_at_call 102; with_reducible refine HEq.out.mono ?_; rintro e w4 ⟨rfl, rfl⟩)
        go_ret2
        exact ⟨HB3.out, Or.inr ⟨fun h => He.out (HH.out.1 h).2, _, by decide, rfl⟩⟩
    · have HPu := Lib.hid (puthead_bad n (by omega) w2)
      have Hle := Lib.hid hle
      clear hle
      go_wp2_with fail
      refine HPu.out.mono ?_
      rintro e w3 ⟨rfl, rfl⟩
      clear HPu
      go_wp2
      go_ret2
      exact ⟨HB1.out, Or.inr ⟨fun h => Hle.out (HH.out.1 h).1, _, by decide, rfl⟩⟩
  · have Hs := Lib.hid hsum
    have hE1 : ¬ E = 0 := hE
    have hsb : (E != 0) = true := by simp [hE1]
    have HE := Lib.hid hE
    clear hE hsum hE1
    go_wp2
    go_ret2
    exact ⟨HB1.out, Or.inr ⟨fun h => Hs.out (HS.out h), E, HE.out, rfl⟩⟩

end Go.Proofs.YtccpdkjonepoiaaGreatDoor
