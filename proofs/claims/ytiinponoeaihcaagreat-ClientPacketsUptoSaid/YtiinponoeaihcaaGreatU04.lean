/- Walks: files.sized, files.Change, commonsref15.Change. -/
import Derived.Test.YtiinponoeaihcaaGreatU03
import Derived.Test.YtiinponoeaihcaaGreatShelf
import Derived.BigQuiet
import Derived.Deep.QuietTactic
import Derived.Test.YtiinponoeaihcaaGreatU00
import Derived.Test.YtiinponoeaihcaaGreatU02
import Derived.Laws.BitsAllLaws
set_option linter.unusedVariables false
set_option linter.unusedSimpArgs false
set_option linter.unusedSectionVars false
namespace Go.Proofs.YtiinponoeaihcaaGreat
namespace Fl
open Go.RowKit

theorem sized_tail (l : List UInt8) (n : Nat) (h : ¬ n ≤ l.length) : l ++ Lib.repeatL [0] (n - l.length) = Fp.sizedL l n := by
  unfold Fp.sizedL; rw [if_neg h, show ([0] : List UInt8) = List.replicate 1 0 from rfl, Lib.repeatL_replicate, Nat.mul_one]

set_option maxHeartbeats 400000 in
theorem sized_any (s : ByteArray) (n : Nat) (w : World) (hs : s.size ≤ 1000000) (hn : n ≤ 1000000) :
    Calls Tryz.prog 92 #[.string s, .int .i64 n] w fun e w' => e = .returned (.string ⟨(Fp.sizedL s.data.toList n).toArray⟩) ∧ Below w.heap.size w w' := by
  have hl := Lib.size_eq s
  have Hl := Lib.hid hl; clear hl
  by_cases hlt : n ≤ s.size
  · go_enter Tryz.func92, Tryz.ntmps92
    go_wp2
    go_ret
    refine ⟨ret_str ?_, Below.refl _ _⟩
    have := Hl.out
    rw [ba_head, sized_head _ _ (by omega)]
  · obtain ⟨k, hk⟩ : ∃ k : Nat, k = n - s.size := ⟨_, rfl⟩
    have hk2 : (n : Int) - (s.size : Int) = (k : Int) := by omega
    have Hk := Lib.hid hk
    have hkb : k ≤ 1000000 := by omega
    clear hk
    go_enter Tryz.func92, Tryz.ntmps92
    have hr := Tryz.strings_Repeat ⟨#[0]⟩ k w (by omega) (by show 1 * k ≤ _; omega)
    have HR := Lib.hid hr; clear hr
    have hrl : (Lib.repeatL [0] k).length ≤ 1000000 := by rw [Lib.repeatL_length]; simp; omega
    go_wp2_with (go_at_call 93; refine HR.out.mono ?_; rintro e w' ⟨rfl, hb⟩)
    go_ret
    refine ⟨ret_str ?_, by assumption⟩
    have := Hl.out
    have h2 := Hk.out
    rw [ba_app, ← sized_tail _ _ (by omega), h2, ← ba_len]

/-- a length that is any int, and what comes back as a letter -/
theorem sized_int (s : ByteArray) (m : Int) (w : World) (hs : s.size ≤ 1000000) (h0 : 0 ≤ m) (hn : m ≤ 1000000) :
    Calls Tryz.prog 92 #[.string s, .int .i64 m] w fun e w' => ∃ u : ByteArray, e = .returned (.string u) ∧ Hid (u.data.toList = Fp.sizedL s.data.toList m.toNat) ∧ (u.size : Int) ≤ m ∧ m ≤ u.size ∧ Below w.heap.size w w' := by
  obtain ⟨n, rfl⟩ := Int.eq_ofNat_of_zero_le h0
  refine (sized_any s n w hs (by omega)).mono fun e w' ⟨he, hb⟩ => ⟨_, he, Lib.hid rfl, ?_, ?_, hb⟩
  all_goals (rw [Lib.size_eq]; simp [Fp.sizedL_length])

/-- what a change hands back -/
def chgV (r : List UInt8 × Int) : Value := .tuple #[.string ⟨r.1.toArray⟩, .int .i64 r.2]
theorem ret_chg {u : ByteArray} {c : Int} {r : List UInt8 × Int} (h1 : u.data.toList = r.1) (h2 : c = r.2) : Ending.returned (.tuple #[.string u, .int .i64 c]) = .returned (chgV r) := by
  unfold chgV; rw [← h1, ← h2, ba_mk]
def capL (l : List UInt8) : List UInt8 × Int := if l.length ≤ 256 then (l, 0) else ([], 19)
theorem capL_yes {l : List UInt8} (h : l.length ≤ 256) : capL l = (l, 0) := by unfold capL; rw [if_pos h]
theorem capL_no {l : List UInt8} (h : ¬ l.length ≤ 256) : capL l = ([], 19) := by unfold capL; rw [if_neg h]

set_option maxHeartbeats 1000000 in
theorem change_no (s : ByteArray) (call inode : Int) (tr : Bool) (off : Int) (d : ByteArray) (w : World) (hd : d.size ≤ 80) (hm : Fp.mayB call inode tr off d.data.toList = false) :
    Calls Tryz.prog 88 #[.string s, recV call inode tr off d] w fun e w' => e = .returned (chgV ([], 1)) ∧ Below w.heap.size w w' := by
  unfold recV
  go_enter Tryz.func88, Tryz.ntmps88
  go_wp2_with (go_at_call 77; refine (may_any call inode tr off d _ (by omega)).mono ?_; rintro e w' ⟨rfl, hb⟩)
  go_ret2
  refine ⟨rfl, ?_⟩
  exact ((Below.refl _ _).alloc (Nat.le_refl _) _).trans (hb.mono (by simp))

set_option maxHeartbeats 1000000 in
theorem change_trunc (s : ByteArray) (call inode : Int) (off : Nat) (w : World) (hs : s.size ≤ 1000) (hm : Fp.mayB call inode true off [] = true) (ho : off ≤ 256) :
    Calls Tryz.prog 88 #[.string s, recV call inode true off ⟨#[]⟩] w fun e w' => e = .returned (chgV (capL (Fp.outL s.data.toList true off []))) ∧ Below w.heap.size w w' := by
  have hfin : Fp.outL s.data.toList true off [] = Fp.sizedL s.data.toList off := rfl
  rw [hfin, capL_yes (by rw [Fp.sizedL_length]; exact ho)]
  clear hfin
  unfold recV
  go_enter Tryz.func88, Tryz.ntmps88
  go_wp2_with (first | (go_at_call 77; refine (may_any call inode true off ⟨#[]⟩ _ (by show 0 ≤ _; omega)).mono ?_; rintro e w' ⟨rfl, hb⟩; obtain ⟨hc, hf⟩ := bcell hb))
  refine (sized_int s off _ (by omega) (by omega) (by omega)).mono ?_
  rintro e w2 ⟨u, rfl, hu, hu1, hu2, hb2⟩
  go_wp2
  go_ret2
  refine ⟨ret_chg (by have := hu.out; simpa using this) rfl, ?_⟩
  exact (((Below.refl _ _).alloc (Nat.le_refl _) _).trans (hb.mono (by simp))).trans (hb2.mono (by have := hb.size; simp at this; omega))

set_option maxHeartbeats 1000000 in
theorem change_none (s : ByteArray) (call inode : Int) (off : Int) (w : World) (hs : s.size ≤ 1000) (hm : Fp.mayB call inode false off [] = true) :
    Calls Tryz.prog 88 #[.string s, recV call inode false off ⟨#[]⟩] w fun e w' => e = .returned (chgV (capL s.data.toList)) ∧ Below w.heap.size w w' := by
  have hl := Lib.size_eq s
  have Hl := Lib.hid hl; clear hl
  by_cases hlt : s.size ≤ 256
  · rw [capL_yes (by rw [← Hl.out]; exact hlt)]
    unfold recV
    go_enter Tryz.func88, Tryz.ntmps88
    go_wp2_with (first | (go_at_call 77; refine (may_any call inode false off ⟨#[]⟩ _ (by show 0 ≤ _; omega)).mono ?_; rintro e w' ⟨rfl, hb⟩; obtain ⟨hc, hf⟩ := bcell hb))
    go_ret2
    exact ⟨ret_chg rfl rfl, ((Below.refl _ _).alloc (Nat.le_refl _) _).trans (hb.mono (by simp))⟩
  · rw [capL_no (by rw [← Hl.out]; exact hlt)]
    unfold recV
    go_enter Tryz.func88, Tryz.ntmps88
    go_wp2_with (first | (go_at_call 77; refine (may_any call inode false off ⟨#[]⟩ _ (by show 0 ≤ _; omega)).mono ?_; rintro e w' ⟨rfl, hb⟩; obtain ⟨hc, hf⟩ := bcell hb))
    go_ret2
    exact ⟨ret_chg rfl rfl, ((Below.refl _ _).alloc (Nat.le_refl _) _).trans (hb.mono (by simp))⟩

theorem outL_write (l : List UInt8) (off : Nat) (d : List UInt8) (hd : d.isEmpty = false) :
    (Fp.sizedL l (max (off + d.length) l.length)).take off ++ d ++ (Fp.sizedL l (max (off + d.length) l.length)).drop (off + d.length) = Fp.outL l false off d := by
  unfold Fp.outL
  rw [if_neg (by simp), hd, if_neg (by simp)]
  unfold Fp.sizedL
  by_cases h1 : off + d.length ≤ l.length
  · rw [Nat.max_eq_right h1, if_pos (Nat.le_refl _), if_pos (by omega), List.take_length]
  · rw [Nat.max_eq_left (by omega), if_neg (by omega), List.drop_eq_nil_of_le (by simp; omega)]
    rw [List.drop_eq_nil_of_le (by omega : l.length ≤ off + d.length)]
    congr 2
    by_cases h2 : off ≤ l.length
    · rw [if_pos h2, List.take_append_of_le_length h2]
    · rw [if_neg h2, List.take_append, List.take_of_length_le (by omega), List.take_replicate]
      congr 2; omega

set_option maxHeartbeats 1000000 in
theorem change_write (s : ByteArray) (call inode : Int) (off : Nat) (d : ByteArray) (w : World) (hs : s.size ≤ 1000) (hm : Fp.mayB call inode false off d.data.toList = true) (ho : off + d.size ≤ 256) (hd : 0 < d.size) :
    Calls Tryz.prog 88 #[.string s, recV call inode false off d] w fun e w' => e = .returned (chgV (capL (Fp.outL s.data.toList false off d.data.toList))) ∧ Below w.heap.size w w' := by
  have hd0 : d.toList.isEmpty = false := by
    rw [Lib.toList_data]; rw [Lib.size_eq] at hd; cases h : d.data.toList with | nil => rw [h] at hd; simp at hd | cons _ _ => rfl
  have hw := outL_write s.data.toList off d.data.toList (by rw [← Lib.toList_data]; exact hd0)
  rw [← Lib.size_eq, ← Lib.size_eq] at hw
  have HW := Lib.hid hw; clear hw
  unfold recV
  go_enter Tryz.func88, Tryz.ntmps88
  go_wp2_with (first | (go_at_call 77; refine (may_any call inode false off d _ (by omega)).mono ?_; rintro e w' ⟨rfl, hb⟩; obtain ⟨hc, hf⟩ := bcell hb))
  refine (sized_int s _ _ (by omega) (by omega) (by omega)).mono ?_
  rintro e w2 ⟨u, rfl, hu, hu1, hu2, hb2⟩
  obtain ⟨hc2, hf2⟩ := bcell hb2
  have hz := hb.size
  simp only [World.size_alloc] at hz
  have hz1 : w.heap.size < w'.heap.size := by omega
  have hu3 : (off : Int) ≤ u.size := by omega
  have hu4 : (off : Int) + d.size ≤ u.size := by omega
  go_wp2
  go_quiet (fail)
  go_wp2
  all_goals
    have hB : Below w.heap.size w (w2.drewN nq) := below_drewN ((((Below.refl _ _).alloc (Nat.le_refl _) _).trans (hb.mono (by simp))).trans (hb2.mono (by omega))) _
    have hd1 : (u.extract 0 off ++ d ++ u.extract (off + d.size) u.size).data.toList = Fp.outL s.data.toList false off d.data.toList := by
      rw [ba_app, ba_app, ba_head, ba_tail, hu.out, ← HW.out]
      rw [show (max ((off : Int) + (d.size : Int)) (s.size : Int)).toNat = max (off + d.size) s.size from by omega]
    have hl : (Fp.outL s.data.toList false off d.data.toList).length = min off u.size + d.size + (u.size - (off + d.size)) := by
      rw [← hd1, ← Lib.size_eq]; simp
    go_ret2
    refine ⟨?_, hB⟩
  · rw [capL_no (by omega)]
    exact ret_chg rfl rfl
  · rw [capL_yes (by omega)]
    exact ret_chg hd1 rfl

theorem chg_def (s : List UInt8) (call inode : Int) (tr : Bool) (off : Int) (d : List UInt8) (h : Fp.mayB call inode tr off d = true) :
    Fp.chg s call inode tr off d = capL (Fp.outL s tr off.toNat d) := by unfold Fp.chg capL; rw [h]; rfl
theorem mayB_off {call inode : Int} {tr : Bool} {off : Int} {d : List UInt8} (h : Fp.mayB call inode tr off d = true) :
    0 ≤ off ∧ off ≤ 256 ∧ off + d.length ≤ 256 ∧ d.length ≤ 64 ∧ (tr = true → d = []) := by
  unfold Fp.mayB at h
  simp only [Bool.and_eq_true, decide_eq_true_eq] at h
  obtain ⟨⟨_, _, _, _, h1, h2, h3, h4⟩, h5⟩ := h
  refine ⟨h1, h2, h4, h3, fun ht => ?_⟩
  subst ht
  cases d with
  | nil => rfl
  | cons _ _ => simp at h5
theorem ba_nil {d : ByteArray} (h : d.data.toList = []) : d = ⟨#[]⟩ := ba_ext h

theorem change_any (s : ByteArray) (call inode : Int) (tr : Bool) (off : Int) (d : ByteArray) (w : World) (hs : s.size ≤ 1000) (hd : d.size ≤ 80) :
    Calls Tryz.prog 88 #[.string s, recV call inode tr off d] w fun e w' => e = .returned (chgV (Fp.chg s.data.toList call inode tr off d.data.toList)) ∧ Below w.heap.size w w' := by
  by_cases hm : Fp.mayB call inode tr off d.data.toList = true
  · rw [chg_def _ _ _ _ _ _ hm]
    obtain ⟨h0, h1, h2, h3, h4⟩ := mayB_off hm
    obtain ⟨o, rfl⟩ := Int.eq_ofNat_of_zero_le h0
    rw [Int.toNat_natCast]
    by_cases hn : d.data.toList = []
    · obtain rfl := ba_nil hn
      cases tr with
      | true => exact change_trunc s call inode o w hs hm (by omega)
      | false => exact change_none s call inode o w hs hm
    · cases tr with
      | true => exact absurd (h4 rfl) hn
      | false =>
        have := List.length_pos_iff.2 hn
        rw [← Lib.size_eq] at this h2
        exact change_write s call inode o d w hs hm (by omega) this
  · have hm' : Fp.mayB call inode tr off d.data.toList = false := by simpa using hm
    have hfin : Fp.chg s.data.toList call inode tr off d.data.toList = ([], 1) := by unfold Fp.chg; rw [hm']; rfl
    rw [hfin]
    exact change_no s call inode tr off d w hd hm'

end Fl
end Go.Proofs.YtiinponoeaihcaaGreat

/- Walks: commonsref02.plus, More, Sum. -/
namespace Go.Proofs.YtiinponoeaihcaaGreat
open Go.RowKit
namespace Gd
theorem xor_bit (a b i : Nat) : (a ^^^ b) / 2 ^ i % 2 = (if a / 2 ^ i % 2 = b / 2 ^ i % 2 then 0 else 1) := by
  have h := Nat.testBit_xor a b i
  rw [Nat.testBit_eq_decide_div_mod_eq, Nat.testBit_eq_decide_div_mod_eq, Nat.testBit_eq_decide_div_mod_eq] at h
  have h0 := Nat.mod_two_eq_zero_or_one ((a ^^^ b) / 2 ^ i)
  have h1 := Nat.mod_two_eq_zero_or_one (a / 2 ^ i)
  have h2 := Nat.mod_two_eq_zero_or_one (b / 2 ^ i)
  rcases h0 with h0 | h0 <;> rcases h1 with h1 | h1 <;> rcases h2 with h2 | h2 <;> rw [h0, h1, h2] at h ⊢ <;> simp at h ⊢
theorem xor_next (a b i : Nat) : (a ^^^ b) % 2 ^ (i + 1) = (a ^^^ b) % 2 ^ i + (if a / 2 ^ i % 2 = b / 2 ^ i % 2 then 0 else 2 ^ i) := by
  rw [Nat.mod_pow_succ, xor_bit]
  split <;> simp
/-- a register behind some bits of a byte -/
def refR : Nat → Nat → Nat → Nat
  | 0, r, _ => r
  | k + 1, r, c => if refR k r c % 2 = c / 2 ^ k % 2 then refR k r c / 2 else (refR k r c / 2) ^^^ poly
theorem refR_lt : ∀ (k : Nat) {r c : Nat}, r < 4294967296 → refR k r c < 4294967296
  | 0, _, _, h => h
  | k + 1, r, c, h => by
    have := refR_lt k (c := c) h
    rw [refR]
    split
    · omega
    · exact Nat.xor_lt_two_pow (n := 32) (by omega) poly_lt
theorem refR_steps : ∀ (k r c : Nat), bitSteps k (r ^^^ c) = refR k r c ^^^ (c / 2 ^ k)
  | 0, r, c => by simp [bitSteps, refR]
  | k + 1, r, c => by
    rw [bitSteps, refR_steps k, refR, Nat.pow_succ, ← Nat.div_div_eq_div_mul]
    generalize refR k r c = x
    generalize c / 2 ^ k = y
    unfold bitStep
    have h0 : (x ^^^ y) / 2 = (x / 2) ^^^ (y / 2) := by
      have := Nat.shiftRight_xor_distrib (a := x) (b := y) (i := 1)
      rw [Nat.shiftRight_eq_div_pow, Nat.shiftRight_eq_div_pow, Nat.shiftRight_eq_div_pow] at this
      exact this
    have h1 : (x ^^^ y) % 2 = (x + y) % 2 := by
      have := xor_bit x y 0
      simp only [Nat.pow_zero, Nat.div_one] at this
      split at this <;> omega
    have h2 := Nat.mod_two_eq_zero_or_one x
    have h3 := Nat.mod_two_eq_zero_or_one y
    rw [h0]
    by_cases hc : x % 2 = y % 2
    · rw [if_pos hc, if_neg (by omega)]
    · rw [if_neg hc, if_pos (by omega), Nat.xor_assoc, Nat.xor_assoc, Nat.xor_comm poly]
theorem refR_byte (r : Nat) (c : UInt8) : refR 8 r c.toNat = byteStep r c := by
  unfold byteStep
  rw [refR_steps, Nat.div_eq_of_lt c.toNat_lt, Nat.xor_zero]
end Gd

set_option maxHeartbeats 4000000 in
set_option maxRecDepth 100000 in
theorem plus_any (a b : Nat) (ha : a < 4294967296) (hb : b < 4294967296) (w : World) : Calls Tryz.prog 85 #[.int .i64 a, .int .i64 b] w fun e w' => e = .returned (.int .i64 (a ^^^ b : Nat)) ∧ w' = w := by
  have HX : Hid ((a ^^^ b) < 2 ^ 32) := Lib.hid (Nat.xor_lt_two_pow (n := 32) ha hb)
  go_enter Tryz.func85, Tryz.ntmps85
  go_upto_region 3 with fail
  go_wp2
  go_loop [0, 1, 5, 6, 7] (fun u v n p i => ∃ k x y m q : Nat, u = .int .i64 x ∧ v = .int .i64 y ∧ n = .int .i64 m ∧ p = .int .i64 q ∧ i = .int .i64 k ∧ k ≤ 32 ∧ x < 4294967296 ∧ y < 4294967296 ∧ m < 4294967296 ∧ q ≤ 4294967296 ∧ Hid (x = a / 2 ^ k ∧ y = b / 2 ^ k ∧ m = (a ^^^ b) % 2 ^ k ∧ q = 2 ^ k)) (fun _ _ _ _ i => 32 - (intOf i).toNat)
  case atStart => exact ⟨0, a, b, 0, 1, rfl, rfl, rfl, rfl, rfl, by omega, ha, hb, by omega, by omega, Lib.hid ⟨by simp, by simp, by simp [Nat.mod_one], rfl⟩⟩
  case round =>
    obtain ⟨k, x, y, m, q, rfl, rfl, rfl, rfl, rfl, hk, hx, hy, hm, hq, HH⟩ := hrel
    by_cases hlt : k < 32
    · have h1 : (k : Int) < 32 := by omega
      have HN : Hid (x / 2 = a / 2 ^ (k + 1) ∧ y / 2 = b / 2 ^ (k + 1) ∧ 2 * q = 2 ^ (k + 1) ∧ (a ^^^ b) % 2 ^ (k + 1) = m + if x % 2 = y % 2 then 0 else q) := Lib.hid (by
        obtain ⟨rfl, rfl, rfl, rfl⟩ := HH.out
        exact ⟨by rw [Nat.pow_succ, Nat.div_div_eq_div_mul], by rw [Nat.pow_succ, Nat.div_div_eq_div_mul], by rw [Nat.pow_succ, Nat.mul_comm], Gd.xor_next a b k⟩)
      have hq2 : q < 4294967296 := by
        obtain ⟨_, _, _, rfl⟩ := HH.out
        exact Nat.pow_lt_pow_of_lt (a := 2) (n := k) (m := 32) (by omega) hlt
      have hq3 : 2 * q ≤ 4294967296 := by
        rw [HN.out.2.2.1]
        exact (Nat.pow_le_pow_right (by decide : 0 < 2) (by omega : k + 1 ≤ 32))
      have hm2 : (m + if x % 2 = y % 2 then 0 else q) < 4294967296 := by
        have h := HN.out.2.2.2
        rw [← h]
        exact Nat.lt_of_le_of_lt (Nat.mod_le _ _) HX.out
      by_cases hc : x % 2 = y % 2
      · rw [if_pos hc] at HN hm2
        have hci : ((x : Int) % 2) = (y : Int) % 2 := by omega
        clear HH hlt
        go_wp2
        go_round
        case rel => exact ⟨k + 1, x / 2, y / 2, m, 2 * q, by go_num, by go_num, by go_num, by go_num, by go_num, by omega, by omega, by omega, hm, hq3, Lib.hid ⟨HN.out.1, HN.out.2.1, by rw [HN.out.2.2.2]; rfl, HN.out.2.2.1⟩⟩
        case measure => simp [intOf]; omega
      · rw [if_neg hc] at HN hm2
        have hci : ¬ ((x : Int) % 2) = (y : Int) % 2 := by omega
        clear HH hlt
        go_wp2
        go_round
        case rel => exact ⟨k + 1, x / 2, y / 2, m + q, 2 * q, by go_num, by go_num, by go_num, by go_num, by go_num, by omega, by omega, by omega, hm2, hq3, Lib.hid ⟨HN.out.1, HN.out.2.1, by rw [HN.out.2.2.2], HN.out.2.2.1⟩⟩
        case measure => simp [intOf]; omega
    · have h1 : ¬ (k : Int) < 32 := by omega
      have HK : Hid (k = 32) := Lib.hid (by omega)
      clear hlt hk
      go_wp2
      go_ret
      refine ⟨?_, rfl⟩
      rw [HH.out.2.2.1, HK.out, Nat.mod_eq_of_lt HX.out]
      rfl

set_option maxHeartbeats 4000000 in
set_option maxRecDepth 100000 in
theorem more_any (r : Nat) (v : Value) (L : List UInt8) (hr : r < 4294967296) (w : World) (hb : BytesAt w v L) (hl : L.length ≤ 1000000) : Calls Tryz.prog 66 #[.int .i64 r, v] w fun e w' => e = .returned (.int .i64 (Gd.crcR r L : Nat)) ∧ w' = w := by
  obtain ⟨A, c, rfl, hA⟩ := hb
  have HA := Lib.hid hA
  obtain ⟨n, hn⟩ : ∃ n, n = L.length := ⟨_, rfl⟩
  rw [← hn]
  rw [← hn] at hl
  have Hn := Lib.hid hn
  clear hA hn
  go_enter Tryz.func66, Tryz.ntmps66
  go_upto_region 1 with fail
  go_wp2
  go_loopw [0, 5] (fun u z wr => ∃ i x : Nat, z = .int .i64 i ∧ u = .int .i64 x ∧ x < 4294967296 ∧ i ≤ n ∧ wr = w ∧ Hid (x = Gd.crcR r (L.take i))) (fun _ z _ => n - (intOf z).toNat)
  case atStart => exact ⟨0, r, rfl, rfl, hr, by omega, rfl, Lib.hid rfl⟩
  case round =>
    obtain ⟨i, x, rfl, rfl, hx, hin, rfl, HR⟩ := hrel
    by_cases hlt : i < n
    · obtain ⟨y, hy⟩ : ∃ y, L[i]? = some y := ⟨_, List.getElem?_eq_getElem (by have := Hn.out; omega)⟩
      obtain ⟨b, o, rfl, hbl, hcell⟩ : ∃ b o, A = some ⟨b, o, none⟩ ∧ b < wr.heap.size ∧ ∀ (j : Nat) (x : UInt8), L[j]? = some x → wr.cell? ⟨b, o + j, none⟩ = some (.int .u8 x.toNat) := by
        rcases HA.out with ⟨_, h, _⟩ | h
        · rw [h] at hy; simp at hy
        · exact h
      have hc := hcell i y hy
      have h1 : (i : Int) < n := by omega
      have h0 : (0 : Int) ≤ i := by omega
      have HS : Hid (Gd.crcR r (L.take (i + 1)) = Gd.refR 8 x y.toNat) := Lib.hid (by rw [List.take_add_one, hy, Gd.refR_byte, HR.out]; exact Gd.crcR_snoc _ _ _)
      have hy8 := y.toNat_lt
      have HA2 := Lib.hid hcell
      clear hy hlt hcell
      go_upto_region 5 with fail
      go_wp2
      go_loopw [0, 6, 7] (fun u p z wz => ∃ k xx q : Nat, z = .int .i64 k ∧ u = .int .i64 xx ∧ p = .int .i64 q ∧ xx < 4294967296 ∧ q < 256 ∧ k ≤ 8 ∧ wz = wr ∧ Hid (xx = Gd.refR k x y.toNat ∧ q = y.toNat / 2 ^ k)) (fun _ _ z _ => 8 - (intOf z).toNat)
      case atStart => exact ⟨0, x, y.toNat, rfl, rfl, rfl, hx, hy8, by omega, rfl, Lib.hid ⟨rfl, by simp⟩⟩
      case round =>
        obtain ⟨k, xx, q, rfl, rfl, rfl, hxx, hq, hk8, rfl, HQ⟩ := hrel
        by_cases hlt : k < 8
        · have h2 : (k : Int) < 8 := by omega
          have HN : Hid (Gd.refR (k + 1) x y.toNat = (if xx % 2 = q % 2 then xx / 2 else (xx / 2) ^^^ Gd.poly) ∧ q / 2 = y.toNat / 2 ^ (k + 1)) := Lib.hid (by
            obtain ⟨rfl, rfl⟩ := HQ.out
            exact ⟨by rw [Gd.refR], by rw [Nat.pow_succ, Nat.div_div_eq_div_mul]⟩)
          have HP := Lib.hid (plus_any (xx / 2) Gd.poly (by omega) Gd.poly_lt)
          have HL : Hid ((xx / 2) ^^^ Gd.poly < 4294967296) := Lib.hid (Nat.xor_lt_two_pow (n := 32) (by omega) Gd.poly_lt)
          clear HQ
          by_cases hc : xx % 2 = q % 2
          · rw [if_pos hc] at HN
            have hci : ((xx : Int) % 2) = (q : Int) % 2 := by omega
            clear HP HL hlt
            go_wp2
            go_roundw
            case rel => exact ⟨k + 1, xx / 2, q / 2, by go_num, by go_num, by go_num, by omega, by omega, by omega, trivial, Lib.hid ⟨HN.out.1.symm, HN.out.2⟩⟩
            case measure => simp [intOf]; omega
          · rw [if_neg hc] at HN
            have hci : ¬ ((xx : Int) % 2) = (q : Int) % 2 := by omega
            clear hlt
            go_wp2_with (go_at_call 85; refine (HP.out _).mono ?_; rintro e w' ⟨rfl, rfl⟩)
            go_roundw
            case rel => exact ⟨k + 1, (xx / 2) ^^^ Gd.poly, q / 2, by go_num, by go_num, by go_num, HL.out, by omega, by omega, trivial, Lib.hid ⟨HN.out.1.symm, HN.out.2⟩⟩
            case measure => simp [intOf]; omega
        · have h2 : ¬ (k : Int) < 8 := by omega
          have HK : Hid (k = 8) := Lib.hid (by omega)
          clear hlt hk8
          go_wp2
          go_roundw
          case rel => exact ⟨i + 1, xx, by go_num, by go_num, hxx, by omega, trivial, Lib.hid (by rw [HQ.out.1, HK.out, HS.out])⟩
          case measure => simp [intOf]; omega
    · have h1 : ¬ (i : Int) < n := by omega
      have HK : Hid (i = n) := Lib.hid (by omega)
      clear hlt
      go_wp2
      go_ret
      have := HR.out
      rw [HK.out, List.take_of_length_le (by have := Hn.out; omega)] at this
      exact ⟨by rw [this]; rfl, rfl⟩

set_option maxHeartbeats 4000000 in
theorem rsum_any (v : Value) (L : List UInt8) (w : World) (hb : BytesAt w v L) (hl : L.length ≤ 1000000) : Calls Tryz.prog 32 #[v] w fun e w' => e = .returned (.int .i64 (Gd.crc L)) ∧ w' = w := by
  have HM := Lib.hid (more_any Gd.ones v L (by decide) w hb hl)
  have hlt := Gd.crcR_lt L (r := Gd.ones) (by decide)
  have HC : Hid ((Gd.crc L : Int) = 4294967295 - (Gd.crcR Gd.ones L : Nat)) := Lib.hid (by unfold Gd.crc; show ((4294967295 - Gd.crcR Gd.ones L : Nat) : Int) = _; omega)
  clear hb
  go_enter Tryz.func32, Tryz.ntmps32
  go_wp2_with fail
  refine HM.out.mono ?_
  rintro e w2 ⟨rfl, rfl⟩
  go_wp2
  go_ret
  exact ⟨by rw [HC.out]; rfl, rfl⟩

end Go.Proofs.YtiinponoeaihcaaGreat

/- Walks: commonsref01.power, Fits, Put, Get. -/
namespace Go.Proofs.YtiinponoeaihcaaGreat
open Go.RowKit

theorem app_byteG {ops : Array Oper} {rest : List Oper} {o : Oper} {a : Act} {Q : Exit → Act → World → Prop} (hgd : o.guard = none) (s x : Operand) (ho : o.op = .call { callee := .builtin .append, args := #[s, x], argTypes := #[42, 42] })
    (B : Nat) (v : Value) (L : List UInt8) (w0 : World) (hs : a.eval s = v) (hown : OwnB w0 B v L) (c : Int) (y : UInt8) (hy : c = y.toNat) (hx : a.eval x = .slice (some ⟨w0.heap.size, 0, none⟩) 1 1) (hlen : L.length < 8000000) (hB : B ≤ w0.heap.size)
    (h : ∀ v' w', OwnB w' B v' (L ++ [y]) → Below B w0 w' → wpList Tryz.prog ops Q rest (a.put o.dst v') w') : wpList Tryz.prog ops Q (o :: rest) a (w0.alloc (.cells #[.int .u8 c] 5)) := by
  obtain ⟨i0, hi, hz0, hz1, hz2⟩ := info_parts Tryz.infoU8
  have hb := own_block hown
  have hown' : (w0.alloc (.cells #[.int .u8 c] 5)).ownsRow B 5 1 v L.length (Lib.byteCells L) := OwnB.keep hown ((Below.refl _ w0).alloc (Nat.le_refl _) _)
  refine wpList_append_own _ hgd s x 42 ho B 5 i0 _ 1 1 Tryz.underlying42 hi hz0 hz1 hz2 rfl (by decide) v L.length (Lib.byteCells L) hs hown' ⟨w0.heap.size, 0, none⟩ 1 1 [.int .u8 c] hx rfl (cell_one_new _ _ _) (by intro u hu; simp only [List.mem_singleton] at hu; subst hu; rfl) (by unfold maxLen; omega) (by omega) (by simp; omega) ?_
  intro v' w' h1 h2 _
  refine h v' w' ?_ (((Below.refl B w0).alloc hB _).trans (below_grown h2 (by simp; omega) fun k hk => (hb k hk).1))
  unfold OwnB
  rw [hy] at h1
  rw [List.length_append, ← byteCells_app]
  exact h1

theorem app_bytesG {ops : Array Oper} {rest : List Oper} {o : Oper} {a : Act} {Q : Exit → Act → World → Prop} (hgd : o.guard = none) (s x : Operand) (ho : o.op = .call { callee := .builtin .append, args := #[s, x], argTypes := #[42, 42] })
    (B : Nat) (v : Value) (L : List UInt8) (w0 : World) (hs : a.eval s = v) (hown : OwnB w0 B v L) (u : Value) (M : List UInt8) (hM : BytesAt w0 u M) (hx : a.eval x = u) (hlen : L.length + M.length ≤ 8000000) (hB : B ≤ w0.heap.size)
    (h : ∀ v' w', OwnB w' B v' (L ++ M) → Below B w0 w' → wpList Tryz.prog ops Q rest (a.put o.dst v') w') : wpList Tryz.prog ops Q (o :: rest) a w0 := by
  obtain ⟨i0, hi, hz0, hz1, hz2⟩ := info_parts Tryz.infoU8
  have hb := own_block hown
  obtain ⟨A, c, rfl, ⟨rfl, rfl, rfl⟩ | ⟨b, o', rfl, hbl, hc⟩⟩ := hM
  · refine wpList_append_own_none hgd s x 42 ho B 5 i0 1 Tryz.underlying42 hi v L.length (Lib.byteCells L) hs hown hx ?_
    have := h v w0 (by rw [List.append_nil]; exact hown) (Below.refl _ _)
    exact this
  · refine wpList_append_own _ hgd s x 42 ho B 5 i0 _ 1 1 Tryz.underlying42 hi hz0 hz1 hz2 rfl (by decide) v L.length (Lib.byteCells L) hs hown ⟨b, o', none⟩ M.length c (Lib.byteCells M) hx (by rw [byteCells_len, Nat.mul_one]) (bytes_news hc) (byteCells_one M) (by unfold maxLen; omega) (by omega) hB ?_
    intro v' w' h1 h2 _
    refine h v' w' ?_ (below_grown h2 hB fun k hk => (hb k hk).1)
    unfold OwnB
    rw [List.length_append, ← byteCells_app]
    exact h1

set_option maxHeartbeats 4000000 in
theorem power_any (n : Nat) (hn : n ≤ 7) (w : World) : Calls Tryz.prog 83 #[.int .i64 n] w fun e w' => e = .returned (.int .i64 (256 ^ n : Nat)) ∧ w' = w := by
  go_enter Tryz.func83, Tryz.ntmps83
  go_upto_region 2 with fail
  go_wp2
  go_loop [3, 4] (fun u z => ∃ k x : Nat, u = .int .i64 x ∧ z = .int .i64 k ∧ k ≤ n ∧ x ≤ 72057594037927936 ∧ Hid (x = 256 ^ k)) (fun _ z => n - (intOf z).toNat)
  case atStart => exact ⟨0, 1, rfl, rfl, by omega, by omega, Lib.hid rfl⟩
  case round =>
    obtain ⟨k, x, rfl, rfl, hk, hx, HX⟩ := hrel
    by_cases hlt : k < n
    · have h1 : (k : Int) < n := by omega
      have hx2 : x * 256 ≤ 72057594037927936 := by
        rw [HX.out, ← Nat.pow_succ]
        exact (Nat.pow_le_pow_right (by decide : 0 < 256) (by omega : k + 1 ≤ 7))
      clear hlt
      go_wp2
      go_round
      case rel => exact ⟨k + 1, x * 256, by go_num, by go_num, by omega, hx2, Lib.hid (by rw [HX.out, Nat.pow_succ])⟩
      case measure => simp [intOf]; omega
    · have h1 : ¬ (k : Int) < n := by omega
      have HK : Hid (k = n) := Lib.hid (by omega)
      clear hlt hk
      go_wp2
      go_ret
      rw [HX.out, HK.out]
      exact ⟨rfl, rfl⟩

set_option maxHeartbeats 4000000 in
theorem rfits_any (n : Int) (k : Nat) (hk : Gd.wid k) (hn : I64 n) (w : World) : Calls Tryz.prog 64 #[.int .i64 n, .int .i64 k] w fun e w' => e = .returned (.bool (Gd.fitsB n k)) ∧ w' = w := by
  obtain ⟨hlo, hhi⟩ := hn.lo
  clear hn
  by_cases h0 : n < 0
  · go_enter Tryz.func64, Tryz.ntmps64
    go_wp2
    go_ret
    refine ⟨ret_bool ?_, rfl⟩
    unfold Gd.fitsB
    rw [decide_eq_false (by omega : ¬ 0 ≤ n)]
    rfl
  · have HF : Hid (Gd.fitsB n k = (decide (k = 8) || decide (n < ((256 ^ k : Nat) : Int)))) := Lib.hid (by unfold Gd.fitsB; rw [decide_eq_true (by omega : 0 ≤ n)]; rfl)
    by_cases h8 : k = 8
    · subst h8
      go_enter Tryz.func64, Tryz.ntmps64
      go_wp2
      go_ret
      exact ⟨ret_bool (by rw [HF.out]; rfl), rfl⟩
    · have HP := Lib.hid (power_any k (by rcases hk with rfl | rfl | rfl | rfl <;> omega))
      rw [decide_eq_false h8, Bool.false_or] at HF
      obtain ⟨q, hq⟩ : ∃ q : Nat, q = 256 ^ k := ⟨_, rfl⟩
      have hq2 : q ≤ 4294967296 := by rw [hq]; rcases hk with rfl | rfl | rfl | rfl <;> first | decide | exact absurd rfl h8
      rw [← hq] at HP HF
      have hk3 : k = 1 ∨ k = 2 ∨ k = 4 := by rcases hk with h | h | h | h <;> omega
      clear hk h8 hq
      rcases hk3 with rfl | rfl | rfl
      all_goals
        go_enter Tryz.func64, Tryz.ntmps64
        go_wp2_with (go_at_call 83; refine (HP.out _).mono ?_; rintro e w' ⟨rfl, rfl⟩)
        go_ret
        exact ⟨ret_bool (by rw [HF.out]), rfl⟩

set_option maxHeartbeats 4000000 in
set_option maxRecDepth 100000 in
theorem rput_any (v : Value) (L : List UInt8) (n : Int) (k : Nat) (hk : Gd.wid k) (hn : I64 n) (w : World) (h : BytesAt w v L) (hl : L.length ≤ 4000000) : Calls Tryz.prog 31 #[v, .int .i64 n, .int .i64 k] w (GivesB w (Gd.put L n k)) := by
  have HF := Lib.hid (rfits_any n k hk hn)
  have hk8 : k ≤ 8 := by rcases hk with rfl | rfl | rfl | rfl <;> omega
  have HN := Lib.hid hn
  have HV := Lib.hid h
  obtain ⟨fb, hfb⟩ : ∃ fb, fb = Gd.fitsB n k := ⟨_, rfl⟩
  rw [← hfb] at HF
  have HFb := Lib.hid hfb
  clear h hn hfb
  go_enter Tryz.func31, Tryz.ntmps31
  go_wp2_with (at_builtin; refine app_bytesG rfl _ _ rfl w.heap.size (.slice none 0 0) [] w rfl (ownB_nil _ _) v L HV.out rfl (by simp; omega) (Nat.le_refl _) ?_)
  intro v1 w1 ho1 hb1
  have HO1 := Lib.hid ho1
  have HB1 := Lib.hid hb1
  clear ho1 hb1
  cases fb with
  | false =>
    go_wp2_with (go_at_call 64; refine (HF.out _).mono ?_; rintro e w2 ⟨rfl, rfl⟩)
    go_ret
    unfold GivesB Gd.put
    rw [← HFb.out]
    exact ⟨_, rfl, HO1.out, HB1.out⟩
  | true =>
    obtain ⟨m, hm⟩ : ∃ m : Nat, n = m := ⟨n.toNat, by have := HFb.out; unfold Gd.fitsB at this; simp at this; omega⟩
    subst hm
    have hm63 : m ≤ 9223372036854775807 := by have := HN.out.lo; omega
    go_upto_region 6 with (go_at_call 64; refine (HF.out _).mono ?_; rintro e w2 ⟨rfl, rfl⟩)
    go_wp2
    go_loopw [1, 7, 9] (fun y u z wr => ∃ i x : Nat, z = .int .i64 i ∧ y = .int .i64 x ∧ i ≤ k ∧ x ≤ 9223372036854775807 ∧ Hid (x = m / 256 ^ i) ∧ OwnB wr w.heap.size u (L ++ Gd.le m i) ∧ Below w.heap.size w wr) (fun _ _ z _ => k - (intOf z).toNat)
    case atStart => exact ⟨0, m, rfl, rfl, by omega, hm63, Lib.hid (by simp), by rw [Gd.le, List.append_nil]; exact HO1.out, HB1.out⟩
    case round =>
      obtain ⟨i, x, rfl, rfl, hik, hx, HX, hown, hbw⟩ := hrel
      by_cases hlt : i < k
      · have HO := Lib.hid hown
        have HB := Lib.hid hbw
        have h1 : (i : Int) < k := by omega
        have h2 : (i : Int) < 8 := by omega
        clear hown hbw
        have HV : Hid ((x : Int) % 256 = ((UInt8.ofNat (m / 256 ^ i)).toNat : Int)) := Lib.hid (by rw [← HX.out]; simp)
        have HL : Hid ((L ++ Gd.le m i).length < 8000000) := Lib.hid (by rw [List.length_append, Gd.le_length]; omega)
        go_wp2_with (at_builtin; refine app_byteG rfl _ _ rfl w.heap.size u7 (L ++ Gd.le m i) wr rfl HO.out _ (UInt8.ofNat (m / 256 ^ i)) HV.out rfl HL.out HB.out.size ?_)
        intro v' w' ho' hb'
        have HO' : Hid (OwnB w' w.heap.size v' (L ++ Gd.le m (i + 1))) := Lib.hid (by rw [put_step]; exact ho')
        have HB' := Lib.hid (HB.out.trans hb')
        clear ho' hb'
        go_wp2
        go_roundw
        case rel => exact ⟨i + 1, x / 256, by go_num, by go_num, by omega, by omega, Lib.hid (by rw [HX.out, Nat.pow_succ, Nat.div_div_eq_div_mul]), HO'.out, HB'.out⟩
        case measure => simp [intOf]; omega
      · obtain rfl : i = k := by omega
        have HO := Lib.hid hown
        have HB := Lib.hid hbw
        clear hown hbw
        go_wp2
        go_ret
        unfold GivesB Gd.put
        rw [← HFb.out]
        exact ⟨_, rfl, HO.out, HB.out⟩

end Go.Proofs.YtiinponoeaihcaaGreat

/- Walks: commonsref01.Get. -/
namespace Go.Proofs.YtiinponoeaihcaaGreat
open Go.RowKit
namespace Gd
theorem unle_app : ∀ (A B : List UInt8), unle (A ++ B) = unle A + 256 ^ A.length * unle B
  | [], B => by simp [unle]
  | a :: r, B => by
    rw [List.cons_append, unle, unle, unle_app r, List.length_cons, Nat.pow_succ, Nat.mul_add, ← Nat.mul_assoc, Nat.mul_comm (256 ^ r.length) 256]
    omega
theorem getN_split (L : List UInt8) (a j m : Nat) (h : a + j ≤ L.length) : getN L a (j + m) = getN L a j + 256 ^ j * getN L (a + j) m := by
  unfold getN
  have h1 : (L.drop a).take (j + m) = (L.drop a).take j ++ (L.drop (a + j)).take m := by
    rw [List.take_add, List.drop_drop]
  rw [h1, unle_app]
  congr 2
  rw [List.length_take, List.length_drop, Nat.min_eq_left (by omega)]
theorem getN_front (L : List UInt8) (a m : Nat) {x : UInt8} (h : L[a]? = some x) : getN L a (m + 1) = getN L (a + 1) m * 256 + x.toNat := by
  have hl := (List.getElem?_eq_some_iff.mp h).1
  rw [Nat.add_comm m 1, getN_split L a 1 m (by omega)]
  have : getN L a 1 = x.toNat := by
    have := getN_next (L := L) (a := a) (i := 0) (x := x) h
    rw [this]
    simp [getN, unle]
  rw [this]
  omega
theorem getN_up (L : List UInt8) (a j m : Nat) (h : a + j ≤ L.length) : getN L (a + j) m ≤ getN L a (j + m) := by
  rw [getN_split L a j m h]
  have : 1 ≤ 256 ^ j := Nat.one_le_pow _ _ (by decide)
  have := Nat.mul_le_mul this (Nat.le_refl (getN L (a + j) m))
  omega
end Gd

end Go.Proofs.YtiinponoeaihcaaGreat

/- Clients' logs, in plain words: a record as bytes, and back. -/
namespace Go.Proofs.YtiinponoeaihcaaGreat
namespace Gd
structure Rec where
  call : Int
  inode : Int
  tr : Bool
  off : Int
  d : List UInt8
def Rec.may (r : Rec) : Bool := Fp.mayB r.call r.inode r.tr r.off r.d
def trB (t : Bool) : UInt8 := if t then 1 else 0
def bodyL (r : Rec) : List UInt8 := le r.call.toNat 8 ++ ([UInt8.ofNat r.inode.toNat, trB r.tr] ++ (le r.off.toNat 2 ++ ([UInt8.ofNat r.d.length] ++ r.d)))
def sumL (r : Rec) : List UInt8 := bodyL r ++ le (crc (bodyL r)) 4
def padL (L : List UInt8) : List UInt8 := L ++ List.replicate (up8 L.length - L.length) 0
def encL (r : Rec) : List UInt8 := padL (sumL r)
theorem bodyL_length (r : Rec) : (bodyL r).length = 13 + r.d.length := by
  unfold bodyL
  simp only [List.length_append, le_length, List.length_cons, List.length_nil]
  omega
theorem sumL_length (r : Rec) : (sumL r).length = 17 + r.d.length := by
  unfold sumL
  rw [List.length_append, bodyL_length, le_length]
  omega
theorem up8_le (n : Nat) : n ≤ up8 n ∧ up8 n < n + 8 ∧ up8 n % 8 = 0 := by
  unfold up8
  omega
theorem padL_length (L : List UInt8) : (padL L).length = up8 L.length := by
  unfold padL
  have := up8_le L.length
  rw [List.length_append, List.length_replicate]
  omega
theorem encL_length (r : Rec) : (encL r).length = up8 (17 + r.d.length) := by
  unfold encL
  rw [padL_length, sumL_length]
theorem le_unle : ∀ (L : List UInt8), le (unle L) L.length = L
  | [] => rfl
  | b :: r => by
    have h1 : (b.toNat + 256 * unle r) / 256 = unle r := by have := b.toNat_lt; omega
    have h2 : UInt8.ofNat (b.toNat + 256 * unle r) = b := by
      apply UInt8.toNat_inj.mp
      rw [UInt8.toNat_ofNat']
      have := b.toNat_lt
      omega
    rw [unle, List.length_cons, le, h1, h2, le_unle r]
def nOf (L : List UInt8) : Nat := (L.getD 12 0).toNat
def recOf (L : List UInt8) : Rec := ⟨get L 0 8, (L.getD 8 0).toNat, decide (L.getD 9 0 = 1), get L 10 2, (L.drop 13).take (nOf L)⟩
instance (A B : List UInt8) : Decidable (A <+: B) := inferInstance
def decR (L : List UInt8) : Option (Rec × Nat) :=
  if 17 + nOf L ≤ L.length ∧ getN L (13 + nOf L) 4 = crc (L.take (13 + nOf L)) ∧ (recOf L).may = true ∧ encL (recOf L) <+: L then some (recOf L, up8 (17 + nOf L)) else none
theorem recOf_len {L : List UInt8} (h : 17 + nOf L ≤ L.length) : (recOf L).d.length = nOf L := by
  show ((L.drop 13).take (nOf L)).length = _
  rw [List.length_take, List.length_drop]
  omega
theorem take_parts {L : List UInt8} (h : 17 + nOf L ≤ L.length) : L.take (13 + nOf L) = L.take 8 ++ ([L.getD 8 0, L.getD 9 0] ++ ((L.drop 10).take 2 ++ ([L.getD 12 0] ++ (L.drop 13).take (nOf L)))) := by
  match L, h with
  | a0 :: a1 :: a2 :: a3 :: a4 :: a5 :: a6 :: a7 :: a8 :: a9 :: a10 :: a11 :: a12 :: r, h =>
    generalize hn : nOf (a0 :: a1 :: a2 :: a3 :: a4 :: a5 :: a6 :: a7 :: a8 :: a9 :: a10 :: a11 :: a12 :: r) = n
    rw [show 13 + n = n + 13 by omega]
    simp
theorem off_bytes {L : List UInt8} (h : 17 + nOf L ≤ L.length) : le (get L 10 2).toNat 2 = (L.drop 10).take 2 := by
  have hl : ((L.drop 10).take 2).length = 2 := by rw [List.length_take, List.length_drop]; omega
  have h1 := le_unle ((L.drop 10).take 2)
  rw [hl] at h1
  have h2 : getN L 10 2 < 65536 := by
    have := unle_lt ((L.drop 10).take 2)
    rw [hl] at this
    exact this
  have h3 : getB L 10 2 = true := by
    unfold getB
    simp only [Bool.and_eq_true, decide_eq_true_eq]
    refine ⟨⟨by omega, by omega⟩, ?_⟩
    show getN L 10 2 < _
    omega
  unfold get
  rw [if_pos h3]
  show le (getN L 10 2) 2 = _
  exact h1
theorem get8 {L : List UInt8} (h : 17 + nOf L ≤ L.length) : le (get L 0 8).toNat 8 = L.take 8 ↔ getB L 0 8 = true := by
  have hl : (L.take 8).length = 8 := by rw [List.length_take]; omega
  constructor
  · intro hh
    cases hb : getB L 0 8 with
    | true => rfl
    | false =>
      exfalso
      unfold get at hh
      rw [hb, if_neg (by decide)] at hh
      have h0 : getN L 0 8 = 0 := by
        unfold getN
        rw [List.drop_zero, ← hh]
        rfl
      have : getB L 0 8 = true := by
        unfold getB
        simp only [Bool.and_eq_true, decide_eq_true_eq]
        refine ⟨⟨by omega, by omega⟩, ?_⟩
        show getN L 0 8 < _
        omega
      rw [this] at hb
      cases hb
  · intro hb
    unfold get
    rw [if_pos hb]
    have h1 := le_unle (L.take 8)
    rw [hl] at h1
    exact h1
theorem body_take {L : List UInt8} (h : 17 + nOf L ≤ L.length) : bodyL (recOf L) = L.take (13 + nOf L) ↔ getB L 0 8 = true ∧ (L.getD 9 0).toNat ≤ 1 := by
  rw [take_parts h, ← get8 h]
  unfold bodyL
  rw [recOf_len h]
  show le (get L 0 8).toNat 8 ++ ([UInt8.ofNat ((L.getD 8 0).toNat : Int).toNat, trB (decide (L.getD 9 0 = 1))] ++ (le (get L 10 2).toNat 2 ++ ([UInt8.ofNat (nOf L)] ++ (L.drop 13).take (nOf L)))) = _ ↔ _
  have h8 : UInt8.ofNat ((L.getD 8 0).toNat : Int).toNat = L.getD 8 0 := by simp
  have h12 : UInt8.ofNat (nOf L) = L.getD 12 0 := by unfold nOf; simp
  have h9 : trB (decide (L.getD 9 0 = 1)) = L.getD 9 0 ↔ (L.getD 9 0).toNat ≤ 1 := by
    generalize L.getD 9 0 = b
    unfold trB
    by_cases hb : b = 1
    · subst hb; simp
    · rw [decide_eq_false hb]
      constructor
      · intro hh
        rw [← hh]
        simp
      · intro hh
        have : b.toNat ≠ 1 := fun e => hb (UInt8.toNat_inj.mp e)
        apply UInt8.toNat_inj.mp
        show 0 = b.toNat
        omega
  rw [off_bytes h, h8, h12]
  constructor
  · intro hh
    have hl : (L.take 8).length = 8 := by rw [List.length_take]; omega
    obtain ⟨h1, h2⟩ := List.append_inj hh (by rw [le_length, hl])
    have h3 := (List.append_inj h2 rfl).1
    simp only [List.cons.injEq, true_and, and_true] at h3
    exact ⟨h1, h9.mp h3⟩
  · rintro ⟨h1, h2⟩
    rw [h1, h9.mpr h2]
def fillB (L : List UInt8) (a b : Nat) : Prop := ∀ i, a ≤ i → i < b → L[i]? = some 0
theorem zeros_prefix (L : List UInt8) (a m : Nat) (ha : a ≤ L.length) : List.replicate m 0 <+: L.drop a ↔ a + m ≤ L.length ∧ fillB L a (a + m) := by
  constructor
  · rintro ⟨t, ht⟩
    have hl := congrArg List.length ht
    rw [List.length_append, List.length_replicate, List.length_drop] at hl
    refine ⟨by omega, fun i h1 h2 => ?_⟩
    have : (L.drop a)[i - a]? = some 0 := by
      rw [← ht, List.getElem?_append_left (by rw [List.length_replicate]; omega), List.getElem?_replicate, if_pos (by omega)]
    rw [List.getElem?_drop, show a + (i - a) = i by omega] at this
    exact this
  · rintro ⟨h1, h2⟩
    rw [List.prefix_iff_eq_take]
    apply List.ext_getElem?
    intro i
    rw [List.length_replicate, List.getElem?_replicate, List.getElem?_take]
    by_cases hi : i < m
    · rw [if_pos hi, if_pos hi, List.getElem?_drop, h2 (a + i) (by omega) (by omega)]
    · rw [if_neg hi, if_neg hi]
theorem enc_prefix {L : List UInt8} (h : 17 + nOf L ≤ L.length) (hs : getN L (13 + nOf L) 4 = crc (L.take (13 + nOf L))) : encL (recOf L) <+: L ↔ (getB L 0 8 = true ∧ (L.getD 9 0).toNat ≤ 1) ∧ up8 (17 + nOf L) ≤ L.length ∧ fillB L (17 + nOf L) (up8 (17 + nOf L)) := by
  have hu := up8_le (17 + nOf L)
  have hsl : (sumL (recOf L)).length = 17 + nOf L := by rw [sumL_length, recOf_len h]
  have key : bodyL (recOf L) = L.take (13 + nOf L) → sumL (recOf L) = L.take (17 + nOf L) := fun hb => by
    unfold sumL
    rw [hb, ← hs]
    have hl : ((L.drop (13 + nOf L)).take 4).length = 4 := by rw [List.length_take, List.length_drop]; omega
    have h1 := le_unle ((L.drop (13 + nOf L)).take 4)
    rw [hl] at h1
    unfold getN
    rw [h1, ← List.take_add, show 13 + nOf L + 4 = 17 + nOf L by omega]
  have hz : sumL (recOf L) = L.take (17 + nOf L) → (encL (recOf L) <+: L ↔ up8 (17 + nOf L) ≤ L.length ∧ fillB L (17 + nOf L) (up8 (17 + nOf L))) := fun hb => by
    have h1 := zeros_prefix L (17 + nOf L) (up8 (17 + nOf L) - (17 + nOf L)) h
    rw [show 17 + nOf L + (up8 (17 + nOf L) - (17 + nOf L)) = up8 (17 + nOf L) by omega] at h1
    rw [← h1]
    unfold encL padL
    rw [hsl, hb]
    conv => lhs; rhs; rw [← List.take_append_drop (17 + nOf L) L]
    exact List.prefix_append_right_inj _
  constructor
  · intro hp
    have hb : bodyL (recOf L) = L.take (13 + nOf L) := by
      have hp2 : bodyL (recOf L) <+: L := ((List.prefix_append _ _).trans (List.prefix_append _ _)).trans hp
      have := List.prefix_iff_eq_take.mp hp2
      rw [bodyL_length, recOf_len h] at this
      exact this
    exact ⟨(body_take h).mp hb, (hz (key hb)).mp hp⟩
  · rintro ⟨h1, h2⟩
    exact (hz (key ((body_take h).mpr h1))).mpr h2
/-- the records of a log's bytes from a place on, and where they end -/
def scanF (L : List UInt8) (n : Nat) : Nat → Nat → List (Rec × Nat)
  | 0, _ => []
  | f + 1, head => if head < n then match decR ((L.drop (8 + head)).take (n - head)) with | none => [] | some (r, k) => (r, head + k) :: scanF L n f (head + k) else []
def endB (ep : Int) (n : Int) : Bool := decide (0 ≤ ep) && decide (ep ≤ 1073741824) && decide (0 ≤ n) && decide (n ≤ 1016) && decide (n % 8 = 0)
def endN (L : List UInt8) : Nat := (get L 0 8).toNat
def scanL (L : List UInt8) (ep head : Int) : List (Rec × Nat) :=
  if getB L 0 8 = true ∧ endB (endN L / 4294967296 : Nat) (endN L % 4294967296 : Nat) = true ∧ ((endN L / 4294967296 : Nat) : Int) = ep ∧ 0 ≤ head then scanF L (endN L % 4294967296) 1024 head.toNat else []
end Gd
end Go.Proofs.YtiinponoeaihcaaGreat

/- Walks: clog.End, Split, bit, numbers. -/
namespace Go.Proofs.YtiinponoeaihcaaGreat
open Go.RowKit

theorem and32 (x : Nat) (h : x < 9223372036854775808) : bits .and .i64 (x : Int) 4294967295 = ((x % 4294967296 : Nat) : Int) := by
  show IntKind.i64.wrap ((BitVec.ofInt 64 (x : Int) &&& BitVec.ofInt 64 ((4294967295 : Nat) : Int)).toNat : Int) = _
  rw [BitVec.toNat_and, ofInt_u64 x (by omega), ofInt_u64 4294967295 (by omega)]
  have := Nat.and_two_pow_sub_one_eq_mod x 32
  rw [show (2 : Nat) ^ 32 - 1 = 4294967295 from rfl, show (2 : Nat) ^ 32 = 4294967296 from rfl] at this
  rw [this, IntKind.wrap_i64]
  omega

theorem endB_iff (ep n : Int) : Gd.endB ep n = true ↔ 0 ≤ ep ∧ ep ≤ 1073741824 ∧ 0 ≤ n ∧ n ≤ 1016 ∧ n % 8 = 0 := by
  unfold Gd.endB
  simp only [Bool.and_eq_true, decide_eq_true_eq]
  omega

set_option maxHeartbeats 4000000 in
theorem cend_any (ep n : Int) (h1 : I64 ep) (h2 : I64 n) (w : World) : Calls Tryz.prog 62 #[.int .i64 ep, .int .i64 n] w fun e w' => ∃ q, e = .returned (.tuple #[.int .i64 q, .int .i64 (if Gd.endB ep n then 0 else 1)]) ∧ w' = w := by
  obtain ⟨g1, g2⟩ := h1.lo
  obtain ⟨g3, g4⟩ := h2.lo
  clear h1 h2
  by_cases hb : Gd.endB ep n = true
  · rw [hb, if_pos rfl]
    obtain ⟨k1, k2, k3, k4, k5⟩ := (endB_iff _ _).mp hb
    clear hb
    go_enter Tryz.func62, Tryz.ntmps62
    go_wp2
    go_ret2
    first | exact ⟨_, rfl, rfl⟩ | exact ⟨⟨0, rfl⟩, rfl⟩
  · rw [if_neg hb]
    have hn := fun h => hb ((endB_iff ep n).mpr h)
    clear hb
    by_cases k1 : 0 ≤ ep
    · by_cases k2 : ep ≤ 1073741824
      · by_cases k3 : 0 ≤ n
        · by_cases k4 : n ≤ 1016
          · have k5 : (n % 8 != 0) = true := by simp; exact fun h => hn ⟨k1, k2, k3, k4, h⟩
            clear hn
            go_enter Tryz.func62, Tryz.ntmps62
            go_wp2
            go_ret2
            first | exact ⟨_, rfl, rfl⟩ | exact ⟨⟨0, rfl⟩, rfl⟩
          · clear hn
            go_enter Tryz.func62, Tryz.ntmps62
            go_wp2
            go_ret2
            first | exact ⟨_, rfl, rfl⟩ | exact ⟨⟨0, rfl⟩, rfl⟩
        · clear hn
          go_enter Tryz.func62, Tryz.ntmps62
          go_wp2
          go_ret2
          first | exact ⟨_, rfl, rfl⟩ | exact ⟨⟨0, rfl⟩, rfl⟩
      · clear hn
        go_enter Tryz.func62, Tryz.ntmps62
        go_wp2
        go_ret2
        first | exact ⟨_, rfl, rfl⟩ | exact ⟨⟨0, rfl⟩, rfl⟩
    · clear hn
      go_enter Tryz.func62, Tryz.ntmps62
      go_wp2
      go_ret2
      first | exact ⟨_, rfl, rfl⟩ | exact ⟨⟨0, rfl⟩, rfl⟩

theorem trbit_any (t : Bool) (w : World) : Calls Tryz.prog 79 #[.bool t] w fun e w' => e = .returned (.int .i64 ((Gd.trB t).toNat : Int)) ∧ w' = w := by
  cases t
  all_goals
    go_enter Tryz.func79, Tryz.ntmps79
    go_wp2
    go_ret
    exact ⟨rfl, rfl⟩

def putsL (k : Nat) : List UInt8 → List Nat → List UInt8
  | L, [] => L
  | L, n :: r => putsL k (L ++ Gd.le n k) r
theorem putsL_snoc (k : Nat) : ∀ (r : List Nat) (L : List UInt8) (n : Nat), putsL k L (r ++ [n]) = putsL k L r ++ Gd.le n k
  | [], _, _ => rfl
  | _ :: r, _, n => putsL_snoc k r _ n
theorem putsL_length (k : Nat) : ∀ (r : List Nat) (L : List UInt8), (putsL k L r).length = L.length + r.length * k
  | [], L => by simp [putsL]
  | n :: r, L => by
    rw [putsL, putsL_length k r, List.length_append, Gd.le_length, List.length_cons, Nat.add_mul]
    omega
def IntsAt (w : World) (v : Value) (N : List Nat) : Prop := ∃ b, v = .slice (some ⟨b, 0, none⟩) N.length N.length ∧ b < w.heap.size ∧ ∀ (j : Nat) (n : Nat), N[j]? = some n → w.cell? ⟨b, j, none⟩ = some (.int .i64 n)

set_option maxHeartbeats 8000000 in
set_option maxRecDepth 100000 in
theorem clnums_any (v s : Value) (L : List UInt8) (k : Nat) (hk : Gd.wid k) (N : List Nat) (hN : ∀ n ∈ N, n < 256 ^ k ∧ n ≤ 9223372036854775807) (hNl : N.length ≤ 100) (w : World) (B : Nat) (hB : B ≤ w.heap.size) (h : OwnB w B v L) (hl : L.length ≤ 100000) (hs : IntsAt w s N) :
    Calls Tryz.prog 78 #[v, .int .i64 k, s] w fun e w' => ∃ u, e = .returned u ∧ OwnB w' B u (putsL k L N) ∧ Below w.heap.size w w' := by
  obtain ⟨b, rfl, hbl, hcell⟩ := hs
  have HC := Lib.hid (And.intro hbl hcell)
  have HN := Lib.hid hN
  have HO0 := Lib.hid h
  have HBS := Lib.hid hB
  have hk8 : k ≤ 8 := by rcases hk with rfl | rfl | rfl | rfl <;> omega
  obtain ⟨n, hn⟩ : ∃ n, n = N.length := ⟨_, rfl⟩
  rw [← hn] at hNl ⊢
  have Hn := Lib.hid hn
  have HK := Lib.hid hk
  clear hN h hbl hcell hn hk hB
  go_enter Tryz.func78, Tryz.ntmps78
  go_upto_region 2 with fail
  go_loopw [0, 11] (fun u z wr => ∃ i : Nat, z = .int .i64 i ∧ i ≤ n ∧ Hid (OwnB wr B u (putsL k L (N.take i))) ∧ Hid (Below w.heap.size w wr)) (fun _ z _ => n - (intOf z).toNat)
  case atStart => exact ⟨0, rfl, by omega, HO0, Lib.hid (Below.refl _ _)⟩
  case round =>
    obtain ⟨i, rfl, hin, HO, HB⟩ := hrel
    by_cases hlt : i < n
    · obtain ⟨x, hx⟩ : ∃ x, N[i]? = some x := ⟨_, List.getElem?_eq_getElem (by have := Hn.out; omega)⟩
      have hxb := HN.out x (List.mem_of_getElem? hx)
      have hc := (HB.out.cell (p := ⟨b, i, none⟩) HC.out.1).trans (HC.out.2 i x hx)
      have h1 : (i : Int) < n := by omega
      have h0 : (0 : Int) ≤ i := by omega
      have HP := Lib.hid (putn_any u0 _ x k HK.out hxb.1 hxb.2 wr HO.out.at_ (by rw [putsL_length, List.length_take]; have := Nat.mul_le_mul (show min i N.length ≤ 100 by omega) hk8; omega))
      have HX := Lib.hid hx
      clear hx hlt hxb
      go_wp2_with (go_at_call 63; refine HP.out.mono ?_; rintro e w4 ⟨v4, rfl, ho4, hb4⟩)
      have HO4 : Hid (OwnB w4 B v4 (putsL k L (N.take (i + 1)))) := Lib.hid (by
        rw [List.take_add_one, HX.out]
        show OwnB _ _ _ (putsL k L (N.take i ++ [x]))
        rw [putsL_snoc]
        exact ho4.mono (Nat.le_trans HBS.out HB.out.size))
      have HB4 := Lib.hid (HB.out.trans (hb4.mono HB.out.size))
      clear ho4 hb4
      go_wp2
      go_roundw
      case rel => exact ⟨i + 1, by go_num, by omega, HO4, HB4⟩
      case measure => simp [intOf]; omega
    · have h1 : ¬ (i : Int) < n := by omega
      have HI : Hid (i = n) := Lib.hid (by omega)
      clear hlt hin
      go_wp2
      go_ret
      have := HO.out
      rw [HI.out, List.take_of_length_le (by have := Hn.out; omega)] at this
      exact ⟨_, rfl, this, HB.out⟩

end Go.Proofs.YtiinponoeaihcaaGreat
