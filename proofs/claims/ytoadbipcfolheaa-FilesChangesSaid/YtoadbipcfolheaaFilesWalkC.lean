/- Walks: files.sized, files.Change, commonsref15.Change. -/
import Derived.Test.YtoadbipcfolheaaFilesWalkB
import Derived.Test.YtoadbipcfolheaaShelf
import Derived.BigQuiet
import Derived.Deep.QuietTactic
namespace Go.Proofs.Ytoadbipcfolheaa
open Go.RowKit

theorem sized_tail (l : List UInt8) (n : Nat) (h : ¬ n ≤ l.length) : l ++ Lib.repeatL [0] (n - l.length) = Fp.sizedL l n := by
  unfold Fp.sizedL; rw [if_neg h, show ([0] : List UInt8) = List.replicate 1 0 from rfl, Lib.repeatL_replicate, Nat.mul_one]

set_option maxHeartbeats 400000 in
theorem sized_any (s : ByteArray) (n : Nat) (w : World) (hs : s.size ≤ 1000000) (hn : n ≤ 1000000) :
    Calls Try.prog 11 #[.string s, .int .i64 n] w fun e w' => e = .returned (.string ⟨(Fp.sizedL s.data.toList n).toArray⟩) ∧ Below w.heap.size w w' := by
  have hl := Lib.size_eq s
  have Hl := Lib.hid hl; clear hl
  by_cases hlt : n ≤ s.size
  · go_enter Try.func11, Try.ntmps11
    go_wp2
    go_ret
    refine ⟨ret_str ?_, Below.refl _ _⟩
    have := Hl.out
    rw [ba_head, sized_head _ _ (by omega)]
  · obtain ⟨k, hk⟩ : ∃ k : Nat, k = n - s.size := ⟨_, rfl⟩
    have hk2 : (n : Int) - (s.size : Int) = (k : Int) := by omega
    have Hk := Lib.hid hk
    have hkb : k ≤ 1000000 := by omega
    clear hk
    go_enter Try.func11, Try.ntmps11
    have hr := Try.strings_Repeat ⟨#[0]⟩ k w (by omega) (by show 1 * k ≤ _; omega)
    have HR := Lib.hid hr; clear hr
    have hrl : (Lib.repeatL [0] k).length ≤ 1000000 := by rw [Lib.repeatL_length]; simp; omega
    go_wp2_with (go_at_call 14; refine HR.out.mono ?_; rintro e w' ⟨rfl, hb⟩)
    go_ret
    refine ⟨ret_str ?_, by assumption⟩
    have := Hl.out
    have h2 := Hk.out
    rw [ba_app, ← sized_tail _ _ (by omega), h2, ← ba_len]

/-- a length that is any int, and what comes back as a letter -/
theorem sized_int (s : ByteArray) (m : Int) (w : World) (hs : s.size ≤ 1000000) (h0 : 0 ≤ m) (hn : m ≤ 1000000) :
    Calls Try.prog 11 #[.string s, .int .i64 m] w fun e w' => ∃ u : ByteArray, e = .returned (.string u) ∧ Hid (u.data.toList = Fp.sizedL s.data.toList m.toNat) ∧ (u.size : Int) ≤ m ∧ m ≤ u.size ∧ Below w.heap.size w w' := by
  obtain ⟨n, rfl⟩ := Int.eq_ofNat_of_zero_le h0
  refine (sized_any s n w hs (by omega)).mono fun e w' ⟨he, hb⟩ => ⟨_, he, Lib.hid rfl, ?_, ?_, hb⟩
  all_goals (rw [Lib.size_eq]; simp [Fp.sizedL_length])

/-- what a change hands back -/
def chgV (r : List UInt8 × Int) : Value := .tuple #[.string ⟨r.1.toArray⟩, .int .i64 r.2]
theorem ret_chg {u : ByteArray} {c : Int} {r : List UInt8 × Int} (h1 : u.data.toList = r.1) (h2 : c = r.2) : Ending.returned (.tuple #[.string u, .int .i64 c]) = .returned (chgV r) := by
  unfold chgV; rw [← h1, ← h2, ba_mk]
def capL (l : List UInt8) : List UInt8 × Int := if l.length ≤ 256 then (l, 0) else ([], 19)
theorem capL_yes {l : List UInt8} (h : l.length ≤ 256) : capL l = (l, 0) := by unfold capL; rw [if_pos h]
theorem capL_no {l : List UInt8} (h : ¬ l.length ≤ 256) : capL l = ([], 19) := by unfold capL; rw [if_neg h]

set_option maxHeartbeats 1000000 in
theorem change_no (s : ByteArray) (call inode : Int) (tr : Bool) (off : Int) (d : ByteArray) (w : World) (hd : d.size ≤ 80) (hm : Fp.mayB call inode tr off d.data.toList = false) :
    Calls Try.prog 6 #[.string s, recV call inode tr off d] w fun e w' => e = .returned (chgV ([], 1)) ∧ Below w.heap.size w w' := by
  unfold recV
  go_enter Try.func6, Try.ntmps6
  go_wp2_with (go_at_call 8; refine (may_any call inode tr off d _ (by omega)).mono ?_; rintro e w' ⟨rfl, hb⟩)
  go_ret2
  refine ⟨rfl, ?_⟩
  exact ((Below.refl _ _).alloc (Nat.le_refl _) _).trans (hb.mono (by simp))

set_option maxHeartbeats 1000000 in
theorem change_trunc (s : ByteArray) (call inode : Int) (off : Nat) (w : World) (hs : s.size ≤ 300) (hm : Fp.mayB call inode true off [] = true) (ho : off ≤ 256) :
    Calls Try.prog 6 #[.string s, recV call inode true off ⟨#[]⟩] w fun e w' => e = .returned (chgV (capL (Fp.outL s.data.toList true off []))) ∧ Below w.heap.size w w' := by
  have hfin : Fp.outL s.data.toList true off [] = Fp.sizedL s.data.toList off := rfl
  rw [hfin, capL_yes (by rw [Fp.sizedL_length]; exact ho)]
  clear hfin
  unfold recV
  go_enter Try.func6, Try.ntmps6
  go_wp2_with (first | (go_at_call 8; refine (may_any call inode true off ⟨#[]⟩ _ (by show 0 ≤ _; omega)).mono ?_; rintro e w' ⟨rfl, hb⟩; obtain ⟨hc, hf⟩ := bcell hb))
  refine (sized_int s off _ (by omega) (by omega) (by omega)).mono ?_
  rintro e w2 ⟨u, rfl, hu, hu1, hu2, hb2⟩
  go_wp2
  go_ret2
  refine ⟨ret_chg (by have := hu.out; simpa using this) rfl, ?_⟩
  exact (((Below.refl _ _).alloc (Nat.le_refl _) _).trans (hb.mono (by simp))).trans (hb2.mono (by have := hb.size; simp at this; omega))

set_option maxHeartbeats 1000000 in
theorem change_none (s : ByteArray) (call inode : Int) (off : Int) (w : World) (hs : s.size ≤ 300) (hm : Fp.mayB call inode false off [] = true) :
    Calls Try.prog 6 #[.string s, recV call inode false off ⟨#[]⟩] w fun e w' => e = .returned (chgV (capL s.data.toList)) ∧ Below w.heap.size w w' := by
  have hl := Lib.size_eq s
  have Hl := Lib.hid hl; clear hl
  by_cases hlt : s.size ≤ 256
  · rw [capL_yes (by rw [← Hl.out]; exact hlt)]
    unfold recV
    go_enter Try.func6, Try.ntmps6
    go_wp2_with (first | (go_at_call 8; refine (may_any call inode false off ⟨#[]⟩ _ (by show 0 ≤ _; omega)).mono ?_; rintro e w' ⟨rfl, hb⟩; obtain ⟨hc, hf⟩ := bcell hb))
    go_ret2
    exact ⟨ret_chg rfl rfl, ((Below.refl _ _).alloc (Nat.le_refl _) _).trans (hb.mono (by simp))⟩
  · rw [capL_no (by rw [← Hl.out]; exact hlt)]
    unfold recV
    go_enter Try.func6, Try.ntmps6
    go_wp2_with (first | (go_at_call 8; refine (may_any call inode false off ⟨#[]⟩ _ (by show 0 ≤ _; omega)).mono ?_; rintro e w' ⟨rfl, hb⟩; obtain ⟨hc, hf⟩ := bcell hb))
    go_ret2
    exact ⟨ret_chg rfl rfl, ((Below.refl _ _).alloc (Nat.le_refl _) _).trans (hb.mono (by simp))⟩

theorem outL_write (l : List UInt8) (off : Nat) (d : List UInt8) (hd : d.isEmpty = false) :
    (Fp.sizedL l (max (off + d.length) l.length)).take off ++ d ++ (Fp.sizedL l (max (off + d.length) l.length)).drop (off + d.length) = Fp.outL l false off d := by
  unfold Fp.outL
  rw [if_neg (by simp), hd, if_neg (by simp)]
  unfold Fp.sizedL
  by_cases h1 : off + d.length ≤ l.length
  · rw [Nat.max_eq_right h1, if_pos (Nat.le_refl _), if_pos (by omega), List.take_length]
  · rw [Nat.max_eq_left (by omega), if_neg (by omega), List.drop_eq_nil_of_le (by simp; omega)]
    rw [List.drop_eq_nil_of_le (by omega : l.length ≤ off + d.length)]
    congr 2
    by_cases h2 : off ≤ l.length
    · rw [if_pos h2, List.take_append_of_le_length h2]
    · rw [if_neg h2, List.take_append, List.take_of_length_le (by omega), List.take_replicate]
      congr 2; omega

set_option maxHeartbeats 1000000 in
theorem change_write (s : ByteArray) (call inode : Int) (off : Nat) (d : ByteArray) (w : World) (hs : s.size ≤ 300) (hm : Fp.mayB call inode false off d.data.toList = true) (ho : off + d.size ≤ 256) (hd : 0 < d.size) :
    Calls Try.prog 6 #[.string s, recV call inode false off d] w fun e w' => e = .returned (chgV (capL (Fp.outL s.data.toList false off d.data.toList))) ∧ Below w.heap.size w w' := by
  have hd0 : d.toList.isEmpty = false := by
    rw [Lib.toList_data]; rw [Lib.size_eq] at hd; cases h : d.data.toList with | nil => rw [h] at hd; simp at hd | cons _ _ => rfl
  have hw := outL_write s.data.toList off d.data.toList (by rw [← Lib.toList_data]; exact hd0)
  rw [← Lib.size_eq, ← Lib.size_eq] at hw
  have HW := Lib.hid hw; clear hw
  unfold recV
  go_enter Try.func6, Try.ntmps6
  go_wp2_with (first | (go_at_call 8; refine (may_any call inode false off d _ (by omega)).mono ?_; rintro e w' ⟨rfl, hb⟩; obtain ⟨hc, hf⟩ := bcell hb))
  refine (sized_int s _ _ (by omega) (by omega) (by omega)).mono ?_
  rintro e w2 ⟨u, rfl, hu, hu1, hu2, hb2⟩
  obtain ⟨hc2, hf2⟩ := bcell hb2
  have hz := hb.size
  simp only [World.size_alloc] at hz
  have hz1 : w.heap.size < w'.heap.size := by omega
  have hu3 : (off : Int) ≤ u.size := by omega
  have hu4 : (off : Int) + d.size ≤ u.size := by omega
  go_wp2
  go_quiet (fail)
  go_wp2
  all_goals
    have hB : Below w.heap.size w (w2.drewN nq) := below_drewN ((((Below.refl _ _).alloc (Nat.le_refl _) _).trans (hb.mono (by simp))).trans (hb2.mono (by omega))) _
    have hd1 : (u.extract 0 off ++ d ++ u.extract (off + d.size) u.size).data.toList = Fp.outL s.data.toList false off d.data.toList := by
      rw [ba_app, ba_app, ba_head, ba_tail, hu.out, ← HW.out]
      rw [show (max ((off : Int) + (d.size : Int)) (s.size : Int)).toNat = max (off + d.size) s.size from by omega]
    have hl : (Fp.outL s.data.toList false off d.data.toList).length = min off u.size + d.size + (u.size - (off + d.size)) := by
      rw [← hd1, ← Lib.size_eq]; simp
    go_ret2
    refine ⟨?_, hB⟩
  · rw [capL_no (by omega)]
    exact ret_chg rfl rfl
  · rw [capL_yes (by omega)]
    exact ret_chg hd1 rfl

theorem chg_def (s : List UInt8) (call inode : Int) (tr : Bool) (off : Int) (d : List UInt8) (h : Fp.mayB call inode tr off d = true) :
    Fp.chg s call inode tr off d = capL (Fp.outL s tr off.toNat d) := by unfold Fp.chg capL; rw [h]; rfl
theorem mayB_off {call inode : Int} {tr : Bool} {off : Int} {d : List UInt8} (h : Fp.mayB call inode tr off d = true) :
    0 ≤ off ∧ off ≤ 256 ∧ off + d.length ≤ 256 ∧ d.length ≤ 64 ∧ (tr = true → d = []) := by
  unfold Fp.mayB at h
  simp only [Bool.and_eq_true, decide_eq_true_eq] at h
  obtain ⟨⟨_, _, _, _, h1, h2, h3, h4⟩, h5⟩ := h
  refine ⟨h1, h2, h4, h3, fun ht => ?_⟩
  subst ht
  cases d with
  | nil => rfl
  | cons _ _ => simp at h5
theorem ba_nil {d : ByteArray} (h : d.data.toList = []) : d = ⟨#[]⟩ := ba_ext h

theorem change_any (s : ByteArray) (call inode : Int) (tr : Bool) (off : Int) (d : ByteArray) (w : World) (hs : s.size ≤ 300) (hd : d.size ≤ 80) :
    Calls Try.prog 6 #[.string s, recV call inode tr off d] w fun e w' => e = .returned (chgV (Fp.chg s.data.toList call inode tr off d.data.toList)) ∧ Below w.heap.size w w' := by
  by_cases hm : Fp.mayB call inode tr off d.data.toList = true
  · rw [chg_def _ _ _ _ _ _ hm]
    obtain ⟨h0, h1, h2, h3, h4⟩ := mayB_off hm
    obtain ⟨o, rfl⟩ := Int.eq_ofNat_of_zero_le h0
    rw [Int.toNat_natCast]
    by_cases hn : d.data.toList = []
    · obtain rfl := ba_nil hn
      cases tr with
      | true => exact change_trunc s call inode o w hs hm (by omega)
      | false => exact change_none s call inode o w hs hm
    · cases tr with
      | true => exact absurd (h4 rfl) hn
      | false =>
        have := List.length_pos_iff.2 hn
        rw [← Lib.size_eq] at this h2
        exact change_write s call inode o d w hs hm (by omega) this
  · have hm' : Fp.mayB call inode tr off d.data.toList = false := by simpa using hm
    have hfin : Fp.chg s.data.toList call inode tr off d.data.toList = ([], 1) := by unfold Fp.chg; rw [hm']; rfl
    rw [hfin]
    exact change_no s call inode tr off d w hd hm'

end Go.Proofs.Ytoadbipcfolheaa
