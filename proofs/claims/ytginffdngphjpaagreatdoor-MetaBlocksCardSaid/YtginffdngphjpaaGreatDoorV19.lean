/- Plain functions for the change of a file's bytes by a record, and the law that doing it twice comes to the same as once. No program in sight. -/
import Derived.Test.YtginffdngphjpaaGreatDoorRows
import Derived.WalkKit
import Derived.WalkSpells
import Derived.WalkLawsBesides
import Derived.Lib.Hide
import Derived.Test.YtginffdngphjpaaGreatDoorV00
import Derived.BigQuiet
import Derived.Deep.QuietTactic
import Derived.Test.YtginffdngphjpaaGreatDoorShelf
import Derived.Test.YtginffdngphjpaaGreatDoorV18
set_option linter.unusedVariables false
set_option linter.unusedSimpArgs false
namespace Go.Proofs.YtginffdngphjpaaGreatDoor.Fp

/-- bytes cut to n, or with noughts behind -/
def sizedL (l : List UInt8) (n : Nat) : List UInt8 := if n ≤ l.length then l.take n else l ++ List.replicate (n - l.length) 0

theorem sizedL_length (l : List UInt8) (n : Nat) : (sizedL l n).length = n := by
  unfold sizedL; split
  · rw [List.length_take]; omega
  · rw [List.length_append, List.length_replicate]; omega

theorem sizedL_self (l : List UInt8) (n : Nat) (h : l.length = n) : sizedL l n = l := by
  unfold sizedL; rw [if_pos (by omega), List.take_of_length_le (by omega)]

/-- may the record be -/
def mayB (call inode : Int) (tr : Bool) (off : Int) (d : List UInt8) : Bool :=
  decide (0 ≤ call ∧ call ≤ 1099511627776 ∧ 1 ≤ inode ∧ inode ≤ 32 ∧ 0 ≤ off ∧ off ≤ 256 ∧ d.length ≤ 64 ∧ off + d.length ≤ 256) && !(tr && !d.isEmpty)

theorem mayB_no {call inode : Int} {tr : Bool} {off : Int} {d : List UInt8} (h : ¬ (0 ≤ call ∧ call ≤ 1099511627776 ∧ 1 ≤ inode ∧ inode ≤ 32 ∧ 0 ≤ off ∧ off ≤ 256 ∧ d.length ≤ 64 ∧ off + d.length ≤ 256)) :
    mayB call inode tr off d = false := by
  unfold mayB; rw [decide_eq_false h]; rfl
theorem mayB_if {call inode : Int} {tr : Bool} {off : Int} {d : List UInt8} (h : 0 ≤ call ∧ call ≤ 1099511627776 ∧ 1 ≤ inode ∧ inode ≤ 32 ∧ 0 ≤ off ∧ off ≤ 256 ∧ d.length ≤ 64 ∧ off + d.length ≤ 256) :
    mayB call inode tr off d = !(tr && !d.isEmpty) := by
  unfold mayB; rw [decide_eq_true h]; rfl

/-- the bytes that come out, of a record that may be -/
def outL (s : List UInt8) (tr : Bool) (off : Nat) (d : List UInt8) : List UInt8 :=
  if tr then sizedL s off else if d.isEmpty then s else sizedL s off ++ d ++ s.drop (off + d.length)

/-- the bytes and the error -/
def chg (s : List UInt8) (call inode : Int) (tr : Bool) (off : Int) (d : List UInt8) : List UInt8 × Int :=
  if mayB call inode tr off d then
    (if (outL s tr off.toNat d).length ≤ 256 then (outL s tr off.toNat d, 0) else ([], 19))
  else ([], 1)

theorem outL_twice (s : List UInt8) (tr : Bool) (off : Nat) (d : List UInt8) : outL (outL s tr off d) tr off d = outL s tr off d := by
  unfold outL
  cases tr with
  | true => simp only [if_true]; exact sizedL_self _ _ (sizedL_length _ _)
  | false =>
    simp only [Bool.false_eq_true, if_false]
    by_cases hd : d.isEmpty = true
    · simp [hd]
    · simp only [hd, Bool.false_eq_true, if_false]
      have hl := sizedL_length s off
      have h1 : sizedL (sizedL s off ++ d ++ s.drop (off + d.length)) off = sizedL s off := by
        show (if off ≤ (sizedL s off ++ d ++ s.drop (off + d.length)).length then (sizedL s off ++ d ++ s.drop (off + d.length)).take off else _) = _
        rw [if_pos (by simp only [List.length_append]; omega), List.append_assoc, List.take_append_of_le_length (by omega), List.take_of_length_le (by omega)]
      have h2 : (sizedL s off ++ d ++ s.drop (off + d.length)).drop (off + d.length) = s.drop (off + d.length) := by
        rw [List.drop_append, List.drop_eq_nil_of_le (by rw [List.length_append]; omega)]
        simp [hl]
      rw [h1, h2]

theorem chg_twice (s : List UInt8) (call inode : Int) (tr : Bool) (off : Int) (d : List UInt8) (h : (chg s call inode tr off d).2 = 0) :
    chg (chg s call inode tr off d).1 call inode tr off d = chg s call inode tr off d := by
  unfold chg at h ⊢
  by_cases hm : mayB call inode tr off d = true
  · simp only [hm, if_true] at h ⊢
    by_cases hl : (outL s tr off.toNat d).length ≤ 256
    · simp only [hl, if_true] at h ⊢
      rw [outL_twice]
      simp [hl]
    · simp [hl] at h
  · simp [hm] at h

theorem chg_bad (s : List UInt8) (call inode : Int) (tr : Bool) (off : Int) (d : List UInt8) (h : (chg s call inode tr off d).2 ≠ 0) :
    (chg s call inode tr off d).1 = [] := by
  unfold chg at h ⊢
  by_cases hm : mayB call inode tr off d = true
  · simp only [hm, if_true] at h ⊢
    by_cases hl : (outL s tr off.toNat d).length ≤ 256
    · simp [hl] at h
    · simp [hl]
  · simp [hm]

theorem chg_le (s : List UInt8) (call inode : Int) (tr : Bool) (off : Int) (d : List UInt8) : (chg s call inode tr off d).1.length ≤ 256 := by
  unfold chg
  split
  · split
    · assumption
    · simp
  · simp

end Go.Proofs.YtginffdngphjpaaGreatDoor.Fp

/- Walks: files.in, files.May, commonsref15.May, commonsref06.Sized, commonslaw15.cut: each by itself. -/
namespace Go.Proofs.YtginffdngphjpaaGreatDoor
namespace Fl
open Go.RowKit

set_option maxHeartbeats 400000 in
theorem in_yes (n a b : Int) (w : World) (h1 : a ≤ n) (h2 : n ≤ b) :
    Calls Tryz.prog 93 #[.int .i64 n, .int .i64 a, .int .i64 b] w fun e w' => e = .returned (.bool true) ∧ w = w' := by
  go_enter Tryz.func93, Tryz.ntmps93
  go_wp2
  go_ret
  exact ⟨rfl, rfl⟩
set_option maxHeartbeats 400000 in
theorem in_no1 (n a b : Int) (w : World) (h1 : n < a) :
    Calls Tryz.prog 93 #[.int .i64 n, .int .i64 a, .int .i64 b] w fun e w' => e = .returned (.bool false) ∧ w = w' := by
  have h1' : ¬ a ≤ n := by omega
  go_enter Tryz.func93, Tryz.ntmps93
  go_wp2
  go_ret
  exact ⟨rfl, rfl⟩
set_option maxHeartbeats 400000 in
theorem in_no2 (n a b : Int) (w : World) (h1 : a ≤ n) (h2 : b < n) :
    Calls Tryz.prog 93 #[.int .i64 n, .int .i64 a, .int .i64 b] w fun e w' => e = .returned (.bool false) ∧ w = w' := by
  have h2' : ¬ n ≤ b := by omega
  go_enter Tryz.func93, Tryz.ntmps93
  go_wp2
  go_ret
  exact ⟨rfl, rfl⟩
def inB (n a b : Int) : Bool := decide (a ≤ n) && decide (n ≤ b)
theorem in_any (n a b : Int) (w : World) :
    Calls Tryz.prog 93 #[.int .i64 n, .int .i64 a, .int .i64 b] w fun e w' => e = .returned (.bool (inB n a b)) ∧ w = w' := by
  unfold inB
  by_cases h1 : a ≤ n
  · by_cases h2 : n ≤ b
    · simpa [h1, h2] using in_yes n a b w h1 h2
    · simpa [h1, h2] using in_no2 n a b w h1 (by omega)
  · simpa [h1] using in_no1 n a b w (by omega)

end Fl
end Go.Proofs.YtginffdngphjpaaGreatDoor

/- Walks: files.May, commonsref15.May, commonsref06.Sized. -/
namespace Go.Proofs.YtginffdngphjpaaGreatDoor
namespace Fl
open Go.RowKit

def recV (call inode : Int) (tr : Bool) (off : Int) (d : ByteArray) : Value := .agg #[.int .i64 call, .int .i64 inode, .bool tr, .int .i64 off, .string d]

set_option maxHeartbeats 400000 in
theorem may_any (call inode : Int) (tr : Bool) (off : Int) (d : ByteArray) (w : World) (hd : d.size ≤ 9223372036854775807) :
    Calls Tryz.prog 59 #[recV call inode tr off d] w fun e w' => e = .returned (.bool (Fp.mayB call inode tr off d.data.toList)) ∧ Below w.heap.size w w' := by
  unfold recV
  go_enter Tryz.func59, Tryz.ntmps59
  go_wp2_with (go_at_call 93; refine (in_any _ _ _ _).mono ?_; rintro e w' ⟨rfl, rfl⟩)
  all_goals go_ret
  all_goals refine ⟨ret_bool ?_, (Below.refl _ _).alloc (Nat.le_refl _) _⟩
  all_goals (try unfold wrap64 at *)
  all_goals (simp only [inB, Bool.and_eq_true, decide_eq_true_eq] at *)
  all_goals (have hs := Lib.size_eq d)
  · have htr : tr = true := by assumption
    subst htr; rw [Fp.mayB_if (by omega), Lib.toList_data]; simp
  · have htr : ¬ tr = true := by assumption
    rw [Fp.mayB_if (by omega)]; simp [htr]
  all_goals (rw [Fp.mayB_no (by omega)])

set_option maxHeartbeats 400000 in
theorem rmay_any (call inode : Int) (tr : Bool) (off : Int) (d : ByteArray) (w : World) (hd : d.size ≤ 9223372036854775807) :
    Calls Tryz.prog 60 #[recV call inode tr off d] w fun e w' => e = .returned (.bool (Fp.mayB call inode tr off d.data.toList)) ∧ Below w.heap.size w w' := by
  unfold recV
  go_enter Tryz.func60, Tryz.ntmps60
  go_wp2
  all_goals go_ret
  all_goals refine ⟨ret_bool ?_, (Below.refl _ _).alloc (Nat.le_refl _) _⟩
  all_goals (try unfold wrap64 at *)
  all_goals (have hs := Lib.size_eq d)
  all_goals first
    | (rw [Fp.mayB_no (by omega)])
    | (have htr : tr = true := by assumption
       subst htr; rw [Fp.mayB_if (by omega), Lib.toList_data]; simp; done)
    | (have htr : ¬ tr = true := by assumption
       rw [Fp.mayB_if (by omega)]; simp [htr]; done)

theorem sized_snoc (l : List UInt8) (n : Nat) (h : l.length < n) : Fp.sizedL (l ++ [0]) n = Fp.sizedL l n := by
  unfold Fp.sizedL
  rw [if_neg (by omega : ¬ n ≤ l.length)]
  by_cases h2 : n ≤ (l ++ [0]).length
  · rw [if_pos h2]
    simp only [List.length_append, List.length_cons, List.length_nil] at h2
    rw [List.take_of_length_le (by simp; omega), show n - l.length = 1 by omega]
    rfl
  · rw [if_neg h2]
    simp only [List.length_append, List.length_cons, List.length_nil] at h2 ⊢
    rw [List.append_assoc, show n - l.length = (n - (l.length + (0 + 1))) + 1 by omega, List.replicate_succ]
    rfl
theorem sized_head (l : List UInt8) (n : Nat) (h : n ≤ l.length) : l.take n = Fp.sizedL l n := by
  unfold Fp.sizedL; rw [if_pos h]

def szOf : Value → Nat | .string u => u.size | _ => 0

set_option maxHeartbeats 400000 in
theorem rsized_any (s : ByteArray) (n : Nat) (w : World) (hn : n ≤ 1000000) :
    Calls Tryz.prog 61 #[.string s, .int .i64 n] w fun e w' => e = .returned (.string ⟨(Fp.sizedL s.data.toList n).toArray⟩) ∧ w = w' := by
  have hl := Lib.size_eq s
  have Hl := Lib.hid hl; clear hl
  by_cases hlt : n < s.size
  · go_enter Tryz.func61, Tryz.ntmps61
    go_wp2
    go_ret
    refine ⟨ret_str ?_, rfl⟩
    have := Hl.out
    rw [ba_head, sized_head _ _ (by omega)]
  · go_enter Tryz.func61, Tryz.ntmps61
    go_wp2
    go_loop [0] (fun t => ∃ u : ByteArray, u.size ≤ n ∧ t = .string u ∧ Hid (Fp.sizedL u.data.toList n = Fp.sizedL s.data.toList n)) (fun t => n - szOf t)
    case atStart => exact ⟨s, by omega, rfl, rfl⟩
    case round =>
      obtain ⟨u, hu, rfl, He⟩ := hrel
      by_cases hlu : u.size < n
      · go_wp2
        go_round
        case rel =>
          refine ⟨_, ?_, rfl, ?_⟩
          · rw [ByteArray.size_append]; show u.size + 1 ≤ n; omega
          · show Fp.sizedL _ n = _
            rw [ba_app, ← He.out]
            exact sized_snoc _ _ (by rw [← ba_len]; exact hlu)
        case measure => show n - (u ++ ⟨#[0]⟩ : ByteArray).size < n - u.size; rw [ByteArray.size_append]; show n - (u.size + 1) < _; omega
      · go_wp2
        go_ret
        refine ⟨ret_str ?_, rfl⟩
        rw [← He.out, Fp.sizedL_self]
        rw [← ba_len]; omega

end Fl
end Go.Proofs.YtginffdngphjpaaGreatDoor

/- Walks: files.sized, files.Change, commonsref15.Change. -/
namespace Go.Proofs.YtginffdngphjpaaGreatDoor
namespace Fl
open Go.RowKit

theorem sized_tail (l : List UInt8) (n : Nat) (h : ¬ n ≤ l.length) : l ++ Lib.repeatL [0] (n - l.length) = Fp.sizedL l n := by
  unfold Fp.sizedL; rw [if_neg h, show ([0] : List UInt8) = List.replicate 1 0 from rfl, Lib.repeatL_replicate, Nat.mul_one]

set_option maxHeartbeats 400000 in
theorem sized_any (s : ByteArray) (n : Nat) (w : World) (hs : s.size ≤ 1000000) (hn : n ≤ 1000000) :
    Calls Tryz.prog 52 #[.string s, .int .i64 n] w fun e w' => e = .returned (.string ⟨(Fp.sizedL s.data.toList n).toArray⟩) ∧ Below w.heap.size w w' := by
  have hl := Lib.size_eq s
  have Hl := Lib.hid hl; clear hl
  by_cases hlt : n ≤ s.size
  · go_enter Tryz.func52, Tryz.ntmps52
    go_wp2
    go_ret
    refine ⟨ret_str ?_, Below.refl _ _⟩
    have := Hl.out
    rw [ba_head, sized_head _ _ (by omega)]
  · obtain ⟨k, hk⟩ : ∃ k : Nat, k = n - s.size := ⟨_, rfl⟩
    have hk2 : (n : Int) - (s.size : Int) = (k : Int) := by omega
    have Hk := Lib.hid hk
    have hkb : k ≤ 1000000 := by omega
    clear hk
    go_enter Tryz.func52, Tryz.ntmps52
    have hr := Tryz.strings_Repeat ⟨#[0]⟩ k w (by omega) (by show 1 * k ≤ _; omega)
    have HR := Lib.hid hr; clear hr
    have hrl : (Lib.repeatL [0] k).length ≤ 1000000 := by rw [Lib.repeatL_length]; simp; omega
    go_wp2_with (go_at_call 83; refine HR.out.mono ?_; rintro e w' ⟨rfl, hb⟩)
    go_ret
    refine ⟨ret_str ?_, by assumption⟩
    have := Hl.out
    have h2 := Hk.out
    rw [ba_app, ← sized_tail _ _ (by omega), h2, ← ba_len]

/-- a length that is any int, and what comes back as a letter -/
theorem sized_int (s : ByteArray) (m : Int) (w : World) (hs : s.size ≤ 1000000) (h0 : 0 ≤ m) (hn : m ≤ 1000000) :
    Calls Tryz.prog 52 #[.string s, .int .i64 m] w fun e w' => ∃ u : ByteArray, e = .returned (.string u) ∧ Hid (u.data.toList = Fp.sizedL s.data.toList m.toNat) ∧ (u.size : Int) ≤ m ∧ m ≤ u.size ∧ Below w.heap.size w w' := by
  obtain ⟨n, rfl⟩ := Int.eq_ofNat_of_zero_le h0
  refine (sized_any s n w hs (by omega)).mono fun e w' ⟨he, hb⟩ => ⟨_, he, Lib.hid rfl, ?_, ?_, hb⟩
  all_goals (rw [Lib.size_eq]; simp [Fp.sizedL_length])

/-- what a change hands back -/
def chgV (r : List UInt8 × Int) : Value := .tuple #[.string ⟨r.1.toArray⟩, .int .i64 r.2]
theorem ret_chg {u : ByteArray} {c : Int} {r : List UInt8 × Int} (h1 : u.data.toList = r.1) (h2 : c = r.2) : Ending.returned (.tuple #[.string u, .int .i64 c]) = .returned (chgV r) := by
  unfold chgV; rw [← h1, ← h2, ba_mk]
def capL (l : List UInt8) : List UInt8 × Int := if l.length ≤ 256 then (l, 0) else ([], 19)
theorem capL_yes {l : List UInt8} (h : l.length ≤ 256) : capL l = (l, 0) := by unfold capL; rw [if_pos h]
theorem capL_no {l : List UInt8} (h : ¬ l.length ≤ 256) : capL l = ([], 19) := by unfold capL; rw [if_neg h]

set_option maxHeartbeats 1000000 in
theorem change_no (s : ByteArray) (call inode : Int) (tr : Bool) (off : Int) (d : ByteArray) (w : World) (hd : d.size ≤ 80) (hm : Fp.mayB call inode tr off d.data.toList = false) :
    Calls Tryz.prog 58 #[.string s, recV call inode tr off d] w fun e w' => e = .returned (chgV ([], 1)) ∧ Below w.heap.size w w' := by
  unfold recV
  go_enter Tryz.func58, Tryz.ntmps58
  go_wp2_with (go_at_call 59; refine (may_any call inode tr off d _ (by omega)).mono ?_; rintro e w' ⟨rfl, hb⟩)
  go_ret2
  refine ⟨rfl, ?_⟩
  exact ((Below.refl _ _).alloc (Nat.le_refl _) _).trans (hb.mono (by simp))

set_option maxHeartbeats 1000000 in
theorem change_trunc (s : ByteArray) (call inode : Int) (off : Nat) (w : World) (hs : s.size ≤ 300) (hm : Fp.mayB call inode true off [] = true) (ho : off ≤ 256) :
    Calls Tryz.prog 58 #[.string s, recV call inode true off ⟨#[]⟩] w fun e w' => e = .returned (chgV (capL (Fp.outL s.data.toList true off []))) ∧ Below w.heap.size w w' := by
  have hfin : Fp.outL s.data.toList true off [] = Fp.sizedL s.data.toList off := rfl
  rw [hfin, capL_yes (by rw [Fp.sizedL_length]; exact ho)]
  clear hfin
  unfold recV
  go_enter Tryz.func58, Tryz.ntmps58
  go_wp2_with (first | (go_at_call 59; refine (may_any call inode true off ⟨#[]⟩ _ (by show 0 ≤ _; omega)).mono ?_; rintro e w' ⟨rfl, hb⟩; obtain ⟨hc, hf⟩ := bcell hb))
  refine (sized_int s off _ (by omega) (by omega) (by omega)).mono ?_
  rintro e w2 ⟨u, rfl, hu, hu1, hu2, hb2⟩
  go_wp2
  go_ret2
  refine ⟨ret_chg (by have := hu.out; simpa using this) rfl, ?_⟩
  exact (((Below.refl _ _).alloc (Nat.le_refl _) _).trans (hb.mono (by simp))).trans (hb2.mono (by have := hb.size; simp at this; omega))

set_option maxHeartbeats 1000000 in
theorem change_none (s : ByteArray) (call inode : Int) (off : Int) (w : World) (hs : s.size ≤ 300) (hm : Fp.mayB call inode false off [] = true) :
    Calls Tryz.prog 58 #[.string s, recV call inode false off ⟨#[]⟩] w fun e w' => e = .returned (chgV (capL s.data.toList)) ∧ Below w.heap.size w w' := by
  have hl := Lib.size_eq s
  have Hl := Lib.hid hl; clear hl
  by_cases hlt : s.size ≤ 256
  · rw [capL_yes (by rw [← Hl.out]; exact hlt)]
    unfold recV
    go_enter Tryz.func58, Tryz.ntmps58
    go_wp2_with (first | (go_at_call 59; refine (may_any call inode false off ⟨#[]⟩ _ (by show 0 ≤ _; omega)).mono ?_; rintro e w' ⟨rfl, hb⟩; obtain ⟨hc, hf⟩ := bcell hb))
    go_ret2
    exact ⟨ret_chg rfl rfl, ((Below.refl _ _).alloc (Nat.le_refl _) _).trans (hb.mono (by simp))⟩
  · rw [capL_no (by rw [← Hl.out]; exact hlt)]
    unfold recV
    go_enter Tryz.func58, Tryz.ntmps58
    go_wp2_with (first | (go_at_call 59; refine (may_any call inode false off ⟨#[]⟩ _ (by show 0 ≤ _; omega)).mono ?_; rintro e w' ⟨rfl, hb⟩; obtain ⟨hc, hf⟩ := bcell hb))
    go_ret2
    exact ⟨ret_chg rfl rfl, ((Below.refl _ _).alloc (Nat.le_refl _) _).trans (hb.mono (by simp))⟩

theorem outL_write (l : List UInt8) (off : Nat) (d : List UInt8) (hd : d.isEmpty = false) :
    (Fp.sizedL l (max (off + d.length) l.length)).take off ++ d ++ (Fp.sizedL l (max (off + d.length) l.length)).drop (off + d.length) = Fp.outL l false off d := by
  unfold Fp.outL
  rw [if_neg (by simp), hd, if_neg (by simp)]
  unfold Fp.sizedL
  by_cases h1 : off + d.length ≤ l.length
  · rw [Nat.max_eq_right h1, if_pos (Nat.le_refl _), if_pos (by omega), List.take_length]
  · rw [Nat.max_eq_left (by omega), if_neg (by omega), List.drop_eq_nil_of_le (by simp; omega)]
    rw [List.drop_eq_nil_of_le (by omega : l.length ≤ off + d.length)]
    congr 2
    by_cases h2 : off ≤ l.length
    · rw [if_pos h2, List.take_append_of_le_length h2]
    · rw [if_neg h2, List.take_append, List.take_of_length_le (by omega), List.take_replicate]
      congr 2; omega

set_option maxHeartbeats 1000000 in
theorem change_write (s : ByteArray) (call inode : Int) (off : Nat) (d : ByteArray) (w : World) (hs : s.size ≤ 300) (hm : Fp.mayB call inode false off d.data.toList = true) (ho : off + d.size ≤ 256) (hd : 0 < d.size) :
    Calls Tryz.prog 58 #[.string s, recV call inode false off d] w fun e w' => e = .returned (chgV (capL (Fp.outL s.data.toList false off d.data.toList))) ∧ Below w.heap.size w w' := by
  have hd0 : d.toList.isEmpty = false := by
    rw [Lib.toList_data]; rw [Lib.size_eq] at hd; cases h : d.data.toList with | nil => rw [h] at hd; simp at hd | cons _ _ => rfl
  have hw := outL_write s.data.toList off d.data.toList (by rw [← Lib.toList_data]; exact hd0)
  rw [← Lib.size_eq, ← Lib.size_eq] at hw
  have HW := Lib.hid hw; clear hw
  unfold recV
  go_enter Tryz.func58, Tryz.ntmps58
  go_wp2_with (first | (go_at_call 59; refine (may_any call inode false off d _ (by omega)).mono ?_; rintro e w' ⟨rfl, hb⟩; obtain ⟨hc, hf⟩ := bcell hb))
  refine (sized_int s _ _ (by omega) (by omega) (by omega)).mono ?_
  rintro e w2 ⟨u, rfl, hu, hu1, hu2, hb2⟩
  obtain ⟨hc2, hf2⟩ := bcell hb2
  have hz := hb.size
  simp only [World.size_alloc] at hz
  have hz1 : w.heap.size < w'.heap.size := by omega
  have hu3 : (off : Int) ≤ u.size := by omega
  have hu4 : (off : Int) + d.size ≤ u.size := by omega
  go_wp2
  go_quiet (fail)
  go_wp2
  all_goals
    have hB : Below w.heap.size w (w2.drewN nq) := below_drewN ((((Below.refl _ _).alloc (Nat.le_refl _) _).trans (hb.mono (by simp))).trans (hb2.mono (by omega))) _
    have hd1 : (u.extract 0 off ++ d ++ u.extract (off + d.size) u.size).data.toList = Fp.outL s.data.toList false off d.data.toList := by
      rw [ba_app, ba_app, ba_head, ba_tail, hu.out, ← HW.out]
      rw [show (max ((off : Int) + (d.size : Int)) (s.size : Int)).toNat = max (off + d.size) s.size from by omega]
    have hl : (Fp.outL s.data.toList false off d.data.toList).length = min off u.size + d.size + (u.size - (off + d.size)) := by
      rw [← hd1, ← Lib.size_eq]; simp
    go_ret2
    refine ⟨?_, hB⟩
  · rw [capL_no (by omega)]
    exact ret_chg rfl rfl
  · rw [capL_yes (by omega)]
    exact ret_chg hd1 rfl

theorem chg_def (s : List UInt8) (call inode : Int) (tr : Bool) (off : Int) (d : List UInt8) (h : Fp.mayB call inode tr off d = true) :
    Fp.chg s call inode tr off d = capL (Fp.outL s tr off.toNat d) := by unfold Fp.chg capL; rw [h]; rfl
theorem mayB_off {call inode : Int} {tr : Bool} {off : Int} {d : List UInt8} (h : Fp.mayB call inode tr off d = true) :
    0 ≤ off ∧ off ≤ 256 ∧ off + d.length ≤ 256 ∧ d.length ≤ 64 ∧ (tr = true → d = []) := by
  unfold Fp.mayB at h
  simp only [Bool.and_eq_true, decide_eq_true_eq] at h
  obtain ⟨⟨_, _, _, _, h1, h2, h3, h4⟩, h5⟩ := h
  refine ⟨h1, h2, h4, h3, fun ht => ?_⟩
  subst ht
  cases d with
  | nil => rfl
  | cons _ _ => simp at h5
theorem ba_nil {d : ByteArray} (h : d.data.toList = []) : d = ⟨#[]⟩ := ba_ext h

theorem change_any (s : ByteArray) (call inode : Int) (tr : Bool) (off : Int) (d : ByteArray) (w : World) (hs : s.size ≤ 300) (hd : d.size ≤ 80) :
    Calls Tryz.prog 58 #[.string s, recV call inode tr off d] w fun e w' => e = .returned (chgV (Fp.chg s.data.toList call inode tr off d.data.toList)) ∧ Below w.heap.size w w' := by
  by_cases hm : Fp.mayB call inode tr off d.data.toList = true
  · rw [chg_def _ _ _ _ _ _ hm]
    obtain ⟨h0, h1, h2, h3, h4⟩ := mayB_off hm
    obtain ⟨o, rfl⟩ := Int.eq_ofNat_of_zero_le h0
    rw [Int.toNat_natCast]
    by_cases hn : d.data.toList = []
    · obtain rfl := ba_nil hn
      cases tr with
      | true => exact change_trunc s call inode o w hs hm (by omega)
      | false => exact change_none s call inode o w hs hm
    · cases tr with
      | true => exact absurd (h4 rfl) hn
      | false =>
        have := List.length_pos_iff.2 hn
        rw [← Lib.size_eq] at this h2
        exact change_write s call inode o d w hs hm (by omega) this
  · have hm' : Fp.mayB call inode tr off d.data.toList = false := by simpa using hm
    have hfin : Fp.chg s.data.toList call inode tr off d.data.toList = ([], 1) := by unfold Fp.chg; rw [hm']; rfl
    rw [hfin]
    exact change_no s call inode tr off d w hd hm'

end Fl
end Go.Proofs.YtginffdngphjpaaGreatDoor

/- Walks: commonsref15.Change, commonslaw15.cut, commonslaw15.lives. -/
namespace Go.Proofs.YtginffdngphjpaaGreatDoor
namespace Fl
open Go.RowKit

theorem rsized_int (s : ByteArray) (m : Int) (w : World) (h0 : 0 ≤ m) (hn : m ≤ 1000000) :
    Calls Tryz.prog 61 #[.string s, .int .i64 m] w fun e w' => ∃ u : ByteArray, e = .returned (.string u) ∧ Hid (u.data.toList = Fp.sizedL s.data.toList m.toNat) ∧ (u.size : Int) ≤ m ∧ m ≤ u.size ∧ w = w' := by
  obtain ⟨n, rfl⟩ := Int.eq_ofNat_of_zero_le h0
  refine (rsized_any s n w (by omega)).mono fun e w' ⟨he, hb⟩ => ⟨_, he, Lib.hid rfl, ?_, ?_, hb⟩
  all_goals (rw [Lib.size_eq]; simp [Fp.sizedL_length])

set_option maxHeartbeats 1000000 in
theorem rchange_no (s : ByteArray) (call inode : Int) (tr : Bool) (off : Int) (d : ByteArray) (w : World) (hd : d.size ≤ 80) (hm : Fp.mayB call inode tr off d.data.toList = false) :
    Calls Tryz.prog 30 #[.string s, recV call inode tr off d] w fun e w' => e = .returned (chgV ([], 1)) ∧ Below w.heap.size w w' := by
  unfold recV
  go_enter Tryz.func30, Tryz.ntmps30
  go_wp2_with (go_at_call 60; refine (rmay_any call inode tr off d _ (by omega)).mono ?_; rintro e w' ⟨rfl, hb⟩)
  go_ret2
  exact ⟨rfl, ((Below.refl _ _).alloc (Nat.le_refl _) _).trans (hb.mono (by simp))⟩

set_option maxHeartbeats 1000000 in
theorem rchange_trunc (s : ByteArray) (call inode : Int) (off : Nat) (w : World) (hm : Fp.mayB call inode true off [] = true) (ho : off ≤ 256) :
    Calls Tryz.prog 30 #[.string s, recV call inode true off ⟨#[]⟩] w fun e w' => e = .returned (chgV (capL (Fp.outL s.data.toList true off []))) ∧ Below w.heap.size w w' := by
  have hfin : Fp.outL s.data.toList true off [] = Fp.sizedL s.data.toList off := rfl
  rw [hfin, capL_yes (by rw [Fp.sizedL_length]; exact ho)]
  clear hfin
  unfold recV
  go_enter Tryz.func30, Tryz.ntmps30
  go_wp2_with (first | (go_at_call 60; refine (rmay_any call inode true off ⟨#[]⟩ _ (by show 0 ≤ _; omega)).mono ?_; rintro e w' ⟨rfl, hb⟩; obtain ⟨hc, hf⟩ := bcell hb))
  refine (rsized_int s off _ (by omega) (by omega)).mono ?_
  rintro e w2 ⟨u, rfl, hu, hu1, hu2, rfl⟩
  go_wp2
  go_ret2
  refine ⟨ret_chg (by have := hu.out; simpa using this) rfl, ?_⟩
  exact ((Below.refl _ _).alloc (Nat.le_refl _) _).trans (hb.mono (by simp))

set_option maxHeartbeats 1000000 in
theorem rchange_none (s : ByteArray) (call inode : Int) (off : Int) (w : World) (hs : s.size ≤ 300) (hm : Fp.mayB call inode false off [] = true) :
    Calls Tryz.prog 30 #[.string s, recV call inode false off ⟨#[]⟩] w fun e w' => e = .returned (chgV (capL s.data.toList)) ∧ Below w.heap.size w w' := by
  have hl := Lib.size_eq s
  have Hl := Lib.hid hl; clear hl
  by_cases hlt : s.size ≤ 256
  · rw [capL_yes (by rw [← Hl.out]; exact hlt)]
    unfold recV
    go_enter Tryz.func30, Tryz.ntmps30
    go_wp2_with (first | (go_at_call 60; refine (rmay_any call inode false off ⟨#[]⟩ _ (by show 0 ≤ _; omega)).mono ?_; rintro e w' ⟨rfl, hb⟩; obtain ⟨hc, hf⟩ := bcell hb))
    go_ret2
    exact ⟨ret_chg rfl rfl, ((Below.refl _ _).alloc (Nat.le_refl _) _).trans (hb.mono (by simp))⟩
  · rw [capL_no (by rw [← Hl.out]; exact hlt)]
    unfold recV
    go_enter Tryz.func30, Tryz.ntmps30
    go_wp2_with (first | (go_at_call 60; refine (rmay_any call inode false off ⟨#[]⟩ _ (by show 0 ≤ _; omega)).mono ?_; rintro e w' ⟨rfl, hb⟩; obtain ⟨hc, hf⟩ := bcell hb))
    go_ret2
    exact ⟨ret_chg rfl rfl, ((Below.refl _ _).alloc (Nat.le_refl _) _).trans (hb.mono (by simp))⟩

theorem outL_if (l : List UInt8) (off : Nat) (d : List UInt8) (hd : d.isEmpty = false) :
    Fp.outL l false off d = if off + d.length < l.length then Fp.sizedL l off ++ d ++ l.drop (off + d.length) else Fp.sizedL l off ++ d := by
  unfold Fp.outL
  rw [if_neg (by simp), hd, if_neg (by simp)]
  by_cases h : off + d.length < l.length
  · rw [if_pos h]
  · rw [if_neg h, List.drop_eq_nil_of_le (by omega), List.append_nil]

set_option maxHeartbeats 1000000 in
theorem rchange_write (s : ByteArray) (call inode : Int) (off : Nat) (d : ByteArray) (w : World) (hs : s.size ≤ 300) (hm : Fp.mayB call inode false off d.data.toList = true) (ho : off + d.size ≤ 256) (hd : 0 < d.size) :
    Calls Tryz.prog 30 #[.string s, recV call inode false off d] w fun e w' => e = .returned (chgV (capL (Fp.outL s.data.toList false off d.data.toList))) ∧ Below w.heap.size w w' := by
  have hd0 : d.toList.isEmpty = false := by
    rw [Lib.toList_data]; rw [Lib.size_eq] at hd; cases h : d.data.toList with | nil => rw [h] at hd; simp at hd | cons _ _ => rfl
  have hw := outL_if s.data.toList off d.data.toList (by rw [← Lib.toList_data]; exact hd0)
  rw [← Lib.size_eq, ← Lib.size_eq] at hw
  have HW := Lib.hid hw; clear hw
  obtain ⟨u, hu⟩ : ∃ u : ByteArray, u.data.toList = Fp.sizedL s.data.toList off := ⟨⟨(Fp.sizedL s.data.toList off).toArray⟩, rfl⟩
  have hu0 : u.size = off := by rw [Lib.size_eq, hu, Fp.sizedL_length]
  have hq : ∀ W : World, Calls Tryz.prog 61 #[.string s, .int .i64 off] W fun e w' => e = .returned (.string u) ∧ W = w' := fun W => (rsized_any s off W (by omega)).mono fun e w' ⟨he, hw⟩ => ⟨by rw [he, ← hu, ba_mk], hw⟩
  have Hq := Lib.hid hq; clear hq
  have Hu := Lib.hid hu; clear hu
  have hu1 : u.size ≤ off := by omega
  have hu2 : off ≤ u.size := by omega
  clear hu0
  unfold recV
  go_enter Tryz.func30, Tryz.ntmps30
  go_wp2_with (first | (go_at_call 60; refine (rmay_any call inode false off d _ (by omega)).mono ?_; rintro e w' ⟨rfl, hb⟩; obtain ⟨hc, hf⟩ := bcell hb))
  go_quiet ((go_at_call 61; exact quiet_left (Hq.out _)))
  have hB : Below w.heap.size w (w'.drewN nq) := below_drewN (((Below.refl _ _).alloc (Nat.le_refl _) _).trans (hb.mono (by simp))) _
  by_cases hlt : u.size + d.size < s.size
  · go_wp2
    all_goals
      have hd1 : (u ++ d ++ s.extract (u.size + d.size) s.size).data.toList = Fp.outL s.data.toList false off d.data.toList := by
        rw [ba_app, ba_app, ba_tail, HW.out, if_pos (by omega), Hu.out, show u.size + d.size = off + d.size by omega]
      have hl : (Fp.outL s.data.toList false off d.data.toList).length = u.size + d.size + (s.size - (u.size + d.size)) := by
        rw [← hd1, ← Lib.size_eq]; simp
      go_ret2
      refine ⟨?_, hB⟩
      first
      | (rw [capL_no (by omega)]; exact ret_chg rfl rfl)
      | (rw [capL_yes (by omega)]; exact ret_chg hd1 rfl)
  · go_wp2
    go_ret2
    have hd1 : (u ++ d).data.toList = Fp.outL s.data.toList false off d.data.toList := by
      rw [ba_app, HW.out, if_neg (by omega), Hu.out]
    have hl : (Fp.outL s.data.toList false off d.data.toList).length = u.size + d.size := by
      rw [← hd1, ← Lib.size_eq]; simp
    rw [capL_yes (by omega)]
    exact ⟨ret_chg hd1 rfl, hB⟩

theorem rchange_any (s : ByteArray) (call inode : Int) (tr : Bool) (off : Int) (d : ByteArray) (w : World) (hs : s.size ≤ 300) (hd : d.size ≤ 80) :
    Calls Tryz.prog 30 #[.string s, recV call inode tr off d] w fun e w' => e = .returned (chgV (Fp.chg s.data.toList call inode tr off d.data.toList)) ∧ Below w.heap.size w w' := by
  by_cases hm : Fp.mayB call inode tr off d.data.toList = true
  · rw [chg_def _ _ _ _ _ _ hm]
    obtain ⟨h0, h1, h2, h3, h4⟩ := mayB_off hm
    obtain ⟨o, rfl⟩ := Int.eq_ofNat_of_zero_le h0
    rw [Int.toNat_natCast]
    by_cases hn : d.data.toList = []
    · obtain rfl := ba_nil hn
      cases tr with
      | true => exact rchange_trunc s call inode o w hm (by omega)
      | false => exact rchange_none s call inode o w hs hm
    · cases tr with
      | true => exact absurd (h4 rfl) hn
      | false =>
        have := List.length_pos_iff.2 hn
        rw [← Lib.size_eq] at this h2
        exact rchange_write s call inode o d w hs hm (by omega) this
  · have hm' : Fp.mayB call inode tr off d.data.toList = false := by simpa using hm
    have hfin : Fp.chg s.data.toList call inode tr off d.data.toList = ([], 1) := by unfold Fp.chg; rw [hm']; rfl
    rw [hfin]
    exact rchange_no s call inode tr off d w hd hm'

set_option maxHeartbeats 1000000 in
theorem lives_any (w : World) : Calls Tryz.prog 25 #[] w fun e w' => e = .returned (.bool true) ∧ Below w.heap.size w w' := by
  have h1 := change_any ⟨#[97, 98, 99]⟩ 0 1 false 5 ⟨#[120, 121]⟩ w (by decide) (by decide)
  have h2 := fun W : World => change_any ⟨#[97, 98, 99]⟩ 0 1 true 1 ⟨#[]⟩ W (by decide) (by decide)
  rw [show chgV (Fp.chg (⟨#[97, 98, 99]⟩ : ByteArray).data.toList 0 1 false 5 (⟨#[120, 121]⟩ : ByteArray).data.toList) = .tuple #[.string ⟨#[97, 98, 99, 0, 0, 120, 121]⟩, .int .i64 0] from rfl] at h1
  have e2 : chgV (Fp.chg (⟨#[97, 98, 99]⟩ : ByteArray).data.toList 0 1 true 1 (⟨#[]⟩ : ByteArray).data.toList) = .tuple #[.string ⟨#[97]⟩, .int .i64 0] := rfl
  rw [e2] at h2
  have H1 := Lib.hid h1; clear h1
  have H2 := Lib.hid h2; clear h2
  clear e2
  go_enter Tryz.func25, Tryz.ntmps25
  go_wp2_with fail
  refine H1.out.mono ?_
  rintro e w1 ⟨rfl, hb1⟩
  go_wp2_with fail
  refine (H2.out _).mono ?_
  rintro e w2 ⟨rfl, hb2⟩
  go_wp2
  go_ret
  exact ⟨rfl, hb1.trans (hb2.mono hb1.size)⟩

end Fl
end Go.Proofs.YtginffdngphjpaaGreatDoor

/- Walks: files: file, block. -/
namespace Go.Proofs.YtginffdngphjpaaGreatDoor
open Go.RowKit Go.Shelf

attribute [local go_sem] Oper.semAt_some

theorem Tl.old {x t c K : Nat} {S : List UInt8} {M : Gd.Vol} {F : Nat → Prop} {w a : World} {Ls : List (Nat × Obj)} (h : Tl x t S M c K F w a Ls) {k : Nat} (hk : k < w.heap.size) (hF : ¬ F k) : a.heap[k]? = w.heap[k]? := by
  obtain ⟨F', h1, _⟩ := h
  exact (h1.own hk hF).1
/-- a file system's object -/
def FilC (t x : Nat) : Array Value := #[.pointer (some ⟨t, 0, none⟩), .pointer (some ⟨x, 0, none⟩)]
def FilAt (w : World) (f t x : Nat) : Prop := w.heap[f]? = some (.cells (FilC t x) 104 (0, 0))
theorem FilAt.cells {w : World} {f t x : Nat} (h : FilAt w f t x) : w.cell? ⟨f, 0, none⟩ = some (.pointer (some ⟨t, 0, none⟩)) ∧ w.cell? ⟨f, 1, none⟩ = some (.pointer (some ⟨x, 0, none⟩)) :=
  ⟨cell_of_row w f 0 _ _ _ h, cell_of_row w f 1 _ _ _ h⟩
theorem FilAt.below {w w' : World} {f t x : Nat} (h : FilAt w f t x) (hb : Below w.heap.size w w') : FilAt w' f t x := (hb.block f (lt_get h)).trans h
namespace Gd
/-- what the file of a number is: an error -/
def fileE (M : Vol) (i : Nat) : Int := if (M.ino i).k = 0 then 10 else if (M.ino i).k = 2 then 13 else 0
end Gd

set_option maxHeartbeats 8000000 in
set_option maxRecDepth 100000 in
theorem file_bad {x t c K f : Nat} {S : List UInt8} {M : Gd.Vol} {F : Nat → Prop} (i : Int) (w : World) (h : MetaV x t S M c K w F) (hf : FilAt w f t x) (hi : ¬ (1 ≤ i ∧ i ≤ 32)) :
    Calls Tryz.prog 51 #[.pointer (some ⟨f, 0, none⟩), .int .i64 i] w fun e w' => e = .returned (.tuple #[inoV Gd.noIno, .int .i64 1]) ∧ Below w.heap.size w w' := by
  obtain ⟨hb0, hr0⟩ := below_new w zIno 25
  obtain ⟨r, hr⟩ : ∃ r, r = w.heap.size := ⟨_, rfl⟩
  obtain ⟨w0, hw0⟩ : ∃ u, u = w.alloc (.cells zIno 25) := ⟨_, rfl⟩
  rw [← hw0, ← hr] at hr0
  rw [← hw0] at hb0
  have HIn := Lib.hid (inode_bad i w0 (h.below hb0) hi)
  obtain ⟨y, hy⟩ : ∃ y, y = Gd.noIno := ⟨_, rfl⟩
  have hsh : y.Shape := by rw [hy]; exact noIno_shape
  rw [← hy] at HIn ⊢
  have HS := Lib.hid (inoC_size hsh)
  obtain ⟨-, f1⟩ := (hf.below hb0).cells
  have HR0 := Lib.hid hr0
  have HB0 := Lib.hid hb0
  have HW0 := Lib.hid hw0.symm
  have Hr := Lib.hid hr.symm
  clear h hf hi hb0 hr0 hr hw0 hy hsh
  unfold inoV at *
  go_enter Tryz.func51, Tryz.ntmps51
  go_upto_region 1 with fail
  rw [← zIno_lit, HW0.out, Hr.out]
  go_upto_region 2 with (first | (go_at_call 11; refine HIn.out.mono ?_; rintro e w2 ⟨rfl, hb2⟩; have HR2 := Lib.hid ((hb2.block r (lt_get HR0.out)).trans HR0.out); have HB2 := Lib.hid (HB0.out.trans (hb2.mono HB0.out.size)); clear hb2) | (rw [← zIno_lit]; refine wpList_store_mid rfl 25 _ _ rfl w2.heap.size 0 (inoC y) rfl rfl (there_at (heap_alloc_new _ _) (by rw [zIno_size, HS.out])) (by rw [HS.out]; exact Tryz.sizeIno) (inoC_one _) ?_; obtain ⟨hbw, hbg⟩ := new_whole2 w2 zIno 25 (inoC y).toList (by rw [zIno_size, Array.length_toList, HS.out]); generalize (World.setCells _ _ _ _) = w3 at hbw hbg ⊢; have HN3 : Hid (w3.heap[w2.heap.size]? = some (.cells (inoC y) 25 (0, 0))) := Lib.hid hbg; have HB3 := Lib.hid (HB2.out.trans (hbw.mono HB2.out.size)); have HR3 := Lib.hid ((hbw.block _ (lt_get HR2.out)).trans HR2.out); clear hbw hbg))
  go_wp2_with (first | (refine wpList_load_row rfl 25 _ rfl w2.heap.size rfl 25 (inoC y) (0, 0) _ HN3.out Tryz.underlying25 rfl (by rw [HS.out]; exact Tryz.sizeIno) ?_) | (refine wpList_store_mid rfl 25 _ _ rfl r 0 (inoC y) rfl rfl (there_at HR3.out (by rw [zIno_size, HS.out])) (by rw [HS.out]; exact Tryz.sizeIno) (inoC_one _) ?_; obtain ⟨hbw, hbg⟩ := whole_at HR3.out (vs := (inoC y).toList) (B := r) (by rw [zIno_size, Array.length_toList, HS.out]) (Nat.le_refl r); generalize (World.setCells _ _ _ _) = wf at hbw hbg ⊢))
  refine bodyPost_ret (results_row_tmp rfl _ _ r 25 (inoC y) (0, 0) _ rfl hbg Tryz.underlying25 rfl (by rw [HS.out]; exact Tryz.sizeIno)) rfl ?_
  exact ⟨rfl, HB3.out.trans (by rw [Hr.out]; exact hbw)⟩

set_option maxHeartbeats 8000000 in
set_option maxRecDepth 100000 in
theorem file_any {x t c K f : Nat} {S : List UInt8} {M : Gd.Vol} {F : Nat → Prop} (i : Nat) (w : World) (h : MetaV x t S M c K w F) (hf : FilAt w f t x) (h1 : 1 ≤ i) (h2 : i ≤ 32) :
    Calls Tryz.prog 51 #[.pointer (some ⟨f, 0, none⟩), .int .i64 i] w fun e w' => e = .returned (.tuple #[inoV (M.ino i), .int .i64 (Gd.fileE M i)]) ∧ Below w.heap.size w w' := by
  obtain ⟨hb0, hr0⟩ := below_new w zIno 25
  obtain ⟨r, hr⟩ : ∃ r, r = w.heap.size := ⟨_, rfl⟩
  obtain ⟨w0, hw0⟩ : ∃ u, u = w.alloc (.cells zIno 25) := ⟨_, rfl⟩
  rw [← hw0, ← hr] at hr0
  rw [← hw0] at hb0
  have HIn := Lib.hid (inode_ok (i : Int) w0 (h.below hb0) (by omega) (by omega))
  rw [Int.toNat_natCast] at HIn
  have hsh : (M.ino i).Shape := by
    obtain ⟨P, h3, h4⟩ := h
    exact h4.shape i h1 h2
  unfold Gd.fileE
  obtain ⟨y, hy⟩ : ∃ y, y = M.ino i := ⟨_, rfl⟩
  rw [← hy] at HIn hsh ⊢
  have HS := Lib.hid (inoC_size hsh)
  obtain ⟨-, f1⟩ := (hf.below hb0).cells
  have HR0 := Lib.hid hr0
  have HB0 := Lib.hid hb0
  have HW0 := Lib.hid hw0.symm
  have Hr := Lib.hid hr.symm
  obtain ⟨k, hk⟩ : ∃ k, k = y.k := ⟨_, rfl⟩
  rw [← hk]
  have HK := Lib.hid hk
  obtain ⟨E, hE⟩ : ∃ E : Int, E = (if k = 0 then 10 else if k = 2 then 13 else 0) := ⟨_, rfl⟩
  rw [← hE]
  have HE := Lib.hid hE
  clear h hf h1 h2 hb0 hr0 hr hw0 hy hsh hk hE
  unfold inoV at *
  go_enter Tryz.func51, Tryz.ntmps51
  go_upto_region 1 with fail
  rw [← zIno_lit, HW0.out, Hr.out]
  go_upto_region 2 with (first | (go_at_call 11; refine HIn.out.mono ?_; rintro e w2 ⟨rfl, hb2⟩; have HR2 := Lib.hid ((hb2.block r (lt_get HR0.out)).trans HR0.out); have HB2 := Lib.hid (HB0.out.trans (hb2.mono HB0.out.size)); clear hb2) | (rw [← zIno_lit]; refine wpList_store_mid rfl 25 _ _ rfl w2.heap.size 0 (inoC y) rfl rfl (there_at (heap_alloc_new _ _) (by rw [zIno_size, HS.out])) (by rw [HS.out]; exact Tryz.sizeIno) (inoC_one _) ?_; obtain ⟨hbw, hbg⟩ := new_whole2 w2 zIno 25 (inoC y).toList (by rw [zIno_size, Array.length_toList, HS.out]); generalize (World.setCells _ _ _ _) = w3 at hbw hbg ⊢; have HN3 : Hid (w3.heap[w2.heap.size]? = some (.cells (inoC y) 25 (0, 0))) := Lib.hid hbg; have HB3 := Lib.hid (HB2.out.trans (hbw.mono HB2.out.size)); have HR3 := Lib.hid ((hbw.block _ (lt_get HR2.out)).trans HR2.out); clear hbw hbg))
  have n0 : w3.cell? ⟨w2.heap.size, 0, none⟩ = some (.int .i64 k) := by rw [HK.out]; exact (cell_of_row w3 w2.heap.size 0 _ _ _ HN3.out).trans (inoC_get rfl)
  by_cases k0 : k = 0
  · subst k0
    obtain rfl : E = 10 := HE.out
    go_wp2_with (first | (refine wpList_load_row rfl 25 _ rfl w2.heap.size rfl 25 (inoC y) (0, 0) _ HN3.out Tryz.underlying25 rfl (by rw [HS.out]; exact Tryz.sizeIno) ?_) | (refine wpList_store_mid rfl 25 _ _ rfl r 0 (inoC y) rfl rfl (there_at HR3.out (by rw [zIno_size, HS.out])) (by rw [HS.out]; exact Tryz.sizeIno) (inoC_one _) ?_; obtain ⟨hbw, hbg⟩ := whole_at HR3.out (vs := (inoC y).toList) (B := r) (by rw [zIno_size, Array.length_toList, HS.out]) (Nat.le_refl r); generalize (World.setCells _ _ _ _) = wf at hbw hbg ⊢))
    refine bodyPost_ret (results_row_tmp rfl _ _ r 25 (inoC y) (0, 0) _ rfl hbg Tryz.underlying25 rfl (by rw [HS.out]; exact Tryz.sizeIno)) rfl ?_
    exact ⟨rfl, HB3.out.trans (by rw [Hr.out]; exact hbw)⟩
  · by_cases k2 : k = 2
    · subst k2
      obtain rfl : E = 13 := HE.out
      clear k0
      go_wp2_with (first | (refine wpList_load_row rfl 25 _ rfl w2.heap.size rfl 25 (inoC y) (0, 0) _ HN3.out Tryz.underlying25 rfl (by rw [HS.out]; exact Tryz.sizeIno) ?_) | (refine wpList_store_mid rfl 25 _ _ rfl r 0 (inoC y) rfl rfl (there_at HR3.out (by rw [zIno_size, HS.out])) (by rw [HS.out]; exact Tryz.sizeIno) (inoC_one _) ?_; obtain ⟨hbw, hbg⟩ := whole_at HR3.out (vs := (inoC y).toList) (B := r) (by rw [zIno_size, Array.length_toList, HS.out]) (Nat.le_refl r); generalize (World.setCells _ _ _ _) = wf at hbw hbg ⊢))
      refine bodyPost_ret (results_row_tmp rfl _ _ r 25 (inoC y) (0, 0) _ rfl hbg Tryz.underlying25 rfl (by rw [HS.out]; exact Tryz.sizeIno)) rfl ?_
      exact ⟨rfl, HB3.out.trans (by rw [Hr.out]; exact hbw)⟩
    · have hE0 : E = 0 := by rw [HE.out, if_neg k0, if_neg k2]
      subst hE0
      go_wp2_with (first | (refine wpList_load_row rfl 25 _ rfl w2.heap.size rfl 25 (inoC y) (0, 0) _ HN3.out Tryz.underlying25 rfl (by rw [HS.out]; exact Tryz.sizeIno) ?_) | (refine wpList_store_mid rfl 25 _ _ rfl r 0 (inoC y) rfl rfl (there_at HR3.out (by rw [zIno_size, HS.out])) (by rw [HS.out]; exact Tryz.sizeIno) (inoC_one _) ?_; obtain ⟨hbw, hbg⟩ := whole_at HR3.out (vs := (inoC y).toList) (B := r) (by rw [zIno_size, Array.length_toList, HS.out]) (Nat.le_refl r); generalize (World.setCells _ _ _ _) = wf at hbw hbg ⊢))
      refine bodyPost_ret (results_row_tmp rfl _ _ r 25 (inoC y) (0, 0) _ rfl hbg Tryz.underlying25 rfl (by rw [HS.out]; exact Tryz.sizeIno)) rfl ?_
      exact ⟨rfl, HB3.out.trans (by rw [Hr.out]; exact hbw)⟩

end Go.Proofs.YtginffdngphjpaaGreatDoor
