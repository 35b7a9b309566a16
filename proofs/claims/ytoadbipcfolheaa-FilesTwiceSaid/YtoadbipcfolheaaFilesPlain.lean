/- Plain functions for the change of a file's bytes by a record, and the law that doing it twice comes to the same as once. No program in sight. -/
namespace Go.Proofs.Ytoadbipcfolheaa.Fp

/-- bytes cut to n, or with noughts behind -/
def sizedL (l : List UInt8) (n : Nat) : List UInt8 := if n ≤ l.length then l.take n else l ++ List.replicate (n - l.length) 0

theorem sizedL_length (l : List UInt8) (n : Nat) : (sizedL l n).length = n := by
  unfold sizedL; split
  · rw [List.length_take]; omega
  · rw [List.length_append, List.length_replicate]; omega

theorem sizedL_self (l : List UInt8) (n : Nat) (h : l.length = n) : sizedL l n = l := by
  unfold sizedL; rw [if_pos (by omega), List.take_of_length_le (by omega)]

/-- may the record be -/
def mayB (call inode : Int) (tr : Bool) (off : Int) (d : List UInt8) : Bool :=
  decide (0 ≤ call ∧ call ≤ 1099511627776 ∧ 1 ≤ inode ∧ inode ≤ 32 ∧ 0 ≤ off ∧ off ≤ 256 ∧ d.length ≤ 64 ∧ off + d.length ≤ 256) && !(tr && !d.isEmpty)

theorem mayB_no {call inode : Int} {tr : Bool} {off : Int} {d : List UInt8} (h : ¬ (0 ≤ call ∧ call ≤ 1099511627776 ∧ 1 ≤ inode ∧ inode ≤ 32 ∧ 0 ≤ off ∧ off ≤ 256 ∧ d.length ≤ 64 ∧ off + d.length ≤ 256)) :
    mayB call inode tr off d = false := by
  unfold mayB; rw [decide_eq_false h]; rfl
theorem mayB_if {call inode : Int} {tr : Bool} {off : Int} {d : List UInt8} (h : 0 ≤ call ∧ call ≤ 1099511627776 ∧ 1 ≤ inode ∧ inode ≤ 32 ∧ 0 ≤ off ∧ off ≤ 256 ∧ d.length ≤ 64 ∧ off + d.length ≤ 256) :
    mayB call inode tr off d = !(tr && !d.isEmpty) := by
  unfold mayB; rw [decide_eq_true h]; rfl

/-- the bytes that come out, of a record that may be -/
def outL (s : List UInt8) (tr : Bool) (off : Nat) (d : List UInt8) : List UInt8 :=
  if tr then sizedL s off else if d.isEmpty then s else sizedL s off ++ d ++ s.drop (off + d.length)

/-- the bytes and the error -/
def chg (s : List UInt8) (call inode : Int) (tr : Bool) (off : Int) (d : List UInt8) : List UInt8 × Int :=
  if mayB call inode tr off d then
    (if (outL s tr off.toNat d).length ≤ 256 then (outL s tr off.toNat d, 0) else ([], 19))
  else ([], 1)

theorem outL_twice (s : List UInt8) (tr : Bool) (off : Nat) (d : List UInt8) : outL (outL s tr off d) tr off d = outL s tr off d := by
  unfold outL
  cases tr with
  | true => simp only [if_true]; exact sizedL_self _ _ (sizedL_length _ _)
  | false =>
    simp only [Bool.false_eq_true, if_false]
    by_cases hd : d.isEmpty = true
    · simp [hd]
    · simp only [hd, Bool.false_eq_true, if_false]
      have hl := sizedL_length s off
      have h1 : sizedL (sizedL s off ++ d ++ s.drop (off + d.length)) off = sizedL s off := by
        show (if off ≤ (sizedL s off ++ d ++ s.drop (off + d.length)).length then (sizedL s off ++ d ++ s.drop (off + d.length)).take off else _) = _
        rw [if_pos (by simp only [List.length_append]; omega), List.append_assoc, List.take_append_of_le_length (by omega), List.take_of_length_le (by omega)]
      have h2 : (sizedL s off ++ d ++ s.drop (off + d.length)).drop (off + d.length) = s.drop (off + d.length) := by
        rw [List.drop_append, List.drop_eq_nil_of_le (by rw [List.length_append]; omega)]
        simp [hl]
      rw [h1, h2]

theorem chg_twice (s : List UInt8) (call inode : Int) (tr : Bool) (off : Int) (d : List UInt8) (h : (chg s call inode tr off d).2 = 0) :
    chg (chg s call inode tr off d).1 call inode tr off d = chg s call inode tr off d := by
  unfold chg at h ⊢
  by_cases hm : mayB call inode tr off d = true
  · simp only [hm, if_true] at h ⊢
    by_cases hl : (outL s tr off.toNat d).length ≤ 256
    · simp only [hl, if_true] at h ⊢
      rw [outL_twice]
      simp [hl]
    · simp [hl] at h
  · simp [hm] at h

theorem chg_bad (s : List UInt8) (call inode : Int) (tr : Bool) (off : Int) (d : List UInt8) (h : (chg s call inode tr off d).2 ≠ 0) :
    (chg s call inode tr off d).1 = [] := by
  unfold chg at h ⊢
  by_cases hm : mayB call inode tr off d = true
  · simp only [hm, if_true] at h ⊢
    by_cases hl : (outL s tr off.toNat d).length ≤ 256
    · simp [hl] at h
    · simp [hl]
  · simp [hm]

theorem chg_le (s : List UInt8) (call inode : Int) (tr : Bool) (off : Int) (d : List UInt8) : (chg s call inode tr off d).1.length ≤ 256 := by
  unfold chg
  split
  · split
    · assumption
    · simp
  · simp

end Go.Proofs.Ytoadbipcfolheaa.Fp
