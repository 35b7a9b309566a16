/- Walks: files.May, commonsref15.May, commonsref06.Sized. -/
import Derived.Test.YtoadbipcfolheaaFilesWalkA
import Derived.Test.YtoadbipcfolheaaLem
import Derived.BigQuiet
import Derived.Deep.QuietTactic
namespace Go.Proofs.Ytoadbipcfolheaa
open Go.RowKit

def recV (call inode : Int) (tr : Bool) (off : Int) (d : ByteArray) : Value := .agg #[.int .i64 call, .int .i64 inode, .bool tr, .int .i64 off, .string d]

set_option maxHeartbeats 400000 in
theorem may_any (call inode : Int) (tr : Bool) (off : Int) (d : ByteArray) (w : World) (hd : d.size ≤ 9223372036854775807) :
    Calls Try.prog 8 #[recV call inode tr off d] w fun e w' => e = .returned (.bool (Fp.mayB call inode tr off d.data.toList)) ∧ Below w.heap.size w w' := by
  unfold recV
  go_enter Try.func8, Try.ntmps8
  go_wp2_with (go_at_call 13; refine (in_any _ _ _ _).mono ?_; rintro e w' ⟨rfl, rfl⟩)
  all_goals go_ret
  all_goals refine ⟨ret_bool ?_, (Below.refl _ _).alloc (Nat.le_refl _) _⟩
  all_goals (try unfold wrap64 at *)
  all_goals (simp only [inB, Bool.and_eq_true, decide_eq_true_eq] at *)
  all_goals (have hs := Lib.size_eq d)
  · have htr : tr = true := by assumption
    subst htr; rw [Fp.mayB_if (by omega), Lib.toList_data]; simp
  · have htr : ¬ tr = true := by assumption
    rw [Fp.mayB_if (by omega)]; simp [htr]
  all_goals (rw [Fp.mayB_no (by omega)])

set_option maxHeartbeats 400000 in
theorem rmay_any (call inode : Int) (tr : Bool) (off : Int) (d : ByteArray) (w : World) (hd : d.size ≤ 9223372036854775807) :
    Calls Try.prog 9 #[recV call inode tr off d] w fun e w' => e = .returned (.bool (Fp.mayB call inode tr off d.data.toList)) ∧ Below w.heap.size w w' := by
  unfold recV
  go_enter Try.func9, Try.ntmps9
  go_wp2
  all_goals go_ret
  all_goals refine ⟨ret_bool ?_, (Below.refl _ _).alloc (Nat.le_refl _) _⟩
  all_goals (try unfold wrap64 at *)
  all_goals (have hs := Lib.size_eq d)
  all_goals first
    | (rw [Fp.mayB_no (by omega)])
    | (have htr : tr = true := by assumption
       subst htr; rw [Fp.mayB_if (by omega), Lib.toList_data]; simp; done)
    | (have htr : ¬ tr = true := by assumption
       rw [Fp.mayB_if (by omega)]; simp [htr]; done)

theorem sized_snoc (l : List UInt8) (n : Nat) (h : l.length < n) : Fp.sizedL (l ++ [0]) n = Fp.sizedL l n := by
  unfold Fp.sizedL
  rw [if_neg (by omega : ¬ n ≤ l.length)]
  by_cases h2 : n ≤ (l ++ [0]).length
  · rw [if_pos h2]
    simp only [List.length_append, List.length_cons, List.length_nil] at h2
    rw [List.take_of_length_le (by simp; omega), show n - l.length = 1 by omega]
    rfl
  · rw [if_neg h2]
    simp only [List.length_append, List.length_cons, List.length_nil] at h2 ⊢
    rw [List.append_assoc, show n - l.length = (n - (l.length + (0 + 1))) + 1 by omega, List.replicate_succ]
    rfl
theorem sized_head (l : List UInt8) (n : Nat) (h : n ≤ l.length) : l.take n = Fp.sizedL l n := by
  unfold Fp.sizedL; rw [if_pos h]

def szOf : Value → Nat | .string u => u.size | _ => 0

set_option maxHeartbeats 400000 in
theorem rsized_any (s : ByteArray) (n : Nat) (w : World) (hn : n ≤ 1000000) :
    Calls Try.prog 12 #[.string s, .int .i64 n] w fun e w' => e = .returned (.string ⟨(Fp.sizedL s.data.toList n).toArray⟩) ∧ w = w' := by
  have hl := Lib.size_eq s
  have Hl := Lib.hid hl; clear hl
  by_cases hlt : n < s.size
  · go_enter Try.func12, Try.ntmps12
    go_wp2
    go_ret
    refine ⟨ret_str ?_, rfl⟩
    have := Hl.out
    rw [ba_head, sized_head _ _ (by omega)]
  · go_enter Try.func12, Try.ntmps12
    go_wp2
    go_loop [0] (fun t => ∃ u : ByteArray, u.size ≤ n ∧ t = .string u ∧ Hid (Fp.sizedL u.data.toList n = Fp.sizedL s.data.toList n)) (fun t => n - szOf t)
    case atStart => exact ⟨s, by omega, rfl, rfl⟩
    case round =>
      obtain ⟨u, hu, rfl, He⟩ := hrel
      by_cases hlu : u.size < n
      · go_wp2
        go_round
        case rel =>
          refine ⟨_, ?_, rfl, ?_⟩
          · rw [ByteArray.size_append]; show u.size + 1 ≤ n; omega
          · show Fp.sizedL _ n = _
            rw [ba_app, ← He.out]
            exact sized_snoc _ _ (by rw [← ba_len]; exact hlu)
        case measure => show n - (u ++ ⟨#[0]⟩ : ByteArray).size < n - u.size; rw [ByteArray.size_append]; show n - (u.size + 1) < _; omega
      · go_wp2
        go_ret
        refine ⟨ret_str ?_, rfl⟩
        rw [← He.out, Fp.sizedL_self]
        rw [← ba_len]; omega

end Go.Proofs.Ytoadbipcfolheaa
