/- Walks: commonsref15.Change, commonslaw15.cut, commonslaw15.lives. -/
import Derived.Test.YtoadbipcfolheaaFilesWalkC
namespace Go.Proofs.Ytoadbipcfolheaa
open Go.RowKit

theorem rsized_int (s : ByteArray) (m : Int) (w : World) (h0 : 0 ≤ m) (hn : m ≤ 1000000) :
    Calls Try.prog 12 #[.string s, .int .i64 m] w fun e w' => ∃ u : ByteArray, e = .returned (.string u) ∧ Hid (u.data.toList = Fp.sizedL s.data.toList m.toNat) ∧ (u.size : Int) ≤ m ∧ m ≤ u.size ∧ w = w' := by
  obtain ⟨n, rfl⟩ := Int.eq_ofNat_of_zero_le h0
  refine (rsized_any s n w (by omega)).mono fun e w' ⟨he, hb⟩ => ⟨_, he, Lib.hid rfl, ?_, ?_, hb⟩
  all_goals (rw [Lib.size_eq]; simp [Fp.sizedL_length])

set_option maxHeartbeats 1000000 in
theorem rchange_no (s : ByteArray) (call inode : Int) (tr : Bool) (off : Int) (d : ByteArray) (w : World) (hd : d.size ≤ 80) (hm : Fp.mayB call inode tr off d.data.toList = false) :
    Calls Try.prog 7 #[.string s, recV call inode tr off d] w fun e w' => e = .returned (chgV ([], 1)) ∧ Below w.heap.size w w' := by
  unfold recV
  go_enter Try.func7, Try.ntmps7
  go_wp2_with (go_at_call 9; refine (rmay_any call inode tr off d _ (by omega)).mono ?_; rintro e w' ⟨rfl, hb⟩)
  go_ret2
  exact ⟨rfl, ((Below.refl _ _).alloc (Nat.le_refl _) _).trans (hb.mono (by simp))⟩

set_option maxHeartbeats 1000000 in
theorem rchange_trunc (s : ByteArray) (call inode : Int) (off : Nat) (w : World) (hm : Fp.mayB call inode true off [] = true) (ho : off ≤ 256) :
    Calls Try.prog 7 #[.string s, recV call inode true off ⟨#[]⟩] w fun e w' => e = .returned (chgV (capL (Fp.outL s.data.toList true off []))) ∧ Below w.heap.size w w' := by
  have hfin : Fp.outL s.data.toList true off [] = Fp.sizedL s.data.toList off := rfl
  rw [hfin, capL_yes (by rw [Fp.sizedL_length]; exact ho)]
  clear hfin
  unfold recV
  go_enter Try.func7, Try.ntmps7
  go_wp2_with (first | (go_at_call 9; refine (rmay_any call inode true off ⟨#[]⟩ _ (by show 0 ≤ _; omega)).mono ?_; rintro e w' ⟨rfl, hb⟩; obtain ⟨hc, hf⟩ := bcell hb))
  refine (rsized_int s off _ (by omega) (by omega)).mono ?_
  rintro e w2 ⟨u, rfl, hu, hu1, hu2, rfl⟩
  go_wp2
  go_ret2
  refine ⟨ret_chg (by have := hu.out; simpa using this) rfl, ?_⟩
  exact ((Below.refl _ _).alloc (Nat.le_refl _) _).trans (hb.mono (by simp))

set_option maxHeartbeats 1000000 in
theorem rchange_none (s : ByteArray) (call inode : Int) (off : Int) (w : World) (hs : s.size ≤ 300) (hm : Fp.mayB call inode false off [] = true) :
    Calls Try.prog 7 #[.string s, recV call inode false off ⟨#[]⟩] w fun e w' => e = .returned (chgV (capL s.data.toList)) ∧ Below w.heap.size w w' := by
  have hl := Lib.size_eq s
  have Hl := Lib.hid hl; clear hl
  by_cases hlt : s.size ≤ 256
  · rw [capL_yes (by rw [← Hl.out]; exact hlt)]
    unfold recV
    go_enter Try.func7, Try.ntmps7
    go_wp2_with (first | (go_at_call 9; refine (rmay_any call inode false off ⟨#[]⟩ _ (by show 0 ≤ _; omega)).mono ?_; rintro e w' ⟨rfl, hb⟩; obtain ⟨hc, hf⟩ := bcell hb))
    go_ret2
    exact ⟨ret_chg rfl rfl, ((Below.refl _ _).alloc (Nat.le_refl _) _).trans (hb.mono (by simp))⟩
  · rw [capL_no (by rw [← Hl.out]; exact hlt)]
    unfold recV
    go_enter Try.func7, Try.ntmps7
    go_wp2_with (first | (go_at_call 9; refine (rmay_any call inode false off ⟨#[]⟩ _ (by show 0 ≤ _; omega)).mono ?_; rintro e w' ⟨rfl, hb⟩; obtain ⟨hc, hf⟩ := bcell hb))
    go_ret2
    exact ⟨ret_chg rfl rfl, ((Below.refl _ _).alloc (Nat.le_refl _) _).trans (hb.mono (by simp))⟩

theorem outL_if (l : List UInt8) (off : Nat) (d : List UInt8) (hd : d.isEmpty = false) :
    Fp.outL l false off d = if off + d.length < l.length then Fp.sizedL l off ++ d ++ l.drop (off + d.length) else Fp.sizedL l off ++ d := by
  unfold Fp.outL
  rw [if_neg (by simp), hd, if_neg (by simp)]
  by_cases h : off + d.length < l.length
  · rw [if_pos h]
  · rw [if_neg h, List.drop_eq_nil_of_le (by omega), List.append_nil]

set_option maxHeartbeats 1000000 in
theorem rchange_write (s : ByteArray) (call inode : Int) (off : Nat) (d : ByteArray) (w : World) (hs : s.size ≤ 300) (hm : Fp.mayB call inode false off d.data.toList = true) (ho : off + d.size ≤ 256) (hd : 0 < d.size) :
    Calls Try.prog 7 #[.string s, recV call inode false off d] w fun e w' => e = .returned (chgV (capL (Fp.outL s.data.toList false off d.data.toList))) ∧ Below w.heap.size w w' := by
  have hd0 : d.toList.isEmpty = false := by
    rw [Lib.toList_data]; rw [Lib.size_eq] at hd; cases h : d.data.toList with | nil => rw [h] at hd; simp at hd | cons _ _ => rfl
  have hw := outL_if s.data.toList off d.data.toList (by rw [← Lib.toList_data]; exact hd0)
  rw [← Lib.size_eq, ← Lib.size_eq] at hw
  have HW := Lib.hid hw; clear hw
  obtain ⟨u, hu⟩ : ∃ u : ByteArray, u.data.toList = Fp.sizedL s.data.toList off := ⟨⟨(Fp.sizedL s.data.toList off).toArray⟩, rfl⟩
  have hu0 : u.size = off := by rw [Lib.size_eq, hu, Fp.sizedL_length]
  have hq : ∀ W : World, Calls Try.prog 12 #[.string s, .int .i64 off] W fun e w' => e = .returned (.string u) ∧ W = w' := fun W => (rsized_any s off W (by omega)).mono fun e w' ⟨he, hw⟩ => ⟨by rw [he, ← hu, ba_mk], hw⟩
  have Hq := Lib.hid hq; clear hq
  have Hu := Lib.hid hu; clear hu
  have hu1 : u.size ≤ off := by omega
  have hu2 : off ≤ u.size := by omega
  clear hu0
  unfold recV
  go_enter Try.func7, Try.ntmps7
  go_wp2_with (first | (go_at_call 9; refine (rmay_any call inode false off d _ (by omega)).mono ?_; rintro e w' ⟨rfl, hb⟩; obtain ⟨hc, hf⟩ := bcell hb))
  go_quiet ((go_at_call 12; exact quiet_left (Hq.out _)))
  have hB : Below w.heap.size w (w'.drewN nq) := below_drewN (((Below.refl _ _).alloc (Nat.le_refl _) _).trans (hb.mono (by simp))) _
  by_cases hlt : u.size + d.size < s.size
  · go_wp2
    all_goals
      have hd1 : (u ++ d ++ s.extract (u.size + d.size) s.size).data.toList = Fp.outL s.data.toList false off d.data.toList := by
        rw [ba_app, ba_app, ba_tail, HW.out, if_pos (by omega), Hu.out, show u.size + d.size = off + d.size by omega]
      have hl : (Fp.outL s.data.toList false off d.data.toList).length = u.size + d.size + (s.size - (u.size + d.size)) := by
        rw [← hd1, ← Lib.size_eq]; simp
      go_ret2
      refine ⟨?_, hB⟩
      first
      | (rw [capL_no (by omega)]; exact ret_chg rfl rfl)
      | (rw [capL_yes (by omega)]; exact ret_chg hd1 rfl)
  · go_wp2
    go_ret2
    have hd1 : (u ++ d).data.toList = Fp.outL s.data.toList false off d.data.toList := by
      rw [ba_app, HW.out, if_neg (by omega), Hu.out]
    have hl : (Fp.outL s.data.toList false off d.data.toList).length = u.size + d.size := by
      rw [← hd1, ← Lib.size_eq]; simp
    rw [capL_yes (by omega)]
    exact ⟨ret_chg hd1 rfl, hB⟩

theorem rchange_any (s : ByteArray) (call inode : Int) (tr : Bool) (off : Int) (d : ByteArray) (w : World) (hs : s.size ≤ 300) (hd : d.size ≤ 80) :
    Calls Try.prog 7 #[.string s, recV call inode tr off d] w fun e w' => e = .returned (chgV (Fp.chg s.data.toList call inode tr off d.data.toList)) ∧ Below w.heap.size w w' := by
  by_cases hm : Fp.mayB call inode tr off d.data.toList = true
  · rw [chg_def _ _ _ _ _ _ hm]
    obtain ⟨h0, h1, h2, h3, h4⟩ := mayB_off hm
    obtain ⟨o, rfl⟩ := Int.eq_ofNat_of_zero_le h0
    rw [Int.toNat_natCast]
    by_cases hn : d.data.toList = []
    · obtain rfl := ba_nil hn
      cases tr with
      | true => exact rchange_trunc s call inode o w hm (by omega)
      | false => exact rchange_none s call inode o w hs hm
    · cases tr with
      | true => exact absurd (h4 rfl) hn
      | false =>
        have := List.length_pos_iff.2 hn
        rw [← Lib.size_eq] at this h2
        exact rchange_write s call inode o d w hs hm (by omega) this
  · have hm' : Fp.mayB call inode tr off d.data.toList = false := by simpa using hm
    have hfin : Fp.chg s.data.toList call inode tr off d.data.toList = ([], 1) := by unfold Fp.chg; rw [hm']; rfl
    rw [hfin]
    exact rchange_no s call inode tr off d w hd hm'

set_option maxHeartbeats 1000000 in
theorem lives_any (w : World) : Calls Try.prog 10 #[] w fun e w' => e = .returned (.bool true) ∧ Below w.heap.size w w' := by
  have h1 := change_any ⟨#[97, 98, 99]⟩ 0 1 false 5 ⟨#[120, 121]⟩ w (by decide) (by decide)
  have h2 := fun W : World => change_any ⟨#[97, 98, 99]⟩ 0 1 true 1 ⟨#[]⟩ W (by decide) (by decide)
  rw [show chgV (Fp.chg (⟨#[97, 98, 99]⟩ : ByteArray).data.toList 0 1 false 5 (⟨#[120, 121]⟩ : ByteArray).data.toList) = .tuple #[.string ⟨#[97, 98, 99, 0, 0, 120, 121]⟩, .int .i64 0] from rfl] at h1
  have e2 : chgV (Fp.chg (⟨#[97, 98, 99]⟩ : ByteArray).data.toList 0 1 true 1 (⟨#[]⟩ : ByteArray).data.toList) = .tuple #[.string ⟨#[97]⟩, .int .i64 0] := rfl
  rw [e2] at h2
  have H1 := Lib.hid h1; clear h1
  have H2 := Lib.hid h2; clear h2
  clear e2
  go_enter Try.func10, Try.ntmps10
  go_wp2_with fail
  refine H1.out.mono ?_
  rintro e w1 ⟨rfl, hb1⟩
  go_wp2_with fail
  refine (H2.out _).mono ?_
  rintro e w2 ⟨rfl, hb2⟩
  go_wp2
  go_ret
  exact ⟨rfl, hb1.trans (hb2.mono hb1.size)⟩

end Go.Proofs.Ytoadbipcfolheaa
