/- Walks: few, names.May, commonsref05.May. -/
import Derived.Test.YtoadbipcfolheaaDoorRows
import Derived.Test.YtoadbipcfolheaaDoorNamesPlain
import Derived.Test.YtoadbipcfolheaaDoorLem
import Derived.WalkSpells
import Derived.WalkLawsBesides
import Derived.Lib.OthersKept
import Derived.Lib.Hide
namespace Go.Proofs.YtoadbipcfolheaaDoor
open Go.RowKit

/-- is it the number of a letter of a name -/
def okr (r : Nat) : Bool := (decide (97 ≤ r) && decide (r ≤ 122)) || (decide (48 ≤ r) && decide (r ≤ 57)) || r == 46 || r == 95 || r == 45
theorem okr_lt {r : Nat} (h : okr r = true) : r < 128 := by
  unfold okr at h
  simp only [Bool.or_eq_true, Bool.and_eq_true, decide_eq_true_eq, beq_iff_eq] at h
  omega
theorem okc_okr (c : UInt8) : Np.okc c = okr c.toNat := by
  have h46 : (c == 46) = (c.toNat == 46) := by rw [Bool.eq_iff_iff]; simp [← UInt8.toNat_inj]
  have h95 : (c == 95) = (c.toNat == 95) := by rw [Bool.eq_iff_iff]; simp [← UInt8.toNat_inj]
  have h45 : (c == 45) = (c.toNat == 45) := by rw [Bool.eq_iff_iff]; simp [← UInt8.toNat_inj]
  unfold Np.okc okr
  rw [h46, h95, h45]

theorem take_snoc (s : ByteArray) (k : Nat) (h : k < s.size) : s.data.toList.take (k + 1) = s.data.toList.take k ++ [s[k]] := by
  rw [List.take_succ_eq_append_getElem (by simpa using h)]; rfl
theorem all_next {s : ByteArray} {pos : Nat} (h : (s.data.toList.take pos).all Np.okc = true) (hp : pos < s.size) (hr : okr (Utf8.decode s pos).1 = true) :
    (Utf8.decode s pos).2 = 1 ∧ (s.data.toList.take (pos + 1)).all Np.okc = true := by
  have ha : (s[pos]'hp).toNat < 128 := by
    rcases Nat.lt_or_ge (s[pos]'hp).toNat 128 with h1 | h1
    · exact h1
    · have := (decode_high s pos hp h1).1
      have := okr_lt hr
      omega
  rw [decode_ascii s pos hp ha] at hr ⊢
  refine ⟨rfl, ?_⟩
  rw [take_snoc s pos hp, List.all_append, h, Bool.true_and, List.all_cons, List.all_nil, Bool.and_true, okc_okr]
  exact hr
theorem all_stop {s : ByteArray} {pos : Nat} (hp : pos < s.size) (hr : okr (Utf8.decode s pos).1 = false) : Np.nameB s.data.toList = false := by
  have hn : Np.okc (s[pos]'hp) = false := by
    rw [okc_okr]
    rcases Nat.lt_or_ge (s[pos]'hp).toNat 128 with h1 | h1
    · rw [decode_ascii s pos hp h1] at hr; exact hr
    · cases h : okr (s[pos]'hp).toNat with
      | false => rfl
      | true => have := okr_lt h; omega
  have hm : (s[pos]'hp) ∈ s.data.toList := by simp [ByteArray.getElem_eq_getElem_data]
  have : s.data.toList.all Np.okc = false := by
    rw [List.all_eq_false]
    exact ⟨_, hm, by rw [hn]; simp⟩
  unfold Np.nameB
  rw [this]; rfl
theorem all_end {s : ByteArray} {pos : Nat} (h : (s.data.toList.take pos).all Np.okc = true) (hp : ¬ pos < s.size) :
    Np.nameB s.data.toList = (!s.data.toList.isEmpty && decide (s.data.toList.length ≤ 12) && !(s.data.toList == [46]) && !(s.data.toList == [46, 46])) := by
  rw [List.take_of_length_le (by rw [← Lib.size_eq]; omega)] at h
  unfold Np.nameB
  rw [h, Bool.true_and]

set_option maxHeartbeats 1000000 in
theorem may_any (s : ByteArray) (w : World) (hs : s.size ≤ 9223372036854775807) :
    Calls Tryd.prog 12 #[.string s] w fun e w' => e = .returned (.bool (Np.nameB s.data.toList)) ∧ Below w.heap.size w w' := by
  go_enter Tryd.func12, Tryd.ntmps12
  go_wp2
  go_loopw [] (fun wr => ∃ pos : Nat, wr.heap[w.heap.size]? = some (.stringIter s pos) ∧ Below w.heap.size w wr ∧ Hid ((s.data.toList.take pos).all Np.okc = true)) (fun wr => s.size - wr.iterPos w.heap.size)
  case atStart =>
    refine ⟨0, ?_, (Below.refl _ w).alloc (Nat.le_refl _) _, by show (s.data.toList.take 0).all Np.okc = true; simp⟩
    have := World.iter_heap w s 0
    simpa using this
  case round =>
    obtain ⟨pos, hit, hbw, hok⟩ := hrel
    by_cases hp : pos < s.size
    · have hnx : ∀ ty, (Instr.next (.pointer (some ⟨w.heap.size, 0, none⟩)) true ty).run Tryd.prog wr = _ := fun ty => Lib.run_next_any_at wr w.heap.size s pos ty hit hp
      have hbw2 := Lib.below_iterAt hbw (k := w.heap.size) (by omega) s (pos + (Utf8.decode s pos).2)
      have hit2 := Lib.iterAt_heap wr w.heap.size s pos (pos + (Utf8.decode s pos).2) hit
      obtain ⟨r, hr⟩ : ∃ r, r = (Utf8.decode s pos).1 := ⟨_, rfl⟩
      have Hr := Lib.hid hr
      rw [← hr] at hnx
      clear hr
      go_wp2
      all_goals first
        | (have hk : okr r = true := by
             (simp only [okr, Bool.or_eq_true, Bool.and_eq_true, decide_eq_true_eq, beq_iff_eq]
              try simp only [Bool.not_eq_eq_eq_not, Bool.not_true, Bool.not_false, decide_eq_true_eq, decide_eq_false_iff_not, bne_iff_ne, bne_eq_false_iff_eq, ne_eq] at *
              omega)
           rw [Hr.out] at hk
           obtain ⟨h1, h2⟩ := all_next hok.out hp hk
           go_roundw
           case rel => exact ⟨_, hit2, hbw2, by rw [h1]; exact h2⟩
           case measure =>
             rw [World.iterPos, World.iterPos, hit2, hit]
             show s.size - (pos + (Utf8.decode s pos).2) < s.size - pos
             omega)
        | (have hk : okr r = false := by
             (rw [Bool.eq_false_iff]
              simp only [okr, ne_eq, Bool.or_eq_true, Bool.and_eq_true, decide_eq_true_eq, beq_iff_eq]
              try simp only [Bool.not_eq_eq_eq_not, Bool.not_true, Bool.not_false, decide_eq_true_eq, decide_eq_false_iff_not, bne_iff_ne, bne_eq_false_iff_eq, ne_eq] at *
              omega)
           rw [Hr.out] at hk
           go_ret
           exact ⟨ret_bool (all_stop hp hk).symm, hbw2⟩)
    · have hnx : ∀ ty, (Instr.next (.pointer (some ⟨w.heap.size, 0, none⟩)) true ty).run Tryd.prog wr = _ := fun ty => Lib.run_next_end_at wr w.heap.size s pos ty hit hp
      have hend := all_end hok.out hp
      rw [← Lib.toList_data, show s.toList.length = s.size by rw [Lib.toList_data, ← Lib.size_eq]] at hend
      have Hend := Lib.hid hend
      clear hend
      go_wp2
      all_goals
        go_ret
        refine ⟨ret_bool ?_, hbw⟩
        rw [← Lib.toList_data, Hend.out]
        generalize s.toList = l at *
        first
          | (have h : l = [] := by assumption
             rw [h]; rfl)
          | (have h : l = [46] := by assumption
             rw [h]; simp; done)
          | (have h : (s.size : Int) ≤ 12 := by assumption
             rw [decide_eq_true (by omega : s.size ≤ 12)]; simp; done)
          | (rw [decide_eq_false (by omega : ¬ s.size ≤ 12)]; simp; done)

theorem nameB_no (l : List UInt8) (h : l.isEmpty = true ∨ 12 < l.length ∨ l = [46] ∨ l = [46, 46]) : Np.nameB l = false := by
  unfold Np.nameB
  rcases h with h | h | h | h
  · rw [h]; simp
  · rw [decide_eq_false (by omega : ¬ l.length ≤ 12)]; simp
  · rw [h]; simp
  · rw [h]; simp
theorem nameB_yes (l : List UInt8) (h1 : l.isEmpty = false) (h2 : l.length ≤ 12) (h3 : l ≠ [46]) (h4 : l ≠ [46, 46]) : Np.nameB l = l.all Np.okc := by
  unfold Np.nameB
  rw [h1, decide_eq_true h2, beq_eq_false_iff_ne.2 h3, beq_eq_false_iff_ne.2 h4]; simp
theorem okc_num {s : ByteArray} {k : Nat} (hp : k < s.size) {b : Bool} (h : okr (s[k]'hp).toNat = b) : (s.data.toList.take (k + 1)).all Np.okc = ((s.data.toList.take k).all Np.okc && b) := by
  rw [take_snoc s k hp, List.all_append, List.all_cons, List.all_nil, Bool.and_true, okc_okr, h]
theorem all_take_false {l : List UInt8} {k : Nat} (h : (l.take k).all Np.okc = false) : l.all Np.okc = false := by
  rw [List.all_eq_false] at h ⊢
  obtain ⟨x, hx, h2⟩ := h
  exact ⟨x, List.mem_of_mem_take hx, h2⟩

set_option maxHeartbeats 1000000 in
theorem rmay_any (s : ByteArray) (w : World) (hs : s.size ≤ 9223372036854775807) :
    Calls Tryd.prog 13 #[.string s] w fun e w' => e = .returned (.bool (Np.nameB s.data.toList)) ∧ w = w' := by
  have hsz : s.toList.length = s.size := by rw [Lib.toList_data, ← Lib.size_eq]
  have Hsz := Lib.hid hsz; clear hsz
  rw [← Lib.toList_data]
  by_cases h0 : s.size < 1
  · have hb := nameB_no s.toList (by left; have := Hsz.out; cases h : s.toList with | nil => rfl | cons _ _ => rw [h] at this; simp at this; omega)
    rw [hb]; clear hb
    go_enter Tryd.func13, Tryd.ntmps13
    go_wp2
    go_ret
    exact ⟨rfl, rfl⟩
  by_cases h1 : 12 < s.size
  · have hb := nameB_no s.toList (by right; left; have := Hsz.out; omega)
    rw [hb]; clear hb
    go_enter Tryd.func13, Tryd.ntmps13
    go_wp2
    go_ret
    exact ⟨rfl, rfl⟩
  by_cases h2 : s.toList = [46]
  · have hb := nameB_no s.toList (by right; right; left; exact h2)
    rw [hb]; clear hb
    go_enter Tryd.func13, Tryd.ntmps13
    go_wp2
    go_ret
    exact ⟨rfl, rfl⟩
  by_cases h3 : s.toList = [46, 46]
  · have hb := nameB_no s.toList (by right; right; right; exact h3)
    rw [hb]; clear hb
    go_enter Tryd.func13, Tryd.ntmps13
    go_wp2
    go_ret
    exact ⟨rfl, rfl⟩
  have hb := nameB_yes s.toList (by have := Hsz.out; cases h : s.toList with | nil => rw [h] at this; simp at this; omega | cons _ _ => rfl) (by have := Hsz.out; omega) h2 h3
  rw [Lib.toList_data] at hb ⊢
  have Hb := Lib.hid hb; clear hb
  have h2b : (s.toList == [46]) = false := beq_eq_false_iff_ne.2 h2
  have h3b : (s.toList == [46, 46]) = false := beq_eq_false_iff_ne.2 h3
  clear h2 h3
  go_enter Tryd.func13, Tryd.ntmps13
  go_wp2
  go_loop [3] (fun i => ∃ k : Nat, k ≤ s.size ∧ i = .int .i64 k ∧ Hid ((s.data.toList.take k).all Np.okc = true)) (fun i => s.size - (intOf i).toNat)
  case atStart => exact ⟨0, by omega, rfl, by show (s.data.toList.take 0).all Np.okc = true; simp⟩
  case round =>
    obtain ⟨k, hk, rfl, hok⟩ := hrel
    by_cases hlt : k < s.size
    · go_wp2
      all_goals first
        | (have hk : okr (s[k]'hlt).toNat = true := by
             (simp only [okr, Bool.or_eq_true, Bool.and_eq_true, decide_eq_true_eq, beq_iff_eq]
              try simp only [Bool.not_eq_eq_eq_not, Bool.not_true, Bool.not_false, decide_eq_true_eq, decide_eq_false_iff_not, bne_iff_ne, bne_eq_false_iff_eq, ne_eq, beq_iff_eq, beq_eq_false_iff_ne] at *
              omega)
           go_round
           case rel => exact ⟨k + 1, by omega, by go_num, by show _ = _; rw [okc_num hlt hk, hok.out]; rfl⟩
           case measure => simp [intOf]; omega)
        | (have hk : okr (s[k]'hlt).toNat = false := by
             (rw [Bool.eq_false_iff]
              simp only [okr, ne_eq, Bool.or_eq_true, Bool.and_eq_true, decide_eq_true_eq, beq_iff_eq]
              try simp only [Bool.not_eq_eq_eq_not, Bool.not_true, Bool.not_false, decide_eq_true_eq, decide_eq_false_iff_not, bne_iff_ne, bne_eq_false_iff_eq, ne_eq, beq_iff_eq, beq_eq_false_iff_ne] at *
              omega)
           go_ret
           refine ⟨ret_bool ?_, rfl⟩
           rw [Hb.out, all_take_false (k := k + 1) (by rw [okc_num hlt hk]; simp)])
    · go_wp2
      go_ret
      refine ⟨ret_bool ?_, rfl⟩
      have := hok.out
      rw [List.take_of_length_le (by rw [← Lib.size_eq]; omega)] at this
      rw [Hb.out, this]

end Go.Proofs.YtoadbipcfolheaaDoor
