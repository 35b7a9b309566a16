/- Walks: few, names.May, commonsref05.May. -/
import Derived.Test.YtbpejjmfdhkfhaaGreatDoorRows
import Derived.Test.YtbpejjmfdhkfhaaGreatDoorLem
import Derived.WalkSpells
import Derived.WalkLawsBesides
import Derived.Lib.OthersKept
import Derived.Lib.Hide
import Derived.BigQuiet
import Derived.Deep.QuietTactic
set_option linter.unusedVariables false
set_option linter.unusedSimpArgs false
namespace Go.Proofs.YtbpejjmfdhkfhaaGreatDoor
open Go.RowKit

/-- is it the number of a letter of a name -/
def okr (r : Nat) : Bool := (decide (97 ≤ r) && decide (r ≤ 122)) || (decide (48 ≤ r) && decide (r ≤ 57)) || r == 46 || r == 95 || r == 45
theorem okr_lt {r : Nat} (h : okr r = true) : r < 128 := by
  unfold okr at h
  simp only [Bool.or_eq_true, Bool.and_eq_true, decide_eq_true_eq, beq_iff_eq] at h
  omega
theorem okc_okr (c : UInt8) : Np.okc c = okr c.toNat := by
  have h46 : (c == 46) = (c.toNat == 46) := by rw [Bool.eq_iff_iff]; simp [← UInt8.toNat_inj]
  have h95 : (c == 95) = (c.toNat == 95) := by rw [Bool.eq_iff_iff]; simp [← UInt8.toNat_inj]
  have h45 : (c == 45) = (c.toNat == 45) := by rw [Bool.eq_iff_iff]; simp [← UInt8.toNat_inj]
  unfold Np.okc okr
  rw [h46, h95, h45]

theorem take_snoc (s : ByteArray) (k : Nat) (h : k < s.size) : s.data.toList.take (k + 1) = s.data.toList.take k ++ [s[k]] := by
  rw [List.take_succ_eq_append_getElem (by simpa using h)]; rfl
theorem all_next {s : ByteArray} {pos : Nat} (h : (s.data.toList.take pos).all Np.okc = true) (hp : pos < s.size) (hr : okr (Utf8.decode s pos).1 = true) :
    (Utf8.decode s pos).2 = 1 ∧ (s.data.toList.take (pos + 1)).all Np.okc = true := by
  have ha : (s[pos]'hp).toNat < 128 := by
    rcases Nat.lt_or_ge (s[pos]'hp).toNat 128 with h1 | h1
    · exact h1
    · have := (decode_high s pos hp h1).1
      have := okr_lt hr
      omega
  rw [decode_ascii s pos hp ha] at hr ⊢
  refine ⟨rfl, ?_⟩
  rw [take_snoc s pos hp, List.all_append, h, Bool.true_and, List.all_cons, List.all_nil, Bool.and_true, okc_okr]
  exact hr
theorem all_stop {s : ByteArray} {pos : Nat} (hp : pos < s.size) (hr : okr (Utf8.decode s pos).1 = false) : Np.nameB s.data.toList = false := by
  have hn : Np.okc (s[pos]'hp) = false := by
    rw [okc_okr]
    rcases Nat.lt_or_ge (s[pos]'hp).toNat 128 with h1 | h1
    · rw [decode_ascii s pos hp h1] at hr; exact hr
    · cases h : okr (s[pos]'hp).toNat with
      | false => rfl
      | true => have := okr_lt h; omega
  have hm : (s[pos]'hp) ∈ s.data.toList := by simp [ByteArray.getElem_eq_getElem_data]
  have : s.data.toList.all Np.okc = false := by
    rw [List.all_eq_false]
    exact ⟨_, hm, by rw [hn]; simp⟩
  unfold Np.nameB
  rw [this]; rfl
theorem all_end {s : ByteArray} {pos : Nat} (h : (s.data.toList.take pos).all Np.okc = true) (hp : ¬ pos < s.size) :
    Np.nameB s.data.toList = (!s.data.toList.isEmpty && decide (s.data.toList.length ≤ 12) && !(s.data.toList == [46]) && !(s.data.toList == [46, 46])) := by
  rw [List.take_of_length_le (by rw [← Lib.size_eq]; omega)] at h
  unfold Np.nameB
  rw [h, Bool.true_and]

set_option maxHeartbeats 1000000 in
theorem may_any (s : ByteArray) (w : World) (hs : s.size ≤ 9223372036854775807) :
    Calls Tryz.prog 87 #[.string s] w fun e w' => e = .returned (.bool (Np.nameB s.data.toList)) ∧ Below w.heap.size w w' := by
  go_enter Tryz.func87, Tryz.ntmps87
  go_wp2
  go_loopw [] (fun wr => ∃ pos : Nat, wr.heap[w.heap.size]? = some (.stringIter s pos) ∧ Below w.heap.size w wr ∧ Hid ((s.data.toList.take pos).all Np.okc = true)) (fun wr => s.size - wr.iterPos w.heap.size)
  case atStart =>
    refine ⟨0, ?_, (Below.refl _ w).alloc (Nat.le_refl _) _, by show (s.data.toList.take 0).all Np.okc = true; simp⟩
    have := World.iter_heap w s 0
    simpa using this
  case round =>
    obtain ⟨pos, hit, hbw, hok⟩ := hrel
    by_cases hp : pos < s.size
    · have hnx : ∀ ty, (Instr.next (.pointer (some ⟨w.heap.size, 0, none⟩)) true ty).run Tryz.prog wr = _ := fun ty => Lib.run_next_any_at wr w.heap.size s pos ty hit hp
      have hbw2 := Lib.below_iterAt hbw (k := w.heap.size) (by omega) s (pos + (Utf8.decode s pos).2)
      have hit2 := Lib.iterAt_heap wr w.heap.size s pos (pos + (Utf8.decode s pos).2) hit
      obtain ⟨r, hr⟩ : ∃ r, r = (Utf8.decode s pos).1 := ⟨_, rfl⟩
      have Hr := Lib.hid hr
      rw [← hr] at hnx
      clear hr
      go_wp2
      all_goals first
        | (have hk : okr r = true := by
             (simp only [okr, Bool.or_eq_true, Bool.and_eq_true, decide_eq_true_eq, beq_iff_eq]
              try simp only [Bool.not_eq_eq_eq_not, Bool.not_true, Bool.not_false, decide_eq_true_eq, decide_eq_false_iff_not, bne_iff_ne, bne_eq_false_iff_eq, ne_eq] at *
              omega)
           rw [Hr.out] at hk
           obtain ⟨h1, h2⟩ := all_next hok.out hp hk
           go_roundw
           case rel => exact ⟨_, hit2, hbw2, by rw [h1]; exact h2⟩
           case measure =>
             rw [World.iterPos, World.iterPos, hit2, hit]
             show s.size - (pos + (Utf8.decode s pos).2) < s.size - pos
             omega)
        | (have hk : okr r = false := by
             (rw [Bool.eq_false_iff]
              simp only [okr, ne_eq, Bool.or_eq_true, Bool.and_eq_true, decide_eq_true_eq, beq_iff_eq]
              try simp only [Bool.not_eq_eq_eq_not, Bool.not_true, Bool.not_false, decide_eq_true_eq, decide_eq_false_iff_not, bne_iff_ne, bne_eq_false_iff_eq, ne_eq] at *
              omega)
           rw [Hr.out] at hk
           go_ret
           exact ⟨ret_bool (all_stop hp hk).symm, hbw2⟩)
    · have hnx : ∀ ty, (Instr.next (.pointer (some ⟨w.heap.size, 0, none⟩)) true ty).run Tryz.prog wr = _ := fun ty => Lib.run_next_end_at wr w.heap.size s pos ty hit hp
      have hend := all_end hok.out hp
      rw [← Lib.toList_data, show s.toList.length = s.size by rw [Lib.toList_data, ← Lib.size_eq]] at hend
      have Hend := Lib.hid hend
      clear hend
      go_wp2
      all_goals
        go_ret
        refine ⟨ret_bool ?_, hbw⟩
        rw [← Lib.toList_data, Hend.out]
        generalize s.toList = l at *
        first
          | (have h : l = [] := by assumption
             rw [h]; rfl)
          | (have h : l = [46] := by assumption
             rw [h]; simp; done)
          | (have h : (s.size : Int) ≤ 12 := by assumption
             rw [decide_eq_true (by omega : s.size ≤ 12)]; simp; done)
          | (rw [decide_eq_false (by omega : ¬ s.size ≤ 12)]; simp; done)

theorem nameB_no (l : List UInt8) (h : l.isEmpty = true ∨ 12 < l.length ∨ l = [46] ∨ l = [46, 46]) : Np.nameB l = false := by
  unfold Np.nameB
  rcases h with h | h | h | h
  · rw [h]; simp
  · rw [decide_eq_false (by omega : ¬ l.length ≤ 12)]; simp
  · rw [h]; simp
  · rw [h]; simp
theorem nameB_yes (l : List UInt8) (h1 : l.isEmpty = false) (h2 : l.length ≤ 12) (h3 : l ≠ [46]) (h4 : l ≠ [46, 46]) : Np.nameB l = l.all Np.okc := by
  unfold Np.nameB
  rw [h1, decide_eq_true h2, beq_eq_false_iff_ne.2 h3, beq_eq_false_iff_ne.2 h4]; simp
theorem okc_num {s : ByteArray} {k : Nat} (hp : k < s.size) {b : Bool} (h : okr (s[k]'hp).toNat = b) : (s.data.toList.take (k + 1)).all Np.okc = ((s.data.toList.take k).all Np.okc && b) := by
  rw [take_snoc s k hp, List.all_append, List.all_cons, List.all_nil, Bool.and_true, okc_okr, h]
theorem all_take_false {l : List UInt8} {k : Nat} (h : (l.take k).all Np.okc = false) : l.all Np.okc = false := by
  rw [List.all_eq_false] at h ⊢
  obtain ⟨x, hx, h2⟩ := h
  exact ⟨x, List.mem_of_mem_take hx, h2⟩

set_option maxHeartbeats 1000000 in
theorem rmay_any (s : ByteArray) (w : World) (hs : s.size ≤ 9223372036854775807) :
    Calls Tryz.prog 80 #[.string s] w fun e w' => e = .returned (.bool (Np.nameB s.data.toList)) ∧ w = w' := by
  have hsz : s.toList.length = s.size := by rw [Lib.toList_data, ← Lib.size_eq]
  have Hsz := Lib.hid hsz; clear hsz
  rw [← Lib.toList_data]
  by_cases h0 : s.size < 1
  · have hb := nameB_no s.toList (by left; have := Hsz.out; cases h : s.toList with | nil => rfl | cons _ _ => rw [h] at this; simp at this; omega)
    rw [hb]; clear hb
    go_enter Tryz.func80, Tryz.ntmps80
    go_wp2
    go_ret
    exact ⟨rfl, rfl⟩
  by_cases h1 : 12 < s.size
  · have hb := nameB_no s.toList (by right; left; have := Hsz.out; omega)
    rw [hb]; clear hb
    go_enter Tryz.func80, Tryz.ntmps80
    go_wp2
    go_ret
    exact ⟨rfl, rfl⟩
  by_cases h2 : s.toList = [46]
  · have hb := nameB_no s.toList (by right; right; left; exact h2)
    rw [hb]; clear hb
    go_enter Tryz.func80, Tryz.ntmps80
    go_wp2
    go_ret
    exact ⟨rfl, rfl⟩
  by_cases h3 : s.toList = [46, 46]
  · have hb := nameB_no s.toList (by right; right; right; exact h3)
    rw [hb]; clear hb
    go_enter Tryz.func80, Tryz.ntmps80
    go_wp2
    go_ret
    exact ⟨rfl, rfl⟩
  have hb := nameB_yes s.toList (by have := Hsz.out; cases h : s.toList with | nil => rw [h] at this; simp at this; omega | cons _ _ => rfl) (by have := Hsz.out; omega) h2 h3
  rw [Lib.toList_data] at hb ⊢
  have Hb := Lib.hid hb; clear hb
  have h2b : (s.toList == [46]) = false := beq_eq_false_iff_ne.2 h2
  have h3b : (s.toList == [46, 46]) = false := beq_eq_false_iff_ne.2 h3
  clear h2 h3
  go_enter Tryz.func80, Tryz.ntmps80
  go_wp2
  go_loop [3] (fun i => ∃ k : Nat, k ≤ s.size ∧ i = .int .i64 k ∧ Hid ((s.data.toList.take k).all Np.okc = true)) (fun i => s.size - (intOf i).toNat)
  case atStart => exact ⟨0, by omega, rfl, by show (s.data.toList.take 0).all Np.okc = true; simp⟩
  case round =>
    obtain ⟨k, hk, rfl, hok⟩ := hrel
    by_cases hlt : k < s.size
    · go_wp2
      all_goals first
        | (have hk : okr (s[k]'hlt).toNat = true := by
             (simp only [okr, Bool.or_eq_true, Bool.and_eq_true, decide_eq_true_eq, beq_iff_eq]
              try simp only [Bool.not_eq_eq_eq_not, Bool.not_true, Bool.not_false, decide_eq_true_eq, decide_eq_false_iff_not, bne_iff_ne, bne_eq_false_iff_eq, ne_eq, beq_iff_eq, beq_eq_false_iff_ne] at *
              omega)
           go_round
           case rel => exact ⟨k + 1, by omega, by go_num, by show _ = _; rw [okc_num hlt hk, hok.out]; rfl⟩
           case measure => simp [intOf]; omega)
        | (have hk : okr (s[k]'hlt).toNat = false := by
             (rw [Bool.eq_false_iff]
              simp only [okr, ne_eq, Bool.or_eq_true, Bool.and_eq_true, decide_eq_true_eq, beq_iff_eq]
              try simp only [Bool.not_eq_eq_eq_not, Bool.not_true, Bool.not_false, decide_eq_true_eq, decide_eq_false_iff_not, bne_iff_ne, bne_eq_false_iff_eq, ne_eq, beq_iff_eq, beq_eq_false_iff_ne] at *
              omega)
           go_ret
           refine ⟨ret_bool ?_, rfl⟩
           rw [Hb.out, all_take_false (k := k + 1) (by rw [okc_num hlt hk]; simp)])
    · go_wp2
      go_ret
      refine ⟨ret_bool ?_, rfl⟩
      have := hok.out
      rw [List.take_of_length_le (by rw [← Lib.size_eq]; omega)] at this
      rw [Hb.out, this]

end Go.Proofs.YtbpejjmfdhkfhaaGreatDoor

/- Walks: the path test, slices.IndexFunc, slices.ContainsFunc at it, commonsref05.Same. -/
namespace Go.Proofs.YtbpejjmfdhkfhaaGreatDoor
open Go.RowKit

/-- a list of texts that lies in memory from block B on, and may be written -/
def Strs (w : World) (B : Nat) (A : Option Addr) (L : List (List UInt8)) : Prop :=
  L = [] ∨ ∃ b o, A = some ⟨b, o, none⟩ ∧ B ≤ b ∧ b < w.heap.size ∧ (∀ j x, L[j]? = some x → w.cell? ⟨b, o + j, none⟩ = some (.string ⟨x.toArray⟩)) ∧ ∀ j, w.frozen? ⟨b, j, none⟩ = false
theorem Strs.keep {w w' : World} {B : Nat} {A : Option Addr} {L : List (List UInt8)} (h : Strs w B A L) (hb : Below w.heap.size w w') : Strs w' B A L := by
  rcases h with h | ⟨b, o, h1, h2, h3, h4, h5⟩
  · exact Or.inl h
  · have := hb.size
    exact Or.inr ⟨b, o, h1, h2, by omega, fun j x hx => (hb.cell (p := ⟨b, o + j, none⟩) h3).trans (h4 j x hx), fun j => (hb.frozen (p := ⟨b, j, none⟩) h3).trans (h5 j)⟩
theorem Strs.low {w : World} {B B' : Nat} {A : Option Addr} {L : List (List UInt8)} (h : Strs w B A L) (hB : B' ≤ B) : Strs w B' A L := by
  rcases h with h | ⟨b, o, h1, h2, h3, h4⟩
  · exact Or.inl h
  · exact Or.inr ⟨b, o, h1, by omega, h3, h4⟩
theorem Strs.drewN {w : World} {B : Nat} {A : Option Addr} {L : List (List UInt8)} (h : Strs w B A L) (n : Nat) : Strs (w.drewN n) B A L := h

set_option maxHeartbeats 400000 in
theorem lit_any (s : ByteArray) (w : World) (hs : s.size ≤ 9223372036854775807) :
    Calls Tryz.prog 86 #[.string s] w fun e w' => e = .returned (.bool (!Np.nameB s.data.toList)) ∧ Below w.heap.size w w' := by
  go_enter Tryz.func86, Tryz.ntmps86
  go_wp2_with (go_at_call 87; refine (may_any s _ hs).mono ?_; rintro e w' ⟨rfl, hb⟩)
  go_ret
  exact ⟨rfl, by assumption⟩

theorem all_step {L : List (List UInt8)} {k : Nat} {x : List UInt8} (h : (L.take k).all Np.nameB = true) (hx : L[k]? = some x) : (L.take (k + 1)).all Np.nameB = Np.nameB x := by
  rw [List.take_add_one, hx, List.all_append, h]; simp

/-- the literal at a list of bytes, its answer decided -/
theorem lit_l (x : List UInt8) (b : Bool) (h : Np.nameB x = b) (w : World) (hs : x.length ≤ 1000000) :
    Calls Tryz.prog 86 #[.string ⟨x.toArray⟩] w fun e w' => e = .returned (.bool (!b)) ∧ Below w.heap.size w w' := by
  have := lit_any ⟨x.toArray⟩ w (by rw [Lib.size_eq]; show x.length ≤ _; omega)
  rw [show (⟨x.toArray⟩ : ByteArray).data.toList = x from rfl, h] at this
  exact this

def IdxPost (L : List (List UInt8)) (w : World) (e : Ending) (w' : World) : Prop := ∃ r : Int, e = .returned (.int .i64 r) ∧ decide (0 ≤ r) = !L.all Np.nameB ∧ Below w.heap.size w w'
theorem all_found {L : List (List UInt8)} {k : Nat} {x : List UInt8} (hx : L[k]? = some x) (h : Np.nameB x = false) : L.all Np.nameB = false := by
  rw [List.all_eq_false]
  exact ⟨x, List.mem_of_getElem? hx, by rw [h]; simp⟩

set_option maxHeartbeats 1000000 in
theorem index_any (A : Option Addr) (L : List (List UInt8)) (c : Nat) (B : Nat) (w : World) (hL : L.length ≤ 1000000) (hsz : ∀ x ∈ L, x.length ≤ 1000000) (hS : Strs w B A L) :
    Calls Tryz.prog 100 #[.slice A L.length c, .func (.func 86) #[] #[]] w (IdxPost L w) := by
  have HS := Lib.hid hS; clear hS
  have HZ := Lib.hid hsz; clear hsz
  go_enter Tryz.func100, Tryz.ntmps100
  go_wp2
  go_loopw [5, 8] (fun _ i wr => ∃ k : Nat, k ≤ L.length ∧ i = .int .i64 k ∧ Hid ((L.take k).all Np.nameB = true) ∧ Below w.heap.size w wr) (fun _ i _ => L.length - (intOf i).toNat)
  case atStart => exact ⟨0, by omega, rfl, by show (L.take 0).all _ = true; simp, Below.refl _ _⟩
  case round =>
    obtain ⟨k, hk, rfl, hok, hbw⟩ := hrel
    by_cases hlt : k < L.length
    · obtain ⟨x, hx⟩ : ∃ x, L[k]? = some x := ⟨_, List.getElem?_eq_getElem hlt⟩
      rcases HS.out with h | ⟨b, o, rfl, h2, h3, h4, _⟩
      · subst h; simp at hlt
      have hc : wr.cell? ⟨b, o + k, none⟩ = some (.string ⟨x.toArray⟩) := (hbw.cell (p := ⟨b, o + k, none⟩) h3).trans (h4 k x hx)
      clear h4
      have hxl := HZ.out x (List.mem_of_getElem? hx)
      have Hx := Lib.hid hx; clear hx
      by_cases hn : Np.nameB x = true
      · have Hn := Lib.hid hn; clear hn
        go_wp2_with fail
        refine (lit_l x true Hn.out _ hxl).mono ?_
        rintro e w2 ⟨rfl, hb⟩
        go_wp2
        go_roundw
        case rel => exact ⟨k + 1, by omega, by go_num, by show _ = _; rw [all_step hok.out Hx.out, Hn.out], hbw.trans (hb.mono hbw.size)⟩
        case measure => simp [intOf]; omega
      · have hn' : Np.nameB x = false := by simpa using hn
        have Hn := Lib.hid hn'; clear hn hn'
        go_wp2_with fail
        refine (lit_l x false Hn.out _ hxl).mono ?_
        rintro e w2 ⟨rfl, hb⟩
        go_wp2
        go_ret
        refine ⟨_, rfl, ?_, hbw.trans (hb.mono hbw.size)⟩
        rw [all_found Hx.out Hn.out]; simp
    · go_wp2
      go_ret
      refine ⟨_, rfl, ?_, hbw⟩
      have := hok.out
      rw [List.take_of_length_le (by omega)] at this
      rw [this]; rfl

set_option maxHeartbeats 400000 in
theorem contains_any (A : Option Addr) (L : List (List UInt8)) (c : Nat) (B : Nat) (w : World) (hL : L.length ≤ 1000000) (hsz : ∀ x ∈ L, x.length ≤ 1000000) (hS : Strs w B A L) :
    Calls Tryz.prog 85 #[.slice A L.length c, .func (.func 86) #[] #[]] w fun e w' => e = .returned (.bool (!L.all Np.nameB)) ∧ Below w.heap.size w w' := by
  have h := fun W => index_any A L c B W hL hsz
  have H := Lib.hid h; clear h
  have HS := Lib.hid hS; clear hS
  clear hsz
  go_enter Tryz.func85, Tryz.ntmps85
  go_wp2_with fail
  refine (H.out _ HS.out).mono ?_
  rintro e w2 ⟨r, rfl, hr, hb⟩
  have Hr := Lib.hid hr; clear hr
  go_wp2
  go_ret
  exact ⟨ret_bool Hr.out, hb⟩

/-! two lists held against each other -/
theorem take_both {L M : List (List UInt8)} {k : Nat} {x y : List UInt8} (h : L.take k = M.take k) (hx : L[k]? = some x) (hy : M[k]? = some y) : (L.take (k + 1) = M.take (k + 1)) ↔ x = y := by
  rw [List.take_add_one, List.take_add_one, hx, hy, h]
  simp

set_option maxHeartbeats 1000000 in
theorem same_any (A A' : Option Addr) (L M : List (List UInt8)) (c c' : Nat) (B : Nat) (w : World) (hL : L.length ≤ 1000000) (hM : M.length ≤ 1000000) (hS : Strs w B A L) (hS' : Strs w B A' M) :
    Calls Tryz.prog 47 #[.slice A L.length c, .slice A' M.length c'] w fun e w' => e = .returned (.bool (decide (L = M))) ∧ Below w.heap.size w w' := by
  have HS := Lib.hid hS; clear hS
  have HS' := Lib.hid hS'; clear hS'
  by_cases hne : L.length = M.length
  · obtain ⟨n, hn⟩ : ∃ n, n = L.length := ⟨_, rfl⟩
    rw [← hne, ← hn]
    have Hn := Lib.hid hn
    have Hm := Lib.hid (hn.trans hne)
    have hn1 : n ≤ 1000000 := by omega
    clear hn hne hL hM
    obtain ⟨r, hr⟩ : ∃ r, r = decide (L = M) := ⟨_, rfl⟩
    rw [← hr]
    have Hr := Lib.hid hr; clear hr
    go_enter Tryz.func47, Tryz.ntmps47
    go_wp2
    go_loopw [5] (fun i wr => ∃ k : Nat, k ≤ n ∧ i = .int .i64 k ∧ Hid (L.take k = M.take k) ∧ Below w.heap.size w wr) (fun i _ => n - (intOf i).toNat)
    case atStart => exact ⟨0, by omega, rfl, by show L.take 0 = M.take 0; simp, Below.refl _ _⟩
    case round =>
      obtain ⟨k, hk, rfl, hok, hbw⟩ := hrel
      by_cases hlt : k < n
      · have hkL : k < L.length := by have := Hn.out; omega
        have hkM : k < M.length := by have := Hm.out; omega
        obtain ⟨x, hx⟩ : ∃ x, L[k]? = some x := ⟨_, List.getElem?_eq_getElem hkL⟩
        obtain ⟨y, hy⟩ : ∃ y, M[k]? = some y := ⟨_, List.getElem?_eq_getElem hkM⟩
        rcases HS.out with h | ⟨b, o, rfl, h2, h3, h4, _⟩
        · subst h; simp at hkL
        rcases HS'.out with h | ⟨b', o', rfl, h2', h3', h4', _⟩
        · subst h; simp at hkM
        have hc : wr.cell? ⟨b, o + k, none⟩ = some (.string ⟨x.toArray⟩) := (hbw.cell (p := ⟨b, o + k, none⟩) h3).trans (h4 k x hx)
        have hc' : wr.cell? ⟨b', o' + k, none⟩ = some (.string ⟨y.toArray⟩) := (hbw.cell (p := ⟨b', o' + k, none⟩) h3').trans (h4' k y hy)
        have hiff := take_both hok.out hx hy
        have Hiff := Lib.hid hiff
        have Hx := Lib.hid hx
        have Hy := Lib.hid hy
        clear h4 h4' hx hy hiff hkL hkM
        have hk1 : (0 : Int) ≤ k := by omega
        have hk2 : (k : Int) < n := by omega
        go_wp2
        go_quiet (fail)
        go_wp2
        · have hne : (!x == y) = true := by assumption
          have hxy : ¬ x = y := by simpa using hne
          go_ret
          refine ⟨ret_bool ?_, below_drewN hbw _⟩
          rw [Hr.out]
          symm
          exact decide_eq_false fun h => hxy (Hiff.out.1 (by rw [h]))
        · have hne : (!x == y) = false := by assumption
          have hxy : x = y := by simpa using hne
          go_roundw
          case rel => exact ⟨k + 1, by omega, by go_num, Hiff.out.2 hxy, below_drewN hbw _⟩
          case measure => simp [intOf]; omega
      · go_wp2
        go_ret
        refine ⟨ret_bool ?_, hbw⟩
        have := hok.out
        rw [List.take_of_length_le (by have := Hn.out; omega), List.take_of_length_le (by have := Hm.out; omega)] at this
        rw [Hr.out, decide_eq_true this]
  · have hne' : ((L.length : Int) != M.length) = true := by rw [bne_iff_ne]; omega
    have hd : decide (L = M) = false := decide_eq_false fun h => hne (by rw [h])
    rw [hd]
    clear hd hne
    go_enter Tryz.func47, Tryz.ntmps47
    go_wp2
    go_ret
    exact ⟨rfl, Below.refl _ _⟩

end Go.Proofs.YtbpejjmfdhkfhaaGreatDoor
