/- Walks: names.Path over the library's Split. -/
import Derived.Test.YtoadbipcfolheaaDoorNamesWalkB
import Derived.Test.YtoadbipcfolheaaDoorShelf
import Derived.Lib.SplitLaws
namespace Go.Proofs.YtoadbipcfolheaaDoor
open Go.RowKit

theorem split_one : ∀ l : List UInt8, Lib.splitK [47] 0 (Lib.count l [47]) l = Np.splitS l
  | [] => by rw [Lib.count_miss (by simp [Lib.index])]; rfl
  | b :: l => by
    have ih := split_one l
    by_cases h : b = 47
    · subst h
      have hix : Lib.index (47 :: l) [47] = ((0 : Nat) : Int) := by rw [Lib.index]; simp [List.isPrefixOf]
      rw [Lib.count_cons_eq, Nat.add_comm, Lib.splitK, hix]
      simp only [Np.splitS, if_true]
      rw [if_neg (by simp)]
      simp [ih]
    · have hp : ([47] : List UInt8).isPrefixOf (b :: l) = false := by simp [List.isPrefixOf, Ne.symm h]
      have hix : Lib.index (b :: l) [47] = if Lib.index l [47] == -1 then -1 else Lib.index l [47] + 1 := by rw [Lib.index, hp]; simp
      rw [Lib.count_cons_ne b 47 l h]
      rw [Np.splitS, if_neg h, ← ih]
      cases hk : Lib.count l [47] with
      | zero => simp [Lib.splitK]
      | succ k =>
        by_cases hm : Lib.index l [47] = -1
        · rw [Lib.count_miss hm] at hk; cases hk
        · have hge := Lib.index_ge l [47]
          obtain ⟨i, hi⟩ : ∃ i : Nat, Lib.index l [47] = i := ⟨(Lib.index l [47]).toNat, by omega⟩
          have hix' : Lib.index (b :: l) [47] = ((i + 1 : Nat) : Int) := by rw [hix, if_neg (fun e => hm (beq_iff_eq.1 e)), hi]; omega
          rw [Lib.splitK, Lib.splitK, hix', hi, if_neg (by simp <;> omega), if_neg (by simp <;> omega)]
          simp

theorem split_len : ∀ l : List UInt8, (Np.splitS l).length ≤ l.length + 1
  | [] => by simp [Np.splitS]
  | c :: r => by
    have := split_len r
    rw [Np.splitS_eq r] at this
    unfold Np.splitS
    split
    · rw [Np.splitS_eq r]; simp at this ⊢; omega
    · rw [Np.splitS_eq r]; simp at this ⊢; omega

theorem frozen_new (w : World) (c : Array Value) (t : TypeId) (j : Nat) : (w.alloc (.cells c t)).frozen? ⟨w.heap.size, j, none⟩ = false := by
  unfold World.frozen?
  rw [heap_alloc_new]
  simp
/-- strings.Split at a slash -/
theorem split_any (s : ByteArray) (m : Int) (w : World) (hs : s.size ≤ 100000) (hm : w.cell? ⟨0, 0, none⟩ = some (.int .i64 m)) :
    Calls Tryd.prog 26 #[.string s, .string ⟨#[47]⟩] w fun e w' =>
      e = .returned (.slice (some ⟨w.heap.size, 0, none⟩) (Np.splitS s.data.toList).length (Np.splitS s.data.toList).length) ∧
      (∀ j x, (Np.splitS s.data.toList)[j]? = some x → w'.cell? ⟨w.heap.size, j, none⟩ = some (.string ⟨x.toArray⟩)) ∧ (∀ j, w'.frozen? ⟨w.heap.size, j, none⟩ = false) ∧ w.heap.size < w'.heap.size ∧ Below w.heap.size w w' := by
  have h := Tryd.strings_Split s ⟨#[47]⟩ m w (by omega) hm (by decide)
  refine h.mono fun e w' ⟨he, hw⟩ => ?_
  have hd : (Lib.splitB ⟨#[47]⟩ 0 (Lib.countB s ⟨#[47]⟩) s).map (·.data.toList) = Np.splitS s.data.toList := by
    rw [Lib.splitB_data]
    exact split_one _
  have hl : (Lib.splitB ⟨#[47]⟩ 0 (Lib.countB s ⟨#[47]⟩) s).length = Lib.countB s ⟨#[47]⟩ + 1 := Lib.splitB_all _ (by decide) 0 _ s rfl
  have hl2 : (Np.splitS s.data.toList).length = Lib.countB s ⟨#[47]⟩ + 1 := by rw [← hd, List.length_map, hl]
  refine ⟨by rw [hl2]; exact he, ?_, ?_, ?_, ?_⟩
  · intro j x hx
    rw [← hd, List.getElem?_map] at hx
    cases hj : (Lib.splitB ⟨#[47]⟩ 0 (Lib.countB s ⟨#[47]⟩) s)[j]? with
    | none => rw [hj] at hx; cases hx
    | some y =>
      rw [hj] at hx
      have hxy : y.data.toList = x := Option.some.inj hx
      rw [hw, World.cell?_alloc_new]
      rw [List.getElem?_toArray, List.getElem?_map, hj, ← hxy, ba_mk]
      rfl
  · intro j
    rw [hw]
    exact frozen_new _ _ _ _
  · rw [hw]; simp
  · rw [hw]; exact (Below.refl _ _).alloc (Nat.le_refl _) _

/-! names.Path -/
theorem pathL_split (l : List UInt8) (h : l ≠ [47]) : Np.pathL l = if decide (2 ≤ (Np.splitS l).length) && decide ((Np.splitS l).length ≤ 7) && (Np.headS l).isEmpty && (Np.tailS l).all Np.nameB then some (Np.tailS l) else none := by
  rw [Np.splitS_eq l]
  cases l with
  | nil => rfl
  | cons c r =>
    by_cases hc : c = 47
    · subst hc
      have hr : r ≠ [] := fun e => h (by rw [e])
      rw [Np.pathL, if_pos rfl, if_neg hr]
      have e1 : Np.headS (47 :: r) = [] := by rw [Np.headS, if_pos rfl]
      have e2 : Np.tailS (47 :: r) = Np.splitS r := by rw [Np.tailS, if_pos rfl]
      rw [e1, e2]
      have h1 : 1 ≤ (Np.splitS r).length := by rw [Np.splitS_eq]; simp
      have e : (decide (2 ≤ (([] : List UInt8) :: Np.splitS r).length) && decide ((([] : List UInt8) :: Np.splitS r).length ≤ 7) && ([] : List UInt8).isEmpty && (Np.splitS r).all Np.nameB) = (decide ((Np.splitS r).length ≤ 6) && (Np.splitS r).all Np.nameB) := by
        congr 1
        rw [Bool.eq_iff_iff]
        simp only [List.length_cons, List.isEmpty_nil, Bool.and_true, Bool.and_eq_true, decide_eq_true_eq]
        omega
      rw [e]
    · rw [Np.pathL, if_neg hc]
      have e1 : Np.headS (c :: r) = c :: Np.headS r := by rw [Np.headS, if_neg hc]
      rw [e1]
      simp
theorem tailS_get {l : List UInt8} {j : Nat} : (Np.tailS l)[j]? = (Np.splitS l)[j + 1]? := by rw [Np.splitS_eq l]; simp
theorem pathL_names {l : List UInt8} {L : List (List UInt8)} (h : Np.pathL l = some L) : L.length ≤ 6 ∧ ∀ x ∈ L, Np.nameB x = true := by
  have := (Np.pathL_some h).1
  simpa using this
theorem nameB_len {x : List UInt8} (h : Np.nameB x = true) : x.length ≤ 12 := by
  unfold Np.nameB at h
  simp only [Bool.and_eq_true, decide_eq_true_eq] at h
  exact h.1.1.2
theorem split_part_len : ∀ {l : List UInt8} {x : List UInt8}, x ∈ Np.splitS l → x.length ≤ l.length
  | [], x, h => by simp [Np.splitS] at h; simp [h]
  | c :: r, x, h => by
    unfold Np.splitS at h
    split at h
    · rcases List.mem_cons.1 h with rfl | h
      · simp
      · have := split_part_len h; simp; omega
    · rw [Np.splitS_eq r] at h
      rcases List.mem_cons.1 h with rfl | h
      · have := split_part_len (l := r) (x := Np.headS r) (by rw [Np.splitS_eq]; simp)
        simp; exact this
      · have := split_part_len (l := r) (x := x) (by rw [Np.splitS_eq]; simp [h])
        simp; omega

def PathYes (L : List (List UInt8)) (w : World) (e : Ending) (w' : World) : Prop :=
  ∃ A c, e = .returned (.tuple #[.slice A L.length c, .int .i64 0]) ∧ L.length ≤ c ∧ Strs w' w.heap.size A L ∧ Below w.heap.size w w'

set_option maxHeartbeats 1000000 in
theorem path_root (w : World) : Calls Tryd.prog 15 #[.string ⟨#[47]⟩] w (PathYes [] w) := by
  go_enter Tryd.func15, Tryd.ntmps15
  go_wp2
  go_ret2
  exact ⟨_, _, rfl, Nat.le_refl _, Or.inl rfl, Below.refl _ _⟩

set_option maxHeartbeats 1000000 in
theorem path_few (s : ByteArray) (m : Int) (w : World) (hs : s.size ≤ 100000) (hm : w.cell? ⟨0, 0, none⟩ = some (.int .i64 m)) (h47 : (s.toList == [47]) = false)
    (hbad : (Np.splitS s.data.toList).length < 2 ∨ 7 < (Np.splitS s.data.toList).length ∨ (Np.headS s.data.toList).isEmpty = false) :
    Calls Tryd.prog 15 #[.string s] w fun e w' => e = .returned (.tuple #[.slice none 0 0, .int .i64 15]) ∧ Below w.heap.size w w' := by
  have h := split_any s m w hs hm
  have H := Lib.hid h; clear h
  have hl := split_len s.data.toList
  rw [← Lib.size_eq] at hl
  have heq := Np.splitS_eq s.data.toList
  obtain ⟨P, hP⟩ : ∃ P, P = Np.splitS s.data.toList := ⟨_, rfl⟩
  obtain ⟨hd, hhd⟩ : ∃ hd, hd = Np.headS s.data.toList := ⟨_, rfl⟩
  rw [← hP, ← hhd] at hbad
  rw [← hP] at H hl
  have h0 : P[0]? = some hd := by rw [hP, heq, hhd]; rfl
  clear heq hP hhd hm
  have H0 := Lib.hid h0; clear h0
  rcases hbad with hb | hb | hb
  · go_enter Tryd.func15, Tryd.ntmps15
    go_wp2_with fail
    refine H.out.mono ?_
    rintro e w1 ⟨rfl, hc, hf, hz, hB⟩
    go_wp2
    go_ret2
    exact ⟨rfl, hB⟩
  · go_enter Tryd.func15, Tryd.ntmps15
    go_wp2_with fail
    refine H.out.mono ?_
    rintro e w1 ⟨rfl, hc, hf, hz, hB⟩
    go_wp2
    go_ret2
    exact ⟨rfl, hB⟩
  · by_cases h2 : P.length < 2
    · go_enter Tryd.func15, Tryd.ntmps15
      go_wp2_with fail
      refine H.out.mono ?_
      rintro e w1 ⟨rfl, hc, hf, hz, hB⟩
      go_wp2
      go_ret2
      exact ⟨rfl, hB⟩
    · go_enter Tryd.func15, Tryd.ntmps15
      go_wp2_with fail
      refine H.out.mono ?_
      rintro e w1 ⟨rfl, hc, hf, hz, hB⟩
      have c0 := hc 0 hd H0.out
      clear hc
      have hp : 0 < P.length := by omega
      go_wp2
      all_goals (go_ret2; exact ⟨rfl, hB⟩)

set_option maxHeartbeats 1000000 in
theorem path_most_yes (s : ByteArray) (m : Int) (w : World) (hs : s.size ≤ 100000) (hm : w.cell? ⟨0, 0, none⟩ = some (.int .i64 m)) (h47 : (s.toList == [47]) = false)
    (h2 : 2 ≤ (Np.splitS s.data.toList).length) (h7 : (Np.splitS s.data.toList).length ≤ 7) (h0 : (Np.headS s.data.toList).isEmpty = true) (hb : (Np.tailS s.data.toList).all Np.nameB = true) :
    Calls Tryd.prog 15 #[.string s] w (PathYes (Np.tailS s.data.toList) w) := by
  have h := split_any s m w hs hm
  have H := Lib.hid h; clear h
  have heq := Np.splitS_eq s.data.toList
  have hpl : ∀ x ∈ Np.tailS s.data.toList, x.length ≤ 1000000 := fun x hx => by
    have := split_part_len (l := s.data.toList) (x := x) (by rw [heq]; simp [hx])
    rw [← Lib.size_eq] at this
    omega
  have htl : (Np.tailS s.data.toList).length = (Np.splitS s.data.toList).length - 1 := by rw [heq]; simp
  have hsg : ∀ j x, (Np.tailS s.data.toList)[j]? = some x → (Np.splitS s.data.toList)[j + 1]? = some x := fun j x hx => by rw [← tailS_get]; exact hx
  have h00 : (Np.splitS s.data.toList)[0]? = some [] := by
    rw [heq]
    cases h : Np.headS s.data.toList with
    | nil => rfl
    | cons _ _ => rw [h] at h0; cases h0
  obtain ⟨P, hP⟩ : ∃ P, P = Np.splitS s.data.toList := ⟨_, rfl⟩
  obtain ⟨T, hT⟩ : ∃ T, T = Np.tailS s.data.toList := ⟨_, rfl⟩
  rw [← hP] at H h2 h7 htl hsg h00
  rw [← hT] at hpl htl hsg hb ⊢
  clear heq hP hT h0 hm
  have H0 := Lib.hid h00; clear h00
  have Hsg := Lib.hid hsg; clear hsg
  have Hpl := Lib.hid hpl; clear hpl
  have hT1 : T.length ≤ 6 := by omega
  obtain ⟨n, hn⟩ : ∃ n, n = T.length := ⟨_, rfl⟩
  have hPn : P.length = n + 1 := by omega
  rw [hPn] at H
  have Hn := Lib.hid hn
  have hn1 : 1 ≤ n := by omega
  have hn2 : n ≤ 6 := by omega
  clear hn hPn htl h2 h7 hT1
  have Hb := Lib.hid hb; clear hb
  go_enter Tryd.func15, Tryd.ntmps15
  go_wp2_with fail
  refine H.out.mono ?_
  rintro e w1 ⟨rfl, hc, hf, hz, hB⟩
  have c0 := hc 0 _ H0.out
  have hS : Strs w1 w.heap.size (some ⟨w.heap.size, 1, none⟩) T := Or.inr ⟨_, _, rfl, Nat.le_refl _, hz, fun j x hx => by rw [Nat.add_comm]; exact hc (j + 1) x (Hsg.out j x hx), hf⟩
  clear hc hf
  have hcn := contains_any (some ⟨w.heap.size, 1, none⟩) T n w.heap.size w1 (by have := Hn.out; omega) Hpl.out hS
  rw [← Hn.out, Hb.out] at hcn
  have Hcn := Lib.hid hcn; clear hcn
  have HS := Lib.hid hS; clear hS
  have hne : ¬ (n + 1 = 1) := by omega
  go_wp2_with fail
  refine Hcn.out.mono ?_
  rintro e w2 ⟨rfl, hb2⟩
  go_wp2
  go_ret2
  refine ⟨some ⟨w.heap.size, 1, none⟩, n, ?_, by rw [← Hn.out]; exact Nat.le_refl _, HS.out.keep hb2, hB.trans (hb2.mono hB.size)⟩
  rw [← Hn.out]
  rfl

set_option maxHeartbeats 1000000 in
theorem path_most_no (s : ByteArray) (m : Int) (w : World) (hs : s.size ≤ 100000) (hm : w.cell? ⟨0, 0, none⟩ = some (.int .i64 m)) (h47 : (s.toList == [47]) = false)
    (h2 : 2 ≤ (Np.splitS s.data.toList).length) (h7 : (Np.splitS s.data.toList).length ≤ 7) (h0 : (Np.headS s.data.toList).isEmpty = true) (hb : (Np.tailS s.data.toList).all Np.nameB = false) :
    Calls Tryd.prog 15 #[.string s] w fun e w' => e = .returned (.tuple #[.slice none 0 0, .int .i64 15]) ∧ Below w.heap.size w w' := by
  have h := split_any s m w hs hm
  have H := Lib.hid h; clear h
  have heq := Np.splitS_eq s.data.toList
  have hpl : ∀ x ∈ Np.tailS s.data.toList, x.length ≤ 1000000 := fun x hx => by
    have := split_part_len (l := s.data.toList) (x := x) (by rw [heq]; simp [hx])
    rw [← Lib.size_eq] at this
    omega
  have htl : (Np.tailS s.data.toList).length = (Np.splitS s.data.toList).length - 1 := by rw [heq]; simp
  have hsg : ∀ j x, (Np.tailS s.data.toList)[j]? = some x → (Np.splitS s.data.toList)[j + 1]? = some x := fun j x hx => by rw [← tailS_get]; exact hx
  have h00 : (Np.splitS s.data.toList)[0]? = some [] := by
    rw [heq]
    cases h : Np.headS s.data.toList with
    | nil => rfl
    | cons _ _ => rw [h] at h0; cases h0
  obtain ⟨P, hP⟩ : ∃ P, P = Np.splitS s.data.toList := ⟨_, rfl⟩
  obtain ⟨T, hT⟩ : ∃ T, T = Np.tailS s.data.toList := ⟨_, rfl⟩
  rw [← hP] at H h2 h7 htl hsg h00
  rw [← hT] at hpl htl hsg hb
  clear heq hP hT h0 hm
  have H0 := Lib.hid h00; clear h00
  have Hsg := Lib.hid hsg; clear hsg
  have Hpl := Lib.hid hpl; clear hpl
  have hT1 : T.length ≤ 6 := by omega
  obtain ⟨n, hn⟩ : ∃ n, n = T.length := ⟨_, rfl⟩
  have hPn : P.length = n + 1 := by omega
  rw [hPn] at H
  have Hn := Lib.hid hn
  have hn1 : 1 ≤ n := by omega
  have hn2 : n ≤ 6 := by omega
  clear hn hPn htl h2 h7 hT1
  have Hb := Lib.hid hb; clear hb
  go_enter Tryd.func15, Tryd.ntmps15
  go_wp2_with fail
  refine H.out.mono ?_
  rintro e w1 ⟨rfl, hc, hf, hz, hB⟩
  have c0 := hc 0 _ H0.out
  have hS : Strs w1 w.heap.size (some ⟨w.heap.size, 1, none⟩) T := Or.inr ⟨_, _, rfl, Nat.le_refl _, hz, fun j x hx => by rw [Nat.add_comm]; exact hc (j + 1) x (Hsg.out j x hx), hf⟩
  clear hc hf
  have hcn := contains_any (some ⟨w.heap.size, 1, none⟩) T n w.heap.size w1 (by have := Hn.out; omega) Hpl.out hS
  rw [← Hn.out, Hb.out] at hcn
  have Hcn := Lib.hid hcn; clear hcn
  have HS := Lib.hid hS; clear hS
  have hne : ¬ (n + 1 = 1) := by omega
  go_wp2_with fail
  refine Hcn.out.mono ?_
  rintro e w2 ⟨rfl, hb2⟩
  go_wp2
  go_ret2
  exact ⟨rfl, hB.trans (hb2.mono hB.size)⟩

theorem path_yes (s : ByteArray) (L : List (List UInt8)) (m : Int) (w : World) (hs : s.size ≤ 100000) (hm : w.cell? ⟨0, 0, none⟩ = some (.int .i64 m)) (h : Np.pathL s.data.toList = some L) :
    Calls Tryd.prog 15 #[.string s] w (PathYes L w) := by
  by_cases h47 : s.data.toList = [47]
  · rw [h47] at h
    obtain rfl : ([] : List (List UInt8)) = L := Option.some.inj h
    obtain rfl : s = ⟨#[47]⟩ := ba_ext h47
    exact path_root w
  · rw [pathL_split _ h47] at h
    split at h
    · rename_i hc
      simp only [Bool.and_eq_true, decide_eq_true_eq] at hc
      obtain rfl : Np.tailS s.data.toList = L := Option.some.inj h
      exact path_most_yes s m w hs hm (by rw [Lib.toList_data]; exact beq_eq_false_iff_ne.2 h47) hc.1.1.1 hc.1.1.2 hc.1.2 hc.2
    · cases h
theorem path_no (s : ByteArray) (m : Int) (w : World) (hs : s.size ≤ 100000) (hm : w.cell? ⟨0, 0, none⟩ = some (.int .i64 m)) (h : Np.pathL s.data.toList = none) :
    Calls Tryd.prog 15 #[.string s] w fun e w' => e = .returned (.tuple #[.slice none 0 0, .int .i64 15]) ∧ Below w.heap.size w w' := by
  by_cases h47 : s.data.toList = [47]
  · rw [h47] at h; cases h
  · rw [pathL_split _ h47] at h
    have h47' : (s.toList == [47]) = false := by rw [Lib.toList_data]; exact beq_eq_false_iff_ne.2 h47
    by_cases h2 : 2 ≤ (Np.splitS s.data.toList).length
    · by_cases h7 : (Np.splitS s.data.toList).length ≤ 7
      · by_cases h0 : (Np.headS s.data.toList).isEmpty = true
        · by_cases hn : (Np.tailS s.data.toList).all Np.nameB = true
          · rw [decide_eq_true h2, decide_eq_true h7, h0, hn] at h; cases h
          · exact path_most_no s m w hs hm h47' h2 h7 h0 (by simpa using hn)
        · exact path_few s m w hs hm h47' (Or.inr (Or.inr (by simpa using h0)))
      · exact path_few s m w hs hm h47' (Or.inr (Or.inl (by omega)))
    · exact path_few s m w hs hm h47' (Or.inl (by omega))

end Go.Proofs.YtoadbipcfolheaaDoor
