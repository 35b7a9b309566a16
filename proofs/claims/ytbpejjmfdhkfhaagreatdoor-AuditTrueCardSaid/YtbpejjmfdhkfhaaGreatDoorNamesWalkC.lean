/- Walks: names.Path over the library's Split. -/
import Derived.Test.YtbpejjmfdhkfhaaGreatDoorNamesWalkA
import Derived.Test.YtbpejjmfdhkfhaaGreatDoorShelf
import Derived.Lib.SplitLaws
set_option linter.unusedVariables false
set_option linter.unusedSimpArgs false
namespace Go.Proofs.YtbpejjmfdhkfhaaGreatDoor
open Go.RowKit

theorem split_one : ∀ l : List UInt8, Lib.splitK [47] 0 (Lib.count l [47]) l = Np.splitS l
  | [] => by rw [Lib.count_miss (by simp [Lib.index])]; rfl
  | b :: l => by
    have ih := split_one l
    by_cases h : b = 47
    · subst h
      have hix : Lib.index (47 :: l) [47] = ((0 : Nat) : Int) := by rw [Lib.index]; simp [List.isPrefixOf]
      rw [Lib.count_cons_eq, Nat.add_comm, Lib.splitK, hix]
      simp only [Np.splitS, if_true]
      rw [if_neg (by simp)]
      simp [ih]
    · have hp : ([47] : List UInt8).isPrefixOf (b :: l) = false := by simp [List.isPrefixOf, Ne.symm h]
      have hix : Lib.index (b :: l) [47] = if Lib.index l [47] == -1 then -1 else Lib.index l [47] + 1 := by rw [Lib.index, hp]; simp
      rw [Lib.count_cons_ne b 47 l h]
      rw [Np.splitS, if_neg h, ← ih]
      cases hk : Lib.count l [47] with
      | zero => simp [Lib.splitK]
      | succ k =>
        by_cases hm : Lib.index l [47] = -1
        · rw [Lib.count_miss hm] at hk; cases hk
        · have hge := Lib.index_ge l [47]
          obtain ⟨i, hi⟩ : ∃ i : Nat, Lib.index l [47] = i := ⟨(Lib.index l [47]).toNat, by omega⟩
          have hix' : Lib.index (b :: l) [47] = ((i + 1 : Nat) : Int) := by rw [hix, if_neg (fun e => hm (beq_iff_eq.1 e)), hi]; omega
          rw [Lib.splitK, Lib.splitK, hix', hi, if_neg (by simp <;> omega), if_neg (by simp <;> omega)]
          simp

theorem split_len : ∀ l : List UInt8, (Np.splitS l).length ≤ l.length + 1
  | [] => by simp [Np.splitS]
  | c :: r => by
    have := split_len r
    rw [Np.splitS_eq r] at this
    unfold Np.splitS
    split
    · rw [Np.splitS_eq r]; simp at this ⊢; omega
    · rw [Np.splitS_eq r]; simp at this ⊢; omega

theorem frozen_new (w : World) (c : Array Value) (t : TypeId) (j : Nat) : (w.alloc (.cells c t)).frozen? ⟨w.heap.size, j, none⟩ = false := by
  unfold World.frozen?
  rw [heap_alloc_new]
  simp
/-- strings.Split at a slash -/
theorem split_any (s : ByteArray) (m : Int) (w : World) (hs : s.size ≤ 100000) (hm : w.cell? ⟨0, 0, none⟩ = some (.int .i64 m)) :
    Calls Tryz.prog 84 #[.string s, .string ⟨#[47]⟩] w fun e w' =>
      e = .returned (.slice (some ⟨w.heap.size, 0, none⟩) (Np.splitS s.data.toList).length (Np.splitS s.data.toList).length) ∧
      (∀ j x, (Np.splitS s.data.toList)[j]? = some x → w'.cell? ⟨w.heap.size, j, none⟩ = some (.string ⟨x.toArray⟩)) ∧ (∀ j, w'.frozen? ⟨w.heap.size, j, none⟩ = false) ∧ w.heap.size < w'.heap.size ∧ Below w.heap.size w w' := by
  have h := Tryz.strings_Split s ⟨#[47]⟩ m w (by omega) hm (by decide)
  refine h.mono fun e w' ⟨he, hw⟩ => ?_
  have hd : (Lib.splitB ⟨#[47]⟩ 0 (Lib.countB s ⟨#[47]⟩) s).map (·.data.toList) = Np.splitS s.data.toList := by
    rw [Lib.splitB_data]
    exact split_one _
  have hl : (Lib.splitB ⟨#[47]⟩ 0 (Lib.countB s ⟨#[47]⟩) s).length = Lib.countB s ⟨#[47]⟩ + 1 := Lib.splitB_all _ (by decide) 0 _ s rfl
  have hl2 : (Np.splitS s.data.toList).length = Lib.countB s ⟨#[47]⟩ + 1 := by rw [← hd, List.length_map, hl]
  refine ⟨by rw [hl2]; exact he, ?_, ?_, ?_, ?_⟩
  · intro j x hx
    rw [← hd, List.getElem?_map] at hx
    cases hj : (Lib.splitB ⟨#[47]⟩ 0 (Lib.countB s ⟨#[47]⟩) s)[j]? with
    | none => rw [hj] at hx; cases hx
    | some y =>
      rw [hj] at hx
      have hxy : y.data.toList = x := Option.some.inj hx
      rw [hw, World.cell?_alloc_new]
      rw [List.getElem?_toArray, List.getElem?_map, hj, ← hxy, ba_mk]
      rfl
  · intro j
    rw [hw]
    exact frozen_new _ _ _ _
  · rw [hw]; simp
  · rw [hw]; exact (Below.refl _ _).alloc (Nat.le_refl _) _

/-! names.Path -/
theorem pathL_split (l : List UInt8) (h : l ≠ [47]) : Np.pathL l = if decide (2 ≤ (Np.splitS l).length) && decide ((Np.splitS l).length ≤ 7) && (Np.headS l).isEmpty && (Np.tailS l).all Np.nameB then some (Np.tailS l) else none := by
  rw [Np.splitS_eq l]
  cases l with
  | nil => rfl
  | cons c r =>
    by_cases hc : c = 47
    · subst hc
      have hr : r ≠ [] := fun e => h (by rw [e])
      rw [Np.pathL, if_pos rfl, if_neg hr]
      have e1 : Np.headS (47 :: r) = [] := by rw [Np.headS, if_pos rfl]
      have e2 : Np.tailS (47 :: r) = Np.splitS r := by rw [Np.tailS, if_pos rfl]
      rw [e1, e2]
      have h1 : 1 ≤ (Np.splitS r).length := by rw [Np.splitS_eq]; simp
      have e : (decide (2 ≤ (([] : List UInt8) :: Np.splitS r).length) && decide ((([] : List UInt8) :: Np.splitS r).length ≤ 7) && ([] : List UInt8).isEmpty && (Np.splitS r).all Np.nameB) = (decide ((Np.splitS r).length ≤ 6) && (Np.splitS r).all Np.nameB) := by
        congr 1
        rw [Bool.eq_iff_iff]
        simp only [List.length_cons, List.isEmpty_nil, Bool.and_true, Bool.and_eq_true, decide_eq_true_eq]
        omega
      rw [e]
    · rw [Np.pathL, if_neg hc]
      have e1 : Np.headS (c :: r) = c :: Np.headS r := by rw [Np.headS, if_neg hc]
      rw [e1]
      simp
theorem tailS_get {l : List UInt8} {j : Nat} : (Np.tailS l)[j]? = (Np.splitS l)[j + 1]? := by rw [Np.splitS_eq l]; simp
theorem pathL_names {l : List UInt8} {L : List (List UInt8)} (h : Np.pathL l = some L) : L.length ≤ 6 ∧ ∀ x ∈ L, Np.nameB x = true := by
  have := (Np.pathL_some h).1
  simpa using this
theorem nameB_len {x : List UInt8} (h : Np.nameB x = true) : x.length ≤ 12 := by
  unfold Np.nameB at h
  simp only [Bool.and_eq_true, decide_eq_true_eq] at h
  exact h.1.1.2
theorem split_part_len : ∀ {l : List UInt8} {x : List UInt8}, x ∈ Np.splitS l → x.length ≤ l.length
  | [], x, h => by simp [Np.splitS] at h; simp [h]
  | c :: r, x, h => by
    unfold Np.splitS at h
    split at h
    · rcases List.mem_cons.1 h with rfl | h
      · simp
      · have := split_part_len h; simp; omega
    · rw [Np.splitS_eq r] at h
      rcases List.mem_cons.1 h with rfl | h
      · have := split_part_len (l := r) (x := Np.headS r) (by rw [Np.splitS_eq]; simp)
        simp; exact this
      · have := split_part_len (l := r) (x := x) (by rw [Np.splitS_eq]; simp [h])
        simp; omega

def PathYes (L : List (List UInt8)) (w : World) (e : Ending) (w' : World) : Prop :=
  ∃ A c, e = .returned (.tuple #[.slice A L.length c, .int .i64 0]) ∧ L.length ≤ c ∧ Strs w' w.heap.size A L ∧ Below w.heap.size w w'

set_option maxHeartbeats 1000000 in
theorem path_root (w : World) : Calls Tryz.prog 74 #[.string ⟨#[47]⟩] w (PathYes [] w) := by
  go_enter Tryz.func74, Tryz.ntmps74
  go_wp2
  go_ret2
  exact ⟨_, _, rfl, Nat.le_refl _, Or.inl rfl, Below.refl _ _⟩

set_option maxHeartbeats 1000000 in
theorem path_few (s : ByteArray) (m : Int) (w : World) (hs : s.size ≤ 100000) (hm : w.cell? ⟨0, 0, none⟩ = some (.int .i64 m)) (h47 : (s.toList == [47]) = false)
    (hbad : (Np.splitS s.data.toList).length < 2 ∨ 7 < (Np.splitS s.data.toList).length ∨ (Np.headS s.data.toList).isEmpty = false) :
    Calls Tryz.prog 74 #[.string s] w fun e w' => e = .returned (.tuple #[.slice none 0 0, .int .i64 15]) ∧ Below w.heap.size w w' := by
  have h := split_any s m w hs hm
  have H := Lib.hid h; clear h
  have hl := split_len s.data.toList
  rw [← Lib.size_eq] at hl
  have heq := Np.splitS_eq s.data.toList
  obtain ⟨P, hP⟩ : ∃ P, P = Np.splitS s.data.toList := ⟨_, rfl⟩
  obtain ⟨hd, hhd⟩ : ∃ hd, hd = Np.headS s.data.toList := ⟨_, rfl⟩
  rw [← hP, ← hhd] at hbad
  rw [← hP] at H hl
  have h0 : P[0]? = some hd := by rw [hP, heq, hhd]; rfl
  clear heq hP hhd hm
  have H0 := Lib.hid h0; clear h0
  rcases hbad with hb | hb | hb
  · go_enter Tryz.func74, Tryz.ntmps74
    go_wp2_with fail
    refine H.out.mono ?_
    rintro e w1 ⟨rfl, hc, hf, hz, hB⟩
    go_wp2
    go_ret2
    exact ⟨rfl, hB⟩
  · go_enter Tryz.func74, Tryz.ntmps74
    go_wp2_with fail
    refine H.out.mono ?_
    rintro e w1 ⟨rfl, hc, hf, hz, hB⟩
    go_wp2
    go_ret2
    exact ⟨rfl, hB⟩
  · by_cases h2 : P.length < 2
    · go_enter Tryz.func74, Tryz.ntmps74
      go_wp2_with fail
      refine H.out.mono ?_
      rintro e w1 ⟨rfl, hc, hf, hz, hB⟩
      go_wp2
      go_ret2
      exact ⟨rfl, hB⟩
    · go_enter Tryz.func74, Tryz.ntmps74
      go_wp2_with fail
      refine H.out.mono ?_
      rintro e w1 ⟨rfl, hc, hf, hz, hB⟩
      have c0 := hc 0 hd H0.out
      clear hc
      have hp : 0 < P.length := by omega
      go_wp2
      all_goals (go_ret2; exact ⟨rfl, hB⟩)

set_option maxHeartbeats 1000000 in
theorem path_most_yes (s : ByteArray) (m : Int) (w : World) (hs : s.size ≤ 100000) (hm : w.cell? ⟨0, 0, none⟩ = some (.int .i64 m)) (h47 : (s.toList == [47]) = false)
    (h2 : 2 ≤ (Np.splitS s.data.toList).length) (h7 : (Np.splitS s.data.toList).length ≤ 7) (h0 : (Np.headS s.data.toList).isEmpty = true) (hb : (Np.tailS s.data.toList).all Np.nameB = true) :
    Calls Tryz.prog 74 #[.string s] w (PathYes (Np.tailS s.data.toList) w) := by
  have h := split_any s m w hs hm
  have H := Lib.hid h; clear h
  have heq := Np.splitS_eq s.data.toList
  have hpl : ∀ x ∈ Np.tailS s.data.toList, x.length ≤ 1000000 := fun x hx => by
    have := split_part_len (l := s.data.toList) (x := x) (by rw [heq]; simp [hx])
    rw [← Lib.size_eq] at this
    omega
  have htl : (Np.tailS s.data.toList).length = (Np.splitS s.data.toList).length - 1 := by rw [heq]; simp
  have hsg : ∀ j x, (Np.tailS s.data.toList)[j]? = some x → (Np.splitS s.data.toList)[j + 1]? = some x := fun j x hx => by rw [← tailS_get]; exact hx
  have h00 : (Np.splitS s.data.toList)[0]? = some [] := by
    rw [heq]
    cases h : Np.headS s.data.toList with
    | nil => rfl
    | cons _ _ => rw [h] at h0; cases h0
  obtain ⟨P, hP⟩ : ∃ P, P = Np.splitS s.data.toList := ⟨_, rfl⟩
  obtain ⟨T, hT⟩ : ∃ T, T = Np.tailS s.data.toList := ⟨_, rfl⟩
  rw [← hP] at H h2 h7 htl hsg h00
  rw [← hT] at hpl htl hsg hb ⊢
  clear heq hP hT h0 hm
  have H0 := Lib.hid h00; clear h00
  have Hsg := Lib.hid hsg; clear hsg
  have Hpl := Lib.hid hpl; clear hpl
  have hT1 : T.length ≤ 6 := by omega
  obtain ⟨n, hn⟩ : ∃ n, n = T.length := ⟨_, rfl⟩
  have hPn : P.length = n + 1 := by omega
  rw [hPn] at H
  have Hn := Lib.hid hn
  have hn1 : 1 ≤ n := by omega
  have hn2 : n ≤ 6 := by omega
  clear hn hPn htl h2 h7 hT1
  have Hb := Lib.hid hb; clear hb
  go_enter Tryz.func74, Tryz.ntmps74
  go_wp2_with fail
  refine H.out.mono ?_
  rintro e w1 ⟨rfl, hc, hf, hz, hB⟩
  have c0 := hc 0 _ H0.out
  have hS : Strs w1 w.heap.size (some ⟨w.heap.size, 1, none⟩) T := Or.inr ⟨_, _, rfl, Nat.le_refl _, hz, fun j x hx => by rw [Nat.add_comm]; exact hc (j + 1) x (Hsg.out j x hx), hf⟩
  clear hc hf
  have hcn := contains_any (some ⟨w.heap.size, 1, none⟩) T n w.heap.size w1 (by have := Hn.out; omega) Hpl.out hS
  rw [← Hn.out, Hb.out] at hcn
  have Hcn := Lib.hid hcn; clear hcn
  have HS := Lib.hid hS; clear hS
  have hne : ¬ (n + 1 = 1) := by omega
  go_wp2_with fail
  refine Hcn.out.mono ?_
  rintro e w2 ⟨rfl, hb2⟩
  go_wp2
  go_ret2
  refine ⟨some ⟨w.heap.size, 1, none⟩, n, ?_, by rw [← Hn.out]; exact Nat.le_refl _, HS.out.keep hb2, hB.trans (hb2.mono hB.size)⟩
  rw [← Hn.out]
  rfl

set_option maxHeartbeats 1000000 in
theorem path_most_no (s : ByteArray) (m : Int) (w : World) (hs : s.size ≤ 100000) (hm : w.cell? ⟨0, 0, none⟩ = some (.int .i64 m)) (h47 : (s.toList == [47]) = false)
    (h2 : 2 ≤ (Np.splitS s.data.toList).length) (h7 : (Np.splitS s.data.toList).length ≤ 7) (h0 : (Np.headS s.data.toList).isEmpty = true) (hb : (Np.tailS s.data.toList).all Np.nameB = false) :
    Calls Tryz.prog 74 #[.string s] w fun e w' => e = .returned (.tuple #[.slice none 0 0, .int .i64 15]) ∧ Below w.heap.size w w' := by
  have h := split_any s m w hs hm
  have H := Lib.hid h; clear h
  have heq := Np.splitS_eq s.data.toList
  have hpl : ∀ x ∈ Np.tailS s.data.toList, x.length ≤ 1000000 := fun x hx => by
    have := split_part_len (l := s.data.toList) (x := x) (by rw [heq]; simp [hx])
    rw [← Lib.size_eq] at this
    omega
  have htl : (Np.tailS s.data.toList).length = (Np.splitS s.data.toList).length - 1 := by rw [heq]; simp
  have hsg : ∀ j x, (Np.tailS s.data.toList)[j]? = some x → (Np.splitS s.data.toList)[j + 1]? = some x := fun j x hx => by rw [← tailS_get]; exact hx
  have h00 : (Np.splitS s.data.toList)[0]? = some [] := by
    rw [heq]
    cases h : Np.headS s.data.toList with
    | nil => rfl
    | cons _ _ => rw [h] at h0; cases h0
  obtain ⟨P, hP⟩ : ∃ P, P = Np.splitS s.data.toList := ⟨_, rfl⟩
  obtain ⟨T, hT⟩ : ∃ T, T = Np.tailS s.data.toList := ⟨_, rfl⟩
  rw [← hP] at H h2 h7 htl hsg h00
  rw [← hT] at hpl htl hsg hb
  clear heq hP hT h0 hm
  have H0 := Lib.hid h00; clear h00
  have Hsg := Lib.hid hsg; clear hsg
  have Hpl := Lib.hid hpl; clear hpl
  have hT1 : T.length ≤ 6 := by omega
  obtain ⟨n, hn⟩ : ∃ n, n = T.length := ⟨_, rfl⟩
  have hPn : P.length = n + 1 := by omega
  rw [hPn] at H
  have Hn := Lib.hid hn
  have hn1 : 1 ≤ n := by omega
  have hn2 : n ≤ 6 := by omega
  clear hn hPn htl h2 h7 hT1
  have Hb := Lib.hid hb; clear hb
  go_enter Tryz.func74, Tryz.ntmps74
  go_wp2_with fail
  refine H.out.mono ?_
  rintro e w1 ⟨rfl, hc, hf, hz, hB⟩
  have c0 := hc 0 _ H0.out
  have hS : Strs w1 w.heap.size (some ⟨w.heap.size, 1, none⟩) T := Or.inr ⟨_, _, rfl, Nat.le_refl _, hz, fun j x hx => by rw [Nat.add_comm]; exact hc (j + 1) x (Hsg.out j x hx), hf⟩
  clear hc hf
  have hcn := contains_any (some ⟨w.heap.size, 1, none⟩) T n w.heap.size w1 (by have := Hn.out; omega) Hpl.out hS
  rw [← Hn.out, Hb.out] at hcn
  have Hcn := Lib.hid hcn; clear hcn
  have HS := Lib.hid hS; clear hS
  have hne : ¬ (n + 1 = 1) := by omega
  go_wp2_with fail
  refine Hcn.out.mono ?_
  rintro e w2 ⟨rfl, hb2⟩
  go_wp2
  go_ret2
  exact ⟨rfl, hB.trans (hb2.mono hB.size)⟩

theorem path_yes (s : ByteArray) (L : List (List UInt8)) (m : Int) (w : World) (hs : s.size ≤ 100000) (hm : w.cell? ⟨0, 0, none⟩ = some (.int .i64 m)) (h : Np.pathL s.data.toList = some L) :
    Calls Tryz.prog 74 #[.string s] w (PathYes L w) := by
  by_cases h47 : s.data.toList = [47]
  · rw [h47] at h
    obtain rfl : ([] : List (List UInt8)) = L := Option.some.inj h
    obtain rfl : s = ⟨#[47]⟩ := ba_ext h47
    exact path_root w
  · rw [pathL_split _ h47] at h
    split at h
    · rename_i hc
      simp only [Bool.and_eq_true, decide_eq_true_eq] at hc
      obtain rfl : Np.tailS s.data.toList = L := Option.some.inj h
      exact path_most_yes s m w hs hm (by rw [Lib.toList_data]; exact beq_eq_false_iff_ne.2 h47) hc.1.1.1 hc.1.1.2 hc.1.2 hc.2
    · cases h
theorem path_no (s : ByteArray) (m : Int) (w : World) (hs : s.size ≤ 100000) (hm : w.cell? ⟨0, 0, none⟩ = some (.int .i64 m)) (h : Np.pathL s.data.toList = none) :
    Calls Tryz.prog 74 #[.string s] w fun e w' => e = .returned (.tuple #[.slice none 0 0, .int .i64 15]) ∧ Below w.heap.size w w' := by
  by_cases h47 : s.data.toList = [47]
  · rw [h47] at h; cases h
  · rw [pathL_split _ h47] at h
    have h47' : (s.toList == [47]) = false := by rw [Lib.toList_data]; exact beq_eq_false_iff_ne.2 h47
    by_cases h2 : 2 ≤ (Np.splitS s.data.toList).length
    · by_cases h7 : (Np.splitS s.data.toList).length ≤ 7
      · by_cases h0 : (Np.headS s.data.toList).isEmpty = true
        · by_cases hn : (Np.tailS s.data.toList).all Np.nameB = true
          · rw [decide_eq_true h2, decide_eq_true h7, h0, hn] at h; cases h
          · exact path_most_no s m w hs hm h47' h2 h7 h0 (by simpa using hn)
        · exact path_few s m w hs hm h47' (Or.inr (Or.inr (by simpa using h0)))
      · exact path_few s m w hs hm h47' (Or.inr (Or.inl (by omega)))
    · exact path_few s m w hs hm h47' (Or.inl (by omega))

end Go.Proofs.YtbpejjmfdhkfhaaGreatDoor

/- Walks: commonsref05.Path. -/
namespace Go.Proofs.YtbpejjmfdhkfhaaGreatDoor
open Go.RowKit

theorem go_ne {O : List (List UInt8)} {cur r : List UInt8} {c : UInt8} (h : c ≠ 47) : Np.go O cur (c :: r) = Np.go O (cur ++ [c]) r := by rw [Np.go, if_neg h]
theorem seg_snoc {l : List UInt8} {f k : Nat} (hf : f ≤ k) (hk : k < l.length) : (l.drop f).take (k + 1 - f) = (l.drop f).take (k - f) ++ [l[k]] := by
  rw [show k + 1 - f = (k - f) + 1 by omega, List.take_add_one, List.getElem?_drop, show f + (k - f) = k by omega, List.getElem?_eq_getElem hk]
  rfl
theorem relA {l : List UInt8} {O : List (List UInt8)} {f k : Nat} {G : Option (List (List UInt8))} (hf : f ≤ k) (hk : k < l.length) (h : Np.go O ((l.drop f).take (k - f)) (l.drop k) = G) (hc : l[k] ≠ 47) :
    Np.go O ((l.drop f).take (k + 1 - f)) (l.drop (k + 1)) = G := by
  rw [List.drop_eq_getElem_cons hk, go_ne hc] at h
  rw [seg_snoc hf hk, h]
theorem relB {l : List UInt8} {O : List (List UInt8)} {f k : Nat} {G : Option (List (List UInt8))} (hk : k < l.length) (h : Np.go O ((l.drop f).take (k - f)) (l.drop k) = G) (hc : l[k] = 47)
    (hn : Np.nameB ((l.drop f).take (k - f)) = true) (h6 : O.length ≠ 6) : Np.go (O ++ [(l.drop f).take (k - f)]) ((l.drop (k + 1)).take (k + 1 - (k + 1))) (l.drop (k + 1)) = G := by
  rw [List.drop_eq_getElem_cons hk, Np.go, if_pos hc, hn, decide_eq_true h6] at h
  rw [Nat.sub_self, List.take_zero]
  exact h
theorem relE {l : List UInt8} {O : List (List UInt8)} {f k : Nat} {G : Option (List (List UInt8))} (hk : k = l.length) (h : Np.go O ((l.drop f).take (k - f)) (l.drop k) = G)
    (hn : Np.nameB ((l.drop f).take (k - f)) = true) (h6 : O.length ≠ 6) : G = some (O ++ [(l.drop f).take (k - f)]) := by
  have e : l.drop k = [] := by rw [hk]; exact List.drop_length
  rw [e, Np.go, hn, decide_eq_true h6] at h
  exact h.symm
theorem relN {l : List UInt8} {O : List (List UInt8)} {f k : Nat} {G : Option (List (List UInt8))} (h : Np.go O ((l.drop f).take (k - f)) (l.drop k) = G) (hend : k = l.length ∨ ∃ hk : k < l.length, l[k] = 47)
    (hbad : Np.nameB ((l.drop f).take (k - f)) = false ∨ O.length = 6) : G = none := by
  have hb : (Np.nameB ((l.drop f).take (k - f)) && decide (O.length ≠ 6)) = false := by
    rcases hbad with h | h
    · rw [h]; rfl
    · rw [h]; simp
  rcases hend with hk | ⟨hk, hc⟩
  · have e : l.drop k = [] := by rw [hk]; exact List.drop_length
    rw [e, Np.go, hb] at h
    exact h.symm
  · rw [List.drop_eq_getElem_cons hk, Np.go, if_pos hc, hb] at h
    exact h.symm

/-- what a call of Path comes to -/
def PathRes (G : Option (List (List UInt8))) (w : World) (e : Ending) (w' : World) : Prop :=
  (G = none ∧ e = .returned (.tuple #[.slice none 0 0, .int .i64 15]) ∧ Below w.heap.size w w') ∨ ∃ L, G = some L ∧ PathYes L w e w'

/-- the texts as cells -/
def cellsL (O : List (List UInt8)) : List Value := O.map fun x => Value.string ⟨x.toArray⟩
theorem cellsL_snoc (O : List (List UInt8)) (b : ByteArray) (x : List UInt8) (h : b.data.toList = x) : cellsL O ++ [.string b] = cellsL (O ++ [x]) := by
  unfold cellsL; rw [List.map_append, ← h]
  show _ = _ ++ [Value.string ⟨b.data.toList.toArray⟩]
  rw [ba_mk]
theorem owns_strs {w : World} {B : Nat} {v : Value} {n : Nat} {O : List (List UInt8)} (h : w.ownsRow B 9 1 v n (cellsL O)) : ∃ A c, v = .slice A O.length c ∧ n = O.length ∧ O.length ≤ c ∧ Strs w B A O := by
  have hn : n = O.length := by have := h.1; unfold cellsL at this; simp at this; omega
  subst hn
  have h' := h
  rcases h.2 with ⟨rfl, h0⟩ | ⟨g, cap, cur, rfl, hb, hg, hc, _, _, _⟩
  · have : O = [] := List.length_eq_zero_iff.1 h0
    subst this
    exact ⟨none, 0, rfl, rfl, Nat.le_refl _, Or.inl rfl⟩
  · refine ⟨_, cap, rfl, rfl, hc, Or.inr ⟨g, 0, rfl, hb, (Array.getElem?_eq_some_iff.1 hg).1, ?_, ?_⟩⟩
    · intro j x hx
      have hj : j < O.length := (List.getElem?_eq_some_iff.1 hx).1
      have := h'.cellAt j (by omega)
      rw [Nat.zero_add, this]
      unfold cellsL
      rw [List.getElem?_map, hx]; rfl
    · intro j
      exact h'.frozenAt j

theorem Tryz.infoS : (Tryz.prog.info? 9).map (fun i => (i.zero, i.size, i.bytes)) = some (some (.string ByteArray.empty), 1, 16) := by kernel_rfl

set_option maxHeartbeats 1000000 in
theorem rpath_root (w : World) : Calls Tryz.prog 63 #[.string ⟨#[47]⟩] w (PathYes [] w) := by
  go_enter Tryz.func63, Tryz.ntmps63
  go_wp2
  go_ret2
  exact ⟨_, _, rfl, Nat.le_refl _, Or.inl rfl, Below.refl _ _⟩

set_option maxHeartbeats 1000000 in
theorem rpath_off (s : ByteArray) (w : World) (hs : s.size ≤ 100000) (h47 : (s.toList == [47]) = false) (h0 : ∀ h : 0 < s.size, ((((s[0]'h).toNat : Nat) : Int) != 47) = true) :
    Calls Tryz.prog 63 #[.string s] w fun e w' => e = .returned (.tuple #[.slice none 0 0, .int .i64 15]) ∧ Below w.heap.size w w' := by
  by_cases hz : s.size = 0
  · have hz' : ((s.size : Int) == 0) = true := by rw [beq_iff_eq]; omega
    clear hz h0
    go_enter Tryz.func63, Tryz.ntmps63
    go_wp2
    go_ret2
    exact ⟨rfl, Below.refl _ _⟩
  · have hp : 0 < s.size := by omega
    have h1 := h0 hp
    have hz' : ((s.size : Int) == 0) = false := by rw [beq_eq_false_iff_ne]; omega
    clear hz h0
    go_enter Tryz.func63, Tryz.ntmps63
    go_wp2
    all_goals (go_ret2; exact ⟨rfl, Below.refl _ _⟩)

set_option maxHeartbeats 2000000 in
set_option maxRecDepth 8192 in
theorem rpath_on (s : ByteArray) (G : Option (List (List UInt8))) (w : World) (hs : s.size ≤ 100000) (h47 : (s.toList == [47]) = false) (hp : 0 < s.size) (h0 : (((s[0]'hp).toNat : Int) != 47) = false)
    (hG : Np.go [] ((s.data.toList.drop 1).take (1 - 1)) (s.data.toList.drop 1) = G) :
    Calls Tryz.prog 63 #[.string s] w (PathRes G w) := by
  have hz' : ((s.size : Int) == 0) = false := by rw [beq_eq_false_iff_ne]; omega
  have HG := Lib.hid hG; clear hG
  obtain ⟨i0, hi, hz0, hz1, hz2⟩ := info_parts Tryz.infoS
  go_enter Tryz.func63, Tryz.ntmps63
  go_wp2
  go_loopw [4, 5, 6] (fun v ff i wr => ∃ (k f : Nat) (O : List (List UInt8)), 1 ≤ f ∧ f ≤ k ∧ k ≤ s.size + 1 ∧ O.length ≤ 6 ∧ i = .int .i64 k ∧ ff = .int .i64 f ∧ wr.ownsRow w.heap.size 9 1 v O.length (cellsL O) ∧ Below w.heap.size w wr ∧
      Hid (k ≤ s.size → Np.go O ((s.data.toList.drop f).take (k - f)) (s.data.toList.drop k) = G) ∧ Hid (k = s.size + 1 → G = some O)) (fun _ _ i _ => s.size + 1 - (intOf i).toNat)
  case atStart => exact ⟨1, 1, [], by omega, by omega, by omega, by simp, rfl, rfl, World.ownsRow_nil _ _ _ _, Below.refl _ _, fun _ => HG.out, fun h => by omega⟩
  case round =>
    obtain ⟨k, f, O, hf1, hfk, hk, hO6, rfl, rfl, hown, hbw, hr1, hr2⟩ := hrel
    by_cases hle : k ≤ s.size
    · by_cases hA : ∃ hlt : k < s.size, s[k]'hlt ≠ 47
      · obtain ⟨hlt, hc⟩ := hA
        have hcb : (((s[k]'hlt).toNat : Int) != 47) = true := by
          rw [bne_iff_ne]; intro e; apply hc; exact UInt8.toNat_inj.1 (by exact_mod_cast e)
        have hcl : s.data.toList[k]'(by rw [← Lib.size_eq]; exact hlt) ≠ 47 := by rw [Array.getElem_toList]; exact hc
        have hA1 := relA hfk (by rw [← Lib.size_eq]; exact hlt) (hr1.out (by omega)) hcl
        have HA1 := Lib.hid hA1; clear hA1
        clear hc hcl
        go_wp2
        go_roundw
        case rel => exact ⟨k + 1, f, O, by omega, by omega, by omega, by omega, by go_num, rfl, hown, hbw, fun _ => HA1.out, fun h => by omega⟩
        case measure => simp [intOf]; omega
      · by_cases hlt : k < s.size
        · have hc : s[k]'hlt = 47 := Classical.byContradiction fun e => hA ⟨hlt, e⟩
          have hcb : (((s[k]'hlt).toNat : Int) != 47) = false := by rw [hc]; rfl
          have hcl : s.data.toList[k]'(by rw [← Lib.size_eq]; exact hlt) = 47 := by rw [Array.getElem_toList]; exact hc
          have Hcl := Lib.hid hcl; clear hcl
          clear hA hc
          have hk1 : (k : Int) < s.size := by omega
          have hB0 : w.heap.size ≤ wr.heap.size := hbw.size
          by_cases hgood : Np.nameB ((s.data.toList.drop f).take (k - f)) = true ∧ O.length ≠ 6
          · obtain ⟨hn, h6⟩ := hgood
            have hm := fun W => rmay_any (s.extract f k) W (by rw [ByteArray.size_extract]; omega)
            rw [Lib.extract_data, hn] at hm
            have Hm := Lib.hid hm; clear hm
            have Hn := Lib.hid hn; clear hn
            have h6b : ((O.length : Int) == 6) = false := by rw [beq_eq_false_iff_ne]; omega
            have H6 := Lib.hid h6; clear h6
            obtain ⟨A, c, hv, _, hc, hS⟩ := owns_strs hown
            rw [hv] at hown
            rw [hv]
            clear hS
            go_wp2_with (first | (go_at_call 80; refine (Hm.out _).mono ?_; rintro e w' ⟨rfl, rfl⟩) | (at_builtin; refine wpList_append_own _ rfl (.tmp 46) (.tmp 51) 32 rfl w.heap.size 9 i0 (.string ByteArray.empty) 1 16 Tryz.underlying32 hi hz0 hz1 hz2 rfl (by decide) (.slice A O.length c) O.length (cellsL O) rfl (hown.alloc _) ⟨wr.heap.size, 0, none⟩ 1 1 [.string (s.extract f k)] rfl rfl ?c1 ?c2 ?c3 ?c4 ?c5 ?_))
            case c1 => exact cell_one_new _ _ _
            case c2 => intro u hu; simp only [List.mem_singleton] at hu; subst hu; rfl
            case c3 => unfold maxLen; omega
            case c4 => omega
            case c5 => simp; omega
            intro v' w1 hown' hgrow _
            rw [cellsL_snoc O _ _ (Lib.extract_data s f k), show O.length + 1 = (O ++ [(s.data.toList.drop f).take (k - f)]).length by simp] at hown'
            have hB1 : Below w.heap.size w w1 := (hbw.alloc hB0 _).grown hgrow (by simp; omega) (fun q hq => (hown.lt q hq).1)
            obtain ⟨A', c', hv', _, _, _⟩ := owns_strs hown'
            rw [hv'] at hown'
            rw [hv']
            have HO := Lib.hid hown'
            clear hown' hown hv' hv
            go_wp2
            go_roundw
            case rel =>
              exact ⟨k + 1, k + 1, O ++ [(s.data.toList.drop f).take (k - f)], by omega, by omega, by omega, by have := H6.out; simp; omega, by go_num, by go_num, HO.out, hB1, fun _ => relB (by rw [← Lib.size_eq]; exact hlt) (hr1.out hle) Hcl.out Hn.out H6.out, fun h => by omega⟩
            case measure => simp [intOf]; omega
          · have hm := fun W => rmay_any (s.extract f k) W (by rw [ByteArray.size_extract]; omega)
            rw [Lib.extract_data] at hm
            have hbad : Np.nameB ((s.data.toList.drop f).take (k - f)) = false ∨ O.length = 6 := by
              rcases Classical.em (O.length = 6) with h | h
              · exact Or.inr h
              · left
                cases hn : Np.nameB ((s.data.toList.drop f).take (k - f)) with
                | false => rfl
                | true => exact absurd ⟨hn, h⟩ hgood
            clear hgood
            have hN := relN (hr1.out hle) (Or.inr ⟨by rw [← Lib.size_eq]; exact hlt, Hcl.out⟩) hbad
            obtain ⟨b, hb⟩ : ∃ b, b = Np.nameB ((s.data.toList.drop f).take (k - f)) := ⟨_, rfl⟩
            rw [← hb] at hm hbad
            have Hm := Lib.hid hm; clear hm
            clear hb
            obtain ⟨A, c, hv, _, hc, hS⟩ := owns_strs hown
            rw [hv]
            clear hS
            have HN := Lib.hid hN; clear hN
            rcases hbad with hb | hb
            · subst hb
              go_wp2_with (go_at_call 80; refine (Hm.out _).mono ?_; rintro e w' ⟨rfl, rfl⟩)
              go_ret2
              exact Or.inl ⟨HN.out, rfl, hbw⟩
            · have h6b : ((O.length : Int) == 6) = true := by rw [beq_iff_eq]; omega
              clear hb
              go_wp2_with (go_at_call 80; refine (Hm.out _).mono ?_; rintro e w' ⟨rfl, rfl⟩)
              all_goals (go_ret2; exact Or.inl ⟨HN.out, rfl, hbw⟩)
        · clear hA
          have hk1 : (s.size : Int) ≤ k := by omega
          have hB0 : w.heap.size ≤ wr.heap.size := hbw.size
          by_cases hgood : Np.nameB ((s.data.toList.drop f).take (k - f)) = true ∧ O.length ≠ 6
          · obtain ⟨hn, h6⟩ := hgood
            have hm := fun W => rmay_any (s.extract f k) W (by rw [ByteArray.size_extract]; omega)
            rw [Lib.extract_data, hn] at hm
            have Hm := Lib.hid hm; clear hm
            have Hn := Lib.hid hn; clear hn
            have h6b : ((O.length : Int) == 6) = false := by rw [beq_eq_false_iff_ne]; omega
            have H6 := Lib.hid h6; clear h6
            obtain ⟨A, c, hv, _, hc, hS⟩ := owns_strs hown
            rw [hv] at hown
            rw [hv]
            clear hS
            go_wp2_with (first | (go_at_call 80; refine (Hm.out _).mono ?_; rintro e w' ⟨rfl, rfl⟩) | (at_builtin; refine wpList_append_own _ rfl (.tmp 46) (.tmp 51) 32 rfl w.heap.size 9 i0 (.string ByteArray.empty) 1 16 Tryz.underlying32 hi hz0 hz1 hz2 rfl (by decide) (.slice A O.length c) O.length (cellsL O) rfl (hown.alloc _) ⟨wr.heap.size, 0, none⟩ 1 1 [.string (s.extract f k)] rfl rfl ?c1 ?c2 ?c3 ?c4 ?c5 ?_))
            case c1 => exact cell_one_new _ _ _
            case c2 => intro u hu; simp only [List.mem_singleton] at hu; subst hu; rfl
            case c3 => unfold maxLen; omega
            case c4 => omega
            case c5 => simp; omega
            intro v' w1 hown' hgrow _
            rw [cellsL_snoc O _ _ (Lib.extract_data s f k), show O.length + 1 = (O ++ [(s.data.toList.drop f).take (k - f)]).length by simp] at hown'
            have hB1 : Below w.heap.size w w1 := (hbw.alloc hB0 _).grown hgrow (by simp; omega) (fun q hq => (hown.lt q hq).1)
            obtain ⟨A', c', hv', _, _, _⟩ := owns_strs hown'
            rw [hv'] at hown'
            rw [hv']
            have HO := Lib.hid hown'
            clear hown' hown hv' hv
            go_wp2
            go_roundw
            case rel =>
              exact ⟨k + 1, k + 1, O ++ [(s.data.toList.drop f).take (k - f)], by omega, by omega, by omega, by have := H6.out; simp; omega, by go_num, by go_num, HO.out, hB1, fun h => by omega, fun _ => relE (by rw [← Lib.size_eq]; omega) (hr1.out hle) Hn.out H6.out⟩
            case measure => simp [intOf]; omega
          · have hm := fun W => rmay_any (s.extract f k) W (by rw [ByteArray.size_extract]; omega)
            rw [Lib.extract_data] at hm
            have hbad : Np.nameB ((s.data.toList.drop f).take (k - f)) = false ∨ O.length = 6 := by
              rcases Classical.em (O.length = 6) with h | h
              · exact Or.inr h
              · left
                cases hn : Np.nameB ((s.data.toList.drop f).take (k - f)) with
                | false => rfl
                | true => exact absurd ⟨hn, h⟩ hgood
            clear hgood
            have hN := relN (hr1.out hle) (Or.inl (by rw [← Lib.size_eq]; omega)) hbad
            obtain ⟨b, hb⟩ : ∃ b, b = Np.nameB ((s.data.toList.drop f).take (k - f)) := ⟨_, rfl⟩
            rw [← hb] at hm hbad
            have Hm := Lib.hid hm; clear hm
            clear hb
            obtain ⟨A, c, hv, _, hc, hS⟩ := owns_strs hown
            rw [hv]
            clear hS
            have HN := Lib.hid hN; clear hN
            rcases hbad with hb | hb
            · subst hb
              go_wp2_with (go_at_call 80; refine (Hm.out _).mono ?_; rintro e w' ⟨rfl, rfl⟩)
              go_ret2
              exact Or.inl ⟨HN.out, rfl, hbw⟩
            · have h6b : ((O.length : Int) == 6) = true := by rw [beq_iff_eq]; omega
              clear hb
              go_wp2_with (go_at_call 80; refine (Hm.out _).mono ?_; rintro e w' ⟨rfl, rfl⟩)
              all_goals (go_ret2; exact Or.inl ⟨HN.out, rfl, hbw⟩)
    · have hk1 : (s.size : Int) < k := by omega
      obtain ⟨A, c, hv, _, hc, hS⟩ := owns_strs hown
      rw [hv]
      have HS := Lib.hid hS; clear hS
      clear hv
      go_wp2
      go_ret2
      exact Or.inr ⟨O, hr2.out (by omega), A, c, rfl, hc, HS.out, hbw⟩

/-- Path, by the reference -/
theorem rpath_any (s : ByteArray) (w : World) (hs : s.size ≤ 100000) :
    Calls Tryz.prog 63 #[.string s] w (PathRes (Np.pathL s.data.toList) w) := by
  by_cases h47 : s.data.toList = [47]
  · obtain rfl : s = ⟨#[47]⟩ := ba_ext h47
    exact (rpath_root w).mono fun e w' h => Or.inr ⟨[], rfl, h⟩
  · have h47' : (s.toList == [47]) = false := by rw [Lib.toList_data]; exact beq_eq_false_iff_ne.2 h47
    cases hl : s.data.toList with
    | nil =>
      have hz : s.size = 0 := by rw [Lib.size_eq, hl]; rfl
      exact (rpath_off s w hs h47' (fun h => by omega)).mono fun e w' h => Or.inl ⟨rfl, h⟩
    | cons c r =>
      have hz : 0 < s.size := by rw [Lib.size_eq, hl]; simp
      have hc : s[0]'hz = c := by
        have : s.data.toList[0]'(by rw [hl]; simp) = c := by simp [hl]
        rw [Array.getElem_toList] at this
        exact this
      by_cases h : c = 47
      · subst h
        have hr : r ≠ [] := fun e => h47 (by rw [hl, e])
        exact rpath_on s _ w hs h47' hz (by rw [hc]; rfl) (by rw [hl, Np.pathL_go r hr]; rfl)
      · refine (rpath_off s w hs h47' (fun _ => ?_)).mono fun e w' h2 => Or.inl ⟨by rw [Np.pathL, if_neg h], h2⟩
        rw [hc, bne_iff_ne]
        intro e
        exact h (UInt8.toNat_inj.1 (by exact_mod_cast e))

end Go.Proofs.YtbpejjmfdhkfhaaGreatDoor
