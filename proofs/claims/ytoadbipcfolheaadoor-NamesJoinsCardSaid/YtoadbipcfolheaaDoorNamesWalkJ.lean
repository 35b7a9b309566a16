/- Walks: commonslaw05.list, names.Join, commonsref05.Join, the law NamesJoins. -/
import Derived.Test.YtoadbipcfolheaaDoorNamesWalkH
import Derived.Lib.Join
import Derived.SliceStrings
namespace Go.Proofs.YtoadbipcfolheaaDoor
open Go.RowKit

theorem tail_eq (y : List UInt8) (r : List (List UInt8)) : Lib.joinTail [47] (y :: r) = 47 :: Lib.join (y :: r) [47] := by
  rw [Lib.join_cons]; simp [Lib.joinTail]
theorem join_eq : ∀ L : List (List UInt8), Lib.join L [47] = Np.joinS L
  | [] => rfl
  | [x] => Lib.join_one x _
  | x :: y :: r => by rw [Lib.join_cons, tail_eq, join_eq (y :: r)]; rfl
theorem tail_ne {L : List (List UInt8)} (h : L ≠ []) : Lib.joinTail [47] L = Np.joinP L := by
  cases L with
  | nil => exact absurd rfl h
  | cons y r => rw [tail_eq, join_eq]; rfl
theorem tail_len : ∀ L : List (List UInt8), (∀ x ∈ L, x.length ≤ 20) → (Lib.joinTail [47] L).length ≤ 21 * L.length
  | [], _ => by simp [Lib.joinTail]
  | x :: r, h => by
    have h1 := tail_len r (fun y hy => h y (List.mem_cons_of_mem _ hy))
    have h2 := h x (List.mem_cons_self ..)
    have : Lib.joinTail [47] (x :: r) = [47] ++ x ++ Lib.joinTail [47] r := by simp [Lib.joinTail]
    rw [this]; simp; omega
theorem joinP_len (L : List (List UInt8)) (h : ∀ x ∈ L, x.length ≤ 20) : (Np.joinP L).length ≤ 21 * L.length + 1 := by
  cases L with
  | nil => simp [Np.joinP, Np.joinS]
  | cons y r =>
    have h1 := tail_len (y :: r) h
    rw [tail_ne (by simp)] at h1
    omega
theorem name_len {x : List UInt8} (h : Np.nameB x = true) : x.length ≤ 12 := by
  unfold Np.nameB at h
  simp only [Bool.and_eq_true, decide_eq_true_eq] at h
  exact h.1.1.2

def joinV (L : List (List UInt8)) : ByteArray := match Np.joinL L with | some b => ⟨b.toArray⟩ | none => ⟨#[]⟩
def joinE (L : List (List UInt8)) : Int := match Np.joinL L with | some _ => 0 | none => 15
theorem join_good {L : List (List UInt8)} (h : (decide (L.length ≤ 6) && L.all Np.nameB) = true) : joinV L = ⟨(Np.joinP L).toArray⟩ ∧ joinE L = 0 := by
  unfold joinV joinE Np.joinL; rw [if_pos h]; exact ⟨rfl, rfl⟩
theorem join_bad {L : List (List UInt8)} (h : ¬ (decide (L.length ≤ 6) && L.all Np.nameB) = true) : joinV L = ⟨#[]⟩ ∧ joinE L = 15 := by
  unfold joinV joinE Np.joinL; rw [if_neg h]; exact ⟨rfl, rfl⟩

/-- texts that lie in memory -/
def SR (w : World) (A : Option Addr) (L : List (List UInt8)) : Prop :=
  L = [] ∨ ∃ b o, A = some ⟨b, o, none⟩ ∧ b < w.heap.size ∧ ∀ j x, L[j]? = some x → w.cell? ⟨b, o + j, none⟩ = some (.string ⟨x.toArray⟩)
def Raw (w : World) (A : Option Addr) (n c : Nat) : Prop := ∃ L : List (List UInt8), n = L.length ∧ n ≤ c ∧ n ≤ 9223372036854775807 ∧ (∀ x ∈ L, x.length ≤ 9223372036854775807) ∧ SR w A L

theorem open_list {H : Type} {enc : TypeId × Value → H} {W : World} {base : Nat} {v : Value} {d : DataW H} {p : List MemPlace} (hv : Value.okWide Tryd.prog W .any base 25 v) (hd : DataW.Trod enc Tryd.prog W 0 (fun _ => true) true 25 v d p) (hlt : ∀ x ∈ p, x.block < W.heap.size) :
    ∃ A n c, v = .slice A n c ∧ Raw W A n c := by
  obtain ⟨a0, len, cap, rfl⟩ := Go.WideShapes.okWide_slice Tryd.underlying25 hv
  obtain ⟨fuel, hf⟩ := hd
  rcases Go.ChangeShapes.open_strings Tryd.underlying25 Tryd.underlying9 (by kernel_rfl) hf with ⟨hcs, hx⟩ | ⟨a, len', cap', ss, hcs, _, hl, hm, hz, hx, hcell, hsz⟩
  · simp [Value.cells] at hcs
    obtain ⟨rfl, rfl, rfl⟩ := hcs
    exact ⟨none, 0, 0, rfl, [], rfl, Nat.le_refl _, by omega, by simp, Or.inl rfl⟩
  · simp [Value.cells] at hcs
    obtain ⟨rfl, rfl, rfl⟩ := hcs
    simp only [if_true] at hz
    simp only [Prod.mk.injEq] at hx
    obtain ⟨_, rfl⟩ := hx
    unfold maxLen at hm hsz
    refine ⟨_, _, _, rfl, (ss.take len).map (·.data.toList), by simp; omega, hl, by omega, ?_, ?_⟩
    · intro x hx
      rw [List.mem_map] at hx
      obtain ⟨s, hs, rfl⟩ := hx
      have := hsz s (List.mem_of_mem_take hs)
      rw [Lib.size_eq] at this
      exact this
    · by_cases h0 : len = 0
      · left; rw [h0]; rfl
      · right
        obtain ⟨b, o, spot⟩ := a
        have hspot : spot = none := by simpa [Addr.add] using World.cell?_spot (hcell 0 (by omega))
        subst hspot
        refine ⟨b, o, rfl, hlt (.cell b o) (MemPlace.mem_row.2 ⟨0, by omega, by simp⟩), fun j x hj => ?_⟩
        rw [List.getElem?_map] at hj
        cases hs : (ss.take len)[j]? with
        | none => rw [hs] at hj; cases hj
        | some y =>
          rw [hs] at hj
          cases hj
          rw [List.getElem?_take] at hs
          split at hs
          · have h1 := (List.getElem?_eq_some_iff.1 hs).1
            have h2 := hcell j h1
            rw [Addr.add_lit, List.getD_eq_getElem?_getD, hs] at h2
            rw [h2]
            show _ = some (Value.string ⟨y.data.toList.toArray⟩)
            rw [ba_mk]; rfl
          · cases hs

def listL (L : List (List UInt8)) : List (List UInt8) := (L.take 9).map (List.take 20)
theorem listL_len (L : List (List UInt8)) : (listL L).length ≤ 9 ∧ ∀ x ∈ listL L, x.length ≤ 20 := by
  refine ⟨by unfold listL; simp; omega, fun x hx => ?_⟩
  unfold listL at hx
  rw [List.mem_map] at hx
  obtain ⟨y, _, rfl⟩ := hx
  simp; omega
theorem list_step {L : List (List UInt8)} {k : Nat} {x : List UInt8} (hx : L[k]? = some x) : (L.take k).map (List.take 20) ++ [x.take 20] = (L.take (k + 1)).map (List.take 20) := by
  rw [show L.take (k + 1) = L.take k ++ [x] by rw [List.take_add_one, hx]; rfl, List.map_append]; rfl
theorem list_end {L : List (List UInt8)} {k : Nat} (hk : k ≤ 9) (h : k = 9 ∨ L.length ≤ k) : (L.take k).map (List.take 20) = listL L := by
  unfold listL
  rcases h with rfl | h
  · rfl
  · rw [List.take_of_length_le h, List.take_of_length_le (by omega)]

set_option maxHeartbeats 2000000 in
theorem list_any (A : Option Addr) (L : List (List UInt8)) (c : Nat) (w : World) (hn : L.length ≤ 9223372036854775807) (hz : ∀ x ∈ L, x.length ≤ 9223372036854775807) (hS : SR w A L) :
    Calls Tryd.prog 23 #[.slice A L.length c] w fun e w' => ∃ A' c', e = .returned (.slice A' (listL L).length c') ∧ (listL L).length ≤ c' ∧ Strs w' w.heap.size A' (listL L) ∧ Below w.heap.size w w' := by
  have HS := Lib.hid hS; clear hS
  have HZ := Lib.hid hz; clear hz
  obtain ⟨n, hnn⟩ : ∃ n, n = L.length := ⟨_, rfl⟩
  rw [← hnn] at hn ⊢
  have Hn := Lib.hid hnn; clear hnn
  obtain ⟨i0, hi, hz0, hz1, hz2⟩ := info_parts Tryd.infoS
  go_enter Tryd.func23, Tryd.ntmps23
  go_wp2
  go_loopw [3, 4] (fun v i wr => ∃ (k : Nat) (O : List (List UInt8)), k ≤ 9 ∧ k ≤ n ∧ O.length = k ∧ i = .int .i64 k ∧ wr.ownsRow w.heap.size 9 1 v O.length (cellsL O) ∧ Below w.heap.size w wr ∧ Hid (O = (L.take k).map (List.take 20))) (fun _ i _ => 9 - (intOf i).toNat)
  case atStart => exact ⟨0, [], by omega, by omega, rfl, rfl, World.ownsRow_nil _ _ _ _, Below.refl _ _, by show _ = _; simp⟩
  case round =>
    obtain ⟨k, O, hk9, hkn, hO, rfl, hown, hbw, hr⟩ := hrel
    have hB0 : w.heap.size ≤ wr.heap.size := hbw.size
    by_cases hlt : k < n ∧ k < 9
    · obtain ⟨hlt, hlt9⟩ := hlt
      have hkL : k < L.length := by have := Hn.out; omega
      obtain ⟨x, hx⟩ : ∃ x, L[k]? = some x := ⟨_, List.getElem?_eq_getElem hkL⟩
      rcases HS.out with h | ⟨b, o, rfl, h3, h4⟩
      · subst h; simp at hkL
      obtain ⟨y, hy⟩ : ∃ y : ByteArray, y = ⟨x.toArray⟩ := ⟨_, rfl⟩
      have hc : wr.cell? ⟨b, o + k, none⟩ = some (.string y) := by rw [hy]; exact (hbw.cell (p := ⟨b, o + k, none⟩) h3).trans (h4 k x hx)
      have hyz : y.size ≤ 9223372036854775807 := by rw [hy, Lib.size_eq]; exact HZ.out x (List.mem_of_getElem? hx)
      have hyl : y.data.toList = x := by rw [hy]
      have hst := list_step hx
      rw [← hr.out] at hst
      have hys : y.size = x.length := by rw [hy, Lib.size_eq]
      have Hst := Lib.hid hst
      clear h4 hx hy hkL hst
      have hk1 : (0 : Int) ≤ k := by omega
      have hk2 : (k : Int) < n := by omega
      have hk3 : (k : Int) < 9 := by omega
      obtain ⟨A', c', hv, _, hc', hS'⟩ := owns_strs hown
      rw [hv] at hown
      rw [hv]
      clear hS'
      by_cases hbig : 20 < y.size
      · have hz20 : (20 : Int) ≤ y.size := by omega
        have Hl : Hid ((y.extract 0 20).data.toList = x.take 20) := Lib.hid (by rw [ba_head, hyl])
        clear hyl hys
        go_wp2_with (at_builtin; go_loud (refine wpList_append_own _ rfl _ _ 25 rfl w.heap.size 9 i0 (.string ByteArray.empty) 1 16 Tryd.underlying25 hi hz0 hz1 hz2 rfl (by decide) (.slice A' O.length c') O.length (cellsL O) rfl (hown.alloc _) ⟨wr.heap.size, 0, none⟩ 1 1 [.string (y.extract 0 20)] rfl rfl (cell_one_new _ _ _) (by intro u hu; simp only [List.mem_singleton] at hu; subst hu; rfl) (by unfold maxLen; omega) (by omega) (by simp; omega) ?_))
        intro v' w1 hown' hgrow _
        rw [cellsL_snoc O _ _ Hl.out, show k + 1 = (O ++ [x.take 20]).length by simp [hO]] at hown'
        have hB1 : Below w.heap.size w w1 := (hbw.alloc hB0 _).grown hgrow (by simp; omega) (fun q hq => (hown.lt q (by rw [hO]; exact hq)).1)
        obtain ⟨A2, c2, hv', _, _, _⟩ := owns_strs hown'
        rw [hv'] at hown'
        rw [hv']
        have HO := Lib.hid hown'
        clear hown' hown hv' hv
        go_wp2
        go_roundw
        case rel => exact ⟨k + 1, O ++ [x.take 20], by omega, by omega, by simp [hO], by go_num, HO.out, hB1, Hst.out⟩
        case measure => simp [intOf]; omega
      · have Hl : Hid (y.data.toList = x.take 20) := Lib.hid (by rw [hyl, List.take_of_length_le (by omega)])
        clear hyl hys
        go_wp2_with (at_builtin; go_loud (refine wpList_append_own _ rfl _ _ 25 rfl w.heap.size 9 i0 (.string ByteArray.empty) 1 16 Tryd.underlying25 hi hz0 hz1 hz2 rfl (by decide) (.slice A' O.length c') O.length (cellsL O) rfl (hown.alloc _) ⟨wr.heap.size, 0, none⟩ 1 1 [.string y] rfl rfl (cell_one_new _ _ _) (by intro u hu; simp only [List.mem_singleton] at hu; subst hu; rfl) (by unfold maxLen; omega) (by omega) (by simp; omega) ?_))
        intro v' w1 hown' hgrow _
        rw [cellsL_snoc O _ _ Hl.out, show k + 1 = (O ++ [x.take 20]).length by simp [hO]] at hown'
        have hB1 : Below w.heap.size w w1 := (hbw.alloc hB0 _).grown hgrow (by simp; omega) (fun q hq => (hown.lt q (by rw [hO]; exact hq)).1)
        obtain ⟨A2, c2, hv', _, _, _⟩ := owns_strs hown'
        rw [hv'] at hown'
        rw [hv']
        have HO := Lib.hid hown'
        clear hown' hown hv' hv
        go_wp2
        go_roundw
        case rel => exact ⟨k + 1, O ++ [x.take 20], by omega, by omega, by simp [hO], by go_num, HO.out, hB1, Hst.out⟩
        case measure => simp [intOf]; omega
    · have hend := list_end (L := L) hk9 (by have := Hn.out; omega)
      rw [← hr.out] at hend
      rw [hend] at hown
      obtain ⟨A', c', hv, _, hc', hS'⟩ := owns_strs hown
      rw [hv]
      have HS' := Lib.hid hS'
      have hll := (listL_len L).1
      clear hS' hown hv hend
      by_cases hkn2 : k < n
      · have hk3 : (9 : Int) ≤ k := by omega
        have hk2 : (k : Int) < n := by omega
        go_wp2
        go_ret
        exact ⟨A', c', rfl, hc', HS'.out, hbw⟩
      · have hk2 : (n : Int) ≤ k := by omega
        go_wp2
        go_ret
        exact ⟨A', c', rfl, hc', HS'.out, hbw⟩

end Go.Proofs.YtoadbipcfolheaaDoor
