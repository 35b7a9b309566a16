/- Walks: commonsref05.Path. -/
import Derived.Test.YtoadbipcfolheaaDoorNamesWalkC
namespace Go.Proofs.YtoadbipcfolheaaDoor
open Go.RowKit

theorem go_ne {O : List (List UInt8)} {cur r : List UInt8} {c : UInt8} (h : c ≠ 47) : Np.go O cur (c :: r) = Np.go O (cur ++ [c]) r := by rw [Np.go, if_neg h]
theorem seg_snoc {l : List UInt8} {f k : Nat} (hf : f ≤ k) (hk : k < l.length) : (l.drop f).take (k + 1 - f) = (l.drop f).take (k - f) ++ [l[k]] := by
  rw [show k + 1 - f = (k - f) + 1 by omega, List.take_add_one, List.getElem?_drop, show f + (k - f) = k by omega, List.getElem?_eq_getElem hk]
  rfl
theorem relA {l : List UInt8} {O : List (List UInt8)} {f k : Nat} {G : Option (List (List UInt8))} (hf : f ≤ k) (hk : k < l.length) (h : Np.go O ((l.drop f).take (k - f)) (l.drop k) = G) (hc : l[k] ≠ 47) :
    Np.go O ((l.drop f).take (k + 1 - f)) (l.drop (k + 1)) = G := by
  rw [List.drop_eq_getElem_cons hk, go_ne hc] at h
  rw [seg_snoc hf hk, h]
theorem relB {l : List UInt8} {O : List (List UInt8)} {f k : Nat} {G : Option (List (List UInt8))} (hk : k < l.length) (h : Np.go O ((l.drop f).take (k - f)) (l.drop k) = G) (hc : l[k] = 47)
    (hn : Np.nameB ((l.drop f).take (k - f)) = true) (h6 : O.length ≠ 6) : Np.go (O ++ [(l.drop f).take (k - f)]) ((l.drop (k + 1)).take (k + 1 - (k + 1))) (l.drop (k + 1)) = G := by
  rw [List.drop_eq_getElem_cons hk, Np.go, if_pos hc, hn, decide_eq_true h6] at h
  rw [Nat.sub_self, List.take_zero]
  exact h
theorem relE {l : List UInt8} {O : List (List UInt8)} {f k : Nat} {G : Option (List (List UInt8))} (hk : k = l.length) (h : Np.go O ((l.drop f).take (k - f)) (l.drop k) = G)
    (hn : Np.nameB ((l.drop f).take (k - f)) = true) (h6 : O.length ≠ 6) : G = some (O ++ [(l.drop f).take (k - f)]) := by
  have e : l.drop k = [] := by rw [hk]; exact List.drop_length
  rw [e, Np.go, hn, decide_eq_true h6] at h
  exact h.symm
theorem relN {l : List UInt8} {O : List (List UInt8)} {f k : Nat} {G : Option (List (List UInt8))} (h : Np.go O ((l.drop f).take (k - f)) (l.drop k) = G) (hend : k = l.length ∨ ∃ hk : k < l.length, l[k] = 47)
    (hbad : Np.nameB ((l.drop f).take (k - f)) = false ∨ O.length = 6) : G = none := by
  have hb : (Np.nameB ((l.drop f).take (k - f)) && decide (O.length ≠ 6)) = false := by
    rcases hbad with h | h
    · rw [h]; rfl
    · rw [h]; simp
  rcases hend with hk | ⟨hk, hc⟩
  · have e : l.drop k = [] := by rw [hk]; exact List.drop_length
    rw [e, Np.go, hb] at h
    exact h.symm
  · rw [List.drop_eq_getElem_cons hk, Np.go, if_pos hc, hb] at h
    exact h.symm

/-- what a call of Path comes to -/
def PathRes (G : Option (List (List UInt8))) (w : World) (e : Ending) (w' : World) : Prop :=
  (G = none ∧ e = .returned (.tuple #[.slice none 0 0, .int .i64 15]) ∧ Below w.heap.size w w') ∨ ∃ L, G = some L ∧ PathYes L w e w'

/-- the texts as cells -/
def cellsL (O : List (List UInt8)) : List Value := O.map fun x => Value.string ⟨x.toArray⟩
theorem cellsL_snoc (O : List (List UInt8)) (b : ByteArray) (x : List UInt8) (h : b.data.toList = x) : cellsL O ++ [.string b] = cellsL (O ++ [x]) := by
  unfold cellsL; rw [List.map_append, ← h]
  show _ = _ ++ [Value.string ⟨b.data.toList.toArray⟩]
  rw [ba_mk]
theorem owns_strs {w : World} {B : Nat} {v : Value} {n : Nat} {O : List (List UInt8)} (h : w.ownsRow B 9 1 v n (cellsL O)) : ∃ A c, v = .slice A O.length c ∧ n = O.length ∧ O.length ≤ c ∧ Strs w B A O := by
  have hn : n = O.length := by have := h.1; unfold cellsL at this; simp at this; omega
  subst hn
  have h' := h
  rcases h.2 with ⟨rfl, h0⟩ | ⟨g, cap, cur, rfl, hb, hg, hc, _, _, _⟩
  · have : O = [] := List.length_eq_zero_iff.1 h0
    subst this
    exact ⟨none, 0, rfl, rfl, Nat.le_refl _, Or.inl rfl⟩
  · refine ⟨_, cap, rfl, rfl, hc, Or.inr ⟨g, 0, rfl, hb, (Array.getElem?_eq_some_iff.1 hg).1, ?_, ?_⟩⟩
    · intro j x hx
      have hj : j < O.length := (List.getElem?_eq_some_iff.1 hx).1
      have := h'.cellAt j (by omega)
      rw [Nat.zero_add, this]
      unfold cellsL
      rw [List.getElem?_map, hx]; rfl
    · intro j
      exact h'.frozenAt j

theorem Tryd.infoS : (Tryd.prog.info? 9).map (fun i => (i.zero, i.size, i.bytes)) = some (some (.string ByteArray.empty), 1, 16) := by kernel_rfl

set_option maxHeartbeats 1000000 in
theorem rpath_root (w : World) : Calls Tryd.prog 16 #[.string ⟨#[47]⟩] w (PathYes [] w) := by
  go_enter Tryd.func16, Tryd.ntmps16
  go_wp2
  go_ret2
  exact ⟨_, _, rfl, Nat.le_refl _, Or.inl rfl, Below.refl _ _⟩

set_option maxHeartbeats 1000000 in
theorem rpath_off (s : ByteArray) (w : World) (hs : s.size ≤ 100000) (h47 : (s.toList == [47]) = false) (h0 : ∀ h : 0 < s.size, ((((s[0]'h).toNat : Nat) : Int) != 47) = true) :
    Calls Tryd.prog 16 #[.string s] w fun e w' => e = .returned (.tuple #[.slice none 0 0, .int .i64 15]) ∧ Below w.heap.size w w' := by
  by_cases hz : s.size = 0
  · have hz' : ((s.size : Int) == 0) = true := by rw [beq_iff_eq]; omega
    clear hz h0
    go_enter Tryd.func16, Tryd.ntmps16
    go_wp2
    go_ret2
    exact ⟨rfl, Below.refl _ _⟩
  · have hp : 0 < s.size := by omega
    have h1 := h0 hp
    have hz' : ((s.size : Int) == 0) = false := by rw [beq_eq_false_iff_ne]; omega
    clear hz h0
    go_enter Tryd.func16, Tryd.ntmps16
    go_wp2
    all_goals (go_ret2; exact ⟨rfl, Below.refl _ _⟩)

set_option maxHeartbeats 2000000 in
theorem rpath_on (s : ByteArray) (G : Option (List (List UInt8))) (w : World) (hs : s.size ≤ 100000) (h47 : (s.toList == [47]) = false) (hp : 0 < s.size) (h0 : (((s[0]'hp).toNat : Int) != 47) = false)
    (hG : Np.go [] ((s.data.toList.drop 1).take (1 - 1)) (s.data.toList.drop 1) = G) :
    Calls Tryd.prog 16 #[.string s] w (PathRes G w) := by
  have hz' : ((s.size : Int) == 0) = false := by rw [beq_eq_false_iff_ne]; omega
  have HG := Lib.hid hG; clear hG
  obtain ⟨i0, hi, hz0, hz1, hz2⟩ := info_parts Tryd.infoS
  go_enter Tryd.func16, Tryd.ntmps16
  go_wp2
  go_loopw [4, 5, 6] (fun v ff i wr => ∃ (k f : Nat) (O : List (List UInt8)), 1 ≤ f ∧ f ≤ k ∧ k ≤ s.size + 1 ∧ O.length ≤ 6 ∧ i = .int .i64 k ∧ ff = .int .i64 f ∧ wr.ownsRow w.heap.size 9 1 v O.length (cellsL O) ∧ Below w.heap.size w wr ∧
      Hid (k ≤ s.size → Np.go O ((s.data.toList.drop f).take (k - f)) (s.data.toList.drop k) = G) ∧ Hid (k = s.size + 1 → G = some O)) (fun _ _ i _ => s.size + 1 - (intOf i).toNat)
  case atStart => exact ⟨1, 1, [], by omega, by omega, by omega, by simp, rfl, rfl, World.ownsRow_nil _ _ _ _, Below.refl _ _, fun _ => HG.out, fun h => by omega⟩
  case round =>
    obtain ⟨k, f, O, hf1, hfk, hk, hO6, rfl, rfl, hown, hbw, hr1, hr2⟩ := hrel
    by_cases hle : k ≤ s.size
    · by_cases hA : ∃ hlt : k < s.size, s[k]'hlt ≠ 47
      · obtain ⟨hlt, hc⟩ := hA
        have hcb : (((s[k]'hlt).toNat : Int) != 47) = true := by
          rw [bne_iff_ne]; intro e; apply hc; exact UInt8.toNat_inj.1 (by exact_mod_cast e)
        have hcl : s.data.toList[k]'(by rw [← Lib.size_eq]; exact hlt) ≠ 47 := by rw [Array.getElem_toList]; exact hc
        have hA1 := relA hfk (by rw [← Lib.size_eq]; exact hlt) (hr1.out (by omega)) hcl
        have HA1 := Lib.hid hA1; clear hA1
        clear hc hcl
        go_wp2
        go_roundw
        case rel => exact ⟨k + 1, f, O, by omega, by omega, by omega, by omega, by go_num, rfl, hown, hbw, fun _ => HA1.out, fun h => by omega⟩
        case measure => simp [intOf]; omega
      · by_cases hlt : k < s.size
        · have hc : s[k]'hlt = 47 := Classical.byContradiction fun e => hA ⟨hlt, e⟩
          have hcb : (((s[k]'hlt).toNat : Int) != 47) = false := by rw [hc]; rfl
          have hcl : s.data.toList[k]'(by rw [← Lib.size_eq]; exact hlt) = 47 := by rw [Array.getElem_toList]; exact hc
          have Hcl := Lib.hid hcl; clear hcl
          clear hA hc
          have hk1 : (k : Int) < s.size := by omega
          have hB0 : w.heap.size ≤ wr.heap.size := hbw.size
          by_cases hgood : Np.nameB ((s.data.toList.drop f).take (k - f)) = true ∧ O.length ≠ 6
          · obtain ⟨hn, h6⟩ := hgood
            have hm := fun W => rmay_any (s.extract f k) W (by rw [ByteArray.size_extract]; omega)
            rw [Lib.extract_data, hn] at hm
            have Hm := Lib.hid hm; clear hm
            have Hn := Lib.hid hn; clear hn
            have h6b : ((O.length : Int) == 6) = false := by rw [beq_eq_false_iff_ne]; omega
            have H6 := Lib.hid h6; clear h6
            obtain ⟨A, c, hv, _, hc, hS⟩ := owns_strs hown
            rw [hv] at hown
            rw [hv]
            clear hS
            go_wp2_with (first | (go_at_call 13; refine (Hm.out _).mono ?_; rintro e w' ⟨rfl, rfl⟩) | (at_builtin; refine wpList_append_own _ rfl (.tmp 46) (.tmp 51) 25 rfl w.heap.size 9 i0 (.string ByteArray.empty) 1 16 Tryd.underlying25 hi hz0 hz1 hz2 rfl (by decide) (.slice A O.length c) O.length (cellsL O) rfl (hown.alloc _) ⟨wr.heap.size, 0, none⟩ 1 1 [.string (s.extract f k)] rfl rfl ?c1 ?c2 ?c3 ?c4 ?c5 ?_))
            case c1 => exact cell_one_new _ _ _
            case c2 => intro u hu; simp only [List.mem_singleton] at hu; subst hu; rfl
            case c3 => unfold maxLen; omega
            case c4 => omega
            case c5 => simp; omega
            intro v' w1 hown' hgrow _
            rw [cellsL_snoc O _ _ (Lib.extract_data s f k), show O.length + 1 = (O ++ [(s.data.toList.drop f).take (k - f)]).length by simp] at hown'
            have hB1 : Below w.heap.size w w1 := (hbw.alloc hB0 _).grown hgrow (by simp; omega) (fun q hq => (hown.lt q hq).1)
            obtain ⟨A', c', hv', _, _, _⟩ := owns_strs hown'
            rw [hv'] at hown'
            rw [hv']
            have HO := Lib.hid hown'
            clear hown' hown hv' hv
            go_wp2
            go_roundw
            case rel =>
              exact ⟨k + 1, k + 1, O ++ [(s.data.toList.drop f).take (k - f)], by omega, by omega, by omega, by have := H6.out; simp; omega, by go_num, by go_num, HO.out, hB1, fun _ => relB (by rw [← Lib.size_eq]; exact hlt) (hr1.out hle) Hcl.out Hn.out H6.out, fun h => by omega⟩
            case measure => simp [intOf]; omega
          · have hm := fun W => rmay_any (s.extract f k) W (by rw [ByteArray.size_extract]; omega)
            rw [Lib.extract_data] at hm
            have hbad : Np.nameB ((s.data.toList.drop f).take (k - f)) = false ∨ O.length = 6 := by
              rcases Classical.em (O.length = 6) with h | h
              · exact Or.inr h
              · left
                cases hn : Np.nameB ((s.data.toList.drop f).take (k - f)) with
                | false => rfl
                | true => exact absurd ⟨hn, h⟩ hgood
            clear hgood
            have hN := relN (hr1.out hle) (Or.inr ⟨by rw [← Lib.size_eq]; exact hlt, Hcl.out⟩) hbad
            obtain ⟨b, hb⟩ : ∃ b, b = Np.nameB ((s.data.toList.drop f).take (k - f)) := ⟨_, rfl⟩
            rw [← hb] at hm hbad
            have Hm := Lib.hid hm; clear hm
            clear hb
            obtain ⟨A, c, hv, _, hc, hS⟩ := owns_strs hown
            rw [hv]
            clear hS
            have HN := Lib.hid hN; clear hN
            rcases hbad with hb | hb
            · subst hb
              go_wp2_with (go_at_call 13; refine (Hm.out _).mono ?_; rintro e w' ⟨rfl, rfl⟩)
              go_ret2
              exact Or.inl ⟨HN.out, rfl, hbw⟩
            · have h6b : ((O.length : Int) == 6) = true := by rw [beq_iff_eq]; omega
              clear hb
              go_wp2_with (go_at_call 13; refine (Hm.out _).mono ?_; rintro e w' ⟨rfl, rfl⟩)
              all_goals (go_ret2; exact Or.inl ⟨HN.out, rfl, hbw⟩)
        · clear hA
          have hk1 : (s.size : Int) ≤ k := by omega
          have hB0 : w.heap.size ≤ wr.heap.size := hbw.size
          by_cases hgood : Np.nameB ((s.data.toList.drop f).take (k - f)) = true ∧ O.length ≠ 6
          · obtain ⟨hn, h6⟩ := hgood
            have hm := fun W => rmay_any (s.extract f k) W (by rw [ByteArray.size_extract]; omega)
            rw [Lib.extract_data, hn] at hm
            have Hm := Lib.hid hm; clear hm
            have Hn := Lib.hid hn; clear hn
            have h6b : ((O.length : Int) == 6) = false := by rw [beq_eq_false_iff_ne]; omega
            have H6 := Lib.hid h6; clear h6
            obtain ⟨A, c, hv, _, hc, hS⟩ := owns_strs hown
            rw [hv] at hown
            rw [hv]
            clear hS
            go_wp2_with (first | (go_at_call 13; refine (Hm.out _).mono ?_; rintro e w' ⟨rfl, rfl⟩) | (at_builtin; refine wpList_append_own _ rfl (.tmp 46) (.tmp 51) 25 rfl w.heap.size 9 i0 (.string ByteArray.empty) 1 16 Tryd.underlying25 hi hz0 hz1 hz2 rfl (by decide) (.slice A O.length c) O.length (cellsL O) rfl (hown.alloc _) ⟨wr.heap.size, 0, none⟩ 1 1 [.string (s.extract f k)] rfl rfl ?c1 ?c2 ?c3 ?c4 ?c5 ?_))
            case c1 => exact cell_one_new _ _ _
            case c2 => intro u hu; simp only [List.mem_singleton] at hu; subst hu; rfl
            case c3 => unfold maxLen; omega
            case c4 => omega
            case c5 => simp; omega
            intro v' w1 hown' hgrow _
            rw [cellsL_snoc O _ _ (Lib.extract_data s f k), show O.length + 1 = (O ++ [(s.data.toList.drop f).take (k - f)]).length by simp] at hown'
            have hB1 : Below w.heap.size w w1 := (hbw.alloc hB0 _).grown hgrow (by simp; omega) (fun q hq => (hown.lt q hq).1)
            obtain ⟨A', c', hv', _, _, _⟩ := owns_strs hown'
            rw [hv'] at hown'
            rw [hv']
            have HO := Lib.hid hown'
            clear hown' hown hv' hv
            go_wp2
            go_roundw
            case rel =>
              exact ⟨k + 1, k + 1, O ++ [(s.data.toList.drop f).take (k - f)], by omega, by omega, by omega, by have := H6.out; simp; omega, by go_num, by go_num, HO.out, hB1, fun h => by omega, fun _ => relE (by rw [← Lib.size_eq]; omega) (hr1.out hle) Hn.out H6.out⟩
            case measure => simp [intOf]; omega
          · have hm := fun W => rmay_any (s.extract f k) W (by rw [ByteArray.size_extract]; omega)
            rw [Lib.extract_data] at hm
            have hbad : Np.nameB ((s.data.toList.drop f).take (k - f)) = false ∨ O.length = 6 := by
              rcases Classical.em (O.length = 6) with h | h
              · exact Or.inr h
              · left
                cases hn : Np.nameB ((s.data.toList.drop f).take (k - f)) with
                | false => rfl
                | true => exact absurd ⟨hn, h⟩ hgood
            clear hgood
            have hN := relN (hr1.out hle) (Or.inl (by rw [← Lib.size_eq]; omega)) hbad
            obtain ⟨b, hb⟩ : ∃ b, b = Np.nameB ((s.data.toList.drop f).take (k - f)) := ⟨_, rfl⟩
            rw [← hb] at hm hbad
            have Hm := Lib.hid hm; clear hm
            clear hb
            obtain ⟨A, c, hv, _, hc, hS⟩ := owns_strs hown
            rw [hv]
            clear hS
            have HN := Lib.hid hN; clear hN
            rcases hbad with hb | hb
            · subst hb
              go_wp2_with (go_at_call 13; refine (Hm.out _).mono ?_; rintro e w' ⟨rfl, rfl⟩)
              go_ret2
              exact Or.inl ⟨HN.out, rfl, hbw⟩
            · have h6b : ((O.length : Int) == 6) = true := by rw [beq_iff_eq]; omega
              clear hb
              go_wp2_with (go_at_call 13; refine (Hm.out _).mono ?_; rintro e w' ⟨rfl, rfl⟩)
              all_goals (go_ret2; exact Or.inl ⟨HN.out, rfl, hbw⟩)
    · have hk1 : (s.size : Int) < k := by omega
      obtain ⟨A, c, hv, _, hc, hS⟩ := owns_strs hown
      rw [hv]
      have HS := Lib.hid hS; clear hS
      clear hv
      go_wp2
      go_ret2
      exact Or.inr ⟨O, hr2.out (by omega), A, c, rfl, hc, HS.out, hbw⟩

/-- Path, by the reference -/
theorem rpath_any (s : ByteArray) (w : World) (hs : s.size ≤ 100000) :
    Calls Tryd.prog 16 #[.string s] w (PathRes (Np.pathL s.data.toList) w) := by
  by_cases h47 : s.data.toList = [47]
  · obtain rfl : s = ⟨#[47]⟩ := ba_ext h47
    exact (rpath_root w).mono fun e w' h => Or.inr ⟨[], rfl, h⟩
  · have h47' : (s.toList == [47]) = false := by rw [Lib.toList_data]; exact beq_eq_false_iff_ne.2 h47
    cases hl : s.data.toList with
    | nil =>
      have hz : s.size = 0 := by rw [Lib.size_eq, hl]; rfl
      exact (rpath_off s w hs h47' (fun h => by omega)).mono fun e w' h => Or.inl ⟨rfl, h⟩
    | cons c r =>
      have hz : 0 < s.size := by rw [Lib.size_eq, hl]; simp
      have hc : s[0]'hz = c := by
        have : s.data.toList[0]'(by rw [hl]; simp) = c := by simp [hl]
        rw [Array.getElem_toList] at this
        exact this
      by_cases h : c = 47
      · subst h
        have hr : r ≠ [] := fun e => h47 (by rw [hl, e])
        exact rpath_on s _ w hs h47' hz (by rw [hc]; rfl) (by rw [hl, Np.pathL_go r hr]; rfl)
      · refine (rpath_off s w hs h47' (fun _ => ?_)).mono fun e w' h2 => Or.inl ⟨by rw [Np.pathL, if_neg h], h2⟩
        rw [hc, bne_iff_ne]
        intro e
        exact h (UInt8.toNat_inj.1 (by exact_mod_cast e))

end Go.Proofs.YtoadbipcfolheaaDoor
