/- Walks: the law NamesOwns. -/
import Derived.Test.YtoadbipcfolheaaDoorNamesWalkG
import Derived.ArgAppend
namespace Go.Proofs.YtoadbipcfolheaaDoor
open Go.RowKit

/-- what Path tells, be it a path or not -/
def PathU (L : List (List UInt8)) (v : Int) (w : World) (e : Ending) (w' : World) : Prop :=
  ∃ A c, e = .returned (.tuple #[.slice A L.length c, .int .i64 v]) ∧ L.length ≤ c ∧ Strs w' w.heap.size A L ∧ Below w.heap.size w w'
theorem path_both (t : ByteArray) (ht : t.size ≤ 100000) : ∃ (L : List (List UInt8)) (v : Int), L.length ≤ 6 ∧ (∀ W, Mx W → Calls Tryd.prog 15 #[.string t] W (PathU L v W)) ∧ (∀ W, Calls Tryd.prog 16 #[.string t] W (PathU L v W)) := by
  cases hG : Np.pathL t.data.toList with
  | none =>
    exact ⟨[], 15, by simp, fun W hW => (pathN t W ht hW hG).mono fun e w' ⟨h, hb⟩ => ⟨none, 0, h, Nat.le_refl _, Or.inl rfl, hb⟩,
      fun W => (rpathN t W ht hG).mono fun e w' ⟨h, hb⟩ => ⟨none, 0, h, Nat.le_refl _, Or.inl rfl, hb⟩⟩
  | some L =>
    exact ⟨L, 0, (pathL_names hG).1, fun W hW => (pathY t L W ht hW hG).mono fun e w' ⟨A, c, h, hc, hS, hb⟩ => ⟨A, c, h, hc, hS, hb⟩,
      fun W => (rpathY t L W ht hG).mono fun e w' ⟨A, c, h, hc, hS, hb⟩ => ⟨A, c, h, hc, hS, hb⟩⟩
theorem parent_both (t : ByteArray) (ht : t.size ≤ 100000) : ∃ (L : List (List UInt8)) (x : ByteArray) (v : Int), L.length ≤ 6 ∧ (∀ W, Mx W → Calls Tryd.prog 18 #[.string t] W fun e w' => ∃ A, e = .returned (.tuple #[.slice A L.length L.length, .string x, .int .i64 v]) ∧ Strs w' 0 A L ∧ Below W.heap.size W w') := by
  rcases Classical.em (Np.pathL t.data.toList = none ∨ Np.pathL t.data.toList = some []) with hG | hG
  · exact ⟨[], ⟨#[]⟩, 15, by simp, fun W hW => (parentN t W ht hW hG).mono fun e w' ⟨h, hb⟩ => ⟨none, h, Or.inl rfl, hb⟩⟩
  · obtain ⟨L, x, hL⟩ : ∃ L x, Np.pathL t.data.toList = some (L ++ [x]) := by
      cases h : Np.pathL t.data.toList with
      | none => exact absurd (Or.inl h) hG
      | some M =>
        have hne : M ≠ [] := fun e => hG (Or.inr (by rw [h, e]))
        exact ⟨M.dropLast, M.getLast hne, by rw [List.dropLast_concat_getLast hne]⟩
    have h6 := (pathL_names hL).1
    exact ⟨L, ⟨x.toArray⟩, 0, by simp at h6; omega, fun W hW => (parentY t L x W ht hW hL).mono fun e w' ⟨A, h, hS, hb⟩ => ⟨A, h, hS.low (Nat.zero_le _), hb⟩⟩

/-- cells of one's own that may be written over -/
def Over (w : World) (B : Nat) (A : Option Addr) (n : Nat) : Prop :=
  n = 0 ∨ ∃ b o, A = some ⟨b, o, none⟩ ∧ B ≤ b ∧ b < w.heap.size ∧ (∀ j, j < n → ∃ u, w.cell? ⟨b, o + j, none⟩ = some u) ∧ ∀ j, w.frozen? ⟨b, j, none⟩ = false
theorem over_of {w : World} {B : Nat} {A : Option Addr} {L : List (List UInt8)} (h : Strs w B A L) : Over w B A L.length := by
  rcases h with h | ⟨b, o, h1, h2, h3, h4, h5⟩
  · exact Or.inl (by rw [h]; rfl)
  · exact Or.inr ⟨b, o, h1, h2, h3, fun j hj => ⟨_, h4 j _ (List.getElem?_eq_getElem hj)⟩, h5⟩
theorem setCell_some {w : World} {p q : Addr} {x v : Value} (h : w.cell? q = some v) : ∃ v', (w.setCell p x).cell? q = some v' := by
  by_cases e : p = q
  · subst e; exact ⟨x, World.cell?_setCell_same _ _ _ h⟩
  · exact ⟨v, by rw [World.cell?_setCell_other (h := e)]; exact h⟩

set_option maxHeartbeats 2000000 in
theorem owns_core (s t : ByteArray) (ht : t = fewB s) (w : World) (hs : s.size ≤ 9223372036854775807) (hM : Mx w) :
    Calls Tryd.prog 7 #[.string s] w fun e w' => e = .returned (.bool true) ∧ Below w.heap.size w w' := by
  have h0 := fun W => few_any s W hs
  have hsz := fewB_size s
  rw [← ht] at h0 hsz
  clear ht
  have H0 := Lib.hid h0; clear h0
  have HM := Lib.hid hM; clear hM
  obtain ⟨L, v, hl6, h1, h2⟩ := path_both t (by omega)
  obtain ⟨M, x, v2, hm6, h3⟩ := parent_both t (by omega)
  have hq := fun A A' c c' W => same_any A A' L L c c' 0 W (by omega) (by omega)
  rw [decide_eq_true rfl] at hq
  unfold PathU at h1 h2
  obtain ⟨n, hn⟩ : ∃ n, n = L.length := ⟨_, rfl⟩
  have hov : ∀ W B A, Strs W B A L → Over W B A n := fun W B A h => by rw [hn]; exact over_of h
  rw [← hn] at h1 h2 hq hl6
  clear hn
  obtain ⟨m, hm⟩ : ∃ m, m = M.length := ⟨_, rfl⟩
  have hcl : (cellsL M).length = m * 1 := by unfold cellsL; simp [hm]
  rw [← hm] at h3 hm6
  have Hm := Lib.hid hm
  clear hm
  have H1 := Lib.hid h1; clear h1
  have H2 := Lib.hid h2; clear h2
  have H3 := Lib.hid h3; clear h3
  have HQ := Lib.hid hq; clear hq
  have HO := Lib.hid hov; clear hov
  obtain ⟨i0, hi, hz0, hz1, hz2⟩ := info_parts Tryd.infoS
  go_enter Tryd.func7, Tryd.ntmps7
  go_wp2_with fail
  refine (H0.out _).mono ?_
  rintro e w' ⟨rfl, rfl⟩
  go_wp2_with fail
  refine (H1.out _ HM.out).mono ?_
  rintro e w1 ⟨A, c, rfl, hc, hS, hb1⟩
  have HV := Lib.hid (HO.out _ _ _ hS)
  clear hS
  go_wp2
  go_loopw [5] (fun i wr => ∃ k : Nat, k ≤ n ∧ i = .int .i64 k ∧ Hid (Over wr w.heap.size A n) ∧ Below w.heap.size w wr) (fun i _ => n - (intOf i).toNat)
  case atStart => exact ⟨0, by omega, rfl, HV.out, hb1⟩
  case round =>
    obtain ⟨k, hk, rfl, hov, hbw⟩ := hrel
    by_cases hlt : k < n
    · rcases hov.out with h | ⟨b, o, rfl, h2, h3, h4, h5⟩
      · omega
      obtain ⟨u, hu⟩ := h4 k hlt
      have hf := h5 (o + k)
      have h4' := Lib.hid h4
      have h5' := Lib.hid h5
      clear h4 h5
      have hk1 : (0 : Int) ≤ k := by omega
      have hk2 : (k : Int) < n := by omega
      go_wp2
      go_roundw
      case rel =>
        exact ⟨k + 1, by omega, by go_num, Or.inr ⟨b, o, rfl, h2, by simpa [World.setCell] using h3, fun j hj => by obtain ⟨u', hu'⟩ := h4'.out j hj; exact setCell_some hu', fun j => by simpa using h5'.out j⟩, hbw.setCell h2 _⟩
      case measure => simp [intOf]; omega
    · have hbB := hbw.size
      have HM1 := Lib.hid (HM.out.keep hbw)
      go_wp2_with fail
      refine (H3.out _ HM1.out).mono ?_
      rintro e w3 ⟨A3, rfl, hS3, hb3⟩
      have hB3 : Below w.heap.size w w3 := hbw.trans (hb3.mono hbB)
      have hnone : A3 = none → m = 0 ∧ m = 0 := fun h => by
        rcases hS3 with h' | ⟨b, o, h1, _⟩
        · have := Hm.out; rw [h'] at this; exact ⟨this, this⟩
        · rw [h] at h1; cases h1
      have holds : ∀ (ob : Obj) b, A3 = some b → ∀ j u, (cellsL M)[j]? = some u → (w3.alloc ob).cell? (b.add j) = some u := fun ob b hb j u hu => by
        unfold cellsL at hu
        rw [List.getElem?_map] at hu
        cases hj : M[j]? with
        | none => rw [hj] at hu; cases hu
        | some y =>
          rw [hj] at hu
          cases hu
          rcases hS3 with h' | ⟨b', o, h1, h2, h3, h4, _⟩
          · rw [h'] at hj; cases hj
          · rw [hb] at h1
            obtain rfl := Option.some.inj h1
            rw [Addr.add_lit, ((Below.refl w3.heap.size w3).alloc (Nat.le_refl _) ob).cell (p := ⟨b', o + j, none⟩) h3]
            exact h4 j y hj
      have HM3 := Lib.hid (HM1.out.keep (hb3.mono (Nat.le_refl _)))
      clear hS3
      go_wp2_with (at_builtin; refine wpList_append_grows _ rfl _ _ 25 rfl 9 i0 (.string ByteArray.empty) 1 16 Tryd.underlying25 hi hz0 hz1 hz2 rfl (by decide) A3 m m (cellsL M) rfl hnone hcl (holds _) ⟨w3.heap.size, 0, none⟩ 1 1 [.string ⟨#[121]⟩] rfl rfl ?c1 ?c2 ?c3 ?c4 ?c5 ?_)
      case c1 => exact cell_one_new _ _ _
      case c2 => intro u hu; simp only [List.mem_singleton] at hu; subst hu; rfl
      case c3 => omega
      case c4 => unfold maxLen; omega
      case c5 => omega
      intro v' w4 hown hgrow
      have hB4 : Below w.heap.size w w4 := (hB3.alloc hB3.size _).grown hgrow (by have := hB3.size; simp; omega) (fun q hq => by cases hq)
      obtain ⟨g, cap, hv'⟩ : ∃ g cap, v' = .slice g (m + 1) cap := by
        rcases hown.2 with ⟨_, h0⟩ | ⟨g, cap, cur, h0, _⟩
        · omega
        · exact ⟨_, cap, h0⟩
      subst hv'
      clear hown hgrow holds hnone
      have hp1 : (0 : Int) < (m : Int) + 1 := by omega
      have hp2 : (0 : Int) < ((m + 1 : Nat) : Int) := by omega
      have HM4 := Lib.hid (HM.out.keep hB4)
      go_wp2_with fail
      refine (H1.out _ HM4.out).mono ?_
      rintro e w5 ⟨A5, c5, rfl, hc5, hS5, hb5⟩
      have hB5 : Below w.heap.size w w5 := hB4.trans (hb5.mono hB4.size)
      have HS5 := Lib.hid hS5; clear hS5
      go_wp2_with fail
      refine (H2.out _).mono ?_
      rintro e w6 ⟨A6, c6, rfl, hc6, hS6, hb6⟩
      have hB6 : Below w.heap.size w w6 := hB5.trans (hb6.mono hB5.size)
      have HS6 := Lib.hid hS6; clear hS6
      go_wp2_with fail
      refine (HQ.out _ _ _ _ _ ((HS5.out.keep hb6).low (Nat.zero_le _)) (HS6.out.low (Nat.zero_le _))).mono ?_
      rintro e w7 ⟨rfl, hb7⟩
      have hB7 : Below w.heap.size w w7 := hB6.trans (hb7.mono hB6.size)
      go_wp2_with fail
      refine (lives_any _ (HM.out.keep hB7)).mono ?_
      rintro e w8 ⟨rfl, hb8⟩
      go_wp2
      go_ret
      exact ⟨rfl, hB7.trans (hb8.mono hB7.size)⟩

theorem law_owns (s : ByteArray) (w : World) (hs : s.size ≤ 9223372036854775807) (hM : Mx w) :
    Calls Tryd.prog 7 #[.string s] w fun e w' => e = .returned (.bool true) ∧ Below w.heap.size w w' := owns_core s _ rfl w hs hM

end Go.Proofs.YtoadbipcfolheaaDoor
