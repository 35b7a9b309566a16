/- Walks: the laws NamesPaths and NamesParents. -/
import Derived.Test.YtoadbipcfolheaaDoorNamesWalkF
namespace Go.Proofs.YtoadbipcfolheaaDoor
open Go.RowKit

theorem same_nil (w : World) : Calls Tryd.prog 17 #[.slice none 0 0, .slice none 0 0] w fun e w' => e = .returned (.bool true) ∧ Below w.heap.size w w' := by
  have h := same_any none none [] [] 0 0 0 w (by simp) (by simp) (Or.inl rfl) (Or.inl rfl)
  exact h

set_option maxHeartbeats 1000000 in
theorem paths_core (s t : ByteArray) (ht : t = fewB s) (w : World) (hs : s.size ≤ 9223372036854775807) (hM : Mx w) :
    Calls Tryd.prog 4 #[.string s] w fun e w' => e = .returned (.bool true) ∧ Below w.heap.size w w' := by
  have h0 := fun W => few_any s W hs
  have hsz := fewB_size s
  rw [← ht] at h0 hsz
  clear ht
  have H0 := Lib.hid h0; clear h0
  have HM := Lib.hid hM; clear hM
  cases hG : Np.pathL t.data.toList with
  | none =>
    have h1 := fun W hW => pathN t W (by omega) hW hG
    have h2 := fun W => rpathN t W (by omega) hG
    have H1 := Lib.hid h1; clear h1
    have H2 := Lib.hid h2; clear h2 hG
    go_enter Tryd.func4, Tryd.ntmps4
    go_wp2_with fail
    refine (H0.out _).mono ?_
    rintro e w' ⟨rfl, rfl⟩
    go_wp2_with fail
    refine (H1.out _ HM.out).mono ?_
    rintro e w1 ⟨rfl, hb1⟩
    have HM1 := Lib.hid (HM.out.keep hb1)
    go_wp2_with fail
    refine (H2.out _).mono ?_
    rintro e w2 ⟨rfl, hb2⟩
    have HM2 := Lib.hid (HM1.out.keep hb2)
    go_wp2_with fail
    refine (same_nil _).mono ?_
    rintro e w3 ⟨rfl, hb3⟩
    have HM3 := Lib.hid (HM2.out.keep hb3)
    have hB : Below w.heap.size w w3 := (hb1.trans (hb2.mono hb1.size)).trans (hb3.mono (by have := hb1.size; have := hb2.size; omega))
    go_wp2_with fail
    refine (lives_any _ HM3.out).mono ?_
    rintro e w4 ⟨rfl, hb4⟩
    go_wp2
    go_ret
    exact ⟨rfl, hB.trans (hb4.mono hB.size)⟩
  | some L =>
    have h1 := fun W hW => pathY t L W (by omega) hW hG
    have h2 := fun W => rpathY t L W (by omega) hG
    have hl6 := (pathL_names hG).1
    have H1 := Lib.hid h1; clear h1
    have H2 := Lib.hid h2; clear h2 hG
    go_enter Tryd.func4, Tryd.ntmps4
    go_wp2_with fail
    refine (H0.out _).mono ?_
    rintro e w' ⟨rfl, rfl⟩
    go_wp2_with fail
    refine (H1.out _ HM.out).mono ?_
    rintro e w1 ⟨A, c, rfl, hc, hS, hb1⟩
    have HM1 := Lib.hid (HM.out.keep hb1)
    have HS := Lib.hid hS; clear hS
    go_wp2_with fail
    refine (H2.out _).mono ?_
    rintro e w2 ⟨A', c', rfl, hc', hS', hb2⟩
    have HM2 := Lib.hid (HM1.out.keep hb2)
    have hsame := same_any A A' L L c c' 0 w2 (by omega) (by omega) ((HS.out.keep hb2).low (Nat.zero_le _)) (hS'.low (Nat.zero_le _))
    rw [decide_eq_true rfl] at hsame
    have HSame := Lib.hid hsame; clear hsame hS'
    go_wp2_with fail
    refine HSame.out.mono ?_
    rintro e w3 ⟨rfl, hb3⟩
    have HM3 := Lib.hid (HM2.out.keep hb3)
    have hB : Below w.heap.size w w3 := (hb1.trans (hb2.mono hb1.size)).trans (hb3.mono (by have := hb1.size; have := hb2.size; omega))
    go_wp2_with fail
    refine (lives_any _ HM3.out).mono ?_
    rintro e w4 ⟨rfl, hb4⟩
    go_wp2
    go_ret
    exact ⟨rfl, hB.trans (hb4.mono hB.size)⟩
theorem law_paths (s : ByteArray) (w : World) (hs : s.size ≤ 9223372036854775807) (hM : Mx w) :
    Calls Tryd.prog 4 #[.string s] w fun e w' => e = .returned (.bool true) ∧ Below w.heap.size w w' := paths_core s _ rfl w hs hM

set_option maxHeartbeats 1000000 in
theorem parents_core (s t : ByteArray) (ht : t = fewB s) (w : World) (hs : s.size ≤ 9223372036854775807) (hM : Mx w) :
    Calls Tryd.prog 5 #[.string s] w fun e w' => e = .returned (.bool true) ∧ Below w.heap.size w w' := by
  have h0 := fun W => few_any s W hs
  have hsz := fewB_size s
  rw [← ht] at h0 hsz
  clear ht
  have H0 := Lib.hid h0; clear h0
  have HM := Lib.hid hM; clear hM
  rcases Classical.em (Np.pathL t.data.toList = none) with hG | hG
  · have h1 := fun W hW => parentN t W (by omega) hW (Or.inl hG)
    have h2 := fun W => rpathN t W (by omega) hG
    have H1 := Lib.hid h1; clear h1
    have H2 := Lib.hid h2; clear h2 hG
    go_enter Tryd.func5, Tryd.ntmps5
    go_wp2_with fail
    refine (H0.out _).mono ?_
    rintro e w' ⟨rfl, rfl⟩
    go_wp2_with fail
    refine (H1.out _ HM.out).mono ?_
    rintro e w1 ⟨rfl, hb1⟩
    have HM1 := Lib.hid (HM.out.keep hb1)
    go_wp2_with fail
    refine (H2.out _).mono ?_
    rintro e w2 ⟨rfl, hb2⟩
    have HM2 := Lib.hid (HM1.out.keep hb2)
    have hB : Below w.heap.size w w2 := hb1.trans (hb2.mono hb1.size)
    go_wp2_with fail
    refine (lives_any _ HM2.out).mono ?_
    rintro e w4 ⟨rfl, hb4⟩
    go_wp2
    go_ret
    exact ⟨rfl, hB.trans (hb4.mono hB.size)⟩
  rcases Classical.em (Np.pathL t.data.toList = some []) with hG2 | hG2
  · have h1 := fun W hW => parentN t W (by omega) hW (Or.inr hG2)
    have h2 := fun W => rpathY t [] W (by omega) hG2
    have H1 := Lib.hid h1; clear h1
    have H2 := Lib.hid h2; clear h2 hG2 hG
    go_enter Tryd.func5, Tryd.ntmps5
    go_wp2_with fail
    refine (H0.out _).mono ?_
    rintro e w' ⟨rfl, rfl⟩
    go_wp2_with fail
    refine (H1.out _ HM.out).mono ?_
    rintro e w1 ⟨rfl, hb1⟩
    have HM1 := Lib.hid (HM.out.keep hb1)
    go_wp2_with fail
    refine (H2.out _).mono ?_
    rintro e w2 ⟨A, c, rfl, hc, hS, hb2⟩
    clear hS
    have HM2 := Lib.hid (HM1.out.keep hb2)
    have hB : Below w.heap.size w w2 := hb1.trans (hb2.mono hb1.size)
    go_wp2_with fail
    refine (lives_any _ HM2.out).mono ?_
    rintro e w4 ⟨rfl, hb4⟩
    go_wp2
    go_ret
    exact ⟨rfl, hB.trans (hb4.mono hB.size)⟩
  obtain ⟨L, x, hL⟩ : ∃ L x, Np.pathL t.data.toList = some (L ++ [x]) := by
    cases h : Np.pathL t.data.toList with
    | none => exact absurd h hG
    | some M =>
      have hne : M ≠ [] := fun e => hG2 (by rw [h, e])
      exact ⟨M.dropLast, M.getLast hne, by rw [List.dropLast_concat_getLast hne]⟩
  have h1 := fun W hW => parentY t L x W (by omega) hW hL
  have h2 := fun W => rpathY t (L ++ [x]) W (by omega) hL
  have hl6 := (pathL_names hL).1
  obtain ⟨n, hn⟩ : ∃ n, n = L.length := ⟨_, rfl⟩
  have hn1 : (L ++ [x]).length = n + 1 := by simp [hn]
  have hn6 : n ≤ 6 := by omega
  have hsame := fun A A' c W => same_any A A' L L n c 0 W (by omega) (by omega)
  rw [← hn, decide_eq_true rfl] at hsame
  have hP : ∀ W, Calls Tryd.prog 16 #[.string t] W fun e w' => ∃ b o c, e = .returned (.tuple #[.slice (some ⟨b, o, none⟩) (n + 1) c, .int .i64 0]) ∧ n + 1 ≤ c ∧ w'.cell? ⟨b, o + n, none⟩ = some (.string ⟨x.toArray⟩) ∧ Strs w' 0 (some ⟨b, o, none⟩) L ∧ b < w'.heap.size ∧ Below W.heap.size W w' := fun W => by
    refine (h2 W).mono fun e w' ⟨A, c, he, hc, hS, hB⟩ => ?_
    rcases hS with h0 | ⟨b, o, rfl, h1, h2, h3, h4⟩
    · simp at h0
    · exact ⟨b, o, c, by rw [he, hn1], by rw [← hn1]; exact hc, h3 n x (by rw [hn]; simp), Or.inr ⟨b, o, rfl, Nat.zero_le _, h2, fun j y hy => h3 j y (by rw [List.getElem?_append_left (List.getElem?_eq_some_iff.1 hy).1]; exact hy), h4⟩, h2, hB⟩
  have hPar : ∀ W, Mx W → Calls Tryd.prog 18 #[.string t] W fun e w' => ∃ A, e = .returned (.tuple #[.slice A n n, .string ⟨x.toArray⟩, .int .i64 0]) ∧ Strs w' 0 A L ∧ Below W.heap.size W w' := fun W hW => by
    refine (h1 W hW).mono fun e w' ⟨A, he, hS, hB⟩ => ⟨A, by rw [he, hn], hS.low (Nat.zero_le _), hB⟩
  have H1 := Lib.hid hPar
  have H2 := Lib.hid hP
  have H3 := Lib.hid hsame
  clear hPar hP hsame h1 h2 hL hG hG2 hn hn1 hl6
  go_enter Tryd.func5, Tryd.ntmps5
  go_wp2_with fail
  refine (H0.out _).mono ?_
  rintro e w' ⟨rfl, rfl⟩
  go_wp2_with fail
  refine (H1.out _ HM.out).mono ?_
  rintro e w1 ⟨A, rfl, hS, hb1⟩
  have HM1 := Lib.hid (HM.out.keep hb1)
  have HS := Lib.hid hS; clear hS
  go_wp2_with fail
  refine (H2.out _).mono ?_
  rintro e w2 ⟨b, o, c, rfl, hc, hcell, hS2, hbl, hb2⟩
  have HM2 := Lib.hid (HM1.out.keep hb2)
  have hs3 := H3.out A (some ⟨b, o, none⟩) c w2 (HS.out.keep hb2) hS2
  have HS3 := Lib.hid hs3
  clear hs3 hS2
  have hi3 : (n : Int) ≤ c := by omega
  go_wp2_with fail
  refine HS3.out.mono ?_
  rintro e w3 ⟨rfl, hb3⟩
  have HM3 := Lib.hid (HM2.out.keep hb3)
  have hcell3 := (hb3.cell (p := ⟨b, o + n, none⟩) hbl).trans hcell
  clear hcell
  have hB : Below w.heap.size w w3 := (hb1.trans (hb2.mono hb1.size)).trans (hb3.mono (by have := hb1.size; have := hb2.size; omega))
  go_wp2_with fail
  refine (lives_any _ HM3.out).mono ?_
  rintro e w4 ⟨rfl, hb4⟩
  go_wp2
  go_ret
  exact ⟨rfl, hB.trans (hb4.mono hB.size)⟩
theorem law_parents (s : ByteArray) (w : World) (hs : s.size ≤ 9223372036854775807) (hM : Mx w) :
    Calls Tryd.prog 5 #[.string s] w fun e w' => e = .returned (.bool true) ∧ Below w.heap.size w w' := parents_core s _ rfl w hs hM

end Go.Proofs.YtoadbipcfolheaaDoor
