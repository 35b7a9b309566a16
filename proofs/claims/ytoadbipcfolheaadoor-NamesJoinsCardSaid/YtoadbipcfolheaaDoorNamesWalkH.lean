/- Walks: slices.Equal at texts, names.Inside, commonsref05.Inside, the law NamesInside. -/
import Derived.Test.YtoadbipcfolheaaDoorNamesWalkG
namespace Go.Proofs.YtoadbipcfolheaaDoor
open Go.RowKit

theorem Strs.take {w : World} {B : Nat} {A : Option Addr} {L : List (List UInt8)} (h : Strs w B A L) (n : Nat) : Strs w B A (L.take n) := by
  rcases h with h | ⟨b, o, h1, h2, h3, h4, h5⟩
  · exact Or.inl (by rw [h]; simp)
  · exact Or.inr ⟨b, o, h1, h2, h3, fun j x hx => h4 j x (by
      rw [List.getElem?_take] at hx
      split at hx
      · exact hx
      · cases hx), h5⟩

/-- slices.Equal at two lists of texts -/
theorem equal_any (A A' : Option Addr) (L M : List (List UInt8)) (c c' : Nat) (w : World) (hL : L.length ≤ 1000000) (hM : M.length ≤ 1000000) (hS : Strs w 0 A L) (hS' : Strs w 0 A' M) :
    Calls Tryd.prog 30 #[.slice A L.length c, .slice A' M.length c'] w fun e w' => e = .returned (.bool (decide (L = M))) ∧ Below w.heap.size w w' := by
  by_cases hne : L.length = M.length
  · rcases hS with h | ⟨b, o, rfl, _, h3, h4, _⟩
    · subst h
      obtain rfl : M = [] := List.length_eq_zero_iff.1 (by rw [← hne]; rfl)
      refine (Tryd.slices_Equal_string_empty A A' c 0 c' w (by omega)).mono fun e w' ⟨he, hw⟩ => ?_
      subst hw
      exact ⟨by rw [he]; rfl, Below.refl _ _⟩
    · rcases hS' with h | ⟨b', o', rfl, _, h3', h4', _⟩
      · subst h
        obtain rfl : L = [] := List.length_eq_zero_iff.1 hne
        refine (Tryd.slices_Equal_string_empty (some ⟨b, o, none⟩) A' c 0 c' w (by omega)).mono fun e w' ⟨he, hw⟩ => ?_
        subst hw
        exact ⟨by rw [he]; rfl, Below.refl _ _⟩
      · have hg : ∀ (K : List (List UInt8)) (j : Nat), j < (K.map fun x => (⟨x.toArray⟩ : ByteArray)).length → ∃ x, K[j]? = some x ∧ (K.map fun x => (⟨x.toArray⟩ : ByteArray)).getD j ByteArray.empty = ⟨x.toArray⟩ := fun K j hj => by
          rw [List.length_map] at hj
          refine ⟨K[j], List.getElem?_eq_getElem hj, ?_⟩
          rw [List.getD_eq_getElem?_getD, List.getElem?_map, List.getElem?_eq_getElem hj]
          rfl
        have h := Tryd.slices_Equal_string b o L.length c b' o' M.length c' (L.map fun x => ⟨x.toArray⟩) (M.map fun x => ⟨x.toArray⟩) w (by simp) (by simp) (by omega) (by omega)
          (fun j hj => by obtain ⟨x, hx, hd⟩ := hg L j hj; rw [hd]; exact h4 j x hx) (fun j hj => by obtain ⟨x, hx, hd⟩ := hg M j hj; rw [hd]; exact h4' j x hx)
        refine h.mono fun e w' ⟨he, q, hw⟩ => ?_
        subst hw
        refine ⟨?_, below_drewN (Below.refl _ _) _⟩
        rw [he]
        apply ret_bool
        rw [List.take_of_length_le (by simp), List.take_of_length_le (by simp)]
        have hinj : ∀ K N : List (List UInt8), (K.map fun x => (⟨x.toArray⟩ : ByteArray)) = (N.map fun x => (⟨x.toArray⟩ : ByteArray)) ↔ K = N := fun K N => by
          constructor
          · intro h
            have := congrArg (List.map fun b : ByteArray => b.data.toList) h
            simpa [Function.comp_def] using this
          · intro h; rw [h]
        simp only [hinj]
  · refine (Tryd.slices_Equal_string_lens A A' L.length c M.length c' w hne).mono fun e w' ⟨he, hw⟩ => ?_
    subst hw
    exact ⟨by rw [he, decide_eq_false (fun h => hne (by rw [h]))], Below.refl _ _⟩

def insideB (G H : Option (List (List UInt8))) : Bool :=
  match G, H with
  | some L, some M => decide (M.length ≤ L.length) && decide (L.take M.length = M)
  | _, _ => false
theorem inside_none (H : Option (List (List UInt8))) : insideB none H = false := rfl
theorem inside_none2 (G : Option (List (List UInt8))) : insideB G none = false := by cases G <;> rfl
theorem inside_self (L : List (List UInt8)) : insideB (some L) (some L) = true := by simp [insideB]
theorem inside_root (L : List (List UInt8)) : insideB (some L) (some []) = true := by simp [insideB]

set_option maxHeartbeats 2000000 in
theorem inside_any (s t : ByteArray) (w : World) (hs : s.size ≤ 100000) (ht : t.size ≤ 100000) (hM : Mx w) :
    Calls Tryd.prog 21 #[.string s, .string t] w fun e w' => e = .returned (.bool (insideB (Np.pathL s.data.toList) (Np.pathL t.data.toList))) ∧ Below w.heap.size w w' := by
  have HM := Lib.hid hM; clear hM
  cases hG : Np.pathL s.data.toList with
  | none =>
    rw [inside_none]
    have h1 := fun W hW => pathN s W hs hW hG
    have H1 := Lib.hid h1; clear h1 hG
    cases hH : Np.pathL t.data.toList with
    | none =>
      have h2 := fun W hW => pathN t W ht hW hH
      have H2 := Lib.hid h2; clear h2 hH
      go_enter Tryd.func21, Tryd.ntmps21
      go_wp2_with fail
      refine (H1.out _ HM.out).mono ?_
      rintro e w1 ⟨rfl, hb1⟩
      have HM1 := Lib.hid (HM.out.keep hb1)
      go_wp2_with fail
      refine (H2.out _ HM1.out).mono ?_
      rintro e w2 ⟨rfl, hb2⟩
      go_wp2
      go_ret
      exact ⟨rfl, hb1.trans (hb2.mono hb1.size)⟩
    | some M =>
      have h2 := fun W hW => pathY t M W ht hW hH
      have H2 := Lib.hid h2; clear h2 hH
      go_enter Tryd.func21, Tryd.ntmps21
      go_wp2_with fail
      refine (H1.out _ HM.out).mono ?_
      rintro e w1 ⟨rfl, hb1⟩
      have HM1 := Lib.hid (HM.out.keep hb1)
      go_wp2_with fail
      refine (H2.out _ HM1.out).mono ?_
      rintro e w2 ⟨A', c', rfl, hc', hS', hb2⟩
      clear hS'
      go_wp2
      go_ret
      exact ⟨rfl, hb1.trans (hb2.mono hb1.size)⟩
  | some L =>
    have h1 := fun W hW => pathY s L W hs hW hG
    have hl6 := (pathL_names hG).1
    have H1 := Lib.hid h1; clear h1 hG
    cases hH : Np.pathL t.data.toList with
    | none =>
      rw [inside_none2]
      have h2 := fun W hW => pathN t W ht hW hH
      have H2 := Lib.hid h2; clear h2 hH
      go_enter Tryd.func21, Tryd.ntmps21
      go_wp2_with fail
      refine (H1.out _ HM.out).mono ?_
      rintro e w1 ⟨A, c, rfl, hc, hS, hb1⟩
      clear hS
      have HM1 := Lib.hid (HM.out.keep hb1)
      go_wp2_with fail
      refine (H2.out _ HM1.out).mono ?_
      rintro e w2 ⟨rfl, hb2⟩
      go_wp2
      go_ret
      exact ⟨rfl, hb1.trans (hb2.mono hb1.size)⟩
    | some M =>
      have h2 := fun W hW => pathY t M W ht hW hH
      have hm6 := (pathL_names hH).1
      have H2 := Lib.hid h2; clear h2 hH
      by_cases hle : M.length ≤ L.length
      · have hfin : insideB (some L) (some M) = decide (L.take M.length = M) := by
          show (decide (M.length ≤ L.length) && decide (L.take M.length = M)) = _
          rw [decide_eq_true hle]; rfl
        rw [hfin]
        clear hfin
        have hq := fun A A' c c' W => equal_any A A' (L.take M.length) M c c' W (by simp; omega) (by omega)
        rw [List.length_take, Nat.min_eq_left hle] at hq
        obtain ⟨r, hr⟩ : ∃ r, r = decide (L.take M.length = M) := ⟨_, rfl⟩
        rw [← hr] at hq ⊢
        clear hr
        have HQ := Lib.hid hq; clear hq
        go_enter Tryd.func21, Tryd.ntmps21
        go_wp2_with fail
        refine (H1.out _ HM.out).mono ?_
        rintro e w1 ⟨A, c, rfl, hc, hS, hb1⟩
        have HM1 := Lib.hid (HM.out.keep hb1)
        have HS := Lib.hid hS; clear hS
        go_wp2_with fail
        refine (H2.out _ HM1.out).mono ?_
        rintro e w2 ⟨A', c', rfl, hc', hS', hb2⟩
        have HS2 := Lib.hid (((HS.out.keep hb2).low (Nat.zero_le _)).take M.length)
        have HS' : Hid (Strs w2 0 A' M) := Lib.hid (hS'.low (Nat.zero_le _)); clear hS'
        have hi1 : (M.length : Int) ≤ c := by omega
        go_wp2_with fail
        refine (HQ.out _ _ _ _ _ HS2.out (HS'.out.low (Nat.zero_le _))).mono ?_
        rintro e w3 ⟨rfl, hb3⟩
        go_wp2
        go_ret
        exact ⟨rfl, (hb1.trans (hb2.mono hb1.size)).trans (hb3.mono (by have := hb1.size; have := hb2.size; omega))⟩
      · have hfin : insideB (some L) (some M) = false := by
          show (decide (M.length ≤ L.length) && decide (L.take M.length = M)) = _
          rw [decide_eq_false hle]; rfl
        rw [hfin]
        clear hfin
        go_enter Tryd.func21, Tryd.ntmps21
        go_wp2_with fail
        refine (H1.out _ HM.out).mono ?_
        rintro e w1 ⟨A, c, rfl, hc, hS, hb1⟩
        clear hS
        have HM1 := Lib.hid (HM.out.keep hb1)
        go_wp2_with fail
        refine (H2.out _ HM1.out).mono ?_
        rintro e w2 ⟨A', c', rfl, hc', hS', hb2⟩
        clear hS'
        go_wp2
        go_ret
        exact ⟨rfl, hb1.trans (hb2.mono hb1.size)⟩

theorem inside_cut {L M : List (List UInt8)} {k : Nat} (hk : k + 1 ≤ M.length) (h : L.take M.length = M) : L.take (k + 1) = M.take (k + 1) := by
  have h2 := congrArg (List.take (k + 1)) h
  rwa [List.take_take, Nat.min_eq_left hk] at h2

set_option maxHeartbeats 2000000 in
theorem rinside_any (s t : ByteArray) (w : World) (hs : s.size ≤ 100000) (ht : t.size ≤ 100000) :
    Calls Tryd.prog 22 #[.string s, .string t] w fun e w' => e = .returned (.bool (insideB (Np.pathL s.data.toList) (Np.pathL t.data.toList))) ∧ Below w.heap.size w w' := by
  cases hG : Np.pathL s.data.toList with
  | none =>
    rw [inside_none]
    have h1 := fun W => rpathN s W hs hG
    have H1 := Lib.hid h1; clear h1 hG
    cases hH : Np.pathL t.data.toList with
    | none =>
      have h2 := fun W => rpathN t W ht hH
      have H2 := Lib.hid h2; clear h2 hH
      go_enter Tryd.func22, Tryd.ntmps22
      go_wp2_with fail
      refine (H1.out _).mono ?_
      rintro e w1 ⟨rfl, hb1⟩
      go_wp2_with fail
      refine (H2.out _).mono ?_
      rintro e w2 ⟨rfl, hb2⟩
      go_wp2
      go_ret
      exact ⟨rfl, hb1.trans (hb2.mono hb1.size)⟩
    | some M =>
      have h2 := fun W => rpathY t M W ht hH
      have H2 := Lib.hid h2; clear h2 hH
      go_enter Tryd.func22, Tryd.ntmps22
      go_wp2_with fail
      refine (H1.out _).mono ?_
      rintro e w1 ⟨rfl, hb1⟩
      go_wp2_with fail
      refine (H2.out _).mono ?_
      rintro e w2 ⟨A', c', rfl, hc', hS', hb2⟩
      clear hS'
      go_wp2
      go_ret
      exact ⟨rfl, hb1.trans (hb2.mono hb1.size)⟩
  | some L =>
    have h1 := fun W => rpathY s L W hs hG
    have hl6 := (pathL_names hG).1
    have H1 := Lib.hid h1; clear h1 hG
    cases hH : Np.pathL t.data.toList with
    | none =>
      rw [inside_none2]
      have h2 := fun W => rpathN t W ht hH
      have H2 := Lib.hid h2; clear h2 hH
      go_enter Tryd.func22, Tryd.ntmps22
      go_wp2_with fail
      refine (H1.out _).mono ?_
      rintro e w1 ⟨A, c, rfl, hc, hS, hb1⟩
      clear hS
      go_wp2_with fail
      refine (H2.out _).mono ?_
      rintro e w2 ⟨rfl, hb2⟩
      go_wp2
      go_ret
      exact ⟨rfl, hb1.trans (hb2.mono hb1.size)⟩
    | some M =>
      have h2 := fun W => rpathY t M W ht hH
      have hm6 := (pathL_names hH).1
      have H2 := Lib.hid h2; clear h2 hH
      by_cases hle : M.length ≤ L.length
      · have hfin : insideB (some L) (some M) = decide (L.take M.length = M) := by
          show (decide (M.length ≤ L.length) && decide (L.take M.length = M)) = _
          rw [decide_eq_true hle]; rfl
        rw [hfin]
        clear hfin
        obtain ⟨n, hn⟩ : ∃ n, n = L.length := ⟨_, rfl⟩
        obtain ⟨m, hm⟩ : ∃ m, m = M.length := ⟨_, rfl⟩
        have Hn := Lib.hid hn
        have Hm := Lib.hid hm
        have hle1 : (m : Int) ≤ n := by omega
        have hn6 : n ≤ 6 := by omega
        obtain ⟨r, hr⟩ : ∃ r, r = decide (L.take M.length = M) := ⟨_, rfl⟩
        rw [← hr]
        have Hr := Lib.hid hr; clear hr hn hm
        clear hle hl6 hm6
        go_enter Tryd.func22, Tryd.ntmps22
        go_wp2_with fail
        refine (H1.out _).mono ?_
        rintro e w1 ⟨A, c, rfl, hc, hS, hb1⟩
        have HS := Lib.hid hS; clear hS
        rw [← Hn.out] at hc ⊢
        go_wp2_with fail
        refine (H2.out _).mono ?_
        rintro e w2 ⟨A', c', rfl, hc', hS', hb2⟩
        have HS2 := Lib.hid ((HS.out.keep hb2).low (Nat.zero_le _))
        have HS' : Hid (Strs w2 0 A' M) := Lib.hid (hS'.low (Nat.zero_le _)); clear hS'
        rw [← Hm.out] at hc' ⊢
        have hB2 : Below w.heap.size w w2 := hb1.trans (hb2.mono hb1.size)
        clear hb1 hb2 HS
        go_wp2
        go_loopw [9] (fun i wr => ∃ k : Nat, k ≤ m ∧ i = .int .i64 k ∧ Hid (L.take k = M.take k) ∧ Below w2.heap.size w2 wr) (fun i _ => m - (intOf i).toNat)
        case atStart => exact ⟨0, by omega, rfl, by show L.take 0 = M.take 0; simp, Below.refl _ _⟩
        case round =>
          obtain ⟨k, hk, rfl, hok, hbw⟩ := hrel
          have hB3 : Below w.heap.size w wr := hB2.trans (hbw.mono hB2.size)
          by_cases hlt : k < m
          · have hkL : k < L.length := by have := Hn.out; omega
            have hkM : k < M.length := by have := Hm.out; omega
            obtain ⟨x, hx⟩ : ∃ x, L[k]? = some x := ⟨_, List.getElem?_eq_getElem hkL⟩
            obtain ⟨y, hy⟩ : ∃ y, M[k]? = some y := ⟨_, List.getElem?_eq_getElem hkM⟩
            rcases HS2.out with h | ⟨b, o, rfl, h2, h3, h4, _⟩
            · subst h; simp at hkL
            rcases HS'.out with h | ⟨b', o', rfl, h2', h3', h4', _⟩
            · subst h; simp at hkM
            have hc : wr.cell? ⟨b, o + k, none⟩ = some (.string ⟨x.toArray⟩) := (hbw.cell (p := ⟨b, o + k, none⟩) h3).trans (h4 k x hx)
            have hc' : wr.cell? ⟨b', o' + k, none⟩ = some (.string ⟨y.toArray⟩) := (hbw.cell (p := ⟨b', o' + k, none⟩) h3').trans (h4' k y hy)
            have hiff := take_both hok.out hx hy
            have Hiff := Lib.hid hiff
            have Hk := Lib.hid hkM
            clear h4 h4' hx hy hiff hkL hkM
            have hk1 : (0 : Int) ≤ k := by omega
            have hk2 : (k : Int) < n := by omega
            have hk3 : (k : Int) < m := by omega
            go_wp2
            go_quiet (fail)
            go_wp2
            · have hne : (!x == y) = true := by assumption
              have hxy : ¬ x = y := by simpa using hne
              go_ret
              refine ⟨ret_bool ?_, below_drewN hB3 _⟩
              rw [Hr.out]
              symm
              exact decide_eq_false fun h => hxy (Hiff.out.1 (inside_cut Hk.out h))
            · have hne : (!x == y) = false := by assumption
              have hxy : x = y := by simpa using hne
              go_roundw
              case rel => exact ⟨k + 1, by omega, by go_num, Hiff.out.2 hxy, below_drewN hbw _⟩
              case measure => simp [intOf]; omega
          · go_wp2
            go_ret
            refine ⟨ret_bool ?_, hB3⟩
            have := hok.out
            rw [show k = M.length by have := Hm.out; omega, List.take_length] at this
            rw [Hr.out, decide_eq_true this]
      · have hfin : insideB (some L) (some M) = false := by
          show (decide (M.length ≤ L.length) && decide (L.take M.length = M)) = _
          rw [decide_eq_false hle]; rfl
        rw [hfin]
        clear hfin
        have hle1 : (L.length : Int) < M.length := by omega
        go_enter Tryd.func22, Tryd.ntmps22
        go_wp2_with fail
        refine (H1.out _).mono ?_
        rintro e w1 ⟨A, c, rfl, hc, hS, hb1⟩
        clear hS
        go_wp2_with fail
        refine (H2.out _).mono ?_
        rintro e w2 ⟨A', c', rfl, hc', hS', hb2⟩
        clear hS'
        go_wp2
        go_ret
        exact ⟨rfl, hb1.trans (hb2.mono hb1.size)⟩

set_option maxHeartbeats 2000000 in
theorem inside_core (s t s' t' : ByteArray) (hs' : s' = fewB s) (ht' : t' = fewB t) (w : World) (hs : s.size ≤ 9223372036854775807) (ht : t.size ≤ 9223372036854775807) (hM : Mx w) :
    Calls Tryd.prog 8 #[.string s, .string t] w fun e w' => e = .returned (.bool true) ∧ Below w.heap.size w w' := by
  have h0 := fun W => few_any s W hs
  have h0' := fun W => few_any t W ht
  have hsz := fewB_size s
  have hsz' := fewB_size t
  rw [← hs'] at h0 hsz
  rw [← ht'] at h0' hsz'
  clear hs' ht'
  have H0 := Lib.hid h0; clear h0
  have H0' := Lib.hid h0'; clear h0'
  have h1 := fun W hW => inside_any s' t' W (by omega) (by omega) hW
  have h2 := fun W => rinside_any s' t' W (by omega) (by omega)
  obtain ⟨b, hb⟩ : ∃ b, b = insideB (Np.pathL s'.data.toList) (Np.pathL t'.data.toList) := ⟨_, rfl⟩
  rw [← hb] at h1 h2
  clear hb
  have H1 := Lib.hid h1; clear h1
  have H2 := Lib.hid h2; clear h2
  obtain ⟨own, v, hv, h3, h4, h5⟩ : ∃ (own : Bool) (v : Int), ((v = 0 ∧ own = true) ∨ (v = 15 ∧ own = false)) ∧ (∀ W, Calls Tryd.prog 16 #[.string s'] W fun e w' => ∃ A n c, e = .returned (.tuple #[.slice A n c, .int .i64 v]) ∧ Below W.heap.size W w') ∧
      (∀ W, Mx W → Calls Tryd.prog 21 #[.string s', .string s'] W fun e w' => e = .returned (.bool own) ∧ Below W.heap.size W w') ∧
      (∀ W, Mx W → Calls Tryd.prog 21 #[.string s', .string ⟨#[47]⟩] W fun e w' => e = .returned (.bool own) ∧ Below W.heap.size W w') := by
    have g1 := fun W hW => inside_any s' s' W (by omega) (by omega) hW
    have g2 := fun W hW => inside_any s' ⟨#[47]⟩ W (by omega) (by decide) hW
    rw [show Np.pathL (⟨#[47]⟩ : ByteArray).data.toList = some [] by decide] at g2
    cases hG : Np.pathL s'.data.toList with
    | none =>
      rw [hG] at g1 g2
      exact ⟨false, 15, Or.inr ⟨rfl, rfl⟩, fun W => (rpathN s' W (by omega) hG).mono fun e w' ⟨h, hb⟩ => ⟨none, 0, 0, h, hb⟩, g1, g2⟩
    | some L =>
      rw [hG] at g1 g2
      rw [inside_self] at g1
      rw [inside_root] at g2
      exact ⟨true, 0, Or.inl ⟨rfl, rfl⟩, fun W => (rpathY s' L W (by omega) hG).mono fun e w' ⟨A, c, h, _, _, hb⟩ => ⟨A, _, c, h, hb⟩, g1, g2⟩
  have H3 := Lib.hid h3; clear h3
  have H4 := Lib.hid h4; clear h4
  have H5 := Lib.hid h5; clear h5
  have HM := Lib.hid hM; clear hM
  rcases hv with ⟨rfl, rfl⟩ | ⟨rfl, rfl⟩
  all_goals
    go_enter Tryd.func8, Tryd.ntmps8
    go_wp2_with fail
    refine (H0.out _).mono ?_
    rintro e w' ⟨rfl, rfl⟩
    go_wp2_with fail
    refine (H0'.out _).mono ?_
    rintro e w' ⟨rfl, rfl⟩
    go_wp2_with fail
    refine (H1.out _ HM.out).mono ?_
    rintro e w1 ⟨rfl, hb1⟩
    have HM1 := Lib.hid (HM.out.keep hb1)
    go_wp2_with fail
    refine (H2.out _).mono ?_
    rintro e w2 ⟨rfl, hb2⟩
    have HM2 := Lib.hid (HM1.out.keep hb2)
    have hB2 : Below w.heap.size w w2 := hb1.trans (hb2.mono hb1.size)
    go_wp2_with fail
    refine (H3.out _).mono ?_
    rintro e w3 ⟨A, n, c, rfl, hb3⟩
    have HM3 := Lib.hid (HM2.out.keep hb3)
    have hB3 : Below w.heap.size w w3 := hB2.trans (hb3.mono hB2.size)
    go_wp2_with fail
    refine (H4.out _ HM3.out).mono ?_
    rintro e w4 ⟨rfl, hb4⟩
    have HM4 := Lib.hid (HM3.out.keep hb4)
    have hB4 : Below w.heap.size w w4 := hB3.trans (hb4.mono hB3.size)
    go_wp2_with fail
    refine (H5.out _ HM4.out).mono ?_
    rintro e w5 ⟨rfl, hb5⟩
    have HM5 := Lib.hid (HM4.out.keep hb5)
    have hB5 : Below w.heap.size w w5 := hB4.trans (hb5.mono hB4.size)
    go_wp2_with fail
    refine (lives_any _ HM5.out).mono ?_
    rintro e w6 ⟨rfl, hb6⟩
    go_wp2
    go_ret
    exact ⟨rfl, hB5.trans (hb6.mono hB5.size)⟩
theorem law_inside (s t : ByteArray) (w : World) (hs : s.size ≤ 9223372036854775807) (ht : t.size ≤ 9223372036854775807) (hM : Mx w) :
    Calls Tryd.prog 8 #[.string s, .string t] w fun e w' => e = .returned (.bool true) ∧ Below w.heap.size w w' := inside_core s t _ _ rfl rfl w hs ht hM

end Go.Proofs.YtoadbipcfolheaaDoor
