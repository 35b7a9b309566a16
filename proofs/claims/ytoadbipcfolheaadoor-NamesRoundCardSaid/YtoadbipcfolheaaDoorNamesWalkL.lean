/- Walks: the law NamesRound. -/
import Derived.Test.YtoadbipcfolheaaDoorNamesWalkK
namespace Go.Proofs.YtoadbipcfolheaaDoor
open Go.RowKit

set_option maxHeartbeats 4000000 in
theorem round_core (s t : ByteArray) (ht : t = fewB s) (A : Option Addr) (L K : List (List UInt8)) (hK : K = listL L) (c : Nat) (w : World) (hs : s.size ≤ 9223372036854775807) (hn : L.length ≤ 9223372036854775807) (hz : ∀ x ∈ L, x.length ≤ 9223372036854775807) (hS : SR w A L) (hM : Mx w) :
    Calls Tryd.prog 10 #[.string s, .slice A L.length c] w fun e w' => e = .returned (.bool true) ∧ Below w.heap.size w w' := by
  have h0 := list_any A L c w hn hz hS
  obtain ⟨hk9, hk20⟩ := listL_len L
  rw [← hK] at h0 hk9 hk20
  have HL := Lib.hid h0
  clear h0 hn hz hS hK
  have h0 := fun W => few_any s W hs
  have hsz := fewB_size s
  rw [← ht] at h0 hsz
  clear ht
  have H0 := Lib.hid h0; clear h0
  have HM := Lib.hid hM; clear hM
  have h1 := fun A c W hc hS hM => join_any A K c W hk9 hk20 hc hS hM
  have hpl := joinP_len K hk20
  have HQ := Lib.hid (fun A A' c c' W h h' => (decide_eq_true (rfl : K = K)) ▸ same_any A A' K K c c' 0 W (by omega) (by omega) h h')
  rcases Classical.em ((decide (K.length ≤ 6) && K.all Np.nameB) = true) with hg | hg
  · obtain ⟨e1, e2⟩ := join_good hg
    obtain ⟨p, hp⟩ : ∃ p : ByteArray, p = ⟨(Np.joinP K).toArray⟩ := ⟨_, rfl⟩
    rw [e1, e2, ← hp] at h1
    have h3 := fun W hW => pathY p K W (by rw [hp, Lib.size_eq]; show (Np.joinP K).length ≤ _; omega) hW (by rw [hp]; exact Np.pathL_join K hg)
    have H3 := Lib.hid h3
    have H1 := Lib.hid h1
    clear h1 h3 e1 e2 hp hg hk20 hpl
    cases hG : Np.pathL t.data.toList with
    | none =>
      have HP := Lib.hid fun W hW => pathN t W (by omega) hW hG
      clear hG
      go_enter Tryd.func10, Tryd.ntmps10
      go_wp2_with fail
      refine (H0.out _).mono ?_
      rintro e w' ⟨rfl, rfl⟩
      go_wp2_with fail
      refine HL.out.mono ?_
      rintro e w1 ⟨A', c', rfl, hc', hS', hb1⟩
      have HM1 := Lib.hid (HM.out.keep hb1)
      have HS : Hid (Strs w1 0 A' K) := Lib.hid (hS'.low (Nat.zero_le _)); clear hS'
      go_wp2_with fail
      refine (HP.out _ HM1.out).mono ?_
      rintro e w2 ⟨rfl, hb2⟩
      have HM2 := Lib.hid (HM1.out.keep hb2)
      have HS2 := Lib.hid (HS.out.keep hb2)
      have HB := Lib.hid (hb1.trans (hb2.mono hb1.size))
      go_wp2_with fail
      refine (H1.out _ _ _ hc' HS2.out HM2.out).mono ?_
      rintro e w4 ⟨rfl, hb4⟩
      have HM4 := Lib.hid (HM2.out.keep hb4)
      have HB4 := Lib.hid (HB.out.trans (hb4.mono HB.out.size))
      have HS4 := Lib.hid (HS2.out.keep hb4)
      go_wp2_with fail
      refine (H3.out _ HM4.out).mono ?_
      rintro e w5 ⟨A5, c5, rfl, hc5, hS5, hb5⟩
      have HM5 := Lib.hid (HM4.out.keep hb5)
      have HB5 := Lib.hid (HB4.out.trans (hb5.mono HB4.out.size))
      have HZ5 : Hid (Strs w5 0 A5 K) := Lib.hid (hS5.low (Nat.zero_le _)); clear hS5
      have HS5 := Lib.hid (HS4.out.keep hb5)
      go_wp2_with fail
      refine (HQ.out _ _ _ _ _ HZ5.out HS5.out).mono ?_
      rintro e w6 ⟨rfl, hb6⟩
      have HM6 := Lib.hid (HM5.out.keep hb6)
      have HB6 := Lib.hid (HB5.out.trans (hb6.mono HB5.out.size))
      go_wp2_with fail
      refine (lives_any _ HM6.out).mono ?_
      rintro e w7 ⟨rfl, hb7⟩
      go_wp2
      go_ret
      exact ⟨rfl, HB6.out.trans (hb7.mono HB6.out.size)⟩
    | some M =>
      have HP := Lib.hid fun W hW => pathY t M W (by omega) hW hG
      obtain ⟨hm6, hmn⟩ := pathL_names hG
      obtain ⟨g1, g2⟩ := Np.pathL_some hG
      obtain ⟨e1, e2⟩ := join_good g1
      have hj := fun A c W hc hS hM => join_any A M c W (by omega) (fun x hx => by have := name_len (hmn x hx); omega) hc hS hM
      rw [e1, e2, g2, ba_mk] at hj
      have HJ := Lib.hid hj
      clear hj e1 e2 g1 g2 hmn hG
      go_enter Tryd.func10, Tryd.ntmps10
      go_wp2_with fail
      refine (H0.out _).mono ?_
      rintro e w' ⟨rfl, rfl⟩
      go_wp2_with fail
      refine HL.out.mono ?_
      rintro e w1 ⟨A', c', rfl, hc', hS', hb1⟩
      have HM1 := Lib.hid (HM.out.keep hb1)
      have HS : Hid (Strs w1 0 A' K) := Lib.hid (hS'.low (Nat.zero_le _)); clear hS'
      go_wp2_with fail
      refine (HP.out _ HM1.out).mono ?_
      rintro e w2 ⟨A2, c2, rfl, hc2, hS2, hb2⟩
      have HM2 := Lib.hid (HM1.out.keep hb2)
      have HZ : Hid (Strs w2 0 A2 M) := Lib.hid (hS2.low (Nat.zero_le _)); clear hS2
      have HB0 := Lib.hid (hb1.trans (hb2.mono hb1.size))
      go_wp2_with fail
      refine (HJ.out _ _ _ hc2 HZ.out HM2.out).mono ?_
      rintro e w3 ⟨rfl, hb3⟩
      have HM3 := Lib.hid (HM2.out.keep hb3)
      have HS2 := Lib.hid ((HS.out.keep hb2).keep hb3)
      have HB := Lib.hid (HB0.out.trans (hb3.mono HB0.out.size))
      go_wp2_with fail
      refine (H1.out _ _ _ hc' HS2.out HM3.out).mono ?_
      rintro e w4 ⟨rfl, hb4⟩
      have HM4 := Lib.hid (HM3.out.keep hb4)
      have HB4 := Lib.hid (HB.out.trans (hb4.mono HB.out.size))
      have HS4 := Lib.hid (HS2.out.keep hb4)
      go_wp2_with fail
      refine (H3.out _ HM4.out).mono ?_
      rintro e w5 ⟨A5, c5, rfl, hc5, hS5, hb5⟩
      have HM5 := Lib.hid (HM4.out.keep hb5)
      have HB5 := Lib.hid (HB4.out.trans (hb5.mono HB4.out.size))
      have HZ5 : Hid (Strs w5 0 A5 K) := Lib.hid (hS5.low (Nat.zero_le _)); clear hS5
      have HS5 := Lib.hid (HS4.out.keep hb5)
      go_wp2_with fail
      refine (HQ.out _ _ _ _ _ HZ5.out HS5.out).mono ?_
      rintro e w6 ⟨rfl, hb6⟩
      have HM6 := Lib.hid (HM5.out.keep hb6)
      have HB6 := Lib.hid (HB5.out.trans (hb6.mono HB5.out.size))
      go_wp2_with fail
      refine (lives_any _ HM6.out).mono ?_
      rintro e w7 ⟨rfl, hb7⟩
      go_wp2
      go_ret
      exact ⟨rfl, HB6.out.trans (hb7.mono HB6.out.size)⟩
  · obtain ⟨e1, e2⟩ := join_bad hg
    rw [e1, e2] at h1
    have H1 := Lib.hid h1
    clear h1 e1 e2 hg hk20 hpl
    cases hG : Np.pathL t.data.toList with
    | none =>
      have HP := Lib.hid fun W hW => pathN t W (by omega) hW hG
      clear hG
      go_enter Tryd.func10, Tryd.ntmps10
      go_wp2_with fail
      refine (H0.out _).mono ?_
      rintro e w' ⟨rfl, rfl⟩
      go_wp2_with fail
      refine HL.out.mono ?_
      rintro e w1 ⟨A', c', rfl, hc', hS', hb1⟩
      have HM1 := Lib.hid (HM.out.keep hb1)
      have HS : Hid (Strs w1 0 A' K) := Lib.hid (hS'.low (Nat.zero_le _)); clear hS'
      go_wp2_with fail
      refine (HP.out _ HM1.out).mono ?_
      rintro e w2 ⟨rfl, hb2⟩
      have HM2 := Lib.hid (HM1.out.keep hb2)
      have HS2 := Lib.hid (HS.out.keep hb2)
      have HB := Lib.hid (hb1.trans (hb2.mono hb1.size))
      go_wp2_with fail
      refine (H1.out _ _ _ hc' HS2.out HM2.out).mono ?_
      rintro e w4 ⟨rfl, hb4⟩
      have HM4 := Lib.hid (HM2.out.keep hb4)
      have HB4 := Lib.hid (HB.out.trans (hb4.mono HB.out.size))
      go_wp2_with fail
      refine (lives_any _ HM4.out).mono ?_
      rintro e w7 ⟨rfl, hb7⟩
      go_wp2
      go_ret
      exact ⟨rfl, HB4.out.trans (hb7.mono HB4.out.size)⟩
    | some M =>
      have HP := Lib.hid fun W hW => pathY t M W (by omega) hW hG
      obtain ⟨hm6, hmn⟩ := pathL_names hG
      obtain ⟨g1, g2⟩ := Np.pathL_some hG
      obtain ⟨e1, e2⟩ := join_good g1
      have hj := fun A c W hc hS hM => join_any A M c W (by omega) (fun x hx => by have := name_len (hmn x hx); omega) hc hS hM
      rw [e1, e2, g2, ba_mk] at hj
      have HJ := Lib.hid hj
      clear hj e1 e2 g1 g2 hmn hG
      go_enter Tryd.func10, Tryd.ntmps10
      go_wp2_with fail
      refine (H0.out _).mono ?_
      rintro e w' ⟨rfl, rfl⟩
      go_wp2_with fail
      refine HL.out.mono ?_
      rintro e w1 ⟨A', c', rfl, hc', hS', hb1⟩
      have HM1 := Lib.hid (HM.out.keep hb1)
      have HS : Hid (Strs w1 0 A' K) := Lib.hid (hS'.low (Nat.zero_le _)); clear hS'
      go_wp2_with fail
      refine (HP.out _ HM1.out).mono ?_
      rintro e w2 ⟨A2, c2, rfl, hc2, hS2, hb2⟩
      have HM2 := Lib.hid (HM1.out.keep hb2)
      have HZ : Hid (Strs w2 0 A2 M) := Lib.hid (hS2.low (Nat.zero_le _)); clear hS2
      have HB0 := Lib.hid (hb1.trans (hb2.mono hb1.size))
      go_wp2_with fail
      refine (HJ.out _ _ _ hc2 HZ.out HM2.out).mono ?_
      rintro e w3 ⟨rfl, hb3⟩
      have HM3 := Lib.hid (HM2.out.keep hb3)
      have HS2 := Lib.hid ((HS.out.keep hb2).keep hb3)
      have HB := Lib.hid (HB0.out.trans (hb3.mono HB0.out.size))
      go_wp2_with fail
      refine (H1.out _ _ _ hc' HS2.out HM3.out).mono ?_
      rintro e w4 ⟨rfl, hb4⟩
      have HM4 := Lib.hid (HM3.out.keep hb4)
      have HB4 := Lib.hid (HB.out.trans (hb4.mono HB.out.size))
      go_wp2_with fail
      refine (lives_any _ HM4.out).mono ?_
      rintro e w7 ⟨rfl, hb7⟩
      go_wp2
      go_ret
      exact ⟨rfl, HB4.out.trans (hb7.mono HB4.out.size)⟩

theorem law_round (s : ByteArray) (A : Option Addr) (n c : Nat) (w : World) (hs : s.size ≤ 9223372036854775807) (hR : Raw w A n c) (hM : Mx w) :
    Calls Tryd.prog 10 #[.string s, .slice A n c] w fun e w' => e = .returned (.bool true) ∧ Below w.heap.size w w' := by
  obtain ⟨L, rfl, _, hn, hz, hS⟩ := hR
  exact round_core s _ rfl A L _ rfl c w hs hn hz hS hM

end Go.Proofs.YtoadbipcfolheaaDoor
