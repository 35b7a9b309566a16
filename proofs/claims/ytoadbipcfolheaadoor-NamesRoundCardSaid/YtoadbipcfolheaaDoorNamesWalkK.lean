/- Walks: names.Join, commonsref05.Join, the laws NamesJoins and NamesRound. -/
import Derived.Test.YtoadbipcfolheaaDoorNamesWalkJ
namespace Go.Proofs.YtoadbipcfolheaaDoor
open Go.RowKit

theorem strjoin (W : World) (A : Option Addr) (L : List (List UInt8)) (c : Nat) (hL : L.length ≤ 9) (hx : ∀ x ∈ L, x.length ≤ 20) (hc : L.length ≤ c) (hS : Strs W 0 A L) :
    Calls Tryd.prog 31 #[.slice A L.length c, .string ⟨#[47]⟩] W fun e w' => ∃ u, e = .returned (.string u) ∧ Hid (u.data.toList = Np.joinS L) ∧ u.size ≤ 1000 ∧ Below W.heap.size W w' := by
  have hlen : (Np.joinS L).length ≤ 1000 := by
    have := joinP_len L hx
    unfold Np.joinP at this
    rw [List.length_cons] at this
    omega
  rcases hS with h | ⟨b, o, rfl, _, h3, h4, _⟩
  · subst h
    refine (Tryd.strings_Join_none A c ⟨#[47]⟩ W).mono fun e w' ⟨he, hw⟩ => ?_
    subst hw
    exact ⟨⟨#[]⟩, he, rfl, by show 0 ≤ _; omega, Below.refl _ _⟩
  · have hmap : (L.map fun x => (⟨x.toArray⟩ : ByteArray)).map (·.data.toList) = L := by
      rw [List.map_map]; exact List.map_id'' (fun x => rfl) L
    have h := Tryd.strings_Join b o c (L.map fun x => ⟨x.toArray⟩) ⟨#[47]⟩ W (fun j x hj => by
        rw [List.getElem?_map] at hj
        cases hs : L[j]? with
        | none => rw [hs] at hj; cases hj
        | some y => rw [hs] at hj; cases hj; exact h4 j y hs) h3 (by simp; omega) (by simpa using hc) (by rw [hmap]; show (Lib.join L [47]).length ≤ _; rw [join_eq]; omega)
    rw [hmap, List.length_map] at h
    refine h.mono fun e w' ⟨he, hb⟩ => ⟨_, he, ?_, ?_, hb⟩
    · show Lib.join L [47] = _
      exact join_eq L
    · rw [Lib.size_eq]
      show (Lib.join L [47]).length ≤ _
      rw [join_eq]; exact hlen

theorem hcat {u : ByteArray} {L : List (List UInt8)} (h : u.data.toList = Np.joinS L) : ((⟨#[47]⟩ : ByteArray) ++ u).data.toList = Np.joinP L := by
  rw [ba_app, h]; rfl
theorem ba_of {u : ByteArray} {l : List UInt8} (h : u.data.toList = l) : u = ⟨l.toArray⟩ := ba_ext h
theorem ret_join {u v : ByteArray} {a b : Int} (h : u = v) (h2 : a = b) : Ending.returned (.tuple #[.string u, .int .i64 a]) = .returned (.tuple #[.string v, .int .i64 b]) := by rw [h, h2]

set_option maxHeartbeats 2000000 in
/-- names.Join -/
theorem join_any (A : Option Addr) (L : List (List UInt8)) (c : Nat) (w : World) (hL : L.length ≤ 9) (hx : ∀ x ∈ L, x.length ≤ 20) (hc : L.length ≤ c) (hS : Strs w 0 A L) (hM : Mx w) :
    Calls Tryd.prog 24 #[.slice A L.length c] w fun e w' => e = .returned (.tuple #[.string (joinV L), .int .i64 (joinE L)]) ∧ Below w.heap.size w w' := by
  have HJ := Lib.hid (strjoin w A L c hL hx hc hS)
  have HM := Lib.hid hM; clear hM
  have HS := Lib.hid hS; clear hS
  have hpl := joinP_len L hx
  have hsz : ∀ p : ByteArray, p.data.toList = Np.joinP L → p.size ≤ 100000 := fun p hp => by rw [Lib.size_eq, hp]; omega
  clear hpl
  cases hG : Np.pathL (Np.joinP L) with
  | none =>
    have hbad : ¬ (decide (L.length ≤ 6) && L.all Np.nameB) = true := fun h => by rw [Np.pathL_join L h] at hG; cases hG
    obtain ⟨e1, e2⟩ := join_bad hbad
    rw [e1, e2]
    clear e1 e2 hbad
    have h1 := fun (p : ByteArray) (hp : p.data.toList = Np.joinP L) W hW => pathN p W (hsz p hp) hW (by rw [hp]; exact hG)
    have H1 := Lib.hid h1; clear h1 hsz hx hG
    go_enter Tryd.func24, Tryd.ntmps24
    go_wp2_with fail
    refine HJ.out.mono ?_
    rintro e w1 ⟨u, rfl, hu, hus, hb1⟩
    have HM1 := Lib.hid (HM.out.keep hb1)
    go_wp2_with fail
    refine (H1.out _ (hcat hu.out) _ HM1.out).mono ?_
    rintro e w2 ⟨rfl, hb2⟩
    go_wp2
    go_ret2
    exact ⟨rfl, hb1.trans (hb2.mono hb1.size)⟩
  | some M =>
    have hm6 := (pathL_names hG).1
    have h1 := fun (p : ByteArray) (hp : p.data.toList = Np.joinP L) W hW => pathY p M W (hsz p hp) hW (by rw [hp]; exact hG)
    have H1 := Lib.hid h1; clear h1 hsz hx
    have hq := fun A A' c c' W => equal_any A A' L M c c' W (by omega) (by omega)
    by_cases hLM : L = M
    · have hgood : (decide (L.length ≤ 6) && L.all Np.nameB) = true := by rw [← hLM] at hG; exact (Np.pathL_some hG).1
      obtain ⟨e1, e2⟩ := join_good hgood
      have HE := Lib.hid e1
      rw [e2]
      rw [decide_eq_true hLM] at hq
      have HQ := Lib.hid hq; clear hq e1 e2 hgood hG hLM
      go_enter Tryd.func24, Tryd.ntmps24
      go_wp2_with fail
      refine HJ.out.mono ?_
      rintro e w1 ⟨u, rfl, hu, hus, hb1⟩
      have HM1 := Lib.hid (HM.out.keep hb1)
      go_wp2_with fail
      refine (H1.out _ (hcat hu.out) _ HM1.out).mono ?_
      rintro e w2 ⟨A', c', rfl, hc', hS', hb2⟩
      have HB := Lib.hid (hb1.trans (hb2.mono hb1.size))
      have HS' : Hid (Strs w2 0 A' M) := Lib.hid (hS'.low (Nat.zero_le _)); clear hS'
      go_wp2_with fail
      refine (HQ.out _ _ _ _ _ (HS.out.keep HB.out) HS'.out).mono ?_
      rintro e w3 ⟨rfl, hb3⟩
      go_wp2
      go_ret2
      exact ⟨ret_join (by rw [HE.out]; exact ba_of (hcat hu.out)) rfl, HB.out.trans (hb3.mono HB.out.size)⟩
    · have hbad : ¬ (decide (L.length ≤ 6) && L.all Np.nameB) = true := fun h => hLM (by rw [Np.pathL_join L h] at hG; exact Option.some.inj hG)
      obtain ⟨e1, e2⟩ := join_bad hbad
      rw [e1, e2]
      rw [decide_eq_false hLM] at hq
      have HQ := Lib.hid hq; clear hq e1 e2 hbad hG hLM
      go_enter Tryd.func24, Tryd.ntmps24
      go_wp2_with fail
      refine HJ.out.mono ?_
      rintro e w1 ⟨u, rfl, hu, hus, hb1⟩
      have HM1 := Lib.hid (HM.out.keep hb1)
      go_wp2_with fail
      refine (H1.out _ (hcat hu.out) _ HM1.out).mono ?_
      rintro e w2 ⟨A', c', rfl, hc', hS', hb2⟩
      have HB := Lib.hid (hb1.trans (hb2.mono hb1.size))
      have HS' : Hid (Strs w2 0 A' M) := Lib.hid (hS'.low (Nat.zero_le _)); clear hS'
      go_wp2_with fail
      refine (HQ.out _ _ _ _ _ (HS.out.keep HB.out) HS'.out).mono ?_
      rintro e w3 ⟨rfl, hb3⟩
      go_wp2
      go_ret2
      exact ⟨rfl, HB.out.trans (hb3.mono HB.out.size)⟩

theorem tail_step {L : List (List UInt8)} {k : Nat} {x : List UInt8} {u y : ByteArray} (h : u.data.toList = Lib.joinTail [47] (L.take k)) (hx : L[k]? = some x) (hy : y.data.toList = x) :
    (u ++ ⟨#[47]⟩ ++ y).data.toList = Lib.joinTail [47] (L.take (k + 1)) := by
  rw [Lib.joinTail_take_succ _ _ _ _ hx, ba_app, ba_app, h, hy]

set_option maxHeartbeats 2000000 in
/-- commonsref05.Join -/
theorem rjoin_any (A : Option Addr) (L : List (List UInt8)) (c : Nat) (w : World) (hL : L.length ≤ 9) (hx : ∀ x ∈ L, x.length ≤ 20) (hS : Strs w 0 A L) :
    Calls Tryd.prog 25 #[.slice A L.length c] w fun e w' => e = .returned (.tuple #[.string (joinV L), .int .i64 (joinE L)]) ∧ Below w.heap.size w w' := by
  have HS := Lib.hid hS; clear hS
  have HX := Lib.hid hx; clear hx
  by_cases h0 : L = []
  · subst h0
    obtain ⟨e1, e2⟩ := join_good (L := []) rfl
    rw [e1, e2, show (⟨(Np.joinP []).toArray⟩ : ByteArray) = ⟨#[47]⟩ from rfl]
    clear e1 e2
    show Calls _ _ #[.slice A 0 c] _ _
    go_enter Tryd.func25, Tryd.ntmps25
    go_wp2
    go_ret2
    exact ⟨rfl, Below.refl _ _⟩
  have hpos : 0 < L.length := List.length_pos_iff.2 h0
  by_cases h6 : L.length ≤ 6
  · have H0 := Lib.hid h0; clear h0
    obtain ⟨n, hnn⟩ : ∃ n, n = L.length := ⟨_, rfl⟩
    rw [← hnn] at h6 hpos ⊢
    have Hn := Lib.hid hnn
    clear hnn hL
    have hz1 : ((n : Int) == 0) = false := by rw [beq_eq_false_iff_ne]; omega
    have hz2 : (n : Int) ≤ 6 := by omega
    obtain ⟨V, hV⟩ : ∃ V, V = joinV L := ⟨_, rfl⟩
    obtain ⟨E, hE⟩ : ∃ E, E = joinE L := ⟨_, rfl⟩
    rw [← hV, ← hE]
    have HV := Lib.hid hV; clear hV
    have HE := Lib.hid hE; clear hE
    go_enter Tryd.func25, Tryd.ntmps25
    go_wp2
    go_loopw [4, 5] (fun sv i wr => ∃ (k : Nat) (u : ByteArray), k ≤ n ∧ i = .int .i64 k ∧ sv = .string u ∧ u.size ≤ 21 * k ∧ Hid (u.data.toList = Lib.joinTail [47] (L.take k)) ∧ Hid ((L.take k).all Np.nameB = true) ∧ Below w.heap.size w wr) (fun _ i _ => n - (intOf i).toNat)
    case atStart => exact ⟨0, ⟨#[]⟩, by omega, rfl, rfl, by show 0 ≤ _; omega, by show _ = Lib.joinTail [47] (L.take 0); simp [Lib.joinTail], by show (L.take 0).all _ = true; simp, Below.refl _ _⟩
    case round =>
      obtain ⟨k, u, hk, rfl, rfl, hus, hu, hok, hbw⟩ := hrel
      by_cases hlt : k < n
      · have hkL : k < L.length := by have := Hn.out; omega
        obtain ⟨x, hxk⟩ : ∃ x, L[k]? = some x := ⟨_, List.getElem?_eq_getElem hkL⟩
        rcases HS.out with h | ⟨b, o, rfl, h2, h3, h4, _⟩
        · subst h; simp at hkL
        have hxl := HX.out x (List.mem_of_getElem? hxk)
        obtain ⟨y, hy⟩ : ∃ y : ByteArray, y = ⟨x.toArray⟩ := ⟨_, rfl⟩
        have hyl : y.data.toList = x := by rw [hy]
        have hys : y.size ≤ 20 := by rw [Lib.size_eq, hyl]; exact hxl
        have hc : wr.cell? ⟨b, o + k, none⟩ = some (.string y) := by rw [hy]; exact (hbw.cell (p := ⟨b, o + k, none⟩) h3).trans (h4 k x hxk)
        have hm := fun W => rmay_any y W (by omega)
        rw [hyl] at hm
        have Hk := Lib.hid hxk
        have Hyl := Lib.hid hyl
        clear h4 hy hkL hyl hxk
        have hk1 : (0 : Int) ≤ k := by omega
        have hk2 : (k : Int) < n := by omega
        by_cases hn : Np.nameB x = true
        · rw [hn] at hm
          have Hm := Lib.hid hm; clear hm
          have Hn1 := Lib.hid hn; clear hn
          go_wp2_with (go_at_call 13; refine (Hm.out _).mono ?_; rintro e w' ⟨rfl, rfl⟩)
          go_roundw
          case rel => exact ⟨k + 1, _, by omega, by go_num, rfl, by have h47 : (⟨#[47]⟩ : ByteArray).size = 1 := rfl; simp [ByteArray.size_append]; omega, tail_step hu.out Hk.out Hyl.out, by show _ = _; rw [all_step hok.out Hk.out, Hn1.out], hbw⟩
          case measure => simp [intOf]; omega
        · have hn' : Np.nameB x = false := by simpa using hn
          rw [hn'] at hm
          have Hm := Lib.hid hm; clear hm
          have hb := all_found Hk.out hn'
          have Hb := Lib.hid hb
          clear hn hn' hb
          go_wp2_with (go_at_call 13; refine (Hm.out _).mono ?_; rintro e w' ⟨rfl, rfl⟩)
          go_ret2
          have hbad : ¬ (decide (L.length ≤ 6) && L.all Np.nameB) = true := by rw [Hb.out]; simp
          exact ⟨ret_join (by rw [HV.out, (join_bad hbad).1]) (by rw [HE.out, (join_bad hbad).2]), hbw⟩
      · have hk2 : (n : Int) ≤ k := by omega
        go_wp2
        go_ret2
        have h1 := hu.out
        have h2 := hok.out
        have hn1 := Hn.out
        rw [List.take_of_length_le (by omega)] at h1 h2
        rw [tail_ne H0.out] at h1
        have hgood : (decide (L.length ≤ 6) && L.all Np.nameB) = true := by rw [h2, decide_eq_true (show L.length ≤ 6 by omega)]; rfl
        exact ⟨ret_join (by rw [HV.out, (join_good hgood).1]; exact ba_of h1) (by rw [HE.out, (join_good hgood).2]), hbw⟩
  · have hbad : ¬ (decide (L.length ≤ 6) && L.all Np.nameB) = true := by rw [decide_eq_false h6]; simp
    obtain ⟨e1, e2⟩ := join_bad hbad
    rw [e1, e2]
    clear e1 e2 hbad
    have hz1 : ((L.length : Int) == 0) = false := by rw [beq_eq_false_iff_ne]; omega
    have hz2 : (6 : Int) < L.length := by omega
    go_enter Tryd.func25, Tryd.ntmps25
    go_wp2
    go_ret2
    exact ⟨rfl, Below.refl _ _⟩

set_option maxHeartbeats 2000000 in
theorem joins_core (A : Option Addr) (L K : List (List UInt8)) (hK : K = listL L) (c : Nat) (w : World) (hn : L.length ≤ 9223372036854775807) (hz : ∀ x ∈ L, x.length ≤ 9223372036854775807) (hS : SR w A L) (hM : Mx w) :
    Calls Tryd.prog 9 #[.slice A L.length c] w fun e w' => e = .returned (.bool true) ∧ Below w.heap.size w w' := by
  have h0 := list_any A L c w hn hz hS
  obtain ⟨hk9, hk20⟩ := listL_len L
  rw [← hK] at h0 hk9 hk20
  have H0 := Lib.hid h0
  clear h0 hn hz hS hK
  have HM := Lib.hid hM; clear hM
  have h1 := fun A c W hc hS hM => join_any A K c W hk9 hk20 hc hS hM
  have h2 := fun A c W hS => rjoin_any A K c W hk9 hk20 hS
  obtain ⟨V, hV⟩ : ∃ V, V = joinV K := ⟨_, rfl⟩
  obtain ⟨E, hE⟩ : ∃ E, E = joinE K := ⟨_, rfl⟩
  rw [← hV, ← hE] at h1 h2
  clear hV hE hk20
  have H1 := Lib.hid h1; clear h1
  have H2 := Lib.hid h2; clear h2
  go_enter Tryd.func9, Tryd.ntmps9
  go_wp2_with fail
  refine H0.out.mono ?_
  rintro e w1 ⟨A', c', rfl, hc', hS', hb1⟩
  have HM1 := Lib.hid (HM.out.keep hb1)
  have HS : Hid (Strs w1 0 A' K) := Lib.hid (hS'.low (Nat.zero_le _)); clear hS'
  go_wp2_with fail
  refine (H1.out _ _ _ hc' HS.out HM1.out).mono ?_
  rintro e w2 ⟨rfl, hb2⟩
  have HM2 := Lib.hid (HM1.out.keep hb2)
  have HB := Lib.hid (hb1.trans (hb2.mono hb1.size))
  go_wp2_with fail
  refine (H2.out _ _ _ (HS.out.keep hb2)).mono ?_
  rintro e w3 ⟨rfl, hb3⟩
  have HB3 := Lib.hid (HB.out.trans (hb3.mono HB.out.size))
  go_wp2_with fail
  refine (lives_any _ (HM2.out.keep hb3)).mono ?_
  rintro e w4 ⟨rfl, hb4⟩
  go_wp2
  go_ret
  exact ⟨rfl, HB3.out.trans (hb4.mono HB3.out.size)⟩
theorem law_joins (A : Option Addr) (n c : Nat) (w : World) (hR : Raw w A n c) (hM : Mx w) :
    Calls Tryd.prog 9 #[.slice A n c] w fun e w' => e = .returned (.bool true) ∧ Below w.heap.size w w' := by
  obtain ⟨L, rfl, _, hn, hz, hS⟩ := hR
  exact joins_core A L _ rfl c w hn hz hS hM

end Go.Proofs.YtoadbipcfolheaaDoor
