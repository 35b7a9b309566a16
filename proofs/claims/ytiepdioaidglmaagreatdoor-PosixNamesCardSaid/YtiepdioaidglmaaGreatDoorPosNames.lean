/- Walks: the law PosixNames: a directory's names rise, and are as many as its size tells. -/
import Derived.Test.YtiepdioaidglmaaGreatDoorPosPlayed
import Derived.Test.YtiepdioaidglmaaGreatDoorPosLives
import Derived.Deep.CutRange
import Derived.Test.YtiepdioaidglmaaGreatDoorPosList
import Derived.Deep.QuietTactic
import Derived.BigQuiet
set_option linter.unusedVariables false
set_option linter.unusedSimpArgs false
namespace Go.Proofs.YtiepdioaidglmaaGreatDoor
open Go.RowKit

theorem Strs.mine {w w' : World} {B : Nat} {A : Option Addr} {L : List (List UInt8)} {F F' : Nat → Prop} (h : Strs w B A L) (hF : ∀ k, B ≤ k → ¬ F k) (hM : ∀ g x, Mine F g x w → Mine F' g x w') : Strs w' B A L := by
  rcases h with h | ⟨b, o, h1, h2, h3, h4, h5⟩
  · exact Or.inl h
  · have hm := hM b w.heap[b] ⟨Array.getElem?_eq_getElem h3, hF b h2⟩
    have he : w'.heap[b]? = w.heap[b]? := hm.1.trans (Array.getElem?_eq_getElem h3).symm
    refine Or.inr ⟨b, o, h1, h2, hm.lt, fun j x hx => ?_, fun j => ?_⟩
    · exact (World.cell?_of_block (a := ⟨b, o + j, none⟩) he).trans (h4 j x hx)
    · have : w'.frozen? ⟨b, j, none⟩ = w.frozen? ⟨b, j, none⟩ := by
        unfold World.frozen?
        simp only [he]
      exact this.trans (h5 j)

set_option maxHeartbeats 8000000 in
set_option maxRecDepth 100000 in
theorem law_names [Inhabited XBox] (A : Option Addr) (L : List Ask) (c : Nat) (s : ByteArray) (w : World) (hx : MxX w) (hlen : L.length ≤ 9223372036854775807) (hA : Asks w A L) (hI : ∀ a ∈ L, I64 a.cl ∧ I64 a.fd) (_ : s.size ≤ 9223372036854775807) :
    Calls Tryz.prog 6 #[.slice A L.length c, .string s] w fun e w' => e = .returned (.bool true) ∧ Below w.heap.size w w' := by
  have HP := Lib.hid (played_any A L c 40 w (by omega) hx hlen hA hI)
  clear hx hA hI
  go_enter Tryz.func6, Tryz.ntmps6
  go_wp2_with fail
  refine HP.out.mono ?_
  rintro e w1 ⟨pr, rr, S, F, G, rfl, hB, hG, hF⟩
  have HA1 := Lib.hid hB.alone
  have HG := Lib.hid hG
  have HF := Lib.hid hF
  clear hB hF hG
  obtain ⟨q, hq0⟩ : ∃ q, q = cutB s 60 := ⟨_, rfl⟩
  have hqs : Hid (q.size ≤ 60) := Lib.hid (by rw [hq0]; exact cutB_size _ _)
  unfold cutB at hq0
  have hq := Lib.hid hq0
  clear hq0
  go_upto_if 22 with fail
  go_cut [1] from 20 to 24 (fun s1 wx => s1 = .string q ∧ wx = w1)
  case first =>
    by_cases h1 : 60 < s.size
    · have hq := hq.out
      rw [if_pos h1] at hq
      have HQ := Lib.hid hq
      clear hq
      go_wp2_with fail
      go_meet
      exact ⟨by rw [HQ.out], rfl⟩
    · have hq := hq.out
      rw [if_neg h1] at hq
      have HQ := Lib.hid hq
      clear hq
      go_wp2_with fail
      go_meet
      exact ⟨by rw [HQ.out], rfl⟩
  case rest =>
  obtain ⟨rfl, hwc⟩ := hcut
  subst wc
  go_wp2_with fail
  refine (list_any pr S 1 0 0 0 0 q ⟨#[]⟩ ⟨#[]⟩ w1 F (by decide) (by decide) (Nat.le_trans hqs.out (by omega)) (HG.out.mono (by omega)) HA1.out.real).mono ?_
  rintro e w2 ⟨A1, c1, rfl, hS1, hb2⟩
  have hBB := Pz.tells_both HG.out q.data.toList
  obtain ⟨Q1, hQ1⟩ : ∃ Q, Q = (Pz.tells S 12 q.data.toList).2 := ⟨_, rfl⟩
  obtain ⟨Q2, hQ2⟩ : ∃ Q, Q = (Pz.tells S 13 q.data.toList).2 := ⟨_, rfl⟩
  rw [← hQ1] at hS1 hBB
  rw [← hQ2] at hBB
  rw [← hQ1]
  have hQl : Q1.names.length ≤ 200 := by
    rw [hQ1]
    exact Nat.le_trans (Pz.tells_names _ _ _) HG.out.e
  obtain ⟨w3, hw⟩ : ∃ v, v = w2.alloc (.cells (repC Q1 A1 c1) 35) := ⟨_, rfl⟩
  have hb : Below w2.heap.size w2 w3 := by rw [hw]; exact (Below.refl _ _).alloc (Nat.le_refl _) _
  have hA2 := HA1.out.keep hb2
  have HA3 := Lib.hid (hA2.keep hb)
  have HS3 := Lib.hid (hS1.keep hb)
  have M1 : Hid (Mine F w2.heap.size (.cells (repC Q1 A1 c1) 35 (0, 0)) w3) := Lib.hid (by rw [hw]; exact Mine.make hA2 _ _)
  have HBB := Lib.hid hBB
  have HQ2 := Lib.hid hQ2
  have HQl := Lib.hid hQl
  unfold repC at hw
  have HW := Lib.hid hw
  clear hBB hS1 hQ1 hQ2 hw hb hA2 hb2 hQl
  unfold repV
  go_wp2_with fail
  rw [← HW.out]
  refine (do_alone HA3.out 1 13 0 0 0 0 q ⟨#[]⟩ ⟨#[]⟩ i64_1 i64_0 (Nat.le_trans hqs.out (by omega)) (by decide) (HG.out.mono (by omega)) (Pz.tells S 13 q.data.toList) (Pz.do_stat ..)).mono ?_
  rintro e w4 ⟨A2, c2, F4, rfl, -, hA4, hM4⟩
  rw [← HQ2.out]
  obtain ⟨w5, hw⟩ : ∃ v, v = w4.alloc (.cells (repC Q2 A2 c2) 35) := ⟨_, rfl⟩
  have hb : Below w4.heap.size w4 w5 := by rw [hw]; exact (Below.refl _ _).alloc (Nat.le_refl _) _
  have HA5 : Hid (Alone w pr S F4 w5) := Lib.hid (hA4.keep hb)
  have HS5 := Lib.hid ((HS3.out.mine (fun k e hF => absurd (HA1.out.fl k hF).1 (Nat.not_lt.2 e)) hM4).keep hb)
  have N1 := Lib.hid ((hM4 _ _ M1.out).keep hb)
  have N2 : Hid (Mine F4 w4.heap.size (.cells (repC Q2 A2 c2) 35 (0, 0)) w5) := Lib.hid (by rw [hw]; exact Mine.make hA4 _ _)
  unfold repC at hw
  have HW5 := Lib.hid hw
  clear hA4 hM4 hb hw
  unfold repV
  go_upto_region 8 with fail
  rw [← HW5.out]
  obtain ⟨e10, _, _, e13, _⟩ := N1.out.rep
  obtain ⟨e20, _, _, _, e24, e25, e26⟩ := N2.out.rep
  obtain ⟨g1, hg1⟩ : ∃ g, g = w2.heap.size := ⟨_, rfl⟩
  obtain ⟨g2, hg2⟩ : ∃ g, g = w4.heap.size := ⟨_, rfl⟩
  rw [← hg1] at e10 e13 ⊢
  rw [← hg2] at e20 e24 e25 e26 ⊢
  have hl1 : g1 < w5.heap.size := by rw [hg1]; exact N1.out.lt
  have hl2 : g2 < w5.heap.size := by rw [hg2]; exact N2.out.lt
  clear hg1 hg2
  rcases HBB.out with ⟨hne, hor⟩ | ⟨h0, hnm, hrise, h20, hk, hl, hsz⟩
  · have HOr := Lib.hid hor
    clear hor
    by_cases hee : Q2.errno = Q1.errno
    · rw [hee] at e20
      clear hee
      go_wp2_with fail
      refine (lives_any _ HA5.out.real.mxx).mono ?_
      rintro e wz ⟨rfl, hbz⟩
      go_wp2
      go_ret
      exact ⟨rfl, HA5.out.below.trans (hbz.mono HA5.out.below.size)⟩
    · obtain ⟨h12, hk1⟩ := HOr.out.resolve_left hee
      rw [h12] at e10 hee
      rw [hk1] at e24
      clear h12 hk1 hne
      go_wp2_with fail
      refine (lives_any _ HA5.out.real.mxx).mono ?_
      rintro e wz ⟨rfl, hbz⟩
      go_wp2
      go_ret
      exact ⟨rfl, HA5.out.below.trans (hbz.mono HA5.out.below.size)⟩
  · rw [h0] at e10
    rw [h20] at e20
    rw [hk] at e24
    rw [hl] at e25
    rw [hsz] at e26
    have HNm := Lib.hid hnm
    have HRi := Lib.hid hrise
    have hQl := HQl.out
    have HE := Lib.hid (And.intro e10 (And.intro e13 (And.intro e20 (And.intro e24 (And.intro e25 e26)))))
    clear h0 h20 hk hl hsz hnm hrise
    obtain ⟨N, hN⟩ : ∃ N, N = Q1.names := ⟨_, rfl⟩
    rw [← hN] at HS5 HNm HRi hQl e13 e26 HE
    clear hN
    go_wp2
    go_loopw [10] (fun v wr => ∃ k : Nat, v = .int .i64 k ∧ k ≤ N.length ∧ Hid (Below w5.heap.size w5 wr)) (fun v _ => N.length - (intOf v).toNat)
    case atStart => exact ⟨0, rfl, by omega, Lib.hid (Below.refl _ _)⟩
    case round =>
      obtain ⟨k, rfl, hk, hbw⟩ := hrel
      have f13 := (hbw.out.cell (p := ⟨g1, 3, none⟩) hl1).trans HE.out.2.1
      clear e10 e13 e20 e24 e25 e26
      by_cases h1 : k < N.length
      · have h1' : (k : Int) < N.length := by omega
        obtain ⟨x, hx⟩ : ∃ x, N[k]? = some x := ⟨_, List.getElem?_eq_getElem h1⟩
        rcases HS5.out with h | ⟨b, o, rfl, _, hb, hcs, _⟩
        · rw [h] at h1; simp at h1
        · have hcell : ∀ (W : World), Below w5.heap.size w5 W → ∀ j y, N[j]? = some y → W.cell? ⟨b, o + j, none⟩ = some (.string ⟨y.toArray⟩) := fun W hW j y hy => (hW.cell (p := ⟨b, o + j, none⟩) hb).trans (hcs j y hy)
          have hc1 := hcell wr hbw.out k x hx
          have hnx : Np.nameB (⟨x.toArray⟩ : ByteArray).data.toList = true := HNm.out x (List.mem_of_getElem? hx)
          have hsx : x.length ≤ 12 := by
            have := HNm.out x (List.mem_of_getElem? hx)
            unfold Np.nameB at this
            simp at this
            omega
          obtain ⟨y, hy⟩ : ∃ y : ByteArray, y = ⟨x.toArray⟩ := ⟨_, rfl⟩
          have hm := rmay_any y wr (by rw [hy, Lib.size_eq]; show x.length ≤ _; omega)
          rw [hy, hnx] at hm
          rw [← hy] at hm hc1
          have HMy := Lib.hid hm
          have HYx := Lib.hid hy
          have HCell := Lib.hid hcell
          have HX := Lib.hid hx
          have h0' : (0 : Int) ≤ k := by omega
          clear hcell hcs hnx hm hy hx h1
          go_wp2_with fail
          refine HMy.out.mono ?_
          rintro e wq ⟨rfl, rfl⟩
          by_cases hk0 : k = 0
          · subst hk0
            go_wp2
            go_quiet (fail)
            have hbq := below_drewN hbw.out nq
            generalize wr.drewN nq = wq at hbq ⊢
            clear f13 hc1
            go_wp2
            go_roundw
            case rel => exact ⟨1, by go_num, by omega, Lib.hid hbq⟩
            case measure => simp [intOf]; omega
          · obtain ⟨j, rfl⟩ : ∃ j, k = j + 1 := ⟨k - 1, by omega⟩
            obtain ⟨x0, hx0⟩ : ∃ x0, N[j]? = some x0 := ⟨_, List.getElem?_eq_getElem (by omega)⟩
            have hc0 := HCell.out wr hbw.out j x0 hx0
            have hlt0 : x0 < x := by
              obtain ⟨i1, e1⟩ := List.getElem?_eq_some_iff.1 hx0
              obtain ⟨i2, e2⟩ := List.getElem?_eq_some_iff.1 HX.out
              rw [← e1, ← e2]
              exact List.pairwise_iff_getElem.1 HRi.out j (j + 1) i1 i2 (by omega)
            obtain ⟨y0, hy0⟩ : ∃ y0 : ByteArray, y0 = ⟨x0.toArray⟩ := ⟨_, rfl⟩
            rw [← hy0] at hc0
            have hl : Op.bytesLess y0.toList y.toList = true := by
              rw [less_eq, Lib.toList_data, Lib.toList_data, hy0, HYx.out]
              exact decide_eq_true hlt0
            have hj0 : (0 : Int) < (j : Int) + 1 := by omega
            have hj1 : (j : Int) + 1 - 1 = j := by omega
            clear hy0 hx0 hlt0
            go_wp2
            go_quiet (fail)
            have hbq := below_drewN hbw.out nq
            generalize wr.drewN nq = wq at hbq ⊢
            clear f13 hc1 hc0
            go_wp2
            go_roundw
            case rel => exact ⟨j + 2, by go_num, by omega, Lib.hid hbq⟩
            case measure => simp [intOf]; omega
      · have h1' : (N.length : Int) ≤ k := by omega
        obtain ⟨_, _, e20', e24', e25', e26'⟩ := HE.out
        have f20 := (hbw.out.cell (p := ⟨g2, 0, none⟩) hl2).trans e20'
        have f24 := (hbw.out.cell (p := ⟨g2, 4, none⟩) hl2).trans e24'
        have f25 := (hbw.out.cell (p := ⟨g2, 5, none⟩) hl2).trans e25'
        have f26 := (hbw.out.cell (p := ⟨g2, 6, none⟩) hl2).trans e26'
        have HAw := Lib.hid (HA5.out.keep hbw.out)
        clear h1 e20' e24' e25' e26'
        go_wp2_with fail
        refine (lives_any _ HAw.out.real.mxx).mono ?_
        rintro e wz ⟨rfl, hbz⟩
        go_wp2
        go_ret
        exact ⟨rfl, HAw.out.below.trans (hbz.mono HAw.out.below.size)⟩

end Go.Proofs.YtiepdioaidglmaaGreatDoor
