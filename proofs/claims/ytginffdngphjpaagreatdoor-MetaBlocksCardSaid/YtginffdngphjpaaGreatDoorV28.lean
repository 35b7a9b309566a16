/- Walks: commonsref11.May. -/
import Derived.Test.YtginffdngphjpaaGreatDoorV27
import Derived.BigQuiet
import Derived.Deep.QuietTactic
set_option linter.unusedVariables false
set_option linter.unusedSimpArgs false
namespace Go.Proofs.YtginffdngphjpaaGreatDoor
open Go.RowKit Go.Shelf

attribute [local go_sem] Oper.semAt_some

/-- what the chapter says of an inode -/
structure RMay (X : Gd.Ino) : Prop where
  b : ∀ k : Nat, k < 4 → ∀ n : Int, X.B[k]? = some n → (0 ≤ n ∧ n ≤ 128) ∧ ∀ j : Nat, j < k → ∀ m : Int, X.B[j]? = some m → m ≠ 0 → m ≠ n
  o : ∀ k : Nat, k < 8 → ∀ n : Int, X.O[k]? = some n → (0 ≤ n ∧ n ≤ 8) ∧ (X.k ≠ 1 → n = 0)
  f : X.k = 1 → (∀ k : Nat, k < 4 → ∀ n : Int, X.B[k]? = some n → (n ≠ 0 ↔ (64 * k : Int) < X.s)) ∧ 0 ≤ X.l ∧ X.l ≤ 20 ∧ 0 ≤ X.s ∧ X.s ≤ 256
  d : X.k = 2 → X.l = 1 ∧ 0 ≤ X.s ∧ X.s ≤ 16
  z : X.k ≠ 1 → X.k ≠ 2 → X = Gd.noIno

def RPost (X : Gd.Ino) (w : World) (e : Ending) (w' : World) : Prop := ∃ r : Bool, e = .returned (.bool r) ∧ (r = true ↔ RMay X) ∧ Below w.heap.size w w'
theorem rpost_no {X : Gd.Ino} {w w' : World} (h : ¬ RMay X) (hb : Below w.heap.size w w') : RPost X w (.returned (.bool false)) w' := ⟨false, rfl, ⟨fun e => absurd e (by decide), fun e => absurd e h⟩, hb⟩

set_option maxHeartbeats 8000000 in
set_option maxRecDepth 100000 in
theorem rmay_any (X : Gd.Ino) (hX : X.Shape) (hI : AllI (inoL X)) (w : World) :
    Calls Tryz.prog 10 #[inoV X] w (RPost X w) := by
  obtain ⟨hb0, hr0⟩ := below_new w (inoC X) 25
  obtain ⟨xb, hxb⟩ : ∃ xb, xb = w.heap.size := ⟨_, rfl⟩
  obtain ⟨w0, hw0⟩ : ∃ u, u = w.alloc (.cells (inoC X) 25) := ⟨_, rfl⟩
  rw [← hw0, ← hxb] at hr0
  rw [← hw0] at hb0
  have HI0 : Hid (InoAt w0 xb X) := Lib.hid ⟨hr0, hX⟩
  have HS := Lib.hid (inoC_size hX)
  have HX := Lib.hid hX
  have HB0 := Lib.hid hb0
  have HW0 := Lib.hid hw0.symm
  have Hxb := Lib.hid hxb.symm
  have HEq := Lib.hid fun W => ino_eql hX noIno_shape hI noIno_all W
  obtain ⟨ki, hki⟩ : ∃ k, k = X.k := ⟨_, rfl⟩
  obtain ⟨li, hli⟩ : ∃ k, k = X.l := ⟨_, rfl⟩
  obtain ⟨si, hsi⟩ : ∃ k, k = X.s := ⟨_, rfl⟩
  have Hk := Lib.hid hki
  have Hl := Lib.hid hli
  have Hs := Lib.hid hsi
  have d0 := HI0.out.c0
  have d1 := HI0.out.c1
  have d2 := HI0.out.c2
  rw [← hki] at d0
  rw [← hli] at d1
  rw [← hsi] at d2
  clear hX hI hb0 hr0 hxb hw0 hki hli hsi
  unfold inoV at *
  go_enter Tryz.func10, Tryz.ntmps10
  go_upto_region 2 with fail
  rw [HW0.out, Hxb.out]
  go_loopw [3, 4] (fun z _ wr => ∃ k : Nat, z = .int .i64 k ∧ k ≤ 4 ∧ Hid (∀ k' : Nat, k' < k → ∀ n : Int, X.B[k']? = some n → (0 ≤ n ∧ n ≤ 128) ∧ ∀ j : Nat, j < k' → ∀ m : Int, X.B[j]? = some m → m ≠ 0 → m ≠ n) ∧ Hid (Below w0.heap.size w0 wr)) (fun z _ _ => 4 - (intOf z).toNat)
  case atStart => exact ⟨0, rfl, by omega, Lib.hid (fun k' h => by omega), Lib.hid (Below.refl _ _)⟩
  case round =>
    obtain ⟨k, rfl, hk, HB, HBr⟩ := hrel
    have HBw : Hid (Below w.heap.size w wr) := Lib.hid (HB0.out.trans (HBr.out.mono HB0.out.size))
    by_cases hlt : k < 4
    · obtain ⟨n, hn⟩ : ∃ n, X.B[k]? = some n := ⟨_, List.getElem?_eq_getElem (by rw [HX.out.1]; exact hlt)⟩
      obtain ⟨b0, -⟩ := (HI0.out.keep HBr.out).cB hn
      have k4 : (k : Int) < 4 := by omega
      have k0 : (0 : Int) ≤ k := by omega
      have Hn := Lib.hid hn
      have Hlt := Lib.hid hlt
      clear hn hlt
      by_cases hn0 : n < 0
      · go_wp2_with fail
        go_ret
        refine rpost_no (fun h => ?_) HBw.out
        have := (h.b k Hlt.out n Hn.out).1
        omega
      · by_cases hn1 : 128 < n
        · go_wp2_with fail
          go_ret
          refine rpost_no (fun h => ?_) HBw.out
          have := (h.b k Hlt.out n Hn.out).1
          omega
        · go_upto_region 7 with fail
          go_loopw [4] (fun z wr2 => ∃ j : Nat, z = .int .i64 j ∧ j ≤ k ∧ Hid (∀ j' : Nat, j' < j → ∀ m : Int, X.B[j']? = some m → m ≠ 0 → m ≠ n) ∧ Hid (Below w0.heap.size w0 wr2)) (fun z _ => k - (intOf z).toNat)
          case atStart => exact ⟨0, rfl, by omega, Lib.hid (fun j h => by omega), HBr⟩
          case round =>
            clear HBw b0
            obtain ⟨j, rfl, hj, HJ, HBr⟩ := hrel
            have HBw : Hid (Below w.heap.size w wr) := Lib.hid (HB0.out.trans (HBr.out.mono HB0.out.size))
            obtain ⟨b0, -⟩ := (HI0.out.keep HBr.out).cB Hn.out
            by_cases hjl : j < k
            · obtain ⟨m, hm⟩ : ∃ m, X.B[j]? = some m := ⟨_, List.getElem?_eq_getElem (by rw [HX.out.1]; have := Hlt.out; omega)⟩
              obtain ⟨c0, -⟩ := (HI0.out.keep HBr.out).cB hm
              have jk : (j : Int) < k := by omega
              have j4 : (j : Int) < 4 := by omega
              have j0 : (0 : Int) ≤ j := by omega
              have Hm := Lib.hid hm
              have Hjl := Lib.hid hjl
              clear hm hjl
              have HStep : Hid ((m ≠ 0 → m ≠ n) → ∀ j' : Nat, j' < j + 1 → ∀ m : Int, X.B[j']? = some m → m ≠ 0 → m ≠ n) := Lib.hid fun hmn j' hj' m' hm' => by
                by_cases e : j' = j
                · subst e
                  rw [Hm.out] at hm'
                  cases hm'
                  exact hmn
                · exact HJ.out j' (by omega) m' hm'
              by_cases hm0 : m = 0
              · have e0 : (m == 0) = true := by simp [hm0]
                have e1 : (m != 0) = false := by simp [hm0]
                have HSt := Lib.hid (HStep.out fun h => absurd hm0 h)
                clear hm0
                go_upto_region 9 with fail
                go_quiet (fail)
                go_wp2
                go_roundw
                case rel => exact ⟨j + 1, by go_num, by have := Hjl.out; omega, HSt, Lib.hid (below_drewN HBr.out _)⟩
                case measure => simp [intOf]; have := Hjl.out; omega
              · by_cases hmn : m = n
                · have e0 : (m == 0) = false := by simp [hm0]
                  have e1 : (m != 0) = true := by simp [hm0]
                  have e2 : (m == n) = true := by simp [hmn]
                  have HNo : Hid (¬ RMay X) := Lib.hid fun h => (h.b k Hlt.out n Hn.out).2 j Hjl.out m Hm.out hm0 hmn
                  clear hm0 hmn
                  go_upto_region 9 with fail
                  go_quiet (fail)
                  go_wp2
                  go_ret
                  exact rpost_no HNo.out (below_drewN HBw.out _)
                · have e0 : (m == 0) = false := by simp [hm0]
                  have e1 : (m != 0) = true := by simp [hm0]
                  have e2 : (m == n) = false := by simp [hmn]
                  have HSt := Lib.hid (HStep.out fun _ => hmn)
                  clear hm0 hmn
                  go_upto_region 9 with fail
                  go_quiet (fail)
                  go_wp2
                  go_roundw
                  case rel => exact ⟨j + 1, by go_num, by have := Hjl.out; omega, HSt, Lib.hid (below_drewN HBr.out _)⟩
                  case measure => simp [intOf]; have := Hjl.out; omega
            · obtain rfl : j = k := by omega
              clear hjl
              go_wp2
              go_roundw
              case rel =>
                refine ⟨j + 1, by go_num, by have := Hlt.out; omega, Lib.hid fun k' hk' n' hn' => ?_, HBr⟩
                by_cases e : k' = j
                · subst e
                  rw [Hn.out] at hn'
                  cases hn'
                  exact ⟨by omega, HJ.out⟩
                · exact HB.out k' (by omega) n' hn'
              case measure => simp [intOf]; have := Hlt.out; omega
    · obtain rfl : k = 4 := by omega
      clear hlt hk d0 d1 d2
      have d0 := (HI0.out.keep HBr.out).c0
      rw [← Hk.out] at d0
      go_upto_region 12 with fail
      go_loopw [5] (fun z wr2 => ∃ k : Nat, z = .int .i64 k ∧ k ≤ 8 ∧ Hid (∀ k' : Nat, k' < k → ∀ n : Int, X.O[k']? = some n → (0 ≤ n ∧ n ≤ 8) ∧ (X.k ≠ 1 → n = 0)) ∧ wr2 = wr) (fun z _ => 8 - (intOf z).toNat)
      case atStart => exact ⟨0, rfl, by omega, Lib.hid (fun j h => by omega), rfl⟩
      case round =>
        obtain ⟨k, rfl, hk, HO, hwr⟩ := hrel
        subst hwr
        by_cases hlt : k < 8
        · obtain ⟨n, hn⟩ : ∃ n, X.O[k]? = some n := ⟨_, List.getElem?_eq_getElem (by rw [HX.out.2]; exact hlt)⟩
          obtain ⟨b0, -⟩ := (HI0.out.keep HBr.out).cO hn
          have k8 : (k : Int) < 8 := by omega
          have k0 : (0 : Int) ≤ k := by omega
          have Hn := Lib.hid hn
          have Hlt := Lib.hid hlt
          clear hn hlt
          have HNo : Hid (¬ ((0 ≤ n ∧ n ≤ 8) ∧ (X.k ≠ 1 → n = 0)) → ¬ RMay X) := Lib.hid fun h1 h => h1 (h.o k Hlt.out n Hn.out)
          by_cases hn0 : n < 0
          · go_wp2_with fail
            go_ret
            exact rpost_no (HNo.out fun h => by omega) HBw.out
          · by_cases hn1 : 8 < n
            · go_wp2_with fail
              go_ret
              exact rpost_no (HNo.out fun h => by omega) HBw.out
            · have HSt : Hid ((X.k ≠ 1 → n = 0) → ∀ k' : Nat, k' < k + 1 → ∀ n : Int, X.O[k']? = some n → (0 ≤ n ∧ n ≤ 8) ∧ (X.k ≠ 1 → n = 0)) := Lib.hid fun hz k' hk' n' hn' => by
                by_cases e : k' = k
                · subst e
                  rw [Hn.out] at hn'
                  cases hn'
                  exact ⟨by omega, hz⟩
                · exact HO.out k' (by omega) n' hn'
              by_cases hk1 : ki = 1
              · have HS2 := Lib.hid (HSt.out fun h => absurd (Hk.out.symm.trans hk1) h)
                go_wp2_with fail
                go_roundw
                case rel => exact ⟨k + 1, by go_num, by have := Hlt.out; omega, HS2, trivial⟩
                case measure => simp [intOf]; have := Hlt.out; omega
              · by_cases hnz : n = 0
                · have HS2 := Lib.hid (HSt.out fun _ => hnz)
                  subst hnz
                  have e1 : (ki != 1) = true := by simp [hk1]
                  have e2 : (ki == 1) = false := by simp [hk1]
                  go_wp2_with fail
                  all_goals first | exact ⟨⟨k + 1, by go_num, by have := Hlt.out; omega, HS2, trivial⟩, by simp [intOf]; have := Hlt.out; omega⟩ | exact ⟨⟨k + 1, by go_num, by have := Hlt.out; omega, HS2⟩, by simp [intOf]; have := Hlt.out; omega⟩
                · have HN2 := Lib.hid (HNo.out fun h => hnz (h.2 (by rw [← Hk.out]; exact hk1)))
                  have e1 : (ki != 1) = true := by simp [hk1]
                  have e2 : (ki == 1) = false := by simp [hk1]
                  have e3 : (n != 0) = true := by simp [hnz]
                  have e4 : (n == 0) = false := by simp [hnz]
                  go_wp2_with fail
                  go_ret
                  exact rpost_no HN2.out HBw.out
        · obtain rfl : k = 8 := by omega
          clear hlt hk
          have d1 := (HI0.out.keep HBr.out).c1
          have d2 := (HI0.out.keep HBr.out).c2
          rw [← Hl.out] at d1
          rw [← Hs.out] at d2
          have HBo : Hid (∀ k : Nat, k < 4 → ∀ n : Int, X.B[k]? = some n → (0 ≤ n ∧ n ≤ 128) ∧ ∀ j : Nat, j < k → ∀ m : Int, X.B[j]? = some m → m ≠ 0 → m ≠ n) := Lib.hid (by simpa using HB.out)
          have HOo : Hid (∀ k : Nat, k < 8 → ∀ n : Int, X.O[k]? = some n → (0 ≤ n ∧ n ≤ 8) ∧ (X.k ≠ 1 → n = 0)) := Lib.hid (by simpa using HO.out)
          by_cases hk1 : ki = 1
          · have e1 : (ki == 1) = true := by simp [hk1]
            have HK1 : Hid (X.k = 1) := Lib.hid (Hk.out.symm.trans hk1)
            clear hk1
            have HFin : Hid (RMay X ↔ (∀ k : Nat, k < 4 → ∀ n : Int, X.B[k]? = some n → (n ≠ 0 ↔ (64 * k : Int) < X.s)) ∧ 0 ≤ li ∧ li ≤ 20 ∧ 0 ≤ si ∧ si ≤ 256) := Lib.hid ⟨fun h => by rw [Hl.out, Hs.out]; exact h.f HK1.out, fun h => ⟨HBo.out, HOo.out, fun _ => by rw [← Hl.out, ← Hs.out]; rw [← Hs.out] at h; exact h, fun e => absurd (HK1.out.symm.trans e) (by decide), fun e => absurd HK1.out e⟩⟩
            clear HB HO HBo HOo
            go_upto_region 18 with fail
            go_loopw [6] (fun z wr2 => ∃ k : Nat, z = .int .i64 k ∧ k ≤ 4 ∧ Hid (∀ k' : Nat, k' < k → ∀ n : Int, X.B[k']? = some n → (n ≠ 0 ↔ (64 * k' : Int) < X.s)) ∧ Hid (Below w0.heap.size w0 wr2)) (fun z _ => 4 - (intOf z).toNat)
            case atStart => exact ⟨0, rfl, by omega, Lib.hid (fun j h => by omega), HBr⟩
            case round =>
              clear HBw d0 d1 d2
              obtain ⟨k, rfl, hk, HG, HBr⟩ := hrel
              have HBw : Hid (Below w.heap.size w wr) := Lib.hid (HB0.out.trans (HBr.out.mono HB0.out.size))
              have d1 := (HI0.out.keep HBr.out).c1
              have d2 := (HI0.out.keep HBr.out).c2
              rw [← Hl.out] at d1
              rw [← Hs.out] at d2
              by_cases hlt : k < 4
              · obtain ⟨n, hn⟩ : ∃ n, X.B[k]? = some n := ⟨_, List.getElem?_eq_getElem (by rw [HX.out.1]; exact hlt)⟩
                obtain ⟨b0, -⟩ := (HI0.out.keep HBr.out).cB hn
                have k4 : (k : Int) < 4 := by omega
                have k0 : (0 : Int) ≤ k := by omega
                have Hn := Lib.hid hn
                have Hlt := Lib.hid hlt
                clear hn hlt
                obtain ⟨p, hp⟩ : ∃ p, p = decide (64 * (k : Int) < si) := ⟨_, rfl⟩
                obtain ⟨q, hq⟩ : ∃ q, q = (n != 0) := ⟨_, rfl⟩
                have hp2 := hp.symm
                have hq2 := hq.symm
                have HPQ : Hid ((q = p) ↔ (n ≠ 0 ↔ (64 * k : Int) < X.s)) := Lib.hid (by rw [hp, hq, ← Hs.out, Bool.eq_iff_iff]; simp)
                clear hp hq
                by_cases hpq : q = p
                · have HSt : Hid (∀ k' : Nat, k' < k + 1 → ∀ n : Int, X.B[k']? = some n → (n ≠ 0 ↔ (64 * k' : Int) < X.s)) := Lib.hid fun k' hk' n' hn' => by
                    by_cases e : k' = k
                    · subst e
                      rw [Hn.out] at hn'
                      cases hn'
                      exact HPQ.out.1 hpq
                    · exact HG.out k' (by omega) n' hn'
                  subst hpq
                  go_upto_region 20 with fail
                  go_quiet (fail)
                  go_wp2
                  go_roundw
                  case rel => exact ⟨k + 1, by go_num, by have := Hlt.out; omega, HSt, Lib.hid (below_drewN HBr.out _)⟩
                  case measure => simp [intOf]; have := Hlt.out; omega
                · have HNo : Hid (¬ RMay X) := Lib.hid fun h => hpq (HPQ.out.2 ((HFin.out.1 h).1 k Hlt.out n Hn.out))
                  cases q <;> cases p
                  · exact absurd rfl hpq
                  · go_upto_region 20 with fail
                    go_quiet (fail)
                    go_wp2
                    go_ret
                    exact rpost_no HNo.out (below_drewN HBw.out _)
                  · go_upto_region 20 with fail
                    go_quiet (fail)
                    go_wp2
                    go_ret
                    exact rpost_no HNo.out (below_drewN HBw.out _)
                  · exact absurd rfl hpq
              · obtain rfl : k = 4 := by omega
                clear hlt hk
                have HG4 : Hid (∀ k : Nat, k < 4 → ∀ n : Int, X.B[k]? = some n → (n ≠ 0 ↔ (64 * k : Int) < X.s)) := Lib.hid (by simpa using HG.out)
                by_cases h1 : 0 ≤ li
                · by_cases h2 : li ≤ 20
                  · by_cases h3 : 0 ≤ si
                    · by_cases h4 : si ≤ 256
                      · have HY := Lib.hid (HFin.out.2 ⟨HG4.out, h1, h2, h3, h4⟩)
                        go_wp2_with fail
                        go_ret
                        exact ⟨true, by simp [h4], ⟨fun _ => HY.out, fun _ => rfl⟩, HBw.out⟩
                      · have HN := Lib.hid (fun h => h4 (HFin.out.1 h).2.2.2.2)
                        go_wp2_with fail
                        go_ret
                        exact ⟨false, by simp [h4], ⟨fun e => absurd e (by decide), fun e => absurd e HN.out⟩, HBw.out⟩
                    · have HN := Lib.hid (fun h => h3 (HFin.out.1 h).2.2.2.1)
                      go_wp2_with fail
                      go_ret
                      exact ⟨false, by simp, ⟨fun e => absurd e (by decide), fun e => absurd e HN.out⟩, HBw.out⟩
                  · have HN := Lib.hid (fun h => h2 (HFin.out.1 h).2.2.1)
                    go_wp2_with fail
                    go_ret
                    exact ⟨false, by simp, ⟨fun e => absurd e (by decide), fun e => absurd e HN.out⟩, HBw.out⟩
                · have HN := Lib.hid (fun h => h1 (HFin.out.1 h).2.1)
                  go_wp2_with fail
                  go_ret
                  exact ⟨false, by simp, ⟨fun e => absurd e (by decide), fun e => absurd e HN.out⟩, HBw.out⟩
          · have e1 : (ki == 1) = false := by simp [hk1]
            have HK1 : Hid (X.k ≠ 1) := Lib.hid (by rw [← Hk.out]; exact hk1)
            by_cases hk2 : ki = 2
            · have HK2 : Hid (X.k = 2) := Lib.hid (Hk.out.symm.trans hk2)
              have e2 : (ki == 2) = true := by simp [hk2]
              clear hk1 hk2
              have HFin : Hid (RMay X ↔ li = 1 ∧ 0 ≤ si ∧ si ≤ 16) := Lib.hid ⟨fun h => by rw [Hl.out, Hs.out]; exact h.d HK2.out, fun h => ⟨HBo.out, HOo.out, fun e => absurd e HK1.out, fun _ => by rw [← Hl.out, ← Hs.out]; exact h, fun _ e => absurd HK2.out e⟩⟩
              by_cases h1 : li = 1
              · have e3 : (li == 1) = true := by simp [h1]
                by_cases h2 : 0 ≤ si
                · by_cases h3 : si ≤ 16
                  · have HY := Lib.hid (HFin.out.2 ⟨h1, h2, h3⟩)
                    clear h1
                    go_wp2_with fail
                    go_ret
                    exact ⟨true, by simp, ⟨fun _ => HY.out, fun _ => rfl⟩, HBw.out⟩
                  · have HN := Lib.hid (fun h => h3 (HFin.out.1 h).2.2)
                    clear h1
                    go_wp2_with fail
                    go_ret
                    exact ⟨false, by simp [h3], ⟨fun e => absurd e (by decide), fun e => absurd e HN.out⟩, HBw.out⟩
                · have HN := Lib.hid (fun h => h2 (HFin.out.1 h).2.1)
                  clear h1
                  go_wp2_with fail
                  go_ret
                  exact ⟨false, by simp, ⟨fun e => absurd e (by decide), fun e => absurd e HN.out⟩, HBw.out⟩
              · have e3 : (li == 1) = false := by simp [h1]
                have HN := Lib.hid (fun h => h1 (HFin.out.1 h).1)
                clear h1
                go_wp2_with fail
                go_ret
                exact ⟨false, by simp, ⟨fun e => absurd e (by decide), fun e => absurd e HN.out⟩, HBw.out⟩
            · have e2 : (ki == 2) = false := by simp [hk2]
              have HK2 : Hid (X.k ≠ 2) := Lib.hid (by rw [← Hk.out]; exact hk2)
              clear hk1 hk2
              have heq : (binOp .eql 25 (.agg (inoC X)) (.agg #[.int .i64 0, .int .i64 0, .int .i64 0, .int .i64 0, .int .i64 0, .int .i64 0, .int .i64 0, .int .i64 0, .int .i64 0, .int .i64 0, .int .i64 0, .int .i64 0, .int .i64 0, .int .i64 0, .int .i64 0])).run Tryz.prog wr = .ok (.bool (decide (X = Gd.noIno))) wr := HEq.out wr
              have HRow := Lib.hid (HI0.out.keep HBr.out).row
              have HFin : Hid (RMay X ↔ X = Gd.noIno) := Lib.hid ⟨fun h => h.z HK1.out HK2.out, fun h => ⟨HBo.out, HOo.out, fun e => absurd e HK1.out, fun e => absurd e HK2.out, fun _ _ => h⟩⟩
              obtain ⟨q, hq⟩ : ∃ q, q = decide (X = Gd.noIno) := ⟨_, rfl⟩
              rw [← hq] at heq
              have HQ := Lib.hid hq
              clear hq
              go_wp2_with (first | (refine wpList_bin rfl .eql 25 _ _ _ rfl (inoV X) (inoV Gd.noIno) (.bool q) rfl rfl (ino_guard _ _ _ _ _ _) heq ?_) | (refine wpList_load_row rfl 25 _ rfl xb rfl 25 (inoC X) (0, 0) _ HRow.out Tryz.underlying25 rfl (by rw [HS.out]; exact Tryz.sizeIno) ?_))
              go_ret
              exact ⟨q, rfl, by rw [HQ.out, decide_eq_true_iff]; exact HFin.out.symm, HBw.out⟩

end Go.Proofs.YtginffdngphjpaaGreatDoor

/- Which inodes may be: the chapter's words and the code's, in plain words. -/
namespace Go.Proofs.YtginffdngphjpaaGreatDoor
namespace Gd
theorem blkB_iff {kind size : Int} {B : List Int} : ∀ (r pre : List Int), B = pre ++ r → (blkB kind size pre.length pre r = true ↔ ∀ k : Nat, pre.length ≤ k → ∀ n : Int, B[k]? = some n → (0 ≤ n ∧ n ≤ 128) ∧ (0 < n → n ∉ B.take k) ∧ (kind = 1 → (0 < n ↔ (64 * k : Int) < size)))
  | [], pre, e => by
    refine ⟨fun _ k hk n hn => ?_, fun _ => rfl⟩
    rw [e, List.append_nil, List.getElem?_eq_none hk] at hn
    cases hn
  | b :: r, pre, e => by
    have hb : B[pre.length]? = some b := by
      rw [e, List.getElem?_append_right (Nat.le_refl _), Nat.sub_self]
      rfl
    have ht : B.take pre.length = pre := by rw [e, List.take_left' rfl]
    have ih := blkB_iff (kind := kind) (size := size) (B := B) r (pre ++ [b]) (by rw [e]; simp)
    rw [List.length_append] at ih
    have hcur : ((decide (0 ≤ b) && decide (b ≤ 128) && !(decide (0 < b) && pre.contains b) && !(decide (kind = 1) && (decide (0 < b) != decide ((64 * (pre.length : Nat) : Int) < size)))) = true) ↔ ((0 ≤ b ∧ b ≤ 128) ∧ (0 < b → b ∉ pre) ∧ (kind = 1 → (0 < b ↔ (64 * (pre.length : Nat) : Int) < size))) := by
      have h1 : ((!(decide (0 < b) && pre.contains b)) = true) ↔ (0 < b → b ∉ pre) := by
        by_cases h : 0 < b
        · simp [h, List.contains_iff_mem]
        · simp [h]
      have h2 : ((!(decide (kind = 1) && (decide (0 < b) != decide ((64 * (pre.length : Nat) : Int) < size)))) = true) ↔ (kind = 1 → (0 < b ↔ (64 * (pre.length : Nat) : Int) < size)) := by
        by_cases h : kind = 1
        · by_cases h3 : 0 < b <;> by_cases h4 : (64 * (pre.length : Nat) : Int) < size <;> simp [h, h3, h4]
        · simp [h]
      rw [Bool.and_eq_true, Bool.and_eq_true, Bool.and_eq_true, h1, h2, decide_eq_true_iff, decide_eq_true_iff, and_assoc]
    show ((decide (0 ≤ b) && decide (b ≤ 128) && !(decide (0 < b) && pre.contains b) && !(decide (kind = 1) && (decide (0 < b) != decide ((64 * (pre.length : Nat) : Int) < size))) && blkB kind size (pre.length + 1) (pre ++ [b]) r) = true) ↔ _
    rw [Bool.and_eq_true, hcur]
    constructor
    · rintro ⟨hc, hr⟩ k hk n hn
      by_cases e2 : k = pre.length
      · subst e2
        rw [hb] at hn
        cases hn
        rw [ht]
        exact hc
      · exact ih.1 hr k (by show pre.length + 1 ≤ k; omega) n hn
    · intro h
      refine ⟨?_, ih.2 fun k hk n hn => h k (by have : pre.length + 1 ≤ k := hk; omega) n hn⟩
      have := h pre.length (Nat.le_refl _) b hb
      rw [ht] at this
      exact this
theorem opnB_iff {most : Int} {O : List Int} : opnB most O = true ↔ ∀ (k : Nat) (n : Int), O[k]? = some n → 0 ≤ n ∧ n ≤ most := by
  unfold opnB
  rw [List.all_eq_true]
  constructor
  · intro h k n hn
    have := h n (List.mem_of_getElem? hn)
    simpa using this
  · intro h n hn
    obtain ⟨k, hk⟩ := List.getElem?_of_mem hn
    have := h k n hk
    simpa using this
end Gd
theorem rmay_blk {X : Gd.Ino} (hX : X.Shape) (kind : Int) : Gd.blkB kind X.s 0 [] X.B = true ↔ (∀ k : Nat, k < 4 → ∀ n : Int, X.B[k]? = some n → (0 ≤ n ∧ n ≤ 128) ∧ ∀ j : Nat, j < k → ∀ m : Int, X.B[j]? = some m → m ≠ 0 → m ≠ n) ∧ (kind = 1 → ∀ k : Nat, k < 4 → ∀ n : Int, X.B[k]? = some n → (n ≠ 0 ↔ (64 * k : Int) < X.s)) := by
  have h0 := Gd.blkB_iff (kind := kind) (size := X.s) (B := X.B) X.B [] rfl
  rw [show ([] : List Int).length = 0 from rfl] at h0
  rw [h0]
  constructor
  · intro h
    refine ⟨fun k hk n hn => ?_, fun hki k hk n hn => ?_⟩
    · obtain ⟨h1, h2, _⟩ := h k (Nat.zero_le _) n hn
      refine ⟨h1, fun j hj m hm hm0 e => ?_⟩
      subst e
      refine h2 (by omega) ?_
      have hg : (X.B.take k)[j]? = some m := by rw [List.getElem?_take, if_pos hj]; exact hm
      exact List.mem_of_getElem? hg
    · obtain ⟨h1, _, h3⟩ := h k (Nat.zero_le _) n hn
      have := h3 hki
      omega
  · rintro ⟨h1, h2⟩ k _ n hn
    have hk : k < 4 := by
      have := (List.getElem?_eq_some_iff.1 hn).1
      rw [hX.1] at this
      exact this
    obtain ⟨h3, h4⟩ := h1 k hk n hn
    refine ⟨h3, fun hn0 hmem => ?_, fun hki => ?_⟩
    · obtain ⟨j, hj⟩ := List.getElem?_of_mem hmem
      rw [List.getElem?_take] at hj
      split at hj
      · rename_i hjk
        exact h4 j hjk n hj (by omega) rfl
      · cases hj
    · have := h2 hki k hk n hn
      omega
theorem rmay_iff {X : Gd.Ino} (hX : X.Shape) : RMay X ↔ Gd.mayI X = true := by
  have hO : ∀ {k : Nat} {n : Int}, X.O[k]? = some n → k < 8 := fun h => by
    have := (List.getElem?_eq_some_iff.1 h).1
    rw [hX.2] at this
    exact this
  by_cases h1 : X.k = 1
  · have hm : Gd.mayI X = (decide (0 ≤ X.l) && decide (X.l ≤ 20) && decide (0 ≤ X.s) && decide (X.s ≤ 256) && Gd.opnB 8 X.O && Gd.blkB 1 X.s 0 [] X.B) := by
      unfold Gd.mayI
      rw [if_neg (by omega), if_pos h1]
    rw [hm]
    simp only [Bool.and_eq_true, decide_eq_true_eq]
    rw [rmay_blk hX, Gd.opnB_iff]
    constructor
    · intro h
      obtain ⟨f1, f2, f3, f4, f5⟩ := h.f h1
      exact ⟨⟨⟨⟨⟨f2, f3⟩, f4⟩, f5⟩, fun k n hn => (h.o k (hO hn) n hn).1⟩, h.b, fun _ => f1⟩
    · rintro ⟨⟨⟨⟨⟨f2, f3⟩, f4⟩, f5⟩, ho⟩, hb, hf⟩
      exact ⟨hb, fun k _ n hn => ⟨ho k n hn, fun e => absurd h1 e⟩, fun _ => ⟨hf rfl, f2, f3, f4, f5⟩, fun e => absurd (h1.symm.trans e) (by decide), fun e => absurd h1 e⟩
  · by_cases h2 : X.k = 2
    · have hm : Gd.mayI X = (decide (X.l = 1) && decide (0 ≤ X.s) && decide (X.s ≤ 16) && Gd.opnB 0 X.O && Gd.blkB 2 X.s 0 [] X.B) := by
        unfold Gd.mayI
        rw [if_neg (by omega), if_neg h1, if_pos h2]
      rw [hm]
      simp only [Bool.and_eq_true, decide_eq_true_eq]
      rw [rmay_blk hX, Gd.opnB_iff]
      constructor
      · intro h
        obtain ⟨f1, f2, f3⟩ := h.d h2
        refine ⟨⟨⟨⟨f1, f2⟩, f3⟩, fun k n hn => ?_⟩, h.b, fun e => absurd e (by decide)⟩
        have := (h.o k (hO hn) n hn).2 h1
        omega
      · rintro ⟨⟨⟨⟨f1, f2⟩, f3⟩, ho⟩, hb, _⟩
        refine ⟨hb, fun k _ n hn => ?_, fun e => absurd e h1, fun _ => ⟨f1, f2, f3⟩, fun _ e => absurd h2 e⟩
        have := ho k n hn
        exact ⟨by omega, fun _ => by omega⟩
    · constructor
      · intro h
        rw [h.z h1 h2]
        decide
      · intro h
        have hz : X = Gd.noIno := by
          by_cases h0 : X.k = 0
          · rw [mayI_none hX h0] at h
            exact of_decide_eq_true h
          · unfold Gd.mayI at h
            rw [if_neg h0, if_neg h1, if_neg h2] at h
            cases h
        subst hz
        refine ⟨fun k hk n hn => ?_, fun k hk n hn => ?_, fun e => absurd e (by decide), fun e => absurd e (by decide), fun _ _ => rfl⟩
        · have : n = 0 := List.eq_of_mem_replicate (n := 4) (List.mem_of_getElem? hn)
          subst this
          refine ⟨by omega, fun j _ m hm hm0 => ?_⟩
          have : m = 0 := List.eq_of_mem_replicate (n := 4) (List.mem_of_getElem? hm)
          exact absurd this hm0
        · have : n = 0 := List.eq_of_mem_replicate (n := 8) (List.mem_of_getElem? hn)
          subst this
          exact ⟨by omega, fun _ => rfl⟩
theorem rmay_call (X : Gd.Ino) (hX : X.Shape) (hI : AllI (inoL X)) (w : World) :
    Calls Tryz.prog 10 #[inoV X] w fun e w' => e = .returned (.bool (Gd.mayI X)) ∧ Go.RowKit.Below w.heap.size w w' := by
  refine (rmay_any X hX hI w).mono ?_
  rintro e w' ⟨r, rfl, hr, hb⟩
  rw [rmay_iff hX] at hr
  refine ⟨?_, hb⟩
  rw [show r = Gd.mayI X from by rw [Bool.eq_iff_iff]; exact hr]

end Go.Proofs.YtginffdngphjpaaGreatDoor
