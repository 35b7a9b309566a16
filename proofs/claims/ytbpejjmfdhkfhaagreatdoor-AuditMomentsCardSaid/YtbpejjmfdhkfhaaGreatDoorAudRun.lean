/- Walks: the audit's Run, of events that stand in their order already. -/
import Derived.Test.YtbpejjmfdhkfhaaGreatDoorAudOrder
import Derived.Test.YtbpejjmfdhkfhaaGreatDoorAudFits
set_option linter.unusedVariables false
set_option linter.unusedSimpArgs false
namespace Go.Proofs.YtbpejjmfdhkfhaaGreatDoor
open Go.RowKit

/-- an event may be asked for -/
structure EvMay (w : World) (x : Ev) : Prop where
  cl : I64 x.cl
  fd : I64 x.fd
  p : x.p.size ≤ 100000
  p2 : x.p2.size ≤ 100000
  nm : Nmz w x.A x.q.names
  len : x.q.names.length ≤ 9223372036854775807
  e18 : x.q.errno ≠ 18
  told : 0 < x.told ∨ x.q.errno = 0
theorem EvMay.keep {w w' : World} {x : Ev} (h : EvMay w x) (hb : Below w.heap.size w w') : EvMay w' x := { h with nm := h.nm.keep hb }
theorem evDo_good {K : Nat} {S : Pz.Fil} (h : Pz.Good K S) (hf : Pz.Few S) (x : Ev) : Pz.Good (K + 3) (evDo S x).1 ∧ Pz.Few (evDo S x).1 := Pz.do_good h hf _ _ _ _ _ _ _ _ _

set_option maxHeartbeats 8000000 in
set_option maxRecDepth 100000 in
theorem run_any [Inhabited XBox] (A : Option Addr) (L : List Ev) (c : Nat) (w : World) (hx : MxX w) (hlen : L.length ≤ 30) (hE : Evs w A L) (hM : ∀ x ∈ L, EvMay w x) (hs : (L.filter fun x => decide (0 < x.done)).Pairwise fun a b => a.done < b.done) :
    Calls Tryz.prog 16 #[.slice A L.length c, .slice none 0 0] w fun e w' => ∃ pr : Nat, e = .returned (.tuple #[.pointer (some ⟨pr, 0, none⟩), .int .i64 (evBad newFS (L.filter fun x => decide (0 < x.done)) 0)]) ∧ Below w.heap.size w w' := by
  have HX := Lib.hid hx
  have HE := Lib.hid hE
  have HM := Lib.hid hM
  have HO := Lib.hid fun W (hW : Below w.heap.size w W) => order_any A L c W hlen (hE.keep hW) hs
  obtain ⟨n, hn⟩ : ∃ n, n = L.length := ⟨_, rfl⟩
  rw [← hn] at HO
  rw [← hn]
  rw [← hn] at hlen
  have Hn := Lib.hid hn
  obtain ⟨M, hMM⟩ : ∃ M, M = L.filter fun x => decide (0 < x.done) := ⟨_, rfl⟩
  rw [← hMM]
  have HMM := Lib.hid hMM
  obtain ⟨T, hT⟩ : ∃ T, T = itemsFrom 0 L := ⟨_, rfl⟩
  rw [← hT] at HO
  have HT := Lib.hid hT
  obtain ⟨m, hm⟩ : ∃ m, m = T.length := ⟨_, rfl⟩
  rw [← hm] at HO
  have Hm := Lib.hid hm
  have hml : m ≤ 30 := by
    rw [hm, hT, items_len]
    exact Nat.le_trans (List.length_filter_le _ _) (by omega)
  clear hx hE hM hs hn hMM hT hm
  go_enter Tryz.func16, Tryz.ntmps16
  go_wp2_with fail
  refine (fnew_any w HX.out).mono ?_
  rintro e w1 ⟨rfl, hR1, hb1⟩
  have HA1 := Lib.hid (alone_new HX.out hR1 hb1)
  have HOr := Lib.hid (HO.out w1 hb1)
  clear hR1 hb1 HO
  obtain ⟨pr, hpr⟩ : ∃ pr, pr = w.heap.size + 3 := ⟨_, rfl⟩
  rw [← hpr] at HA1
  try rw [← hpr]
  clear hpr
  go_wp2_with fail
  refine HOr.out.mono ?_
  rintro e w2 ⟨A2, c2, rfl, hI2, hlo2, hb2⟩
  have HA2 := Lib.hid (HA1.out.keep hb2)
  obtain ⟨F2, hF2⟩ : ∃ F2, F2 = fun k => (k = maxB ∨ w.heap.size ≤ k) ∧ k < w1.heap.size := ⟨_, rfl⟩
  have HI2 : Hid (∀ W F, (∀ g x, Mine F2 g x w2 → Mine F g x W) → Its W A2 T) := Lib.hid fun W F hW => by
    rcases hI2 with h | ⟨b, o, h1, h2, h3⟩
    · exact Or.inl h
    · have hm : Mine F2 b w2.heap[b] w2 := ⟨Array.getElem?_eq_getElem h2, fun h => by
        rw [hF2] at h
        have h4 := hlo2 _ h1
        have h5 := h.2
        exact absurd h5 (Nat.not_lt.2 h4)⟩
      have hm2 := hW _ _ hm
      have e : W.heap[b]? = w2.heap[b]? := hm2.1.trans hm.1.symm
      have ec : ∀ i, W.cell? ⟨b, i, none⟩ = w2.cell? ⟨b, i, none⟩ := fun i => World.cell?_of_block (a := ⟨b, i, none⟩) e
      exact Or.inr ⟨b, o, h1, hm2.lt, fun j x hx => by
        obtain ⟨a0, a1, a2⟩ := h3 j x hx
        exact ⟨(ec _).trans a0, (ec _).trans a1, (ec _).trans a2⟩⟩
  rw [← hF2] at HA2
  clear hI2 hb2 HA1 HOr hlo2 hF2
  go_wp2
  go_loopw [7, 15] (fun u v wr => ∃ (j : Nat) (F : Nat → Prop) (B : Int), v = .int .i64 j ∧ j ≤ m ∧ u = .int .i64 B ∧ Hid (B = evBad newFS (M.take j) 0) ∧ Hid (Alone w pr (evRun newFS (M.take j)) F wr) ∧ Hid (Pz.Good (3 * j + 1) (evRun newFS (M.take j)) ∧ Pz.Few (evRun newFS (M.take j))) ∧ Hid (∀ g x, Mine F2 g x w2 → Mine F g x wr)) (fun _ v _ => m - (intOf v).toNat)
  case atStart => exact ⟨0, F2, 0, rfl, by omega, rfl, Lib.hid rfl, HA2, Lib.hid Pz.new_good, Lib.hid fun _ _ h => h⟩
  case round =>
    obtain ⟨j, F, B, rfl, hj, rfl, HB, HA, HG, HMi⟩ := hrel
    by_cases hlt : j < m
    · obtain ⟨y, hy⟩ : ∃ y, T[j]? = some y := ⟨_, List.getElem?_eq_getElem (by have := Hm.out; omega)⟩
      have hy' := hy
      rw [HT.out] at hy'
      obtain ⟨k, x, hMj, hLk, hyx⟩ := items_at hy'
      rw [← HMM.out] at hMj
      subst hyx
      rcases HI2.out wr F HMi.out with h | ⟨b, o, rfl, hb, hI⟩
      · rw [h] at hy; simp at hy
      obtain ⟨i0, i1, i2⟩ := hI j _ hy
      rw [Nat.zero_add] at i2
      rcases (HE.out.keep HA.out.below) with h | ⟨be, oe, rfl, hbe, hEv⟩
      · rw [h] at hLk; simp at hLk
      have hev := hEv k x hLk
      have hkn : k < n := by
        have := (List.getElem?_eq_some_iff.1 hLk).1
        have := Hn.out
        omega
      have HEv := Lib.hid fun W (hW : Below w.heap.size w W) => (show EvAt W be (oe + k * 20) x from by
        rcases (HE.out.keep hW) with h | ⟨be', oe', h1, _, h3⟩
        · rw [h] at hLk; simp at hLk
        · cases h1
          exact h3 k x hLk)
      have HMay := Lib.hid (HM.out x (List.mem_of_getElem? hLk))
      have HTk := Lib.hid (ev_take hMj)
      obtain ⟨S, hS⟩ : ∃ S, S = evRun newFS (M.take j) := ⟨_, rfl⟩
      rw [← hS] at HA HG
      have HSn : Hid (evRun newFS (M.take (j + 1)) = (evDo S x).1) := Lib.hid (by rw [HTk.out, evRun_snoc, ← hS])
      have HBn : Hid (evBad newFS (M.take (j + 1)) 0 = if fitB S x = false ∧ B = 0 then x.num else B) := Lib.hid (by rw [HTk.out, evBad_snoc, ← hS, ← HB.out])
      obtain ⟨w4, hw4⟩ : ∃ v, v = wr.alloc (.cells #[.int .i64 x.done, .int .i64 0, .int .i64 k] 92) := ⟨_, rfl⟩
      have hb4 : Below wr.heap.size wr w4 := by rw [hw4]; exact (Below.refl _ _).alloc (Nat.le_refl _) _
      have h4 : w4.heap[wr.heap.size]? = some (.cells #[.int .i64 x.done, .int .i64 0, .int .i64 k] 92 (0, 0)) := by rw [hw4]; exact heap_alloc_new _ _
      have hM4 : Mine F wr.heap.size (.cells #[.int .i64 x.done, .int .i64 0, .int .i64 k] 92 (0, 0)) w4 := ⟨h4, fun h => by have := (HA.out.fl _ h).1; omega⟩
      have HA4 := Lib.hid (HA.out.keep hb4)
      have HMi4 := Lib.hid fun g x (h : Mine F2 g x w2) => (HMi.out g x h).keep hb4
      have HM4 := Lib.hid hM4
      have HW4 := Lib.hid hw4
      obtain ⟨e0, e1, e2⟩ := cells3 h4
      have hrg := (HEv.out w4 HA4.out.below).range
      have HFt := Lib.hid (fits_any HA4.out x HMay.out.cl HMay.out.fd HMay.out.p HMay.out.p2 (HG.out.1.mono (by omega)) (HMay.out.nm) HMay.out.len HMay.out.e18 HMay.out.told)
      have k0 : (0 : Int) ≤ k := by omega
      have k1 : (k : Int) < n := by omega
      have j0 : (0 : Int) ≤ j := by omega
      have j1 : (j : Int) < m := by omega
      have HGn := Lib.hid (evDo_good HG.out.1 HG.out.2 x)
      obtain ⟨gi, hgi⟩ : ∃ gi, gi = wr.heap.size := ⟨_, rfl⟩
      rw [← hgi] at HM4 e0 e1 e2
      have Hgi := Lib.hid hgi.symm
      clear hy hy' hMj hLk hI hb hEv hev hkn hS hw4 hb4 h4 hM4 hgi hlt
      go_upto_region 5 with fail
      rw [← HW4.out]
      rw [Hgi.out]
      go_wp2_with (refine wpList_load_mid rfl 53 _ rfl be (oe + k * 20) rfl (evC x).toList _ hrg Tryz.underlying53 rfl Tryz.sizeEv ?_)
      refine HFt.out.mono ?_
      rintro e w5 ⟨fb, F5, rfl, hfb, hA5, hM5⟩
      have HA5 : Hid (Alone w pr (evRun newFS (M.take (j + 1))) F5 w5) := Lib.hid (by rw [HSn.out]; exact hA5)
      have HG5 : Hid (Pz.Good (3 * (j + 1) + 1) (evRun newFS (M.take (j + 1))) ∧ Pz.Few (evRun newFS (M.take (j + 1)))) := Lib.hid (by
        rw [HSn.out]
        exact ⟨HGn.out.1.mono (by omega), HGn.out.2⟩)
      have HMi5 := Lib.hid fun g x (h : Mine F2 g x w2) => hM5 g x (HMi4.out g x h)
      obtain ⟨f0, f1, f2⟩ := cells3 (hM5 _ _ HM4.out).1
      have d1 := (HEv.out w5 hA5.below).2.1
      have HFb : Hid (fitB S x = fb) := Lib.hid (by
        cases fb with
        | true => exact fitB_iff.2 (hfb.1 rfl)
        | false =>
          cases h : fitB S x with
          | false => rfl
          | true => exact absurd (hfb.2 (fitB_iff.1 h)) (by simp))
      rw [HFb.out] at HBn
      clear hfb hA5 hM5 hrg e0 e1 e2 i0 i1 i2 HFt
      cases fb with
      | true =>
        have HB5 : Hid (B = evBad newFS (M.take (j + 1)) 0) := Lib.hid (by rw [HBn.out, if_neg (fun h => by cases h.1)])
        go_wp2
        go_roundw
        case rel => exact ⟨j + 1, F5, B, by go_num, by omega, rfl, HB5, HA5, HG5, HMi5⟩
        case measure => simp [intOf]; omega
      | false =>
        by_cases hB0 : B = 0
        · have HB5 : Hid (x.num = evBad newFS (M.take (j + 1)) 0) := Lib.hid (by rw [HBn.out, if_pos ⟨rfl, hB0⟩])
          have hbz : ((B : Int) == 0) = true := by rw [hB0]; rfl
          clear hB0
          go_wp2
          go_roundw
          case rel => exact ⟨j + 1, F5, x.num, by go_num, by omega, rfl, HB5, HA5, HG5, HMi5⟩
          case measure => simp [intOf]; omega
        · have HB5 : Hid (B = evBad newFS (M.take (j + 1)) 0) := Lib.hid (by rw [HBn.out, if_neg (fun h => hB0 h.2)])
          have hbz : ((B : Int) == 0) = false := by rw [beq_eq_false_iff_ne]; exact hB0
          clear hB0
          go_wp2
          go_roundw
          case rel => exact ⟨j + 1, F5, B, by go_num, by omega, rfl, HB5, HA5, HG5, HMi5⟩
          case measure => simp [intOf]; omega
    · have hj2 : (m : Int) ≤ j := by omega
      have HBf : Hid (B = evBad newFS M 0) := Lib.hid (by
        rw [HB.out, List.take_of_length_le]
        have h1 := Hm.out
        rw [HT.out, items_len, ← HMM.out] at h1
        omega)
      clear hlt
      go_wp2
      go_ret2
      rw [← HBf.out]
      exact ⟨pr, rfl, HA.out.below⟩

end Go.Proofs.YtbpejjmfdhkfhaaGreatDoor
