/- Walks: the law AuditTrue: what really happened fits; an answer that is told otherwise is found. -/
import Derived.Test.YtbpejjmfdhkfhaaGreatDoorAudLoop
set_option linter.unusedVariables false
set_option linter.unusedSimpArgs false
namespace Go.Proofs.YtbpejjmfdhkfhaaGreatDoor
open Go.RowKit

set_option maxHeartbeats 8000000 in
set_option maxRecDepth 100000 in
theorem law_true [Inhabited XBox] (A : Option Addr) (L : List Ev) (c : Nat) (at_ : Int) (oo : Pz.Rep) (A2 : Option Addr) (c2 : Nat) (w : World) (hx : MxX w) (hlen : L.length ≤ 9223372036854775807) (hE : Evs w A L) (hI : ∀ x ∈ L, I64 x.cl ∧ I64 x.fd ∧ x.q.names.length ≤ x.c) (hat : I64 at_) (hN : Nmz w A2 oo.names) (hl2 : oo.names.length ≤ 9223372036854775807) :
    Calls Tryz.prog 4 #[.slice A L.length c, .int .i64 at_, repV oo A2 c2] w fun e w' => e = .returned (.bool true) ∧ Below w.heap.size w w' := by
  obtain ⟨i0, hi, hz0, hz1, hz2⟩ := info_parts Tryz.infoEv
  obtain ⟨wb, hwb⟩ : ∃ v, v = w.alloc (.cells (repC oo A2 c2) 36) := ⟨_, rfl⟩
  have hbb : Below w.heap.size w wb := by rw [hwb]; exact (Below.refl _ _).alloc (Nat.le_refl _) _
  have hob : wb.heap[w.heap.size]? = some (.cells (repC oo A2 c2) 36 (0, 0)) := by rw [hwb]; exact heap_alloc_new _ _
  have HFw := Lib.hid (few_any A L c wb hlen (hE.keep hbb) hI)
  have HOb := Lib.hid hob
  have HBb := Lib.hid hbb
  have HWb := Lib.hid hwb
  have HX := Lib.hid hx
  have HN := Lib.hid (And.intro hN hl2)
  have Hat := Lib.hid hat
  obtain ⟨ob, hobk⟩ : ∃ ob, ob = w.heap.size := ⟨_, rfl⟩
  rw [← hobk] at HOb
  have Hobk := Lib.hid hobk.symm
  clear hx hE hI hN hl2 hat hbb hob hwb hobk
  unfold repC at HWb
  unfold repV
  go_enter Tryz.func4, Tryz.ntmps4
  go_upto_region 1 with fail
  rw [← HWb.out]
  rw [Hobk.out]
  go_wp2_with fail
  refine HFw.out.mono ?_
  rintro e w1 ⟨A1, U, c1, rfl, hU, hEU, hFU, hb1⟩
  have HEU := Lib.hid hEU
  have HFU := Lib.hid hFU
  have HB1 := Lib.hid (HBb.out.trans (hb1.mono HBb.out.size))
  have HO1 := Lib.hid ((hb1.block ob (lt_of_get HOb.out)).trans HOb.out)
  obtain ⟨n, hn⟩ : ∃ n, n = U.length := ⟨_, rfl⟩
  rw [← hn]
  rw [← hn] at hU
  have Hn := Lib.hid hn
  clear hEU hFU hb1 hn HFw
  go_wp2_with fail
  refine (rnew_any w1).mono ?_
  rintro e w2 ⟨rfl, hR2, hb2⟩
  have HS0 : Hid (OwnSt w1 w1.heap.size [] (.slice none 0 0) (fun k => w1.heap.size ≤ k ∧ k < w2.heap.size) w2) := Lib.hid
    { ref := (RefF.held _ _).mono hR2 fun k hk e => ⟨e, hk⟩
      lt := fun k hk => ⟨hk.2, hk.1⟩
      apart := fun q hq => by cases hq
      good := Pz.new_good.1
      few := Pz.new_good.2
      own := own_nil
      each := fun x hx => by cases hx
      below := hb2 }
  obtain ⟨rr, hrr⟩ : ∃ rr, rr = w1.heap.size := ⟨_, rfl⟩
  rw [← hrr]
  rw [show OwnSt w1 w1.heap.size = OwnSt w1 rr by rw [hrr]] at HS0
  clear hR2 hb2 hrr
  go_wp2
  go_loopw [8, 9] (fun u v wr => ∃ (i : Nat) (T : List Ev) (G : Nat → Prop), v = .int .i64 i ∧ i ≤ n ∧ wr.ownsRow w1.heap.size 53 20 u T.length (flat evC T) ∧ Hid (T.length = i) ∧ Hid (OwnSt w1 rr T u G wr)) (fun _ v _ => n - (intOf v).toNat)
  case atStart => exact ⟨0, [], _, rfl, by omega, World.ownsRow_nil _ _ _ _, Lib.hid rfl, HS0⟩
  case round =>
    obtain ⟨i, T, G, rfl, hin, hown, HT, HS⟩ := hrel
    obtain ⟨A', c', hv, hevs⟩ := evs_of_row hown
    by_cases hlt : i < n
    · subst hv
      obtain ⟨x, hx⟩ : ∃ x, U[i]? = some x := ⟨_, List.getElem?_eq_getElem (by have := Hn.out; omega)⟩
      rcases HEU.out with h | ⟨b, o, rfl, hb, hcells⟩
      · rw [h] at hx; simp at hx
      have hrg := ((hcells i x hx).of fun j => HS.out.below.cell (p := ⟨b, j, none⟩) hb).range
      have HXf := Lib.hid (HFU.out x (List.mem_of_getElem? hx))
      have h1' : (i : Int) < n := by omega
      have h0' : (0 : Int) ≤ i := by omega
      have hi25 : (i : Int) ≤ 25 := by omega
      obtain ⟨eb, heb⟩ : ∃ eb, eb = wr.heap.size := ⟨_, rfl⟩
      have Heb := Lib.hid heb
      have HO := Lib.hid hown
      clear hcells hx hlt heb hown hevs
      go_upto_region 8 with (first | (refine wpList_load_mid rfl 53 _ rfl b (o + i * 20) rfl (evC x).toList _ hrg Tryz.underlying53 rfl Tryz.sizeEv ?_) | (refine wpList_store_mid rfl 53 _ _ rfl wr.heap.size 0 (evC x).toList.toArray rfl rfl (there_new _ _ _ _ rfl) Tryz.sizeEv (evC_one x) ?_; generalize hwe : (World.setCells _ _ _ _) = we; have H0 : Hid (Below wr.heap.size wr we ∧ we.heap[eb]? = some (.cells (evC x) 53 (0, 0))) := Lib.hid (by rw [← hwe, Heb.out]; exact new_whole wr _ _ _ rfl); clear hwe; rw [← Heb.out]; have cc : we.cell? ⟨eb, 1, none⟩ = some (.int .i64 x.num) := cell_of_row we eb 1 _ _ _ H0.out.2; have ff := frozen_of_row we eb 1 _ _ H0.out.2))
      clear hrg
      go_upto_region 9 with fail
      obtain ⟨wa0, hwa0⟩ : ∃ v, v = we.setCell ⟨eb, 1, none⟩ (.int .i64 ((i : Int) + 1)) := ⟨_, rfl⟩
      rw [← hwa0]
      have Ha0 : Hid (Below wr.heap.size wr wa0 ∧ wa0.heap[eb]? = some (.cells (evC { x with num := (i : Int) + 1 }) 53 (0, 0))) := Lib.hid ⟨by rw [hwa0]; exact H0.out.1.setCell (by rw [Heb.out]; exact Nat.le_refl _) _, by rw [hwa0]; exact Go.heap_setCell_same we eb 1 _ _ _ H0.out.2⟩
      clear hwa0 cc ff
      have cc : wa0.cell? ⟨eb, 10, none⟩ = some (.int .i64 x.asked) := cell_of_row wa0 eb 10 _ _ _ Ha0.out.2
      have ff := frozen_of_row wa0 eb 10 _ _ Ha0.out.2
      go_upto_region 10 with fail
      obtain ⟨wa1, hwa1⟩ : ∃ v, v = wa0.setCell ⟨eb, 10, none⟩ (.int .i64 (3 * (i : Int) + 1)) := ⟨_, rfl⟩
      rw [← hwa1]
      have Ha1 : Hid (Below wr.heap.size wr wa1 ∧ wa1.heap[eb]? = some (.cells (evC { x with num := (i : Int) + 1, asked := 3 * (i : Int) + 1 }) 53 (0, 0))) := Lib.hid ⟨by rw [hwa1]; exact Ha0.out.1.setCell (by rw [Heb.out]; exact Nat.le_refl _) _, by rw [hwa1]; exact Go.heap_setCell_same wa0 eb 10 _ _ _ Ha0.out.2⟩
      clear hwa1 cc ff
      have cc : wa1.cell? ⟨eb, 11, none⟩ = some (.int .i64 x.done) := cell_of_row wa1 eb 11 _ _ _ Ha1.out.2
      have ff := frozen_of_row wa1 eb 11 _ _ Ha1.out.2
      go_upto_region 11 with fail
      obtain ⟨wa2, hwa2⟩ : ∃ v, v = wa1.setCell ⟨eb, 11, none⟩ (.int .i64 (3 * (i : Int) + 2)) := ⟨_, rfl⟩
      rw [← hwa2]
      have Ha2 : Hid (Below wr.heap.size wr wa2 ∧ wa2.heap[eb]? = some (.cells (evC { x with num := (i : Int) + 1, asked := 3 * (i : Int) + 1, done := 3 * (i : Int) + 2 }) 53 (0, 0))) := Lib.hid ⟨by rw [hwa2]; exact Ha1.out.1.setCell (by rw [Heb.out]; exact Nat.le_refl _) _, by rw [hwa2]; exact Go.heap_setCell_same wa1 eb 11 _ _ _ Ha1.out.2⟩
      clear hwa2 cc ff
      have cc : wa2.cell? ⟨eb, 12, none⟩ = some (.int .i64 x.told) := cell_of_row wa2 eb 12 _ _ _ Ha2.out.2
      have ff := frozen_of_row wa2 eb 12 _ _ Ha2.out.2
      go_upto_region 12 with fail
      obtain ⟨wa3, hwa3⟩ : ∃ v, v = wa2.setCell ⟨eb, 12, none⟩ (.int .i64 (3 * (i : Int) + 3)) := ⟨_, rfl⟩
      rw [← hwa3]
      have Ha3 : Hid (Below wr.heap.size wr wa3 ∧ wa3.heap[eb]? = some (.cells (evC { x with num := (i : Int) + 1, asked := 3 * (i : Int) + 1, done := 3 * (i : Int) + 2, told := 3 * (i : Int) + 3 }) 53 (0, 0))) := Lib.hid ⟨by rw [hwa3]; exact Ha2.out.1.setCell (by rw [Heb.out]; exact Nat.le_refl _) _, by rw [hwa3]; exact Go.heap_setCell_same wa2 eb 12 _ _ _ Ha2.out.2⟩
      clear hwa3 cc ff
      obtain ⟨S, hS⟩ : ∃ S, S = evRun newFS T := ⟨_, rfl⟩
      have HSs := Lib.hid hS
      have hT24 : Hid (T.length ≤ 24) := Lib.hid (by have := HT.out; omega)
      have HDo := Lib.hid (rdo_names rr S x.cl x.kind x.flags x.fd x.off x.n x.p x.p2 x.data wa3 G (Nat.le_trans HXf.out.p (by omega)) (Nat.le_trans HXf.out.p2 (by omega)) (by rw [hS]; exact HS.out.good.mono (by have := hT24.out; omega)) (by rw [hS]; exact (RefF.held _ _).below HS.out.ref Ha3.out.1) (fun k hk => Nat.lt_of_lt_of_le (HS.out.lt k hk).1 Ha3.out.1.size))
      have HR : Hid (Pz.doA S x.cl x.kind x.p.data.toList x.p2.data.toList x.flags x.fd x.off x.n x.data.data.toList = evDo (evRun newFS T) x) := Lib.hid (by rw [hS]; rfl)
      rw [HR.out] at HDo
      obtain ⟨R, hRR⟩ : ∃ R, R = evDo (evRun newFS T) x := ⟨_, rfl⟩
      rw [← hRR] at HDo
      have HRR := Lib.hid hRR
      clear hS hRR
      unfold callV at HDo
      obtain ⟨d0, d1, d2, d3, d4, d5, d6, d7, d8, d9, _⟩ := evAt_row Ha3.out.2
      clear d1
      simp only [Nat.zero_add] at d0 d2 d3 d4 d5 d6 d7 d8 d9
      go_wp2_with fail
      refine HDo.out.mono ?_
      rintro e w4 ⟨A4, k4, G4, rfl, hR4, hG4, ho4, hN4⟩
      have HD4 := Lib.hid (And.intro hR4 (And.intro hG4 (And.intro ho4 hN4)))
      have hebl : eb < wa3.heap.size := lt_of_get Ha3.out.2
      have hebG : ¬ G eb := fun hg => by have := (HS.out.lt eb hg).1; have := Heb.out; omega
      have h4 := (ho4.block eb hebl hebG).trans Ha3.out.2
      have H4 := Lib.hid h4
      have HOn := Lib.hid (And.intro hebl hebG)
      clear hR4 hG4 ho4 hN4 hebl hebG h4 d0 d2 d3 d4 d5 d6 d7 d8 d9 HDo
      go_upto_region 13 with (refine wpList_store_mid rfl 36 _ _ rfl eb 13 (repC R.2 A4 k4) rfl rfl (there_row H4.out (Nat.le_refl 20)) Tryz.sizeRep (by simp [repC, Value.oneCell']) ?_; generalize hwe : (World.setCells _ _ _ _) = w5; have H5 : Hid (w4.grownBy w5 (some eb) ∧ w5.heap[eb]? = some (.cells (evC (evTold x i R.2 A4 k4)) 53 (0, 0))) := Lib.hid (by rw [← hwe]; exact ⟨setCells_grown _ _ _ _, (setCells_heap _ _ _ _ _ _ H4.out).trans (by rw [put_rep]; rfl)⟩); clear hwe)
      obtain ⟨cs, hcs⟩ : ∃ cs, cs = evC (evTold x i R.2 A4 k4) := ⟨_, rfl⟩
      have hsz : (Tryz.prog.info? 53).map (fun i => i.size) = some cs.toList.length := by rw [hcs]; exact Tryz.sizeEv
      have hcz : cs.size = 20 := by rw [hcs]; rfl
      have hco : ∀ u ∈ cs.toList, u.oneCell' = true := by
        rw [hcs]
        intro u hu
        simp [evC] at hu
        rcases hu with rfl | rfl | rfl | rfl | rfl | rfl | rfl | rfl | rfl | rfl | rfl | rfl | rfl | rfl | rfl | rfl | rfl | rfl | rfl | rfl <;> rfl
      have hrg := (evAt_row H5.out.2).range
      rw [← hcs] at hrg
      have HCs := Lib.hid hcs
      have hown5 : w5.ownsRow w1.heap.size 53 20 (.slice A' T.length c') T.length (flat evC T) := own_keep HO.out fun q hq => by
        have h1 := HO.out.lt q hq
        have h2 : q ≠ eb := by have := Heb.out; omega
        have s1 := Ha3.out.1.size
        have s2 := HD4.out.2.2.1.size
        exact (H5.out.1.block q (by omega) (fun e => h2 (Option.some.inj e))).trans ((HD4.out.2.2.1.block q (by omega) (HS.out.apart q hq)).trans (Ha3.out.1.block q h1.2))
      have hs5 : w1.heap.size ≤ w5.heap.size := by
        have s1 := Ha3.out.1.size
        have s2 := HD4.out.2.2.1.size
        have s3 := H5.out.1.size
        have s4 := HS.out.below.size
        omega
      clear hcs
      go_wp2_with (first | (refine wpList_load_mid rfl 53 _ rfl eb 0 rfl cs.toList _ hrg Tryz.underlying53 rfl hsz ?_) | (at_builtin; rw [laid_cs cs hcz]; go_loud (refine wpList_append_own_at _ rfl _ _ 49 rfl w1.heap.size 53 i0 _ 20 208 Tryz.underlying49 hi hz0 hz1 hz2 rfl (by decide) (.slice A' T.length c') T.length (flat evC T) rfl (hown5.alloc _) ⟨w5.heap.size, 0, none⟩ 1 1 cs.toList rfl (by simp [hcz]) ?_ hco (by have := hT24.out; unfold maxLen; omega) (by have := hT24.out; omega) (by simp; omega) ?_)))
      · exact cells_newK _ _ _
      intro v' w6 hown' hgrow _ hat6
      have hsn : flat evC T ++ cs.toList = flat evC (T ++ [evTold x i R.2 A4 k4]) := by
        rw [HCs.out]
        exact flat_snoc T _
      rw [hsn, show T.length + 1 = (T ++ [evTold x i R.2 A4 k4]).length by simp] at hown'
      have HS6 : Hid (OwnSt w1 rr (T ++ [evTold x i R.2 A4 k4]) v' G4 w6) := Lib.hid (by
        have hR := HRR.out
        rw [show evTold x i R.2 A4 k4 = evTold x T.length (evDo (evRun newFS T) x).2 A4 k4 by rw [HT.out, ← hR]]
        have hd := HD4.out
        rw [hR] at hd
        exact HS.out.next (fun q hq => HO.out.lt q hq) Ha3.out.1 HXf.out hT24.out hd.1 hd.2.1 hd.2.2.1 hd.2.2.2 eb Heb.out HOn.out.1 (w5 := w5.alloc (.cells cs 53)) ⟨H5.out.1.os, H5.out.1.tape, H5.out.1.output, by have := H5.out.1.size; simp; omega, fun k hk hn => by
          rw [Below.heap_alloc _ _ _ (by have := H5.out.1.size; omega)]
          exact H5.out.1.block k hk hn⟩ hgrow (by rw [show (w5.alloc (.cells cs 53)).heap.size = w5.heap.size + 1 by simp]; exact hat6))
      have HO6 := Lib.hid hown'
      have HL6 : Hid ((T ++ [evTold x i R.2 A4 k4]).length = i + 1) := Lib.hid (by rw [List.length_append, List.length_singleton, HT.out])
      clear hown' hgrow hat6 hsn hown5 hs5 hrg hsz hcz hco
      go_wp2
      go_roundw
      case rel => exact ⟨i + 1, T ++ [evTold x i R.2 A4 k4], G4, by go_num, by omega, HO6.out, HL6, HS6⟩
      case measure => simp [intOf]; omega
    · -- behind the loop
      subst hv
      have HMay : Hid (∀ x ∈ T, EvMay wr x) := Lib.hid fun x hx => by
        obtain ⟨f, nm, nl⟩ := HS.out.each x hx
        obtain ⟨j, hj⟩ := List.getElem?_of_mem hx
        obtain ⟨_, _, _, o4, o5⟩ := HS.out.own j x hj
        exact ⟨f.cl, f.fd, Nat.le_trans f.p (by omega), Nat.le_trans f.p2 (by omega), nm.nmz, by omega, by rw [o5]; exact Pz.do_18 _ _ _ _ _ _ _ _ _ _, Or.inl (by omega)⟩
      have HBw : Hid (Below w.heap.size w wr) := Lib.hid (HB1.out.trans (HS.out.below.mono HB1.out.size))
      have hRun := run_any A' T c' wr (mxx_grow HX.out HBw.out) (by have := HT.out; omega) hevs HMay.out (by rw [HS.out.own.done.all]; exact HS.out.own.done.rise)
      rw [HS.out.own.bad] at hRun
      have HRun := Lib.hid hRun
      have HEv := Lib.hid hevs
      have HO := Lib.hid hown
      have h2' : (n : Int) ≤ i := by omega
      clear hRun hevs hown hlt
      go_wp2_with fail
      refine HRun.out.mono ?_
      rintro e w5 ⟨pr, rfl, hb5⟩
      have HB5 := Lib.hid hb5
      have HBw5 := Lib.hid (HBw.out.trans (hb5.mono HBw.out.size))
      have HEv5 := Lib.hid (HEv.out.keep hb5)
      clear hb5 HRun
      by_cases h0 : T.length = 0
      · have hb : ((T.length : Int) == 0) = true := by rw [h0]; rfl
        clear h0
        go_upto_region 17 with fail
        go_wp2_with fail
        refine (alives_any _ (mxx_grow HX.out HBw5.out)).mono ?_
        rintro e wz ⟨rfl, hbz⟩
        go_wp2
        go_ret
        exact ⟨rfl, HBw5.out.trans (hbz.mono HBw5.out.size)⟩
      · have hb : ((T.length : Int) == 0) = false := by rw [beq_eq_false_iff_ne]; omega
        have hp : (0 : Int) < (T.length : Int) := by omega
        clear h0
        obtain ⟨hat1, hat2⟩ : -9223372036854775808 ≤ at_ ∧ at_ ≤ 9223372036854775807 := by
          have := Hat.out
          unfold I64 at this
          simp [Lit.wf, show IntKind.i64.min = -9223372036854775808 from rfl, show IntKind.i64.max = 9223372036854775807 from rfl] at this
          omega
        obtain ⟨av, hav⟩ : ∃ av : Int, av = if at_ < 0 then -(at_ + 1) else at_ := ⟨_, rfl⟩
        have hv0 : 0 ≤ av := by rw [hav]; split <;> omega
        have hv1 : av ≤ 9223372036854775807 := by rw [hav]; split <;> omega
        have HAv := Lib.hid hav
        have HV := Lib.hid (And.intro hv0 hv1)
        clear hav hv0 hv1
        go_upto_if 68 with fail
        go_cut [1] from 67 to 72 (fun s1 wx => s1 = .int .i64 av ∧ wx = w5)
        case first =>
          by_cases hneg : at_ < 0
          · have hA := HAv.out
            rw [if_pos hneg] at hA
            have HA := Lib.hid hA
            clear hA
            go_wp2_with fail
            go_meet
            refine ⟨?_, rfl⟩
            rw [HA.out]
            try rw [IntWalk.wrap64_in (at_ + 1) (by omega), IntWalk.wrap64_in _ (by omega)]
          · have hA := HAv.out
            rw [if_neg hneg] at hA
            have HA := Lib.hid hA
            clear hA
            go_wp2_with fail
            go_meet
            exact ⟨by rw [HA.out], rfl⟩
        case rest =>
        obtain ⟨rfl, hwc⟩ := hcut
        subst wc
        have hv0 := HV.out.1
        have hv1 := HV.out.2
        clear hat1 hat2
        obtain ⟨k, hk⟩ : ∃ k : Nat, av % (T.length : Int) = (k : Int) := ⟨(av % (T.length : Int)).toNat, by rw [Int.toNat_of_nonneg (Int.emod_nonneg _ (by omega))]⟩
        have hkl : k < T.length := by
          have := Int.emod_lt_of_pos av hp
          omega
        go_upto_region 22 with fail
        try rw [hk]
        clear hk
        obtain ⟨xk, hxk⟩ : ∃ xk, T[k]? = some xk := ⟨T[k], List.getElem?_eq_getElem hkl⟩
        obtain ⟨gb, cur, hA', hB', hg', hks, hek0, _⟩ := row_set HO.out hxk oo A2 c2
        subst hA'
        have HRow := Lib.hid (And.intro hB' (And.intro hg' hks))
        have hek := hek0.of fun i => HB5.out.cell (p := ⟨gb, i, none⟩) (lt_of_get hg')
        have hgb : gb < w5.heap.size := Nat.lt_of_lt_of_le (lt_of_get hg') HB5.out.size
        clear hek0 hB' hg' hks
        have hkI : (k : Int) < T.length := by omega
        have hk0 : (0 : Int) ≤ k := by omega
        have HXk := Lib.hid hxk
        have HS22 : Hid (∀ W, Below w5.heap.size w5 W → (W.cell? ⟨gb, k * 20 + 13, none⟩ = some (.int .i64 xk.q.errno) ∧ W.cell? ⟨gb, k * 20 + 14, none⟩ = some (.int .i64 xk.q.fd) ∧ W.cell? ⟨gb, k * 20 + 15, none⟩ = some (.string ⟨xk.q.data.toArray⟩) ∧ W.cell? ⟨gb, k * 20 + 16, none⟩ = some (.slice xk.A xk.q.names.length xk.c) ∧ W.cell? ⟨gb, k * 20 + 17, none⟩ = some (.int .i64 xk.q.kind) ∧ W.cell? ⟨gb, k * 20 + 18, none⟩ = some (.int .i64 xk.q.links) ∧ W.cell? ⟨gb, k * 20 + 19, none⟩ = some (.int .i64 xk.q.size) ∧ W.cell? ⟨ob, 0, none⟩ = some (.int .i64 oo.errno) ∧ W.cell? ⟨ob, 1, none⟩ = some (.int .i64 oo.fd) ∧ W.cell? ⟨ob, 2, none⟩ = some (.string ⟨oo.data.toArray⟩) ∧ W.cell? ⟨ob, 3, none⟩ = some (.slice A2 oo.names.length c2) ∧ W.cell? ⟨ob, 4, none⟩ = some (.int .i64 oo.kind) ∧ W.cell? ⟨ob, 5, none⟩ = some (.int .i64 oo.links) ∧ W.cell? ⟨ob, 6, none⟩ = some (.int .i64 oo.size))) := Lib.hid fun W hW => by
          have e1 := hek.of fun i => hW.cell (p := ⟨gb, i, none⟩) hgb
          have ho := (hW.block ob (Nat.lt_of_lt_of_le (lt_of_get HO1.out) (Nat.le_trans HS.out.below.size HB5.out.size))).trans ((HB5.out.block ob (Nat.lt_of_lt_of_le (lt_of_get HO1.out) HS.out.below.size)).trans ((HS.out.below.block ob (lt_of_get HO1.out)).trans HO1.out))
          obtain ⟨_, _, _, _, _, _, _, _, _, _, _, _, _, e13, e14, e15, e16, e17, e18, e19⟩ := e1
          exact ⟨e13, e14, e15, e16, e17, e18, e19, cell_of_row W ob 0 _ _ _ ho, cell_of_row W ob 1 _ _ _ ho, cell_of_row W ob 2 _ _ _ ho, cell_of_row W ob 3 _ _ _ ho, cell_of_row W ob 4 _ _ _ ho, cell_of_row W ob 5 _ _ _ ho, cell_of_row W ob 6 _ _ _ ho⟩
        have HLk : Hid (xk.q.names.length ≤ 9223372036854775807 ∧ Nmz w5.drew xk.A xk.q.names ∧ Nmz w5.drew A2 oo.names) := Lib.hid (by
          have hm := HMay.out xk (List.mem_of_getElem? hxk)
          exact ⟨hm.len, (hm.nm.keep HB5.out).keep (Below.refl _ w5).drew, (HN.out.1.keep HBw5.out).keep (Below.refl _ w5).drew⟩)
        have hs0 := HS22.out w5.drew (Below.refl _ w5).drew
        clear hek hxk hgb
        refine wp_region_held_drew (S := (fun w' => w'.cell? ⟨gb, k * 20 + 13, none⟩ = some (.int .i64 xk.q.errno) ∧ w'.cell? ⟨gb, k * 20 + 14, none⟩ = some (.int .i64 xk.q.fd) ∧ w'.cell? ⟨gb, k * 20 + 15, none⟩ = some (.string ⟨xk.q.data.toArray⟩) ∧ w'.cell? ⟨gb, k * 20 + 16, none⟩ = some (.slice xk.A xk.q.names.length xk.c) ∧ w'.cell? ⟨gb, k * 20 + 17, none⟩ = some (.int .i64 xk.q.kind) ∧ w'.cell? ⟨gb, k * 20 + 18, none⟩ = some (.int .i64 xk.q.links) ∧ w'.cell? ⟨gb, k * 20 + 19, none⟩ = some (.int .i64 xk.q.size) ∧ w'.cell? ⟨ob, 0, none⟩ = some (.int .i64 oo.errno) ∧ w'.cell? ⟨ob, 1, none⟩ = some (.int .i64 oo.fd) ∧ w'.cell? ⟨ob, 2, none⟩ = some (.string ⟨oo.data.toArray⟩) ∧ w'.cell? ⟨ob, 3, none⟩ = some (.slice A2 oo.names.length c2) ∧ w'.cell? ⟨ob, 4, none⟩ = some (.int .i64 oo.kind) ∧ w'.cell? ⟨ob, 5, none⟩ = some (.int .i64 oo.links) ∧ w'.cell? ⟨ob, 6, none⟩ = some (.int .i64 oo.size))) (by kernel_rfl) ?_ (fun hHeld => ?_)
        · exact hs0
        refine wpAnyH_take (i := 0) (oi := _) (v := ?_) rfl (by kernel_rfl) (by kernel_rfl) (by kernel_rfl) (fun _ _ _ h => h) (Or.inl ⟨by rfl, ?_⟩) (by assumption) ?_
        rotate_left
        · intro w hSw
          (try dsimp only at hSw)
          first | (go_simp; done) | (go_simp; with_reducible rfl)
        try simp only [List.getElem_toArray, List.getElem_cons_succ, List.getElem_cons_zero, Act.put, List.setIfInBounds_toArray, List.set_cons_zero, List.set_cons_succ]
        refine wpAnyH_take (i := 1) (oi := _) (v := ?_) rfl (by kernel_rfl) (by kernel_rfl) (by kernel_rfl) (fun _ _ _ h => h) (Or.inl ⟨by rfl, ?_⟩) (by assumption) ?_
        rotate_left
        · intro w hSw
          (try dsimp only at hSw)
          first | (go_simp; done) | (go_simp; with_reducible rfl)
        try simp only [List.getElem_toArray, List.getElem_cons_succ, List.getElem_cons_zero, Act.put, List.setIfInBounds_toArray, List.set_cons_zero, List.set_cons_succ]
        refine wpAnyH_take (i := 2) (oi := _) (v := ?_) rfl (by kernel_rfl) (by kernel_rfl) (by kernel_rfl) (fun _ _ _ h => h) (Or.inl ⟨by rfl, ?_⟩) (by assumption) ?_
        rotate_left
        · intro w hSw
          (try dsimp only at hSw)
          first | (go_simp; done) | (go_simp; with_reducible rfl)
        try simp only [List.getElem_toArray, List.getElem_cons_succ, List.getElem_cons_zero, Act.put, List.setIfInBounds_toArray, List.set_cons_zero, List.set_cons_succ]
        refine wpAnyH_take (i := 3) (oi := _) (v := ?_) rfl (by kernel_rfl) (by kernel_rfl) (by kernel_rfl) (fun _ _ _ h => h) (Or.inl ⟨by rfl, ?_⟩) (by assumption) ?_
        rotate_left
        · intro w hSw
          (try dsimp only at hSw)
          first | (go_simp; done) | (go_simp; with_reducible rfl)
        try simp only [List.getElem_toArray, List.getElem_cons_succ, List.getElem_cons_zero, Act.put, List.setIfInBounds_toArray, List.set_cons_zero, List.set_cons_succ]
        refine wpAnyH_take (i := 4) (oi := _) (v := ?_) rfl (by kernel_rfl) (by kernel_rfl) (by kernel_rfl) (fun _ _ _ h => h) (Or.inl ⟨by rfl, ?_⟩) (by assumption) ?_
        rotate_left
        · intro w hSw
          (try dsimp only at hSw)
          first | (go_simp; done) | (go_simp; with_reducible rfl)
        try simp only [List.getElem_toArray, List.getElem_cons_succ, List.getElem_cons_zero, Act.put, List.setIfInBounds_toArray, List.set_cons_zero, List.set_cons_succ]
        refine wpAnyH_take (i := 5) (oi := _) (v := ?_) rfl (by kernel_rfl) (by kernel_rfl) (by kernel_rfl) (fun _ _ _ h => h) (Or.inl ⟨by rfl, ?_⟩) (by assumption) ?_
        rotate_left
        · intro w hSw
          (try dsimp only at hSw)
          first | (go_simp; done) | (go_simp; with_reducible rfl)
        try simp only [List.getElem_toArray, List.getElem_cons_succ, List.getElem_cons_zero, Act.put, List.setIfInBounds_toArray, List.set_cons_zero, List.set_cons_succ]
        refine wpAnyH_ready (rs := [6]) (by kernel_rfl) (by simp) ?_
        refine AllReadyH.cons (o := _) rfl (fun K hK => ?_) AllReadyH.nil
        go_simp
        go_at_call 13
        refine (samereplyN_any xk.q oo xk.A A2 xk.c c2 _ HLk.out.1 HN.out.2 HLk.out.2.1 HLk.out.2.2).mono ?_
        rintro e w6 ⟨sb, rfl, hsb, hb6⟩
        have HSb := Lib.hid hsb
        have HB6 := Lib.hid ((Below.refl w5.heap.size w5).drew.trans hb6)
        clear hsb hb6
        dsimp only
        refine hK.out _ _ (HS22.out w6 HB6.out) (fun hHeld => ?_)
        clear hK K
        try simp only [List.getElem_toArray, List.getElem_cons_succ, List.getElem_cons_zero, Act.put, List.setIfInBounds_toArray, List.set_cons_zero, List.set_cons_succ]
        refine wpAnyH_take (i := 7) (oi := _) (v := ?_) rfl (by kernel_rfl) (by kernel_rfl) (by kernel_rfl) (fun _ _ _ h => h) (Or.inl ⟨by rfl, ?_⟩) (by assumption) ?_
        rotate_left
        · intro w hSw
          (try dsimp only at hSw)
          first | (go_simp; done) | (go_simp; with_reducible rfl)
        try simp only [List.getElem_toArray, List.getElem_cons_succ, List.getElem_cons_zero, Act.put, List.setIfInBounds_toArray, List.set_cons_zero, List.set_cons_succ]
        refine wpAnyH_done (by kernel_rfl) ?_ _
        simp only [Exit.then]
        obtain ⟨_, _, _, _, _, _, _, o0, o1, o2, o3, o4, o5, o6⟩ := HS22.out w6 HB6.out
        have HB6r : Hid (Below wr.heap.size wr w6) := Lib.hid (HB5.out.trans (HB6.out.mono HB5.out.size))
        have HBw6 : Hid (Below w.heap.size w w6) := Lib.hid (HBw5.out.trans (HB6.out.mono HBw5.out.size))
        clear HS22 hs0 hHeld
        cases sb with
        | true =>
          clear o0 o1 o2 o3 o4 o5 o6
          go_wp2_with fail
          refine (alives_any _ (mxx_grow HX.out HBw6.out)).mono ?_
          rintro e wz ⟨rfl, hbz⟩
          go_wp2
          go_ret
          exact ⟨rfl, HBw6.out.trans (hbz.mono HBw6.out.size)⟩
        | false =>
          by_cases h18 : oo.errno = 18
          · have hb18 : ((oo.errno : Int) == 18) = true := by rw [h18]; rfl
            clear h18 o1 o2 o3 o4 o5 o6
            go_wp2_with fail
            refine (alives_any _ (mxx_grow HX.out HBw6.out)).mono ?_
            rintro e wz ⟨rfl, hbz⟩
            go_wp2
            go_ret
            exact ⟨rfl, HBw6.out.trans (hbz.mono HBw6.out.size)⟩
          · have hb18 : ((oo.errno : Int) == 18) = false := by rw [beq_eq_false_iff_ne]; exact h18
            have HNe : Hid (xk.q ≠ oo) := Lib.hid (fun h => by cases HSb.out.2 h)
            obtain ⟨w7, hw7⟩ : ∃ v, v = w6.setCells gb (k * 20 + 13) (repC oo A2 c2).toList := ⟨_, rfl⟩
            have HT7 := Lib.hid (run_turned HX.out HS.out HO.out (by have := HT.out; omega) HXk.out HB1.out HB6r.out oo A2 c2 HN.out.1 HN.out.2 h18 HNe.out hw7)
            have HTh : Hid (w6.there gb (k * 20 + 13) 7) := Lib.hid (there_row ((HB6r.out.block gb (lt_of_get HRow.out.2.1)).trans HRow.out.2.1) (by have := HRow.out.2.2; omega))
            have Hw7 := Lib.hid hw7
            clear h18 hw7
            go_upto_region 26 with (refine wpList_store_mid rfl 36 _ _ rfl gb (k * 20 + 13) (repC oo A2 c2) rfl rfl HTh.out Tryz.sizeRep (by simp [repC, Value.oneCell']) ?_)
            rw [← Hw7.out]
            clear o0 o1 o2 o3 o4 o5 o6
            go_wp2_with fail
            refine HT7.out.2.mono ?_
            rintro e w8 ⟨pr2, he8, hb8⟩
            obtain ⟨m1, hm1⟩ : ∃ m1 : Int, m1 = (k : Int) + 1 := ⟨_, rfl⟩
            rw [← hm1] at he8
            subst he8
            have hk25 : (k : Int) ≤ 24 := by have := HT.out; omega
            have hmk : (m1 == (k : Int) + 1) = true := by rw [hm1]; simp
            clear hm1 hHeld hb18
            have HBw8 := Lib.hid (HT7.out.1.trans (hb8.mono HT7.out.1.size))
            clear hb8
            go_wp2_with fail
            refine (alives_any _ (mxx_grow HX.out HBw8.out)).mono ?_
            rintro e wz ⟨rfl, hbz⟩
            go_wp2
            go_ret
            exact ⟨rfl, HBw8.out.trans (hbz.mono HBw8.out.size)⟩

end Go.Proofs.YtbpejjmfdhkfhaaGreatDoor
