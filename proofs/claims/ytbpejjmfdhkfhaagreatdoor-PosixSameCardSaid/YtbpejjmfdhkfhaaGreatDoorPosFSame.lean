/- Walks: the program's Same, at two file systems that are the same. -/
import Derived.Test.YtbpejjmfdhkfhaaGreatDoorPosPSame
import Derived.Deep.RegionHeld3
set_option linter.unusedVariables false
set_option linter.unusedSimpArgs false
namespace Go.Proofs.YtbpejjmfdhkfhaaGreatDoor
open Go.RowKit
open Go.ChangeMaps Go.MapKept

/-- what a range over the descriptors gives -/
theorem open_of_range {D : DataW Unit} {β : Nat → Nat} {O : List Pz.Op} {kc kf : Int} {c : Option Nat} {y : DataW Unit × List MemPlace} (hmo : MapO D β O) (hc : I64 kc) (hf : I64 kf) (hv : ptrE (ptrOf c) = some y) (hat : ∀ zd, D.atKey (keyL kc kf) zd = y.1) :
    ∃ m : Nat, Pz.ofd O kc kf = m ∧ c = some (β m) := by
  by_cases hl : Pz.ofd O kc kf < 0
  · have e0 := hat (.lit (.int .i64 0))
    have e1 := hat (.lit (.int .i64 1))
    rw [hmo.1 _ _ _ hc hf, if_pos hl] at e0 e1
    rw [← e0] at e1
    cases e1
  · refine ⟨(Pz.ofd O kc kf).toNat, by omega, ?_⟩
    have e0 := hat (.lit (.int .i64 0))
    rw [hmo.1 _ _ _ hc hf, if_neg hl] at e0
    rcases ptrE_inv hv with ⟨_, h2⟩ | ⟨b, h2, h3⟩
    · rw [h2] at e0
      simp at e0
    · rw [h3] at e0
      have hb : β (Pz.ofd O kc kf).toNat = b := by
        simp at e0
        omega
      cases c with
      | none => cases h2
      | some c =>
        simp [ptrOf] at h2
        rw [h2, hb]
theorem ofd_node {O : List Pz.Op} {c fd : Int} {m : Nat} (h : Pz.ofd O c fd = m) : ∃ o ∈ O, o.node = m := by
  induction O with
  | nil => rw [Pz.ofd] at h; omega
  | cons a r ih =>
    rw [Pz.ofd] at h
    split at h
    · exact ⟨a, List.mem_cons_self .., by omega⟩
    · obtain ⟨o, ho, h2⟩ := ih h
      exact ⟨o, List.mem_cons_of_mem _ ho, h2⟩
theorem Shape.rc {w : World} {r bo : Nat} {β μ : Nat → Nat} {S : Pz.Fil} {V : Nat → Prop} (h : Shape w r bo β μ S V) : w.cell? ⟨r, 0, none⟩ = some (.pointer (some ⟨β 0, 0, none⟩)) ∧ w.cell? ⟨r, 1, none⟩ = some (.map (some bo)) :=
  ⟨cell_of_row w r 0 _ _ _ h.root, cell_of_row w r 1 _ _ _ h.root⟩

theorem look_open {W : World} {bo n : Nat} {D : DataW Unit} {γ : Nat → Nat} {O : List Pz.Op} (hown : W.ownsMap Tryz.prog 67 ptrE bo n D) (hmo : MapO D γ O) {kc kf : Int} (hc : I64 kc) (hf : I64 kf) {m : Nat} (hm : Pz.ofd O kc kf = m) :
    (Instr.lookup 63 (.map (some bo)) (.agg #[.int .i64 kc, .int .i64 kf]) false).run Tryz.prog W = .ok (.pointer (some ⟨γ m, 0, none⟩)) W := by
  obtain ⟨v, ps, hrun, hv⟩ := hown.lookup Tryz.keyLaw Tryz.underlying63 (Tryz.zeroP W) (zd := .lit (.int .i64 (-1))) (zp := []) rfl (key_read hc hf)
  rw [(ofd_keys hmo hc hf).2 m hm] at hv
  obtain ⟨_, hc⟩ | ⟨c, rfl, hc⟩ := ptrE_inv hv
  · simp at hc
  · have hcb : γ m = c := by
      simp at hc
      omega
    rw [hcb]
    exact hrun

set_option maxHeartbeats 8000000 in
set_option maxRecDepth 100000 in
theorem fsame_any {w : World} {S : Pz.Fil} {r1 bo1 r2 bo2 : Nat} {β γ μ ν : Nat → Nat} {V U : Nat → Prop} (h1 : Shape w r1 bo1 β μ S V) (h2 : Shape w r2 bo2 γ ν S U) (hE : S.E.length ≤ 1000000) :
    Calls Tryz.prog 10 #[.pointer (some ⟨r1, 0, none⟩), .pointer (some ⟨r2, 0, none⟩)] w fun e w' => e = .returned (.bool true) ∧ Below w.heap.size w w' := by
  obtain ⟨bt, hbt⟩ : ∃ b, b = w.heap.size := ⟨_, rfl⟩
  obtain ⟨wp, hwp⟩ : ∃ v, v = ((w.alloc (.map #[] 0)).alloc (.map #[] 0)).alloc (.cells #[.map (some w.heap.size), .map (some (w.heap.size + 1))] 83) := ⟨_, rfl⟩
  have hbp : Below w.heap.size w wp := by
    rw [hwp]
    exact (((Below.refl _ _).alloc (Nat.le_refl _) _).alloc (by simp) _).alloc (by simp; omega) _
  have hPp : Pairs w wp bt (bt + 1) β γ V U [] := by
    refine ⟨?_, ?_, by omega, by omega, by omega, List.nodup_nil, fun m hm => (by cases hm), hbp⟩
    · rw [hbt]
      refine (PMap.made w).keep ?_
      rw [hwp, Below.heap_alloc _ _ _ (by simp; omega), Below.heap_alloc _ _ _ (by simp)]
    · have := PMap.made (w.alloc (.map #[] 0))
      rw [show (w.alloc (.map #[] 0)).heap.size = bt + 1 by rw [hbt]; simp] at this
      refine this.keep ?_
      rw [hwp, Below.heap_alloc _ _ _ (by rw [hbt]; simp)]
  have hbox : wp.heap[bt + 1 + 1]? = some (.cells #[.map (some bt), .map (some (bt + 1))] 83 (0, 0)) := by
    have := heap_alloc_new ((w.alloc (.map #[] 0)).alloc (.map #[] 0)) (.cells #[.map (some w.heap.size), .map (some (w.heap.size + 1))] 83)
    rw [← hwp] at this
    rw [hbt]
    have e : ((w.alloc (.map #[] 0)).alloc (.map #[] 0)).heap.size = w.heap.size + 1 + 1 := by simp
    rw [e] at this
    exact this
  have hBd : Below wp.heap.size wp wp.drew := (Below.refl _ wp).drew
  have hPd := hPp.keep hBd
  have facts : ∀ W, Below w.heap.size w W → (W.cell? ⟨r1, 0, none⟩ = some (.pointer (some ⟨β 0, 0, none⟩)) ∧ W.cell? ⟨r1, 1, none⟩ = some (.map (some bo1)) ∧ W.cell? ⟨r2, 0, none⟩ = some (.pointer (some ⟨γ 0, 0, none⟩)) ∧ W.cell? ⟨r2, 1, none⟩ = some (.map (some bo2))) ∧
      (∀ ty, (Builtin.len_ #[63] ty #[.map (some bo1)]).run Tryz.prog W = .ok (.int .i64 S.O.length) W) ∧ ∀ ty, (Builtin.len_ #[63] ty #[.map (some bo2)]).run Tryz.prog W = .ok (.int .i64 S.O.length) W := fun W hW => by
    have s1 := h1.keep hW
    have s2 := h2.keep hW
    obtain ⟨D, o1, m1⟩ := s1.opn
    obtain ⟨D', o2, m2⟩ := s2.opn
    refine ⟨⟨s1.rc.1, s1.rc.2, s2.rc.1, s2.rc.2⟩, fun ty => ?_, fun ty => ?_⟩
    · rw [← m1.2]
      exact o1.len Tryz.underlying63 ty
    · rw [← m2.2]
      exact o2.len Tryz.underlying63 ty
  have Facts := Lib.hid facts
  have HPd := Lib.hid hPd
  have HBox := Lib.hid hbox
  have HB := Lib.hid hbt
  have HPs := Lib.hid (psame_any h1 h2 hE bt (bt + 1))
  obtain ⟨⟨c0, c1, c2, c3⟩, l1, l2⟩ := facts _ hPd.below
  have xD : wp.drew.heap[bt + 1 + 1]? = some (.cells #[.map (some bt), .map (some (bt + 1))] 83 (0, 0)) := hbox
  have x0 := cell_of_row wp.drew _ 0 _ _ _ xD
  have x1 := cell_of_row wp.drew _ 1 _ _ _ xD
  rw [← hbt] at hwp
  have HWp := Lib.hid hwp
  have hnb : w.heap.size = bt := hbt.symm
  clear facts hPd hPp hbp hbox hwp hBd xD hbt
  have hmm := @run_makeMap Tryz.prog
  go_enter Tryz.func10, Tryz.ntmps10
  go_upto_region 2 with fail
  rw [← HWp.out]
  go_cut [35] from 12 to 35 (fun s35 wx => s35 = .bool false ∧ Hid (∃ P', Pairs w wx bt (bt + 1) β γ V U P' ∧ wx.heap[bt + 1 + 1]? = some (.cells #[.map (some bt), .map (some (bt + 1))] 83 (0, 0))))
  case first =>
    have hs0 : wp.drew.cell? ⟨bt + 1 + 1, 0, none⟩ = some (.map (some bt)) ∧ wp.drew.cell? ⟨bt + 1 + 1, 1, none⟩ = some (.map (some (bt + 1))) ∧ wp.drew.cell? ⟨r1, 0, none⟩ = some (.pointer (some ⟨β 0, 0, none⟩)) ∧ wp.drew.cell? ⟨r1, 1, none⟩ = some (.map (some bo1)) ∧ wp.drew.cell? ⟨r2, 0, none⟩ = some (.pointer (some ⟨γ 0, 0, none⟩)) ∧ wp.drew.cell? ⟨r2, 1, none⟩ = some (.map (some bo2)) ∧ (∀ ty, (Builtin.len_ #[63] ty #[.map (some bo1)]).run Tryz.prog wp.drew = .ok (.int .i64 S.O.length) wp.drew) ∧ (∀ ty, (Builtin.len_ #[63] ty #[.map (some bo2)]).run Tryz.prog wp.drew = .ok (.int .i64 S.O.length) wp.drew) := ⟨x0, x1, c0, c1, c2, c3, l1, l2⟩
    clear x0 x1 c0 c1 c2 c3 l1 l2
    go_region_held3 (fun w' => w'.cell? ⟨bt + 1 + 1, 0, none⟩ = some (.map (some bt)) ∧ w'.cell? ⟨bt + 1 + 1, 1, none⟩ = some (.map (some (bt + 1))) ∧ w'.cell? ⟨r1, 0, none⟩ = some (.pointer (some ⟨β 0, 0, none⟩)) ∧ w'.cell? ⟨r1, 1, none⟩ = some (.map (some bo1)) ∧ w'.cell? ⟨r2, 0, none⟩ = some (.pointer (some ⟨γ 0, 0, none⟩)) ∧ w'.cell? ⟨r2, 1, none⟩ = some (.map (some bo2)) ∧ (∀ ty, (Builtin.len_ #[63] ty #[.map (some bo1)]).run Tryz.prog w' = .ok (.int .i64 S.O.length) w') ∧ (∀ ty, (Builtin.len_ #[63] ty #[.map (some bo2)]).run Tryz.prog w' = .ok (.int .i64 S.O.length) w')) (first | exact hs0 | exact hs3 | go_keep) (first | (go_at_call 45; refine (HPs.out S.N.length [] 0 _ (by simp) h1.v0 h2.v0 HPd.out).mono ?_; rintro e w3 ⟨rfl, P3, hP3, -, -, hO3⟩; have HP3 := Lib.hid hP3; have HX3 : Hid (w3.heap[bt + 1 + 1]? = some (.cells #[.map (some bt), .map (some (bt + 1))] 83 (0, 0))) := Lib.hid ((hO3.block _ (lt_of_get HBox.out) (fun e => by have e : bt + 1 + 1 = bt ∨ bt + 1 + 1 = bt + 1 := e; omega)).trans HBox.out); have hs3 : w3.cell? ⟨bt + 1 + 1, 0, none⟩ = some (.map (some bt)) ∧ w3.cell? ⟨bt + 1 + 1, 1, none⟩ = some (.map (some (bt + 1))) ∧ w3.cell? ⟨r1, 0, none⟩ = some (.pointer (some ⟨β 0, 0, none⟩)) ∧ w3.cell? ⟨r1, 1, none⟩ = some (.map (some bo1)) ∧ w3.cell? ⟨r2, 0, none⟩ = some (.pointer (some ⟨γ 0, 0, none⟩)) ∧ w3.cell? ⟨r2, 1, none⟩ = some (.map (some bo2)) ∧ (∀ ty, (Builtin.len_ #[63] ty #[.map (some bo1)]).run Tryz.prog w3 = .ok (.int .i64 S.O.length) w3) ∧ (∀ ty, (Builtin.len_ #[63] ty #[.map (some bo2)]).run Tryz.prog w3 = .ok (.int .i64 S.O.length) w3) := ⟨cell_of_row w3 _ 0 _ _ _ HX3.out, cell_of_row w3 _ 1 _ _ _ HX3.out, (Facts.out _ hP3.below).1.1, (Facts.out _ hP3.below).1.2.1, (Facts.out _ hP3.below).1.2.2.1, (Facts.out _ hP3.below).1.2.2.2, (Facts.out _ hP3.below).2.1, (Facts.out _ hP3.below).2.2⟩))
    simp only [Exit.then]
    go_wp2_with fail
    go_meet
    exact ⟨rfl, Lib.hid ⟨P3, HP3.out, HX3.out⟩⟩
  case rest =>
  obtain ⟨wy, rfl⟩ : ∃ v, v = wc := ⟨_, rfl⟩
  obtain ⟨rfl, HY⟩ := hcut
  obtain ⟨P0, hP0, hX0⟩ := HY.out
  have HPy := Lib.hid (And.intro hP0 hX0)
  obtain ⟨⟨d0, d1, d2, d3⟩, _, _⟩ := Facts.out _ hP0.below
  obtain ⟨D1, own1, mo1⟩ := (h1.keep hP0.below).opn
  obtain ⟨D2, own2, mo2⟩ := (h2.keep hP0.below).opn
  have Ho1 := Lib.hid own1
  have Ho2 := Lib.hid own2
  have Hm1 := Lib.hid mo1
  have Hm2 := Lib.hid mo2
  have Hz : Hid (bo1 < bt ∧ bo2 < bt ∧ r2 < bt) := Lib.hid (by
    obtain ⟨_, o1, _⟩ := h1.opn
    obtain ⟨_, o2, _⟩ := h2.opn
    have := o1.lt
    have := o2.lt
    have := lt_of_get h2.root
    exact ⟨by omega, by omega, by omega⟩)
  have Hd3 := Lib.hid d3
  obtain ⟨cap, hcap⟩ : ∃ cap, cap = S.O.length := ⟨_, rfl⟩
  rw [← hcap] at Ho1 Ho2
  clear HY hP0 hX0 d0 d2 d3 own1 own2 mo1 mo2 hcap x0 x1 c0 c1 c2 c3 l1 l2
  go_wp2_with (at_range; refine wpList_range_own _ rfl _ 63 rfl 67 62 Tryz.keyLaw Tryz.underlying63 _ _ _ D1 rfl Ho1.out ?_; intro wq hrg0 hg0 hs0)
  go_frame
  go_loopw [] (fun wr => ∃ (left : Lit → Bool) (cnt : Nat) (P' : List Nat), wr.ranges Tryz.prog 67 ptrE bo1 wy.heap.size cap D1 left cnt ∧ Hid (Pairs w wr bt (bt + 1) β γ V U P' ∧ wr.heap[bt + 1 + 1]? = some (.cells #[.map (some bt), .map (some (bt + 1))] 83 (0, 0)) ∧ wy.heap.size < wr.heap.size)) (fun wr => wr.rangeLeft bo1 wy.heap.size)
  case atStart =>
    have hb := (Below.refl wy.heap.size wy).grown hg0 (Nat.le_refl _) (fun j hj => by cases hj)
    exact ⟨_, _, P0, hrg0, Lib.hid ⟨HPy.out.1.keep hb, (hb.block _ (lt_of_get HPy.out.2)).trans HPy.out.2, by omega⟩⟩
  case round =>
    obtain ⟨left, cnt, P', hrg, HR⟩ := hrel
    go_wp2_with (at_next; refine wpList_next_ranges _ rfl _ rfl 67 Tryz.keyLaw ptrE keyOfP ptrOf (fun key kl hk => by obtain ⟨c, fd, hx, _⟩ := key_shape hk; exact ⟨(c, fd), hx⟩) (fun v y hv => ptrE_shape hv) bo1 wy.heap.size cap _ _ _ rfl hrg ?_ ?_)
    · intro hc0 hl0
      clear hrg hc0 hl0
      go_wp2
      go_ret
      exact ⟨rfl, HR.out.1.below⟩
    · intro kc kf c kl yd yp w2 cnt2 hkey hlk hv hat hrg2 hlt hg2 hs2 hen
      obtain ⟨c', f', hx, hic, hif, rfl⟩ := key_shape hkey
      obtain ⟨rfl, rfl⟩ : kc = c' ∧ kf = f' := by
        unfold keyOfP at hx
        simpa using hx
      obtain ⟨m, hm, rfl⟩ := open_of_range (y := (yd, yp)) Hm1.out hic hif hv hat
      have hen2 : (Instr.entry (.pointer (some ⟨wy.heap.size, 0, none⟩))).run Tryz.prog w2 = .ok (.tuple #[.agg #[.int .i64 kc, .int .i64 kf], .pointer (some ⟨β m, 0, none⟩)]) w2 := hen
      obtain ⟨oo, hoo, hom⟩ := ofd_node hm
      have hVm : V m := hom ▸ h1.vo oo hoo
      have hUm : U m := hom ▸ h2.vo oo hoo
      obtain ⟨w3, hw3⟩ : ∃ w3, w3 = w2.alloc (.cells #[.int .i64 kc, .int .i64 kf] 67) := ⟨_, rfl⟩
      have hyb : bt + 1 + 1 < wy.heap.size := lt_of_get HPy.out.2
      obtain ⟨hPr, hXr, hszr⟩ := HR.out
      have bl : ∀ j, j < wy.heap.size → w3.heap[j]? = wr.heap[j]? := fun j hj => by
        rw [hw3, Below.heap_alloc _ _ _ (by omega)]
        exact hg2.block j (by omega) (fun e => by cases e; omega)
      have hB2 : Below w.heap.size w w2 := hPr.below.grown hg2 hPr.below.size (fun j hj => by
        cases hj
        have := hPr.below.size
        have := HPy.out.1.below.size
        omega)
      have hB3 : Below w.heap.size w w3 := by rw [hw3]; exact hB2.alloc hB2.size _
      have hP3 : Pairs w w3 bt (bt + 1) β γ V U P' := hPr.turn (bl bt (by omega)) (bl (bt + 1) (by omega)) hB3
      have hX3 := (bl (bt + 1 + 1) hyb).trans hXr
      have hrg3 := ranges_keep (w' := w3) hrg2 (by rw [hw3, Below.heap_alloc _ _ _ hrg2.owns.lt]) (by rw [hw3, Below.heap_alloc _ _ _ hrg2.lt])
      obtain ⟨⟨d0, d1', d2, d3⟩, _, _⟩ := Facts.out _ hB3
      obtain ⟨D2', own2', mo2'⟩ := (h2.keep hB3).opn
      have hlo := fun nq => look_open (W := w3.drewN nq) (show (w3.drewN nq).ownsMap Tryz.prog 67 ptrE bo2 S.O.length D2' from own2') mo2' hic hif hm
      have hkv : w3.heap[w2.heap.size]? = some (.cells #[.int .i64 kc, .int .i64 kf] 67 (0, 0)) := by
        rw [hw3]
        exact heap_alloc_new _ _
      have kv0 := cell_of_row w3 _ 0 _ _ _ hkv
      have kv1 := cell_of_row w3 _ 1 _ _ _ hkv
      have y0 := cell_of_row w3 _ 0 _ _ _ hX3
      have y1 := cell_of_row w3 _ 1 _ _ _ hX3
      have HW3 := Lib.hid hw3
      have HP3 := Lib.hid hP3
      have HX3 := Lib.hid hX3
      have Hrg := Lib.hid hrg3
      have Hlt := Lib.hid hlt
      have Hsz : Hid (wy.heap.size < w3.heap.size ∧ bt + 1 + 1 < wy.heap.size) := Lib.hid ⟨by rw [hw3]; simp; omega, hyb⟩
      have HVU := Lib.hid (And.intro hVm hUm)
      clear hrg2 hlt hv hat bl hPr hXr hB2 hB3 hP3 hX3 hrg3 d0 d1' d2 own2' mo2' hkv hw3 hVm hUm hoo hom hm hlk hx hkey hen hic hif hg2 hs2 hszr d1
      go_upto_region 7 with fail
      rw [← HW3.out]
      go_quiet (fail)
      have hbq : Below w3.heap.size w3 (w3.drewN nq) := below_drewN (Below.refl _ w3) nq
      have HP4 := Lib.hid (HP3.out.keep hbq)
      have HX4 := Lib.hid ((hbq.block _ (lt_of_get HX3.out)).trans HX3.out)
      have Hrg4 := Lib.hid (ranges_keep (w' := w3.drewN nq) Hrg.out (hbq.block _ Hrg.out.owns.lt) (hbq.block _ Hrg.out.lt))
      have Hsz4 : Hid (wy.heap.size < (w3.drewN nq).heap.size) := Lib.hid (Nat.lt_of_lt_of_le Hsz.out.1 hbq.size)
      clear y0 y1 d3 kv0 kv1 hlo hbq
      generalize w3.drewN nq = w4 at HP4 HX4 Hrg4 Hsz4 ⊢
      have y0 := cell_of_row w4 _ 0 _ _ _ HX4.out
      have y1 := cell_of_row w4 _ 1 _ _ _ HX4.out
      go_wp2_with fail
      refine (HPs.out S.N.length P' m w4 (by omega) HVU.out.1 HVU.out.2 HP4.out).mono ?_
      rintro e w5 ⟨rfl, P5, hP5, -, -, hO5⟩
      have hrg5 := ranges_keep (w' := w5) Hrg4.out (hO5.block _ Hrg4.out.owns.lt (fun e => by have e : bo1 = bt ∨ bo1 = bt + 1 := e; have := Hz.out; omega)) (hO5.block _ Hrg4.out.lt (fun e => by have e : wy.heap.size = bt ∨ wy.heap.size = bt + 1 := e; have := Hsz.out; omega))
      have hfin : Hid (Pairs w w5 bt (bt + 1) β γ V U P5 ∧ w5.heap[bt + 1 + 1]? = some (.cells #[.map (some bt), .map (some (bt + 1))] 83 (0, 0)) ∧ wy.heap.size < w5.heap.size) := Lib.hid ⟨hP5, (hO5.block _ (lt_of_get HX4.out) (fun e => by have e : bt + 1 + 1 = bt ∨ bt + 1 + 1 = bt + 1 := e; omega)).trans HX4.out, by have := hO5.size; have := Hsz4.out; omega⟩
      clear hP5 hO5 y0 y1 hen2
      go_wp2
      go_roundw
      case rel => exact ⟨_, cnt2, P5, hrg5, hfin⟩
      case measure => rw [hrg5.left_eq, hrg.left_eq]; exact Hlt.out

end Go.Proofs.YtbpejjmfdhkfhaaGreatDoor
