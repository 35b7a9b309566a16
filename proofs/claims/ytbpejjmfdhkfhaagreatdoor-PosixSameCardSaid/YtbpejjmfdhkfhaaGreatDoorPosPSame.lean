/- Walks: pairs.same, at two file systems that are the same. -/
import Derived.Test.YtbpejjmfdhkfhaaGreatDoorPosShape
import Derived.Deep.RegionWith
import Derived.BigQuiet
import Derived.Deep.CutRange
import Derived.Laws.IdiomRangeMap
set_option linter.unusedVariables false
set_option linter.unusedSimpArgs false
namespace Go.Proofs.YtbpejjmfdhkfhaaGreatDoor
open Go.RowKit
open Go.ChangeMaps Go.MapKept

theorem Tryz.infoNode : ∃ j, Tryz.prog.info? 105 = some j ∧ j.size ≠ 0 := by
  have h : (Tryz.prog.info? 105).map (fun i => decide (i.size ≠ 0)) = some true := by kernel_rfl
  cases hh : Tryz.prog.info? 105 with
  | none => rw [hh] at h; cases h
  | some j =>
    rw [hh] at h
    exact ⟨j, rfl, of_decide_eq_true (Option.some.inj h)⟩
theorem plook {w : World} {b n : Nat} {Q : Nat → Option Nat} (h : PMap w b n Q) (hk : ∀ k, (Q k).isSome = true → KeyBlock w k) {x : Nat} (hx : KeyBlock w x) :
    (Instr.lookup 81 (.map (some b)) (.pointer (some ⟨x, 0, none⟩)) false).run Tryz.prog w = .ok (ptrV (Q x)) w := by
  obtain ⟨j, h1, h2⟩ := Tryz.infoNode
  exact h.look Tryz.underlying81 Tryz.underlying62 h1 h2 (Tryz.zeroP w) hk hx
theorem pstore {w : World} {b n : Nat} {Q : Nat → Option Nat} (h : PMap w b n Q) (hk : ∀ k, (Q k).isSome = true → KeyBlock w k) {x v : Nat} (hx : KeyBlock w x) (hq : Q x = none) :
    ∃ w', (Instr.mapUpdate 81 (.map (some b)) (.pointer (some ⟨x, 0, none⟩)) (.pointer (some ⟨v, 0, none⟩))).run Tryz.prog w = .ok () w' ∧ PMap w' b (n + 1) (fun k => if k = x then some v else Q k) ∧ w.grownBy w' (some b) ∧ w'.heap.size = w.heap.size := by
  obtain ⟨j, h1, h2⟩ := Tryz.infoNode
  exact h.store Tryz.underlying81 Tryz.underlying62 h1 h2 hk hx hq

/-- what two nodes' call holds at its beginning -/
theorem psame_start {w0 : World} {S : Pz.Fil} {r1 bo1 r2 bo2 : Nat} {β γ μ ν : Nat → Nat} {V U : Nat → Prop} (h1 : Shape w0 r1 bo1 β μ S V) (h2 : Shape w0 r2 bo2 γ ν S U) {bt bf : Nat} {P : List Nat} {w : World} (hP : Pairs w0 w bt bf β γ V U P) :
    (∀ a ∈ P, ∀ b ∈ P, β a = β b → a = b) ∧ (∀ a ∈ P, ∀ b ∈ P, γ a = γ b → a = b) ∧ (∀ x, (pairQ P β γ x).isSome = true → KeyBlock w x) ∧ (∀ x, (pairQ P γ β x).isSome = true → KeyBlock w x) := by
  have hs1 := h1.keep hP.below
  have hs2 := h2.keep hP.below
  refine ⟨fun a ha b hb => h1.bInj a b (hP.mem a ha).1 (hP.mem b hb).1, fun a ha b hb => h2.bInj a b (hP.mem a ha).2 (hP.mem b hb).2, fun x hx => ?_, fun x hx => ?_⟩
  · obtain ⟨m, hm, rfl⟩ := pairQ_some hx
    exact hs1.key (hP.mem m hm).1
  · obtain ⟨m, hm, rfl⟩ := pairQ_some hx
    exact hs2.key (hP.mem m hm).2

set_option maxHeartbeats 4000000 in
set_option maxRecDepth 100000 in
theorem psame_in {w0 : World} {S : Pz.Fil} {r1 bo1 r2 bo2 : Nat} {β γ μ ν : Nat → Nat} {V U : Nat → Prop} (h1 : Shape w0 r1 bo1 β μ S V) (h2 : Shape w0 r2 bo2 γ ν S U) (bt bf : Nat) (P : List Nat) (n : Nat) (w : World) (hV : V n) (hU : U n) (hP : Pairs w0 w bt bf β γ V U P) (hn : n ∈ P) :
    Calls Tryz.prog 45 #[.agg #[.map (some bt), .map (some bf)], .pointer (some ⟨β n, 0, none⟩), .pointer (some ⟨γ n, 0, none⟩)] w fun e w' =>
      e = .returned (.bool true) ∧ ∃ P', Pairs w0 w' bt bf β γ V U P' ∧ (∀ m ∈ P, m ∈ P') ∧ P.length ≤ P'.length ∧ Only (fun k => k = bt ∨ k = bf) w w' := by
  obtain ⟨wb, hwb⟩ : ∃ v, v = w.alloc (.cells #[.map (some bt), .map (some bf)] 83) := ⟨_, rfl⟩
  have hbb : Below w.heap.size w wb := by rw [hwb]; exact (Below.refl _ _).alloc (Nat.le_refl _) _
  have hbox : wb.heap[w.heap.size]? = some (.cells #[.map (some bt), .map (some bf)] 83 (0, 0)) := by
    rw [hwb]
    exact heap_alloc_new _ _
  have hPb := hP.keep hbb
  obtain ⟨hi1, hi2, hkt, hkf⟩ := psame_start h1 h2 hPb
  have q1 := plook hPb.mt hkt ((h1.keep hPb.below).key hV)
  have q2 := plook hPb.mf hkf ((h2.keep hPb.below).key hU)
  have k0 := cell_of_row wb _ 0 _ _ _ hbox
  have k1 := cell_of_row wb _ 1 _ _ _ hbox
  rw [pairQ_in hi1 hn] at q1
  rw [pairQ_in hi2 hn] at q2
  simp only [ptrV, Option.map] at q1 q2
  obtain ⟨j, hj, _⟩ := Tryz.infoNode
  have e1 := run_eql_ptr_same wb ⟨γ n, 0, none⟩ Tryz.underlying62 hj
  have e2 := run_eql_ptr_same wb ⟨β n, 0, none⟩ Tryz.underlying62 hj
  have HO : Hid (Pairs w0 wb bt bf β γ V U P ∧ Only (fun k => k = bt ∨ k = bf) w wb) := Lib.hid ⟨hPb, below_only hbb _⟩
  clear hkt hkf hi1 hi2 hPb hbb hP hbox hj
  subst hwb
  go_enter Tryz.func45, Tryz.ntmps45
  go_wp2
  go_ret
  exact ⟨rfl, P, HO.out.1, fun _ h => h, Nat.le_refl _, HO.out.2⟩

/-- what a range over a directory's names gives -/
theorem entry_of_range {D : DataW Unit} {β : Nat → Nat} {E : List Pz.En} {n : Nat} {x : List UInt8} {c : Option Nat} {y : DataW Unit × List MemPlace} (hme : MapE D β E n) (hv : ptrE (ptrOf c) = some y) (hat : ∀ zd, D.atKey (.string x) zd = y.1) :
    ∃ m : Nat, Pz.look E n x = m ∧ c = some (β m) := by
  by_cases hl : Pz.look E n x < 0
  · have e0 := hat (.lit (.int .i64 0))
    have e1 := hat (.lit (.int .i64 1))
    rw [hme.1, if_pos hl] at e0 e1
    rw [← e0] at e1
    cases e1
  · refine ⟨(Pz.look E n x).toNat, by omega, ?_⟩
    have e0 := hat (.lit (.int .i64 0))
    rw [hme.1, if_neg hl] at e0
    rcases ptrE_inv hv with ⟨_, h2⟩ | ⟨b, h2, h3⟩
    · rw [h2] at e0
      simp at e0
    · rw [h3] at e0
      have hb : β (Pz.look E n x).toNat = b := by
        simp at e0
        omega
      cases c with
      | none => cases h2
      | some c =>
        simp [ptrOf] at h2
        rw [h2, hb]

theorem Pairs.turn {w0 w w' : World} {bt bf : Nat} {β γ : Nat → Nat} {V U : Nat → Prop} {P : List Nat} (h : Pairs w0 w bt bf β γ V U P) (h1 : w'.heap[bt]? = w.heap[bt]?) (h2 : w'.heap[bf]? = w.heap[bf]?) (hb : Below w0.heap.size w0 w') : Pairs w0 w' bt bf β γ V U P :=
  { h with
    mt := h.mt.keep h1
    mf := h.mf.keep h2
    below := hb }
set_option maxHeartbeats 8000000 in
set_option maxRecDepth 100000 in
theorem psame_any {w0 : World} {S : Pz.Fil} {r1 bo1 r2 bo2 : Nat} {β γ μ ν : Nat → Nat} {V U : Nat → Prop} (h1 : Shape w0 r1 bo1 β μ S V) (h2 : Shape w0 r2 bo2 γ ν S U) (hG : S.E.length ≤ 1000000) (bt bf : Nat) :
    ∀ (k : Nat) (P : List Nat) (n : Nat) (w : World), S.N.length ≤ P.length + k → V n → U n → Pairs w0 w bt bf β γ V U P →
    Calls Tryz.prog 45 #[.agg #[.map (some bt), .map (some bf)], .pointer (some ⟨β n, 0, none⟩), .pointer (some ⟨γ n, 0, none⟩)] w fun e w' =>
      e = .returned (.bool true) ∧ ∃ P', Pairs w0 w' bt bf β γ V U P' ∧ (∀ m ∈ P, m ∈ P') ∧ P.length ≤ P'.length ∧ Only (fun k => k = bt ∨ k = bf) w w' := by
  intro k
  induction k with
  | zero =>
    intro P n w hk hV hU hP
    refine psame_in h1 h2 bt bf P n w hV hU hP (Decidable.byContradiction fun hn => ?_)
    have := nodup_len S.N.length (n :: P) (List.nodup_cons.2 ⟨hn, hP.nd⟩) (fun m hm => by
      rcases List.mem_cons.1 hm with rfl | hm
      · exact h1.vlt _ hV
      · exact h1.vlt _ (hP.mem m hm).1)
    simp at this
    omega
  | succ k ih =>
    intro P n w hk hV hU hP
    by_cases hn : n ∈ P
    · exact psame_in h1 h2 bt bf P n w hV hU hP hn
    obtain ⟨wb, hwb⟩ : ∃ v, v = w.alloc (.cells #[.map (some bt), .map (some bf)] 83) := ⟨_, rfl⟩
    have hbb : Below w.heap.size w wb := by rw [hwb]; exact (Below.refl _ _).alloc (Nat.le_refl _) _
    have hbox : wb.heap[w.heap.size]? = some (.cells #[.map (some bt), .map (some bf)] 83 (0, 0)) := by
      rw [hwb]
      exact heap_alloc_new _ _
    have hPb := hP.keep hbb
    obtain ⟨hi1, hi2, hkt, hkf⟩ := psame_start h1 h2 hPb
    have q1 := plook hPb.mt hkt ((h1.keep hPb.below).key hV)
    have q2 := plook hPb.mf hkf ((h2.keep hPb.below).key hU)
    have k0 := cell_of_row wb _ 0 _ _ _ hbox
    have k1 := cell_of_row wb _ 1 _ _ _ hbox
    have n1 : pairQ P β γ (β n) = none := pairQ_out fun a ha e => hn (h1.bInj a n (hP.mem a ha).1 hV e ▸ ha)
    have n2 : pairQ P γ β (γ n) = none := pairQ_out fun a ha e => hn (h2.bInj a n (hP.mem a ha).2 hU e ▸ ha)
    rw [n1] at q1
    rw [n2] at q2
    simp only [ptrV, Option.map] at q1 q2
    have hbt : bt < w.heap.size := hP.mt.lt
    have hbf : bf < w.heap.size := hP.mf.lt
    -- the two stores, in either order
    have hBd : Below wb.heap.size wb wb.drew := (Below.refl _ wb).drew
    have hPd := hPb.keep hBd
    obtain ⟨_, _, hktd, hkfd⟩ := psame_start h1 h2 hPd
    have key : ∀ W, Below w0.heap.size w0 W → KeyBlock W (β n) ∧ KeyBlock W (γ n) := fun W hW => ⟨(h1.keep hW).key hV, (h2.keep hW).key hU⟩
    have keyP : ∀ W, Below w0.heap.size w0 W → (∀ x, (pairQ P β γ x).isSome = true → KeyBlock W x) ∧ ∀ x, (pairQ P γ β x).isSome = true → KeyBlock W x := fun W hW => by
      refine ⟨fun x hx => ?_, fun x hx => ?_⟩
      · obtain ⟨m, hm, rfl⟩ := pairQ_some hx
        exact (h1.keep hW).key (hP.mem m hm).1
      · obtain ⟨m, hm, rfl⟩ := pairQ_some hx
        exact (h2.keep hW).key (hP.mem m hm).2
    have hsz : wb.heap.size = w.heap.size + 1 := by rw [hwb]; simp
    obtain ⟨wA, rA, mA, gA, sA⟩ := pstore (v := γ n) hPd.mt hktd (key _ hPd.below).1 n1
    obtain ⟨wB, rB, mB, gB, sB⟩ := pstore (v := β n) hPd.mf hkfd (key _ hPd.below).2 n2
    have bA : Below w0.heap.size w0 wA := hPd.below.grown gA hPd.below.size (fun j hj => by cases hj; exact hP.lt)
    have bB : Below w0.heap.size w0 wB := hPd.below.grown gB hPd.below.size (fun j hj => by cases hj; exact hP.lf)
    obtain ⟨wAB, rAB, mAB, gAB, sAB⟩ := pstore (v := β n) (hPd.mf.keep (gA.block bf (by show bf < wb.heap.size; omega) (by simpa using fun e => hP.ne e.symm))) (keyP _ bA).2 (key _ bA).2 n2
    obtain ⟨wBA, rBA, mBA, gBA, sBA⟩ := pstore (v := γ n) (hPd.mt.keep (gB.block bt (by show bt < wb.heap.size; omega) (by simpa using hP.ne))) (keyP _ bB).1 (key _ bB).1 n1
    rw [pairQ_cons] at mA mB mAB mBA
    have hP2 : ∀ m ∈ n :: P, V m ∧ U m := fun m hm => by
      rcases List.mem_cons.1 hm with rfl | hm
      · exact ⟨hV, hU⟩
      · exact hP.mem m hm
    have hN2 : (n :: P).Nodup := List.nodup_cons.2 ⟨hn, hP.nd⟩
    have oD : Only (fun k => k = bt ∨ k = bf) w wb.drew := below_only (hbb.trans (hBd.mono hbb.size)) _
    have tr : ∀ {a b c : World}, Only (fun k => k = bt ∨ k = bf) a b → Only (fun k => k = bt ∨ k = bf) b c → Only (fun k => k = bt ∨ k = bf) a c := fun h k => h.trans k fun _ _ e => e
    have oA := tr oD (grown_only gA fun k e => by cases e; exact Or.inl rfl)
    have oB := tr oD (grown_only gB fun k e => by cases e; exact Or.inr rfl)
    have oAB := tr oA (grown_only gAB fun k e => by cases e; exact Or.inr rfl)
    have oBA := tr oB (grown_only gBA fun k e => by cases e; exact Or.inl rfl)
    have hbx : ∀ {W W' : World} {b : Nat}, W.heap[w.heap.size]? = some (.cells #[.map (some bt), .map (some bf)] 83 (0, 0)) → W.grownBy W' (some b) → b = bt ∨ b = bf → W'.heap[w.heap.size]? = some (.cells #[.map (some bt), .map (some bf)] 83 (0, 0)) := fun h hg hb =>
      (hg.block _ (lt_of_get h) (fun e => by cases e; rcases hb with e | e <;> omega)).trans h
    have xD : wb.drew.heap[w.heap.size]? = some (.cells #[.map (some bt), .map (some bf)] 83 (0, 0)) := hbox
    have xA := hbx xD gA (Or.inl rfl)
    have xB := hbx xD gB (Or.inr rfl)
    have xAB := hbx xA gAB (Or.inr rfl)
    have xBA := hbx xB gBA (Or.inl rfl)
    have bAB : Below w0.heap.size w0 wAB := bA.grown gAB bA.size (fun j hj => by cases hj; exact hP.lf)
    have bBA : Below w0.heap.size w0 wBA := bB.grown gBA bB.size (fun j hj => by cases hj; exact hP.lt)
    have pAB : Pairs w0 wAB bt bf β γ V U (n :: P) := ⟨mA.keep (gAB.block bt mA.lt (by simpa using hP.ne)), mAB, hP.ne, hP.lt, hP.lf, hN2, hP2, bAB⟩
    have pBA : Pairs w0 wBA bt bf β γ V U (n :: P) := ⟨mBA, mB.keep (gBA.block bf mB.lt (by simpa using fun e => hP.ne e.symm)), hP.ne, hP.lt, hP.lf, hN2, hP2, bBA⟩
    have HAB : Hid (Pairs w0 wAB bt bf β γ V U (n :: P) ∧ Only (fun k => k = bt ∨ k = bf) w wAB ∧ wAB.heap[w.heap.size]? = some (.cells #[.map (some bt), .map (some bf)] 83 (0, 0))) := Lib.hid ⟨pAB, oAB, xAB⟩
    have HBA : Hid (Pairs w0 wBA bt bf β γ V U (n :: P) ∧ Only (fun k => k = bt ∨ k = bf) w wBA ∧ wBA.heap[w.heap.size]? = some (.cells #[.map (some bt), .map (some bf)] 83 (0, 0))) := Lib.hid ⟨pBA, oBA, xBA⟩
    have d0 := cell_of_row wb.drew _ 0 _ _ _ xD
    have d1 := cell_of_row wb.drew _ 1 _ _ _ xD
    have a0 := cell_of_row wA _ 0 _ _ _ xA
    have a1 := cell_of_row wA _ 1 _ _ _ xA
    have b0 := cell_of_row wB _ 0 _ _ _ xB
    have b1 := cell_of_row wB _ 1 _ _ _ xB
    have Ih := Lib.hid ih
    have Hk := Lib.hid hk
    have Hlt := Lib.hid (And.intro hbt (And.intro hbf hP.below.size))
    clear ih hk hbt hbf hP2 hN2 oD tr oA oB oAB oBA hbx xD xA xB xAB xBA bAB bBA pAB pBA mA mB mAB mBA gA gB gAB gBA sA sB sAB sBA bA bB hktd hkfd hPd hBd key keyP hkt hkf hi1 hi2 hPb hbb hbox n1 n2 hP hn hsz
    go_enter Tryz.func45, Tryz.ntmps45
    have HWb := Lib.hid hwb
    clear hwb
    go_upto_region 1 with fail
    rw [← HWb.out]
    go_upto_region 3 with fail
    go_cut [] from 36 to 43 (fun wx => Hid (Pairs w0 wx bt bf β γ V U (n :: P) ∧ Only (fun k => k = bt ∨ k = bf) w wx ∧ wx.heap[w.heap.size]? = some (.cells #[.map (some bt), .map (some bf)] 83 (0, 0))))
    case first =>
      go_region_with (fail)
      all_goals
        go_wp2_with fail
        go_meet
        first | exact HAB | exact HBA
    case rest =>
    obtain ⟨wy, rfl⟩ : ∃ v, v = wc := ⟨_, rfl⟩
    obtain ⟨hPc, hOc, hXc⟩ := hcut.out
    have HPc := Lib.hid hPc
    have HOc := Lib.hid hOc
    have HXc := Lib.hid hXc
    have hs1 := h1.keep hPc.below
    have hs2 := h2.keep hPc.below
    obtain ⟨c0, c1, c2⟩ := hs1.nc hV
    obtain ⟨g0, g1, g2⟩ := hs2.nc hU
    have HD1 := Lib.hid (dir_q (β n) _ wy c2)
    have HD2 := Lib.hid (dir_q (γ n) _ wy g2)
    have hlenn : ∀ ty, (Builtin.len_ #[103] ty #[.map none]).run Tryz.prog wy = .ok (.int .i64 0) wy := fun ty => Maps.len_nil Tryz.underlying103 ty
    clear hcut hPc hOc hXc d0 d1 a0 a1 b0 b1 rA rB rAB rBA q1 q2 k0 k1 HAB HBA
    cases hD : Pz.isDir S.N n with
    | false =>
      rw [hD] at c2 g2
      simp only [if_neg (show ¬ false = true by decide)] at c2 g2
      clear HD1 HD2
      go_upto_region 4 with fail
      go_cut [83] from 44 to 83 (fun s83 wx => s83 = .bool false ∧ Hid (Below wy.heap.size wy wx))
      case first =>
        go_quiet ((go_at_call 55; first | exact quiet_left (dir_q (β n) none _ c2) | exact quiet_left (dir_q (γ n) none _ g2)))
        go_wp2_with fail
        go_meet
        exact ⟨rfl, Lib.hid (below_drewN (Below.refl _ _) _)⟩
      case rest =>
      obtain ⟨rfl, HBx⟩ := hcut
      have e2 := (HBx.out.cell (p := ⟨β n, 2, none⟩) (cell_lt c2)).trans c2
      have HFin : Hid (Pairs w0 (wc.alloc (.mapIter none 0 #[] 0)) bt bf β γ V U (n :: P) ∧ Only (fun k => k = bt ∨ k = bf) w (wc.alloc (.mapIter none 0 #[] 0))) := Lib.hid (by
        have hb : Below wy.heap.size wy (wc.alloc (.mapIter none 0 #[] 0)) := HBx.out.alloc HBx.out.size _
        exact ⟨HPc.out.keep hb, HOc.out.trans (below_only hb _) fun _ _ e => e⟩)
      have hrg := run_range_nilMap (P := Tryz.prog) wc 103 _ _ Tryz.underlying103
      have hnx : ∀ ty, (Instr.next (.pointer (some ⟨wc.heap.size, 0, none⟩)) false ty).run Tryz.prog (wc.alloc (.mapIter none 0 #[] 0)) = _ := fun ty => run_next_nilMap wc ty 0 0 #[]
      clear c0 c1 c2 g0 g1 g2 hlenn hs1 hs2
      go_wp2
      refine wp_loop_rounds 1 ?_
      rw [rounds_succ]
      go_wp2
      go_ret
      exact ⟨rfl, n :: P, HFin.out.1, fun m hm => List.mem_cons_of_mem _ hm, by simp, HFin.out.2⟩
    | true =>
      rw [hD] at c2 g2
      simp only [if_true] at c2 g2
      obtain ⟨D1, own1, me1⟩ := hs1.dirs n hV hD
      obtain ⟨D2, own2, me2⟩ := hs2.dirs n hU hD
      have l1 := fun nq ty => World.ownsMap.len (w := wy.drewN nq) (t := 103) (e := 62) (show (wy.drewN nq).ownsMap Tryz.prog 9 ptrE (μ n) (Pz.count S.E n) D1 from own1) Tryz.underlying103 ty
      have l2 := fun nq ty => World.ownsMap.len (w := wy.drewN nq) (t := 103) (e := 62) (show (wy.drewN nq).ownsMap Tryz.prog 9 ptrE (ν n) (Pz.count S.E n) D2 from own2) Tryz.underlying103 ty
      rw [me1.2] at l1
      rw [me2.2] at l2
      have Ho1 := Lib.hid own1
      have Ho2 := Lib.hid own2
      have Hm1 := Lib.hid me1
      have Hm2 := Lib.hid me2
      obtain ⟨cap, hcap⟩ : ∃ cap, cap = Pz.count S.E n := ⟨_, rfl⟩
      rw [← hcap] at l1 l2 Ho1 Ho2
      clear HD1 HD2 own1 own2 me1 me2 hcap
      go_upto_region 4 with fail
      go_cut [83] from 44 to 83 (fun s83 wx => s83 = .bool false ∧ Hid (Below wy.heap.size wy wx))
      case first =>
        go_quiet ((go_at_call 55; first | exact quiet_left (dir_q (β n) (some (μ n)) _ c2) | exact quiet_left (dir_q (γ n) (some (ν n)) _ g2)))
        go_wp2_with fail
        go_meet
        exact ⟨rfl, Lib.hid (below_drewN (Below.refl _ _) _)⟩
      case rest =>
      obtain ⟨rfl, HBx⟩ := hcut
      have e2 := (HBx.out.cell (p := ⟨β n, 2, none⟩) (cell_lt c2)).trans c2
      have Hg2 := Lib.hid ((HBx.out.cell (p := ⟨γ n, 2, none⟩) (cell_lt g2)).trans g2)
      have HPx := Lib.hid (HPc.out.keep HBx.out)
      have HOx : Hid (Only (fun k => k = bt ∨ k = bf) w wc) := Lib.hid (HOc.out.trans (below_only HBx.out _) fun _ _ e => e)
      have HXx := Lib.hid ((HBx.out.block _ (lt_of_get HXc.out)).trans HXc.out)
      have Ho1x := Lib.hid (map_keep Ho1.out (HBx.out.block _ Ho1.out.lt))
      have Ho2x := Lib.hid (map_keep Ho2.out (HBx.out.block _ Ho2.out.lt))
      have Hr : Hid (w.heap.size < wc.heap.size ∧ γ n < wc.heap.size ∧ μ n < w.heap.size ∧ ν n < w.heap.size ∧ γ n < w.heap.size) := Lib.hid (by
        obtain ⟨D, hd, _⟩ := h1.dirs n hV hD
        obtain ⟨D', hd', _⟩ := h2.dirs n hU hD
        have z := Hlt.out.2.2
        have z1 := lt_of_get (h2.node n hU)
        have z2 := hd.lt
        have z3 := hd'.lt
        have z4 := lt_of_get HXx.out
        exact ⟨z4, by omega, by omega, by omega, by omega⟩)
      clear c0 c1 c2 g0 g1 g2 hlenn hs1 hs2 l1 l2
      go_wp2_with (at_range; refine wpList_range_own _ rfl _ 103 rfl 9 62 Tryz.strLaw Tryz.underlying103 _ _ _ D1 rfl Ho1x.out ?_; intro wq hrg0 hg0 hs0)
      go_frame
      go_loopw [] (fun wr => ∃ (left : Lit → Bool) (cnt : Nat) (P' : List Nat), wr.ranges Tryz.prog 9 ptrE (μ n) wc.heap.size cap D1 left cnt ∧ Hid (Pairs w0 wr bt bf β γ V U P' ∧ (∀ m ∈ n :: P, m ∈ P') ∧ P.length + 1 ≤ P'.length ∧ Only (fun k => k = bt ∨ k = bf) w wr ∧ wr.heap[w.heap.size]? = some (.cells #[.map (some bt), .map (some bf)] 83 (0, 0)) ∧ wc.heap.size < wr.heap.size)) (fun wr => wr.rangeLeft (μ n) wc.heap.size)
      case atStart =>
        have hb := (Below.refl wc.heap.size wc).grown hg0 (Nat.le_refl _) (fun j hj => by cases hj)
        exact ⟨_, _, n :: P, hrg0, Lib.hid ⟨HPx.out.keep hb, fun m hm => hm, by simp, HOx.out.trans (below_only hb _) fun _ _ e => e, (hb.block _ (lt_of_get HXx.out)).trans HXx.out, by omega⟩⟩
      case round =>
        obtain ⟨left, cnt, P', hrg, HR⟩ := hrel
        go_wp2_with (at_next; refine wpList_next_ranges _ rfl _ rfl 9 Tryz.strLaw ptrE encStr ptrOf (fun key kl hk => by obtain ⟨x, hx, _⟩ := Maps.keyOf_str Tryz.underlying9 hk; exact ⟨x, hx⟩) (fun v y hv => ptrE_shape hv) (μ n) wc.heap.size cap _ _ _ rfl hrg ?_ ?_)
        · intro hc0 hl0
          clear hrg hc0 hl0
          go_wp2
          go_ret
          exact ⟨rfl, P', HR.out.1, fun m hm => HR.out.2.1 m (List.mem_cons_of_mem _ hm), by have := HR.out.2.2.1; omega, HR.out.2.2.2.1⟩
        · intro x c kl yd yp w2 cnt2 hkey hlk hv hat hrg2 hlt hg2 hs2 hen
          obtain ⟨x', ex, rfl, _⟩ := Maps.keyOf_str Tryz.underlying9 hkey
          obtain rfl : x = x' := encStr_inj ex
          obtain ⟨m, hm, rfl⟩ := entry_of_range (y := (yd, yp)) Hm1.out hv hat
          have hent := Pz.look_entry hm
          have hVm : V m := h1.ve _ hent hV
          have hUm : U m := h2.ve _ hent hU
          obtain ⟨r1, r2, r3, r4, r5⟩ := Hr.out
          obtain ⟨s1, s2, s3⟩ := Hlt.out
          obtain ⟨hPr, hsub, hlen, hOr, hXr, hszr⟩ := HR.out
          have bl : ∀ j, j < w.heap.size + 1 → w2.heap[j]? = wr.heap[j]? := fun j hj => hg2.block j (by omega) (fun e => by cases e; omega)
          have hP2 : Pairs w0 w2 bt bf β γ V U P' := hPr.turn (bl bt (by omega)) (bl bf (by omega)) (hPr.below.grown hg2 hPr.below.size (fun j hj => by cases hj; omega))
          have hO2 : Only (fun k => k = bt ∨ k = bf) w w2 := hOr.trans (grown_only hg2 (F := fun j => j = wc.heap.size) fun j e => by cases e; rfl) (fun j hj e => by omega)
          have hX2 := (bl w.heap.size (by omega)).trans hXr
          have x0 := cell_of_row w2 _ 0 _ _ _ hX2
          have x1 := cell_of_row w2 _ 1 _ _ _ hX2
          have hb2 : ∀ j, j < w.heap.size → j ≠ bt → j ≠ bf → w2.heap[j]? = wc.heap[j]? := fun j hj h1 h2 => (hO2.block j hj (fun e => e.elim h1 h2)).trans (HOx.out.block j hj (fun e => e.elim h1 h2)).symm
          have w0s := hPr.lt
          have w0f := hPr.lf
          have hγ : γ n < w0.heap.size := lt_of_get (h2.node n hU)
          have hν : ν n < w0.heap.size := by
            obtain ⟨D', hd', _⟩ := h2.dirs n hU hD
            exact hd'.lt
          have y2 := (World.cell?_of_block (w := wc) (a := ⟨γ n, 2, none⟩) (hb2 (γ n) r5 (by omega) (by omega))).trans Hg2.out
          have o2 := map_keep Ho2x.out (hb2 (ν n) r4 (by omega) (by omega))
          have hat2 := (look_keys Hm2.out x).2 m hm
          have HIh := Ih.out P' m w2 (by have := Hk.out; omega) hVm hUm hP2
          have HA := Lib.hid (And.intro hsub (And.intro hlen (And.intro hO2 hX2)))
          have HI := Lib.hid HIh
          have Hrg := Lib.hid hrg2
          have Hlt2 := Lib.hid hlt
          have Hsz := Lib.hid (And.intro hs2 (And.intro hszr (And.intro s1 (And.intro s2 w0s))))
          have Hwf := Lib.hid (And.intro w0f (And.intro r3 s3))
          have Hmu : Hid (μ n < w0.heap.size) := Lib.hid (by
            obtain ⟨D', hd', _⟩ := h1.dirs n hV hD
            exact hd'.lt)
          clear hrg2 hlt hv hat hsub hlen hO2 hX2 hb2 bl hOr hXr hPr hP2 HIh hszr s1 s2 s3 r1 r2 r3 r4 r5 w0s w0f hγ hν hm hent hVm hUm hs2 hg2 hlk
          simp only [ptrOf] at hen ⊢
          go_wp2_with (at_lookup; refine lookup_at rfl _ _ 103 rfl 9 62 Tryz.strLaw Tryz.underlying103 (Tryz.zeroP _) _ _ D2 rfl o2 _ _ rfl hkey (γ m) hat2 ?_)
          refine HI.out.mono ?_
          rintro e w3 ⟨rfl, P3, hP3, hsub3, hle3, hO3⟩
          have hrg3 := ranges_keep Hrg.out (hO3.block _ (by have := Hsz.out; have := Hr.out; omega) (fun e => by have e : μ n = bt ∨ μ n = bf := e; have := Hsz.out; have := Hmu.out; have := Hwf.out; omega)) (hO3.block _ (by have := Hsz.out; omega) (fun e => by have e : wc.heap.size = bt ∨ wc.heap.size = bf := e; have := Hsz.out; have := Hr.out; omega))
          have hfin : Hid (Pairs w0 w3 bt bf β γ V U P3 ∧ (∀ m ∈ n :: P, m ∈ P3) ∧ P.length + 1 ≤ P3.length ∧ Only (fun k => k = bt ∨ k = bf) w w3 ∧ w3.heap[w.heap.size]? = some (.cells #[.map (some bt), .map (some bf)] 83 (0, 0)) ∧ wc.heap.size < w3.heap.size) := Lib.hid ⟨hP3, fun m hm => hsub3 m (HA.out.1 m hm), Nat.le_trans HA.out.2.1 hle3, HA.out.2.2.1.trans hO3 fun _ _ e => e, (hO3.block _ (lt_of_get HA.out.2.2.2) (fun e => by have := Hsz.out; omega)).trans HA.out.2.2.2, by have := hO3.size; have := Hsz.out; omega⟩
          clear hP3 hsub3 hle3 hO3 x0 x1 y2 o2 hen
          go_wp2
          go_roundw
          case rel => exact ⟨_, cnt2, P3, hrg3, hfin⟩
          case measure => rw [hrg3.left_eq, hrg.left_eq]; exact Hlt2.out

end Go.Proofs.YtbpejjmfdhkfhaaGreatDoor
