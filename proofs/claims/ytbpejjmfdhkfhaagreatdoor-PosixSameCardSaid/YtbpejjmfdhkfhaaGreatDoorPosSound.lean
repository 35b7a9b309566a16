/- Walks: pairs.same, at any two file systems: where it answers true, the pairs fit. -/
import Derived.Test.YtbpejjmfdhkfhaaGreatDoorPosBis
set_option linter.unusedVariables false
set_option linter.unusedSimpArgs false
namespace Go.Proofs.YtbpejjmfdhkfhaaGreatDoor
open Go.RowKit
open Go.ChangeMaps Go.MapKept

theorem run_eql_nil_ptr {P : Program} (w : World) {tp te : TypeId} (a : Addr) (hp : P.underlying tp = some (.pointer te)) :
    (binOp .eql tp (.pointer none) (.pointer (some a))).run P w = .ok (.bool false) w := by
  have h : ∀ d : Nat, (Op.equalIn (d + 1) tp (.pointer none) (.pointer (some a))).run P w = .ok false w := fun d => by
    simp [Op.equalIn, run_underlying hp]
  simp only [binOp]
  simp [Op.equal, Op.maxDepth, h 9999]
theorem glook {w : World} {b n : Nat} {Q : Nat → Option Nat} (h : PMap w b n Q) (hk : ∀ k, (Q k).isSome = true → KeyBlock w k) {x : Nat} (hx : KeyBlock w x) :
    (Instr.lookup 81 (.map (some b)) (.pointer (some ⟨x, 0, none⟩)) false).run Tryz.prog w = .ok (ptrV (Q x)) w := plook h hk hx

def Sound (w0 : World) (bt bf : Nat) (β γ : Nat → Nat) (V U : Nat → Prop) (S T : Pz.Fil) (P : List (Nat × Nat)) (q : Nat × Nat) (w : World) (e : Ending) (w' : World) : Prop :=
  ∃ (b : Bool) (P' : List (Nat × Nat)), e = .returned (.bool b) ∧ PairB w0 w' bt bf β γ V U P' ∧ (∀ a ∈ P, a ∈ P') ∧ P.length ≤ P'.length ∧ Only (fun k => k = bt ∨ k = bf) w w' ∧ (b = true → q ∈ P' ∧ ∀ a ∈ P', a ∈ P ∨ Pz.Fit S T P' a) ∧ (∀ Q, Pz.Full S T Q → (∀ a ∈ P, a ∈ Q) → q ∈ Q → b = true ∧ ∀ a ∈ P', a ∈ Q)

set_option maxHeartbeats 4000000 in
set_option maxRecDepth 100000 in
theorem sound_in {w0 : World} {S T : Pz.Fil} {r1 bo1 r2 bo2 : Nat} {β γ μ ν : Nat → Nat} {V U : Nat → Prop} (h1 : Shape w0 r1 bo1 β μ S V) (h2 : Shape w0 r2 bo2 γ ν T U) (bt bf : Nat) (P : List (Nat × Nat)) (n m : Nat) (w : World) (hV : V n) (hU : U m) (hP : PairB w0 w bt bf β γ V U P) (hn : (∃ a ∈ P, a.1 = n) ∨ ∃ a ∈ P, a.2 = m) :
    Calls Tryz.prog 45 #[.agg #[.map (some bt), .map (some bf)], .pointer (some ⟨β n, 0, none⟩), .pointer (some ⟨γ m, 0, none⟩)] w (Sound w0 bt bf β γ V U S T P (n, m) w) := by
  obtain ⟨wb, hwb⟩ : ∃ v, v = w.alloc (.cells #[.map (some bt), .map (some bf)] 83) := ⟨_, rfl⟩
  have hbb : Below w.heap.size w wb := by rw [hwb]; exact (Below.refl _ _).alloc (Nat.le_refl _) _
  have hbox : wb.heap[w.heap.size]? = some (.cells #[.map (some bt), .map (some bf)] 83 (0, 0)) := by
    rw [hwb]
    exact heap_alloc_new _ _
  have hPb := hP.keep hbb
  obtain ⟨hi1, hi2, hkt, hkf⟩ := pairb_start h1 h2 hPb
  have q1 := glook hPb.mt hkt ((h1.keep hPb.below).key hV)
  have q2 := glook hPb.mf hkf ((h2.keep hPb.below).key hU)
  have k0 := cell_of_row wb _ 0 _ _ _ hbox
  have k1 := cell_of_row wb _ 1 _ _ _ hbox
  obtain ⟨j, hj, hjz⟩ := Tryz.infoNode
  have HO : Hid (PairB w0 wb bt bf β γ V U P ∧ Only (fun k => k = bt ∨ k = bf) w wb) := Lib.hid ⟨hPb, below_only hbb _⟩
  have no : (∀ Q, Pz.Full S T Q → (∀ a ∈ P, a ∈ Q) → (n, m) ∈ Q → False) → Sound w0 bt bf β γ V U S T P (n, m) w (.returned (.bool false)) wb := fun hc => ⟨false, P, rfl, HO.out.1, fun _ h => h, Nat.le_refl _, HO.out.2, (fun h => by cases h), fun Q h1 h2 h3 => (hc Q h1 h2 h3).elim⟩
  have yes : (n, m) ∈ P → Sound w0 bt bf β γ V U S T P (n, m) w (.returned (.bool true)) wb := fun hm => ⟨true, P, rfl, HO.out.1, fun _ h => h, Nat.le_refl _, HO.out.2, fun _ => ⟨hm, fun a ha => Or.inl ha⟩, fun Q h1 h2 h3 => ⟨rfl, h2⟩⟩
  by_cases hd : ∃ a ∈ P, a.1 = n
  · obtain ⟨⟨n', m'⟩, hm', rfl⟩ := hd
    have p1 := pairG_in (f := fun q => β q.1) (g := fun q => γ q.2) hi1 hm'
    simp only at p1
    rw [p1] at q1
    by_cases he : m' = m
    · subst he
      have p2 := pairG_in (f := fun q => γ q.2) (g := fun q => β q.1) hi2 hm'
      simp only at p2
      rw [p2] at q2
      simp only [ptrV, Option.map] at q1 q2
      have e1 := run_eql_ptr_same wb ⟨γ m', 0, none⟩ Tryz.underlying62 hj
      have e2 := run_eql_ptr_same wb ⟨β n', 0, none⟩ Tryz.underlying62 hj
      have HY := Lib.hid (yes hm')
      clear hkt hkf hi1 hi2 hPb hbb hP hbox hj hjz HO no yes p1 p2 hn
      subst hwb
      go_enter Tryz.func45, Tryz.ntmps45
      go_wp2
      go_ret
      exact HY.out
    · have hne : γ m' ≠ γ m := fun e => he (h2.bInj _ _ (hP.mem _ hm').2 hU e)
      obtain ⟨ca, ta, ha⟩ := (h2.keep hPb.below).key (hP.mem _ hm').2
      obtain ⟨cb, tb, hb⟩ := (h2.keep hPb.below).key hU
      have e1 := run_eql_ptr_other wb (a := ⟨γ m', 0, none⟩) (b := ⟨γ m, 0, none⟩) Tryz.underlying62 hj hjz (fun e => hne (congrArg Addr.block e)) ha hb
      simp only [ptrV, Option.map] at q1
      have No := Lib.hid (no fun Q h1 h2 h3 => he (Prod.mk.inj (Pz.map_nodup_inj h1.n1 _ (h2 _ hm') _ h3 rfl)).2)
      clear hkt hkf hi1 hi2 hPb hbb hP hbox hj hjz HO no yes p1 q2 ha hb hn hne he
      subst hwb
      go_enter Tryz.func45, Tryz.ntmps45
      go_wp2
      go_ret
      exact No.out
  · obtain ⟨⟨n', m'⟩, hm', rfl⟩ := hn.resolve_left hd
    have p1 : pairG P (fun q => β q.1) (fun q => γ q.2) (β n) = none := pairG_out fun a ha e => hd ⟨a, ha, h1.bInj _ _ (hP.mem a ha).1 hV e⟩
    have p2 := pairG_in (f := fun q => γ q.2) (g := fun q => β q.1) hi2 hm'
    simp only at p2
    rw [p1] at q1
    rw [p2] at q2
    simp only [ptrV, Option.map] at q1 q2
    have No := Lib.hid (no fun Q h1 h2 h3 => hd ⟨_, hm', (Prod.mk.inj (Pz.map_nodup_inj h1.n2 _ (h2 _ hm') _ h3 rfl)).1⟩)
    have e1 := run_eql_nil_ptr (P := Tryz.prog) wb ⟨γ m', 0, none⟩ Tryz.underlying62
    clear hkt hkf hi1 hi2 hPb hbb hP hbox hj hjz HO no yes p1 p2 hn hd
    subst hwb
    go_enter Tryz.func45, Tryz.ntmps45
    go_wp2
    go_ret
    exact No.out

set_option maxHeartbeats 8000000 in
set_option maxRecDepth 100000 in
theorem sound_any {w0 : World} {S T : Pz.Fil} {r1 bo1 r2 bo2 : Nat} {β γ μ ν : Nat → Nat} {V U : Nat → Prop} (h1 : Shape w0 r1 bo1 β μ S V) (h2 : Shape w0 r2 bo2 γ ν T U) (d1 : ∀ e ∈ S.E, Pz.isDir S.N e.dir = true) (d2 : ∀ e ∈ T.E, Pz.isDir T.N e.dir = true) (bt bf : Nat) :
    ∀ (k : Nat) (P : List (Nat × Nat)) (n m : Nat) (w : World), S.N.length ≤ P.length + k → V n → U m → PairB w0 w bt bf β γ V U P →
    Calls Tryz.prog 45 #[.agg #[.map (some bt), .map (some bf)], .pointer (some ⟨β n, 0, none⟩), .pointer (some ⟨γ m, 0, none⟩)] w (Sound w0 bt bf β γ V U S T P (n, m) w) := by
  intro k
  induction k with
  | zero =>
    intro P n m w hk hV hU hP
    refine sound_in h1 h2 bt bf P n m w hV hU hP (Classical.byContradiction fun hno => ?_)
    have hn : n ∉ P.map Prod.fst := fun h => hno (Or.inl (by
      obtain ⟨a, ha, e⟩ := List.mem_map.1 h
      exact ⟨a, ha, e⟩))
    have := nodup_len S.N.length (n :: P.map Prod.fst) (List.nodup_cons.2 ⟨hn, hP.n1⟩) (fun y hy => by
      rcases List.mem_cons.1 hy with rfl | hy
      · exact h1.vlt _ hV
      · obtain ⟨a, ha, rfl⟩ := List.mem_map.1 hy
        exact h1.vlt _ (hP.mem a ha).1)
    simp at this
    omega
  | succ k ih =>
    intro P n m w hk hV hU hP
    by_cases hno : (∃ a ∈ P, a.1 = n) ∨ ∃ a ∈ P, a.2 = m
    · exact sound_in h1 h2 bt bf P n m w hV hU hP hno
    have hn : n ∉ P.map Prod.fst := fun h => hno (Or.inl (by
      obtain ⟨a, ha, e⟩ := List.mem_map.1 h
      exact ⟨a, ha, e⟩))
    have hnm : m ∉ P.map Prod.snd := fun h => hno (Or.inr (by
      obtain ⟨a, ha, e⟩ := List.mem_map.1 h
      exact ⟨a, ha, e⟩))
    obtain ⟨wb, hwb⟩ : ∃ v, v = w.alloc (.cells #[.map (some bt), .map (some bf)] 83) := ⟨_, rfl⟩
    have hbb : Below w.heap.size w wb := by rw [hwb]; exact (Below.refl _ _).alloc (Nat.le_refl _) _
    have hbox : wb.heap[w.heap.size]? = some (.cells #[.map (some bt), .map (some bf)] 83 (0, 0)) := by
      rw [hwb]
      exact heap_alloc_new _ _
    have hPb := hP.keep hbb
    obtain ⟨hi1, hi2, hkt, hkf⟩ := pairb_start h1 h2 hPb
    have q1 := glook hPb.mt hkt ((h1.keep hPb.below).key hV)
    have q2 := glook hPb.mf hkf ((h2.keep hPb.below).key hU)
    have k0 := cell_of_row wb _ 0 _ _ _ hbox
    have k1 := cell_of_row wb _ 1 _ _ _ hbox
    have n1 : pairG P (fun q => β q.1) (fun q => γ q.2) (β n) = none := pairG_out fun a ha e => hno (Or.inl ⟨a, ha, h1.bInj _ _ (hP.mem a ha).1 hV e⟩)
    have n2 : pairG P (fun q => γ q.2) (fun q => β q.1) (γ m) = none := pairG_out fun a ha e => hno (Or.inr ⟨a, ha, h2.bInj _ _ (hP.mem a ha).2 hU e⟩)
    rw [n1] at q1
    rw [n2] at q2
    simp only [ptrV, Option.map] at q1 q2
    have hbt : bt < w.heap.size := hP.mt.lt
    have hbf : bf < w.heap.size := hP.mf.lt
    -- the two stores, in either order
    have hBd : Below wb.heap.size wb wb.drew := (Below.refl _ wb).drew
    have hPd := hPb.keep hBd
    obtain ⟨_, _, hktd, hkfd⟩ := pairb_start h1 h2 hPd
    have key : ∀ W, Below w0.heap.size w0 W → KeyBlock W (β n) ∧ KeyBlock W (γ m) := fun W hW => ⟨(h1.keep hW).key hV, (h2.keep hW).key hU⟩
    have keyP : ∀ W, Below w0.heap.size w0 W → (∀ x, (pairG P (fun q => β q.1) (fun q => γ q.2) x).isSome = true → KeyBlock W x) ∧ ∀ x, (pairG P (fun q => γ q.2) (fun q => β q.1) x).isSome = true → KeyBlock W x := fun W hW => by
      refine ⟨fun x hx => ?_, fun x hx => ?_⟩
      · obtain ⟨q, hq, rfl⟩ := pairG_some hx
        exact (h1.keep hW).key (hP.mem q hq).1
      · obtain ⟨q, hq, rfl⟩ := pairG_some hx
        exact (h2.keep hW).key (hP.mem q hq).2
    have hsz : wb.heap.size = w.heap.size + 1 := by rw [hwb]; simp
    obtain ⟨wA, rA, mA, gA, sA⟩ := pstore (v := γ m) hPd.mt hktd (key _ hPd.below).1 n1
    obtain ⟨wB, rB, mB, gB, sB⟩ := pstore (v := β n) hPd.mf hkfd (key _ hPd.below).2 n2
    have bA : Below w0.heap.size w0 wA := hPd.below.grown gA hPd.below.size (fun j hj => by cases hj; exact hP.lt)
    have bB : Below w0.heap.size w0 wB := hPd.below.grown gB hPd.below.size (fun j hj => by cases hj; exact hP.lf)
    obtain ⟨wAB, rAB, mAB, gAB, sAB⟩ := pstore (v := β n) (hPd.mf.keep (gA.block bf (by show bf < wb.heap.size; omega) (by simpa using fun e => hP.ne e.symm))) (keyP _ bA).2 (key _ bA).2 n2
    obtain ⟨wBA, rBA, mBA, gBA, sBA⟩ := pstore (v := γ m) (hPd.mt.keep (gB.block bt (by show bt < wb.heap.size; omega) (by simpa using hP.ne))) (keyP _ bB).1 (key _ bB).1 n1
    have cA := pairG_cons P (fun q => β q.1) (fun q => γ q.2) (n, m)
    have cB := pairG_cons P (fun q => γ q.2) (fun q => β q.1) (n, m)
    simp only at cA cB
    rw [cA] at mA mBA
    rw [cB] at mB mAB
    have hP2 : ∀ q ∈ (n, m) :: P, V q.1 ∧ U q.2 := fun q hq => by
      rcases List.mem_cons.1 hq with rfl | hq
      · exact ⟨hV, hU⟩
      · exact hP.mem q hq
    have hN2 : (((n, m) :: P).map Prod.fst).Nodup := List.nodup_cons.2 ⟨hn, hP.n1⟩
    have hM2 : (((n, m) :: P).map Prod.snd).Nodup := List.nodup_cons.2 ⟨hnm, hP.n2⟩
    have oD : Only (fun k => k = bt ∨ k = bf) w wb.drew := below_only (hbb.trans (hBd.mono hbb.size)) _
    have tr : ∀ {a b c : World}, Only (fun k => k = bt ∨ k = bf) a b → Only (fun k => k = bt ∨ k = bf) b c → Only (fun k => k = bt ∨ k = bf) a c := fun h k => h.trans k fun _ _ e => e
    have oA := tr oD (grown_only gA fun k e => by cases e; exact Or.inl rfl)
    have oB := tr oD (grown_only gB fun k e => by cases e; exact Or.inr rfl)
    have oAB := tr oA (grown_only gAB fun k e => by cases e; exact Or.inr rfl)
    have oBA := tr oB (grown_only gBA fun k e => by cases e; exact Or.inl rfl)
    have hbx : ∀ {W W' : World} {b : Nat}, W.heap[w.heap.size]? = some (.cells #[.map (some bt), .map (some bf)] 83 (0, 0)) → W.grownBy W' (some b) → b = bt ∨ b = bf → W'.heap[w.heap.size]? = some (.cells #[.map (some bt), .map (some bf)] 83 (0, 0)) := fun h hg hb =>
      (hg.block _ (lt_of_get h) (fun e => by cases e; rcases hb with e | e <;> omega)).trans h
    have xD : wb.drew.heap[w.heap.size]? = some (.cells #[.map (some bt), .map (some bf)] 83 (0, 0)) := hbox
    have xA := hbx xD gA (Or.inl rfl)
    have xB := hbx xD gB (Or.inr rfl)
    have xAB := hbx xA gAB (Or.inr rfl)
    have xBA := hbx xB gBA (Or.inl rfl)
    have bAB : Below w0.heap.size w0 wAB := bA.grown gAB bA.size (fun j hj => by cases hj; exact hP.lf)
    have bBA : Below w0.heap.size w0 wBA := bB.grown gBA bB.size (fun j hj => by cases hj; exact hP.lt)
    have pAB : PairB w0 wAB bt bf β γ V U ((n, m) :: P) := ⟨mA.keep (gAB.block bt mA.lt (by simpa using hP.ne)), mAB, hP.ne, hP.lt, hP.lf, hN2, hM2, hP2, bAB⟩
    have pBA : PairB w0 wBA bt bf β γ V U ((n, m) :: P) := ⟨mBA, mB.keep (gBA.block bf mB.lt (by simpa using fun e => hP.ne e.symm)), hP.ne, hP.lt, hP.lf, hN2, hM2, hP2, bBA⟩
    have HAB : Hid (PairB w0 wAB bt bf β γ V U ((n, m) :: P) ∧ Only (fun k => k = bt ∨ k = bf) w wAB ∧ wAB.heap[w.heap.size]? = some (.cells #[.map (some bt), .map (some bf)] 83 (0, 0))) := Lib.hid ⟨pAB, oAB, xAB⟩
    have HBA : Hid (PairB w0 wBA bt bf β γ V U ((n, m) :: P) ∧ Only (fun k => k = bt ∨ k = bf) w wBA ∧ wBA.heap[w.heap.size]? = some (.cells #[.map (some bt), .map (some bf)] 83 (0, 0))) := Lib.hid ⟨pBA, oBA, xBA⟩
    have d0 := cell_of_row wb.drew _ 0 _ _ _ xD
    have d1 := cell_of_row wb.drew _ 1 _ _ _ xD
    have a0 := cell_of_row wA _ 0 _ _ _ xA
    have a1 := cell_of_row wA _ 1 _ _ _ xA
    have b0 := cell_of_row wB _ 0 _ _ _ xB
    have b1 := cell_of_row wB _ 1 _ _ _ xB
    have Ih := Lib.hid ih
    have Hk := Lib.hid hk
    have Hlt := Lib.hid (And.intro hbt (And.intro hbf hP.below.size))
    clear ih hk hbt hbf hP2 hN2 hM2 cA cB hno hnm oD tr oA oB oAB oBA hbx xD xA xB xAB xBA bAB bBA pAB pBA mA mB mAB mBA gA gB gAB gBA sA sB sAB sBA bA bB hktd hkfd hPd hBd key keyP hkt hkf hi1 hi2 hPb hbb hbox n1 n2 hP hn hsz
    go_enter Tryz.func45, Tryz.ntmps45
    have HWb := Lib.hid hwb
    clear hwb
    go_upto_region 1 with fail
    rw [← HWb.out]
    go_upto_region 3 with fail
    go_cut [] from 36 to 43 (fun wx => Hid (PairB w0 wx bt bf β γ V U ((n, m) :: P) ∧ Only (fun k => k = bt ∨ k = bf) w wx ∧ wx.heap[w.heap.size]? = some (.cells #[.map (some bt), .map (some bf)] 83 (0, 0))))
    case first =>
      go_region_with (fail)
      all_goals
        go_wp2_with fail
        go_meet
        first | exact HAB | exact HBA
    case rest =>
    obtain ⟨wy, rfl⟩ : ∃ v, v = wc := ⟨_, rfl⟩
    obtain ⟨hPc, hOc, hXc⟩ := hcut.out
    have HPc := Lib.hid hPc
    have HOc := Lib.hid hOc
    have HXc := Lib.hid hXc
    have hs1 := h1.keep hPc.below
    have hs2 := h2.keep hPc.below
    obtain ⟨c0, c1, c2⟩ := hs1.nc hV
    obtain ⟨g0, g1, g2⟩ := hs2.nc hU
    have hlenn : ∀ ty, (Builtin.len_ #[103] ty #[.map none]).run Tryz.prog wy = .ok (.int .i64 0) wy := fun ty => Maps.len_nil Tryz.underlying103 ty
    clear hcut hPc hOc hXc d0 d1 a0 a1 b0 b1 rA rB rAB rBA q1 q2 k0 k1 HAB HBA
    obtain ⟨sA, hsA⟩ : ∃ s : ByteArray, s = ⟨(Pz.nodeD S.N n).data.toArray⟩ := ⟨_, rfl⟩
    obtain ⟨sB, hsB⟩ : ∃ s : ByteArray, s = ⟨(Pz.nodeD T.N m).data.toArray⟩ := ⟨_, rfl⟩
    obtain ⟨lA, hlA⟩ : ∃ l, l = (Pz.nodeD S.N n).links := ⟨_, rfl⟩
    obtain ⟨lB, hlB⟩ : ∃ l, l = (Pz.nodeD T.N m).links := ⟨_, rfl⟩
    rw [← hsA] at c0
    rw [← hlA] at c1
    rw [← hsB] at g0
    rw [← hlB] at g1
    obtain ⟨cA, hcA⟩ : ∃ l, l = Pz.count S.E n := ⟨_, rfl⟩
    obtain ⟨cB, hcB⟩ : ∃ l, l = Pz.count T.E m := ⟨_, rfl⟩
    have HNd : Hid (Pz.isDir S.N n = Pz.isDir T.N m → sA = sB → lA = lB → Pz.nodeD T.N m = Pz.nodeD S.N n) := Lib.hid fun e1 e2 e3 => by
      rw [hsA, hsB] at e2
      rw [hlA, hlB] at e3
      simp only [ByteArray.mk.injEq] at e2
      have e2 := congrArg Array.toList e2
      simp only [] at e2
      rw [← Pz.nodeD_dir, ← Pz.nodeD_dir] at e1
      generalize Pz.nodeD S.N n = x at *
      generalize Pz.nodeD T.N m = y at *
      cases x
      cases y
      simp only [Pz.Nd.mk.injEq]
      exact ⟨e1.symm, e2.symm, e3.symm⟩
    have HNq : Hid (∀ Q, Pz.Full S T Q → (n, m) ∈ Q → Pz.isDir S.N n = Pz.isDir T.N m ∧ sA = sB ∧ lA = lB ∧ cA = cB) := Lib.hid fun Q hQ hq => by
      have hf := hQ.all _ hq
      have e1 : Pz.nodeD T.N m = Pz.nodeD S.N n := hf.node
      have e2 : Pz.count T.E m = Pz.count S.E n := hf.cnt
      refine ⟨by rw [← Pz.nodeD_dir, ← Pz.nodeD_dir, e1], by rw [hsA, hsB, e1], by rw [hlA, hlB, e1], by rw [hcA, hcB, e2]⟩
    have HCz : Hid (Pz.isDir S.N n = false → Pz.isDir T.N m = false → cA = cB) := Lib.hid fun e1 e2 => by
      rw [hcA, hcB]
      unfold Pz.count
      rw [List.filter_eq_nil_iff.2, List.filter_eq_nil_iff.2]
      · intro e he hh
        have := d2 e he
        rw [show e.dir = m by simpa using hh, e2] at this
        cases this
      · intro e he hh
        have := d1 e he
        rw [show e.dir = n by simpa using hh, e1] at this
        cases this
    have Hc := Lib.hid (And.intro hcA hcB)
    clear hsA hsB hlA hlB
    cases hD : Pz.isDir S.N n with
    | false =>
      rw [hD] at c2
      simp only [if_neg (show ¬ false = true by decide)] at c2
      clear hcA hcB
      cases hE : Pz.isDir T.N m with
      | true =>
        rw [hE] at g2
        simp only [if_true] at g2
        go_upto_region 4 with fail
        go_cut [83] from 44 to 83 (fun s83 wx => ∃ bad : Bool, s83 = .bool bad ∧ Hid (bad = false → False) ∧ Hid (Below wy.heap.size wy wx))
        case first =>
          go_quiet ((go_at_call 55; first | exact quiet_left (dir_q (β n) none _ c2) | exact quiet_left (dir_q (γ m) (some (ν m)) _ g2)))
          go_wp2_with fail
          go_meet
          exact ⟨true, rfl, Lib.hid (fun h => by cases h), Lib.hid (below_drewN (Below.refl _ _) _)⟩
        case rest =>
        obtain ⟨bad, rfl, hbad, HBx⟩ := hcut
        obtain rfl : bad = true := by
          cases bad
          · exact (hbad.out rfl).elim
          · rfl
        have HFin : Hid (Sound w0 bt bf β γ V U S T P (n, m) w (.returned (.bool false)) wc) := Lib.hid ⟨false, (n, m) :: P, rfl, HPc.out.keep HBx.out, fun a ha => List.mem_cons_of_mem _ ha, by simp, HOc.out.trans (below_only HBx.out _) fun _ _ e => e, (fun h => by cases h), fun Q h1 h2 h3 => by have := (HNq.out Q h1 h3).1; rw [hD, hE] at this; cases this⟩
        clear c0 c1 c2 g0 g1 g2 hlenn hs1 hs2
        go_wp2
        go_ret
        exact HFin.out
      | false =>
        rw [hE] at g2
        simp only [if_neg (show ¬ false = true by decide)] at g2
        have HCz := Lib.hid (HCz.out hD hE)
        go_upto_region 4 with fail
        go_cut [83] from 44 to 83 (fun s83 wx => ∃ bad : Bool, s83 = .bool bad ∧ Hid ((bad = false → sA = sB ∧ lA = lB ∧ cA = cB) ∧ (bad = true → ¬ (sA = sB ∧ lA = lB ∧ cA = cB))) ∧ Hid (Below wy.heap.size wy wx))
        case first =>
          by_cases hsd : sA = sB
          · have hpb : (sA.toList == sB.toList) = true := by rw [beq_iff_eq, hsd]
            by_cases hlk : lA = lB
            · have hlb : (lA == lB) = true := by rw [beq_iff_eq, hlk]
              have HAg := Lib.hid (And.intro hsd hlk)
              subst hsd hlk
              go_quiet ((go_at_call 55; first | exact quiet_left (dir_q (β n) none _ c2) | exact quiet_left (dir_q (γ m) none _ g2)))
              go_wp2_with fail
              go_meet
              exact ⟨false, rfl, Lib.hid ⟨fun _ => ⟨HAg.out.1, HAg.out.2, HCz.out⟩, fun h => by cases h⟩, Lib.hid (below_drewN (Below.refl _ _) _)⟩
            · have hlb : (lA == lB) = false := by rw [beq_eq_false_iff_ne]; exact hlk
              have hln : (lA != lB) = true := by rw [bne, hlb]; rfl
              have HNe := Lib.hid hlk
              subst hsd
              go_quiet ((go_at_call 55; first | exact quiet_left (dir_q (β n) none _ c2) | exact quiet_left (dir_q (γ m) none _ g2)))
              go_wp2_with fail
              go_meet
              exact ⟨true, rfl, Lib.hid ⟨(fun h => by cases h), fun _ h => HNe.out h.2.1⟩, Lib.hid (below_drewN (Below.refl _ _) _)⟩
          · have hpb : (sA.toList == sB.toList) = false := by
              rw [beq_eq_false_iff_ne, Lib.toList_data, Lib.toList_data]
              exact fun e => hsd (by
                cases sA
                cases sB
                simp only [ByteArray.mk.injEq]
                exact Array.toList_inj.1 e)
            have HNe := Lib.hid hsd
            clear hsd
            go_quiet ((go_at_call 55; first | exact quiet_left (dir_q (β n) none _ c2) | exact quiet_left (dir_q (γ m) none _ g2)))
            go_wp2_with fail
            go_meet
            exact ⟨true, rfl, Lib.hid ⟨(fun h => by cases h), fun _ h => HNe.out h.1⟩, Lib.hid (below_drewN (Below.refl _ _) _)⟩
        case rest =>
        obtain ⟨bad, rfl, hbad, HBx⟩ := hcut
        cases bad with
        | true =>
          have HFin : Hid (Sound w0 bt bf β γ V U S T P (n, m) w (.returned (.bool false)) wc) := Lib.hid ⟨false, (n, m) :: P, rfl, HPc.out.keep HBx.out, fun a ha => List.mem_cons_of_mem _ ha, by simp, HOc.out.trans (below_only HBx.out _) fun _ _ e => e, (fun h => by cases h), fun Q h1 h2 h3 => (hbad.out.2 rfl (HNq.out Q h1 h3).2).elim⟩
          clear c0 c1 c2 g0 g1 g2 hlenn hs1 hs2
          go_wp2
          go_ret
          exact HFin.out
        | false =>
          have e2 := (HBx.out.cell (p := ⟨β n, 2, none⟩) (cell_lt c2)).trans c2
          have HFin : Hid (Sound w0 bt bf β γ V U S T P (n, m) w (.returned (.bool true)) (wc.alloc (.mapIter none 0 #[] 0))) := Lib.hid (by
            have hb : Below wy.heap.size wy (wc.alloc (.mapIter none 0 #[] 0)) := HBx.out.alloc HBx.out.size _
            obtain ⟨a1, a2, a3⟩ := hbad.out.1 rfl
            refine ⟨true, (n, m) :: P, rfl, HPc.out.keep hb, fun a ha => List.mem_cons_of_mem _ ha, by simp, HOc.out.trans (below_only hb _) fun _ _ e => e, fun _ => ⟨List.mem_cons_self .., fun a ha => ?_⟩, fun Q h1 h2 h3 => ⟨rfl, fun a ha => (List.mem_cons.1 ha).elim (fun e => e ▸ h3) (h2 a)⟩⟩
            rcases List.mem_cons.1 ha with rfl | ha
            · refine Or.inr ⟨HNd.out (by rw [hD, hE]) a1 a2, ?_, fun x hx => ?_⟩
              · show Pz.count T.E m = Pz.count S.E n
                rw [← Hc.out.1, ← Hc.out.2, a3]
              · have hx : 0 ≤ Pz.look S.E n x := hx
                have hent := Pz.look_entry (E := S.E) (i := n) (x := x) (n := (Pz.look S.E n x).toNat) (by omega)
                have := d1 _ hent
                simp only [hD] at this
                cases this
            · exact Or.inl ha)
          have hrg := run_range_nilMap (P := Tryz.prog) wc 103 _ _ Tryz.underlying103
          have hnx : ∀ ty, (Instr.next (.pointer (some ⟨wc.heap.size, 0, none⟩)) false ty).run Tryz.prog (wc.alloc (.mapIter none 0 #[] 0)) = _ := fun ty => run_next_nilMap wc ty 0 0 #[]
          clear c0 c1 c2 g0 g1 g2 hlenn hs1 hs2
          go_wp2
          refine wp_loop_rounds 1 ?_
          rw [rounds_succ]
          go_wp2
          go_ret
          exact HFin.out
    | true =>
      rw [hD] at c2
      simp only [if_true] at c2
      obtain ⟨D1, own1, me1⟩ := hs1.dirs n hV hD
      have l1 := fun nq ty => World.ownsMap.len (w := wy.drewN nq) (t := 103) (e := 62) (show (wy.drewN nq).ownsMap Tryz.prog 9 ptrE (μ n) (Pz.count S.E n) D1 from own1) Tryz.underlying103 ty
      rw [me1.2, ← hcA] at l1
      have Ho1 := Lib.hid own1
      have Hm1 := Lib.hid me1
      obtain ⟨cap, hcap⟩ : ∃ cap, cap = Pz.count S.E n := ⟨_, rfl⟩
      rw [← hcap] at Ho1
      clear own1 me1 hcap
      cases hE : Pz.isDir T.N m with
      | false =>
        rw [hE] at g2
        simp only [if_neg (show ¬ false = true by decide)] at g2
        clear hcA hcB
        go_upto_region 4 with fail
        go_cut [83] from 44 to 83 (fun s83 wx => ∃ bad : Bool, s83 = .bool bad ∧ Hid (bad = false → False) ∧ Hid (Below wy.heap.size wy wx))
        case first =>
          go_quiet ((go_at_call 55; first | exact quiet_left (dir_q (β n) (some (μ n)) _ c2) | exact quiet_left (dir_q (γ m) none _ g2)))
          go_wp2_with fail
          go_meet
          exact ⟨true, rfl, Lib.hid (fun h => by cases h), Lib.hid (below_drewN (Below.refl _ _) _)⟩
        case rest =>
        obtain ⟨bad, rfl, hbad, HBx⟩ := hcut
        obtain rfl : bad = true := by
          cases bad
          · exact (hbad.out rfl).elim
          · rfl
        have HFin : Hid (Sound w0 bt bf β γ V U S T P (n, m) w (.returned (.bool false)) wc) := Lib.hid ⟨false, (n, m) :: P, rfl, HPc.out.keep HBx.out, fun a ha => List.mem_cons_of_mem _ ha, by simp, HOc.out.trans (below_only HBx.out _) fun _ _ e => e, (fun h => by cases h), fun Q h1 h2 h3 => by have := (HNq.out Q h1 h3).1; rw [hD, hE] at this; cases this⟩
        clear c0 c1 c2 g0 g1 g2 hlenn hs1 hs2 l1
        go_wp2
        go_ret
        exact HFin.out
      | true =>
        rw [hE] at g2
        simp only [if_true] at g2
        obtain ⟨D2, own2, me2⟩ := hs2.dirs m hU hE
        have l2 := fun nq ty => World.ownsMap.len (w := wy.drewN nq) (t := 103) (e := 62) (show (wy.drewN nq).ownsMap Tryz.prog 9 ptrE (ν m) (Pz.count T.E m) D2 from own2) Tryz.underlying103 ty
        rw [me2.2, ← hcB] at l2
        have Ho2 := Lib.hid own2
        have Hm2 := Lib.hid me2
        clear own2 me2 hcA hcB
        go_upto_region 4 with fail
        go_cut [83] from 44 to 83 (fun s83 wx => ∃ bad : Bool, s83 = .bool bad ∧ Hid ((bad = false → sA = sB ∧ lA = lB ∧ cA = cB) ∧ (bad = true → ¬ (sA = sB ∧ lA = lB ∧ cA = cB))) ∧ Hid (Below wy.heap.size wy wx))
        case first =>
          by_cases hsd : sA = sB
          · have hpb : (sA.toList == sB.toList) = true := by rw [beq_iff_eq, hsd]
            by_cases hlk : lA = lB
            · have hlb : (lA == lB) = true := by rw [beq_iff_eq, hlk]
              by_cases hct : cA = cB
              · have hcb : ((cA : Int) == (cB : Int)) = true := by rw [beq_iff_eq, hct]
                have HAg := Lib.hid (And.intro hsd (And.intro hlk hct))
                subst hsd hlk hct
                go_quiet ((go_at_call 55; first | exact quiet_left (dir_q (β n) (some (μ n)) _ c2) | exact quiet_left (dir_q (γ m) (some (ν m)) _ g2)))
                go_wp2_with fail
                go_meet
                exact ⟨false, rfl, Lib.hid ⟨fun _ => HAg.out, fun h => by cases h⟩, Lib.hid (below_drewN (Below.refl _ _) _)⟩
              · have hcb : ((cA : Int) == (cB : Int)) = false := by rw [beq_eq_false_iff_ne]; omega
                have hcn : ((cA : Int) != (cB : Int)) = true := by rw [bne, hcb]; rfl
                have HNe := Lib.hid hct
                clear hct
                subst hsd hlk
                go_quiet ((go_at_call 55; first | exact quiet_left (dir_q (β n) (some (μ n)) _ c2) | exact quiet_left (dir_q (γ m) (some (ν m)) _ g2)))
                go_wp2_with fail
                go_meet
                exact ⟨true, rfl, Lib.hid ⟨(fun h => by cases h), fun _ h => HNe.out h.2.2⟩, Lib.hid (below_drewN (Below.refl _ _) _)⟩
            · have hlb : (lA == lB) = false := by rw [beq_eq_false_iff_ne]; exact hlk
              have hln : (lA != lB) = true := by rw [bne, hlb]; rfl
              have HNe := Lib.hid hlk
              subst hsd
              go_quiet ((go_at_call 55; first | exact quiet_left (dir_q (β n) (some (μ n)) _ c2) | exact quiet_left (dir_q (γ m) (some (ν m)) _ g2)))
              go_wp2_with fail
              go_meet
              exact ⟨true, rfl, Lib.hid ⟨(fun h => by cases h), fun _ h => HNe.out h.2.1⟩, Lib.hid (below_drewN (Below.refl _ _) _)⟩
          · have hpb : (sA.toList == sB.toList) = false := by
              rw [beq_eq_false_iff_ne, Lib.toList_data, Lib.toList_data]
              exact fun e => hsd (by
                cases sA
                cases sB
                simp only [ByteArray.mk.injEq]
                exact Array.toList_inj.1 e)
            have HNe := Lib.hid hsd
            clear hsd
            go_quiet ((go_at_call 55; first | exact quiet_left (dir_q (β n) (some (μ n)) _ c2) | exact quiet_left (dir_q (γ m) (some (ν m)) _ g2)))
            go_wp2_with fail
            go_meet
            exact ⟨true, rfl, Lib.hid ⟨(fun h => by cases h), fun _ h => HNe.out h.1⟩, Lib.hid (below_drewN (Below.refl _ _) _)⟩
        case rest =>
        obtain ⟨bad, rfl, hbad, HBx⟩ := hcut
        cases bad with
        | true =>
          have HFin : Hid (Sound w0 bt bf β γ V U S T P (n, m) w (.returned (.bool false)) wc) := Lib.hid ⟨false, (n, m) :: P, rfl, HPc.out.keep HBx.out, fun a ha => List.mem_cons_of_mem _ ha, by simp, HOc.out.trans (below_only HBx.out _) fun _ _ e => e, (fun h => by cases h), fun Q h1 h2 h3 => (hbad.out.2 rfl (HNq.out Q h1 h3).2).elim⟩
          clear c0 c1 c2 g0 g1 g2 hlenn hs1 hs2 l1 l2
          go_wp2
          go_ret
          exact HFin.out
        | false =>
          have Ag : Hid (Pz.nodeD T.N m = Pz.nodeD S.N n ∧ Pz.count T.E m = Pz.count S.E n) := Lib.hid (by
            obtain ⟨a1, a2, a3⟩ := hbad.out.1 rfl
            refine ⟨HNd.out (by rw [hD, hE]) a1 a2, ?_⟩
            rw [← Hc.out.1, ← Hc.out.2, a3])
          have e2 := (HBx.out.cell (p := ⟨β n, 2, none⟩) (cell_lt c2)).trans c2
          have Hg2 := Lib.hid ((HBx.out.cell (p := ⟨γ m, 2, none⟩) (cell_lt g2)).trans g2)
          have HPx := Lib.hid (HPc.out.keep HBx.out)
          have HOx : Hid (Only (fun k => k = bt ∨ k = bf) w wc) := Lib.hid (HOc.out.trans (below_only HBx.out _) fun _ _ e => e)
          have HXx := Lib.hid ((HBx.out.block _ (lt_of_get HXc.out)).trans HXc.out)
          have Ho1x := Lib.hid (map_keep Ho1.out (HBx.out.block _ Ho1.out.lt))
          have Ho2x := Lib.hid (map_keep Ho2.out (HBx.out.block _ Ho2.out.lt))
          have Hr : Hid (w.heap.size < wc.heap.size ∧ γ m < wc.heap.size ∧ μ n < w.heap.size ∧ ν m < w.heap.size ∧ γ m < w.heap.size) := Lib.hid (by
            obtain ⟨D, hd, _⟩ := h1.dirs n hV hD
            obtain ⟨D', hd', _⟩ := h2.dirs m hU hE
            have z := Hlt.out.2.2
            have z1 := lt_of_get (h2.node m hU)
            have z2 := hd.lt
            have z3 := hd'.lt
            have z4 := lt_of_get HXx.out
            exact ⟨z4, by omega, by omega, by omega, by omega⟩)
          clear c0 c1 c2 g0 g1 g2 hlenn hs1 hs2 l1 l2 hbad
          go_wp2_with (at_range; refine wpList_range_own _ rfl _ 103 rfl 9 62 Tryz.strLaw Tryz.underlying103 _ _ _ D1 rfl Ho1x.out ?_; intro wq hrg0 hg0 hs0)
          go_frame
          go_loopw [] (fun wr => ∃ (left : Lit → Bool) (cnt : Nat) (P' : List (Nat × Nat)), wr.ranges Tryz.prog 9 ptrE (μ n) wc.heap.size cap D1 left cnt ∧ Hid (PairB w0 wr bt bf β γ V U P' ∧ (∀ a ∈ (n, m) :: P, a ∈ P') ∧ P.length + 1 ≤ P'.length ∧ Only (fun k => k = bt ∨ k = bf) w wr ∧ wr.heap[w.heap.size]? = some (.cells #[.map (some bt), .map (some bf)] 83 (0, 0)) ∧ wc.heap.size < wr.heap.size ∧ (∀ a ∈ P', a ∈ P ∨ a = (n, m) ∨ Pz.Fit S T P' a) ∧ (∀ x, left (.string x) = false → 0 ≤ Pz.look S.E n x → 0 ≤ Pz.look T.E m x ∧ ((Pz.look S.E n x).toNat, (Pz.look T.E m x).toNat) ∈ P') ∧ ∀ Q, Pz.Full S T Q → (∀ a ∈ P, a ∈ Q) → (n, m) ∈ Q → ∀ a ∈ P', a ∈ Q)) (fun wr => wr.rangeLeft (μ n) wc.heap.size)
          case atStart =>
            have hb := (Below.refl wc.heap.size wc).grown hg0 (Nat.le_refl _) (fun j hj => by cases hj)
            exact ⟨_, _, (n, m) :: P, hrg0, Lib.hid ⟨HPx.out.keep hb, fun m hm => hm, by simp, HOx.out.trans (below_only hb _) fun _ _ e => e, (hb.block _ (lt_of_get HXx.out)).trans HXx.out, by omega, fun a ha => (List.mem_cons.1 ha).elim (fun e => Or.inr (Or.inl e)) Or.inl, (fun x hx hE => by
              have := (Hm1.out.has x).2 hE
              rw [hx] at this
              cases this), fun Q h1 h2 h3 a ha => (List.mem_cons.1 ha).elim (fun e => e ▸ h3) (h2 a)⟩⟩
          case round =>
            obtain ⟨left, cnt, P', hrg, HR⟩ := hrel
            go_wp2_with (at_next; refine wpList_next_ranges _ rfl _ rfl 9 Tryz.strLaw ptrE encStr ptrOf (fun key kl hk => by obtain ⟨x, hx, _⟩ := Maps.keyOf_str Tryz.underlying9 hk; exact ⟨x, hx⟩) (fun v y hv => ptrE_shape hv) (μ n) wc.heap.size cap _ _ _ rfl hrg ?_ ?_)
            · intro hc0 hl0
              have HFin : Hid (Sound w0 bt bf β γ V U S T P (n, m) w (.returned (.bool true)) wr) := Lib.hid (by
                obtain ⟨z1, z2, z3, z4, z5, z6, z7, z8, z9⟩ := HR.out
                refine ⟨true, P', rfl, z1, fun a ha => z2 a (List.mem_cons_of_mem _ ha), by omega, z4, fun _ => ⟨z2 _ (List.mem_cons_self ..), fun a ha => ?_⟩, fun Q h1 h2 h3 => ⟨rfl, z9 Q h1 h2 h3⟩⟩
                rcases z7 a ha with h | h | h
                · exact Or.inl h
                · subst h
                  exact Or.inr ⟨Ag.out.1, Ag.out.2, fun x hx => z8 x (hl0 _) hx⟩
                · exact Or.inr h)
              clear hrg hc0 hl0
              go_wp2
              go_ret
              exact HFin.out
            · intro x c kl yd yp w2 cnt2 hkey hlk hv hat hrg2 hlt hg2 hs2 hen
              obtain ⟨x', ex, rfl, _⟩ := Maps.keyOf_str Tryz.underlying9 hkey
              obtain rfl : x = x' := encStr_inj ex
              obtain ⟨n1, hn1, rfl⟩ := entry_of_range (y := (yd, yp)) Hm1.out hv hat
              have hent := Pz.look_entry hn1
              have hVm : V n1 := h1.ve _ hent hV
              obtain ⟨r1, r2, r3, r4, r5⟩ := Hr.out
              obtain ⟨s1, s2, s3⟩ := Hlt.out
              obtain ⟨hPr, hsub, hlen, hOr, hXr, hszr, hfit, hhad, hinQ⟩ := HR.out
              have bl : ∀ j, j < w.heap.size + 1 → w2.heap[j]? = wr.heap[j]? := fun j hj => hg2.block j (by omega) (fun e => by cases e; omega)
              have hP2 : PairB w0 w2 bt bf β γ V U P' := hPr.turn (bl bt (by omega)) (bl bf (by omega)) (hPr.below.grown hg2 hPr.below.size (fun j hj => by cases hj; omega))
              have hO2 : Only (fun k => k = bt ∨ k = bf) w w2 := hOr.trans (grown_only hg2 (F := fun j => j = wc.heap.size) fun j e => by cases e; rfl) (fun j hj e => by omega)
              have hX2 := (bl w.heap.size (by omega)).trans hXr
              have x0 := cell_of_row w2 _ 0 _ _ _ hX2
              have x1 := cell_of_row w2 _ 1 _ _ _ hX2
              have hb2 : ∀ j, j < w.heap.size → j ≠ bt → j ≠ bf → w2.heap[j]? = wc.heap[j]? := fun j hj h1 h2 => (hO2.block j hj (fun e => e.elim h1 h2)).trans (HOx.out.block j hj (fun e => e.elim h1 h2)).symm
              have w0s := hPr.lt
              have w0f := hPr.lf
              have hγ : γ m < w0.heap.size := lt_of_get (h2.node m hU)
              have hν : ν m < w0.heap.size := by
                obtain ⟨D', hd', _⟩ := h2.dirs m hU hE
                exact hd'.lt
              have y2 := (World.cell?_of_block (w := wc) (a := ⟨γ m, 2, none⟩) (hb2 (γ m) r5 (by omega) (by omega))).trans Hg2.out
              have o2 := map_keep Ho2x.out (hb2 (ν m) r4 (by omega) (by omega))
              have hfits := Lib.hid (And.intro hfit hhad)
              have HinQ := Lib.hid hinQ
              have HA := Lib.hid (And.intro hsub (And.intro hlen (And.intro hO2 hX2)))
              have HPw := Lib.hid hP2
              have Hrg := Lib.hid hrg2
              have Hlt2 := Lib.hid hlt
              have Hsz := Lib.hid (And.intro hs2 (And.intro hszr (And.intro s1 (And.intro s2 w0s))))
              have Hwf := Lib.hid (And.intro w0f (And.intro r3 s3))
              have Hn1 := Lib.hid hn1
              have HVm := Lib.hid hVm
              have Hmu : Hid (μ n < w0.heap.size) := Lib.hid (by
                obtain ⟨D', hd', _⟩ := h1.dirs n hV hD
                exact hd'.lt)
              have HKs := Lib.hid (look_keys Hm2.out x)
              clear hrg2 hlt hv hat hsub hlen hO2 hX2 hb2 bl hOr hXr hPr hP2 hszr s1 s2 s3 r1 r2 r3 r4 r5 w0s w0f hγ hν hn1 hent hVm hs2 hg2 hlk hfit hhad hinQ
              simp only [ptrOf] at hen ⊢
              by_cases hno : Pz.look T.E m x < 0
              · have hat2 := HKs.out.1 hno
                have HFin : Hid (Sound w0 bt bf β γ V U S T P (n, m) w (.returned (.bool false)) w2) := Lib.hid ⟨false, P', rfl, HPw.out, fun a ha => HA.out.1 a (List.mem_cons_of_mem _ ha), by have := HA.out.2.1; omega, HA.out.2.2.1, (fun h => by cases h), fun Q h1 h2 h3 => by
                  have := ((h1.all _ h3).ent x (by show (0 : Int) ≤ Pz.look S.E n x; rw [Hn1.out]; omega)).1
                  exact absurd hno (by simp only at this; omega)⟩
                clear hno
                go_wp2_with (at_lookup; refine lookup_nil rfl _ _ 103 rfl 9 62 Tryz.strLaw Tryz.underlying103 (Tryz.zeroP _) _ _ D2 rfl o2 _ _ rfl hkey hat2 ?_)
                go_ret
                exact HFin.out
              obtain ⟨m1, hm1⟩ : ∃ k : Nat, Pz.look T.E m x = k := ⟨(Pz.look T.E m x).toNat, by omega⟩
              have hat2 := HKs.out.2 m1 hm1
              have hUm : U m1 := h2.ve _ (Pz.look_entry hm1) hU
              have HI := Lib.hid (Ih.out P' n1 m1 w2 (by have := Hk.out; have := HA.out.2.1; omega) HVm.out hUm HPw.out)
              have Hm1' := Lib.hid hm1
              clear hno hUm hm1
              go_wp2_with (at_lookup; refine lookup_at rfl _ _ 103 rfl 9 62 Tryz.strLaw Tryz.underlying103 (Tryz.zeroP _) _ _ D2 rfl o2 _ _ rfl hkey (γ m1) hat2 ?_)
              refine HI.out.mono ?_
              rintro e w3 ⟨b3, P3, rfl, hP3, hsub3, hle3, hO3, hb3, hc3⟩
              have hc4 : ∀ Q, Pz.Full S T Q → (∀ a ∈ P, a ∈ Q) → (n, m) ∈ Q → b3 = true ∧ ∀ a ∈ P3, a ∈ Q := fun Q h1 h2 h3 => hc3 Q h1 (HinQ.out Q h1 h2 h3) (by
                have := ((h1.all _ h3).ent x (by show (0 : Int) ≤ Pz.look S.E n x; rw [Hn1.out]; omega)).2
                simp only [Hn1.out, Hm1'.out, Int.toNat_natCast] at this
                exact this)
              have hrg3 := ranges_keep Hrg.out (hO3.block _ (by have := Hsz.out; have := Hr.out; omega) (fun e => by have e : μ n = bt ∨ μ n = bf := e; have := Hsz.out; have := Hmu.out; have := Hwf.out; omega)) (hO3.block _ (by have := Hsz.out; omega) (fun e => by have e : wc.heap.size = bt ∨ wc.heap.size = bf := e; have := Hsz.out; have := Hr.out; omega))
              cases b3 with
              | false =>
                have HFin : Hid (Sound w0 bt bf β γ V U S T P (n, m) w (.returned (.bool false)) w3) := Lib.hid ⟨false, P3, rfl, hP3, fun a ha => hsub3 a (HA.out.1 a (List.mem_cons_of_mem _ ha)), by have := HA.out.2.1; omega, HA.out.2.2.1.trans hO3 fun _ _ e => e, (fun h => by cases h), fun Q h1 h2 h3 => by cases (hc4 Q h1 h2 h3).1⟩
                clear hP3 hsub3 hle3 hO3 hb3 hc3 hc4 x0 x1 y2 o2 hen hrg3
                go_wp2
                go_ret
                exact HFin.out
              | true =>
                have hfin : Hid (PairB w0 w3 bt bf β γ V U P3 ∧ (∀ a ∈ (n, m) :: P, a ∈ P3) ∧ P.length + 1 ≤ P3.length ∧ Only (fun k => k = bt ∨ k = bf) w w3 ∧ w3.heap[w.heap.size]? = some (.cells #[.map (some bt), .map (some bf)] 83 (0, 0)) ∧ wc.heap.size < w3.heap.size ∧ (∀ a ∈ P3, a ∈ P ∨ a = (n, m) ∨ Pz.Fit S T P3 a) ∧ (∀ y, (left (.string y) && !(Lit.string y).sameKey (.string x)) = false → 0 ≤ Pz.look S.E n y → 0 ≤ Pz.look T.E m y ∧ ((Pz.look S.E n y).toNat, (Pz.look T.E m y).toNat) ∈ P3) ∧ ∀ Q, Pz.Full S T Q → (∀ a ∈ P, a ∈ Q) → (n, m) ∈ Q → ∀ a ∈ P3, a ∈ Q) := Lib.hid (by
                  obtain ⟨hq, hall⟩ := hb3 rfl
                  refine ⟨hP3, fun m hm => hsub3 m (HA.out.1 m hm), Nat.le_trans HA.out.2.1 hle3, HA.out.2.2.1.trans hO3 fun _ _ e => e, (hO3.block _ (lt_of_get HA.out.2.2.2) (fun e => by have := Hsz.out; omega)).trans HA.out.2.2.2, by have := hO3.size; have := Hsz.out; omega, fun a ha => ?_, fun y hy hl => ?_, fun Q h1 h2 h3 => (hc4 Q h1 h2 h3).2⟩
                  · rcases hall a ha with h | h
                    · rcases hfits.out.1 a h with h | h | h
                      · exact Or.inl h
                      · exact Or.inr (Or.inl h)
                      · exact Or.inr (Or.inr (h.mono hsub3))
                    · exact Or.inr (Or.inr h)
                  · by_cases hxy : x = y
                    · subst hxy
                      rw [Hn1.out, Hm1'.out]
                      exact ⟨by omega, by simpa using hq⟩
                    · have hk : (Lit.string y).sameKey (.string x) = false := by
                        simp [Lit.sameKey]
                        exact fun e => hxy e.symm
                      rw [hk] at hy
                      simp at hy
                      obtain ⟨g1, g2⟩ := hfits.out.2 y hy hl
                      exact ⟨g1, hsub3 _ g2⟩)
                clear hP3 hsub3 hle3 hO3 hb3 hc3 hc4 x0 x1 y2 o2 hen
                go_wp2
                go_roundw
                case rel => exact ⟨_, cnt2, P3, hrg3, hfin⟩
                case measure => rw [hrg3.left_eq, hrg.left_eq]; exact Hlt2.out

end Go.Proofs.YtbpejjmfdhkfhaaGreatDoor
