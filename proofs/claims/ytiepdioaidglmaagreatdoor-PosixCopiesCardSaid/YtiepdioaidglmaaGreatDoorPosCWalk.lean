/- Walks: copier.node, at a node that is not yet copied. -/
import Derived.Test.YtiepdioaidglmaaGreatDoorPosCNode
import Derived.Deep.RegionHeld3
import Derived.Deep.CutRange
set_option linter.unusedVariables false
set_option linter.unusedSimpArgs false
namespace Go.Proofs.YtiepdioaidglmaaGreatDoor
open Go.RowKit
open Go.ChangeMaps Go.MapKept

theorem plookC {w : World} {b n : Nat} {Q : Nat → Option Nat} (h : PMap w b n Q) (hk : ∀ k, (Q k).isSome = true → KeyBlock w k) {x : Nat} (hx : KeyBlock w x) :
    (Instr.lookup 90 (.map (some b)) (.pointer (some ⟨x, 0, none⟩)) false).run Tryz.prog w = .ok (ptrV (Q x)) w := by
  obtain ⟨j, h1, h2⟩ := Tryz.infoNode
  exact h.look Tryz.underlying90 Tryz.underlying61 h1 h2 (Tryz.zeroP w) hk hx
theorem pstoreC {w : World} {b n : Nat} {Q : Nat → Option Nat} (h : PMap w b n Q) (hk : ∀ k, (Q k).isSome = true → KeyBlock w k) {x v : Nat} (hx : KeyBlock w x) (hq : Q x = none) :
    ∃ w', (Instr.mapUpdate 90 (.map (some b)) (.pointer (some ⟨x, 0, none⟩)) (.pointer (some ⟨v, 0, none⟩))).run Tryz.prog w = .ok () w' ∧ PMap w' b (n + 1) (fun k => if k = x then some v else Q k) ∧ w.grownBy w' (some b) ∧ w'.heap.size = w.heap.size := by
  obtain ⟨j, h1, h2⟩ := Tryz.infoNode
  exact h.store Tryz.underlying90 Tryz.underlying61 h1 h2 hk hx hq

/-- what the loop over a directory's names holds: its copy's block is g, its names' map the next one -/
structure CLoop (w0 w wr : World) (bc : Nat) (β : Nat → Nat) (S : Pz.Fil) (V : Nat → Prop) (P : List Nat) (Q : Nat → Prop) (γ ν : Nat → Nat) (n : Nat) (left : Lit → Bool) (P' : List Nat) (γ' ν' : Nat → Nat) (E' : List Pz.En) (D' : DataW Unit) : Prop where
  cop : Copied w0 wr bc β S V P' (fun m => Q m ∨ m = n) γ' ν'
  agr : ∀ m ∈ P, m ∈ P' ∧ γ' m = γ m ∧ ν' m = ν m
  here : n ∈ P' ∧ γ' n = w.heap.size ∧ ν' n = w.heap.size + 1
  new : ∀ m ∈ P', m ∉ P → m ≠ n → w.heap.size + 2 ≤ γ' m ∧ (Pz.isDir S.N m = true → w.heap.size + 2 ≤ ν' m)
  len : P.length + 1 ≤ P'.length
  only : Only (fun k => k = bc) w wr
  nd : wr.heap[w.heap.size]? = some (.cells #[.string ⟨(Pz.nodeD S.N n).data.toArray⟩, .int .i64 (Pz.nodeD S.N n).links, .map (some (w.heap.size + 1))] 101 (0, 0))
  own : wr.ownsMap Tryz.prog 9 ptrE (w.heap.size + 1) E'.length D'
  map : MapE D' γ' E' n
  part : Pz.Part S.E n left E' P'
  sz : w.heap.size + 2 < wr.heap.size
theorem CLoop.fin {w0 w wr : World} {bc : Nat} {β : Nat → Nat} {S : Pz.Fil} {V : Nat → Prop} {P : List Nat} {Q : Nat → Prop} {γ ν : Nat → Nat} {n : Nat} {left : Lit → Bool} {P' : List Nat} {γ' ν' : Nat → Nat} {E' : List Pz.En} {D' : DataW Unit} (h : CLoop w0 w wr bc β S V P Q γ ν n left P' γ' ν' E' D') (hl : ∀ kl, left kl = false)
    (hO : S.E.Pairwise fun a b => ¬ (a.dir = b.dir ∧ a.name = b.name)) (hbc : bc < w.heap.size) (hD : Pz.isDir S.N n = true) (hC : Copied w0 w bc β S V P Q γ ν) : CopyYes w0 bc β S V P Q γ ν n w (.returned (.pointer (some ⟨w.heap.size, 0, none⟩))) wr := by
  have hlook := h.part.fin hl
  have hcnt := Pz.count_same hO h.part.once hlook
  have hall := Pz.count_all fun e he => (h.part.inP e he).1
  refine ⟨P', γ', ν', by rw [h.here.2.1], h.cop.done ?_ (fun _ => ⟨D', ?_, ?_, ?_⟩) (fun e he hed => ?_) (fun _ m hm hq hne hd => ?_), h.here.1, h.agr, fun m hm hno => ?_, by have := h.len; omega, h.only⟩
  · rw [h.here.2.1, h.here.2.2, if_pos hD]
    exact h.nd
  · rw [h.here.2.2, ← hcnt, hall]
    exact h.own
  · refine ⟨fun x zd => ?_, by rw [h.map.2, hcnt]⟩
    rw [h.map.1 x zd, hlook x]
  · rw [h.here.2.2]
    omega
  · have h1 := Pz.look_of_mem hO he
    rw [hed, ← hlook e.name] at h1
    exact (h.part.inP _ (Pz.look_entry h1)).2
  · rw [h.here.2.2]
    by_cases hP : m ∈ P
    · rw [(h.agr m hP).2.2]
      obtain ⟨D, o, _⟩ := hC.dirs m hP hq hd
      have := o.lt
      omega
    · have := (h.new m hm hP hne).2 hd
      omega
  · by_cases e : m = n
    · rw [e, h.here.2.1, h.here.2.2]
      exact ⟨Nat.le_refl _, fun _ => by omega⟩
    · have := h.new m hm hno e
      exact ⟨by omega, fun hd => by have := this.2 hd; omega⟩

set_option maxHeartbeats 8000000 in
set_option maxRecDepth 100000 in
theorem cnode_any {w0 : World} {S : Pz.Fil} {r bo : Nat} {β μ : Nat → Nat} {V : Nat → Prop} (h1 : Shape w0 r bo β μ S V) (hO : S.E.Pairwise fun a b => ¬ (a.dir = b.dir ∧ a.name = b.name)) (hED : ∀ e ∈ S.E, Pz.isDir S.N e.dir = true) (hE : S.E.length ≤ 1000000) (bc : Nat) :
    ∀ (k : Nat) (P : List Nat) (Q : Nat → Prop) (γ ν : Nat → Nat) (n : Nat) (w : World), S.N.length ≤ P.length + k → V n → (∀ m, Q m → m ∈ P) → Copied w0 w bc β S V P Q γ ν →
    Calls Tryz.prog 54 #[.map (some bc), .pointer (some ⟨β n, 0, none⟩)] w (CopyYes w0 bc β S V P Q γ ν n w) := by
  intro k
  induction k with
  | zero =>
    intro P Q γ ν n w hk hV hQ hC
    refine cnode_in h1 bc P Q γ ν n w hV hC (Decidable.byContradiction fun hn => ?_)
    have := nodup_len S.N.length (n :: P) (List.nodup_cons.2 ⟨hn, hC.nd⟩) (fun m hm => by
      rcases List.mem_cons.1 hm with rfl | hm
      · exact h1.vlt _ hV
      · exact h1.vlt _ (hC.mem m hm))
    simp at this
    omega
  | succ k ih =>
    intro P Q γ ν n w hk hV hQ hC
    by_cases hn : n ∈ P
    · exact cnode_in h1 bc P Q γ ν n w hV hC hn
    have n1 : pairQ P β γ (β n) = none := pairQ_out fun a ha e => hn (h1.bInj a n (hC.mem a ha) hV e ▸ ha)
    have q1 := plookC hC.mc (hC.keyP h1 hC.below) ((h1.keep hC.below).key hV)
    rw [n1] at q1
    simp only [ptrV, Option.map] at q1
    obtain ⟨c0, c1, c2⟩ := (h1.keep hC.below).nc hV
    have hs0 : w.drew.cell? ⟨β n, 0, none⟩ = some (.string ⟨(Pz.nodeD S.N n).data.toArray⟩) ∧ w.drew.cell? ⟨β n, 1, none⟩ = some (.int .i64 (Pz.nodeD S.N n).links) := ⟨c0, c1⟩
    have hs1 : ∀ x, (w.alloc x).drew.cell? ⟨β n, 0, none⟩ = some (.string ⟨(Pz.nodeD S.N n).data.toArray⟩) ∧ (w.alloc x).drew.cell? ⟨β n, 1, none⟩ = some (.int .i64 (Pz.nodeD S.N n).links) := fun x => by
      have hb : β n < w.heap.size := cell_lt c0
      have e := Below.heap_alloc w x (β n) hb
      exact ⟨(World.cell?_of_block (w := w) (w' := (w.alloc x).drew) (a := ⟨β n, 0, none⟩) e).trans c0, (World.cell?_of_block (w := w) (w' := (w.alloc x).drew) (a := ⟨β n, 1, none⟩) e).trans c1⟩
    have Hs1 := Lib.hid hs1
    have HC := Lib.hid hC
    have Hs0 := Lib.hid hs0
    have Ih := Lib.hid ih
    have Hk := Lib.hid hk
    have HQ := Lib.hid hQ
    clear c0 c1 c2 hs0 hs1 ih hk hQ hC
    go_enter Tryz.func54, Tryz.ntmps54
    go_upto_region 4 with fail
    go_cut [6] from 15 to 24 (fun s6 wx => s6 = .pointer (some ⟨w.heap.size, 0, none⟩) ∧ Hid (wx.heap[w.heap.size]? = some (.cells #[.string ⟨(Pz.nodeD S.N n).data.toArray⟩, .int .i64 (Pz.nodeD S.N n).links, .map none] 101 (0, 0)) ∧ Below w.heap.size w wx ∧ wx.heap.size = w.heap.size + 1))
    case first =>
      have hs0 := Hs0.out
      have hs1 := Hs1.out
      go_region_held3 (fun w' => w'.cell? ⟨β n, 0, none⟩ = some (.string ⟨(Pz.nodeD S.N n).data.toArray⟩) ∧ w'.cell? ⟨β n, 1, none⟩ = some (.int .i64 (Pz.nodeD S.N n).links)) (first | exact hs0 | exact hs1 _ | go_keep) (first | fail)
      simp only [Exit.then]
      go_wp2_with fail
      go_meet
      exact ⟨rfl, Lib.hid ⟨heap_alloc_new _ _, ((Below.refl _ _).alloc (Nat.le_refl _) _).drew, by show (w.alloc _).heap.size = _; simp⟩⟩
    case rest =>
    obtain ⟨wy, rfl⟩ : ∃ v, v = wc := ⟨_, rfl⟩
    obtain ⟨rfl, HY⟩ := hcut
    obtain ⟨hg, hb, hs⟩ := HY.out
    have hCy := HC.out.keep hb
    have hbc := HC.out.mc.lt
    obtain ⟨w2, rU, mU, gU, sU⟩ := pstoreC (v := w.heap.size) hCy.mc (hCy.keyP h1 hCy.below) ((h1.keep hCy.below).key hV) n1
    have hB2 : Below w0.heap.size w0 w2 := hCy.below.grown gU hCy.below.size (fun j hj => by cases hj; exact HC.out.lc)
    have HC1 := Lib.hid (HC.out.add (w' := w2) (g := w.heap.size) (q := w2.heap.size) hn hV mU hB2 (by omega) (fun j hj hne => (gU.block j (by omega) (fun e => hne (by cases e; rfl))).trans (hb.block j hj)) ⟨Nat.le_refl _, by omega⟩)
    have HO2 : Hid (Only (fun k => k = bc) w w2) := Lib.hid ((below_only hb _).trans (grown_only gU fun k e => by cases e; rfl) fun _ _ e => e)
    have Hg2 : Hid (w2.heap[w.heap.size]? = some (.cells #[.string ⟨(Pz.nodeD S.N n).data.toArray⟩, .int .i64 (Pz.nodeD S.N n).links, .map none] 101 (0, 0))) := Lib.hid ((gU.block _ (by omega) (fun e => by cases e; omega)).trans hg)
    obtain ⟨c0, c1, c2⟩ := (h1.keep hB2).nc hV
    have Hsz : Hid (w2.heap.size = w.heap.size + 1 ∧ bc < w.heap.size ∧ w0.heap.size ≤ w.heap.size) := Lib.hid ⟨by omega, hbc, HC.out.below.size⟩
    have HB2 := Lib.hid hB2
    have Hn := Lib.hid hn
    have hug : upd γ n w.heap.size n = w.heap.size := if_pos rfl
    have Hug := Lib.hid hug
    have Huν : Hid (upd ν n w2.heap.size n = w2.heap.size) := Lib.hid (if_pos rfl)
    have Hagr : Hid (∀ m ∈ P, upd γ n w.heap.size m = γ m ∧ upd ν n w2.heap.size m = ν m) := Lib.hid fun m hm => ⟨if_neg fun (e : m = n) => hn (e ▸ hm), if_neg fun (e : m = n) => hn (e ▸ hm)⟩
    clear hCy hbc mU gU sU hB2 hn hug HY hg hb hs c0 c1 n1 q1
    go_upto_region 6 with fail
    clear rU
    cases hD : Pz.isDir S.N n with
    | false =>
      rw [hD] at c2
      simp only [if_neg (show ¬ false = true by decide)] at c2
      have hfin : CopyYes w0 bc β S V P Q γ ν n w (.returned (.pointer (some ⟨w.heap.size, 0, none⟩))) w2 := by
        refine ⟨n :: P, _, _, by rw [Hug.out], HC1.out.done ?_ ?_ ?_ (fun h => by rw [hD] at h; cases h), List.mem_cons_self .., fun m hm => ⟨List.mem_cons_of_mem _ hm, Hagr.out m hm⟩, fun m hm hno => ?_, by simp, HO2.out⟩
        · rw [Hug.out, hD]
          exact Hg2.out
        · intro h
          rw [hD] at h
          cases h
        · intro e he hed
          have := hED e he
          rw [hed, hD] at this
          cases this
        · rcases List.mem_cons.1 hm with rfl | hm
          · rw [Hug.out, Huν.out]
            exact ⟨Nat.le_refl _, fun _ => by have := Hsz.out; omega⟩
          · exact absurd hm hno
      have HFin := Lib.hid hfin
      clear hfin
      go_wp2_with fail
      refine (dir_q (β n) none w2 c2).mono ?_
      rintro e w' ⟨rfl, rfl⟩
      clear c2
      go_wp2
      go_ret
      exact HFin.out
    | true =>
      rw [hD] at c2
      simp only [if_true] at c2
      have hmm := @run_makeMap Tryz.prog
      have hgm : (w2.alloc (.map #[] 0)).heap[w.heap.size]? = some (.cells #[.string ⟨(Pz.nodeD S.N n).data.toArray⟩, .int .i64 (Pz.nodeD S.N n).links, .map none] 101 (0, 0)) := by
        rw [Below.heap_alloc _ _ _ (by have := Hsz.out; omega)]
        exact Hg2.out
      have f2 := cell_of_row (w2.alloc (.map #[] 0)) w.heap.size 2 _ _ _ hgm
      have fz := frozen_of_row (w2.alloc (.map #[] 0)) w.heap.size 2 _ _ hgm
      go_wp2_with fail
      refine (dir_q (β n) (some (μ n)) w2 c2).mono ?_
      rintro e w' ⟨rfl, rfl⟩
      go_upto_region 8 with fail
      have Hgm := Lib.hid hgm
      clear f2 fz hmm hgm
      obtain ⟨D1, own1, me1⟩ := (h1.keep HB2.out).dirs n hV hD
      obtain ⟨w3, hw3⟩ : ∃ v, v = (w2.alloc (.map #[] 0)).setCell ⟨w.heap.size, 2, none⟩ (.map (some w2.heap.size)) := ⟨_, rfl⟩
      have hsz3 : w3.heap.size = w.heap.size + 2 := by
        have := Hsz.out
        rw [hw3]
        simp [World.setCell]
        omega
      have bl3 : ∀ j, j < w2.heap.size → j ≠ w.heap.size → w3.heap[j]? = w2.heap[j]? := fun j hj hne => by
        rw [hw3, Below.heap_setCell _ _ _ _ hne, Below.heap_alloc _ _ _ hj]
      have hg3 : w3.heap[w.heap.size]? = some (.cells #[.string ⟨(Pz.nodeD S.N n).data.toArray⟩, .int .i64 (Pz.nodeD S.N n).links, .map (some (w.heap.size + 1))] 101 (0, 0)) := by
        rw [hw3, heap_setCell_same _ _ 2 _ _ _ Hgm.out, show w2.heap.size = w.heap.size + 1 from Hsz.out.1]
        rfl
      have ho3 : w3.ownsMap Tryz.prog 9 ptrE (w.heap.size + 1) 0 (.map []) := by
        have := World.ownsMap_made (H := Unit) w2 Tryz.prog 9 ptrE
        rw [show w2.heap.size = w.heap.size + 1 from Hsz.out.1] at this
        refine map_keep this ?_
        rw [hw3, Below.heap_setCell _ _ _ _ (by show w.heap.size + 1 ≠ w.heap.size; omega)]
      have hO3 : Only (fun k => k = w.heap.size) w2 w3 := by
        have hb : Below w2.heap.size w2 (w2.alloc (.map #[] 0)) := (Below.refl _ _).alloc (Nat.le_refl _) _
        rw [hw3]
        exact (below_only hb _).trans (only_setCell _ ⟨w.heap.size, 2, none⟩ _ (F := fun k => k = w.heap.size) rfl) fun _ _ e => e
      have hB3 : Below w0.heap.size w0 w3 := ⟨hO3.os.trans HB2.out.os, hO3.tape.trans HB2.out.tape, hO3.output.trans HB2.out.output, Nat.le_trans HB2.out.size hO3.size, fun j hj => (bl3 j (Nat.lt_of_lt_of_le hj HB2.out.size) (by have := Hsz.out; omega)).trans (HB2.out.block j hj)⟩
      have hC3 : Copied w0 w3 bc β S V (n :: P) (fun m => Q m ∨ m = n) (upd γ n w.heap.size) (upd ν n w2.heap.size) := by
        refine HC1.out.only (bl3 _ (by have := Hsz.out; omega) (by have := Hsz.out; omega)) hB3 hO3.size fun m hm hq => ⟨bl3 _ (HC1.out.own m hm).2.1 (fun e => ?_), fun hd => ?_⟩
        · have hmn : m ≠ n := fun e => hq (Or.inr e)
          exact hmn (HC1.out.inj m hm n (List.mem_cons_self ..) (e.trans Hug.out.symm))
        · obtain ⟨D, o, _⟩ := HC1.out.dirs m hm hq hd
          refine bl3 _ o.lt fun e => ?_
          obtain ⟨es, ck, hh, _⟩ := o
          rw [e, Hg2.out] at hh
          cases hh
      have hOw : Only (fun k => k = bc) w w3 := HO2.out.trans hO3 (fun j hj e => by omega)
      obtain ⟨cap, hcap⟩ : ∃ cap, cap = Pz.count S.E n := ⟨_, rfl⟩
      have hmu : μ n < w0.heap.size := by
        obtain ⟨D, o, _⟩ := h1.dirs n hV hD
        exact o.lt
      have ho1 := map_keep own1 (bl3 (μ n) own1.lt (by have := Hsz.out; omega))
      rw [← hcap] at ho1
      have c2' := (h1.keep hB3).nc hV
      rw [hD, if_pos rfl] at c2'
      have e2 := c2'.2.2
      have HI0 : ∀ wq, Below w3.heap.size w3 wq → w3.heap.size < wq.heap.size → CLoop w0 w wq bc β S V P Q γ ν n (Maps.has D1) (n :: P) (upd γ n w.heap.size) (upd ν n w2.heap.size) [] (.map []) := fun wq hbq hlt => {
        cop := hC3.keep hbq
        agr := fun m hm => ⟨List.mem_cons_of_mem _ hm, Hagr.out m hm⟩
        here := ⟨List.mem_cons_self .., Hug.out, Huν.out.trans Hsz.out.1⟩
        new := fun m hm hno hne => absurd ((List.mem_cons.1 hm).resolve_left hne) hno
        len := (by simp)
        only := hOw.trans (below_only hbq _) fun _ _ e => e
        nd := (hbq.block _ (lt_of_get hg3)).trans hg3
        own := map_keep ho3 (hbq.block _ ho3.lt)
        map := ⟨fun x zd => by rw [Pz.look, if_pos (by omega)]; rfl, rfl⟩
        part := {
          sub := fun x hx => by rw [Pz.look] at hx; omega
          all := fun x hx hE => by
            have := (me1.has x).2 hE
            rw [hx] at this
            cases this
          fresh := fun x _ => by rw [Pz.look]; omega
          once := List.Pairwise.nil
          inP := fun e he => by cases he }
        sz := by omega }
      have HI0 := Lib.hid HI0
      have HW3 := Lib.hid hw3
      have Hw3s := Lib.hid hsz3
      have Ho1 := Lib.hid ho1
      have Hm1 := Lib.hid me1
      have Hmu := Lib.hid hmu
      have Hsd : Hid (Maps.size D1 ≤ cap) := Lib.hid (by rw [me1.2, hcap]; exact Nat.le_refl _)
      have Hcap : Hid (cap ≤ 1000000) := Lib.hid (by
        rw [hcap]
        exact Nat.le_trans (List.length_filter_le _ _) hE)
      clear own1 me1 bl3 hg3 ho3 hO3 hB3 hC3 hOw ho1 c2' hmu hw3 hsz3 hcap c2
      rw [← HW3.out]
      go_wp2_with (at_range; refine wpList_range_own _ rfl _ 99 rfl 9 61 Tryz.strLaw Tryz.underlying99 _ _ _ D1 rfl Ho1.out ?_; intro wq hrg0 hg0 hs0)
      go_frame
      go_loopw [] (fun wr => ∃ (left : Lit → Bool) (cnt : Nat) (P' : List Nat) (γ' ν' : Nat → Nat) (E' : List Pz.En) (D' : DataW Unit), wr.ranges Tryz.prog 9 ptrE (μ n) w3.heap.size cap D1 left cnt ∧ E'.length + cnt ≤ cap ∧ Hid (CLoop w0 w wr bc β S V P Q γ ν n left P' γ' ν' E' D')) (fun wr => wr.rangeLeft (μ n) w3.heap.size)
      case atStart =>
        have hb := (Below.refl w3.heap.size w3).grown hg0 (Nat.le_refl _) (fun j hj => by cases hj)
        exact ⟨_, _, _, _, _, _, _, hrg0, by have := Hsd.out; simpa using this, Lib.hid (HI0.out wq hb (by omega))⟩
      case round =>
        obtain ⟨left, cnt, P', γ', ν', E', D', hrg, hfew, HR⟩ := hrel
        go_wp2_with (at_next; refine wpList_next_ranges _ rfl _ rfl 9 Tryz.strLaw ptrE encStr ptrOf (fun key kl hk => by obtain ⟨x, hx, _⟩ := Maps.keyOf_str Tryz.underlying9 hk; exact ⟨x, hx⟩) (fun v y hv => ptrE_shape hv) (μ n) w3.heap.size cap _ _ _ rfl hrg ?_ ?_)
        · intro hc0 hl0
          have HFin := Lib.hid (HR.out.fin hl0 hO Hsz.out.2.1 hD HC.out)
          clear hrg hc0 hl0 e2
          go_wp2
          go_ret
          exact HFin.out
        · intro x c kl yd yp w4 cnt2 hkey hlk hv hat hrg2 hlt hg2 hs2 hen
          obtain ⟨x', ex, rfl, _⟩ := Maps.keyOf_str Tryz.underlying9 hkey
          obtain rfl : x = x' := encStr_inj ex
          obtain ⟨m, hm, rfl⟩ := entry_of_range (y := (yd, yp)) Hm1.out hv hat
          have hent := Pz.look_entry hm
          have hVm : V m := h1.ve _ hent hV
          have z3 := Hw3s.out
          obtain ⟨zs1, zs2, zs3⟩ := Hsz.out
          have hI := HR.out
          obtain ⟨_, _, _, _, _, _, _, _, _, hit, _⟩ := id hrg
          rw [z3] at hit
          have bl : ∀ j, j < wr.heap.size → j ≠ w.heap.size + 2 → w4.heap[j]? = wr.heap[j]? := fun j hj hne => hg2.block j hj (fun e => hne (by cases e; exact z3))
          have hB4 : Below w0.heap.size w0 w4 := hI.cop.below.grown hg2 hI.cop.below.size (fun j hj => by cases hj; omega)
          have hisz := hI.sz
          have hC4 : Copied w0 w4 bc β S V P' (fun m => Q m ∨ m = n) γ' ν' := by
            refine hI.cop.only (bl _ (by omega) (by omega)) hB4 hg2.size fun m' hm' hq => ⟨bl _ (hI.cop.own m' hm').2.1 (fun e => ?_), fun hd => ?_⟩
            · have hh := hI.cop.node m' hm' hq
              rw [e, hit] at hh
              cases hh
            · obtain ⟨D, o, _⟩ := hI.cop.dirs m' hm' hq hd
              refine bl _ o.lt fun e => ?_
              obtain ⟨es, ck, hh, _⟩ := o
              rw [e, hit] at hh
              cases hh
          have hd4 : Below w4.heap.size w4 w4.drew := (Below.refl _ w4).drew
          have hC4d := hC4.keep hd4
          have hg4 : w4.drew.heap[w.heap.size]? = some (.cells #[.string ⟨(Pz.nodeD S.N n).data.toArray⟩, .int .i64 (Pz.nodeD S.N n).links, .map (some (w.heap.size + 1))] 101 (0, 0)) := (bl _ (by omega) (by omega)).trans hI.nd
          have ho4 : w4.drew.ownsMap Tryz.prog 9 ptrE (w.heap.size + 1) E'.length D' := map_keep hI.own (bl _ (by omega) (by omega))
          have hO4 : Only (fun k => k = bc) w w4.drew := (hI.only.trans (grown_only hg2 (F := fun j => j = w3.heap.size) fun j e => by cases e; rfl) (fun j hj e => by omega)).trans (below_only hd4 _) fun _ _ e => e
          have hs0 := cell_of_row w4.drew w.heap.size 2 _ _ _ hg4
          have hQ1 : ∀ m, Q m ∨ m = n → m ∈ P' := fun m hm => hm.elim (fun e => (hI.agr m (HQ.out m e)).1) fun e => e ▸ hI.here.1
          have HIh := Lib.hid (Ih.out P' (fun m => Q m ∨ m = n) γ' ν' m w4.drew (by have := Hk.out; have := hI.len; omega) hVm hQ1 hC4d)
          have HC4 := Lib.hid hC4d
          have HI := Lib.hid hI
          have Hg4 := Lib.hid hg4
          have Ho4 := Lib.hid ho4
          have HO4 := Lib.hid hO4
          have Hrg2 := Lib.hid hrg2
          have Hlt := Lib.hid hlt
          have Hkey := Lib.hid hkey
          have Hlk := Lib.hid hlk
          have Hm := Lib.hid hm
          have H4s : Hid (w4.drew.heap.size = wr.heap.size ∧ w.heap.size + 2 < wr.heap.size ∧ E'.length < maxLen ∧ E'.length + 1 + cnt2 ≤ cap) := Lib.hid ⟨hs2, hisz, by have := Hcap.out; unfold maxLen; omega, by omega⟩
          have Htid := Lib.hid (ho4.tidy Tryz.strLaw)
          clear hv hat hrg2 hlt hg2 hs2 hkey hlk hm hent hVm z3 zs1 zs2 zs3 hI hit bl hB4 hisz hC4 hd4 hC4d hg4 ho4 hO4 hQ1 hfew
          simp only [ptrOf] at hen ⊢
          go_upto_region 11 with fail
          go_region_held3 (fun w' => w'.cell? ⟨w.heap.size, 2, none⟩ = some (.map (some (w.heap.size + 1)))) (first | exact hs0 | exact hs5 | exact hs6 | go_keep) (first | (go_at_call 54; refine HIh.out.mono ?_; rintro e w5 ⟨P5, γ5, ν5, rfl, hC5, hm5, hag5, hnew5, hlen5, hO5⟩; have ho5 := map_keep Ho4.out (hO5.block _ Ho4.out.lt (fun e => by have e : w.heap.size + 1 = bc := e; have := Hsz.out; omega)); have hg5 := (hO5.block _ (lt_of_get Hg4.out) (fun e => by have e : w.heap.size = bc := e; have := Hsz.out; omega)).trans Hg4.out; obtain ⟨w6, hrun6, hown6, hturn6⟩ := ho5.store Tryz.strLaw Tryz.underlying99 H4s.out.2.2.1 (val := .pointer (some ⟨γ5 m, 0, none⟩)) Hkey.out rfl; have hg6 := (hturn6.grown.block _ (lt_of_get hg5) (fun e => by have e2 := Option.some.inj e; omega)).trans hg5; have hs5 := cell_of_row w5 w.heap.size 2 _ _ _ hg5; have hs6 := cell_of_row w6 w.heap.size 2 _ _ _ hg6; have HC5 := Lib.hid hC5; have Hag5 := Lib.hid (And.intro hm5 (And.intro hag5 (And.intro hnew5 (And.intro hlen5 hO5)))); have Ho5 := Lib.hid ho5; have Hown6 := Lib.hid hown6; have Hturn6 := Lib.hid hturn6; have Hg6 := Lib.hid hg6; clear hC5 hm5 hag5 hnew5 hlen5 hO5 ho5 hown6 hturn6 hg5 hg6))
          have hq6 : ∀ j, j < w5.heap.size → j ≠ w.heap.size + 1 → w6.heap[j]? = w5.heap[j]? := fun j hj hne => Hturn6.out.grown.block j hj (fun e => hne (Option.some.inj e))
          have hzz : w5.heap.size ≤ w6.heap.size ∧ w4.drew.heap.size ≤ w5.heap.size ∧ w0.heap.size ≤ bc := ⟨Hturn6.out.grown.size, Hag5.out.2.2.2.2.size, HC.out.lc⟩
          have hfin : CLoop w0 w w6 bc β S V P Q γ ν n (fun z => left z && !z.sameKey (.string x)) P5 γ5 ν5 (E' ++ [⟨n, x, m⟩]) (D'.put (.string x) (.lit (.int .i64 (γ5 m)))) := by
            have hI := HI.out
            have hC5 := HC5.out
            obtain ⟨hm5, hag5, hnew5, hlen5, hO5⟩ := Hag5.out
            obtain ⟨zs1, zs2, zs3⟩ := Hsz.out
            obtain ⟨t1, t2, _⟩ := H4s.out
            have hqlt : w.heap.size + 1 < w5.heap.size := Ho5.out.lt
            have hB6 : Below w0.heap.size w0 w6 := hC5.below.grown Hturn6.out.grown hC5.below.size (fun j hj => by
              have := Option.some.inj hj
              omega)
            obtain ⟨es, ck, hmq, _⟩ := id Ho5.out
            have hnotq : ∀ m' ∈ P5, ¬ (Q m' ∨ m' = n) → γ5 m' ≠ w.heap.size + 1 := fun m' hm' hq e => by
              have hh := hC5.node m' hm' hq
              rw [e, hmq] at hh
              cases hh
            have hnotv : ∀ m' ∈ P5, ¬ (Q m' ∨ m' = n) → Pz.isDir S.N m' = true → ν5 m' ≠ w.heap.size + 1 := fun m' hm' hq hd e => by
              have hmn : m' ≠ n := fun e => hq (Or.inr e)
              by_cases hP' : m' ∈ P'
              · have e1 := (hag5 m' hP').2.2
                by_cases hP : m' ∈ P
                · have e2 := (hI.agr m' hP).2.2
                  obtain ⟨D, o, _⟩ := HC.out.dirs m' hP (fun h => hq (Or.inl h)) hd
                  have := o.lt
                  omega
                · have := (hI.new m' hP' hP hmn).2 hd
                  omega
              · have := (hnew5 m' hm' hP').2 hd
                omega
            have hC6 : Copied w0 w6 bc β S V P5 (fun m => Q m ∨ m = n) γ5 ν5 :=
              hC5.only (hq6 _ hC5.mc.lt (by omega)) hB6 hzz.1 fun m' hm' hq => ⟨hq6 _ (hC5.own m' hm').2.1 (hnotq m' hm' hq), fun hd => by
                obtain ⟨D, o, _⟩ := hC5.dirs m' hm' hq hd
                exact hq6 _ o.lt (hnotv m' hm' hq hd)⟩
            exact {
              cop := hC6
              agr := fun m' hm' => ⟨(hag5 m' (hI.agr m' hm').1).1, (hag5 m' (hI.agr m' hm').1).2.1.trans (hI.agr m' hm').2.1, (hag5 m' (hI.agr m' hm').1).2.2.trans (hI.agr m' hm').2.2⟩
              here := ⟨(hag5 n hI.here.1).1, (hag5 n hI.here.1).2.1.trans hI.here.2.1, (hag5 n hI.here.1).2.2.trans hI.here.2.2⟩
              new := fun m' hm' hno hne => by
                by_cases hP' : m' ∈ P'
                · rw [(hag5 m' hP').2.1, (hag5 m' hP').2.2]
                  exact hI.new m' hP' hno hne
                · have := hnew5 m' hm' hP'
                  exact ⟨by omega, fun hd => by have := this.2 hd; omega⟩
              len := (Nat.le_trans hI.len hlen5)
              only := ((HO4.out.trans hO5 fun _ _ e => e).trans (grown_only Hturn6.out.grown (F := fun j => j = w.heap.size + 1) fun j e => (Option.some.inj e).symm) (fun j hj e => by omega))
              nd := Hg6.out
              own := (by rw [List.length_append]; exact Hown6.out)
              map := (by
                have hc : MapE D' γ5 E' n := hI.map.congr fun e he hed => (hag5 _ (hI.part.inP e he).2).2.1
                have := hc.over (x := x) (m := m) Htid.out hI.part.once
                rw [Pz.take_self (hI.part.fresh x Hlk.out)] at this
                exact this)
              part := (hI.part.step Hlk.out Hm.out (fun a ha => (hag5 a ha).1) hm5)
              sz := (by omega) }
          have HFin := Lib.hid hfin
          have hrg6 := ranges_keep (w' := w6) Hrg2.out ((hq6 _ (by have := Hmu.out; have := Hsz.out; have := H4s.out; omega) (by have := Hmu.out; have := Hsz.out; omega)).trans (Hag5.out.2.2.2.2.block _ (by have := Hmu.out; have := Hsz.out; have := H4s.out; omega) (fun e => by have e : μ n = bc := e; have := Hmu.out; omega))) ((hq6 _ (by have := Hw3s.out; have := H4s.out; omega) (by have := Hw3s.out; omega)).trans (Hag5.out.2.2.2.2.block _ (by have := Hw3s.out; have := H4s.out; omega) (fun e => by have e : w3.heap.size = bc := e; have := Hw3s.out; have := Hsz.out; omega)))
          have Hfew : Hid ((E' ++ [(⟨n, x, m⟩ : Pz.En)]).length + cnt2 ≤ cap) := Lib.hid (by rw [List.length_append]; exact H4s.out.2.2.2)
          clear hfin hq6 hzz hs0 hs5 hs6 hrun6 hen
          try simp only [Exit.then]
          go_wp2
          go_roundw
          case rel => exact ⟨_, cnt2, P5, γ5, ν5, _, _, hrg6, Hfew.out, HFin⟩
          case measure => rw [hrg6.left_eq, hrg.left_eq]; exact Hlt.out

end Go.Proofs.YtiepdioaidglmaaGreatDoor
