/- Walks: metadata over a transaction: parts that are loaded and stored. -/
import Derived.Test.YtccpdkjonepoiaaGreatDoorW10
import Derived.Test.YtccpdkjonepoiaaGreatDoorW00
set_option linter.unusedVariables false
set_option linter.unusedSimpArgs false
set_option linter.unusedSectionVars false
namespace Go.Proofs.YtccpdkjonepoiaaGreatDoor
open Go.RowKit

attribute [local go_sem] Oper.semAt_some

/-- a metadata at x within a transaction at t: over the bytes S, with the changes P (at most c) -/
def Fx (x : Nat) (F : Nat → Prop) (k : Nat) : Prop := F k ∧ k ≠ x
structure MetaF [MemNo] (x t : Nat) (S : List UInt8) (P : List Gd.Pa) (c K : Nat) (w : World) (F : Nat → Prop) : Prop where
  txn : TxnF t S P K w (Fx x F)
  obj : w.heap[x]? = some (.cells #[.pointer (some ⟨t, 0, none⟩)] 163 (0, 0))
  inF : F x
  len : S.length = 23168
  log : Gd.part S 2688 8 = Gd.le 0 8
  light : PaLight P c
  tight : ∀ k, F k → k < w.heap.size
theorem MetaF.keep [MemNo] {x t c K : Nat} {S : List UInt8} {P : List Gd.Pa} {w w' : World} {F : Nat → Prop} (h : MetaF x t S P c K w F) (hs : w.heap.size ≤ w'.heap.size) (hb : ∀ k, k < w.heap.size → F k → w'.heap[k]? = w.heap[k]?) : MetaF x t S P c K w' F :=
  ⟨(TxnF.held t S P K).keep h.txn hs (fun k hk hF => hb k hk hF.1), (hb x (lt_get h.obj) h.inF).trans h.obj, h.inF, h.len, h.log, h.light, fun k hk => Nat.lt_of_lt_of_le (h.tight k hk) hs⟩
theorem MetaF.below [MemNo] {x t c K : Nat} {S : List UInt8} {P : List Gd.Pa} {w w' : World} {F : Nat → Prop} (h : MetaF x t S P c K w F) (hb : Below w.heap.size w w') : MetaF x t S P c K w' F := h.keep hb.size fun k hk _ => hb.block k hk
/-- what a call that changes leaves: the same but for blocks of F, and new ones -/
structure Step (I : World → (Nat → Prop) → Prop) (F : Nat → Prop) (w : World) (F' : Nat → Prop) (w' : World) : Prop where
  inv : I w' F'
  old : ∀ k, k < w.heap.size → F' k → F k
  only : Only F w w'
theorem Step.trans {I J : World → (Nat → Prop) → Prop} {F G H : Nat → Prop} {a b c : World} (h : Step I F a G b) (k : Step J G b H c) : Step J F a H c :=
  ⟨k.inv, fun j hj hH => h.old j hj (k.old j (Nat.lt_of_lt_of_le hj h.only.size) hH), h.only.trans k.only fun j hj hG => h.old j hj hG⟩
/-- a call behind some that only read, or made -/
theorem Step.behind {I : World → (Nat → Prop) → Prop} {F G : Nat → Prop} {a b c : World} (hb : Below a.heap.size a b) (h : Step I F b G c) : Step I F a G c :=
  ⟨h.inv, fun j hj hG => h.old j (Nat.lt_of_lt_of_le hj hb.size) hG, (below_only hb F).trans h.only fun _ _ e => e⟩
theorem Step.ahead [MemNo] {x t c K : Nat} {S : List UInt8} {P : List Gd.Pa} {F G : Nat → Prop} {a b d : World} (h : Step (MetaF x t S P c K) F a G b) (hb : Below b.heap.size b d) : Step (MetaF x t S P c K) F a G d :=
  ⟨h.inv.below hb, h.old, h.only.trans (below_only hb G) fun j hj e => h.old j hj e⟩
theorem Step.refl {I : World → (Nat → Prop) → Prop} {F : Nat → Prop} {w : World} (h : I w F) : Step I F w F w := ⟨h, fun _ _ e => e, Only.refl _ _⟩
/-- an own block lies as it lay -/
theorem Step.own {I : World → (Nat → Prop) → Prop} {F G : Nat → Prop} {a b : World} (h : Step I F a G b) {k : Nat} (hk : k < a.heap.size) (hF : ¬ F k) : b.heap[k]? = a.heap[k]? ∧ ¬ G k :=
  ⟨h.only.block k hk hF, fun e => hF (h.old k hk e)⟩
theorem MetaF.more [MemNo] {x t c d K L : Nat} {S : List UInt8} {P : List Gd.Pa} {w : World} {F : Nat → Prop} (h : MetaF x t S P c K w F) (hc : c ≤ d) (hK : K ≤ L) : MetaF x t S P d L w F := by
  obtain ⟨m, g, pv, ⟨sb, lb, ab, n, hM, hr⟩, hrest⟩ := h.txn
  exact ⟨⟨m, g, pv, ⟨sb, lb, ab, n, hM.more hK, hr⟩, hrest⟩, h.obj, h.inF, h.len, h.log, ⟨Nat.le_trans h.light.many hc, h.light.len⟩, h.tight⟩
theorem MetaF.view_len [MemNo] {x t c K : Nat} {S : List UInt8} {P : List Gd.Pa} {w : World} {F : Nat → Prop} (h : MetaF x t S P c K w F) : (Gd.view S P).length = 23168 := by
  obtain ⟨m, g, pv, _, _, _, _, _, _, hP, _⟩ := h.txn
  rw [Gd.view_length hP.fit]
  exact h.len
theorem ptV_cells (p : Gd.Pt) (w : World) : (w.alloc (.cells (ptC p) 139)).cell? ⟨w.heap.size, 2, none⟩ = some (.int .i64 p.a) ∧ (w.alloc (.cells (ptC p) 139)).cell? ⟨w.heap.size, 3, none⟩ = some (.int .i64 p.s) :=
  ⟨cell_of_row _ _ 2 _ _ _ (heap_alloc_new w _), cell_of_row _ _ 3 _ _ _ (heap_alloc_new w _)⟩
theorem ptAt_in {k m : Int} {p : Gd.Pt} (h : Gd.ptAt k m = some p) : p.a + p.s ≤ 23168 ∧ p.s ≤ 4096 := by
  rw [← Gd.findP_at] at h
  have hm := List.mem_of_find?_eq_some h
  have : ∀ p ∈ Gd.partsL, p.a + p.s ≤ 23168 ∧ p.s ≤ 4096 := by decide +kernel
  exact this p hm

set_option maxHeartbeats 8000000 in
set_option maxRecDepth 100000 in
theorem load_none [MemNo] {x t c K : Nat} {S : List UInt8} {P : List Gd.Pa} {F : Nat → Prop} (k m : Int) (w : World) (h : MetaF x t S P c K w F) (hp : Gd.ptAt k m = none) :
    Calls Tryz.prog 52 #[.pointer (some ⟨x, 0, none⟩), .int .i64 k, .int .i64 m] w fun e w' => e = .returned (.tuple #[.slice none 0 0, .bool false]) ∧ Below w.heap.size w w' := by
  have HF := Lib.hid (find_any5 k m w)
  rw [hp] at HF
  clear h hp
  go_enter Tryz.func52, Tryz.ntmps52
  go_wp2_with fail
  refine HF.out.mono ?_
  rintro e w1 ⟨rfl, hb1⟩
  have HB1 := Lib.hid hb1
  clear hb1 HF
  unfold ptO
  go_wp2
  go_ret2
  exact ⟨rfl, HB1.out.alloc HB1.out.size _⟩

set_option maxHeartbeats 8000000 in
set_option maxRecDepth 100000 in
theorem load_some [MemNo] {x t c K : Nat} {S : List UInt8} {P : List Gd.Pa} {F : Nat → Prop} (k m : Int) (p : Gd.Pt) (w : World) (h : MetaF x t S P c K w F) (hp : Gd.ptAt k m = some p) :
    Calls Tryz.prog 52 #[.pointer (some ⟨x, 0, none⟩), .int .i64 k, .int .i64 m] w fun e w' => ∃ v, e = .returned (.tuple #[v, .bool true]) ∧ OwnB w' w.heap.size v (Gd.part (Gd.view S P) p.a p.s) ∧ Below w.heap.size w w' := by
  have HF := Lib.hid (find_any5 k m w)
  rw [hp] at HF
  have hpi := ptAt_in hp
  have H := Lib.hid h
  clear h hp
  go_enter Tryz.func52, Tryz.ntmps52
  go_wp2_with fail
  refine HF.out.mono ?_
  rintro e w1 ⟨rfl, hb1⟩
  unfold ptO ptV
  have hn := heap_alloc_new w1 (.cells (ptC p) 139)
  have hba := (Below.refl w1.heap.size w1).alloc (Nat.le_refl _) (.cells (ptC p) 139)
  obtain ⟨w2, hw2⟩ : ∃ u, u = w1.alloc (.cells (ptC p) 139) := ⟨_, rfl⟩
  rw [← hw2] at hn hba
  have hb2 : Below w.heap.size w w2 := hb1.trans (hba.mono hb1.size)
  obtain ⟨pb, hpb⟩ : ∃ pb, pb = w1.heap.size := ⟨_, rfl⟩
  rw [← hpb] at hn
  have hdr : Below w.heap.size w w2.drew := hb2.drew
  have H2 := H.out.below hdr
  have hx : w2.drew.heap[x]? = _ := H2.obj
  have hnd : w2.drew.heap[pb]? = some (.cells (ptC p) 139 (0, 0)) := hn
  have hs0 : w2.drew.cell? ⟨x, 0, none⟩ = some (.pointer (some ⟨t, 0, none⟩)) ∧ w2.drew.cell? ⟨pb, 2, none⟩ = some (.int .i64 p.a) ∧ w2.drew.cell? ⟨pb, 3, none⟩ = some (.int .i64 p.s) := ⟨cell_of_row _ x 0 _ _ _ hx, cell_of_row _ pb 2 _ _ _ hnd, cell_of_row _ pb 3 _ _ _ hnd⟩
  have HLd := Lib.hid (tload_any p.a p.s w2.drew H2.txn (by have := H2.len; omega) (by have := H2.len; omega) (by omega))
  have HTr : Hid (∀ W, Below w2.drew.heap.size w2.drew W → W.cell? ⟨x, 0, none⟩ = some (.pointer (some ⟨t, 0, none⟩)) ∧ W.cell? ⟨pb, 2, none⟩ = some (.int .i64 p.a) ∧ W.cell? ⟨pb, 3, none⟩ = some (.int .i64 p.s)) := Lib.hid fun W hW => ⟨(hW.cell (p := ⟨x, 0, none⟩) (lt_get hx)).trans hs0.1, (hW.cell (p := ⟨pb, 2, none⟩) (lt_get hnd)).trans hs0.2.1, (hW.cell (p := ⟨pb, 3, none⟩) (lt_get hnd)).trans hs0.2.2⟩
  have HD := Lib.hid hdr
  have Hpb := Lib.hid hpb.symm
  have Hw2 := Lib.hid hw2.symm
  unfold ptC at Hw2
  clear hb1 HF hn hba hw2 hb2 hpb hdr H2 hx hnd hpi
  go_upto_region 4 with fail
  rw [Hw2.out, Hpb.out]
  refine wp_region_held_drew (S := (fun W => W.cell? ⟨x, 0, none⟩ = some (.pointer (some ⟨t, 0, none⟩)) ∧ W.cell? ⟨pb, 2, none⟩ = some (.int .i64 p.a) ∧ W.cell? ⟨pb, 3, none⟩ = some (.int .i64 p.s))) (by kernel_rfl) ?_ (fun hHeld => ?_)
  · exact hs0
  refine wpAnyH_take (i := 0) (oi := _) (v := ?_) rfl (by kernel_rfl) (by kernel_rfl) (by kernel_rfl) (fun _ _ _ h => h) (Or.inl ⟨by rfl, ?_⟩) (by assumption) ?_
  rotate_left
  · intro w hSw
    (try dsimp only at hSw)
    first | (go_simp; done) | (go_simp; with_reducible rfl)
  try simp only [List.getElem_toArray, List.getElem_cons_succ, List.getElem_cons_zero, Act.put, List.setIfInBounds_toArray, List.set_cons_zero, List.set_cons_succ]
  refine wpAnyH_take (i := 1) (oi := _) (v := ?_) rfl (by kernel_rfl) (by kernel_rfl) (by kernel_rfl) (fun _ _ _ h => h) (Or.inl ⟨by rfl, ?_⟩) (by assumption) ?_
  rotate_left
  · intro w hSw
    (try dsimp only at hSw)
    first | (go_simp; done) | (go_simp; with_reducible rfl)
  try simp only [List.getElem_toArray, List.getElem_cons_succ, List.getElem_cons_zero, Act.put, List.setIfInBounds_toArray, List.set_cons_zero, List.set_cons_succ]
  refine wpAnyH_take (i := 2) (oi := _) (v := ?_) rfl (by kernel_rfl) (by kernel_rfl) (by kernel_rfl) (fun _ _ _ h => h) (Or.inl ⟨by rfl, ?_⟩) (by assumption) ?_
  rotate_left
  · intro w hSw
    (try dsimp only at hSw)
    first | (go_simp; done) | (go_simp; with_reducible rfl)
  try simp only [List.getElem_toArray, List.getElem_cons_succ, List.getElem_cons_zero, Act.put, List.setIfInBounds_toArray, List.set_cons_zero, List.set_cons_succ]
  refine wpAnyH_take (i := 3) (oi := _) (v := ?_) rfl (by kernel_rfl) (by kernel_rfl) (by kernel_rfl) (fun _ _ _ h => h) (Or.inl ⟨by rfl, ?_⟩) (by assumption) ?_
  rotate_left
  · intro w hSw
    (try dsimp only at hSw)
    first | (go_simp; done) | (go_simp; with_reducible rfl)
  try simp only [List.getElem_toArray, List.getElem_cons_succ, List.getElem_cons_zero, Act.put, List.setIfInBounds_toArray, List.set_cons_zero, List.set_cons_succ]
  refine wpAnyH_take (i := 4) (oi := _) (v := ?_) rfl (by kernel_rfl) (by kernel_rfl) (by kernel_rfl) (fun _ _ _ h => h) (Or.inl ⟨by rfl, ?_⟩) (by assumption) ?_
  rotate_left
  · intro w hSw
    (try dsimp only at hSw)
    first | (go_simp; done) | (go_simp; with_reducible rfl)
  try simp only [List.getElem_toArray, List.getElem_cons_succ, List.getElem_cons_zero, Act.put, List.setIfInBounds_toArray, List.set_cons_zero, List.set_cons_succ]
  refine wpAnyH_take (i := 5) (oi := _) (v := ?_) rfl (by kernel_rfl) (by kernel_rfl) (by kernel_rfl) (fun _ _ _ h => h) (Or.inl ⟨by rfl, ?_⟩) (by assumption) ?_
  rotate_left
  · intro w hSw
    (try dsimp only at hSw)
    first | (go_simp; done) | (go_simp; with_reducible rfl)
  try simp only [List.getElem_toArray, List.getElem_cons_succ, List.getElem_cons_zero, Act.put, List.setIfInBounds_toArray, List.set_cons_zero, List.set_cons_succ]
  refine wpAnyH_take (i := 6) (oi := _) (v := ?_) rfl (by kernel_rfl) (by kernel_rfl) (by kernel_rfl) (fun _ _ _ h => h) (Or.inl ⟨by rfl, ?_⟩) (by assumption) ?_
  rotate_left
  · intro w hSw
    (try dsimp only at hSw)
    first | (go_simp; done) | (go_simp; with_reducible rfl)
  try simp only [List.getElem_toArray, List.getElem_cons_succ, List.getElem_cons_zero, Act.put, List.setIfInBounds_toArray, List.set_cons_zero, List.set_cons_succ]
  refine wpAnyH_take (i := 7) (oi := _) (v := ?_) rfl (by kernel_rfl) (by kernel_rfl) (by kernel_rfl) (fun _ _ _ h => h) (Or.inl ⟨by rfl, ?_⟩) (by assumption) ?_
  rotate_left
  · intro w hSw
    (try dsimp only at hSw)
    first | (go_simp; done) | (go_simp; with_reducible rfl)
  try simp only [List.getElem_toArray, List.getElem_cons_succ, List.getElem_cons_zero, Act.put, List.setIfInBounds_toArray, List.set_cons_zero, List.set_cons_succ]
  refine wpAnyH_ready (rs := [8]) (by kernel_rfl) (by simp) ?_
  refine AllReadyH.cons (o := _) rfl (fun K hK => ?_) AllReadyH.nil
  go_simp
  refine HLd.out.mono ?_
  rintro e w3 ⟨v, rfl, ho, hb⟩
  have HO := Lib.hid ho
  have HB := Lib.hid hb
  have hs3 := HTr.out w3 hb
  clear ho hb
  dsimp only
  refine hK.out _ _ hs3 (fun hHeld => ?_)
  clear hK K
  try simp only [List.getElem_toArray, List.getElem_cons_succ, List.getElem_cons_zero, Act.put, List.setIfInBounds_toArray, List.set_cons_zero, List.set_cons_succ]
  refine wpAnyH_take (i := 9) (oi := _) (v := ?_) rfl (by kernel_rfl) (by kernel_rfl) (by kernel_rfl) (fun _ _ _ h => h) (Or.inl ⟨by rfl, ?_⟩) (by assumption) ?_
  rotate_left
  · intro w hSw
    (try dsimp only at hSw)
    first | (go_simp; done) | (go_simp; with_reducible rfl)
  try simp only [List.getElem_toArray, List.getElem_cons_succ, List.getElem_cons_zero, Act.put, List.setIfInBounds_toArray, List.set_cons_zero, List.set_cons_succ]
  refine wpAnyH_take (i := 10) (oi := _) (v := ?_) rfl (by kernel_rfl) (by kernel_rfl) (by kernel_rfl) (fun _ _ _ h => h) (Or.inl ⟨by rfl, ?_⟩) (by assumption) ?_
  rotate_left
  · intro w hSw
    (try dsimp only at hSw)
    first | (go_simp; done) | (go_simp; with_reducible rfl)
  try simp only [List.getElem_toArray, List.getElem_cons_succ, List.getElem_cons_zero, Act.put, List.setIfInBounds_toArray, List.set_cons_zero, List.set_cons_succ]
  refine wpAnyH_take (i := 11) (oi := _) (v := ?_) rfl (by kernel_rfl) (by kernel_rfl) (by kernel_rfl) (fun _ _ _ h => h) (Or.inl ⟨by rfl, ?_⟩) (by assumption) ?_
  rotate_left
  · intro w hSw
    (try dsimp only at hSw)
    first | (go_simp; done) | (go_simp; with_reducible rfl)
  try simp only [List.getElem_toArray, List.getElem_cons_succ, List.getElem_cons_zero, Act.put, List.setIfInBounds_toArray, List.set_cons_zero, List.set_cons_succ]
  refine wpAnyH_take (i := 12) (oi := _) (v := ?_) rfl (by kernel_rfl) (by kernel_rfl) (by kernel_rfl) (fun _ _ _ h => h) (Or.inl ⟨by rfl, ?_⟩) (by assumption) ?_
  rotate_left
  · intro w hSw
    (try dsimp only at hSw)
    first | (go_simp; done) | (go_simp; with_reducible rfl)
  try simp only [List.getElem_toArray, List.getElem_cons_succ, List.getElem_cons_zero, Act.put, List.setIfInBounds_toArray, List.set_cons_zero, List.set_cons_succ]
  refine wpAnyH_take (i := 13) (oi := _) (v := ?_) rfl (by kernel_rfl) (by kernel_rfl) (by kernel_rfl) (fun _ _ _ h => h) (Or.inl ⟨by rfl, ?_⟩) (by assumption) ?_
  rotate_left
  · intro w hSw
    (try dsimp only at hSw)
    first | (go_simp; done) | (go_simp; with_reducible rfl)
  try simp only [List.getElem_toArray, List.getElem_cons_succ, List.getElem_cons_zero, Act.put, List.setIfInBounds_toArray, List.set_cons_zero, List.set_cons_succ]
  refine wpAnyH_done (by kernel_rfl) ?_ _
  (try simp only [Exit.then])
  clear hs0 hs3 HLd HTr
  go_wp2
  go_ret2
  exact ⟨v, rfl, HO.out.mono HD.out.size, HD.out.trans (HB.out.mono HD.out.size)⟩

set_option maxHeartbeats 8000000 in
set_option maxRecDepth 100000 in
theorem store_none [MemNo] {x t c K : Nat} {S : List UInt8} {P : List Gd.Pa} {F : Nat → Prop} (k m : Int) (v : Value) (w : World) (h : MetaF x t S P c K w F) (hp : Gd.ptAt k m = none) :
    Calls Tryz.prog 91 #[.pointer (some ⟨x, 0, none⟩), .int .i64 k, .int .i64 m, v] w fun e w' => e = .returned (.int .i64 1) ∧ Below w.heap.size w w' := by
  have HF := Lib.hid (find_any5 k m w)
  rw [hp] at HF
  clear h hp
  go_enter Tryz.func91, Tryz.ntmps91
  go_wp2_with fail
  refine HF.out.mono ?_
  rintro e w1 ⟨rfl, hb1⟩
  have HB1 := Lib.hid hb1
  clear hb1 HF
  unfold ptO
  go_wp2
  go_ret
  exact ⟨rfl, HB1.out.alloc HB1.out.size _⟩

set_option maxHeartbeats 8000000 in
set_option maxRecDepth 100000 in
theorem store_some [MemNo] {x t c K : Nat} {S : List UInt8} {P : List Gd.Pa} {F : Nat → Prop} (k m : Int) (p : Gd.Pt) (v : Value) (L : List UInt8) (w : World) (h : MetaF x t S P c K w F) (hp : Gd.ptAt k m = some p) (hv : BytesAt w v L) (hL : L.length ≤ 64) (hLp : L.length ≤ p.s) (hc : c < 64) (hap : ∀ q, v.ownBlock = some q → ¬ F q) :
    Calls Tryz.prog 91 #[.pointer (some ⟨x, 0, none⟩), .int .i64 k, .int .i64 m, v] w fun e w' => e = .returned (.int .i64 0) ∧ ∃ F', Step (MetaF x t S (P ++ [(p.a, L)]) (c + 1) K) F w F' w' := by
  have HF := Lib.hid (find_any5 k m w)
  rw [hp] at HF
  have hpi := ptAt_in hp
  have H := Lib.hid h
  have HV := Lib.hid hv
  obtain ⟨A, cap, hve, -⟩ := hv
  have HAp := Lib.hid hap
  have HC := Lib.hid hc
  have HL := Lib.hid (And.intro hL hLp)
  subst hve
  obtain ⟨ln, hln⟩ : ∃ ln, ln = L.length := ⟨_, rfl⟩
  rw [← hln] at HV HAp ⊢
  clear h hp hap hc hL hLp hln
  go_enter Tryz.func91, Tryz.ntmps91
  go_wp2_with fail
  refine HF.out.mono ?_
  rintro e w1 ⟨rfl, hb1⟩
  unfold ptO ptV
  have hn := heap_alloc_new w1 (.cells (ptC p) 139)
  have hba := (Below.refl w1.heap.size w1).alloc (Nat.le_refl _) (.cells (ptC p) 139)
  obtain ⟨w2, hw2⟩ : ∃ u, u = w1.alloc (.cells (ptC p) 139) := ⟨_, rfl⟩
  rw [← hw2] at hn hba
  have hb2 : Below w.heap.size w w2 := hb1.trans (hba.mono hb1.size)
  obtain ⟨pb, hpb⟩ : ∃ pb, pb = w1.heap.size := ⟨_, rfl⟩
  rw [← hpb] at hn
  have hdr : Below w.heap.size w w2.drew := hb2.drew
  have H2 := H.out.below hdr
  have hx : w2.drew.heap[x]? = _ := H2.obj
  have hnd : w2.drew.heap[pb]? = some (.cells (ptC p) 139 (0, 0)) := hn
  have hs0 : w2.drew.cell? ⟨x, 0, none⟩ = some (.pointer (some ⟨t, 0, none⟩)) ∧ w2.drew.cell? ⟨pb, 2, none⟩ = some (.int .i64 p.a) := ⟨cell_of_row _ x 0 _ _ _ hx, cell_of_row _ pb 2 _ _ _ hnd⟩
  have hpF : ¬ F pb := fun e => by
    have h1 := H.out.tight pb e
    have h2 := hb1.size
    omega
  have HSt := Lib.hid (tstore_any p.a (.slice A ln cap) L w2.drew H2.txn (HV.out.keep hdr) (by have := H2.len; omega) (by have := H2.len; have := HL.out; omega) (by have := HL.out; omega) (by have := H2.light.many; have := HC.out; omega) (fun q hq e => HAp.out q hq e.1))
  have HD := Lib.hid hdr
  have Hpb := Lib.hid hpb.symm
  have Hw2 := Lib.hid hw2.symm
  have HTr : Hid (∀ W, Only (Fx x F) w2.drew W → W.cell? ⟨x, 0, none⟩ = some (.pointer (some ⟨t, 0, none⟩)) ∧ W.cell? ⟨pb, 2, none⟩ = some (.int .i64 p.a)) := Lib.hid fun W hW => ⟨(hW.cell (p := ⟨x, 0, none⟩) (lt_get hx) (fun e => e.2 rfl)).trans hs0.1, (hW.cell (p := ⟨pb, 2, none⟩) (lt_get hnd) (fun e => hpF e.1)).trans hs0.2⟩
  unfold ptC at Hw2
  clear hb1 HF hn hba hw2 hb2 hpb hdr H2 hx hnd hpi hpF
  go_upto_region 4 with fail
  rw [Hw2.out, Hpb.out]
  refine wp_region_held_drew (S := (fun W => W.cell? ⟨x, 0, none⟩ = some (.pointer (some ⟨t, 0, none⟩)) ∧ W.cell? ⟨pb, 2, none⟩ = some (.int .i64 p.a))) (by kernel_rfl) ?_ (fun hHeld => ?_)
  · exact hs0
  refine wpAnyH_take (i := 0) (oi := _) (v := ?_) rfl (by kernel_rfl) (by kernel_rfl) (by kernel_rfl) (fun _ _ _ h => h) (Or.inl ⟨by rfl, ?_⟩) (by assumption) ?_
  rotate_left
  · intro w hSw
    (try dsimp only at hSw)
    first | (go_simp; done) | (go_simp; with_reducible rfl)
  try simp only [List.getElem_toArray, List.getElem_cons_succ, List.getElem_cons_zero, Act.put, List.setIfInBounds_toArray, List.set_cons_zero, List.set_cons_succ]
  refine wpAnyH_take (i := 1) (oi := _) (v := ?_) rfl (by kernel_rfl) (by kernel_rfl) (by kernel_rfl) (fun _ _ _ h => h) (Or.inl ⟨by rfl, ?_⟩) (by assumption) ?_
  rotate_left
  · intro w hSw
    (try dsimp only at hSw)
    first | (go_simp; done) | (go_simp; with_reducible rfl)
  try simp only [List.getElem_toArray, List.getElem_cons_succ, List.getElem_cons_zero, Act.put, List.setIfInBounds_toArray, List.set_cons_zero, List.set_cons_succ]
  refine wpAnyH_take (i := 2) (oi := _) (v := ?_) rfl (by kernel_rfl) (by kernel_rfl) (by kernel_rfl) (fun _ _ _ h => h) (Or.inl ⟨by rfl, ?_⟩) (by assumption) ?_
  rotate_left
  · intro w hSw
    (try dsimp only at hSw)
    first | (go_simp; done) | (go_simp; with_reducible rfl)
  try simp only [List.getElem_toArray, List.getElem_cons_succ, List.getElem_cons_zero, Act.put, List.setIfInBounds_toArray, List.set_cons_zero, List.set_cons_succ]
  refine wpAnyH_take (i := 3) (oi := _) (v := ?_) rfl (by kernel_rfl) (by kernel_rfl) (by kernel_rfl) (fun _ _ _ h => h) (Or.inl ⟨by rfl, ?_⟩) (by assumption) ?_
  rotate_left
  · intro w hSw
    (try dsimp only at hSw)
    first | (go_simp; done) | (go_simp; with_reducible rfl)
  try simp only [List.getElem_toArray, List.getElem_cons_succ, List.getElem_cons_zero, Act.put, List.setIfInBounds_toArray, List.set_cons_zero, List.set_cons_succ]
  refine wpAnyH_take (i := 4) (oi := _) (v := ?_) rfl (by kernel_rfl) (by kernel_rfl) (by kernel_rfl) (fun _ _ _ h => h) (Or.inl ⟨by rfl, ?_⟩) (by assumption) ?_
  rotate_left
  · intro w hSw
    (try dsimp only at hSw)
    first | (go_simp; done) | (go_simp; with_reducible rfl)
  try simp only [List.getElem_toArray, List.getElem_cons_succ, List.getElem_cons_zero, Act.put, List.setIfInBounds_toArray, List.set_cons_zero, List.set_cons_succ]
  refine wpAnyH_take (i := 5) (oi := _) (v := ?_) rfl (by kernel_rfl) (by kernel_rfl) (by kernel_rfl) (fun _ _ _ h => h) (Or.inl ⟨by rfl, ?_⟩) (by assumption) ?_
  rotate_left
  · intro w hSw
    (try dsimp only at hSw)
    first | (go_simp; done) | (go_simp; with_reducible rfl)
  try simp only [List.getElem_toArray, List.getElem_cons_succ, List.getElem_cons_zero, Act.put, List.setIfInBounds_toArray, List.set_cons_zero, List.set_cons_succ]
  refine wpAnyH_take (i := 6) (oi := _) (v := ?_) rfl (by kernel_rfl) (by kernel_rfl) (by kernel_rfl) (fun _ _ _ h => h) (Or.inl ⟨by rfl, ?_⟩) (by assumption) ?_
  rotate_left
  · intro w hSw
    (try dsimp only at hSw)
    first | (go_simp; done) | (go_simp; with_reducible rfl)
  try simp only [List.getElem_toArray, List.getElem_cons_succ, List.getElem_cons_zero, Act.put, List.setIfInBounds_toArray, List.set_cons_zero, List.set_cons_succ]
  refine wpAnyH_ready (rs := [7]) (by kernel_rfl) (by simp) ?_
  refine AllReadyH.cons (o := _) rfl (fun K hK => ?_) AllReadyH.nil
  go_simp
  refine HSt.out.mono ?_
  rintro e w3 ⟨rfl, hT3, hO3⟩
  have HT3 := Lib.hid hT3
  have HO3 := Lib.hid hO3
  have hs3 := HTr.out w3 hO3
  clear hT3 hO3
  dsimp only
  refine hK.out _ _ hs3 (fun hHeld => ?_)
  clear hK K
  try simp only [List.getElem_toArray, List.getElem_cons_succ, List.getElem_cons_zero, Act.put, List.setIfInBounds_toArray, List.set_cons_zero, List.set_cons_succ]
  refine wpAnyH_take (i := 8) (oi := _) (v := ?_) rfl (by kernel_rfl) (by kernel_rfl) (by kernel_rfl) (fun _ _ _ h => h) (Or.inl ⟨by rfl, ?_⟩) (by assumption) ?_
  rotate_left
  · intro w hSw
    (try dsimp only at hSw)
    first | (go_simp; done) | (go_simp; with_reducible rfl)
  try simp only [List.getElem_toArray, List.getElem_cons_succ, List.getElem_cons_zero, Act.put, List.setIfInBounds_toArray, List.set_cons_zero, List.set_cons_succ]
  refine wpAnyH_done (by kernel_rfl) ?_ _
  (try simp only [Exit.then])
  clear hs0 hs3 HSt HTr
  go_wp2
  go_ret
  have h1 := HD.out.size
  have h2 := HO3.out.size
  have hxl : x < w3.heap.size := Nat.lt_of_lt_of_le (lt_get H.out.obj) (Nat.le_trans h1 h2)
  have hox : w3.heap[x]? = w.heap[x]? := (HO3.out.block x (Nat.lt_of_lt_of_le (lt_get H.out.obj) h1) fun e => e.2 rfl).trans (HD.out.block x (lt_get H.out.obj))
  refine ⟨rfl, fun k => (F k ∨ w.heap.size ≤ k) ∧ k < w3.heap.size, ⟨?_, hox.trans H.out.obj, ⟨Or.inl H.out.inF, hxl⟩, H.out.len, H.out.log, ⟨?_, ?_⟩, fun k hk => hk.2⟩, ?_, ?_⟩
  · refine (TxnF.held t S _ K).mono HT3.out fun k hk e => ?_
    rcases e with e | e
    · exact ⟨⟨Or.inl e.1, hk⟩, e.2⟩
    · exact ⟨⟨Or.inr (Nat.le_trans h1 e), hk⟩, fun he => by
        have := lt_get H.out.obj
        omega⟩
  · rw [List.length_append]
    have := H.out.light.many
    simp
    omega
  · intro q hq
    rcases List.mem_append.1 hq with e | e
    · exact H.out.light.len q e
    · rw [List.mem_singleton.1 e]
      have := HL.out.1
      exact this
  · intro k hk e
    rcases e.1 with e | e
    · exact e
    · omega
  · exact (below_only HD.out F).trans (HO3.out.mono fun _ _ e => e.1) fun _ _ e => e

end Go.Proofs.YtccpdkjonepoiaaGreatDoor

/- Walks: metadata: inodes and the map, told and set. -/
namespace Go.Proofs.YtccpdkjonepoiaaGreatDoor
open Go.RowKit

attribute [local go_sem] Oper.semAt_some

/-- a metadata at x, by what its volume has: M (the bytes that last: S; at most c changes wait) -/
def MetaV [MemNo] (x t : Nat) (S : List UInt8) (M : Gd.Vol) (c K : Nat) (w : World) (F : Nat → Prop) : Prop := ∃ P, MetaF x t S P c K w F ∧ Gd.Good (Gd.view S P) M
theorem MetaV.keep [MemNo] {x t c K : Nat} {S : List UInt8} {M : Gd.Vol} {w w' : World} {F : Nat → Prop} (h : MetaV x t S M c K w F) (hs : w.heap.size ≤ w'.heap.size) (hb : ∀ k, k < w.heap.size → F k → w'.heap[k]? = w.heap[k]?) : MetaV x t S M c K w' F := by
  obtain ⟨P, h1, h2⟩ := h
  exact ⟨P, h1.keep hs hb, h2⟩
theorem MetaV.below [MemNo] {x t c K : Nat} {S : List UInt8} {M : Gd.Vol} {w w' : World} {F : Nat → Prop} (h : MetaV x t S M c K w F) (hb : Below w.heap.size w w') : MetaV x t S M c K w' F := h.keep hb.size fun k hk _ => hb.block k hk
theorem MetaV.more [MemNo] {x t c d K L : Nat} {S : List UInt8} {M : Gd.Vol} {w : World} {F : Nat → Prop} (h : MetaV x t S M c K w F) (hc : c ≤ d) (hK : K ≤ L) : MetaV x t S M d L w F := by
  obtain ⟨P, h1, h2⟩ := h
  exact ⟨P, h1.more hc hK, h2⟩
theorem MetaV.tight [MemNo] {x t c K : Nat} {S : List UInt8} {M : Gd.Vol} {w : World} {F : Nat → Prop} (h : MetaV x t S M c K w F) : ∀ k, F k → k < w.heap.size := by
  obtain ⟨P, h1, h2⟩ := h
  exact h1.tight
theorem Step.mono {I J : World → (Nat → Prop) → Prop} {F G : Nat → Prop} {a b : World} (h : Step I F a G b) (hIJ : I b G → J b G) : Step J F a G b := ⟨hIJ h.inv, h.old, h.only⟩
/-- what a call that changes comes to -/
def Turns [MemNo] (x t : Nat) (S : List UInt8) (M : Gd.Vol) (c K : Nat) (F : Nat → Prop) (w w' : World) : Prop := ∃ F', Step (MetaV x t S M c K) F w F' w'
theorem Turns.behind [MemNo] {x t c K : Nat} {S : List UInt8} {M : Gd.Vol} {F : Nat → Prop} {a b d : World} (hb : Below a.heap.size a b) (h : Turns x t S M c K F b d) : Turns x t S M c K F a d := by
  obtain ⟨F', h⟩ := h
  exact ⟨F', Step.behind hb h⟩
theorem Turns.ahead [MemNo] {x t c K : Nat} {S : List UInt8} {M : Gd.Vol} {F : Nat → Prop} {a b d : World} (h : Turns x t S M c K F a b) (hb : Below b.heap.size b d) : Turns x t S M c K F a d := by
  obtain ⟨F', h⟩ := h
  exact ⟨F', ⟨h.inv.below hb, h.old, h.only.trans (below_only hb F') fun j hj e => h.old j hj e⟩⟩

namespace Gd
theorem ptAt_node {i : Int} (h1 : 1 ≤ i) (h2 : i ≤ 32) : ptAt 4 i = some ⟨4, i.toNat, inoAt i.toNat, 64⟩ := by
  unfold ptAt partAt
  rw [if_neg (by omega), if_neg (by omega), if_neg (by omega), if_pos rfl, if_pos ⟨h1, h2⟩]
  rfl
theorem ptAt_nonode {i : Int} (h : ¬ (1 ≤ i ∧ i ≤ 32)) : ptAt 4 i = none := by
  unfold ptAt partAt
  rw [if_neg (by omega), if_neg (by omega), if_neg (by omega), if_pos rfl, if_neg h]
  rfl
theorem ptAt_map : ptAt 3 0 = some ⟨3, 0, 576, 64⟩ := rfl
theorem ptAt_block {n : Nat} (h1 : 1 ≤ n) (h2 : n ≤ 128) : ptAt 7 n = some ⟨7, n, blkAt n, 64⟩ := by
  unfold ptAt partAt
  rw [if_neg (by omega), if_neg (by omega), if_neg (by omega), if_neg (by omega), if_neg (by omega), if_neg (by omega), if_pos rfl, if_pos (by omega)]
  simp [blkAt]
theorem part_take (S : List UInt8) (a : Nat) {m n : Nat} (h : m ≤ n) : (part S a n).take m = part S a m := by
  unfold part
  rw [List.take_take, Nat.min_eq_left h]
end Gd

set_option maxHeartbeats 8000000 in
set_option maxRecDepth 100000 in
theorem inode_bad [MemNo] {x t c K : Nat} {S : List UInt8} {M : Gd.Vol} {F : Nat → Prop} (i : Int) (w : World) (h : MetaV x t S M c K w F) (hi : ¬ (1 ≤ i ∧ i ≤ 32)) :
    Calls Tryz.prog 16 #[.pointer (some ⟨x, 0, none⟩), .int .i64 i] w fun e w' => e = .returned (.tuple #[inoV Gd.noIno, .int .i64 1]) ∧ Below w.heap.size w w' := by
  obtain ⟨P, h, hG⟩ := h
  obtain ⟨w0, hw0⟩ : ∃ u, u = w.alloc (.cells zIno 40) := ⟨_, rfl⟩
  have hb0 : Below w.heap.size w w0 := by rw [hw0]; exact (Below.refl _ _).alloc (Nat.le_refl _) _
  have hr0 : w0.heap[w.heap.size]? = some (.cells zIno 40 (0, 0)) := by rw [hw0]; exact heap_alloc_new _ _
  obtain ⟨r, hr⟩ : ∃ r, r = w.heap.size := ⟨_, rfl⟩
  rw [← hr] at hr0
  have HLd := Lib.hid (load_none 4 i w0 (h.below hb0) (Gd.ptAt_nonode hi))
  have HR0 := Lib.hid hr0
  have HB0 := Lib.hid hb0
  have HW0 := Lib.hid hw0.symm
  have Hr := Lib.hid hr.symm
  unfold zIno at HW0
  clear h hG hw0 hb0 hr0 hr hi
  go_enter Tryz.func16, Tryz.ntmps16
  go_upto_region 1 with fail
  rw [HW0.out, Hr.out]
  go_wp2_with fail
  refine HLd.out.mono ?_
  rintro e w1 ⟨rfl, hb1⟩
  have HR1 := Lib.hid ((hb1.block r (lt_get HR0.out)).trans HR0.out)
  have HB1 := Lib.hid (HB0.out.trans (hb1.mono HB0.out.size))
  clear hb1 HLd
  go_wp2_with (refine wpList_store_mid rfl 40 _ _ rfl r 0 zIno rfl rfl (there_at HR1.out rfl) Tryz.sizeIno (by rw [zIno_eq]; exact inoC_one _) ?_; obtain ⟨hbw, hbg⟩ := whole_at HR1.out (vs := zIno.toList) (B := r) rfl (Nat.le_refl r); generalize (World.setCells _ _ _ _) = wf at hbw hbg ⊢)
  refine bodyPost_ret (results_row_tmp rfl _ _ r 40 zIno (0, 0) _ rfl hbg Tryz.underlying40 rfl Tryz.sizeIno) rfl ?_
  exact ⟨by rw [zIno_eq]; rfl, HB1.out.trans (by rw [Hr.out]; exact hbw)⟩

set_option maxHeartbeats 8000000 in
set_option maxRecDepth 100000 in
theorem inode_ok [MemNo] {x t c K : Nat} {S : List UInt8} {M : Gd.Vol} {F : Nat → Prop} (i : Int) (w : World) (h : MetaV x t S M c K w F) (h1 : 1 ≤ i) (h2 : i ≤ 32) :
    Calls Tryz.prog 16 #[.pointer (some ⟨x, 0, none⟩), .int .i64 i] w fun e w' => e = .returned (.tuple #[inoV (M.ino i.toNat), .int .i64 0]) ∧ Below w.heap.size w w' := by
  obtain ⟨P, h, hG⟩ := h
  have hs := hG.shape i.toNat (by omega) (by omega)
  have hm := hG.may i.toNat (by omega) (by omega)
  have hb := hG.ino i.toNat (by omega) (by omega)
  obtain ⟨y, hy⟩ : ∃ y, y = M.ino i.toNat := ⟨_, rfl⟩
  rw [← hy] at hs hm hb ⊢
  obtain ⟨w0, hw0⟩ : ∃ u, u = w.alloc (.cells zIno 40) := ⟨_, rfl⟩
  have hb0 : Below w.heap.size w w0 := by rw [hw0]; exact (Below.refl _ _).alloc (Nat.le_refl _) _
  have hr0 : w0.heap[w.heap.size]? = some (.cells zIno 40 (0, 0)) := by rw [hw0]; exact heap_alloc_new _ _
  obtain ⟨r, hr⟩ : ∃ r, r = w.heap.size := ⟨_, rfl⟩
  rw [← hr] at hr0
  have HLd := Lib.hid (load_some 4 i _ w0 (h.below hb0) (Gd.ptAt_node h1 h2))
  dsimp only at HLd
  rw [hb] at HLd
  have HR0 := Lib.hid hr0
  have HB0 := Lib.hid hb0
  have HW0 := Lib.hid hw0.symm
  have Hr := Lib.hid hr.symm
  have HSm := Lib.hid (And.intro hs hm)
  have HS := Lib.hid (inoC_size hs)
  unfold zIno at HW0
  clear h hG hw0 hb0 hr0 hr h1 h2 hs hm hb hy
  go_enter Tryz.func16, Tryz.ntmps16
  go_upto_region 1 with fail
  rw [HW0.out, Hr.out]
  go_wp2_with fail
  refine HLd.out.mono ?_
  rintro e w1 ⟨v1, rfl, ho1, hb1⟩
  have HR1 := Lib.hid ((hb1.block r (lt_get HR0.out)).trans HR0.out)
  have HB1 := Lib.hid (HB0.out.trans (hb1.mono HB0.out.size))
  have HRd := Lib.hid (readi_any y HSm.out.1 HSm.out.2 v1 _ w1 ho1)
  clear hb1 HLd ho1
  go_wp2_with fail
  refine HRd.out.mono ?_
  rintro e w2 ⟨rfl, hb2⟩
  have HR2 := Lib.hid ((hb2.block r (lt_get HR1.out)).trans HR1.out)
  have HB2 := Lib.hid (HB1.out.trans (hb2.mono HB1.out.size))
  unfold inoV
  obtain ⟨w3, hw3⟩ : ∃ u, u = (w2.alloc (.cells zIno 40)) := ⟨_, rfl⟩
  have hb3 : Below w2.heap.size w2 w3 := by rw [hw3]; exact (Below.refl _ _).alloc (Nat.le_refl _) _
  have hn3 : w3.heap[w2.heap.size]? = some (.cells zIno 40 (0, 0)) := by rw [hw3]; exact heap_alloc_new _ _
  obtain ⟨b, hbe⟩ : ∃ b, b = w2.heap.size := ⟨_, rfl⟩
  rw [← hbe] at hn3
  have HN3 := Lib.hid hn3
  have HR3 := Lib.hid ((hb3.block r (lt_get HR2.out)).trans HR2.out)
  have HB3 := Lib.hid (HB2.out.trans (hb3.mono HB2.out.size))
  have Hbe := Lib.hid hbe.symm
  have HW3 := Lib.hid hw3.symm
  have HbB : Hid (r < b) := Lib.hid (by rw [hbe]; exact lt_get HR2.out)
  unfold zIno at HW3
  clear hb2 HRd hw3 hb3 hn3 hbe
  go_wp2_with (first | (refine wpList_store_mid rfl 40 _ _ rfl b 0 (inoC y) (by rw [← Hbe.out]; rfl) rfl (by rw [show w2.alloc (.cells #[.int .i64 0, .int .i64 0, .int .i64 0, .int .i64 0, .int .i64 0, .int .i64 0, .int .i64 0, .int .i64 0, .int .i64 0, .int .i64 0, .int .i64 0, .int .i64 0, .int .i64 0, .int .i64 0, .int .i64 0] 40) = w3 from HW3.out]; exact there_at HN3.out (by rw [HS.out]; rfl)) (by rw [HS.out]; exact Tryz.sizeIno) (inoC_one _) ?_; rw [HW3.out]; obtain ⟨hbw, hbg⟩ := whole_at HN3.out (vs := (inoC y).toList) (B := b) (by rw [Array.length_toList, HS.out]; rfl) (Nat.le_refl b); generalize (World.setCells _ _ _ _) = w4 at hbw hbg ⊢; have HG4 := Lib.hid hbg; have HR4 := Lib.hid ((hbw.block r HbB.out).trans HR3.out); have HB4 := Lib.hid (HB3.out.trans (hbw.mono (show w.heap.size ≤ b by have := HbB.out; have := Hr.out; omega))); clear hbw hbg) | (refine wpList_load_row rfl 40 _ rfl b (by rw [← Hbe.out]; rfl) 40 (inoC y) (0, 0) _ HG4.out Tryz.underlying40 rfl (by rw [HS.out]; exact Tryz.sizeIno) ?_) | (refine wpList_store_mid rfl 40 _ _ rfl r 0 (inoC y) rfl rfl (there_at HR4.out (by rw [HS.out]; rfl)) (by rw [HS.out]; exact Tryz.sizeIno) (inoC_one _) ?_; obtain ⟨hbw, hbg⟩ := whole_at HR4.out (vs := (inoC y).toList) (B := r) (by rw [Array.length_toList, HS.out]; rfl) (Nat.le_refl r); generalize (World.setCells _ _ _ _) = wf at hbw hbg ⊢))
  refine bodyPost_ret (results_row_tmp rfl _ _ r 40 (inoC y) (0, 0) _ rfl hbg Tryz.underlying40 rfl (by rw [HS.out]; exact Tryz.sizeIno)) rfl ?_
  exact ⟨rfl, HB4.out.trans (by rw [Hr.out]; exact hbw)⟩

end Go.Proofs.YtccpdkjonepoiaaGreatDoor

/- Walks: metadata: inodes and the map are set. -/
namespace Go.Proofs.YtccpdkjonepoiaaGreatDoor
open Go.RowKit

attribute [local go_sem] Oper.semAt_some

/-- a part stored: what the volume has then -/
theorem store_turns [MemNo] {x t c K : Nat} {S : List UInt8} {M M' : Gd.Vol} {F : Nat → Prop} (k m : Int) (p : Gd.Pt) (v : Value) (L : List UInt8) (w : World) (h : MetaV x t S M c K w F) (hp : Gd.ptAt k m = some p) (hv : BytesAt w v L) (hL : L.length ≤ 64) (hLp : L.length ≤ p.s) (hc : c < 64) (hap : ∀ q, v.ownBlock = some q → ¬ F q) (hM : ∀ V, Gd.Good V M → Gd.Good (Gd.splice V p.a L) M') :
    Calls Tryz.prog 91 #[.pointer (some ⟨x, 0, none⟩), .int .i64 k, .int .i64 m, v] w fun e w' => e = .returned (.int .i64 0) ∧ Turns x t S M' (c + 1) K F w w' := by
  obtain ⟨P, h, hG⟩ := h
  refine (store_some k m p v L w h hp hv hL hLp hc hap).mono ?_
  rintro e w' ⟨he, F', hs⟩
  refine ⟨he, F', hs.mono fun h' => ⟨_, h', ?_⟩⟩
  rw [Gd.view_snoc]
  exact hM _ hG

set_option maxHeartbeats 8000000 in
set_option maxRecDepth 100000 in
theorem setino_bad [MemNo] {x t c K : Nat} {S : List UInt8} {M : Gd.Vol} {F : Nat → Prop} (i : Int) (y : Gd.Ino) (hy : y.Shape) (hI : AllI (inoL y)) (w : World) (h : MetaV x t S M c K w F) (hb : Gd.mayI y = false ∨ ¬ (1 ≤ i ∧ i ≤ 32)) :
    Calls Tryz.prog 94 #[.pointer (some ⟨x, 0, none⟩), .int .i64 i, inoV y] w fun e w' => e = .returned (.int .i64 1) ∧ Below w.heap.size w w' := by
  obtain ⟨hb0, hbb⟩ := ino_box w hy
  obtain ⟨b, hbe⟩ : ∃ b, b = w.heap.size := ⟨_, rfl⟩
  obtain ⟨wb, hwb⟩ : ∃ u, u = w.alloc (.cells (inoC y) 40) := ⟨_, rfl⟩
  rw [← hwb, ← hbe] at hb0
  rw [← hwb] at hbb
  have Hbe := Lib.hid hbe.symm
  have HBb := Lib.hid hbb
  have HWb := Lib.hid hwb
  have HI := Lib.hid hb0
  have HS := Lib.hid (inoC_size hy)
  have HM := Lib.hid (h.below hbb)
  cases hm : Gd.mayI y with
  | false =>
    have HPu := Lib.hid (puti_bad y hy hI hm wb)
    unfold Bad1 at HPu
    clear hbe hbb hwb hb0 hy hI h hb hm
    go_enter Tryz.func94, Tryz.ntmps94
    unfold inoV at *
    go_upto_region 1 with fail
    rw [← HWb.out, Hbe.out]
    go_wp2_with (first | (refine wpList_load_row rfl 40 _ rfl b rfl 40 (inoC y) (0, 0) _ HI.out.row Tryz.underlying40 rfl (by rw [HS.out]; exact Tryz.sizeIno) ?_) | (go_at_call 105; refine HPu.out.mono ?_; rintro e w1 ⟨rfl, hb1⟩))
    go_ret
    exact ⟨rfl, HBb.out.trans (hb1.mono HBb.out.size)⟩
  | true =>
    have hi : ¬ (1 ≤ i ∧ i ≤ 32) := by
      rcases hb with e | e
      · rw [hm] at e; cases e
      · exact e
    have HPu := Lib.hid (puti_any y hy hI hm wb)
    have HPt := Lib.hid (Gd.ptAt_nonode hi)
    clear hbe hbb hwb hb0 hy hI h hb hm hi
    go_enter Tryz.func94, Tryz.ntmps94
    unfold inoV at *
    go_upto_region 1 with fail
    rw [← HWb.out, Hbe.out]
    go_wp2_with (refine wpList_load_row rfl 40 _ rfl b rfl 40 (inoC y) (0, 0) _ HI.out.row Tryz.underlying40 rfl (by rw [HS.out]; exact Tryz.sizeIno) ?_)
    refine HPu.out.mono ?_
    rintro e w1 ⟨v1, rfl, ho1, hb1⟩
    have HB1 := Lib.hid (HBb.out.trans (hb1.mono HBb.out.size))
    obtain ⟨P, hMF, _⟩ := HM.out.below hb1
    have HSt := Lib.hid (store_none 4 i v1 w1 hMF HPt.out)
    clear ho1 hb1 hMF HPu
    go_wp2_with fail
    refine HSt.out.mono ?_
    rintro e w2 ⟨rfl, hb2⟩
    go_wp2
    go_ret
    exact ⟨rfl, HB1.out.trans (hb2.mono HB1.out.size)⟩

set_option maxHeartbeats 8000000 in
set_option maxRecDepth 100000 in
theorem setino_f [MemNo] {x t c K : Nat} {S : List UInt8} {P : List Gd.Pa} {F : Nat → Prop} (i : Int) (y : Gd.Ino) (hy : y.Shape) (hm : Gd.mayI y = true) (w : World) (h : MetaF x t S P c K w F) (h1 : 1 ≤ i) (h2 : i ≤ 32) (hc : c < 64) :
    Calls Tryz.prog 94 #[.pointer (some ⟨x, 0, none⟩), .int .i64 i, inoV y] w fun e w' => e = .returned (.int .i64 0) ∧ ∃ F', Step (MetaF x t S (P ++ [(Gd.inoAt i.toNat, Gd.inoB y)]) (c + 1) K) F w F' w' := by
  obtain ⟨hb0, hbb⟩ := ino_box w hy
  obtain ⟨b, hbe⟩ : ∃ b, b = w.heap.size := ⟨_, rfl⟩
  obtain ⟨wb, hwb⟩ : ∃ u, u = w.alloc (.cells (inoC y) 40) := ⟨_, rfl⟩
  rw [← hwb, ← hbe] at hb0
  rw [← hwb] at hbb
  have Hbe := Lib.hid hbe.symm
  have HBb := Lib.hid hbb
  have HWb := Lib.hid hwb
  have HI := Lib.hid hb0
  have HS := Lib.hid (inoC_size hy)
  have HM := Lib.hid (h.below hbb)
  have HT := Lib.hid h.tight
  have HPu := Lib.hid (puti_any y hy (ino_all hm) hm wb)
  have HPt := Lib.hid (Gd.ptAt_node h1 h2)
  have HLn := Lib.hid (Gd.inoB_length hy)
  have HC := Lib.hid hc
  clear hbe hbb hwb hb0 hy hm h h1 h2 hc
  go_enter Tryz.func94, Tryz.ntmps94
  unfold inoV at *
  go_upto_region 1 with fail
  rw [← HWb.out, Hbe.out]
  go_wp2_with (refine wpList_load_row rfl 40 _ rfl b rfl 40 (inoC y) (0, 0) _ HI.out.row Tryz.underlying40 rfl (by rw [HS.out]; exact Tryz.sizeIno) ?_)
  refine HPu.out.mono ?_
  rintro e w1 ⟨v1, rfl, ho1, hb1⟩
  have HB1 := Lib.hid (HBb.out.trans (hb1.mono HBb.out.size))
  have HSt := Lib.hid (store_some 4 i _ v1 (Gd.inoB y) w1 (HM.out.below hb1) HPt.out ho1.at_ (by rw [HLn.out]; omega) (by rw [HLn.out]; exact Nat.le_refl _) HC.out (fun q hq e => by
    have h3 := (own_block ho1 q hq).1
    have h4 := HT.out q e
    have h5 := HBb.out.size
    omega))
  clear ho1 hb1 HPu
  go_wp2_with fail
  refine HSt.out.mono ?_
  rintro e w2 ⟨rfl, F2, ht2⟩
  go_wp2
  go_ret
  exact ⟨rfl, F2, Step.behind HB1.out ht2⟩

theorem setino_ok [MemNo] {x t c K : Nat} {S : List UInt8} {M : Gd.Vol} {F : Nat → Prop} (i : Int) (y : Gd.Ino) (hy : y.Shape) (hm : Gd.mayI y = true) (w : World) (h : MetaV x t S M c K w F) (h1 : 1 ≤ i) (h2 : i ≤ 32) (hc : c < 64) :
    Calls Tryz.prog 94 #[.pointer (some ⟨x, 0, none⟩), .int .i64 i, inoV y] w fun e w' => e = .returned (.int .i64 0) ∧ Turns x t S (M.setIno i.toNat y) (c + 1) K F w w' := by
  obtain ⟨P, h, hG⟩ := h
  refine (setino_f i y hy hm w h h1 h2 hc).mono ?_
  rintro e w' ⟨he, F', hs⟩
  refine ⟨he, F', hs.mono fun h' => ⟨_, h', ?_⟩⟩
  rw [Gd.view_snoc]
  exact hG.setIno (by omega) (by omega) hy hm

set_option maxHeartbeats 8000000 in
set_option maxRecDepth 100000 in
theorem map_any [MemNo] {x t c K : Nat} {S : List UInt8} {M : Gd.Vol} {F : Nat → Prop} (w : World) (h : MetaV x t S M c K w F) :
    Calls Tryz.prog 154 #[.pointer (some ⟨x, 0, none⟩)] w fun e w' => e = .returned (mapV M.map) ∧ Below w.heap.size w w' := by
  obtain ⟨P, h, hG⟩ := h
  have hml := hG.mapl
  have hmp := hG.map
  obtain ⟨Z, hZ⟩ : ∃ Z : Array Value, Z = #[.int .u8 0, .int .u8 0, .int .u8 0, .int .u8 0, .int .u8 0, .int .u8 0, .int .u8 0, .int .u8 0, .int .u8 0, .int .u8 0, .int .u8 0, .int .u8 0, .int .u8 0, .int .u8 0, .int .u8 0, .int .u8 0] := ⟨_, rfl⟩
  have hZs : Z.size = 16 := by rw [hZ]; rfl
  obtain ⟨hb0, hr0⟩ := below_new w Z 153
  obtain ⟨r, hr⟩ : ∃ r, r = w.heap.size := ⟨_, rfl⟩
  obtain ⟨w0, hw0⟩ : ∃ u, u = w.alloc (.cells Z 153) := ⟨_, rfl⟩
  rw [← hw0, ← hr] at hr0
  rw [← hw0] at hb0
  have hlen : (Gd.part (Gd.view S P) 576 64).length = 64 := Gd.part_length (by rw [h.view_len]; omega)
  have htk : (Gd.part (Gd.view S P) 576 64).take 16 = M.map := by rw [Gd.part_take _ _ (by omega), hmp]
  have HLd := Lib.hid (load_some 3 0 _ w0 (h.below hb0) Gd.ptAt_map)
  dsimp only at HLd
  obtain ⟨L, hL⟩ : ∃ L, L = Gd.part (Gd.view S P) 576 64 := ⟨_, rfl⟩
  rw [← hL] at HLd hlen htk
  obtain ⟨m, hmm⟩ : ∃ m, m = M.map := ⟨_, rfl⟩
  rw [← hmm] at htk hml ⊢
  have HR0 := Lib.hid hr0
  have HB0 := Lib.hid hb0
  have HW0 := Lib.hid hw0.symm
  have Hr := Lib.hid hr.symm
  have HZ := Lib.hid hZ.symm
  have HZs := Lib.hid hZs
  have HS := Lib.hid (cellsB_len hml)
  have HT := Lib.hid (And.intro hlen htk)
  clear h hG hml hmp hZ hZs hb0 hr0 hr hw0 hlen htk hL hmm
  go_enter Tryz.func154, Tryz.ntmps154
  go_upto_region 1 with fail
  rw [HZ.out, HW0.out, Hr.out]
  go_wp2_with fail
  refine HLd.out.mono ?_
  rintro e w1 ⟨v1, rfl, ho1, hb1⟩
  have HR1 := Lib.hid ((hb1.block r (lt_get HR0.out)).trans HR0.out)
  have HB1 := Lib.hid (HB0.out.trans (hb1.mono HB0.out.size))
  have HRd := Lib.hid (readm_any v1 L _ w1 ho1 (by rw [HT.out.1]; omega))
  rw [HT.out.2] at HRd
  unfold mapV at *
  clear hb1 HLd ho1
  go_wp2_with fail
  refine HRd.out.mono ?_
  rintro e w2 ⟨rfl, hb2⟩
  have HR2 := Lib.hid ((hb2.block r (lt_get HR1.out)).trans HR1.out)
  have HB2 := Lib.hid (HB1.out.trans (hb2.mono HB1.out.size))
  obtain ⟨hb3, hn3⟩ := below_new w2 Z 153
  obtain ⟨w3, hw3⟩ : ∃ u, u = w2.alloc (.cells Z 153) := ⟨_, rfl⟩
  obtain ⟨b, hbe⟩ : ∃ b, b = w2.heap.size := ⟨_, rfl⟩
  rw [← hw3, ← hbe] at hn3
  rw [← hw3] at hb3
  have HN3 := Lib.hid hn3
  have HR3 := Lib.hid ((hb3.block r (lt_get HR2.out)).trans HR2.out)
  have HB3 := Lib.hid (HB2.out.trans (hb3.mono HB2.out.size))
  have Hbe := Lib.hid hbe.symm
  have HW3 := Lib.hid hw3.symm
  rw [← HZ.out] at HW3
  have HbB : Hid (r < b) := Lib.hid (by rw [hbe]; exact lt_get HR2.out)
  clear hb2 HRd hw3 hb3 hn3 hbe
  go_wp2_with (first | (refine wpList_store_mid rfl 153 _ _ rfl b 0 (cellsB m) (by rw [← Hbe.out]; rfl) rfl (by rw [HW3.out]; exact there_at HN3.out (by rw [HZs.out, HS.out])) (by rw [HS.out]; exact Tryz.sizeMap) (cellsB_one _) ?_; rw [HW3.out]; obtain ⟨hbw, hbg⟩ := whole_at HN3.out (vs := (cellsB m).toList) (B := b) (by rw [HZs.out, Array.length_toList, HS.out]) (Nat.le_refl b); generalize (World.setCells _ _ _ _) = w4 at hbw hbg ⊢; have HG4 := Lib.hid hbg; have HR4 := Lib.hid ((hbw.block r HbB.out).trans HR3.out); have HB4 := Lib.hid (HB3.out.trans (hbw.mono (show w.heap.size ≤ b by have := HbB.out; have := Hr.out; omega))); clear hbw hbg) | (refine wpList_load_row rfl 153 _ rfl b (by rw [← Hbe.out]; rfl) 153 (cellsB m) (0, 0) _ HG4.out Tryz.underlying153 rfl (by rw [HS.out]; exact Tryz.sizeMap) ?_) | (refine wpList_store_mid rfl 153 _ _ rfl r 0 (cellsB m) rfl rfl (there_at HR4.out (by rw [HZs.out, HS.out])) (by rw [HS.out]; exact Tryz.sizeMap) (cellsB_one _) ?_; obtain ⟨hbw, hbg⟩ := whole_at HR4.out (vs := (cellsB m).toList) (B := r) (by rw [HZs.out, Array.length_toList, HS.out]) (Nat.le_refl r); generalize (World.setCells _ _ _ _) = wf at hbw hbg ⊢))
  refine bodyPost_ret (results_cell_row rfl _ _ r 153 (cellsB m) (0, 0) _ rfl hbg Tryz.underlying153 rfl (by rw [HS.out]; exact Tryz.sizeMap)) rfl ?_
  exact ⟨rfl, HB4.out.trans (by rw [Hr.out]; exact hbw)⟩

set_option maxHeartbeats 8000000 in
set_option maxRecDepth 100000 in
theorem setmap_f [MemNo] {x t c K : Nat} {S : List UInt8} {P : List Gd.Pa} {F : Nat → Prop} (m : List UInt8) (hm : m.length = 16) (w : World) (h : MetaF x t S P c K w F) (hc : c < 64) :
    Calls Tryz.prog 93 #[.pointer (some ⟨x, 0, none⟩), mapV m] w fun e w' => e = .returned (.int .i64 0) ∧ ∃ F', Step (MetaF x t S (P ++ [(576, m)]) (c + 1) K) F w F' w' := by
  obtain ⟨hbb, hbc⟩ := below_new w (cellsB m) 153
  obtain ⟨b, hbe⟩ : ∃ b, b = w.heap.size := ⟨_, rfl⟩
  obtain ⟨wb, hwb⟩ : ∃ u, u = w.alloc (.cells (cellsB m) 153) := ⟨_, rfl⟩
  rw [← hwb, ← hbe] at hbc
  rw [← hwb] at hbb
  have HM := Lib.hid (h.below hbb)
  have HT := Lib.hid h.tight
  have Hbe := Lib.hid hbe.symm
  have HBb := Lib.hid hbb
  have HWb := Lib.hid hwb.symm
  have Hbc := Lib.hid hbc
  have HS := Lib.hid (cellsB_len hm)
  have HBy := Lib.hid (bytesm_any m hm wb)
  have Hm := Lib.hid hm
  have HC := Lib.hid hc
  clear hbe hbb hwb hbc hm h hc
  unfold mapV at *
  go_enter Tryz.func93, Tryz.ntmps93
  go_upto_region 1 with fail
  rw [HWb.out, Hbe.out]
  go_wp2_with (refine wpList_load_row rfl 153 _ rfl b rfl 153 (cellsB m) (0, 0) _ Hbc.out Tryz.underlying153 rfl (by rw [HS.out]; exact Tryz.sizeMap) ?_)
  refine HBy.out.mono ?_
  rintro e w1 ⟨v1, rfl, ho1, hb1⟩
  have HB1 := Lib.hid (HBb.out.trans (hb1.mono HBb.out.size))
  have HSt := Lib.hid (store_some 3 0 _ v1 m w1 (HM.out.below hb1) Gd.ptAt_map ho1.at_ (by rw [Hm.out]; omega) (by rw [Hm.out]; show 16 ≤ 64; omega) HC.out (fun q hq e => by
    have h3 := (own_block ho1 q hq).1
    have h4 := HT.out q e
    have h5 := HBb.out.size
    omega))
  clear ho1 hb1 HBy
  go_wp2_with fail
  refine HSt.out.mono ?_
  rintro e w2 ⟨rfl, F2, ht2⟩
  go_wp2
  go_ret
  exact ⟨rfl, F2, Step.behind HB1.out ht2⟩

theorem setmap_any [MemNo] {x t c K : Nat} {S : List UInt8} {M : Gd.Vol} {F : Nat → Prop} (m : List UInt8) (hm : m.length = 16) (w : World) (h : MetaV x t S M c K w F) (hc : c < 64) :
    Calls Tryz.prog 93 #[.pointer (some ⟨x, 0, none⟩), mapV m] w fun e w' => e = .returned (.int .i64 0) ∧ Turns x t S (M.setMap m) (c + 1) K F w w' := by
  obtain ⟨P, h, hG⟩ := h
  refine (setmap_f m hm w h hc).mono ?_
  rintro e w' ⟨he, F', hs⟩
  refine ⟨he, F', hs.mono fun h' => ⟨_, h', ?_⟩⟩
  rw [Gd.view_snoc]
  exact hG.setMap hm

set_option maxHeartbeats 4000000 in
theorem metold_any (n e : Int) (w : World) : Calls Tryz.prog 100 #[.int .i64 n, .int .i64 e] w fun e' w' => e' = .returned (.tuple #[.int .i64 (if e = 0 then n else 0), .int .i64 e]) ∧ w' = w := by
  by_cases h : e = 0
  · subst h
    go_enter Tryz.func100, Tryz.ntmps100
    go_wp2
    go_ret2
    exact ⟨rfl, rfl⟩
  · go_enter Tryz.func100, Tryz.ntmps100
    go_wp2
    go_ret2
    exact ⟨by simp [h], rfl⟩

end Go.Proofs.YtccpdkjonepoiaaGreatDoor

/- Walks: metadata: a block is taken. -/
namespace Go.Proofs.YtccpdkjonepoiaaGreatDoor
open Go.RowKit

attribute [local go_sem] Oper.semAt_some

namespace Gd
theorem byte_full : ∀ c : Fin 256, (∀ b : Fin 8, (c.val &&& 2 ^ b.val != 0) = true) → cnt c.val = 8 := by decide +kernel
theorem count_le {m : List UInt8} (hm : m.length = 16) : countB m ≤ 128 := by
  have h : ∀ L : List UInt8, (L.map fun c => cnt c.toNat).sum ≤ L.length * 8 := by
    intro L
    induction L with
    | nil => simp
    | cons a r ih =>
      have := cnt_le ⟨a.toNat, a.toNat_lt⟩
      simp only [List.map_cons, List.sum_cons, List.length_cons]
      dsimp only at this
      omega
  have := h m
  unfold countB
  omega
theorem count_full {m : List UInt8} (hm : m.length = 16) (h : ∀ k, 1 ≤ k → k ≤ 128 → usedB m k = true) : countB m = 128 := by
  have h8 : ∀ (i : Nat) (c : UInt8), m[i]? = some c → cnt c.toNat = 8 := by
    intro i c hc
    have hi := (List.getElem?_eq_some_iff.1 hc).1
    refine byte_full ⟨c.toNat, c.toNat_lt⟩ fun b => ?_
    have := h (i * 8 + b.val + 1) (by omega) (by omega)
    unfold usedB byteAt bitOf at this
    rw [show (i * 8 + b.val + 1 - 1) / 8 = i by omega, show (i * 8 + b.val + 1 - 1) % 8 = b.val by omega, List.getD_eq_getElem?_getD, hc] at this
    exact this
  have h2 : ∀ (L : List UInt8), (∀ c ∈ L, cnt c.toNat = 8) → (L.map fun c => cnt c.toNat).sum = L.length * 8 := by
    intro L
    induction L with
    | nil => simp
    | cons a r ih =>
      intro hL
      simp only [List.map_cons, List.sum_cons, List.length_cons]
      rw [ih fun c hc => hL c (List.mem_cons_of_mem _ hc), hL a (List.mem_cons_self ..)]
      omega
  have := h2 m fun c hc => by
    obtain ⟨i, hi, e⟩ := List.mem_iff_getElem.1 hc
    exact h8 i c (by rw [List.getElem?_eq_getElem hi, e])
  unfold countB
  omega
theorem first_some {m : List UInt8} (hm : m.length = 16) (h : countB m < 128) : 1 ≤ firstB m ∧ firstB m ≤ 128 ∧ usedB m (firstB m) = false := by
  rcases firstFrom_in (m := m) (f := 128) (n := 1) (by omega) (by omega) with ⟨e, ha⟩ | ⟨h1, h2, h3, _⟩
  · have := count_full hm ha
    omega
  · exact ⟨h1, h2, h3⟩
/-- a block taken: its bytes are noughts -/
def Vol.take (M : Vol) : Vol := (M.setMap (takeB M.map (firstB M.map))).setBlk (firstB M.map) (List.replicate 64 0)
end Gd
theorem run_loadAt_row {w : World} {b t : Nat} {C : Array Value} (h : w.heap[b]? = some (.cells C t (0, 0))) (hs : C.size = 16) : (Instr.loadAt 153 (.pointer (some ⟨b, 0, none⟩))).run Tryz.prog w = .ok (.agg C) w := by
  have hr : w.rangeAt b 0 C.toList := fun j v hj => by
    rw [Nat.zero_add, cell_of_row w b j _ _ _ h]
    simpa using hj
  have := run_loadAt_mid (P := Tryz.prog) w b 0 153 C.toList _ hr Tryz.underlying153 rfl (by rw [Array.length_toList, hs]; exact Tryz.sizeMap)
  rw [this]



set_option maxHeartbeats 8000000 in
set_option maxRecDepth 100000 in
theorem block_none [MemNo] {x t c K : Nat} {S : List UInt8} {M : Gd.Vol} {F : Nat → Prop} (spare : Int) (w : World) (h : MetaV x t S M c K w F) (hsp : 128 - (Gd.countB M.map : Int) ≤ max 0 spare) :
    Calls Tryz.prog 156 #[.pointer (some ⟨x, 0, none⟩), .int .i64 spare] w fun e w' => e = .returned (.tuple #[.int .i64 0, .int .i64 18]) ∧ Below w.heap.size w w' := by
  have hml : M.map.length = 16 := by
    obtain ⟨P, h, hG⟩ := h
    exact hG.mapl
  obtain ⟨m, hmm⟩ : ∃ m, m = M.map := ⟨_, rfl⟩
  have HMp := Lib.hid (map_any w h)
  rw [← hmm] at hml HMp hsp
  (try rw [← hmm])
  have HM := Lib.hid h
  have HS := Lib.hid (cellsB_len hml)
  have Hml := Lib.hid hml
  obtain ⟨Z, hZ⟩ : ∃ Z : Array Value, Z = #[.int .u8 0, .int .u8 0, .int .u8 0, .int .u8 0, .int .u8 0, .int .u8 0, .int .u8 0, .int .u8 0, .int .u8 0, .int .u8 0, .int .u8 0, .int .u8 0, .int .u8 0, .int .u8 0, .int .u8 0, .int .u8 0] := ⟨_, rfl⟩
  have HZs : Hid (Z.size = 16) := Lib.hid (by rw [hZ]; rfl)
  have HZ := Lib.hid hZ.symm
  have HFi := Lib.hid fun W => first_any m hml W
  have HCo := Lib.hid fun W => count_any m hml W
  obtain ⟨f, hf⟩ : ∃ f, f = Gd.firstB m := ⟨_, rfl⟩
  obtain ⟨cn, hcn⟩ : ∃ cn, cn = Gd.countB m := ⟨_, rfl⟩
  rw [← hf] at HFi
  rw [← hcn] at HCo hsp
  have hcl : cn ≤ 128 := by rw [hcn]; exact Gd.count_le hml
  have hcw : IntKind.i64.wrap (128 - (cn : Int)) = 128 - (cn : Int) := by rw [IntKind.wrap_i64]; omega
  have hcw2 : (cn : Int) ≤ 128 := by omega
  have Hf := Lib.hid hf
  have Hcn := Lib.hid hcn
  have Hmm := Lib.hid hmm
  unfold mapV at *
  clear h hmm hZ hf hcn hcl hml
  go_enter Tryz.func156, Tryz.ntmps156
  go_wp2_with fail
  refine HMp.out.mono ?_
  rintro e w1 ⟨rfl, hb1⟩
  obtain ⟨hb2, hn2⟩ := below_new w1 Z 153
  obtain ⟨w2, hw2⟩ : ∃ u, u = w1.alloc (.cells Z 153) := ⟨_, rfl⟩
  obtain ⟨b, hbe⟩ : ∃ b, b = w1.heap.size := ⟨_, rfl⟩
  rw [← hw2, ← hbe] at hn2
  rw [← hw2] at hb2
  obtain ⟨hb3, hn3⟩ := whole_at hn2 (vs := (cellsB m).toList) (B := b) (by rw [HZs.out, Array.length_toList, HS.out]) (Nat.le_refl b)
  obtain ⟨w3, hw3⟩ : ∃ u, u = w2.setCells b 0 (cellsB m).toList := ⟨_, rfl⟩
  rw [← hw3] at hb3 hn3
  have HN2 := Lib.hid hn2
  have HN3 : Hid (w3.heap[b]? = some (.cells (cellsB m) 153 (0, 0))) := Lib.hid hn3
  have HB3 : Hid (Below w.heap.size w w3 ∧ w.heap.size ≤ b) := Lib.hid (by
    have h1 := hb1.size
    have h2 := hb2.size
    have h3 : w1.heap.size ≤ b := by omega
    exact ⟨(hb1.trans (hb2.mono h1)).trans (hb3.mono (by omega)), by omega⟩)
  have Hbe := Lib.hid hbe.symm
  have HW2 := Lib.hid hw2.symm
  have HW3 := Lib.hid hw3.symm
  rw [← HZ.out] at HW2
  clear hb1 hb2 hn2 hw2 hbe hb3 hn3 hw3 HMp
  go_upto_region 2 with (refine wpList_store_mid rfl 153 _ _ rfl b 0 (cellsB m) (by rw [← Hbe.out]; rfl) rfl (by rw [HW2.out]; exact there_at HN2.out (by rw [HZs.out, HS.out])) (by rw [HS.out]; exact Tryz.sizeMap) (cellsB_one _) ?_; rw [HW2.out, HW3.out])
  rw [Hbe.out]
  go_wp2_with (refine wpList_load_row rfl 153 _ rfl b rfl 153 (cellsB m) (0, 0) _ HN3.out Tryz.underlying153 rfl (by rw [HS.out]; exact Tryz.sizeMap) ?_)
  refine (HFi.out w3).mono ?_
  rintro e w4 ⟨rfl, hb4⟩
  have HN4 := Lib.hid ((hb4.block b (lt_get HN3.out)).trans HN3.out)
  have HB4 := Lib.hid (HB3.out.1.trans (hb4.mono HB3.out.1.size))
  have HL4 := Lib.hid (run_loadAt_row HN4.out HS.out)
  clear hb4 HFi
  by_cases hf0 : f = 0
  · subst hf0
    clear hsp hcw
    go_wp2
    go_ret2
    exact ⟨rfl, HB4.out⟩
  · have hf1 : ¬ (f : Int) = 0 := by omega
    have hf2 : ((f : Int) == 0) = false := by simp [hf0]
    have hf3 : (f == 0) = false := by simp [hf0]
    by_cases hs0 : 0 < spare
    · have hs1 : (128 : Int) - cn ≤ spare := by omega
      clear hsp
      go_wp2_with (first | (refine wpList_load_guarded _ _ rfl (by rfl) 153 _ rfl (.pointer (some ⟨b, 0, none⟩)) (.agg (cellsB m)) rfl HL4.out ?_) | (go_at_call 185; refine (HCo.out w4).mono ?_; rintro e w5 ⟨rfl, hb5⟩))
      go_ret2
      exact ⟨rfl, HB4.out.trans (hb5.mono HB4.out.size)⟩
    · have hs1 : (128 : Int) - cn ≤ 0 := by omega
      have hs2 : ¬ 0 < spare := hs0
      have hc0 : (cn : Int) = 128 := by omega
      clear hsp
      go_wp2_with (first | (refine wpList_load_guarded _ _ rfl (by rfl) 153 _ rfl (.pointer (some ⟨b, 0, none⟩)) (.agg (cellsB m)) rfl HL4.out ?_) | (go_at_call 185; refine (HCo.out w4).mono ?_; rintro e w5 ⟨rfl, hb5⟩))
      go_ret2
      exact ⟨rfl, HB4.out.trans (hb5.mono HB4.out.size)⟩

set_option maxHeartbeats 8000000 in
set_option maxRecDepth 100000 in
theorem block_ok [MemNo] {x t c K : Nat} {S : List UInt8} {M : Gd.Vol} {F : Nat → Prop} (spare : Int) (w : World) (h : MetaV x t S M c K w F) (hsp : max 0 spare < 128 - (Gd.countB M.map : Int)) (hc : c + 2 < 64) :
    Calls Tryz.prog 156 #[.pointer (some ⟨x, 0, none⟩), .int .i64 spare] w fun e w' => e = .returned (.tuple #[.int .i64 (Gd.firstB M.map), .int .i64 0]) ∧ Turns x t S M.take (c + 2) K F w w' := by
  have hml : M.map.length = 16 := by
    obtain ⟨P, h, hG⟩ := h
    exact hG.mapl
  obtain ⟨m, hmm⟩ : ∃ m, m = M.map := ⟨_, rfl⟩
  have HMp := Lib.hid (map_any w h)
  rw [← hmm] at hml HMp hsp
  (try rw [← hmm])
  have HM := Lib.hid h
  have HS := Lib.hid (cellsB_len hml)
  have Hml := Lib.hid hml
  obtain ⟨Z, hZ⟩ : ∃ Z : Array Value, Z = #[.int .u8 0, .int .u8 0, .int .u8 0, .int .u8 0, .int .u8 0, .int .u8 0, .int .u8 0, .int .u8 0, .int .u8 0, .int .u8 0, .int .u8 0, .int .u8 0, .int .u8 0, .int .u8 0, .int .u8 0, .int .u8 0] := ⟨_, rfl⟩
  have HZs : Hid (Z.size = 16) := Lib.hid (by rw [hZ]; rfl)
  have HZ := Lib.hid hZ.symm
  have HFi := Lib.hid fun W => first_any m hml W
  have HCo := Lib.hid fun W => count_any m hml W
  obtain ⟨f, hf⟩ : ∃ f, f = Gd.firstB m := ⟨_, rfl⟩
  obtain ⟨cn, hcn⟩ : ∃ cn, cn = Gd.countB m := ⟨_, rfl⟩
  rw [← hf] at HFi
  rw [← hcn] at HCo hsp
  have hcl : cn ≤ 128 := by rw [hcn]; exact Gd.count_le hml
  have hcw : IntKind.i64.wrap (128 - (cn : Int)) = 128 - (cn : Int) := by rw [IntKind.wrap_i64]; omega
  have hcw2 : (cn : Int) ≤ 128 := by omega
  have Hf := Lib.hid hf
  have Hcn := Lib.hid hcn
  have Hmm := Lib.hid hmm
  unfold mapV at *
  have hfs : 1 ≤ f ∧ f ≤ 128 := by
    have h1 := Gd.first_some hml (by rw [← hcn]; omega)
    rw [← hf] at h1
    exact ⟨h1.1, h1.2.1⟩
  have Hfs := Lib.hid hfs
  have htk : Gd.takeI m (f : Int) = Gd.takeB m f := by
    unfold Gd.takeI Gd.isBlk
    rw [Int.toNat_natCast, decide_eq_true (by omega), decide_eq_true (by omega)]
    rfl
  have HTk := Lib.hid fun W => take_any m hml (f : Int) W
  rw [htk] at HTk
  unfold mapV at HTk
  obtain ⟨m2, hm2⟩ : ∃ m2, m2 = Gd.takeB m f := ⟨_, rfl⟩
  rw [← hm2] at HTk
  have hm2l : m2.length = 16 := by rw [hm2, Gd.take_length]; exact hml
  have Hm2l := Lib.hid hm2l
  have HTa : Hid (M.take = (M.setMap m2).setBlk f (List.replicate 64 0)) := Lib.hid (by unfold Gd.Vol.take; rw [← hmm, ← hf, ← hm2])
  have HC := Lib.hid hc
  have hf0 : ¬ (f : Int) = 0 := by omega
  have hf2 : ((f : Int) == 0) = false := by simp; omega
  have hf3 : (f == 0) = false := by simp; omega
  rw [← hf]
  clear h hmm hZ hf hcn hcl hml hfs htk hm2 hm2l hc
  go_enter Tryz.func156, Tryz.ntmps156
  go_wp2_with fail
  refine HMp.out.mono ?_
  rintro e w1 ⟨rfl, hb1⟩
  obtain ⟨hb2, hn2⟩ := below_new w1 Z 153
  obtain ⟨w2, hw2⟩ : ∃ u, u = w1.alloc (.cells Z 153) := ⟨_, rfl⟩
  obtain ⟨b, hbe⟩ : ∃ b, b = w1.heap.size := ⟨_, rfl⟩
  rw [← hw2, ← hbe] at hn2
  rw [← hw2] at hb2
  obtain ⟨hb3, hn3⟩ := whole_at hn2 (vs := (cellsB m).toList) (B := b) (by rw [HZs.out, Array.length_toList, HS.out]) (Nat.le_refl b)
  obtain ⟨w3, hw3⟩ : ∃ u, u = w2.setCells b 0 (cellsB m).toList := ⟨_, rfl⟩
  rw [← hw3] at hb3 hn3
  have HN2 := Lib.hid hn2
  have HN3 : Hid (w3.heap[b]? = some (.cells (cellsB m) 153 (0, 0))) := Lib.hid hn3
  have HB3 : Hid (Below w.heap.size w w3 ∧ w.heap.size ≤ b) := Lib.hid (by
    have h1 := hb1.size
    have h2 := hb2.size
    have h3 : w1.heap.size ≤ b := by omega
    exact ⟨(hb1.trans (hb2.mono h1)).trans (hb3.mono (by omega)), by omega⟩)
  have Hbe := Lib.hid hbe.symm
  have HW2 := Lib.hid hw2.symm
  have HW3 := Lib.hid hw3.symm
  rw [← HZ.out] at HW2
  clear hb1 hb2 hn2 hw2 hbe hb3 hn3 hw3 HMp
  go_upto_region 2 with (refine wpList_store_mid rfl 153 _ _ rfl b 0 (cellsB m) (by rw [← Hbe.out]; rfl) rfl (by rw [HW2.out]; exact there_at HN2.out (by rw [HZs.out, HS.out])) (by rw [HS.out]; exact Tryz.sizeMap) (cellsB_one _) ?_; rw [HW2.out, HW3.out])
  rw [Hbe.out]
  go_wp2_with (refine wpList_load_row rfl 153 _ rfl b rfl 153 (cellsB m) (0, 0) _ HN3.out Tryz.underlying153 rfl (by rw [HS.out]; exact Tryz.sizeMap) ?_)
  refine (HFi.out w3).mono ?_
  rintro e w4 ⟨rfl, hb4⟩
  have HN4 := Lib.hid ((hb4.block b (lt_get HN3.out)).trans HN3.out)
  have HB4 := Lib.hid (HB3.out.1.trans (hb4.mono HB3.out.1.size))
  have HL4 := Lib.hid (run_loadAt_row HN4.out HS.out)
  clear hb4 HFi
  have HN5 : Hid (∀ W, Below w4.heap.size w4 W → W.heap[b]? = some (.cells (cellsB m) 153 (0, 0))) := Lib.hid fun W hW => (hW.block b (lt_get HN4.out)).trans HN4.out
  have HTu : Hid (∀ (w5 w6 : World), Below w4.heap.size w4 w5 → Below w5.heap.size w5 w6 → Calls Tryz.prog 93 #[.pointer (some ⟨x, 0, none⟩), .agg (cellsB m2)] w6 fun e w' => e = .returned (.int .i64 0) ∧ Turns x t S (M.setMap m2) (c + 1) K F w w') := Lib.hid fun w5 w6 h5 h6 => by
    have hb6 : Below w.heap.size w w6 := (HB4.out.trans (h5.mono HB4.out.size)).trans (h6.mono (Nat.le_trans HB4.out.size h5.size))
    refine (setmap_any m2 Hm2l.out w6 (HM.out.below hb6) (by have := HC.out; omega)).mono ?_
    rintro e w7 ⟨he, ht⟩
    exact ⟨he, ht.behind hb6⟩
  have HFin : Hid (∀ w7, Turns x t S (M.setMap m2) (c + 1) K F w w7 → ∀ v, OwnB (w7.alloc (.cells (cellsB (List.replicate 64 0)) 5)) w7.heap.size v (List.replicate 64 0) → Calls Tryz.prog 91 #[.pointer (some ⟨x, 0, none⟩), .int .i64 7, .int .i64 f, v] (w7.alloc (.cells (cellsB (List.replicate 64 0)) 5)) fun e w' => e = .returned (.int .i64 0) ∧ Turns x t S M.take (c + 2) K F w w') := Lib.hid fun w7 ht7 v hv => by
    obtain ⟨F7, hs7⟩ := ht7
    have hba := (Below.refl w7.heap.size w7).alloc (Nat.le_refl _) (.cells (cellsB (List.replicate 64 0)) 5)
    refine (store_turns 7 f _ v (List.replicate 64 0) _ (hs7.inv.below hba) (Gd.ptAt_block Hfs.out.1 Hfs.out.2) hv.at_ (by rw [List.length_replicate]; exact Nat.le_refl _) (by rw [List.length_replicate]; exact Nat.le_refl _) (by have := HC.out; omega) (fun q hq e => by
      have h3 := (own_block hv q hq).1
      have h4 := hs7.inv.tight q e
      omega) (M' := M.take) (fun V hV => by rw [HTa.out]; exact hV.setBlk Hfs.out.1 Hfs.out.2 (by rw [List.length_replicate]))).mono ?_
    rintro e w8 ⟨he, F8, hs8⟩
    exact ⟨he, F8, hs7.trans (Step.behind hba hs8)⟩
  by_cases hs0 : 0 < spare
  · have hs1 : ¬ (128 : Int) - cn ≤ spare := by omega
    have hs3 : spare < (128 : Int) - cn := by omega
    clear hsp
    go_wp2_with (first | (refine wpList_load_guarded _ _ rfl (by rfl) 153 _ rfl (.pointer (some ⟨b, 0, none⟩)) (.agg (cellsB m)) rfl HL4.out ?_) | (refine wpList_load_row rfl 153 _ rfl b rfl 153 (cellsB m) (0, 0) _ (HN5.out w5 hb5) Tryz.underlying153 rfl (by rw [HS.out]; exact Tryz.sizeMap) ?_) | (go_at_call 185; refine (HCo.out w4).mono ?_; rintro e w5 ⟨rfl, hb5⟩))
    refine (HTk.out w5).mono ?_
    rintro e w6 ⟨rfl, hb6⟩
    have HSm := Lib.hid (HTu.out w5 w6 hb5 hb6)
    clear hb5 hb6 HTk HTu HN5
    go_wp2_with fail
    refine HSm.out.mono ?_
    rintro e w7 ⟨rfl, ht7⟩
    have hmk : (Instr.makeSlice 22 (.int .i64 64) (.int .i64 64)).run Tryz.prog w7 = .ok (.slice (some ⟨w7.heap.size, 0, none⟩) 64 64) (w7.alloc (.cells (cellsB (List.replicate 64 0)) 5)) := made_bytes 64 (by omega) w7
    have HSt := Lib.hid (HFin.out w7 ht7 _ (own_made w7 64 (by omega) w7.heap.size (Nat.le_refl _)))
    obtain ⟨w8, hw8⟩ : ∃ u, u = w7.alloc (.cells (cellsB (List.replicate 64 0)) 5) := ⟨_, rfl⟩
    rw [← hw8] at hmk HSt
    clear ht7 hw8 HSm HFin
    go_wp2_with fail
    refine HSt.out.mono ?_
    rintro e w9 ⟨rfl, ht9⟩
    have HT9 := Lib.hid ht9
    have HTo : Hid (Calls Tryz.prog 100 #[.int .i64 f, .int .i64 0] w9 fun e' w' => e' = .returned (.tuple #[.int .i64 f, .int .i64 0]) ∧ w' = w9) := Lib.hid (metold_any f 0 w9)
    clear ht9 HSt
    go_wp2_with fail
    refine HTo.out.mono ?_
    rintro e w10 ⟨rfl, rfl⟩
    go_wp2
    go_ret2
    exact ⟨rfl, HT9.out⟩
  · have hs1 : ¬ (128 : Int) - cn ≤ 0 := by omega
    have hs3 : (cn : Int) < 128 := by omega
    clear hsp
    go_wp2_with (first | (refine wpList_load_guarded _ _ rfl (by rfl) 153 _ rfl (.pointer (some ⟨b, 0, none⟩)) (.agg (cellsB m)) rfl HL4.out ?_) | (refine wpList_load_row rfl 153 _ rfl b rfl 153 (cellsB m) (0, 0) _ (HN5.out w5 hb5) Tryz.underlying153 rfl (by rw [HS.out]; exact Tryz.sizeMap) ?_) | (go_at_call 185; refine (HCo.out w4).mono ?_; rintro e w5 ⟨rfl, hb5⟩))
    refine (HTk.out w5).mono ?_
    rintro e w6 ⟨rfl, hb6⟩
    have HSm := Lib.hid (HTu.out w5 w6 hb5 hb6)
    clear hb5 hb6 HTk HTu HN5
    go_wp2_with fail
    refine HSm.out.mono ?_
    rintro e w7 ⟨rfl, ht7⟩
    have hmk : (Instr.makeSlice 22 (.int .i64 64) (.int .i64 64)).run Tryz.prog w7 = .ok (.slice (some ⟨w7.heap.size, 0, none⟩) 64 64) (w7.alloc (.cells (cellsB (List.replicate 64 0)) 5)) := made_bytes 64 (by omega) w7
    have HSt := Lib.hid (HFin.out w7 ht7 _ (own_made w7 64 (by omega) w7.heap.size (Nat.le_refl _)))
    obtain ⟨w8, hw8⟩ : ∃ u, u = w7.alloc (.cells (cellsB (List.replicate 64 0)) 5) := ⟨_, rfl⟩
    rw [← hw8] at hmk HSt
    clear ht7 hw8 HSm HFin
    go_wp2_with fail
    refine HSt.out.mono ?_
    rintro e w9 ⟨rfl, ht9⟩
    have HT9 := Lib.hid ht9
    have HTo : Hid (Calls Tryz.prog 100 #[.int .i64 f, .int .i64 0] w9 fun e' w' => e' = .returned (.tuple #[.int .i64 f, .int .i64 0]) ∧ w' = w9) := Lib.hid (metold_any f 0 w9)
    clear ht9 HSt
    go_wp2_with fail
    refine HTo.out.mono ?_
    rintro e w10 ⟨rfl, rfl⟩
    go_wp2
    go_ret2
    exact ⟨rfl, HT9.out⟩

end Go.Proofs.YtccpdkjonepoiaaGreatDoor
