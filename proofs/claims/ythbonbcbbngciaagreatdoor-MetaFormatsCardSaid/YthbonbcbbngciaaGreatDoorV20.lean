/- A pair of the laws on metadata: a volume and the document's file system, beside own variables. -/
import Derived.Test.YthbonbcbbngciaaGreatDoorV16
import Derived.Test.YthbonbcbbngciaaGreatDoorV19
import Derived.Test.YthbonbcbbngciaaGreatDoorV17
import Derived.Test.YthbonbcbbngciaaGreatDoorV15
import Derived.Deep.RegionHeld3
set_option linter.unusedVariables false
set_option linter.unusedSimpArgs false
set_option linter.unusedSectionVars false
namespace Go.Proofs.YthbonbcbbngciaaGreatDoor
open Go.RowKit Go.Shelf

/-- a volume and the document's file system, what turned since w, and variables of one's own -/
def PSt [MemNo] (x t r : Nat) (S : List UInt8) (M : Gd.Vol) (Z : Pz.Fil) (c K : Nat) (w a : World) (Ls : List (Nat × Obj)) : Prop :=
  ∃ F' G, Step (MetaV x t S M c K) Nof w F' a ∧ RefF r Z a G ∧ (∀ k, G k → w.heap.size ≤ k ∧ k < a.heap.size ∧ ¬ F' k) ∧ ∀ p ∈ Ls, w.heap.size ≤ p.1 ∧ ¬ F' p.1 ∧ ¬ G p.1 ∧ a.heap[p.1]? = some p.2
variable {x t r c K : Nat} {S : List UInt8} {M : Gd.Vol} {Z : Pz.Fil} {w a b : World} {Ls : List (Nat × Obj)}
theorem PSt.tl [MemNo] (h : PSt x t r S M Z c K w a Ls) : Tl x t S M c K Nof w a Ls := by
  obtain ⟨F', G, h1, h2, h3, h4⟩ := h
  exact ⟨F', h1, fun p hp => ⟨(h4 p hp).1, (h4 p hp).2.1, (h4 p hp).2.2.2⟩⟩
theorem PSt.belowW [MemNo] (h : PSt x t r S M Z c K w a Ls) : Below w.heap.size w a := h.tl.belowW
theorem PSt.size [MemNo] (h : PSt x t r S M Z c K w a Ls) : w.heap.size ≤ a.heap.size := h.tl.size
theorem PSt.get [MemNo] (h : PSt x t r S M Z c K w a Ls) {k : Nat} {o : Obj} (hk : (k, o) ∈ Ls) : a.heap[k]? = some o := h.tl.get hk
theorem PSt.good [MemNo] (h : PSt x t r S M Z 0 K w a Ls) : Gd.Good S M := h.tl.good
theorem PSt.mx [MemNo] (h : PSt x t r S M Z c K w a Ls) (hM : Mx w) : Mx a := by
  obtain ⟨m, hm⟩ := hM
  exact ⟨m, (h.belowW.cell (p := ⟨0, 0, none⟩) (mx_lt hm)).trans hm⟩
/-- what only reads, or makes -/
theorem PSt.below [MemNo] (h : PSt x t r S M Z c K w a Ls) (hb : Below a.heap.size a b) : PSt x t r S M Z c K w b Ls := by
  obtain ⟨F', G, h1, h2, h3, h4⟩ := h
  refine ⟨F', G, ⟨h1.inv.below hb, h1.old, h1.only.trans (below_only hb Nof) fun _ _ e => e⟩, (RefF.held r Z).below h2 hb, fun k hk => ⟨(h3 k hk).1, Nat.lt_of_lt_of_le (h3 k hk).2.1 hb.size, (h3 k hk).2.2⟩, fun p hp => ⟨(h4 p hp).1, (h4 p hp).2.1, (h4 p hp).2.2.1, ?_⟩⟩
  rw [hb.block p.1 (lt_get (h4 p hp).2.2.2)]
  exact (h4 p hp).2.2.2
/-- .. and a variable more -/
theorem PSt.new [MemNo] (h : PSt x t r S M Z c K w a Ls) (hb : Below a.heap.size a b) {k : Nat} {o : Obj} (hk : a.heap.size ≤ k) (ho : b.heap[k]? = some o) : PSt x t r S M Z c K w b ((k, o) :: Ls) := by
  have hw := h.size
  obtain ⟨F', G, h1, h2, h3, h4⟩ := h
  refine ⟨F', G, ⟨h1.inv.below hb, h1.old, h1.only.trans (below_only hb Nof) fun _ _ e => e⟩, (RefF.held r Z).below h2 hb, fun q hq => ⟨(h3 q hq).1, Nat.lt_of_lt_of_le (h3 q hq).2.1 hb.size, (h3 q hq).2.2⟩, fun p hp => ?_⟩
  rcases List.mem_cons.1 hp with rfl | hp
  · exact ⟨Nat.le_trans hw hk, fun e => absurd (h1.inv.tight k e) (Nat.not_lt.2 hk), fun e => absurd (h3 k e).2.1 (Nat.not_lt.2 hk), ho⟩
  · exact ⟨(h4 p hp).1, (h4 p hp).2.1, (h4 p hp).2.2.1, (hb.block p.1 (lt_get (h4 p hp).2.2.2)).trans (h4 p hp).2.2.2⟩
theorem PSt.less [MemNo] {Ls' : List (Nat × Obj)} (h : PSt x t r S M Z c K w a Ls) (hL : ∀ p ∈ Ls', p ∈ Ls) : PSt x t r S M Z c K w a Ls' := by
  obtain ⟨F', G, h1, h2, h3, h4⟩ := h
  exact ⟨F', G, h1, h2, h3, fun p hp => h4 p (hL p hp)⟩
/-- a call on the volume -/
theorem PSt.open [MemNo] (h : PSt x t r S M Z c K w a Ls) : ∃ F, MetaV x t S M c K a F ∧ (∀ k, k < w.heap.size → ¬ F k) ∧ ∀ (N : Gd.Vol) (S2 : List UInt8) (d K2 : Nat) (b : World), Turns x t S2 N d K2 F a b → PSt x t r S2 N Z d K2 w b Ls := by
  obtain ⟨F', G, h1, h2, h3, h4⟩ := h
  refine ⟨F', h1.inv, fun k hk hf => h1.old k hk hf, fun N S2 d K2 b ⟨F2, k2⟩ => ?_⟩
  have hs := k2.only.size
  refine ⟨F2, G, h1.trans k2, (RefF.held r Z).apart h2 k2.only fun k hk hg => (h3 k hg).2.2, fun k hk => ⟨(h3 k hk).1, Nat.lt_of_lt_of_le (h3 k hk).2.1 hs, fun e => (h3 k hk).2.2 (k2.old k (h3 k hk).2.1 e)⟩, fun p hp => ?_⟩
  obtain ⟨e1, e2, e3, e4⟩ := h4 p hp
  exact ⟨e1, fun e => e2 (k2.old _ (lt_get e4) e), e3, (k2.only.block _ (lt_get e4) e2).trans e4⟩
/-- a call on the document's -/
theorem PSt.doc [MemNo] (h : PSt x t r S M Z c K w a Ls) : ∃ G, RefF r Z a G ∧ (∀ k, G k → w.heap.size ≤ k ∧ k < a.heap.size) ∧ (∀ p ∈ Ls, ¬ G p.1) ∧ ∀ (Z2 : Pz.Fil) (b : World), RefF r Z2 b (Gr G a) → Only G a b → PSt x t r S M Z2 c K w b Ls := by
  obtain ⟨F', G, h1, h2, h3, h4⟩ := h
  refine ⟨G, h2, fun k hk => ⟨(h3 k hk).1, (h3 k hk).2.1⟩, fun p hp => (h4 p hp).2.2.1, fun Z2 b hi ho => ?_⟩
  have hs := ho.size
  have hw := h1.only.size
  refine ⟨F', fun k => Gr G a k ∧ k < b.heap.size, ⟨h1.inv.keep hs fun k hk hf => ho.block k hk fun e => (h3 k e).2.2 hf, h1.old, h1.only.trans (ho.mono fun k hk e => e) ?_⟩, ?_, fun k hk => ?_, fun p hp => ?_⟩
  · intro j hj hg
    exact absurd (h3 j hg).1 (Nat.not_le.2 hj)
  · exact (RefF.held r Z2).mono hi fun k hk e => ⟨e, hk⟩
  · rcases hk with ⟨e | e, e2⟩
    · exact ⟨(h3 k e).1, e2, (h3 k e).2.2⟩
    · exact ⟨Nat.le_trans hw e, e2, fun hf => absurd (h1.inv.tight k hf) (Nat.not_lt.2 e)⟩
  · obtain ⟨e1, e2, e3, e4⟩ := h4 p hp
    refine ⟨e1, e2, fun e => ?_, (ho.block _ (lt_get e4) e3).trans e4⟩
    rcases e.1 with e | e
    · exact e3 e
    · exact absurd (lt_get e4) (Nat.not_lt.2 e)
/-- a variable of one's own turns -/
theorem PSt.turn [MemNo] (h : PSt x t r S M Z c K w a Ls) {k : Nat} {o o2 : Obj} (hk : (k, o) ∈ Ls) (hO : Only (fun q => q = k) a b) (ho : b.heap[k]? = some o2) (Ls' : List (Nat × Obj)) (hL : ∀ p ∈ Ls', p = (k, o2) ∨ (p ∈ Ls ∧ p.1 ≠ k)) :
    PSt x t r S M Z c K w b Ls' := by
  obtain ⟨F', G, h1, h2, h3, h4⟩ := h
  obtain ⟨e1, e2, e3, e4⟩ := h4 _ hk
  dsimp only at e1 e2 e3 e4
  have hs := hO.size
  refine ⟨F', G, ⟨h1.inv.keep hs fun q hq hf => hO.block q hq fun e => e2 (e ▸ hf), h1.old, h1.only.trans hO fun q hq e => absurd e1 (by rw [← e]; exact Nat.not_le.2 hq)⟩, (RefF.held r Z).apart h2 hO fun q hq hg e => e3 (e ▸ hg), fun q hq => ⟨(h3 q hq).1, Nat.lt_of_lt_of_le (h3 q hq).2.1 hs, (h3 q hq).2.2⟩, fun p hp => ?_⟩
  rcases hL p hp with rfl | ⟨hp, hne⟩
  · exact ⟨e1, e2, e3, ho⟩
  · obtain ⟨q1, q2, q3, q4⟩ := h4 p hp
    exact ⟨q1, q2, q3, (hO.block _ (lt_get q4) hne).trans q4⟩
/-- a store into a variable of one's own -/
theorem PSt.set [MemNo] (h : PSt x t r S M Z c K w a Ls) {k j : Nat} {C : Array Value} {ty : TypeId} {v : Value} (hk : (k, Obj.cells C ty (0, 0)) ∈ Ls) (Ls' : List (Nat × Obj)) (hL : ∀ p ∈ Ls', p = (k, Obj.cells (C.setIfInBounds j v) ty (0, 0)) ∨ (p ∈ Ls ∧ p.1 ≠ k)) :
    PSt x t r S M Z c K w (a.setCell ⟨k, j, none⟩ v) Ls' :=
  h.turn hk (only_setCell a _ _ rfl) (heap_setCell_same a k j C ty v (h.get hk)) Ls' hL
/-- a variable of one's own is stored whole -/
theorem PSt.setAll [MemNo] (h : PSt x t r S M Z c K w a Ls) {k : Nat} {C : Array Value} {ty : TypeId} {vs : List Value} (hk : (k, Obj.cells C ty (0, 0)) ∈ Ls) (hC : C.size = vs.length) (Ls' : List (Nat × Obj)) (hL : ∀ p ∈ Ls', p = (k, Obj.cells vs.toArray ty (0, 0)) ∨ (p ∈ Ls ∧ p.1 ≠ k)) :
    PSt x t r S M Z c K w (a.setCells k 0 vs) Ls' :=
  h.turn hk (grown_only (setCells_grownM k vs 0 a) fun q e => (Option.some.inj e).symm) (whole_at (h.get hk) hC (Nat.le_refl k)).2 Ls' hL
theorem PSt.alloc [MemNo] (h : PSt x t r S M Z c K w a Ls) (C : Array Value) (ty : TypeId) : PSt x t r S M Z c K w (a.alloc (.cells C ty)) ((a.heap.size, .cells C ty (0, 0)) :: Ls) :=
  h.new ((Below.refl _ _).alloc (Nat.le_refl _) _) (Nat.le_refl _) (heap_alloc_new _ _)

/-- a pair's cells: the inode of each client's descriptors -/
def pairC [MemNo] (t x r : Nat) (D : Nat → Nat → Nat) : Array Value := #[.pointer (some ⟨MemNo.no, 0, none⟩), .pointer (some ⟨t, 0, none⟩), .pointer (some ⟨x, 0, none⟩), .pointer (some ⟨r, 0, none⟩)] ++ ((List.range 64).map fun j => Value.int .i64 (D (j / 8) (j % 8) : Nat)).toArray
def oPair [MemNo] (t x r : Nat) (D : Nat → Nat → Nat) : Obj := .cells (pairC t x r D) 39 (0, 0)
theorem pairC_ptr [MemNo] {t x r : Nat} {D : Nat → Nat → Nat} : (pairC t x r D)[0]? = some (.pointer (some ⟨MemNo.no, 0, none⟩)) ∧ (pairC t x r D)[1]? = some (.pointer (some ⟨t, 0, none⟩)) ∧ (pairC t x r D)[2]? = some (.pointer (some ⟨x, 0, none⟩)) ∧ (pairC t x r D)[3]? = some (.pointer (some ⟨r, 0, none⟩)) := by
  unfold pairC
  exact ⟨(Array.getElem?_append_left (show 0 < 4 by decide)).trans rfl, (Array.getElem?_append_left (show 1 < 4 by decide)).trans rfl, (Array.getElem?_append_left (show 2 < 4 by decide)).trans rfl, (Array.getElem?_append_left (show 3 < 4 by decide)).trans rfl⟩
theorem pairC_fd [MemNo] {t x r : Nat} {D : Nat → Nat → Nat} {k fd : Nat} (hk : k < 8) (hfd : fd < 8) : (pairC t x r D)[4 + (8 * k + fd)]? = some (.int .i64 (D k fd : Nat)) := by
  unfold pairC
  rw [Array.getElem?_append_right (by show 4 ≤ _; omega)]
  rw [show (4 + (8 * k + fd) - #[Value.pointer (some ⟨MemNo.no, 0, none⟩), .pointer (some ⟨t, 0, none⟩), .pointer (some ⟨x, 0, none⟩), .pointer (some ⟨r, 0, none⟩)].size) = 8 * k + fd by show 4 + (8 * k + fd) - 4 = _; omega]
  rw [List.getElem?_toArray, List.getElem?_map, List.getElem?_range (by omega)]
  show some (Value.int .i64 (D ((8 * k + fd) / 8) ((8 * k + fd) % 8) : Nat)) = _
  rw [show (8 * k + fd) / 8 = k by omega, show (8 * k + fd) % 8 = fd by omega]
theorem pairC_size [MemNo] {t x r : Nat} {D : Nat → Nat → Nat} : (pairC t x r D).size = 68 := by
  unfold pairC
  rw [Array.size_append]
  show 4 + (List.map (fun j => Value.int .i64 (D (j / 8) (j % 8) : Nat)) (List.range 64)).length = 68
  rw [List.length_map, List.length_range]
/-- a descriptor is set -/
theorem pairC_set [MemNo] {t x r : Nat} {D : Nat → Nat → Nat} {k fd i : Nat} (hk : k < 8) (hfd : fd < 8) : (pairC t x r D).setIfInBounds (4 + (8 * k + fd)) (.int .i64 (i : Nat)) = pairC t x r (fun a b => if a = k ∧ b = fd then i else D a b) := by
  apply Array.ext_getElem?
  intro j
  rw [Array.getElem?_setIfInBounds]
  by_cases e : 4 + (8 * k + fd) = j
  · rw [if_pos e, if_pos (by rw [pairC_size]; omega), ← e, pairC_fd hk hfd, if_pos ⟨rfl, rfl⟩]
  · rw [if_neg e]
    unfold pairC
    by_cases hj : j < 4
    · rw [Array.getElem?_append_left (by exact hj), Array.getElem?_append_left (by exact hj)]
    · rw [Array.getElem?_append_right (by show 4 ≤ j; omega), Array.getElem?_append_right (by show 4 ≤ j; omega)]
      show (List.map _ _).toArray[j - 4]? = (List.map _ _).toArray[j - 4]?
      rw [List.getElem?_toArray, List.getElem?_toArray, List.getElem?_map, List.getElem?_map]
      by_cases h64 : j - 4 < 64
      · rw [List.getElem?_range h64]
        dsimp only [Option.map]
        rw [if_neg]
        intro e2
        omega
      · rw [List.getElem?_eq_none (by rw [List.length_range]; omega)]
        rfl

end Go.Proofs.YthbonbcbbngciaaGreatDoor

/- Walks: commonslaw14: begin, with the document beside it. -/
namespace Go.Proofs.YthbonbcbbngciaaGreatDoor
open Go.RowKit Go.Shelf

attribute [local go_sem] Oper.semAt_some

section
theorem Tl.of_step0 [MemNo] {x t c K : Nat} {S : List UInt8} {M : Gd.Vol} {F4 F6 : Nat → Prop} {w a b : World} (hb : Below w.heap.size w a) (hF : ∀ k, F4 k → w.heap.size ≤ k) (h : Step (MetaV x t S M c K) F4 a F6 b) : Tl x t S M c K Nof w b [] := by
  refine ⟨F6, ⟨h.inv, fun k hk h6 => ?_, (below_only hb Nof).trans h.only fun j hj hj2 => ?_⟩, fun p hp => by cases hp⟩
  · have := hF k (h.old k (Nat.lt_of_lt_of_le hk hb.size) h6)
    omega
  · have := hF j hj2
    omega
theorem pair_zero : Tryz.zeroCells39 = #[.pointer none, .pointer none, .pointer none, .pointer none] ++ ((List.range 64).map fun _ => Value.int .i64 0).toArray := by kernel_rfl
set_option maxRecDepth 100000 in
theorem pair_new [MemNo] (t x r : Nat) : (((Tryz.zeroCells39.setIfInBounds 0 (.pointer (some ⟨MemNo.no, 0, none⟩))).setIfInBounds 1 (.pointer (some ⟨t, 0, none⟩))).setIfInBounds 2 (.pointer (some ⟨x, 0, none⟩))).setIfInBounds 3 (.pointer (some ⟨r, 0, none⟩)) = pairC t x r fun _ _ => 0 := by
  apply Array.ext_getElem?
  intro j
  rw [pair_zero]
  unfold pairC
  by_cases hj : j < 4
  · rw [Array.getElem?_append_left (show j < 4 from hj), Array.getElem?_setIfInBounds]
    by_cases h3 : 3 = j
    · subst h3
      rw [if_pos rfl, if_pos (by simp)]
      rfl
    rw [if_neg h3, Array.getElem?_setIfInBounds]
    by_cases h2 : 2 = j
    · subst h2
      rw [if_pos rfl, if_pos (by simp)]
      rfl
    rw [if_neg h2, Array.getElem?_setIfInBounds]
    by_cases h1 : 1 = j
    · subst h1
      rw [if_pos rfl, if_pos (by simp)]
      rfl
    rw [if_neg h1, Array.getElem?_setIfInBounds]
    have h0 : 0 = j := by omega
    subst h0
    rw [if_pos rfl, if_pos (by simp)]
    rfl
  · rw [Array.getElem?_setIfInBounds_ne (by omega), Array.getElem?_setIfInBounds_ne (by omega), Array.getElem?_setIfInBounds_ne (by omega), Array.getElem?_setIfInBounds_ne (by omega), Array.getElem?_append_right (by show 4 ≤ j; omega), Array.getElem?_append_right (by show 4 ≤ j; omega)]
    rfl
end

set_option maxHeartbeats 8000000 in
set_option maxRecDepth 100000 in
/-- begin: a volume that was formatted, and the document's file system, both without anything -/
theorem pbegin_any (w : World) : Calls Tryz.prog 22 #[] w fun e w' => ∃ (mn : MemNo) (p x t r : Nat) (S V : List UInt8), e = .returned (.pointer (some ⟨p, 0, none⟩)) ∧ PSt x t r S (Gd.freshV V) newFS 0 2000000 w w' [(p, oPair t x r fun _ _ => 0)] := by
  have HP : Hid (Calls Tryz.prog 10 #[.int .i64 23168] w (NewMem w 2896 23168)) := Lib.hid (pnew_any 2896 (by omega) (by omega) (by omega) w)
  go_enter Tryz.func22, Tryz.ntmps22
  go_wp2_with fail
  refine HP.out.mono ?_
  rintro e w1 ⟨m, sb, lb, ab, rfl, hM1, hb1, hlow1, hge1⟩
  obtain ⟨mn, hmn⟩ : ∃ mn : MemNo, m = mn.no := ⟨⟨m⟩, rfl⟩
  have Hmn := Lib.hid hmn
  clear hmn
  obtain ⟨S, hS⟩ : ∃ S : List UInt8, S = List.replicate 23168 0 := ⟨_, rfl⟩
  have hSl : S.length = 23168 := by rw [hS, List.length_replicate]
  have hSe : Gd.part S 2688 8 = Gd.le 0 8 := by rw [hS]; exact zeros_log
  rw [← hS] at hM1
  have HM1 := Lib.hid hM1
  have HS := Lib.hid (And.intro hSl hSe)
  have HB1 := Lib.hid hb1
  have HGe := Lib.hid hge1
  clear HP hM1 hb1 hlow1 hge1 hS hSl hSe
  go_wp2_with fail
  refine (lnew_any w1 HM1.out HS.out.1).mono ?_
  rintro e w2 ⟨rfl, hw2⟩
  have hb2 : Below w1.heap.size w1 w2 := by rw [hw2]; exact (Below.refl _ _).alloc (Nat.le_refl _) _
  have HL2 : Hid (LogAt w2 w1.heap.size m 2688 4096) := Lib.hid (by rw [hw2]; exact heap_alloc_new _ _)
  have HM2 := Lib.hid (HM1.out.below hb2)
  have HB2 := Lib.hid (HB1.out.trans (hb2.mono HB1.out.size))
  obtain ⟨g, hg⟩ : ∃ g, g = w1.heap.size := ⟨_, rfl⟩
  have Hg : Hid (w.heap.size ≤ g) := Lib.hid (by rw [hg]; exact HB1.out.size)
  rw [← hg] at HL2 ⊢
  clear hw2 hb2 hg
  go_wp2_with fail
  refine (tnew_any m g w2).mono ?_
  rintro e w3 ⟨rfl, hw3⟩
  have hb3 : Below w2.heap.size w2 w3 := by rw [hw3]; exact (Below.refl _ _).alloc (Nat.le_refl _) _
  have hT3 : w3.heap[w2.heap.size]? = some (.cells #[.pointer (some ⟨m, 0, none⟩), .pointer (some ⟨g, 0, none⟩), .slice none 0 0] 98 (0, 0)) := by rw [hw3]; exact heap_alloc_new _ _
  obtain ⟨t, ht⟩ : ∃ t, t = w2.heap.size := ⟨_, rfl⟩
  have Ht : Hid (w.heap.size ≤ t) := Lib.hid (by rw [ht]; exact HB2.out.size)
  rw [← ht] at hT3 ⊢
  have HT3 := Lib.hid (txn_start (w := w) (HM2.out.below hb3) HGe.out Hg.out ((hb3.block g (lt_get HL2.out)).trans HL2.out) Ht.out hT3 Hmn.out)
  have HB3 := Lib.hid (HB2.out.trans (hb3.mono HB2.out.size))
  clear hw3 hb3 hT3 ht HM1 HM2 HL2
  go_wp2_with fail
  refine (xnew_any w3 HT3.out HS.out.1).mono ?_
  rintro e w4 ⟨x, rfl, hx, hx4, hb4⟩
  have HT4 : Hid (TxnF t S [] 0 w4 fun k => w.heap.size ≤ k ∧ k < x) := Lib.hid ((TxnF.held t S [] 0).below ((TxnF.held t S [] 0).mono HT3.out fun k hk e => ⟨e, Nat.lt_of_lt_of_le hk hx⟩) hb4)
  have HM4 := Lib.hid (meta_start HT4.out (Nat.le_trans HB3.out.size hx) hx4 HS.out.1 HS.out.2)
  have HB4 := Lib.hid (HB3.out.trans (hb4.mono HB3.out.size))
  clear hx hx4 hb4 HT3 HT4
  have HFm : Hid (Calls Tryz.prog 15 #[.pointer (some ⟨x, 0, none⟩)] w4 fun e b => e = .returned (.int .i64 0) ∧ Tl x t S (Gd.freshV S) 50 0 Nof w b []) := Lib.hid ((format_any w4 HM4.out (by omega)).mono (by
    rintro e b ⟨rfl, F6, hs⟩
    exact ⟨rfl, Tl.of_step0 HB4.out (fun k hk => hk.1) (hs.mono fun hi => ⟨_, hi, Gd.fresh_good HS.out.1⟩)⟩))
  clear HM4
  go_wp2_with fail
  refine HFm.out.mono ?_
  rintro e w6 ⟨rfl, hT6⟩
  have HCm := Lib.hid (hT6.commit (by omega) (by omega))
  clear hT6 HFm
  go_wp2_with fail
  refine HCm.out.mono ?_
  rintro e w7 ⟨rfl, S7, hT7⟩
  have HT7 := Lib.hid hT7
  clear hT7 HCm
  go_wp2_with fail
  refine (rnew_any w7).mono ?_
  rintro e w8 ⟨rfl, hR8, hb8⟩
  have HP8 : Hid (PSt x t w7.heap.size S7 (Gd.freshV S) newFS 0 2000000 w w8 []) := Lib.hid (by
    obtain ⟨F', h1, -⟩ := HT7.out
    have hw := HT7.out.size
    exact ⟨F', fun k => w7.heap.size ≤ k ∧ k < w8.heap.size, ⟨h1.inv.below hb8, h1.old, h1.only.trans (below_only hb8 Nof) fun _ _ e => e⟩, (RefF.held _ _).mono hR8 fun k hk e => ⟨e, hk⟩, fun k hk => ⟨Nat.le_trans hw hk.1, hk.2, fun hf => absurd (h1.inv.tight k hf) (Nat.not_lt.2 hk.1)⟩, fun p hp => by cases hp⟩)
  clear hR8 hb8
  go_wp2
  go_ret
  exact ⟨mn, _, x, t, w7.heap.size, S7, S, rfl, HP8.out.new ((Below.refl _ _).alloc (Nat.le_refl _) _) (Nat.le_refl _) ((heap_alloc_new _ _).trans (congrArg (fun C => some (Obj.cells C 39 (0, 0))) (by rw [Hmn.out]; exact pair_new t x _)))⟩

end Go.Proofs.YthbonbcbbngciaaGreatDoor

/- Walks: commonslaw14: begin. -/
namespace Go.Proofs.YthbonbcbbngciaaGreatDoor
open Go.RowKit Go.Shelf

section
/-- a pair at p: a metadata object over a volume that was formatted -/
def Par [MemNo] (p x t : Nat) (S Z : List UInt8) (w a : World) : Prop := ∃ C : Array Value, C[2]? = some (.pointer (some ⟨x, 0, none⟩)) ∧ Tl x t S (Gd.freshV Z) 0 2000000 Nof w a [(p, .cells C 39 (0, 0))]

end
theorem begin14_any (w : World) : Calls Tryz.prog 22 #[] w fun e w' => ∃ (mn : MemNo) (p x t : Nat) (S Z : List UInt8), e = .returned (.pointer (some ⟨p, 0, none⟩)) ∧ Par p x t S Z w w' := by
  refine (pbegin_any w).mono ?_
  rintro e w' ⟨mn, p, x, t, r, S, V, rfl, h⟩
  exact ⟨mn, p, x, t, S, V, rfl, pairC t x r fun _ _ => 0, pairC_ptr.2.2.1, h.tl⟩

end Go.Proofs.YthbonbcbbngciaaGreatDoor

/- Walks: commonslaw14: lives. -/
namespace Go.Proofs.YthbonbcbbngciaaGreatDoor
open Go.RowKit Go.Shelf

attribute [local go_sem] Oper.semAt_some

def oInf : Obj := .cells #[.int .i64 2, .int .i64 1, .int .i64 1] 65 (0, 0)
def oIno (y : Gd.Ino) : Obj := .cells (inoC y) 61 (0, 0)

set_option maxHeartbeats 8000000 in
set_option maxRecDepth 100000 in
theorem lives14_any (w : World) (hM : Mx w) : Calls Tryz.prog 21 #[] w fun e w' => e = .returned (.bool true) ∧ Below w.heap.size w w' := by
  obtain ⟨mx, hmx⟩ := hM
  have HMx := Lib.hid (And.intro hmx (mx_lt hmx))
  have HBg := Lib.hid (begin14_any w)
  obtain ⟨y, hy⟩ : ∃ y, y = (newF.setO 0 1).setL 0 := ⟨_, rfl⟩
  have HS := Lib.hid (inoC_size (x := y) (by rw [hy]; exact ⟨rfl, rfl⟩))
  have HSh : Hid (y.Shape) := Lib.hid (by rw [hy]; exact ⟨rfl, rfl⟩)
  have HK : Hid (y.k = 1) := Lib.hid (by rw [hy]; rfl)
  have Hy := Lib.hid hy
  obtain ⟨z, hz⟩ : ∃ z, z = Gd.noIno := ⟨_, rfl⟩
  have HSz := Lib.hid (inoC_size (x := z) (by rw [hz]; exact ⟨rfl, rfl⟩))
  have HShz : Hid (z.Shape) := Lib.hid (by rw [hz]; exact ⟨rfl, rfl⟩)
  have HKz : Hid (z.k = 0) := Lib.hid (by rw [hz]; rfl)
  have Hz := Lib.hid hz
  clear hmx hy hz
  go_enter Tryz.func21, Tryz.ntmps21
  go_wp2_with fail
  refine HBg.out.mono ?_
  rintro e w1 ⟨mn, p, x, t, S, Z, rfl, C, hC, hT1⟩
  have HT1 := Lib.hid hT1
  have HCx : Hid (∀ {W : World}, W.heap[p]? = some (.cells C 39 (0, 0)) → W.cell? ⟨p, 2, none⟩ = some (.pointer (some ⟨x, 0, none⟩))) := Lib.hid fun h => (cell_of_row _ p 2 _ _ _ h).trans hC
  have HMw : Hid (∀ {a : World} {c K : Nat} {N : Gd.Vol} {Ls : List (Nat × Obj)}, Tl x t S N c K Nof w a Ls → a.cell? ⟨0, 0, none⟩ = some (.int .i64 mx) ∧ 0 < a.heap.size) := Lib.hid fun h => ⟨(h.belowW.cell (p := ⟨0, 0, none⟩) HMx.out.2).trans HMx.out.1, Nat.lt_of_lt_of_le HMx.out.2 h.size⟩
  have HMk := Lib.hid (lv_mkdir mx hT1 (HMw.out hT1).1 (HMw.out hT1).2)
  have c2 := HCx.out (hT1.get (k := p) (o := .cells C 39 (0, 0)) (by simp))
  clear hT1 hC HBg
  go_wp2_with fail
  refine HMk.out.mono ?_
  rintro e w2 ⟨rfl, N1, hL1, hT2⟩
  have HL1 := Lib.hid hL1
  have HT2 := Lib.hid hT2
  have HOp := Lib.hid (lv_open mx hT2 hL1 (HMw.out hT2).1 (HMw.out hT2).2)
  have c3 := HCx.out (hT2.get (k := p) (o := .cells C 39 (0, 0)) (by simp))
  clear hT2 hL1 HMk c2 HT1
  go_wp2_with fail
  refine HOp.out.mono ?_
  rintro e w3 ⟨rfl, N2, hL2, hT3⟩
  have HL2 := Lib.hid hL2
  have HT3 := Lib.hid hT3
  have HSt := Lib.hid (lv_stat mx hT3 hL2 (HMw.out hT3).1 (HMw.out hT3).2)
  have c2 := HCx.out (hT3.get (k := p) (o := .cells C 39 (0, 0)) (by simp))
  clear hT3 hL2 HOp c3 HT2 HL1
  go_wp2_with fail
  refine HSt.out.mono ?_
  rintro e w4 ⟨rfl, hb4⟩
  have HT4 := Lib.hid (HT3.out.below hb4)
  clear hb4 HSt c2 HT3
  obtain ⟨w5, hw5⟩ : ∃ u, u = w4.alloc oInf := ⟨_, rfl⟩
  obtain ⟨sb, hsb⟩ : ∃ sb, sb = w4.heap.size := ⟨_, rfl⟩
  have hT5 : Tl x t S N2 10 2000000 Nof w w5 [(sb, oInf), (p, .cells C 39 (0, 0))] := by
    rw [hw5, hsb]
    exact HT4.out.new ((Below.refl _ _).alloc (Nat.le_refl _) _) (Nat.le_refl _) (heap_alloc_new _ _)
  have HT5 := Lib.hid hT5
  have HUn := Lib.hid (lv_unlink mx hT5 HL2.out (HMw.out hT5).1 (HMw.out hT5).2)
  have c3 := HCx.out (hT5.get (k := p) (o := .cells C 39 (0, 0)) (by simp))
  have HW5 := Lib.hid hw5.symm
  have Hsb := Lib.hid hsb.symm
  unfold oInf at HW5
  clear hT5 hw5 hsb
  go_upto_region 7 with fail
  rw [HW5.out, Hsb.out]
  go_wp2_with fail
  refine HUn.out.mono ?_
  rintro e w6 ⟨rfl, N3, hN3, hT6⟩
  have HT6 := Lib.hid hT6
  have HN3 := Lib.hid hN3
  have HI6 := Lib.hid (hT6.fino 3 (by omega) (by omega))
  rw [show ((3 : Int)).toNat = 3 from rfl, hN3, ← Hy.out] at HI6
  unfold inoV at HI6
  have c2 := HCx.out (hT6.get (k := p) (o := .cells C 39 (0, 0)) (by simp))
  clear hT6 hN3 HUn c3 HT4 HT5 HL2
  go_upto_region 9 with (first | (go_at_call 26; refine HI6.out.mono ?_; rintro e w7 ⟨rfl, hb7⟩; have HT7 := Lib.hid (HT6.out.below hb7); clear hb7) | (rw [← zIno_lit]; refine wpList_store_mid rfl 61 _ _ rfl w7.heap.size 0 (inoC y) rfl rfl (there_at (heap_alloc_new _ _) (by rw [zIno_size, HS.out])) (by rw [HS.out]; exact Tryz.sizeIno) (inoC_one _) ?_; obtain ⟨hbw, hbg⟩ := new_whole2 w7 zIno 61 (inoC y).toList (by rw [zIno_size, Array.length_toList, HS.out]); generalize (World.setCells _ _ _ _) = w8 at hbw hbg ⊢; have HT8 := Lib.hid (HT7.out.new hbw (Nat.le_refl _) (o := oIno y) hbg); clear hbw hbg))
  obtain ⟨ib, hib⟩ : ∃ ib, ib = w7.heap.size := ⟨_, rfl⟩
  rw [← hib] at HT8 ⊢
  have HCl := Lib.hid (lv_close HT8.out HN3.out)
  have c3 := HCx.out (HT8.out.get (k := p) (o := .cells C 39 (0, 0)) (by simp))
  clear hib c2 HI6 HT7 HT6
  go_wp2_with fail
  refine HCl.out.mono ?_
  rintro e w9 ⟨rfl, N4, hN4, hT9⟩
  have HT9 := Lib.hid hT9
  have HI9 := Lib.hid (hT9.fino 3 (by omega) (by omega))
  rw [show ((3 : Int)).toNat = 3 from rfl, hN4, ← Hz.out] at HI9
  unfold inoV at HI9
  have c2 := HCx.out (hT9.get (k := p) (o := .cells C 39 (0, 0)) (by simp))
  clear hT9 hN4 HCl c3 HT8 HN3
  go_upto_region 11 with (first | (go_at_call 26; refine HI9.out.mono ?_; rintro e w10 ⟨rfl, hb10⟩; have HT10 := Lib.hid (HT9.out.below hb10); clear hb10) | (rw [← zIno_lit]; refine wpList_store_mid rfl 61 _ _ rfl w10.heap.size 0 (inoC z) rfl rfl (there_at (heap_alloc_new _ _) (by rw [zIno_size, HSz.out])) (by rw [HSz.out]; exact Tryz.sizeIno) (inoC_one _) ?_; obtain ⟨hbw, hbg⟩ := new_whole2 w10 zIno 61 (inoC z).toList (by rw [zIno_size, Array.length_toList, HSz.out]); generalize (World.setCells _ _ _ _) = w11 at hbw hbg ⊢; have HT11 := Lib.hid (HT10.out.new hbw (Nat.le_refl _) (o := oIno z) hbg); clear hbw hbg))
  obtain ⟨iz, hiz⟩ : ∃ iz, iz = w10.heap.size := ⟨_, rfl⟩
  rw [← hiz] at HT11 ⊢
  have hsr := HT11.out.get (k := sb) (o := oInf) (by simp)
  have s0 : w11.cell? ⟨sb, 0, none⟩ = some (.int .i64 2) := cell_of_row w11 sb 0 _ _ _ hsr
  have s1 : w11.cell? ⟨sb, 1, none⟩ = some (.int .i64 1) := cell_of_row w11 sb 1 _ _ _ hsr
  have s2 : w11.cell? ⟨sb, 2, none⟩ = some (.int .i64 1) := cell_of_row w11 sb 2 _ _ _ hsr
  have hiy : InoAt w11 ib y := ⟨HT11.out.get (k := ib) (by simp [oIno]), HSh.out⟩
  have i0 := hiy.c0
  rw [HK.out] at i0
  have hiz0 : InoAt w11 iz z := ⟨HT11.out.get (k := iz) (by simp [oIno]), HShz.out⟩
  have z0 := hiz0.c0
  rw [HKz.out] at z0
  have HB11 := Lib.hid HT11.out.belowW
  clear hiz hsr hiy hiz0 c2 HI9 HT10 HT9 HT11
  go_wp2_with fail
  go_ret
  exact ⟨rfl, HB11.out⟩

end Go.Proofs.YthbonbcbbngciaaGreatDoor

/- Walks: a store that is not within; a log in a small memory; no metadata. -/
namespace Go.Proofs.YthbonbcbbngciaaGreatDoor
open Go.RowKit Go.Shelf

attribute [local go_sem] Oper.semAt_some

set_option maxHeartbeats 4000000 in
set_option maxRecDepth 100000 in
theorem mstore_bad {m sb lb ab n K : Nat} {S : List UInt8} (a : Nat) (v : Value) (b : List UInt8) (w : World) (h : MemAt w m sb lb ab n S K) (hb : BytesAt w v b) (ha : a ≤ 1000000) (hk : b.length ≤ 100000) (hak : S.length < a + b.length) :
    Calls Tryz.prog 11 #[.pointer (some ⟨m, 0, none⟩), .int .i64 a, v] w fun e w' => e = .returned (.int .i64 1) ∧ w' = w := by
  obtain ⟨A, c, rfl, hA⟩ := hb
  have HW := Lib.hid (within_any (a : Int) (b.length : Int) (nat_I64 (by omega)) (nat_I64 (by omega)) w h)
  have hwb : (decide (0 ≤ (a : Int)) && (decide (0 ≤ (b.length : Int)) && decide ((a : Int) + (b.length : Nat) ≤ S.length))) = false := by
    rw [Bool.eq_false_iff]
    intro e
    simp only [Bool.and_eq_true, decide_eq_true_eq] at e
    omega
  rw [hwb] at HW
  obtain ⟨N, hN⟩ : ∃ N, N = b.length := ⟨_, rfl⟩
  rw [← hN] at HW hak hk ⊢
  clear h hA hN hwb hak
  go_enter Tryz.func11, Tryz.ntmps11
  go_wp2_with (go_at_call 37; refine HW.out.mono ?_; rintro e w2 ⟨rfl, rfl⟩)
  go_ret
  exact ⟨rfl, rfl⟩

set_option maxHeartbeats 4000000 in
set_option maxRecDepth 100000 in
theorem lnew_small {m sb lb ab n K : Nat} {S : List UInt8} (w : World) (h : MemAt w m sb lb ab n S K) (hS : S.length = 128) : Calls Tryz.prog 12 #[.pointer (some ⟨m, 0, none⟩), .int .i64 0, .int .i64 128] w fun e w' => ∃ g, e = .returned (.pointer (some ⟨g, 0, none⟩)) ∧ Below w.heap.size w w' := by
  have HSz := size_any w h
  rw [hS] at HSz
  have HSz := Lib.hid HSz
  clear h
  go_enter Tryz.func12, Tryz.ntmps12
  go_wp2_with fail
  refine HSz.out.mono ?_
  rintro e w1 ⟨rfl, rfl⟩
  go_wp2
  go_ret
  exact ⟨_, rfl, (Below.refl _ _).alloc (Nat.le_refl _) _⟩

set_option maxHeartbeats 4000000 in
set_option maxRecDepth 100000 in
theorem xnew_small {m t g K sb lb ab n : Nat} {S : List UInt8} (w : World) (h : MemAt w m sb lb ab n S K) (hS : S.length = 64) (ht : w.heap[t]? = some (.cells #[.pointer (some ⟨m, 0, none⟩), .pointer (some ⟨g, 0, none⟩), .slice none 0 0] 98 (0, 0))) : Calls Tryz.prog 14 #[.pointer (some ⟨t, 0, none⟩)] w fun e w' => e = .returned (.pointer none) ∧ Below w.heap.size w w' := by
  have HLd : Hid (∀ W, Below w.heap.size w W → Calls Tryz.prog 39 #[.pointer (some ⟨t, 0, none⟩), .int .i64 0, .int .i64 23168] W (Fails W)) := Lib.hid (by
    intro W hW
    have hM : MemAt W m sb lb ab n S K := h.keep fun k hk => hW.block k (h.lts k hk)
    have HMl := Lib.hid (mload_bad 0 23168 (nat_I64 (n := 0) (by omega)) (nat_I64 (n := 23168) (by omega)) W (F := fun _ => True) ⟨sb, lb, ab, n, hM, trivial, trivial, trivial, trivial⟩ (by omega))
    obtain ⟨c0, _, _⟩ := cell2 ((hW.block t (lt_get ht)).trans ht)
    clear hM h ht
    go_enter Tryz.func39, Tryz.ntmps39
    go_wp2_with fail
    refine HMl.out.mono ?_
    rintro e w1 ⟨rfl, rfl⟩
    go_wp2
    go_ret2
    exact ⟨rfl, rfl⟩)
  clear h hS ht
  go_enter Tryz.func14, Tryz.ntmps14
  go_wp2_with fail
  refine (size_any5 _).mono ?_
  rintro e w1 ⟨rfl, hb1⟩
  have HB1 := Lib.hid hb1
  clear hb1
  go_wp2_with fail
  refine (HLd.out w1 HB1.out).mono ?_
  rintro e w2 ⟨rfl, rfl⟩
  go_wp2
  go_ret
  exact ⟨rfl, HB1.out⟩

set_option maxHeartbeats 4000000 in
set_option maxRecDepth 100000 in
theorem xnew_nil (w : World) : Calls Tryz.prog 14 #[.pointer none] w fun e w' => e = .returned (.pointer none) ∧ w' = w := by
  go_enter Tryz.func14, Tryz.ntmps14
  go_wp2
  go_ret
  exact ⟨rfl, rfl⟩

end Go.Proofs.YthbonbcbbngciaaGreatDoor

/- The whole of a volume hangs together, in plain words. -/
namespace Go.Proofs.YthbonbcbbngciaaGreatDoor
namespace Gd
theorem and_pow (c b : Nat) : (c &&& 2 ^ b != 0) = c.testBit b := by
  cases h : c.testBit b with
  | true =>
    rw [bne_iff_ne]
    intro e
    have : (c &&& 2 ^ b).testBit b = true := by rw [Nat.testBit_and, h, Nat.testBit_two_pow_self, Bool.and_self]
    rw [e, Nat.zero_testBit] at this
    cases this
  | false =>
    have : c &&& 2 ^ b = 0 := by
      apply Nat.eq_of_testBit_eq
      intro i
      rw [Nat.testBit_and, Nat.testBit_two_pow, Nat.zero_testBit]
      by_cases e : b = i
      · rw [← e, h]
        rfl
      · rw [decide_eq_false e, Bool.and_false]
    rw [this]
    rfl
theorem bit_ext {c d : Nat} (hc : c < 256) (hd : d < 256) (h : ∀ b, b < 8 → (c &&& 2 ^ b != 0) = (d &&& 2 ^ b != 0)) : c = d := by
  apply Nat.eq_of_testBit_eq
  intro i
  by_cases hi : i < 8
  · have := h i hi
    rw [and_pow, and_pow] at this
    exact this
  · have e : (256 : Nat) ≤ 2 ^ i := by
      have : 2 ^ 8 ≤ 2 ^ i := Nat.pow_le_pow_right (by omega) (by omega)
      omega
    rw [Nat.testBit_lt_two_pow (by omega), Nat.testBit_lt_two_pow (by omega)]
theorem map_ext {m o : List UInt8} (hm : m.length = 16) (ho : o.length = 16) (h : ∀ n, 1 ≤ n → n ≤ 128 → usedB m n = usedB o n) : m = o := by
  apply List.ext_getElem (by omega)
  intro i h1 h2
  apply UInt8.toNat_inj.1
  apply bit_ext (UInt8.toNat_lt _) (UInt8.toNat_lt _)
  intro b hb
  have := h (8 * i + b + 1) (by omega) (by omega)
  unfold usedB byteAt bitOf at this
  rw [show (8 * i + b + 1 - 1) / 8 = i by omega, show (8 * i + b + 1 - 1) % 8 = b by omega, List.getD_eq_getElem?_getD, List.getD_eq_getElem?_getD, List.getElem?_eq_getElem h1, List.getElem?_eq_getElem h2] at this
  exact this
theorem takeI_len (m : List UInt8) (n : Int) : (takeI m n).length = m.length := by
  unfold takeI
  split
  · exact take_length _ _
  · rfl
/-- the map in which just the blocks of a list are used -/
def takesL (L : List Int) : List UInt8 := L.foldl takeI (List.replicate 16 0)
theorem takesL_snoc (L : List Int) (n : Int) : takesL (L ++ [n]) = takeI (takesL L) n := by
  unfold takesL
  rw [List.foldl_append]
  rfl
theorem foldl_takeI_len : ∀ (L : List Int) (m : List UInt8), (L.foldl takeI m).length = m.length
  | [], _ => rfl
  | n :: r, m => by
    rw [List.foldl_cons, foldl_takeI_len r, takeI_len]
theorem takesL_len (L : List Int) : (takesL L).length = 16 := by
  unfold takesL
  rw [foldl_takeI_len]
  exact List.length_replicate
theorem foldl_used : ∀ (L : List Int) (m : List UInt8), m.length = 16 → ∀ n, 1 ≤ n → n ≤ 128 → (usedB (L.foldl takeI m) n = true ↔ (n : Int) ∈ L ∨ usedB m n = true)
  | [], m, _, n, _, _ => by simp
  | a :: r, m, hm, n, n1, n2 => by
    rw [List.foldl_cons, foldl_used r _ (by rw [takeI_len]; exact hm) n n1 n2, List.mem_cons]
    unfold takeI isBlk
    by_cases ha : 1 ≤ a ∧ a ≤ 128
    · rw [if_pos (by simpa using ha), used_take hm (by omega) (by omega) n1 n2, Bool.or_eq_true, decide_eq_true_iff]
      constructor
      · rintro (h | h | h)
        · exact Or.inl (Or.inr h)
        · exact Or.inl (Or.inl (by omega))
        · exact Or.inr h
      · rintro ((h | h) | h)
        · exact Or.inr (Or.inl (by omega))
        · exact Or.inl h
        · exact Or.inr (Or.inr h)
    · rw [if_neg (by simpa using ha)]
      constructor
      · rintro (h | h)
        · exact Or.inl (Or.inr h)
        · exact Or.inr h
      · rintro ((h | h) | h)
        · omega
        · exact Or.inl h
        · exact Or.inr h
theorem takesL_used (L : List Int) {n : Nat} (n1 : 1 ≤ n) (n2 : n ≤ 128) : usedB (takesL L) n = true ↔ (n : Int) ∈ L := by
  unfold takesL
  rw [foldl_used L _ List.length_replicate n n1 n2, used_zero]
  simp
/-- the blocks of the first inodes -/
def blksD (M : Vol) : Nat → List Int
  | 0 => []
  | i + 1 => blksD M i ++ (M.ino (i + 1)).B
theorem mem_blks (M : Vol) (n : Int) : ∀ i, n ∈ blksD M i ↔ ∃ j k : Nat, 1 ≤ j ∧ j ≤ i ∧ (M.ino j).B[k]? = some n
  | 0 => ⟨fun h => (by cases h), fun ⟨j, k, h1, h2, _⟩ => (by omega)⟩
  | i + 1 => by
    unfold blksD
    rw [List.mem_append, mem_blks M n i]
    constructor
    · rintro (⟨j, k, h1, h2, h3⟩ | h)
      · exact ⟨j, k, h1, by omega, h3⟩
      · obtain ⟨k, hk⟩ := List.mem_iff_getElem?.1 h
        exact ⟨i + 1, k, by omega, by omega, hk⟩
    · rintro ⟨j, k, h1, h2, h3⟩
      by_cases e : j = i + 1
      · subst e
        exact Or.inr (List.mem_of_getElem? h3)
      · exact Or.inl ⟨j, k, h1, by omega, h3⟩
/-- a block was not used ahead of its inode -/
theorem Sound.fresh {M : Vol} (h : Sound M) {i k : Nat} {n : Int} (hi : i + 1 ≤ 32) (hn : (M.ino (i + 1)).B[k]? = some n) (h0 : n ≠ 0) : usedI (takesL (blksD M i ++ (M.ino (i + 1)).B.take k)) n = false := by
  unfold usedI isBlk
  by_cases hb : 1 ≤ n ∧ n ≤ 128
  · have e : n = (n.toNat : Int) := by omega
    rw [Bool.and_eq_false_iff]
    right
    rw [Bool.eq_false_iff]
    intro hu
    rw [takesL_used _ (by omega) (by omega), ← e, List.mem_append, mem_blks] at hu
    rcases hu with ⟨j, q, j1, j2, hq⟩ | hu
    · have := (h.one _ _ _ _ n j1 (by omega) (by omega) hi hq hn h0).1
      omega
    · obtain ⟨q, hq⟩ := List.mem_iff_getElem?.1 hu
      rw [List.getElem?_take] at hq
      split at hq
      · rename_i hlt
        have := (h.one _ _ _ _ n (by omega) hi (by omega) hi hq hn h0).2
        omega
      · cases hq
  · rw [Bool.and_eq_false_iff]
    left
    simpa using hb
theorem Sound.all {M : Vol} (h : Sound M) : takesL (blksD M 32) = M.map := by
  refine map_ext (takesL_len _) h.mapl fun n n1 n2 => ?_
  rw [Bool.eq_iff_iff, takesL_used _ n1 n2, mem_blks, h.used n n1 n2]
/-- how many of a table's first entries have a name -/
def namedT (T : Tab) (k : Nat) : Nat := ((T.take k).filter fun e => decide (e.s ≠ [])).length
/-- how many of a table's first entries lead to an inode -/
def linkT (T : Tab) (k t : Nat) : Nat := ((T.take k).filter fun e => decide (e.s ≠ []) && decide (e.i = t)).length
theorem namedT_step {T : Tab} (hT : T.length = 16) {k : Nat} (hk : k < 16) : namedT T (k + 1) = namedT T k + if (entAt T k).s ≠ [] then 1 else 0 := by
  unfold namedT
  rw [List.take_add_one, entAt_get hT hk, List.filter_append, List.length_append]
  by_cases h : (entAt T k).s ≠ []
  · rw [if_pos h]
    simp [h]
  · rw [if_neg h]
    simp only [ne_eq, Decidable.not_not] at h
    simp [h]
theorem linkT_step {T : Tab} (hT : T.length = 16) {k : Nat} (hk : k < 16) (t : Nat) : linkT T (k + 1) t = linkT T k t + if (entAt T k).s ≠ [] ∧ (entAt T k).i = t then 1 else 0 := by
  unfold linkT
  rw [List.take_add_one, entAt_get hT hk, List.filter_append, List.length_append]
  by_cases h : (entAt T k).s ≠ [] ∧ (entAt T k).i = t
  · rw [if_pos h]
    simp [h]
  · rw [if_neg h]
    have : (decide ((entAt T k).s ≠ []) && decide ((entAt T k).i = t)) = false := by simpa using h
    simp only [Option.toList_some, List.filter_cons, this]
    simp
theorem namedT_le (T : Tab) (k : Nat) : namedT T k ≤ k := by
  unfold namedT
  have := List.length_filter_le (fun e : Ent => decide (e.s ≠ [])) (T.take k)
  rw [List.length_take] at this
  omega
theorem linkT_le (T : Tab) (k t : Nat) : linkT T k t ≤ k := by
  unfold linkT
  have := List.length_filter_le (fun e : Ent => decide (e.s ≠ []) && decide (e.i = t)) (T.take k)
  rw [List.length_take] at this
  omega
/-- how many entries of the first inodes' tables lead to an inode -/
def linkD (M : Vol) (T : Nat → Tab) (t : Nat) : Nat → Nat
  | 0 => 0
  | i + 1 => linkD M T t i + if (M.ino (i + 1)).k = 2 then linkT (T (i + 1)) 16 t else 0
theorem linkD_le (M : Vol) (T : Nat → Tab) (t : Nat) : ∀ i, linkD M T t i ≤ 16 * i
  | 0 => Nat.le_refl 0
  | i + 1 => by
    unfold linkD
    have := linkD_le M T t i
    have := linkT_le (T (i + 1)) 16 t
    split <;> omega
/-- blocks, inodes and names hang together -/
structure Snd (M : Vol) (T : Nat → Tab) : Prop where
  tree : Tree M T
  sound : Sound M
  size : ∀ d, 1 ≤ d → d ≤ 32 → (M.ino d).k = 2 → (M.ino d).s = (namedT (T d) 16 : Nat)
  none : ∀ i, 1 ≤ i → i ≤ 32 → (M.ino i).k = 0 → linkD M T i 32 = 0
  dirs : ∀ i, 1 ≤ i → i ≤ 32 → (M.ino i).k = 2 → linkD M T i 32 = if i = 1 then 0 else 1
  files : ∀ i, 1 ≤ i → i ≤ 32 → (M.ino i).k = 1 → (M.ino i).l = (linkD M T i 32 : Nat) ∧ ((M.ino i).l = 0 → (M.ino i).O.sum ≠ 0)
theorem linkT_none (k t : Nat) : linkT noTab k t = 0 := by
  unfold linkT noTab
  rw [List.take_replicate, List.length_eq_zero_iff, List.filter_eq_nil_iff]
  intro e he
  rw [List.eq_of_mem_replicate he]
  simp [noEnt]
theorem linkD_none (M : Vol) (t : Nat) : ∀ i, linkD M (fun _ => noTab) t i = 0
  | 0 => rfl
  | i + 1 => by
    unfold linkD
    rw [linkD_none M t i, linkT_none]
    simp
theorem fresh_snd (S : List UInt8) : Snd (freshV S) fun _ => noTab := by
  refine ⟨fresh_tree S, fresh_sound S, fun d h1 h2 hk => ?_, fun i _ _ _ => linkD_none _ _ _, fun i h1 h2 hk => ?_, fun i h1 h2 hk => ?_⟩
  · have e : d = 1 := by
      by_cases e : d = 1
      · exact e
      · exact absurd (show (if d = 1 then rootI else noIno).k = 2 from hk) (by rw [if_neg e]; decide)
    subst e
    rfl
  · have e : i = 1 := by
      by_cases e : i = 1
      · exact e
      · exact absurd (show (if i = 1 then rootI else noIno).k = 2 from hk) (by rw [if_neg e]; decide)
    rw [if_pos e]
    exact linkD_none _ _ _
  · have : (if i = 1 then rootI else noIno).k = 1 := hk
    split at this <;> exact absurd this (by decide)
end Gd
end Go.Proofs.YthbonbcbbngciaaGreatDoor

/- Steps of regions by hand: a whole row is loaded; two things are held against each other. -/
namespace Go.Proofs.YthbonbcbbngciaaGreatDoor
open Go.RowKit

theorem exec_load_row {P : Program} {o : Oper} {ev : Operand → Value} {w : World} (ty : TypeId) (x : Operand) (ho : o.op = .load ty x)
    (g : Nat) (hx : ev x = .pointer (some ⟨g, 0, none⟩)) (t : TypeId) (cs : Array Value) (fr : Nat × Nat) (d : TypeDesc) (hg : w.heap[g]? = some (.cells cs t fr))
    (hu : P.underlying ty = some d) (hd : (match d with | .struct _ | .array _ _ => true | _ => false) = true) (hi : (P.info? ty).map (·.size) = some cs.size) : (execOp ev o).run P w = .ok (.value (.agg cs)) w := by
  unfold execOp
  simp only [ho, hx, Instr.loadAt, Instr.sureAddr, Sem.run_bind, Sem.run_pure, Result.andThen_ok, run_loadVar_row w g t ty cs fr d hg hu hd hi]
theorem wp_bin {P : Program} {o : Oper} {a : Act} {w : World} {K : Act → World → Prop} {Q : Exit → Act → World → Prop} (b : BinOp) (t ty : TypeId) (x y : Operand) (ho : o.op = .binOp b t x y ty) (u v r : Value) (hx : a.eval x = u) (hy : a.eval y = v)
    (hq : (eqGuard b t x y u v).run P w = .ok () w) (hr : (binOp b t u v).run P w = .ok r w) (h : K (a.put o.dst r) w) : o.wp P a w K Q := by
  unfold Oper.wp execOp
  simp only [ho, hx, hy, Sem.run_bind, Sem.run_pure, hq, hr, Result.andThen_ok]
  exact h
theorem Tryz.noGuardM : Tryz.prog.eqGuardType Tryz.prog.depth 45 = false := by kernel_rfl
theorem map_guard (o : BinOp) (x y : Operand) (cs ds : Array Value) (w : World) : (eqGuard o 45 x y (.agg cs) (.agg ds)).run Tryz.prog w = .ok () w := by
  have hp : ∀ w : World, (Sem.program Sem.pure : Sem Program).run Tryz.prog w = .ok Tryz.prog w := fun _ => rfl
  simp only [eqGuard]
  cases o <;> simp [program, hp, Tryz.noGuardM]
theorem map_same (m : List UInt8) (hm : m.length = 16) (w : World) : (binOp .eql 45 (mapV m) (mapV m)).run Tryz.prog w = .ok (.bool true) w := by
  have := arr_eql (t := 45) m m rfl (by rw [hm]; exact Tryz.underlying45) w
  rw [decide_eq_true rfl] at this
  exact this

end Go.Proofs.YthbonbcbbngciaaGreatDoor
