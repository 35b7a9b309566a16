/- Walks: commonslaw14: sound, of a volume that hangs together. -/
import Derived.Test.YthbonbcbbngciaaGreatDoorV20
import Derived.Test.YthbonbcbbngciaaGreatDoorV17
set_option linter.unusedVariables false
set_option linter.unusedSimpArgs false
set_option linter.unusedSectionVars false
namespace Go.Proofs.YthbonbcbbngciaaGreatDoor
open Go.RowKit Go.Shelf

attribute [local go_sem] Oper.semAt_some

/-- the inodes that were kept -/
def AllAt (w : World) (ab : Nat) (M : Gd.Vol) (i : Nat) : Prop := ∃ C : Array Value, w.heap[ab]? = some (.cells C 114 (0, 0)) ∧ C.size = 495 ∧ ∀ j : Nat, 1 ≤ j → j ≤ i → ∀ (q : Nat) (v : Value), (inoC (M.ino j)).toList[q]? = some v → C.toList[j * 15 + q]? = some v
theorem AllAt.keep {w w' : World} {ab i : Nat} {M : Gd.Vol} (h : AllAt w ab M i) (hb : w'.heap[ab]? = w.heap[ab]?) : AllAt w' ab M i := by
  obtain ⟨C, h1, h2, h3⟩ := h
  exact ⟨C, hb.trans h1, h2, h3⟩
theorem AllAt.lt {w : World} {ab i : Nat} {M : Gd.Vol} (h : AllAt w ab M i) : ab < w.heap.size := by
  obtain ⟨C, h1, h2, h3⟩ := h
  exact lt_get h1
theorem AllAt.there {w : World} {ab i : Nat} {M : Gd.Vol} (h : AllAt w ab M i) {j : Nat} (hj : j ≤ 32) : w.there ab (j * 15) 15 := by
  obtain ⟨C, h1, h2, h3⟩ := h
  exact there_cells h1 (by omega)
theorem AllAt.range {w : World} {ab i : Nat} {M : Gd.Vol} (h : AllAt w ab M i) {j : Nat} (j1 : 1 ≤ j) (ji : j ≤ i) : w.rangeAt ab (j * 15) (inoC (M.ino j)).toList := by
  obtain ⟨C, h1, h2, h3⟩ := h
  intro q v hv
  rw [cell_of_row w ab (j * 15 + q) _ _ _ h1, ← Array.getElem?_toList]
  exact h3 j j1 ji q v hv
theorem AllAt.put {w : World} {ab i : Nat} {M : Gd.Vol} (h : AllAt w ab M i) (hi : i + 1 ≤ 32) (hsz : ∀ j, 1 ≤ j → j ≤ 32 → (inoC (M.ino j)).size = 15) : AllAt (w.setCells ab ((i + 1) * 15) (inoC (M.ino (i + 1))).toList) ab M (i + 1) := by
  obtain ⟨C, h1, h2, h3⟩ := h
  have hl : (inoC (M.ino (i + 1))).toList.length = 15 := by rw [Array.length_toList]; exact hsz _ (by omega) hi
  have hp := putCells2_toList (inoC (M.ino (i + 1))).toList ((i + 1) * 15) C (by rw [hl]; omega)
  have hCl : C.toList.length = 495 := by rw [Array.length_toList]; exact h2
  refine ⟨_, setCells_heap2 ab _ _ _ _ _ h1, ?_, fun j j1 j2 q v hq => ?_⟩
  · rw [← Array.length_toList, hp, List.length_append, List.length_append, List.length_take, List.length_drop, hl, hCl]
    omega
  · have hql := (List.getElem?_eq_some_iff.1 hq).1
    rw [hp]
    by_cases e : j = i + 1
    · subst e
      rw [List.append_assoc, List.getElem?_append_right (by rw [List.length_take]; omega), List.length_take, hCl, show (i + 1) * 15 + q - min ((i + 1) * 15) 495 = q by omega, List.getElem?_append_left hql]
      exact hq
    · have hq15 : q < 15 := by
        rw [Array.length_toList, hsz j j1 (by omega)] at hql
        exact hql
      rw [List.append_assoc, List.getElem?_append_left (by rw [List.length_take, hCl]; omega), List.getElem?_take, if_pos (by omega)]
      exact h3 j j1 (by omega) q v hq

/-- how often inodes were led to -/
def lnkL (M : Gd.Vol) (T : Nat → Gd.Tab) (i : Nat) : List Int := (List.range 33).map fun t => ((Gd.linkD M T t i : Nat) : Int)
structure SdI (w : World) (M : Gd.Vol) (ub lb ab : Nat) (m : List UInt8) (L : List Int) (i : Nat) (wr : World) : Prop where
  u : wr.heap[ub]? = some (.cells (cellsB m) 45 (0, 0))
  l : wr.heap[lb]? = some (.cells (intC L).toArray 113 (0, 0))
  a : AllAt wr ab M i
  b : Below w.heap.size w wr
theorem SdI.below {w wr w' : World} {M : Gd.Vol} {ub lb ab i : Nat} {m : List UInt8} {L : List Int} (h : SdI w M ub lb ab m L i wr) (hb : Below wr.heap.size wr w') : SdI w M ub lb ab m L i w' :=
  ⟨(hb.block ub (lt_get h.u)).trans h.u, (hb.block lb (lt_get h.l)).trans h.l, h.a.keep (hb.block ab h.a.lt), h.b.trans (hb.mono h.b.size)⟩
theorem setCells_apart (w : World) (g o : Nat) (vs : List Value) : (∀ k, k < w.heap.size → k ≠ g → (w.setCells g o vs).heap[k]? = w.heap[k]?) ∧ ∀ B, B ≤ g → B ≤ w.heap.size → Below B w (w.setCells g o vs) :=
  ⟨fun k hk hne => (grown_only (F := fun j => j = g) (setCells_grownM g vs o w) fun j e => (Option.some.inj e).symm).block k hk hne, fun B hB hw => (Below.refl B w).grown (setCells_grownM g vs o w) hw (fun j hj => by cases hj; exact hB)⟩
/-- an inode kept more -/
theorem SdI.put {w wr : World} {M : Gd.Vol} {ub lb ab i : Nat} {m : List UInt8} {L : List Int} (h : SdI w M ub lb ab m L i wr) (ho : w.heap.size ≤ ub ∧ ub < lb ∧ lb < ab) (hi : i + 1 ≤ 32) (hsz : ∀ j, 1 ≤ j → j ≤ 32 → (inoC (M.ino j)).size = 15) : SdI w M ub lb ab m L (i + 1) (wr.setCells ab ((i + 1) * 15) (inoC (M.ino (i + 1))).toList) := by
  obtain ⟨h1, h2⟩ := setCells_apart wr ab ((i + 1) * 15) (inoC (M.ino (i + 1))).toList
  exact ⟨(h1 ub (lt_get h.u) (by omega)).trans h.u, (h1 lb (lt_get h.l) (by omega)).trans h.l, h.a.put hi hsz, h.b.trans (h2 _ (by omega) h.b.size)⟩
/-- a link more -/
theorem SdI.link {w wr : World} {M : Gd.Vol} {ub lb ab i : Nat} {m : List UInt8} {L : List Int} (h : SdI w M ub lb ab m L i wr) (ho : w.heap.size ≤ ub ∧ ub < lb ∧ lb < ab) (k : Nat) (n : Int) : SdI w M ub lb ab m (L.set k n) i (wr.setCell ⟨lb, k, none⟩ (.int .i64 n)) := by
  have hO : Only (fun j => j = lb) wr (wr.setCell ⟨lb, k, none⟩ (.int .i64 n)) := grown_only (setCell_grown lb k wr (.int .i64 n)) fun j e => (Option.some.inj e).symm
  refine ⟨(hO.block ub (lt_get h.u) (by omega)).trans h.u, ?_, h.a.keep (hO.block ab h.a.lt (by omega)), h.b.trans ((Below.refl _ wr).grown (setCell_grown lb k wr (.int .i64 n)) h.b.size (fun j hj => by cases hj; omega))⟩
  rw [Go.heap_setCell_same wr lb k _ _ _ h.l]
  congr 2
  unfold intC
  rw [List.map_set]
  simp
/-- the map anew -/
theorem SdI.map {w wr : World} {M : Gd.Vol} {ub lb ab i : Nat} {m m' : List UInt8} {L : List Int} (h : SdI w M ub lb ab m L i wr) (ho : w.heap.size ≤ ub ∧ ub < lb ∧ lb < ab) (hm : m.length = 16) (hm' : m'.length = 16) : SdI w M ub lb ab m' L i (wr.setCells ub 0 (cellsB m').toList) := by
  obtain ⟨h1, h2⟩ := setCells_apart wr ub 0 (cellsB m').toList
  obtain ⟨_, h4⟩ := whole_at h.u (vs := (cellsB m').toList) (B := ub) (by rw [Array.length_toList, cellsB_len hm, cellsB_len hm']) (Nat.le_refl _)
  exact ⟨h4, (h1 lb (lt_get h.l) (by omega)).trans h.l, h.a.keep (h1 ab h.a.lt (by omega)), h.b.trans (h2 _ ho.1 h.b.size)⟩
def lnkN (M : Gd.Vol) (T : Nat → Gd.Tab) (D : Gd.Tab) (i j t : Nat) : Int := ((Gd.linkD M T t i + Gd.linkT D j t : Nat) : Int)
/-- how often inodes were led to, within a table -/
def lnkP (M : Gd.Vol) (T : Nat → Gd.Tab) (D : Gd.Tab) (i j : Nat) : List Int := (List.range 33).map fun t => lnkN M T D i j t
theorem lnkP_zero (M : Gd.Vol) (T : Nat → Gd.Tab) (D : Gd.Tab) (i : Nat) : lnkP M T D i 0 = lnkL M T i := rfl
theorem lnkP_get (M : Gd.Vol) (T : Nat → Gd.Tab) (D : Gd.Tab) (i j : Nat) {q : Nat} (hq : q < 33) : (lnkP M T D i j)[q]? = some (lnkN M T D i j q) := by
  unfold lnkP
  rw [List.getElem?_map, List.getElem?_range hq]
  rfl
theorem lnkP_step (M : Gd.Vol) (T : Nat → Gd.Tab) {D : Gd.Tab} (i : Nat) (hD : D.length = 16) {j : Nat} (hj : j < 16) : lnkP M T D i (j + 1) = if (Gd.entAt D j).s = [] then lnkP M T D i j else (lnkP M T D i j).set (Gd.entAt D j).i (lnkN M T D i j (Gd.entAt D j).i + 1) := by
  have hl : ∀ k, (lnkP M T D i k).length = 33 := fun k => by
    unfold lnkP
    rw [List.length_map, List.length_range]
  apply List.ext_getElem?
  intro q
  by_cases hq : q < 33
  · rw [lnkP_get M T D i (j + 1) hq]
    unfold lnkN
    rw [Gd.linkT_step hD hj]
    by_cases hs : (Gd.entAt D j).s = []
    · rw [if_pos hs, lnkP_get M T D i j hq, if_neg (by simp [hs])]
      rfl
    · rw [if_neg hs, List.getElem?_set]
      by_cases e : (Gd.entAt D j).i = q
      · rw [if_pos ⟨hs, e⟩, if_pos e, if_pos (by rw [hl]; omega), e]
        congr 1
      · rw [if_neg (fun h => e h.2), if_neg e, lnkP_get M T D i j hq]
        rfl
  · rw [List.getElem?_eq_none (by rw [hl]; omega)]
    split
    · rw [List.getElem?_eq_none (by rw [hl]; omega)]
    · rw [List.getElem?_eq_none (by rw [List.length_set, hl]; omega)]
theorem lnkP_all (M : Gd.Vol) (T : Nat → Gd.Tab) {D : Gd.Tab} {i : Nat} (hk : (M.ino (i + 1)).k = 2) (hD : D = T (i + 1)) : lnkP M T D i 16 = lnkL M T (i + 1) := by
  unfold lnkP lnkL lnkN
  congr 1
  funext t
  show ((Gd.linkD M T t i + Gd.linkT D 16 t : Nat) : Int) = ((Gd.linkD M T t i + if (M.ino (i + 1)).k = 2 then Gd.linkT (T (i + 1)) 16 t else 0 : Nat) : Int)
  rw [if_pos hk, hD]
theorem lnkL_not (M : Gd.Vol) (T : Nat → Gd.Tab) {i : Nat} (hk : (M.ino (i + 1)).k ≠ 2) : lnkL M T (i + 1) = lnkL M T i := by
  unfold lnkL
  congr 1
  funext t
  show ((Gd.linkD M T t i + if (M.ino (i + 1)).k = 2 then Gd.linkT (T (i + 1)) 16 t else 0 : Nat) : Int) = _
  rw [if_neg hk]
  rfl
theorem lnkN_lt (M : Gd.Vol) (T : Nat → Gd.Tab) (D : Gd.Tab) (i j q : Nat) (hi : i ≤ 32) (hj : j < 16) : 0 ≤ lnkN M T D i j q ∧ lnkN M T D i j q < 100000 := by
  unfold lnkN
  have := Gd.linkD_le M T q i
  have := Gd.linkT_le D j q
  omega
def zMapC : Array Value := #[.int .u8 0, .int .u8 0, .int .u8 0, .int .u8 0, .int .u8 0, .int .u8 0, .int .u8 0, .int .u8 0, .int .u8 0, .int .u8 0, .int .u8 0, .int .u8 0, .int .u8 0, .int .u8 0, .int .u8 0, .int .u8 0]
def zLnkC : Array Value := #[.int .i64 0, .int .i64 0, .int .i64 0, .int .i64 0, .int .i64 0, .int .i64 0, .int .i64 0, .int .i64 0, .int .i64 0, .int .i64 0, .int .i64 0, .int .i64 0, .int .i64 0, .int .i64 0, .int .i64 0, .int .i64 0, .int .i64 0, .int .i64 0, .int .i64 0, .int .i64 0, .int .i64 0, .int .i64 0, .int .i64 0, .int .i64 0, .int .i64 0, .int .i64 0, .int .i64 0, .int .i64 0, .int .i64 0, .int .i64 0, .int .i64 0, .int .i64 0, .int .i64 0]
theorem zMapC_eq : zMapC = cellsB (Gd.takesL []) := by rfl
theorem zLnkC_eq (M : Gd.Vol) (T : Nat → Gd.Tab) : zLnkC = (intC (lnkL M T 0)).toArray := by rfl
theorem Tryz.allSize : Tryz.zeroCells114.size = 495 := by kernel_rfl

set_option maxHeartbeats 8000000 in
set_option maxRecDepth 100000 in
theorem sound_any [MemNo] {x t c K p : Nat} {S : List UInt8} {M : Gd.Vol} {T : Nat → Gd.Tab} {F : Nat → Prop} (w : World) (h : MetaV x t S M c K w F) (hp : w.cell? ⟨p, 2, none⟩ = some (.pointer (some ⟨x, 0, none⟩))) (hpl : p < w.heap.size) (hS : Gd.Snd M T) :
    Calls Tryz.prog 18 #[.pointer (some ⟨p, 0, none⟩)] w fun e w' => e = .returned (.bool true) ∧ Below w.heap.size w w' := by
  have HSz : Hid (∀ j : Nat, 1 ≤ j → j ≤ 32 → (inoC (M.ino j)).size = 15 ∧ (M.ino j).Shape ∧ Gd.mayI (M.ino j) = true) := Lib.hid fun j h1 h2 => by
    obtain ⟨P, h3, h4⟩ := h
    exact ⟨inoC_size2 h4 h1 h2, h4.shape j h1 h2, h4.may j h1 h2⟩
  have HIn : Hid (∀ i : Nat, 1 ≤ i → i ≤ 32 → ∀ W, Below w.heap.size w W → Calls Tryz.prog 26 #[.pointer (some ⟨x, 0, none⟩), .int .i64 (i : Int)] W fun e W' => e = .returned (.tuple #[inoV (M.ino i), .int .i64 0]) ∧ Below W.heap.size W W') := Lib.hid fun i h1 h2 W hW => by
    have := inode_ok (i : Int) W (h.below hW) (by omega) (by omega)
    rw [Int.toNat_natCast] at this
    exact this
  have HTb : Hid (∀ d : Nat, 1 ≤ d → d ≤ 32 → (M.ino d).k = 2 → ∀ W, Below w.heap.size w W → Calls Tryz.prog 35 #[.pointer (some ⟨x, 0, none⟩), .int .i64 (d : Int)] W fun e W' => e = .returned (.tuple #[tabV (T d), .int .i64 0]) ∧ Below W.heap.size W W') := Lib.hid fun d h1 h2 h3 W hW => tableI_dir W (h.below hW) (hS.tree.dir d h1 h2 h3)
  have HMp : Hid (∀ W, Below w.heap.size w W → Calls Tryz.prog 19 #[.pointer (some ⟨x, 0, none⟩)] W fun e W' => e = .returned (mapV M.map) ∧ Below W.heap.size W W') := Lib.hid fun W hW => map_any W (h.below hW)
  have HS := Lib.hid hS
  have HP : Hid (∀ W, Below w.heap.size w W → W.cell? ⟨p, 2, none⟩ = some (.pointer (some ⟨x, 0, none⟩))) := Lib.hid fun W hW => (hW.cell (p := ⟨p, 2, none⟩) hpl).trans hp
  obtain ⟨w3, hw3⟩ : ∃ u, u = ((w.alloc (.cells zMapC 45)).alloc (.cells zLnkC 113)).alloc (.cells Tryz.zeroCells114 114) := ⟨_, rfl⟩
  obtain ⟨ub, hub⟩ : ∃ b, b = w.heap.size := ⟨_, rfl⟩
  obtain ⟨lb, hlb⟩ : ∃ b, b = w.heap.size + 1 := ⟨_, rfl⟩
  obtain ⟨ab, hab⟩ : ∃ b, b = w.heap.size + 1 + 1 := ⟨_, rfl⟩
  have n1 : (w.alloc (.cells zMapC 45)).heap.size = w.heap.size + 1 := by simp
  have n2 : ((w.alloc (.cells zMapC 45)).alloc (.cells zLnkC 113)).heap.size = w.heap.size + 1 + 1 := by simp
  have hB3 : Below w.heap.size w w3 := by rw [hw3]; exact (((Below.refl _ _).alloc (Nat.le_refl _) _).alloc (by rw [n1]; omega) _).alloc (by rw [n2]; omega) _
  have hu3 : w3.heap[ub]? = some (.cells (cellsB (Gd.takesL (Gd.blksD M 0))) 45 (0, 0)) := by
    rw [hw3, hub, Below.heap_alloc _ _ _ (by rw [n2]; omega), Below.heap_alloc _ _ _ (by rw [n1]; omega), zMapC_eq]
    exact heap_alloc_new _ _
  have hl3 : w3.heap[lb]? = some (.cells (intC (lnkL M T 0)).toArray 113 (0, 0)) := by
    rw [hw3, hlb, Below.heap_alloc _ _ _ (by rw [n2]; omega), ← n1, zLnkC_eq M T]
    exact heap_alloc_new _ _
  have ha3 : AllAt w3 ab M 0 := by
    refine ⟨Tryz.zeroCells114, ?_, Tryz.allSize, fun j j1 j2 => by omega⟩
    rw [hw3, hab, ← n2]
    exact heap_alloc_new _ _
  have HI3 : Hid (SdI w M ub lb ab (Gd.takesL (Gd.blksD M 0)) (lnkL M T 0) 0 w3) := Lib.hid ⟨hu3, hl3, ha3, hB3⟩
  have HU0 := Lib.hid hub.symm
  have HL0 := Lib.hid hlb.symm
  have HA0 := Lib.hid hab.symm
  have HOr : Hid (w.heap.size ≤ ub ∧ ub < lb ∧ lb < ab) := Lib.hid (by omega)
  have HW3 := Lib.hid hw3.symm
  have HSa : Hid (∀ j : Nat, 1 ≤ j → j ≤ 32 → (inoC (M.ino j)).size = 15) := Lib.hid fun j h1 h2 => (HSz.out j h1 h2).1
  unfold zMapC zLnkC at HW3
  clear h hp hpl hS hw3 hub hlb hab n1 n2 hB3 hu3 hl3 ha3
  go_enter Tryz.func18, Tryz.ntmps18
  go_upto_region 4 with fail
  rw [HW3.out, HA0.out, HL0.out, HU0.out]
  go_upto_region 5 with fail
  go_loopw [6] (fun z wr => ∃ i : Nat, z = .int .i64 ((i : Int) + 1) ∧ i ≤ 32 ∧ Hid (SdI w M ub lb ab (Gd.takesL (Gd.blksD M i)) (lnkL M T i) i wr)) (fun z _ => 34 - (intOf z).toNat)
  case atStart => exact ⟨0, rfl, by omega, HI3⟩
  case round =>
    obtain ⟨i, rfl, hi32, HI⟩ := hrel
    by_cases hlt : i < 32
    · have hi1 : (i : Int) + 1 ≤ 32 := by omega
      have HIi := HIn.out (i + 1) (by omega) (by omega) wr HI.out.b
      have HTi := Lib.hid (HTb.out (i + 1) (by omega) (by omega))
      rw [show ((i + 1 : Nat) : Int) = (i : Int) + 1 by omega] at HIi HTi
      have HIi := Lib.hid HIi
      have hsz := (HSz.out (i + 1) (by omega) (by omega)).1
      have HSm := Lib.hid (HSz.out (i + 1) (by omega) (by omega)).2
      obtain ⟨y, hy⟩ : ∃ y, y = M.ino (i + 1) := ⟨_, rfl⟩
      rw [← hy] at HIi hsz HSm
      have HSy := Lib.hid hsz
      have Hy := Lib.hid hy
      unfold inoV at HIi
      have hc0 := HP.out wr HI.out.b
      clear hy hsz hlt
      go_upto_region 8 with (first | (go_at_call 26; refine HIi.out.mono ?_; rintro e w2 ⟨rfl, hb2⟩; have HI2 := Lib.hid (HI.out.below hb2); clear hb2) | (rw [← zIno_lit]; refine wpList_store_mid rfl 61 _ _ rfl w2.heap.size 0 (inoC y) rfl rfl (there_at (heap_alloc_new _ _) (by rw [zIno_size, HSy.out])) (by rw [HSy.out]; exact Tryz.sizeIno) (inoC_one _) ?_; obtain ⟨hbw, hbg⟩ := new_whole2 w2 zIno 61 (inoC y).toList (by rw [zIno_size, Array.length_toList, HSy.out]); generalize (World.setCells _ _ _ _) = w3 at hbw hbg ⊢; have HX3 : Hid (w3.heap[w2.heap.size]? = some (.cells (inoC y) 61 (0, 0))) := Lib.hid hbg; have HI3' := Lib.hid (HI2.out.below hbw); clear hbw hbg))
      obtain ⟨xb, hxb⟩ : ∃ xb, xb = w2.heap.size := ⟨_, rfl⟩
      have HXb : Hid (ab < xb) := Lib.hid (by rw [hxb]; exact HI2.out.a.lt)
      rw [← hxb] at HX3 ⊢
      clear hxb HI HI2 HIi hc0
      go_upto_region 10 with fail
      have hi33 : (i : Int) + 1 < 33 := by omega
      have hi0 : (0 : Int) ≤ (i : Int) + 1 := by omega
      go_upto_region 11 with (first | (refine wpList_load_row rfl 61 _ rfl xb rfl 61 (inoC y) (0, 0) _ HX3.out Tryz.underlying61 rfl (by rw [HSy.out]; exact Tryz.sizeIno) ?_) | (refine wpList_store_mid rfl 61 _ _ rfl ab ((i + 1) * 15) (inoC y) rfl rfl (by rw [HSy.out]; exact HI3'.out.a.there (by omega)) (by rw [HSy.out]; exact Tryz.sizeIno) (inoC_one _) ?_; have hi4 := HI3'.out.put HOr.out (by omega) HSa.out; rw [← Hy.out] at hi4; have hx4 := ((setCells_apart w3 ab ((i + 1) * 15) (inoC y).toList).1 xb (lt_get HX3.out) (by have := HXb.out; omega)).trans HX3.out; generalize (World.setCells _ _ _ _) = w4 at hi4 hx4 ⊢; have HI4 := Lib.hid hi4; have HX4 : Hid (InoAt w4 xb y) := Lib.hid ⟨hx4, HSm.out.1⟩; clear hi4 hx4))
      have hm4 := congrArg Gd.takesL (show Gd.blksD M i = Gd.blksD M i ++ y.B.take 0 by simp)
      rw [hm4] at HI4
      clear hm4 HI3' HX3
      go_upto_region 12 with fail
      go_loopw [9] (fun z wr => ∃ j : Nat, z = .int .i64 j ∧ j ≤ 4 ∧ Hid (SdI w M ub lb ab (Gd.takesL (Gd.blksD M i ++ y.B.take j)) (lnkL M T i) (i + 1) wr) ∧ Hid (InoAt wr xb y)) (fun z _ => 4 - (intOf z).toNat)
      case atStart => exact ⟨0, rfl, by omega, HI4, HX4⟩
      case round =>
        obtain ⟨j, rfl, hj4, HI, HX⟩ := hrel
        by_cases hjl : j < 4
        · obtain ⟨n, hn⟩ : ∃ n, y.B[j]? = some n := ⟨_, List.getElem?_eq_getElem (by rw [HSm.out.1.1]; exact hjl)⟩
          have hj1 : (j : Int) < 4 := by omega
          have c14 := (HX.out.cB hn).1
          obtain ⟨m, hm⟩ : ∃ m, m = Gd.takesL (Gd.blksD M i ++ y.B.take j) := ⟨_, rfl⟩
          rw [← hm] at HI
          have hml : m.length = 16 := by rw [hm]; exact Gd.takesL_len _
          have HSm16 := Lib.hid (cellsB_len hml)
          have HUn : Hid (n ≠ 0 → Gd.usedI m n = false) := Lib.hid fun h0 => by
            have := HS.out.sound.fresh (i := i) (k := j) (n := n) (by omega) (by rw [← Hy.out]; exact hn) h0
            rw [← Hy.out, ← hm] at this
            exact this
          have HNx : Hid (Gd.takesL (Gd.blksD M i ++ y.B.take (j + 1)) = Gd.takeI m n) := Lib.hid (by rw [hm, ← Gd.takesL_snoc, List.append_assoc, List.take_add_one, hn]; rfl)
          have HN := Lib.hid hn
          have Hml := Lib.hid hml
          clear hn hm hml hjl
          go_upto_region 14 with fail
          have Hx3 := Lib.hid c14
          go_cut [50] from 38 to 50 (fun z wx => z = .bool false ∧ Hid (SdI w M ub lb ab m (lnkL M T i) (i + 1) wx) ∧ Hid (InoAt wx xb y))
          case first =>
            by_cases h0 : n = 0
            · subst h0
              have hs0 : wr.drew.cell? ⟨xb, 3 + j, none⟩ = some (.int .i64 0) := c14
              have HId := Lib.hid (HI.out.below (Below.refl _ _).drew)
              have HXd : Hid (InoAt wr.drew xb y) := Lib.hid (HX.out.keep (Below.refl _ _).drew)
              refine wp_region_held_drew (S := (fun W => W.cell? ⟨xb, 3 + j, none⟩ = some (.int .i64 0))) (by kernel_rfl) ?_ (fun hHeld => ?_)
              · exact hs0
              refine wpAnyH_take (i := 0) (oi := _) (v := ?_) rfl (by kernel_rfl) (by kernel_rfl) (by kernel_rfl) (fun _ _ _ h => h) (Or.inl ⟨by rfl, ?_⟩) (by assumption) ?_
              rotate_left
              · intro w hSw
                (try dsimp only at hSw)
                first | (go_simp; done) | (go_simp; with_reducible rfl)
              try simp only [List.getElem_toArray, List.getElem_cons_succ, List.getElem_cons_zero, Act.put, List.setIfInBounds_toArray, List.set_cons_zero, List.set_cons_succ]
              refine wpAnyH_take (i := 1) (oi := _) (v := ?_) rfl (by kernel_rfl) (by kernel_rfl) (by kernel_rfl) (fun _ _ _ h => h) (Or.inl ⟨by rfl, ?_⟩) (by assumption) ?_
              rotate_left
              · intro w hSw
                (try dsimp only at hSw)
                first | (go_simp; done) | (go_simp; with_reducible rfl)
              try simp only [List.getElem_toArray, List.getElem_cons_succ, List.getElem_cons_zero, Act.put, List.setIfInBounds_toArray, List.set_cons_zero, List.set_cons_succ]
              refine wpAnyH_take (i := 2) (oi := _) (v := ?_) rfl (by kernel_rfl) (by kernel_rfl) (by kernel_rfl) (fun _ _ _ h => h) (Or.inl ⟨by rfl, ?_⟩) (by assumption) ?_
              rotate_left
              · intro w hSw
                (try dsimp only at hSw)
                first | (go_simp; done) | (go_simp; with_reducible rfl)
              try simp only [List.getElem_toArray, List.getElem_cons_succ, List.getElem_cons_zero, Act.put, List.setIfInBounds_toArray, List.set_cons_zero, List.set_cons_succ]
              refine wpAnyH_take (i := 3) (oi := _) (v := ?_) rfl (by kernel_rfl) (by kernel_rfl) (by kernel_rfl) (fun _ _ _ h => h) (Or.inl ⟨by rfl, ?_⟩) (by assumption) ?_
              rotate_left
              · intro w hSw
                (try dsimp only at hSw)
                first | (go_simp; done) | (go_simp; with_reducible rfl)
              try simp only [List.getElem_toArray, List.getElem_cons_succ, List.getElem_cons_zero, Act.put, List.setIfInBounds_toArray, List.set_cons_zero, List.set_cons_succ]
              refine wpAnyH_take (i := 4) (oi := _) (v := ?_) rfl (by kernel_rfl) (by kernel_rfl) (by kernel_rfl) (fun _ _ _ h => h) (Or.inl ⟨by rfl, ?_⟩) (by assumption) ?_
              rotate_left
              · intro w hSw
                (try dsimp only at hSw)
                first | (go_simp; done) | (go_simp; with_reducible rfl)
              try simp only [List.getElem_toArray, List.getElem_cons_succ, List.getElem_cons_zero, Act.put, List.setIfInBounds_toArray, List.set_cons_zero, List.set_cons_succ]
              refine wpAnyH_take (i := 5) (oi := _) (v := ?_) rfl (by kernel_rfl) (by kernel_rfl) (by kernel_rfl) (fun _ _ _ h => h) (Or.inl ⟨by rfl, ?_⟩) (by assumption) ?_
              rotate_left
              · intro w hSw
                (try dsimp only at hSw)
                first | (go_simp; done) | (go_simp; with_reducible rfl)
              try simp only [List.getElem_toArray, List.getElem_cons_succ, List.getElem_cons_zero, Act.put, List.setIfInBounds_toArray, List.set_cons_zero, List.set_cons_succ]
              refine wpAnyH_take (i := 6) (oi := _) (v := undef) rfl (by kernel_rfl) (by kernel_rfl) (by kernel_rfl) (fun _ _ _ h => h) (Or.inr ⟨by rfl, rfl⟩) (by assumption) ?_
              try simp only [List.getElem_toArray, List.getElem_cons_succ, List.getElem_cons_zero, Act.put, List.setIfInBounds_toArray, List.set_cons_zero, List.set_cons_succ]
              refine wpAnyH_take (i := 7) (oi := _) (v := undef) rfl (by kernel_rfl) (by kernel_rfl) (by kernel_rfl) (fun _ _ _ h => h) (Or.inr ⟨by rfl, rfl⟩) (by assumption) ?_
              try simp only [List.getElem_toArray, List.getElem_cons_succ, List.getElem_cons_zero, Act.put, List.setIfInBounds_toArray, List.set_cons_zero, List.set_cons_succ]
              refine wpAnyH_take (i := 8) (oi := _) (v := undef) rfl (by kernel_rfl) (by kernel_rfl) (by kernel_rfl) (fun _ _ _ h => h) (Or.inr ⟨by rfl, rfl⟩) (by assumption) ?_
              try simp only [List.getElem_toArray, List.getElem_cons_succ, List.getElem_cons_zero, Act.put, List.setIfInBounds_toArray, List.set_cons_zero, List.set_cons_succ]
              refine wpAnyH_take (i := 9) (oi := _) (v := undef) rfl (by kernel_rfl) (by kernel_rfl) (by kernel_rfl) (fun _ _ _ h => h) (Or.inr ⟨by rfl, rfl⟩) (by assumption) ?_
              try simp only [List.getElem_toArray, List.getElem_cons_succ, List.getElem_cons_zero, Act.put, List.setIfInBounds_toArray, List.set_cons_zero, List.set_cons_succ]
              refine wpAnyH_take (i := 10) (oi := _) (v := undef) rfl (by kernel_rfl) (by kernel_rfl) (by kernel_rfl) (fun _ _ _ h => h) (Or.inr ⟨by rfl, rfl⟩) (by assumption) ?_
              try simp only [List.getElem_toArray, List.getElem_cons_succ, List.getElem_cons_zero, Act.put, List.setIfInBounds_toArray, List.set_cons_zero, List.set_cons_succ]
              refine wpAnyH_take (i := 11) (oi := _) (v := undef) rfl (by kernel_rfl) (by kernel_rfl) (by kernel_rfl) (fun _ _ _ h => h) (Or.inr ⟨by rfl, rfl⟩) (by assumption) ?_
              try simp only [List.getElem_toArray, List.getElem_cons_succ, List.getElem_cons_zero, Act.put, List.setIfInBounds_toArray, List.set_cons_zero, List.set_cons_succ]
              refine wpAnyH_take (i := 12) (oi := _) (v := ?_) rfl (by kernel_rfl) (by kernel_rfl) (by kernel_rfl) (fun _ _ _ h => h) (Or.inl ⟨by rfl, ?_⟩) (by assumption) ?_
              rotate_left
              · intro w hSw
                (try dsimp only at hSw)
                first | (go_simp; done) | (go_simp; with_reducible rfl)
              try simp only [List.getElem_toArray, List.getElem_cons_succ, List.getElem_cons_zero, Act.put, List.setIfInBounds_toArray, List.set_cons_zero, List.set_cons_succ]
              refine wpAnyH_done (by kernel_rfl) ?_ _
              (try simp only [Exit.then])
              go_wp2
              go_meet
              exact ⟨rfl, HId, HXd⟩
            · have hu := HUn.out h0
              have hnb : (n != 0) = true := by simpa using h0
              have HUs := Lib.hid (used_any m Hml.out n)
              rw [hu] at HUs
              unfold mapV at HUs
              have HId := Lib.hid (HI.out.below (Below.refl _ _).drew)
              have HXd : Hid (InoAt wr.drew xb y) := Lib.hid (HX.out.keep (Below.refl _ _).drew)
              have hs0 : wr.drew.cell? ⟨xb, 3 + j, none⟩ = some (.int .i64 n) ∧ wr.drew.heap[ub]? = some (.cells (cellsB m) 45 (0, 0)) := ⟨c14, HI.out.u⟩
              refine wp_region_held_drew (S := (fun W => W.cell? ⟨xb, 3 + j, none⟩ = some (.int .i64 n) ∧ W.heap[ub]? = some (.cells (cellsB m) 45 (0, 0)))) (by kernel_rfl) ?_ (fun hHeld => ?_)
              · exact hs0
              refine wpAnyH_take (i := 0) (oi := _) (v := ?_) rfl (by kernel_rfl) (by kernel_rfl) (by kernel_rfl) (fun _ _ _ h => h) (Or.inl ⟨by rfl, ?_⟩) (by assumption) ?_
              rotate_left
              · intro w hSw
                (try dsimp only at hSw)
                first | (go_simp; done) | (go_simp; with_reducible rfl)
              try simp only [List.getElem_toArray, List.getElem_cons_succ, List.getElem_cons_zero, Act.put, List.setIfInBounds_toArray, List.set_cons_zero, List.set_cons_succ]
              refine wpAnyH_take (i := 1) (oi := _) (v := ?_) rfl (by kernel_rfl) (by kernel_rfl) (by kernel_rfl) (fun _ _ _ h => h) (Or.inl ⟨by rfl, ?_⟩) (by assumption) ?_
              rotate_left
              · intro w hSw
                (try dsimp only at hSw)
                first | (go_simp; done) | (go_simp; with_reducible rfl)
              try simp only [List.getElem_toArray, List.getElem_cons_succ, List.getElem_cons_zero, Act.put, List.setIfInBounds_toArray, List.set_cons_zero, List.set_cons_succ]
              refine wpAnyH_take (i := 2) (oi := _) (v := ?_) rfl (by kernel_rfl) (by kernel_rfl) (by kernel_rfl) (fun _ _ _ h => h) (Or.inl ⟨by rfl, ?_⟩) (by assumption) ?_
              rotate_left
              · intro w hSw
                (try dsimp only at hSw)
                first | (go_simp; done) | (go_simp; with_reducible rfl)
              try simp only [List.getElem_toArray, List.getElem_cons_succ, List.getElem_cons_zero, Act.put, List.setIfInBounds_toArray, List.set_cons_zero, List.set_cons_succ]
              refine wpAnyH_take (i := 3) (oi := _) (v := ?_) rfl (by kernel_rfl) (by kernel_rfl) (by kernel_rfl) (fun _ _ _ h => h) (Or.inl ⟨by rfl, ?_⟩) (by assumption) ?_
              rotate_left
              · intro w hSw
                (try dsimp only at hSw)
                first | (go_simp; done) | (go_simp; with_reducible rfl)
              try simp only [List.getElem_toArray, List.getElem_cons_succ, List.getElem_cons_zero, Act.put, List.setIfInBounds_toArray, List.set_cons_zero, List.set_cons_succ]
              refine wpAnyH_take (i := 4) (oi := _) (v := ?_) rfl (by kernel_rfl) (by kernel_rfl) (by kernel_rfl) (fun _ _ _ h => h) (Or.inl ⟨by rfl, ?_⟩) (by assumption) ?_
              rotate_left
              · intro w hSw
                (try dsimp only at hSw)
                first | (go_simp; done) | (go_simp; with_reducible rfl)
              try simp only [List.getElem_toArray, List.getElem_cons_succ, List.getElem_cons_zero, Act.put, List.setIfInBounds_toArray, List.set_cons_zero, List.set_cons_succ]
              refine wpAnyH_take (i := 5) (oi := _) (v := ?_) rfl (by kernel_rfl) (by kernel_rfl) (by kernel_rfl) (fun _ _ _ h => h) (Or.inl ⟨by rfl, ?_⟩) (by assumption) ?_
              rotate_left
              · intro w hSw
                (try dsimp only at hSw)
                first | (go_simp; done) | (go_simp; with_reducible rfl)
              try simp only [List.getElem_toArray, List.getElem_cons_succ, List.getElem_cons_zero, Act.put, List.setIfInBounds_toArray, List.set_cons_zero, List.set_cons_succ]
              refine wpAnyH_take (i := 6) (oi := _) (v := ?_) rfl (by kernel_rfl) (by kernel_rfl) (by kernel_rfl) (fun _ _ _ h => h) (Or.inl ⟨by rfl, ?_⟩) (by assumption) ?_
              rotate_left
              · intro w hSw
                refine exec_load_row 45 (.tmp 3) ?_ ub ?_ 45 (cellsB m) (0, 0) _ hSw.2 Tryz.underlying45 ?_ (by rw [HSm16.out]; exact Tryz.sizeMap)
                all_goals rfl
              try simp only [List.getElem_toArray, List.getElem_cons_succ, List.getElem_cons_zero, Act.put, List.setIfInBounds_toArray, List.set_cons_zero, List.set_cons_succ]
              refine wpAnyH_take (i := 7) (oi := _) (v := ?_) rfl (by kernel_rfl) (by kernel_rfl) (by kernel_rfl) (fun _ _ _ h => h) (Or.inl ⟨by rfl, ?_⟩) (by assumption) ?_
              rotate_left
              · intro w hSw
                (try dsimp only at hSw)
                first | (go_simp; done) | (go_simp; with_reducible rfl)
              try simp only [List.getElem_toArray, List.getElem_cons_succ, List.getElem_cons_zero, Act.put, List.setIfInBounds_toArray, List.set_cons_zero, List.set_cons_succ]
              refine wpAnyH_take (i := 8) (oi := _) (v := ?_) rfl (by kernel_rfl) (by kernel_rfl) (by kernel_rfl) (fun _ _ _ h => h) (Or.inl ⟨by rfl, ?_⟩) (by assumption) ?_
              rotate_left
              · intro w hSw
                (try dsimp only at hSw)
                first | (go_simp; done) | (go_simp; with_reducible rfl)
              try simp only [List.getElem_toArray, List.getElem_cons_succ, List.getElem_cons_zero, Act.put, List.setIfInBounds_toArray, List.set_cons_zero, List.set_cons_succ]
              refine wpAnyH_take (i := 9) (oi := _) (v := ?_) rfl (by kernel_rfl) (by kernel_rfl) (by kernel_rfl) (fun _ _ _ h => h) (Or.inl ⟨by rfl, ?_⟩) (by assumption) ?_
              rotate_left
              · intro w hSw
                (try dsimp only at hSw)
                first | (go_simp; done) | (go_simp; with_reducible rfl)
              try simp only [List.getElem_toArray, List.getElem_cons_succ, List.getElem_cons_zero, Act.put, List.setIfInBounds_toArray, List.set_cons_zero, List.set_cons_succ]
              refine wpAnyH_take (i := 10) (oi := _) (v := ?_) rfl (by kernel_rfl) (by kernel_rfl) (by kernel_rfl) (fun _ _ _ h => h) (Or.inl ⟨by rfl, ?_⟩) (by assumption) ?_
              rotate_left
              · intro w hSw
                (try dsimp only at hSw)
                first | (go_simp; done) | (go_simp; with_reducible rfl)
              try simp only [List.getElem_toArray, List.getElem_cons_succ, List.getElem_cons_zero, Act.put, List.setIfInBounds_toArray, List.set_cons_zero, List.set_cons_succ]
              refine wpAnyH_ready (rs := [11]) (by kernel_rfl) (by simp) ?_
              refine AllReadyH.cons (o := _) rfl (fun K hK => ?_) AllReadyH.nil
              go_simp
              refine (HUs.out _).mono ?_
              rintro e wq ⟨rfl, hbq⟩
              have HIq := Lib.hid (HId.out.below hbq)
              have HXq := Lib.hid (HXd.out.keep hbq)
              have hsq : wq.cell? ⟨xb, 3 + j, none⟩ = some (.int .i64 n) ∧ wq.heap[ub]? = some (.cells (cellsB m) 45 (0, 0)) := ⟨(HXq.out.cB HN.out).1, HIq.out.u⟩
              clear hbq
              dsimp only
              refine hK.out _ _ hsq (fun hHeld => ?_)
              clear hK K
              try simp only [List.getElem_toArray, List.getElem_cons_succ, List.getElem_cons_zero, Act.put, List.setIfInBounds_toArray, List.set_cons_zero, List.set_cons_succ]
              refine wpAnyH_take (i := 12) (oi := _) (v := ?_) rfl (by kernel_rfl) (by kernel_rfl) (by kernel_rfl) (fun _ _ _ h => h) (Or.inl ⟨by rfl, ?_⟩) (by assumption) ?_
              rotate_left
              · intro w hSw
                (try dsimp only at hSw)
                first | (go_simp; done) | (go_simp; with_reducible rfl)
              try simp only [List.getElem_toArray, List.getElem_cons_succ, List.getElem_cons_zero, Act.put, List.setIfInBounds_toArray, List.set_cons_zero, List.set_cons_succ]
              refine wpAnyH_done (by kernel_rfl) ?_ _
              (try simp only [Exit.then])
              go_wp2
              go_meet
              exact ⟨rfl, HIq, HXq⟩
          case rest =>
          obtain ⟨rfl, HIc, HXc⟩ := hcut
          obtain ⟨wy, rfl⟩ : ∃ v, v = wc := ⟨_, rfl⟩
          go_upto_region 16 with fail
          have HTk := Lib.hid (take_any m Hml.out n)
          have htl : (Gd.takeI m n).length = 16 := by rw [Gd.takeI_len]; exact Hml.out
          have HSt := Lib.hid (cellsB_len htl)
          have Htl := Lib.hid htl
          obtain ⟨m2, hm2⟩ : ∃ m2, m2 = Gd.takeI m n := ⟨_, rfl⟩
          rw [← hm2] at HTk HSt HNx Htl
          unfold mapV at HTk
          have HId := Lib.hid (HIc.out.below (Below.refl _ _).drew)
          have HXd : Hid (InoAt wy.drew xb y) := Lib.hid (HXc.out.keep (Below.refl _ _).drew)
          have hs0 : wy.drew.cell? ⟨xb, 3 + j, none⟩ = some (.int .i64 n) := (HXd.out.cB HN.out).1
          clear hm2 htl c14
          refine wp_region_held_drew (S := (fun W => W.cell? ⟨xb, 3 + j, none⟩ = some (.int .i64 n))) (by kernel_rfl) ?_ (fun hHeld => ?_)
          · exact hs0
          refine wpAnyH_take (i := 1) (oi := _) (v := ?_) rfl (by kernel_rfl) (by kernel_rfl) (by kernel_rfl) (fun _ _ _ h => h) (Or.inl ⟨by rfl, ?_⟩) (by assumption) ?_
          rotate_left
          · intro w hSw
            (try dsimp only at hSw)
            first | (go_simp; done) | (go_simp; with_reducible rfl)
          try simp only [List.getElem_toArray, List.getElem_cons_succ, List.getElem_cons_zero, Act.put, List.setIfInBounds_toArray, List.set_cons_zero, List.set_cons_succ]
          refine wpAnyH_take (i := 2) (oi := _) (v := ?_) rfl (by kernel_rfl) (by kernel_rfl) (by kernel_rfl) (fun _ _ _ h => h) (Or.inl ⟨by rfl, ?_⟩) (by assumption) ?_
          rotate_left
          · intro w hSw
            (try dsimp only at hSw)
            first | (go_simp; done) | (go_simp; with_reducible rfl)
          try simp only [List.getElem_toArray, List.getElem_cons_succ, List.getElem_cons_zero, Act.put, List.setIfInBounds_toArray, List.set_cons_zero, List.set_cons_succ]
          refine wpAnyH_take (i := 3) (oi := _) (v := ?_) rfl (by kernel_rfl) (by kernel_rfl) (by kernel_rfl) (fun _ _ _ h => h) (Or.inl ⟨by rfl, ?_⟩) (by assumption) ?_
          rotate_left
          · intro w hSw
            (try dsimp only at hSw)
            first | (go_simp; done) | (go_simp; with_reducible rfl)
          try simp only [List.getElem_toArray, List.getElem_cons_succ, List.getElem_cons_zero, Act.put, List.setIfInBounds_toArray, List.set_cons_zero, List.set_cons_succ]
          refine wpAnyH_take (i := 4) (oi := _) (v := ?_) rfl (by kernel_rfl) (by kernel_rfl) (by kernel_rfl) (fun _ _ _ h => h) (Or.inl ⟨by rfl, ?_⟩) (by assumption) ?_
          rotate_left
          · intro w hSw
            (try dsimp only at hSw)
            first | (go_simp; done) | (go_simp; with_reducible rfl)
          try simp only [List.getElem_toArray, List.getElem_cons_succ, List.getElem_cons_zero, Act.put, List.setIfInBounds_toArray, List.set_cons_zero, List.set_cons_succ]
          refine wpAnyH_ready (rs := [0]) (by kernel_rfl) (by simp) ?_
          refine AllReadyH.cons (o := _) rfl (fun K hK => ?_) AllReadyH.nil
          refine wp_load_row 45 _ rfl ub rfl 45 (cellsB m) (0, 0) _ HId.out.u Tryz.underlying45 rfl (by rw [HSm16.out]; exact Tryz.sizeMap) ?_
          try dsimp only
          refine hK.out _ _ hs0 (fun hHeld => ?_)
          clear hK K
          try simp only [List.getElem_toArray, List.getElem_cons_succ, List.getElem_cons_zero, Act.put, List.setIfInBounds_toArray, List.set_cons_zero, List.set_cons_succ]
          refine wpAnyH_ready (rs := [5]) (by kernel_rfl) (by simp) ?_
          refine AllReadyH.cons (o := _) rfl (fun K hK => ?_) AllReadyH.nil
          go_simp
          refine (HTk.out _).mono ?_
          rintro e wq ⟨rfl, hbq⟩
          have HIq := Lib.hid (HId.out.below hbq)
          have HXq := Lib.hid (HXd.out.keep hbq)
          have hsq : wq.cell? ⟨xb, 3 + j, none⟩ = some (.int .i64 n) := (HXq.out.cB HN.out).1
          clear hbq
          dsimp only
          refine hK.out _ _ hsq (fun hHeld => ?_)
          clear hK K
          try simp only [List.getElem_toArray, List.getElem_cons_succ, List.getElem_cons_zero, Act.put, List.setIfInBounds_toArray, List.set_cons_zero, List.set_cons_succ]
          refine wpAnyH_ready (rs := [6]) (by kernel_rfl) (by simp) ?_
          refine AllReadyH.cons (o := _) rfl (fun K hK => ?_) AllReadyH.nil
          refine wp_store_mid 45 _ _ rfl ub 0 (cellsB m2) rfl rfl (by rw [HSt.out]; exact there_at HIq.out.u (by rw [HSm16.out])) (by rw [HSt.out]; exact Tryz.sizeMap) (cellsB_one _) ?_
          have hi6 := HIq.out.map HOr.out Hml.out Htl.out
          have hx6 := ((setCells_apart wq ub 0 (cellsB m2).toList).1 xb (lt_get HXq.out.row) (by have := HXb.out; have := HOr.out; omega)).trans HXq.out.row
          generalize (World.setCells _ _ _ _) = w6 at hi6 hx6 ⊢
          have HI6 := Lib.hid hi6
          have HX6 : Hid (InoAt w6 xb y) := Lib.hid ⟨hx6, HSm.out.1⟩
          have hs6 : w6.cell? ⟨xb, 3 + j, none⟩ = some (.int .i64 n) := (HX6.out.cB HN.out).1
          clear hi6 hx6
          try dsimp only
          refine hK.out _ _ hs6 (fun hHeld => ?_)
          clear hK K
          try simp only [List.getElem_toArray, List.getElem_cons_succ, List.getElem_cons_zero, Act.put, List.setIfInBounds_toArray, List.set_cons_zero, List.set_cons_succ]
          refine wpAnyH_done (by kernel_rfl) ?_ _
          (try simp only [Exit.then])
          rw [← HNx.out] at HI6
          go_wp2
          go_roundw
          case rel => exact ⟨j + 1, by go_num, by omega, HI6, HX6⟩
          case measure => simp [intOf]; omega
        · obtain rfl : j = 4 := by omega
          have hyB : Gd.blksD M i ++ y.B.take 4 = Gd.blksD M (i + 1) := by
            rw [List.take_of_length_le (by rw [HSm.out.1.1]; omega)]
            rw [Hy.out]
            rfl
          rw [hyB] at HI
          clear hyB hjl
          obtain ⟨wz, rfl⟩ : ∃ v, v = wr := ⟨_, rfl⟩
          have c0 := HX.out.c0
          by_cases hk : y.k = 2
          · rw [hk] at c0
            have HT := Lib.hid (HTi.out (by rw [← Hy.out]; exact hk) wz HI.out.b)
            have HD := Lib.hid (HS.out.tree.dir (i + 1) (by omega) (by omega) (by rw [← Hy.out]; exact hk))
            have HEn := Lib.hid (HS.out.tree.ent (i + 1) (by omega) (by omega) (by rw [← Hy.out]; exact hk))
            have HSz2 := Lib.hid (HS.out.size (i + 1) (by omega) (by omega) (by rw [← Hy.out]; exact hk))
            have HKy := Lib.hid hk
            rw [← Hy.out] at HSz2
            have HTs := Lib.hid (tabC_size HD.out.ok.len)
            obtain ⟨D, hD⟩ : ∃ D, D = T (i + 1) := ⟨_, rfl⟩
            rw [← hD] at HT HD HEn HSz2 HTs
            have HDt := Lib.hid hD
            unfold tabV at HT
            have hc0 := HP.out wz HI.out.b
            clear hD hk
            go_upto_region 19 with (first | (go_at_call 35; refine HT.out.mono ?_; rintro e w2 ⟨rfl, hb2⟩; have HI2 := Lib.hid (HI.out.below hb2); have HX2 := Lib.hid (HX.out.keep hb2); clear hb2) | (rw [← zTab]; refine wpList_store_mid rfl 83 _ _ rfl w2.heap.size 0 (tabC D) rfl rfl (there_at (heap_alloc_new _ _) (by rw [noTab_size, HTs.out])) (by rw [HTs.out]; exact Tryz.sizeTab) (tabC_one _) ?_; obtain ⟨hbw, hbg⟩ := new_whole2 w2 (tabC Gd.noTab) 83 (tabC D).toList (by rw [noTab_size, Array.length_toList, HTs.out]); generalize (World.setCells _ _ _ _) = w3 at hbw hbg ⊢; have HN3 : Hid (w3.heap[w2.heap.size]? = some (.cells (tabC D) 83 (0, 0))) := Lib.hid hbg; have HI3' := Lib.hid (HI2.out.below hbw); have HX3 := Lib.hid (HX2.out.keep hbw); clear hbw hbg))
            obtain ⟨tb, htb⟩ : ∃ tb, tb = w2.heap.size := ⟨_, rfl⟩
            have HTb2 : Hid (ab < tb ∧ xb < tb) := Lib.hid (by rw [htb]; exact ⟨HI2.out.a.lt, lt_get HX2.out.row⟩)
            rw [← htb] at HN3 ⊢
            clear htb c0 hc0 HI HX HI2 HX2 HT
            go_upto_region 23 with fail
            go_loopw [12, 13] (fun v z wr => ∃ j : Nat, z = .int .i64 j ∧ v = .int .i64 (Gd.namedT D j : Nat) ∧ j ≤ 16 ∧ Hid (SdI w M ub lb ab (Gd.takesL (Gd.blksD M (i + 1))) (lnkP M T D i j) (i + 1) wr) ∧ Hid (InoAt wr xb y) ∧ Hid (wr.heap[tb]? = some (.cells (tabC D) 83 (0, 0)))) (fun _ z _ => 16 - (intOf z).toNat)
            case atStart => exact ⟨0, rfl, rfl, by omega, Lib.hid (by rw [lnkP_zero]; exact HI3'.out), HX3, HN3⟩
            case round =>
              obtain ⟨j, rfl, rfl, hj16, HI, HX, HN⟩ := hrel
              by_cases hjl : j < 16
              · obtain ⟨en, hen⟩ : ∃ en, en = Gd.entAt D j := ⟨_, rfl⟩
                obtain ⟨e0, e1⟩ := tab_cells HN.out (Gd.entAt_get HD.out.ok.len hjl)
                have hst := Gd.namedT_step HD.out.ok.len hjl
                have hls := lnkP_step M T i HD.out.ok.len hjl
                have hmy := Gd.entAt_may HD.out.ok j
                have hj1 : (j : Int) < 16 := by omega
                have hnl := Gd.namedT_le D j
                rw [← hen] at e0 e1 hst hls hmy
                have HLs := Lib.hid hls
                by_cases hs : en.s = []
                · rw [hs] at e0
                  rw [if_neg (by simp [hs])] at hst
                  have HSt := Lib.hid hst
                  have HLk : Hid (lnkP M T D i (j + 1) = lnkP M T D i j) := Lib.hid (by rw [HLs.out, if_pos hs])
                  clear hen hst hls hmy hjl hs hnl
                  go_wp2
                  go_roundw
                  case rel => exact ⟨j + 1, by go_num, by rw [HSt.out]; rfl, by omega, by rw [HLk.out]; exact HI, HX, HN⟩
                  case measure => simp [intOf]; omega
                · rw [if_pos hs] at hst
                  have HSt := Lib.hid hst
                  have hi : 1 ≤ en.i ∧ en.i ≤ 32 := by
                    rcases hmy with h | ⟨_, h⟩
                    · rw [h] at hs
                      exact absurd rfl hs
                    · exact h
                  obtain ⟨q, hq⟩ : ∃ q, q = en.i := ⟨_, rfl⟩
                  rw [← hq] at e1 hi
                  have HLk : Hid (lnkP M T D i (j + 1) = (lnkP M T D i j).set q (lnkN M T D i j q + 1)) := Lib.hid (by rw [HLs.out, if_neg hs, ← hq])
                  have hlc : wr.cell? ⟨lb, q, none⟩ = some (.int .i64 (lnkN M T D i j q)) := by
                    rw [cell_of_row wr lb q _ _ _ HI.out.l, List.getElem?_toArray]
                    exact intC_get (lnkP_get M T D i j (by omega))
                  have hfz : wr.frozen? ⟨lb, q, none⟩ = false := frozen_of_row wr lb q _ _ HI.out.l
                  have hlt := lnkN_lt M T D i j q (by omega) hjl
                  have hisE : (⟨en.s.toArray⟩ : ByteArray).toList.isEmpty = false := isEmpty_ne hs
                  obtain ⟨nm, hnm⟩ : ∃ nm : ByteArray, nm = ⟨en.s.toArray⟩ := ⟨_, rfl⟩
                  rw [← hnm] at e0 hisE
                  obtain ⟨ln, hln⟩ : ∃ ln, ln = lnkN M T D i j q := ⟨_, rfl⟩
                  rw [← hln] at hlc HLk hlt
                  have hq33 : (q : Int) < 33 := by omega
                  have hq0 : (0 : Int) ≤ q := by omega
                  clear hen hst hls hmy hjl hs hnm hln hq
                  go_upto_region 26 with fail
                  go_upto_region 27 with fail
                  have hO : Only (fun j => j = lb) wr (wr.setCell ⟨lb, q, none⟩ (.int .i64 (ln + 1))) := grown_only (setCell_grown lb q wr (.int .i64 (ln + 1))) fun j e => (Option.some.inj e).symm
                  have HI5 : Hid (SdI w M ub lb ab (Gd.takesL (Gd.blksD M (i + 1))) (lnkP M T D i (j + 1)) (i + 1) (wr.setCell ⟨lb, q, none⟩ (.int .i64 (ln + 1)))) := Lib.hid (by rw [HLk.out]; exact HI.out.link HOr.out q (ln + 1))
                  have HX5 : Hid (InoAt (wr.setCell ⟨lb, q, none⟩ (.int .i64 (ln + 1))) xb y) := Lib.hid ⟨(hO.block xb (lt_get HX.out.row) (by have := HXb.out; have := HOr.out; omega)).trans HX.out.row, HSm.out.1⟩
                  have HN5 : Hid ((wr.setCell ⟨lb, q, none⟩ (.int .i64 (ln + 1))).heap[tb]? = some (.cells (tabC D) 83 (0, 0))) := Lib.hid ((hO.block tb (lt_get HN.out) (by have := HTb2.out; have := HOr.out; omega)).trans HN.out)
                  clear hO e0 e1 hlc hfz
                  generalize (wr.setCell ⟨lb, q, none⟩ (.int .i64 (ln + 1))) = w5 at HI5 HX5 HN5 ⊢
                  go_wp2
                  go_roundw
                  case rel => exact ⟨j + 1, by go_num, by rw [HSt.out]; rfl, by omega, HI5, HX5, HN5⟩
                  case measure => simp [intOf]; omega
              · obtain rfl : j = 16 := by omega
                have c2 := HX.out.c2
                rw [HSz2.out] at c2
                have HI6 : Hid (SdI w M ub lb ab (Gd.takesL (Gd.blksD M (i + 1))) (lnkL M T (i + 1)) (i + 1) wr) := Lib.hid (by
                  have := HI.out
                  rw [lnkP_all M T (by rw [← Hy.out]; exact HKy.out) HDt.out] at this
                  exact this)
                obtain ⟨wv, rfl⟩ : ∃ v, v = wr := ⟨_, rfl⟩
                clear hjl
                go_wp2
                go_roundw
                case rel => exact ⟨i + 1, by go_num, by omega, HI6⟩
                case measure => simp [intOf]; omega
          · have HI6 : Hid (SdI w M ub lb ab (Gd.takesL (Gd.blksD M (i + 1))) (lnkL M T (i + 1)) (i + 1) wz) := Lib.hid (by
              rw [lnkL_not M T (by rw [← Hy.out]; exact hk)]
              exact HI.out)
            obtain ⟨ky, hky⟩ : ∃ ky, ky = y.k := ⟨_, rfl⟩
            rw [← hky] at hk c0
            clear hky
            go_wp2
            go_roundw
            case rel => exact ⟨i + 1, by go_num, by omega, HI6⟩
            case measure => simp [intOf]; omega
    · obtain rfl : i = 32 := by omega
      obtain ⟨wz, rfl⟩ : ∃ v, v = wr := ⟨_, rfl⟩
      rw [HS.out.sound.all] at HI
      clear hlt hi32
      rw [show ((32 : Nat) : Int) + 1 = 33 from rfl]
      go_upto_region 31 with fail
      go_loopw [14] (fun z wr => ∃ i : Nat, z = .int .i64 ((i : Int) + 1) ∧ i ≤ 32 ∧ Hid (SdI w M ub lb ab M.map (lnkL M T 32) 32 wr)) (fun z _ => 34 - (intOf z).toNat)
      case atStart => exact ⟨0, rfl, by omega, HI⟩
      case round =>
        obtain ⟨i, rfl, hi32, HI⟩ := hrel
        by_cases hlt : i < 32
        · have hi1 : (i : Int) + 1 ≤ 32 := by omega
          have hi33 : (i : Int) + 1 < 33 := by omega
          have hi0 : (0 : Int) ≤ (i : Int) + 1 := by omega
          have hr := HI.out.a.range (j := i + 1) (by omega) (by omega)
          have HSm := Lib.hid (HSz.out (i + 1) (by omega) (by omega))
          have Hk0 := Lib.hid (HS.out.none (i + 1) (by omega) (by omega))
          have Hk1 := Lib.hid (HS.out.files (i + 1) (by omega) (by omega))
          have Hk2 := Lib.hid (HS.out.dirs (i + 1) (by omega) (by omega))
          obtain ⟨y, hy⟩ : ∃ y, y = M.ino (i + 1) := ⟨_, rfl⟩
          rw [← hy] at hr HSm Hk0 Hk1 Hk2
          have HRg : Hid (wr.rangeAt ab ((i + 1) * 15) (intC (inoL y))) := Lib.hid hr
          have HSl : Hid ((intC (inoL y)).length = 15) := Lib.hid (by have := HSm.out.1; unfold inoC at this; rw [List.size_toArray] at this; exact this)
          have HSy := Lib.hid HSm.out.1
          have hy3 := Gd.mayI_in HSm.out.2.2
          have hlk : wr.cell? ⟨lb, i + 1, none⟩ = some (.int .i64 (Gd.linkD M T (i + 1) 32 : Nat)) := by
            rw [cell_of_row wr lb (i + 1) _ _ _ HI.out.l, List.getElem?_toArray]
            exact intC_get (lnkP_get M T Gd.noTab 32 0 (by omega))
          clear hr hy hlt
          go_upto_region 34 with (first | (refine wpList_load_mid rfl 61 _ rfl ab ((i + 1) * 15) rfl (intC (inoL y)) _ HRg.out Tryz.underlying61 rfl (by rw [HSl.out]; exact Tryz.sizeIno) ?_) | (rw [← zIno_lit]; refine wpList_store_mid rfl 61 _ _ rfl wr.heap.size 0 (inoC y) rfl rfl (there_at (heap_alloc_new _ _) (by rw [zIno_size, HSy.out])) (by rw [HSy.out]; exact Tryz.sizeIno) (inoC_one _) ?_; obtain ⟨hbw, hbg⟩ := new_whole2 wr zIno 61 (inoC y).toList (by rw [zIno_size, Array.length_toList, HSy.out]); generalize (World.setCells _ _ _ _) = w3 at hbw hbg ⊢; have HX3 : Hid (InoAt w3 wr.heap.size y) := Lib.hid ⟨hbg, HSm.out.2.1⟩; have HI3' := Lib.hid (HI.out.below hbw); have hlk3 := (hbw.cell (p := ⟨lb, i + 1, none⟩) (lt_get HI.out.l)).trans hlk; clear hbw hbg))
          obtain ⟨xb, hxb⟩ : ∃ xb, xb = wr.heap.size := ⟨_, rfl⟩
          rw [← hxb] at HX3 ⊢
          have c0 := HX3.out.c0
          have c1 := HX3.out.c1
          clear hxb HI hlk
          by_cases hk0 : y.k = 0
          · rw [hk0] at c0
            rw [Hk0.out hk0] at hlk3
            clear hk0 hy3
            go_upto_region 38 with fail
            have hs0 : w3.drew.cell? ⟨xb, 0, none⟩ = some (.int .i64 0) := c0
            have HId := Lib.hid (HI3'.out.below (Below.refl _ _).drew)
            clear c0 c1 hlk3
            refine wp_region_held_drew (S := (fun W => W.cell? ⟨xb, 0, none⟩ = some (.int .i64 0))) (by kernel_rfl) ?_ (fun hHeld => ?_)
            · exact hs0
            refine wpAnyH_take (i := 0) (oi := _) (v := ?_) rfl (by kernel_rfl) (by kernel_rfl) (by kernel_rfl) (fun _ _ _ h => h) (Or.inl ⟨by rfl, ?_⟩) (by assumption) ?_
            rotate_left
            · intro w hSw
              (try dsimp only at hSw)
              first | (go_simp; done) | (go_simp; with_reducible rfl)
            try simp only [List.getElem_toArray, List.getElem_cons_succ, List.getElem_cons_zero, Act.put, List.setIfInBounds_toArray, List.set_cons_zero, List.set_cons_succ]
            refine wpAnyH_take (i := 1) (oi := _) (v := ?_) rfl (by kernel_rfl) (by kernel_rfl) (by kernel_rfl) (fun _ _ _ h => h) (Or.inl ⟨by rfl, ?_⟩) (by assumption) ?_
            rotate_left
            · intro w hSw
              (try dsimp only at hSw)
              first | (go_simp; done) | (go_simp; with_reducible rfl)
            try simp only [List.getElem_toArray, List.getElem_cons_succ, List.getElem_cons_zero, Act.put, List.setIfInBounds_toArray, List.set_cons_zero, List.set_cons_succ]
            refine wpAnyH_take (i := 2) (oi := _) (v := ?_) rfl (by kernel_rfl) (by kernel_rfl) (by kernel_rfl) (fun _ _ _ h => h) (Or.inl ⟨by rfl, ?_⟩) (by assumption) ?_
            rotate_left
            · intro w hSw
              (try dsimp only at hSw)
              first | (go_simp; done) | (go_simp; with_reducible rfl)
            try simp only [List.getElem_toArray, List.getElem_cons_succ, List.getElem_cons_zero, Act.put, List.setIfInBounds_toArray, List.set_cons_zero, List.set_cons_succ]
            refine wpAnyH_take (i := 3) (oi := _) (v := ?_) rfl (by kernel_rfl) (by kernel_rfl) (by kernel_rfl) (fun _ _ _ h => h) (Or.inl ⟨by rfl, ?_⟩) (by assumption) ?_
            rotate_left
            · intro w hSw
              (try dsimp only at hSw)
              first | (go_simp; done) | (go_simp; with_reducible rfl)
            try simp only [List.getElem_toArray, List.getElem_cons_succ, List.getElem_cons_zero, Act.put, List.setIfInBounds_toArray, List.set_cons_zero, List.set_cons_succ]
            refine wpAnyH_take (i := 4) (oi := _) (v := undef) rfl (by kernel_rfl) (by kernel_rfl) (by kernel_rfl) (fun _ _ _ h => h) (Or.inr ⟨by rfl, rfl⟩) (by assumption) ?_
            try simp only [List.getElem_toArray, List.getElem_cons_succ, List.getElem_cons_zero, Act.put, List.setIfInBounds_toArray, List.set_cons_zero, List.set_cons_succ]
            refine wpAnyH_take (i := 5) (oi := _) (v := undef) rfl (by kernel_rfl) (by kernel_rfl) (by kernel_rfl) (fun _ _ _ h => h) (Or.inr ⟨by rfl, rfl⟩) (by assumption) ?_
            try simp only [List.getElem_toArray, List.getElem_cons_succ, List.getElem_cons_zero, Act.put, List.setIfInBounds_toArray, List.set_cons_zero, List.set_cons_succ]
            refine wpAnyH_take (i := 6) (oi := _) (v := undef) rfl (by kernel_rfl) (by kernel_rfl) (by kernel_rfl) (fun _ _ _ h => h) (Or.inr ⟨by rfl, rfl⟩) (by assumption) ?_
            try simp only [List.getElem_toArray, List.getElem_cons_succ, List.getElem_cons_zero, Act.put, List.setIfInBounds_toArray, List.set_cons_zero, List.set_cons_succ]
            refine wpAnyH_take (i := 7) (oi := _) (v := undef) rfl (by kernel_rfl) (by kernel_rfl) (by kernel_rfl) (fun _ _ _ h => h) (Or.inr ⟨by rfl, rfl⟩) (by assumption) ?_
            try simp only [List.getElem_toArray, List.getElem_cons_succ, List.getElem_cons_zero, Act.put, List.setIfInBounds_toArray, List.set_cons_zero, List.set_cons_succ]
            refine wpAnyH_take (i := 8) (oi := _) (v := undef) rfl (by kernel_rfl) (by kernel_rfl) (by kernel_rfl) (fun _ _ _ h => h) (Or.inr ⟨by rfl, rfl⟩) (by assumption) ?_
            try simp only [List.getElem_toArray, List.getElem_cons_succ, List.getElem_cons_zero, Act.put, List.setIfInBounds_toArray, List.set_cons_zero, List.set_cons_succ]
            refine wpAnyH_take (i := 9) (oi := _) (v := undef) rfl (by kernel_rfl) (by kernel_rfl) (by kernel_rfl) (fun _ _ _ h => h) (Or.inr ⟨by rfl, rfl⟩) (by assumption) ?_
            try simp only [List.getElem_toArray, List.getElem_cons_succ, List.getElem_cons_zero, Act.put, List.setIfInBounds_toArray, List.set_cons_zero, List.set_cons_succ]
            refine wpAnyH_take (i := 10) (oi := _) (v := undef) rfl (by kernel_rfl) (by kernel_rfl) (by kernel_rfl) (fun _ _ _ h => h) (Or.inr ⟨by rfl, rfl⟩) (by assumption) ?_
            try simp only [List.getElem_toArray, List.getElem_cons_succ, List.getElem_cons_zero, Act.put, List.setIfInBounds_toArray, List.set_cons_zero, List.set_cons_succ]
            refine wpAnyH_take (i := 11) (oi := _) (v := undef) rfl (by kernel_rfl) (by kernel_rfl) (by kernel_rfl) (fun _ _ _ h => h) (Or.inr ⟨by rfl, rfl⟩) (by assumption) ?_
            try simp only [List.getElem_toArray, List.getElem_cons_succ, List.getElem_cons_zero, Act.put, List.setIfInBounds_toArray, List.set_cons_zero, List.set_cons_succ]
            refine wpAnyH_take (i := 12) (oi := _) (v := undef) rfl (by kernel_rfl) (by kernel_rfl) (by kernel_rfl) (fun _ _ _ h => h) (Or.inr ⟨by rfl, rfl⟩) (by assumption) ?_
            try simp only [List.getElem_toArray, List.getElem_cons_succ, List.getElem_cons_zero, Act.put, List.setIfInBounds_toArray, List.set_cons_zero, List.set_cons_succ]
            refine wpAnyH_take (i := 13) (oi := _) (v := undef) rfl (by kernel_rfl) (by kernel_rfl) (by kernel_rfl) (fun _ _ _ h => h) (Or.inr ⟨by rfl, rfl⟩) (by assumption) ?_
            try simp only [List.getElem_toArray, List.getElem_cons_succ, List.getElem_cons_zero, Act.put, List.setIfInBounds_toArray, List.set_cons_zero, List.set_cons_succ]
            refine wpAnyH_take (i := 14) (oi := _) (v := undef) rfl (by kernel_rfl) (by kernel_rfl) (by kernel_rfl) (fun _ _ _ h => h) (Or.inr ⟨by rfl, rfl⟩) (by assumption) ?_
            try simp only [List.getElem_toArray, List.getElem_cons_succ, List.getElem_cons_zero, Act.put, List.setIfInBounds_toArray, List.set_cons_zero, List.set_cons_succ]
            refine wpAnyH_take (i := 15) (oi := _) (v := undef) rfl (by kernel_rfl) (by kernel_rfl) (by kernel_rfl) (fun _ _ _ h => h) (Or.inr ⟨by rfl, rfl⟩) (by assumption) ?_
            try simp only [List.getElem_toArray, List.getElem_cons_succ, List.getElem_cons_zero, Act.put, List.setIfInBounds_toArray, List.set_cons_zero, List.set_cons_succ]
            refine wpAnyH_take (i := 16) (oi := _) (v := undef) rfl (by kernel_rfl) (by kernel_rfl) (by kernel_rfl) (fun _ _ _ h => h) (Or.inr ⟨by rfl, rfl⟩) (by assumption) ?_
            try simp only [List.getElem_toArray, List.getElem_cons_succ, List.getElem_cons_zero, Act.put, List.setIfInBounds_toArray, List.set_cons_zero, List.set_cons_succ]
            refine wpAnyH_take (i := 17) (oi := _) (v := undef) rfl (by kernel_rfl) (by kernel_rfl) (by kernel_rfl) (fun _ _ _ h => h) (Or.inr ⟨by rfl, rfl⟩) (by assumption) ?_
            try simp only [List.getElem_toArray, List.getElem_cons_succ, List.getElem_cons_zero, Act.put, List.setIfInBounds_toArray, List.set_cons_zero, List.set_cons_succ]
            refine wpAnyH_take (i := 18) (oi := _) (v := undef) rfl (by kernel_rfl) (by kernel_rfl) (by kernel_rfl) (fun _ _ _ h => h) (Or.inr ⟨by rfl, rfl⟩) (by assumption) ?_
            try simp only [List.getElem_toArray, List.getElem_cons_succ, List.getElem_cons_zero, Act.put, List.setIfInBounds_toArray, List.set_cons_zero, List.set_cons_succ]
            refine wpAnyH_take (i := 19) (oi := _) (v := undef) rfl (by kernel_rfl) (by kernel_rfl) (by kernel_rfl) (fun _ _ _ h => h) (Or.inr ⟨by rfl, rfl⟩) (by assumption) ?_
            try simp only [List.getElem_toArray, List.getElem_cons_succ, List.getElem_cons_zero, Act.put, List.setIfInBounds_toArray, List.set_cons_zero, List.set_cons_succ]
            refine wpAnyH_take (i := 20) (oi := _) (v := ?_) rfl (by kernel_rfl) (by kernel_rfl) (by kernel_rfl) (fun _ _ _ h => h) (Or.inl ⟨by rfl, ?_⟩) (by assumption) ?_
            rotate_left
            · intro w hSw
              (try dsimp only at hSw)
              first | (go_simp; done) | (go_simp; with_reducible rfl)
            try simp only [List.getElem_toArray, List.getElem_cons_succ, List.getElem_cons_zero, Act.put, List.setIfInBounds_toArray, List.set_cons_zero, List.set_cons_succ]
            refine wpAnyH_done (by kernel_rfl) ?_ _
            (try simp only [Exit.then])
            go_wp2
            go_roundw
            case rel => exact ⟨i + 1, by go_num, by omega, HId⟩
            case measure => simp [intOf]; omega
          · by_cases hk2 : y.k = 2
            · rw [hk2] at c0
              have hl2 := Hk2.out hk2
              have HId := Lib.hid (HI3'.out.below (Below.refl _ _).drew)
              by_cases hi0' : i = 0
              · subst hi0'
                rw [if_pos rfl] at hl2
                rw [hl2] at hlk3
                clear hk0 hk2 hy3 hl2
                go_upto_region 38 with fail
                have hs0 : w3.drew.cell? ⟨xb, 0, none⟩ = some (.int .i64 2) := c0
                clear c0 c1 hlk3
                refine wp_region_held_drew (S := (fun W => W.cell? ⟨xb, 0, none⟩ = some (.int .i64 2))) (by kernel_rfl) ?_ (fun hHeld => ?_)
                · exact hs0
                refine wpAnyH_take (i := 0) (oi := _) (v := ?_) rfl (by kernel_rfl) (by kernel_rfl) (by kernel_rfl) (fun _ _ _ h => h) (Or.inl ⟨by rfl, ?_⟩) (by assumption) ?_
                rotate_left
                · intro w hSw
                  (try dsimp only at hSw)
                  first | (go_simp; done) | (go_simp; with_reducible rfl)
                try simp only [List.getElem_toArray, List.getElem_cons_succ, List.getElem_cons_zero, Act.put, List.setIfInBounds_toArray, List.set_cons_zero, List.set_cons_succ]
                refine wpAnyH_take (i := 1) (oi := _) (v := ?_) rfl (by kernel_rfl) (by kernel_rfl) (by kernel_rfl) (fun _ _ _ h => h) (Or.inl ⟨by rfl, ?_⟩) (by assumption) ?_
                rotate_left
                · intro w hSw
                  (try dsimp only at hSw)
                  first | (go_simp; done) | (go_simp; with_reducible rfl)
                try simp only [List.getElem_toArray, List.getElem_cons_succ, List.getElem_cons_zero, Act.put, List.setIfInBounds_toArray, List.set_cons_zero, List.set_cons_succ]
                refine wpAnyH_take (i := 2) (oi := _) (v := ?_) rfl (by kernel_rfl) (by kernel_rfl) (by kernel_rfl) (fun _ _ _ h => h) (Or.inl ⟨by rfl, ?_⟩) (by assumption) ?_
                rotate_left
                · intro w hSw
                  (try dsimp only at hSw)
                  first | (go_simp; done) | (go_simp; with_reducible rfl)
                try simp only [List.getElem_toArray, List.getElem_cons_succ, List.getElem_cons_zero, Act.put, List.setIfInBounds_toArray, List.set_cons_zero, List.set_cons_succ]
                refine wpAnyH_take (i := 3) (oi := _) (v := ?_) rfl (by kernel_rfl) (by kernel_rfl) (by kernel_rfl) (fun _ _ _ h => h) (Or.inl ⟨by rfl, ?_⟩) (by assumption) ?_
                rotate_left
                · intro w hSw
                  (try dsimp only at hSw)
                  first | (go_simp; done) | (go_simp; with_reducible rfl)
                try simp only [List.getElem_toArray, List.getElem_cons_succ, List.getElem_cons_zero, Act.put, List.setIfInBounds_toArray, List.set_cons_zero, List.set_cons_succ]
                refine wpAnyH_take (i := 4) (oi := _) (v := undef) rfl (by kernel_rfl) (by kernel_rfl) (by kernel_rfl) (fun _ _ _ h => h) (Or.inr ⟨by rfl, rfl⟩) (by assumption) ?_
                try simp only [List.getElem_toArray, List.getElem_cons_succ, List.getElem_cons_zero, Act.put, List.setIfInBounds_toArray, List.set_cons_zero, List.set_cons_succ]
                refine wpAnyH_take (i := 5) (oi := _) (v := undef) rfl (by kernel_rfl) (by kernel_rfl) (by kernel_rfl) (fun _ _ _ h => h) (Or.inr ⟨by rfl, rfl⟩) (by assumption) ?_
                try simp only [List.getElem_toArray, List.getElem_cons_succ, List.getElem_cons_zero, Act.put, List.setIfInBounds_toArray, List.set_cons_zero, List.set_cons_succ]
                refine wpAnyH_take (i := 6) (oi := _) (v := undef) rfl (by kernel_rfl) (by kernel_rfl) (by kernel_rfl) (fun _ _ _ h => h) (Or.inr ⟨by rfl, rfl⟩) (by assumption) ?_
                try simp only [List.getElem_toArray, List.getElem_cons_succ, List.getElem_cons_zero, Act.put, List.setIfInBounds_toArray, List.set_cons_zero, List.set_cons_succ]
                refine wpAnyH_take (i := 7) (oi := _) (v := undef) rfl (by kernel_rfl) (by kernel_rfl) (by kernel_rfl) (fun _ _ _ h => h) (Or.inr ⟨by rfl, rfl⟩) (by assumption) ?_
                try simp only [List.getElem_toArray, List.getElem_cons_succ, List.getElem_cons_zero, Act.put, List.setIfInBounds_toArray, List.set_cons_zero, List.set_cons_succ]
                refine wpAnyH_take (i := 8) (oi := _) (v := undef) rfl (by kernel_rfl) (by kernel_rfl) (by kernel_rfl) (fun _ _ _ h => h) (Or.inr ⟨by rfl, rfl⟩) (by assumption) ?_
                try simp only [List.getElem_toArray, List.getElem_cons_succ, List.getElem_cons_zero, Act.put, List.setIfInBounds_toArray, List.set_cons_zero, List.set_cons_succ]
                refine wpAnyH_take (i := 9) (oi := _) (v := undef) rfl (by kernel_rfl) (by kernel_rfl) (by kernel_rfl) (fun _ _ _ h => h) (Or.inr ⟨by rfl, rfl⟩) (by assumption) ?_
                try simp only [List.getElem_toArray, List.getElem_cons_succ, List.getElem_cons_zero, Act.put, List.setIfInBounds_toArray, List.set_cons_zero, List.set_cons_succ]
                refine wpAnyH_take (i := 10) (oi := _) (v := undef) rfl (by kernel_rfl) (by kernel_rfl) (by kernel_rfl) (fun _ _ _ h => h) (Or.inr ⟨by rfl, rfl⟩) (by assumption) ?_
                try simp only [List.getElem_toArray, List.getElem_cons_succ, List.getElem_cons_zero, Act.put, List.setIfInBounds_toArray, List.set_cons_zero, List.set_cons_succ]
                refine wpAnyH_take (i := 11) (oi := _) (v := undef) rfl (by kernel_rfl) (by kernel_rfl) (by kernel_rfl) (fun _ _ _ h => h) (Or.inr ⟨by rfl, rfl⟩) (by assumption) ?_
                try simp only [List.getElem_toArray, List.getElem_cons_succ, List.getElem_cons_zero, Act.put, List.setIfInBounds_toArray, List.set_cons_zero, List.set_cons_succ]
                refine wpAnyH_take (i := 12) (oi := _) (v := undef) rfl (by kernel_rfl) (by kernel_rfl) (by kernel_rfl) (fun _ _ _ h => h) (Or.inr ⟨by rfl, rfl⟩) (by assumption) ?_
                try simp only [List.getElem_toArray, List.getElem_cons_succ, List.getElem_cons_zero, Act.put, List.setIfInBounds_toArray, List.set_cons_zero, List.set_cons_succ]
                refine wpAnyH_take (i := 13) (oi := _) (v := undef) rfl (by kernel_rfl) (by kernel_rfl) (by kernel_rfl) (fun _ _ _ h => h) (Or.inr ⟨by rfl, rfl⟩) (by assumption) ?_
                try simp only [List.getElem_toArray, List.getElem_cons_succ, List.getElem_cons_zero, Act.put, List.setIfInBounds_toArray, List.set_cons_zero, List.set_cons_succ]
                refine wpAnyH_take (i := 14) (oi := _) (v := undef) rfl (by kernel_rfl) (by kernel_rfl) (by kernel_rfl) (fun _ _ _ h => h) (Or.inr ⟨by rfl, rfl⟩) (by assumption) ?_
                try simp only [List.getElem_toArray, List.getElem_cons_succ, List.getElem_cons_zero, Act.put, List.setIfInBounds_toArray, List.set_cons_zero, List.set_cons_succ]
                refine wpAnyH_take (i := 15) (oi := _) (v := undef) rfl (by kernel_rfl) (by kernel_rfl) (by kernel_rfl) (fun _ _ _ h => h) (Or.inr ⟨by rfl, rfl⟩) (by assumption) ?_
                try simp only [List.getElem_toArray, List.getElem_cons_succ, List.getElem_cons_zero, Act.put, List.setIfInBounds_toArray, List.set_cons_zero, List.set_cons_succ]
                refine wpAnyH_take (i := 16) (oi := _) (v := undef) rfl (by kernel_rfl) (by kernel_rfl) (by kernel_rfl) (fun _ _ _ h => h) (Or.inr ⟨by rfl, rfl⟩) (by assumption) ?_
                try simp only [List.getElem_toArray, List.getElem_cons_succ, List.getElem_cons_zero, Act.put, List.setIfInBounds_toArray, List.set_cons_zero, List.set_cons_succ]
                refine wpAnyH_take (i := 17) (oi := _) (v := undef) rfl (by kernel_rfl) (by kernel_rfl) (by kernel_rfl) (fun _ _ _ h => h) (Or.inr ⟨by rfl, rfl⟩) (by assumption) ?_
                try simp only [List.getElem_toArray, List.getElem_cons_succ, List.getElem_cons_zero, Act.put, List.setIfInBounds_toArray, List.set_cons_zero, List.set_cons_succ]
                refine wpAnyH_take (i := 18) (oi := _) (v := undef) rfl (by kernel_rfl) (by kernel_rfl) (by kernel_rfl) (fun _ _ _ h => h) (Or.inr ⟨by rfl, rfl⟩) (by assumption) ?_
                try simp only [List.getElem_toArray, List.getElem_cons_succ, List.getElem_cons_zero, Act.put, List.setIfInBounds_toArray, List.set_cons_zero, List.set_cons_succ]
                refine wpAnyH_take (i := 19) (oi := _) (v := undef) rfl (by kernel_rfl) (by kernel_rfl) (by kernel_rfl) (fun _ _ _ h => h) (Or.inr ⟨by rfl, rfl⟩) (by assumption) ?_
                try simp only [List.getElem_toArray, List.getElem_cons_succ, List.getElem_cons_zero, Act.put, List.setIfInBounds_toArray, List.set_cons_zero, List.set_cons_succ]
                refine wpAnyH_take (i := 20) (oi := _) (v := ?_) rfl (by kernel_rfl) (by kernel_rfl) (by kernel_rfl) (fun _ _ _ h => h) (Or.inl ⟨by rfl, ?_⟩) (by assumption) ?_
                rotate_left
                · intro w hSw
                  (try dsimp only at hSw)
                  first | (go_simp; done) | (go_simp; with_reducible rfl)
                try simp only [List.getElem_toArray, List.getElem_cons_succ, List.getElem_cons_zero, Act.put, List.setIfInBounds_toArray, List.set_cons_zero, List.set_cons_succ]
                refine wpAnyH_done (by kernel_rfl) ?_ _
                (try simp only [Exit.then])
                go_wp2
                go_roundw
                case rel => exact ⟨1, by go_num, by omega, HId⟩
                case measure => simp [intOf]
              · rw [if_neg (by omega)] at hl2
                rw [hl2] at hlk3
                have hne : ((i : Int) + 1 == 1) = false := by simp; omega
                have hne2 : ¬ (i : Int) + 1 = 1 := by omega
                clear hk0 hk2 hy3 hl2
                go_upto_region 38 with fail
                have hs0 : w3.drew.cell? ⟨xb, 0, none⟩ = some (.int .i64 2) := c0
                clear c0 c1 hlk3
                refine wp_region_held_drew (S := (fun W => W.cell? ⟨xb, 0, none⟩ = some (.int .i64 2))) (by kernel_rfl) ?_ (fun hHeld => ?_)
                · exact hs0
                refine wpAnyH_take (i := 0) (oi := _) (v := ?_) rfl (by kernel_rfl) (by kernel_rfl) (by kernel_rfl) (fun _ _ _ h => h) (Or.inl ⟨by rfl, ?_⟩) (by assumption) ?_
                rotate_left
                · intro w hSw
                  (try dsimp only at hSw)
                  first | (go_simp; done) | (go_simp; with_reducible rfl)
                try simp only [List.getElem_toArray, List.getElem_cons_succ, List.getElem_cons_zero, Act.put, List.setIfInBounds_toArray, List.set_cons_zero, List.set_cons_succ]
                refine wpAnyH_take (i := 1) (oi := _) (v := ?_) rfl (by kernel_rfl) (by kernel_rfl) (by kernel_rfl) (fun _ _ _ h => h) (Or.inl ⟨by rfl, ?_⟩) (by assumption) ?_
                rotate_left
                · intro w hSw
                  (try dsimp only at hSw)
                  first | (go_simp; done) | (go_simp; with_reducible rfl)
                try simp only [List.getElem_toArray, List.getElem_cons_succ, List.getElem_cons_zero, Act.put, List.setIfInBounds_toArray, List.set_cons_zero, List.set_cons_succ]
                refine wpAnyH_take (i := 2) (oi := _) (v := ?_) rfl (by kernel_rfl) (by kernel_rfl) (by kernel_rfl) (fun _ _ _ h => h) (Or.inl ⟨by rfl, ?_⟩) (by assumption) ?_
                rotate_left
                · intro w hSw
                  (try dsimp only at hSw)
                  first | (go_simp; done) | (go_simp; with_reducible rfl)
                try simp only [List.getElem_toArray, List.getElem_cons_succ, List.getElem_cons_zero, Act.put, List.setIfInBounds_toArray, List.set_cons_zero, List.set_cons_succ]
                refine wpAnyH_take (i := 3) (oi := _) (v := ?_) rfl (by kernel_rfl) (by kernel_rfl) (by kernel_rfl) (fun _ _ _ h => h) (Or.inl ⟨by rfl, ?_⟩) (by assumption) ?_
                rotate_left
                · intro w hSw
                  (try dsimp only at hSw)
                  first | (go_simp; done) | (go_simp; with_reducible rfl)
                try simp only [List.getElem_toArray, List.getElem_cons_succ, List.getElem_cons_zero, Act.put, List.setIfInBounds_toArray, List.set_cons_zero, List.set_cons_succ]
                refine wpAnyH_take (i := 4) (oi := _) (v := undef) rfl (by kernel_rfl) (by kernel_rfl) (by kernel_rfl) (fun _ _ _ h => h) (Or.inr ⟨by rfl, rfl⟩) (by assumption) ?_
                try simp only [List.getElem_toArray, List.getElem_cons_succ, List.getElem_cons_zero, Act.put, List.setIfInBounds_toArray, List.set_cons_zero, List.set_cons_succ]
                refine wpAnyH_take (i := 5) (oi := _) (v := undef) rfl (by kernel_rfl) (by kernel_rfl) (by kernel_rfl) (fun _ _ _ h => h) (Or.inr ⟨by rfl, rfl⟩) (by assumption) ?_
                try simp only [List.getElem_toArray, List.getElem_cons_succ, List.getElem_cons_zero, Act.put, List.setIfInBounds_toArray, List.set_cons_zero, List.set_cons_succ]
                refine wpAnyH_take (i := 6) (oi := _) (v := undef) rfl (by kernel_rfl) (by kernel_rfl) (by kernel_rfl) (fun _ _ _ h => h) (Or.inr ⟨by rfl, rfl⟩) (by assumption) ?_
                try simp only [List.getElem_toArray, List.getElem_cons_succ, List.getElem_cons_zero, Act.put, List.setIfInBounds_toArray, List.set_cons_zero, List.set_cons_succ]
                refine wpAnyH_take (i := 7) (oi := _) (v := undef) rfl (by kernel_rfl) (by kernel_rfl) (by kernel_rfl) (fun _ _ _ h => h) (Or.inr ⟨by rfl, rfl⟩) (by assumption) ?_
                try simp only [List.getElem_toArray, List.getElem_cons_succ, List.getElem_cons_zero, Act.put, List.setIfInBounds_toArray, List.set_cons_zero, List.set_cons_succ]
                refine wpAnyH_take (i := 8) (oi := _) (v := undef) rfl (by kernel_rfl) (by kernel_rfl) (by kernel_rfl) (fun _ _ _ h => h) (Or.inr ⟨by rfl, rfl⟩) (by assumption) ?_
                try simp only [List.getElem_toArray, List.getElem_cons_succ, List.getElem_cons_zero, Act.put, List.setIfInBounds_toArray, List.set_cons_zero, List.set_cons_succ]
                refine wpAnyH_take (i := 9) (oi := _) (v := undef) rfl (by kernel_rfl) (by kernel_rfl) (by kernel_rfl) (fun _ _ _ h => h) (Or.inr ⟨by rfl, rfl⟩) (by assumption) ?_
                try simp only [List.getElem_toArray, List.getElem_cons_succ, List.getElem_cons_zero, Act.put, List.setIfInBounds_toArray, List.set_cons_zero, List.set_cons_succ]
                refine wpAnyH_take (i := 10) (oi := _) (v := undef) rfl (by kernel_rfl) (by kernel_rfl) (by kernel_rfl) (fun _ _ _ h => h) (Or.inr ⟨by rfl, rfl⟩) (by assumption) ?_
                try simp only [List.getElem_toArray, List.getElem_cons_succ, List.getElem_cons_zero, Act.put, List.setIfInBounds_toArray, List.set_cons_zero, List.set_cons_succ]
                refine wpAnyH_take (i := 11) (oi := _) (v := undef) rfl (by kernel_rfl) (by kernel_rfl) (by kernel_rfl) (fun _ _ _ h => h) (Or.inr ⟨by rfl, rfl⟩) (by assumption) ?_
                try simp only [List.getElem_toArray, List.getElem_cons_succ, List.getElem_cons_zero, Act.put, List.setIfInBounds_toArray, List.set_cons_zero, List.set_cons_succ]
                refine wpAnyH_take (i := 12) (oi := _) (v := undef) rfl (by kernel_rfl) (by kernel_rfl) (by kernel_rfl) (fun _ _ _ h => h) (Or.inr ⟨by rfl, rfl⟩) (by assumption) ?_
                try simp only [List.getElem_toArray, List.getElem_cons_succ, List.getElem_cons_zero, Act.put, List.setIfInBounds_toArray, List.set_cons_zero, List.set_cons_succ]
                refine wpAnyH_take (i := 13) (oi := _) (v := undef) rfl (by kernel_rfl) (by kernel_rfl) (by kernel_rfl) (fun _ _ _ h => h) (Or.inr ⟨by rfl, rfl⟩) (by assumption) ?_
                try simp only [List.getElem_toArray, List.getElem_cons_succ, List.getElem_cons_zero, Act.put, List.setIfInBounds_toArray, List.set_cons_zero, List.set_cons_succ]
                refine wpAnyH_take (i := 14) (oi := _) (v := undef) rfl (by kernel_rfl) (by kernel_rfl) (by kernel_rfl) (fun _ _ _ h => h) (Or.inr ⟨by rfl, rfl⟩) (by assumption) ?_
                try simp only [List.getElem_toArray, List.getElem_cons_succ, List.getElem_cons_zero, Act.put, List.setIfInBounds_toArray, List.set_cons_zero, List.set_cons_succ]
                refine wpAnyH_take (i := 15) (oi := _) (v := undef) rfl (by kernel_rfl) (by kernel_rfl) (by kernel_rfl) (fun _ _ _ h => h) (Or.inr ⟨by rfl, rfl⟩) (by assumption) ?_
                try simp only [List.getElem_toArray, List.getElem_cons_succ, List.getElem_cons_zero, Act.put, List.setIfInBounds_toArray, List.set_cons_zero, List.set_cons_succ]
                refine wpAnyH_take (i := 16) (oi := _) (v := undef) rfl (by kernel_rfl) (by kernel_rfl) (by kernel_rfl) (fun _ _ _ h => h) (Or.inr ⟨by rfl, rfl⟩) (by assumption) ?_
                try simp only [List.getElem_toArray, List.getElem_cons_succ, List.getElem_cons_zero, Act.put, List.setIfInBounds_toArray, List.set_cons_zero, List.set_cons_succ]
                refine wpAnyH_take (i := 17) (oi := _) (v := undef) rfl (by kernel_rfl) (by kernel_rfl) (by kernel_rfl) (fun _ _ _ h => h) (Or.inr ⟨by rfl, rfl⟩) (by assumption) ?_
                try simp only [List.getElem_toArray, List.getElem_cons_succ, List.getElem_cons_zero, Act.put, List.setIfInBounds_toArray, List.set_cons_zero, List.set_cons_succ]
                refine wpAnyH_take (i := 18) (oi := _) (v := undef) rfl (by kernel_rfl) (by kernel_rfl) (by kernel_rfl) (fun _ _ _ h => h) (Or.inr ⟨by rfl, rfl⟩) (by assumption) ?_
                try simp only [List.getElem_toArray, List.getElem_cons_succ, List.getElem_cons_zero, Act.put, List.setIfInBounds_toArray, List.set_cons_zero, List.set_cons_succ]
                refine wpAnyH_take (i := 19) (oi := _) (v := undef) rfl (by kernel_rfl) (by kernel_rfl) (by kernel_rfl) (fun _ _ _ h => h) (Or.inr ⟨by rfl, rfl⟩) (by assumption) ?_
                try simp only [List.getElem_toArray, List.getElem_cons_succ, List.getElem_cons_zero, Act.put, List.setIfInBounds_toArray, List.set_cons_zero, List.set_cons_succ]
                refine wpAnyH_take (i := 20) (oi := _) (v := ?_) rfl (by kernel_rfl) (by kernel_rfl) (by kernel_rfl) (fun _ _ _ h => h) (Or.inl ⟨by rfl, ?_⟩) (by assumption) ?_
                rotate_left
                · intro w hSw
                  (try dsimp only at hSw)
                  first | (go_simp; done) | (go_simp; with_reducible rfl)
                try simp only [List.getElem_toArray, List.getElem_cons_succ, List.getElem_cons_zero, Act.put, List.setIfInBounds_toArray, List.set_cons_zero, List.set_cons_succ]
                refine wpAnyH_done (by kernel_rfl) ?_ _
                (try simp only [Exit.then])
                go_wp2
                go_roundw
                case rel => exact ⟨i + 1, by go_num, by omega, HId⟩
                case measure => simp [intOf]; omega
            · have hk1 : y.k = 1 := by
                have := hy3.k
                omega
              obtain ⟨hl1, hl0⟩ := Hk1.out hk1
              rw [hk1] at c0
              rw [← hl1] at hlk3
              have HOp := Lib.hid (iopen_any y HSm.out.2.1 hy3.O)
              unfold inoV at HOp
              have HId := Lib.hid (HI3'.out.below (Below.refl _ _).drew)
              obtain ⟨l, hl⟩ : ∃ l, l = y.l := ⟨_, rfl⟩
              rw [← hl] at c1 hlk3 hl0
              clear hl1 hl hk0 hk2 hk1 hy3
              go_upto_region 38 with fail
              by_cases hz : l = 0
              · have ho := hl0 hz
                subst hz
                obtain ⟨o, hoo⟩ : ∃ o, o = y.O.sum := ⟨_, rfl⟩
                rw [← hoo] at HOp ho
                have hob : (o == 0) = false := by simpa using ho
                have hs0 : w3.drew.cell? ⟨xb, 0, none⟩ = some (.int .i64 1) ∧ w3.drew.cell? ⟨xb, 1, none⟩ = some (.int .i64 0) ∧ w3.drew.cell? ⟨lb, i + 1, none⟩ = some (.int .i64 0) ∧ w3.drew.heap[xb]? = some (.cells (inoC y) 61 (0, 0)) := ⟨c0, c1, hlk3, HX3.out.row⟩
                clear c0 c1 hlk3 hl0 hoo
                refine wp_region_held_drew (S := (fun W => W.cell? ⟨xb, 0, none⟩ = some (.int .i64 1) ∧ W.cell? ⟨xb, 1, none⟩ = some (.int .i64 0) ∧ W.cell? ⟨lb, i + 1, none⟩ = some (.int .i64 0) ∧ W.heap[xb]? = some (.cells (inoC y) 61 (0, 0)))) (by kernel_rfl) ?_ (fun hHeld => ?_)
                · exact hs0
                refine wpAnyH_take (i := 0) (oi := _) (v := ?_) rfl (by kernel_rfl) (by kernel_rfl) (by kernel_rfl) (fun _ _ _ h => h) (Or.inl ⟨by rfl, ?_⟩) (by assumption) ?_
                rotate_left
                · intro w hSw
                  (try dsimp only at hSw)
                  first | (go_simp; done) | (go_simp; with_reducible rfl)
                try simp only [List.getElem_toArray, List.getElem_cons_succ, List.getElem_cons_zero, Act.put, List.setIfInBounds_toArray, List.set_cons_zero, List.set_cons_succ]
                refine wpAnyH_take (i := 1) (oi := _) (v := ?_) rfl (by kernel_rfl) (by kernel_rfl) (by kernel_rfl) (fun _ _ _ h => h) (Or.inl ⟨by rfl, ?_⟩) (by assumption) ?_
                rotate_left
                · intro w hSw
                  (try dsimp only at hSw)
                  first | (go_simp; done) | (go_simp; with_reducible rfl)
                try simp only [List.getElem_toArray, List.getElem_cons_succ, List.getElem_cons_zero, Act.put, List.setIfInBounds_toArray, List.set_cons_zero, List.set_cons_succ]
                refine wpAnyH_take (i := 2) (oi := _) (v := ?_) rfl (by kernel_rfl) (by kernel_rfl) (by kernel_rfl) (fun _ _ _ h => h) (Or.inl ⟨by rfl, ?_⟩) (by assumption) ?_
                rotate_left
                · intro w hSw
                  (try dsimp only at hSw)
                  first | (go_simp; done) | (go_simp; with_reducible rfl)
                try simp only [List.getElem_toArray, List.getElem_cons_succ, List.getElem_cons_zero, Act.put, List.setIfInBounds_toArray, List.set_cons_zero, List.set_cons_succ]
                refine wpAnyH_take (i := 3) (oi := _) (v := ?_) rfl (by kernel_rfl) (by kernel_rfl) (by kernel_rfl) (fun _ _ _ h => h) (Or.inl ⟨by rfl, ?_⟩) (by assumption) ?_
                rotate_left
                · intro w hSw
                  (try dsimp only at hSw)
                  first | (go_simp; done) | (go_simp; with_reducible rfl)
                try simp only [List.getElem_toArray, List.getElem_cons_succ, List.getElem_cons_zero, Act.put, List.setIfInBounds_toArray, List.set_cons_zero, List.set_cons_succ]
                refine wpAnyH_take (i := 4) (oi := _) (v := ?_) rfl (by kernel_rfl) (by kernel_rfl) (by kernel_rfl) (fun _ _ _ h => h) (Or.inl ⟨by rfl, ?_⟩) (by assumption) ?_
                rotate_left
                · intro w hSw
                  (try dsimp only at hSw)
                  first | (go_simp; done) | (go_simp; with_reducible rfl)
                try simp only [List.getElem_toArray, List.getElem_cons_succ, List.getElem_cons_zero, Act.put, List.setIfInBounds_toArray, List.set_cons_zero, List.set_cons_succ]
                refine wpAnyH_take (i := 5) (oi := _) (v := ?_) rfl (by kernel_rfl) (by kernel_rfl) (by kernel_rfl) (fun _ _ _ h => h) (Or.inl ⟨by rfl, ?_⟩) (by assumption) ?_
                rotate_left
                · intro w hSw
                  (try dsimp only at hSw)
                  first | (go_simp; done) | (go_simp; with_reducible rfl)
                try simp only [List.getElem_toArray, List.getElem_cons_succ, List.getElem_cons_zero, Act.put, List.setIfInBounds_toArray, List.set_cons_zero, List.set_cons_succ]
                refine wpAnyH_take (i := 6) (oi := _) (v := ?_) rfl (by kernel_rfl) (by kernel_rfl) (by kernel_rfl) (fun _ _ _ h => h) (Or.inl ⟨by rfl, ?_⟩) (by assumption) ?_
                rotate_left
                · intro w hSw
                  (try dsimp only at hSw)
                  first | (go_simp; done) | (go_simp; with_reducible rfl)
                try simp only [List.getElem_toArray, List.getElem_cons_succ, List.getElem_cons_zero, Act.put, List.setIfInBounds_toArray, List.set_cons_zero, List.set_cons_succ]
                refine wpAnyH_take (i := 7) (oi := _) (v := ?_) rfl (by kernel_rfl) (by kernel_rfl) (by kernel_rfl) (fun _ _ _ h => h) (Or.inl ⟨by rfl, ?_⟩) (by assumption) ?_
                rotate_left
                · intro w hSw
                  (try dsimp only at hSw)
                  first | (go_simp; done) | (go_simp; with_reducible rfl)
                try simp only [List.getElem_toArray, List.getElem_cons_succ, List.getElem_cons_zero, Act.put, List.setIfInBounds_toArray, List.set_cons_zero, List.set_cons_succ]
                refine wpAnyH_take (i := 8) (oi := _) (v := ?_) rfl (by kernel_rfl) (by kernel_rfl) (by kernel_rfl) (fun _ _ _ h => h) (Or.inl ⟨by rfl, ?_⟩) (by assumption) ?_
                rotate_left
                · intro w hSw
                  (try dsimp only at hSw)
                  first | (go_simp; done) | (go_simp; with_reducible rfl)
                try simp only [List.getElem_toArray, List.getElem_cons_succ, List.getElem_cons_zero, Act.put, List.setIfInBounds_toArray, List.set_cons_zero, List.set_cons_succ]
                refine wpAnyH_take (i := 9) (oi := _) (v := ?_) rfl (by kernel_rfl) (by kernel_rfl) (by kernel_rfl) (fun _ _ _ h => h) (Or.inl ⟨by rfl, ?_⟩) (by assumption) ?_
                rotate_left
                · intro w hSw
                  (try dsimp only at hSw)
                  first | (go_simp; done) | (go_simp; with_reducible rfl)
                try simp only [List.getElem_toArray, List.getElem_cons_succ, List.getElem_cons_zero, Act.put, List.setIfInBounds_toArray, List.set_cons_zero, List.set_cons_succ]
                refine wpAnyH_take (i := 10) (oi := _) (v := ?_) rfl (by kernel_rfl) (by kernel_rfl) (by kernel_rfl) (fun _ _ _ h => h) (Or.inl ⟨by rfl, ?_⟩) (by assumption) ?_
                rotate_left
                · intro w hSw
                  (try dsimp only at hSw)
                  first | (go_simp; done) | (go_simp; with_reducible rfl)
                try simp only [List.getElem_toArray, List.getElem_cons_succ, List.getElem_cons_zero, Act.put, List.setIfInBounds_toArray, List.set_cons_zero, List.set_cons_succ]
                refine wpAnyH_take (i := 11) (oi := _) (v := ?_) rfl (by kernel_rfl) (by kernel_rfl) (by kernel_rfl) (fun _ _ _ h => h) (Or.inl ⟨by rfl, ?_⟩) (by assumption) ?_
                rotate_left
                · intro w hSw
                  (try dsimp only at hSw)
                  first | (go_simp; done) | (go_simp; with_reducible rfl)
                try simp only [List.getElem_toArray, List.getElem_cons_succ, List.getElem_cons_zero, Act.put, List.setIfInBounds_toArray, List.set_cons_zero, List.set_cons_succ]
                refine wpAnyH_take (i := 12) (oi := _) (v := ?_) rfl (by kernel_rfl) (by kernel_rfl) (by kernel_rfl) (fun _ _ _ h => h) (Or.inl ⟨by rfl, ?_⟩) (by assumption) ?_
                rotate_left
                · intro w hSw
                  (try dsimp only at hSw)
                  first | (go_simp; done) | (go_simp; with_reducible rfl)
                try simp only [List.getElem_toArray, List.getElem_cons_succ, List.getElem_cons_zero, Act.put, List.setIfInBounds_toArray, List.set_cons_zero, List.set_cons_succ]
                refine wpAnyH_take (i := 13) (oi := _) (v := ?_) rfl (by kernel_rfl) (by kernel_rfl) (by kernel_rfl) (fun _ _ _ h => h) (Or.inl ⟨by rfl, ?_⟩) (by assumption) ?_
                rotate_left
                · intro w hSw
                  (try dsimp only at hSw)
                  first | (go_simp; done) | (go_simp; with_reducible rfl)
                try simp only [List.getElem_toArray, List.getElem_cons_succ, List.getElem_cons_zero, Act.put, List.setIfInBounds_toArray, List.set_cons_zero, List.set_cons_succ]
                refine wpAnyH_take (i := 14) (oi := _) (v := ?_) rfl (by kernel_rfl) (by kernel_rfl) (by kernel_rfl) (fun _ _ _ h => h) (Or.inl ⟨by rfl, ?_⟩) (by assumption) ?_
                rotate_left
                · intro w hSw
                  (try dsimp only at hSw)
                  first | (go_simp; done) | (go_simp; with_reducible rfl)
                try simp only [List.getElem_toArray, List.getElem_cons_succ, List.getElem_cons_zero, Act.put, List.setIfInBounds_toArray, List.set_cons_zero, List.set_cons_succ]
                refine wpAnyH_take (i := 15) (oi := _) (v := ?_) rfl (by kernel_rfl) (by kernel_rfl) (by kernel_rfl) (fun _ _ _ h => h) (Or.inl ⟨by rfl, ?_⟩) (by assumption) ?_
                rotate_left
                · intro w hSw
                  refine exec_load_row 61 (.tmp 15) ?_ xb ?_ 61 (inoC y) (0, 0) _ hSw.2.2.2 Tryz.underlying61 ?_ (by rw [HSy.out]; exact Tryz.sizeIno)
                  all_goals rfl
                try simp only [List.getElem_toArray, List.getElem_cons_succ, List.getElem_cons_zero, Act.put, List.setIfInBounds_toArray, List.set_cons_zero, List.set_cons_succ]
                refine wpAnyH_ready (rs := [16]) (by kernel_rfl) (by simp) ?_
                refine AllReadyH.cons (o := _) rfl (fun K hK => ?_) AllReadyH.nil
                go_simp
                refine (HOp.out _).mono ?_
                rintro e wq ⟨rfl, hbq⟩
                have HIq := Lib.hid (HId.out.below hbq)
                have hsq := And.intro ((hbq.cell (p := ⟨xb, 0, none⟩) (lt_get hs0.2.2.2)).trans hs0.1) (And.intro ((hbq.cell (p := ⟨xb, 1, none⟩) (lt_get hs0.2.2.2)).trans hs0.2.1) (And.intro ((hbq.cell (p := ⟨lb, i + 1, none⟩) (lt_get HId.out.l)).trans hs0.2.2.1) ((hbq.block xb (lt_get hs0.2.2.2)).trans hs0.2.2.2)))
                clear hbq
                dsimp only
                refine hK.out _ _ hsq (fun hHeld => ?_)
                clear hK K
                try simp only [List.getElem_toArray, List.getElem_cons_succ, List.getElem_cons_zero, Act.put, List.setIfInBounds_toArray, List.set_cons_zero, List.set_cons_succ]
                refine wpAnyH_take (i := 17) (oi := _) (v := ?_) rfl (by kernel_rfl) (by kernel_rfl) (by kernel_rfl) (fun _ _ _ h => h) (Or.inl ⟨by rfl, ?_⟩) (by assumption) ?_
                rotate_left
                · intro w hSw
                  (try dsimp only at hSw)
                  first | (go_simp; done) | (go_simp; with_reducible rfl)
                try simp only [List.getElem_toArray, List.getElem_cons_succ, List.getElem_cons_zero, Act.put, List.setIfInBounds_toArray, List.set_cons_zero, List.set_cons_succ]
                refine wpAnyH_take (i := 18) (oi := _) (v := ?_) rfl (by kernel_rfl) (by kernel_rfl) (by kernel_rfl) (fun _ _ _ h => h) (Or.inl ⟨by rfl, ?_⟩) (by assumption) ?_
                rotate_left
                · intro w hSw
                  (try dsimp only at hSw)
                  first | (go_simp; done) | (go_simp; with_reducible rfl)
                try simp only [List.getElem_toArray, List.getElem_cons_succ, List.getElem_cons_zero, Act.put, List.setIfInBounds_toArray, List.set_cons_zero, List.set_cons_succ]
                refine wpAnyH_take (i := 19) (oi := _) (v := ?_) rfl (by kernel_rfl) (by kernel_rfl) (by kernel_rfl) (fun _ _ _ h => h) (Or.inl ⟨by rfl, ?_⟩) (by assumption) ?_
                rotate_left
                · intro w hSw
                  (try dsimp only at hSw)
                  first | (go_simp; done) | (go_simp; with_reducible rfl)
                try simp only [List.getElem_toArray, List.getElem_cons_succ, List.getElem_cons_zero, Act.put, List.setIfInBounds_toArray, List.set_cons_zero, List.set_cons_succ]
                refine wpAnyH_take (i := 20) (oi := _) (v := ?_) rfl (by kernel_rfl) (by kernel_rfl) (by kernel_rfl) (fun _ _ _ h => h) (Or.inl ⟨by rfl, ?_⟩) (by assumption) ?_
                rotate_left
                · intro w hSw
                  (try dsimp only at hSw)
                  first | (go_simp; done) | (go_simp; with_reducible rfl)
                try simp only [List.getElem_toArray, List.getElem_cons_succ, List.getElem_cons_zero, Act.put, List.setIfInBounds_toArray, List.set_cons_zero, List.set_cons_succ]
                refine wpAnyH_done (by kernel_rfl) ?_ _
                (try simp only [Exit.then])
                go_wp2
                go_roundw
                case rel => exact ⟨i + 1, by go_num, by omega, HIq⟩
                case measure => simp [intOf]; omega
              · have hzb : (l == 0) = false := by simpa using hz
                have hs0 : w3.drew.cell? ⟨xb, 0, none⟩ = some (.int .i64 1) ∧ w3.drew.cell? ⟨xb, 1, none⟩ = some (.int .i64 l) ∧ w3.drew.cell? ⟨lb, i + 1, none⟩ = some (.int .i64 l) := ⟨c0, c1, hlk3⟩
                clear c0 c1 hlk3 hl0
                refine wp_region_held_drew (S := (fun W => W.cell? ⟨xb, 0, none⟩ = some (.int .i64 1) ∧ W.cell? ⟨xb, 1, none⟩ = some (.int .i64 l) ∧ W.cell? ⟨lb, i + 1, none⟩ = some (.int .i64 l))) (by kernel_rfl) ?_ (fun hHeld => ?_)
                · exact hs0
                refine wpAnyH_take (i := 0) (oi := _) (v := ?_) rfl (by kernel_rfl) (by kernel_rfl) (by kernel_rfl) (fun _ _ _ h => h) (Or.inl ⟨by rfl, ?_⟩) (by assumption) ?_
                rotate_left
                · intro w hSw
                  (try dsimp only at hSw)
                  first | (go_simp; done) | (go_simp; with_reducible rfl)
                try simp only [List.getElem_toArray, List.getElem_cons_succ, List.getElem_cons_zero, Act.put, List.setIfInBounds_toArray, List.set_cons_zero, List.set_cons_succ]
                refine wpAnyH_take (i := 1) (oi := _) (v := ?_) rfl (by kernel_rfl) (by kernel_rfl) (by kernel_rfl) (fun _ _ _ h => h) (Or.inl ⟨by rfl, ?_⟩) (by assumption) ?_
                rotate_left
                · intro w hSw
                  (try dsimp only at hSw)
                  first | (go_simp; done) | (go_simp; with_reducible rfl)
                try simp only [List.getElem_toArray, List.getElem_cons_succ, List.getElem_cons_zero, Act.put, List.setIfInBounds_toArray, List.set_cons_zero, List.set_cons_succ]
                refine wpAnyH_take (i := 2) (oi := _) (v := ?_) rfl (by kernel_rfl) (by kernel_rfl) (by kernel_rfl) (fun _ _ _ h => h) (Or.inl ⟨by rfl, ?_⟩) (by assumption) ?_
                rotate_left
                · intro w hSw
                  (try dsimp only at hSw)
                  first | (go_simp; done) | (go_simp; with_reducible rfl)
                try simp only [List.getElem_toArray, List.getElem_cons_succ, List.getElem_cons_zero, Act.put, List.setIfInBounds_toArray, List.set_cons_zero, List.set_cons_succ]
                refine wpAnyH_take (i := 3) (oi := _) (v := ?_) rfl (by kernel_rfl) (by kernel_rfl) (by kernel_rfl) (fun _ _ _ h => h) (Or.inl ⟨by rfl, ?_⟩) (by assumption) ?_
                rotate_left
                · intro w hSw
                  (try dsimp only at hSw)
                  first | (go_simp; done) | (go_simp; with_reducible rfl)
                try simp only [List.getElem_toArray, List.getElem_cons_succ, List.getElem_cons_zero, Act.put, List.setIfInBounds_toArray, List.set_cons_zero, List.set_cons_succ]
                refine wpAnyH_take (i := 4) (oi := _) (v := ?_) rfl (by kernel_rfl) (by kernel_rfl) (by kernel_rfl) (fun _ _ _ h => h) (Or.inl ⟨by rfl, ?_⟩) (by assumption) ?_
                rotate_left
                · intro w hSw
                  (try dsimp only at hSw)
                  first | (go_simp; done) | (go_simp; with_reducible rfl)
                try simp only [List.getElem_toArray, List.getElem_cons_succ, List.getElem_cons_zero, Act.put, List.setIfInBounds_toArray, List.set_cons_zero, List.set_cons_succ]
                refine wpAnyH_take (i := 5) (oi := _) (v := ?_) rfl (by kernel_rfl) (by kernel_rfl) (by kernel_rfl) (fun _ _ _ h => h) (Or.inl ⟨by rfl, ?_⟩) (by assumption) ?_
                rotate_left
                · intro w hSw
                  (try dsimp only at hSw)
                  first | (go_simp; done) | (go_simp; with_reducible rfl)
                try simp only [List.getElem_toArray, List.getElem_cons_succ, List.getElem_cons_zero, Act.put, List.setIfInBounds_toArray, List.set_cons_zero, List.set_cons_succ]
                refine wpAnyH_take (i := 6) (oi := _) (v := ?_) rfl (by kernel_rfl) (by kernel_rfl) (by kernel_rfl) (fun _ _ _ h => h) (Or.inl ⟨by rfl, ?_⟩) (by assumption) ?_
                rotate_left
                · intro w hSw
                  (try dsimp only at hSw)
                  first | (go_simp; done) | (go_simp; with_reducible rfl)
                try simp only [List.getElem_toArray, List.getElem_cons_succ, List.getElem_cons_zero, Act.put, List.setIfInBounds_toArray, List.set_cons_zero, List.set_cons_succ]
                refine wpAnyH_take (i := 7) (oi := _) (v := ?_) rfl (by kernel_rfl) (by kernel_rfl) (by kernel_rfl) (fun _ _ _ h => h) (Or.inl ⟨by rfl, ?_⟩) (by assumption) ?_
                rotate_left
                · intro w hSw
                  (try dsimp only at hSw)
                  first | (go_simp; done) | (go_simp; with_reducible rfl)
                try simp only [List.getElem_toArray, List.getElem_cons_succ, List.getElem_cons_zero, Act.put, List.setIfInBounds_toArray, List.set_cons_zero, List.set_cons_succ]
                refine wpAnyH_take (i := 8) (oi := _) (v := ?_) rfl (by kernel_rfl) (by kernel_rfl) (by kernel_rfl) (fun _ _ _ h => h) (Or.inl ⟨by rfl, ?_⟩) (by assumption) ?_
                rotate_left
                · intro w hSw
                  (try dsimp only at hSw)
                  first | (go_simp; done) | (go_simp; with_reducible rfl)
                try simp only [List.getElem_toArray, List.getElem_cons_succ, List.getElem_cons_zero, Act.put, List.setIfInBounds_toArray, List.set_cons_zero, List.set_cons_succ]
                refine wpAnyH_take (i := 9) (oi := _) (v := ?_) rfl (by kernel_rfl) (by kernel_rfl) (by kernel_rfl) (fun _ _ _ h => h) (Or.inl ⟨by rfl, ?_⟩) (by assumption) ?_
                rotate_left
                · intro w hSw
                  (try dsimp only at hSw)
                  first | (go_simp; done) | (go_simp; with_reducible rfl)
                try simp only [List.getElem_toArray, List.getElem_cons_succ, List.getElem_cons_zero, Act.put, List.setIfInBounds_toArray, List.set_cons_zero, List.set_cons_succ]
                refine wpAnyH_take (i := 10) (oi := _) (v := ?_) rfl (by kernel_rfl) (by kernel_rfl) (by kernel_rfl) (fun _ _ _ h => h) (Or.inl ⟨by rfl, ?_⟩) (by assumption) ?_
                rotate_left
                · intro w hSw
                  (try dsimp only at hSw)
                  first | (go_simp; done) | (go_simp; with_reducible rfl)
                try simp only [List.getElem_toArray, List.getElem_cons_succ, List.getElem_cons_zero, Act.put, List.setIfInBounds_toArray, List.set_cons_zero, List.set_cons_succ]
                refine wpAnyH_take (i := 11) (oi := _) (v := ?_) rfl (by kernel_rfl) (by kernel_rfl) (by kernel_rfl) (fun _ _ _ h => h) (Or.inl ⟨by rfl, ?_⟩) (by assumption) ?_
                rotate_left
                · intro w hSw
                  (try dsimp only at hSw)
                  first | (go_simp; done) | (go_simp; with_reducible rfl)
                try simp only [List.getElem_toArray, List.getElem_cons_succ, List.getElem_cons_zero, Act.put, List.setIfInBounds_toArray, List.set_cons_zero, List.set_cons_succ]
                refine wpAnyH_take (i := 12) (oi := _) (v := ?_) rfl (by kernel_rfl) (by kernel_rfl) (by kernel_rfl) (fun _ _ _ h => h) (Or.inl ⟨by rfl, ?_⟩) (by assumption) ?_
                rotate_left
                · intro w hSw
                  (try dsimp only at hSw)
                  first | (go_simp; done) | (go_simp; with_reducible rfl)
                try simp only [List.getElem_toArray, List.getElem_cons_succ, List.getElem_cons_zero, Act.put, List.setIfInBounds_toArray, List.set_cons_zero, List.set_cons_succ]
                refine wpAnyH_take (i := 13) (oi := _) (v := ?_) rfl (by kernel_rfl) (by kernel_rfl) (by kernel_rfl) (fun _ _ _ h => h) (Or.inl ⟨by rfl, ?_⟩) (by assumption) ?_
                rotate_left
                · intro w hSw
                  (try dsimp only at hSw)
                  first | (go_simp; done) | (go_simp; with_reducible rfl)
                try simp only [List.getElem_toArray, List.getElem_cons_succ, List.getElem_cons_zero, Act.put, List.setIfInBounds_toArray, List.set_cons_zero, List.set_cons_succ]
                refine wpAnyH_take (i := 14) (oi := _) (v := ?_) rfl (by kernel_rfl) (by kernel_rfl) (by kernel_rfl) (fun _ _ _ h => h) (Or.inl ⟨by rfl, ?_⟩) (by assumption) ?_
                rotate_left
                · intro w hSw
                  (try dsimp only at hSw)
                  first | (go_simp; done) | (go_simp; with_reducible rfl)
                try simp only [List.getElem_toArray, List.getElem_cons_succ, List.getElem_cons_zero, Act.put, List.setIfInBounds_toArray, List.set_cons_zero, List.set_cons_succ]
                refine wpAnyH_take (i := 15) (oi := _) (v := undef) rfl (by kernel_rfl) (by kernel_rfl) (by kernel_rfl) (fun _ _ _ h => h) (Or.inr ⟨by rfl, rfl⟩) (by assumption) ?_
                try simp only [List.getElem_toArray, List.getElem_cons_succ, List.getElem_cons_zero, Act.put, List.setIfInBounds_toArray, List.set_cons_zero, List.set_cons_succ]
                refine wpAnyH_take (i := 16) (oi := _) (v := undef) rfl (by kernel_rfl) (by kernel_rfl) (by kernel_rfl) (fun _ _ _ h => h) (Or.inr ⟨by rfl, rfl⟩) (by assumption) ?_
                try simp only [List.getElem_toArray, List.getElem_cons_succ, List.getElem_cons_zero, Act.put, List.setIfInBounds_toArray, List.set_cons_zero, List.set_cons_succ]
                refine wpAnyH_take (i := 17) (oi := _) (v := undef) rfl (by kernel_rfl) (by kernel_rfl) (by kernel_rfl) (fun _ _ _ h => h) (Or.inr ⟨by rfl, rfl⟩) (by assumption) ?_
                try simp only [List.getElem_toArray, List.getElem_cons_succ, List.getElem_cons_zero, Act.put, List.setIfInBounds_toArray, List.set_cons_zero, List.set_cons_succ]
                refine wpAnyH_take (i := 18) (oi := _) (v := ?_) rfl (by kernel_rfl) (by kernel_rfl) (by kernel_rfl) (fun _ _ _ h => h) (Or.inl ⟨by rfl, ?_⟩) (by assumption) ?_
                rotate_left
                · intro w hSw
                  (try dsimp only at hSw)
                  first | (go_simp; done) | (go_simp; with_reducible rfl)
                try simp only [List.getElem_toArray, List.getElem_cons_succ, List.getElem_cons_zero, Act.put, List.setIfInBounds_toArray, List.set_cons_zero, List.set_cons_succ]
                refine wpAnyH_take (i := 19) (oi := _) (v := ?_) rfl (by kernel_rfl) (by kernel_rfl) (by kernel_rfl) (fun _ _ _ h => h) (Or.inl ⟨by rfl, ?_⟩) (by assumption) ?_
                rotate_left
                · intro w hSw
                  (try dsimp only at hSw)
                  first | (go_simp; done) | (go_simp; with_reducible rfl)
                try simp only [List.getElem_toArray, List.getElem_cons_succ, List.getElem_cons_zero, Act.put, List.setIfInBounds_toArray, List.set_cons_zero, List.set_cons_succ]
                refine wpAnyH_take (i := 20) (oi := _) (v := ?_) rfl (by kernel_rfl) (by kernel_rfl) (by kernel_rfl) (fun _ _ _ h => h) (Or.inl ⟨by rfl, ?_⟩) (by assumption) ?_
                rotate_left
                · intro w hSw
                  (try dsimp only at hSw)
                  first | (go_simp; done) | (go_simp; with_reducible rfl)
                try simp only [List.getElem_toArray, List.getElem_cons_succ, List.getElem_cons_zero, Act.put, List.setIfInBounds_toArray, List.set_cons_zero, List.set_cons_succ]
                refine wpAnyH_done (by kernel_rfl) ?_ _
                (try simp only [Exit.then])
                go_wp2
                go_roundw
                case rel => exact ⟨i + 1, by go_num, by omega, HId⟩
                case measure => simp [intOf]; omega
        · obtain rfl : i = 32 := by omega
          obtain ⟨wy, rfl⟩ : ∃ v, v = wr := ⟨_, rfl⟩
          have hml : M.map.length = 16 := HS.out.sound.mapl
          have hrt := HS.out.tree.root
          have hr1 := HI.out.a.range (j := 1) (by omega) (by omega)
          have hk1 : wy.cell? ⟨ab, 15, none⟩ = some (.int .i64 2) := by
            have := hr1 0 (.int .i64 2) (by
              show (intC (inoL (M.ino 1)))[0]? = _
              rw [intC_get (n := (M.ino 1).k) rfl, hrt])
            exact this
          have HMm := Lib.hid (HMp.out wy.drew (HI.out.b.trans (Below.refl _ _).drew))
          unfold mapV at HMm
          have HSm16 := Lib.hid (cellsB_len hml)
          have hms : Hid (∀ W : World, (binOp .eql 45 (.agg (cellsB M.map)) (.agg (cellsB M.map))).run Tryz.prog W = .ok (.bool true) W) := Lib.hid fun W => map_same M.map hml W
          have HId := Lib.hid (HI.out.below (Below.refl _ _).drew)
          have hs0 : wy.drew.cell? ⟨p, 2, none⟩ = some (.pointer (some ⟨x, 0, none⟩)) ∧ wy.drew.heap[ub]? = some (.cells (cellsB M.map) 45 (0, 0)) ∧ wy.drew.cell? ⟨ab, 15, none⟩ = some (.int .i64 2) := ⟨HP.out _ HId.out.b, HId.out.u, hk1⟩
          have Hab := Lib.hid HId.out.a.lt
          clear hml hrt hr1 hk1 hlt hi32
          go_upto_region 40 with fail
          refine wp_region_held_drew (S := (fun W => W.cell? ⟨p, 2, none⟩ = some (.pointer (some ⟨x, 0, none⟩)) ∧ W.heap[ub]? = some (.cells (cellsB M.map) 45 (0, 0)) ∧ W.cell? ⟨ab, 15, none⟩ = some (.int .i64 2))) (by kernel_rfl) ?_ (fun hHeld => ?_)
          · exact hs0
          refine wpAnyH_take (i := 0) (oi := _) (v := ?_) rfl (by kernel_rfl) (by kernel_rfl) (by kernel_rfl) (fun _ _ _ h => h) (Or.inl ⟨by rfl, ?_⟩) (by assumption) ?_
          rotate_left
          · intro w hSw
            (try dsimp only at hSw)
            first | (go_simp; done) | (go_simp; with_reducible rfl)
          try simp only [List.getElem_toArray, List.getElem_cons_succ, List.getElem_cons_zero, Act.put, List.setIfInBounds_toArray, List.set_cons_zero, List.set_cons_succ]
          refine wpAnyH_take (i := 1) (oi := _) (v := ?_) rfl (by kernel_rfl) (by kernel_rfl) (by kernel_rfl) (fun _ _ _ h => h) (Or.inl ⟨by rfl, ?_⟩) (by assumption) ?_
          rotate_left
          · intro w hSw
            (try dsimp only at hSw)
            first | (go_simp; done) | (go_simp; with_reducible rfl)
          try simp only [List.getElem_toArray, List.getElem_cons_succ, List.getElem_cons_zero, Act.put, List.setIfInBounds_toArray, List.set_cons_zero, List.set_cons_succ]
          refine wpAnyH_take (i := 2) (oi := _) (v := ?_) rfl (by kernel_rfl) (by kernel_rfl) (by kernel_rfl) (fun _ _ _ h => h) (Or.inl ⟨by rfl, ?_⟩) (by assumption) ?_
          rotate_left
          · intro w hSw
            (try dsimp only at hSw)
            first | (go_simp; done) | (go_simp; with_reducible rfl)
          try simp only [List.getElem_toArray, List.getElem_cons_succ, List.getElem_cons_zero, Act.put, List.setIfInBounds_toArray, List.set_cons_zero, List.set_cons_succ]
          refine wpAnyH_take (i := 3) (oi := _) (v := ?_) rfl (by kernel_rfl) (by kernel_rfl) (by kernel_rfl) (fun _ _ _ h => h) (Or.inl ⟨by rfl, ?_⟩) (by assumption) ?_
          rotate_left
          · intro w hSw
            (try dsimp only at hSw)
            first | (go_simp; done) | (go_simp; with_reducible rfl)
          try simp only [List.getElem_toArray, List.getElem_cons_succ, List.getElem_cons_zero, Act.put, List.setIfInBounds_toArray, List.set_cons_zero, List.set_cons_succ]
          refine wpAnyH_take (i := 5) (oi := _) (v := ?_) rfl (by kernel_rfl) (by kernel_rfl) (by kernel_rfl) (fun _ _ _ h => h) (Or.inl ⟨by rfl, ?_⟩) (by assumption) ?_
          rotate_left
          · intro w hSw
            refine exec_load_row 45 (.tmp 3) ?_ ub ?_ 45 (cellsB M.map) (0, 0) _ hSw.2.1 Tryz.underlying45 ?_ (by rw [HSm16.out]; exact Tryz.sizeMap)
            all_goals rfl
          try simp only [List.getElem_toArray, List.getElem_cons_succ, List.getElem_cons_zero, Act.put, List.setIfInBounds_toArray, List.set_cons_zero, List.set_cons_succ]
          refine wpAnyH_ready (rs := [4]) (by kernel_rfl) (by simp) ?_
          refine AllReadyH.cons (o := _) rfl (fun K hK => ?_) AllReadyH.nil
          go_simp
          refine HMm.out.mono ?_
          rintro e wq ⟨rfl, hbq⟩
          have HIq := Lib.hid (HId.out.below hbq)
          have hsq := And.intro (HP.out wq HIq.out.b) (And.intro HIq.out.u ((hbq.cell (p := ⟨ab, 15, none⟩) Hab.out).trans hs0.2.2))
          clear hbq
          dsimp only
          refine hK.out _ _ hsq (fun hHeld => ?_)
          clear hK K
          try simp only [List.getElem_toArray, List.getElem_cons_succ, List.getElem_cons_zero, Act.put, List.setIfInBounds_toArray, List.set_cons_zero, List.set_cons_succ]
          refine wpAnyH_ready (rs := [6]) (by kernel_rfl) (by simp) ?_
          refine AllReadyH.cons (o := _) rfl (fun K hK => ?_) AllReadyH.nil
          refine wp_bin .eql 45 _ _ _ rfl (.agg (cellsB M.map)) (.agg (cellsB M.map)) (.bool true) rfl rfl (map_guard _ _ _ _ _ _) (hms.out _) ?_
          try dsimp only
          refine hK.out _ _ hsq (fun hHeld => ?_)
          clear hK K
          try simp only [List.getElem_toArray, List.getElem_cons_succ, List.getElem_cons_zero, Act.put, List.setIfInBounds_toArray, List.set_cons_zero, List.set_cons_succ]
          refine wpAnyH_take (i := 7) (oi := _) (v := ?_) rfl (by kernel_rfl) (by kernel_rfl) (by kernel_rfl) (fun _ _ _ h => h) (Or.inl ⟨by rfl, ?_⟩) (by assumption) ?_
          rotate_left
          · intro w hSw
            (try dsimp only at hSw)
            first | (go_simp; done) | (go_simp; with_reducible rfl)
          try simp only [List.getElem_toArray, List.getElem_cons_succ, List.getElem_cons_zero, Act.put, List.setIfInBounds_toArray, List.set_cons_zero, List.set_cons_succ]
          refine wpAnyH_take (i := 8) (oi := _) (v := ?_) rfl (by kernel_rfl) (by kernel_rfl) (by kernel_rfl) (fun _ _ _ h => h) (Or.inl ⟨by rfl, ?_⟩) (by assumption) ?_
          rotate_left
          · intro w hSw
            (try dsimp only at hSw)
            first | (go_simp; done) | (go_simp; with_reducible rfl)
          try simp only [List.getElem_toArray, List.getElem_cons_succ, List.getElem_cons_zero, Act.put, List.setIfInBounds_toArray, List.set_cons_zero, List.set_cons_succ]
          refine wpAnyH_take (i := 9) (oi := _) (v := ?_) rfl (by kernel_rfl) (by kernel_rfl) (by kernel_rfl) (fun _ _ _ h => h) (Or.inl ⟨by rfl, ?_⟩) (by assumption) ?_
          rotate_left
          · intro w hSw
            (try dsimp only at hSw)
            first | (go_simp; done) | (go_simp; with_reducible rfl)
          try simp only [List.getElem_toArray, List.getElem_cons_succ, List.getElem_cons_zero, Act.put, List.setIfInBounds_toArray, List.set_cons_zero, List.set_cons_succ]
          refine wpAnyH_take (i := 10) (oi := _) (v := ?_) rfl (by kernel_rfl) (by kernel_rfl) (by kernel_rfl) (fun _ _ _ h => h) (Or.inl ⟨by rfl, ?_⟩) (by assumption) ?_
          rotate_left
          · intro w hSw
            (try dsimp only at hSw)
            first | (go_simp; done) | (go_simp; with_reducible rfl)
          try simp only [List.getElem_toArray, List.getElem_cons_succ, List.getElem_cons_zero, Act.put, List.setIfInBounds_toArray, List.set_cons_zero, List.set_cons_succ]
          refine wpAnyH_take (i := 11) (oi := _) (v := ?_) rfl (by kernel_rfl) (by kernel_rfl) (by kernel_rfl) (fun _ _ _ h => h) (Or.inl ⟨by rfl, ?_⟩) (by assumption) ?_
          rotate_left
          · intro w hSw
            (try dsimp only at hSw)
            first | (go_simp; done) | (go_simp; with_reducible rfl)
          try simp only [List.getElem_toArray, List.getElem_cons_succ, List.getElem_cons_zero, Act.put, List.setIfInBounds_toArray, List.set_cons_zero, List.set_cons_succ]
          refine wpAnyH_take (i := 12) (oi := _) (v := ?_) rfl (by kernel_rfl) (by kernel_rfl) (by kernel_rfl) (fun _ _ _ h => h) (Or.inl ⟨by rfl, ?_⟩) (by assumption) ?_
          rotate_left
          · intro w hSw
            (try dsimp only at hSw)
            first | (go_simp; done) | (go_simp; with_reducible rfl)
          try simp only [List.getElem_toArray, List.getElem_cons_succ, List.getElem_cons_zero, Act.put, List.setIfInBounds_toArray, List.set_cons_zero, List.set_cons_succ]
          refine wpAnyH_take (i := 13) (oi := _) (v := ?_) rfl (by kernel_rfl) (by kernel_rfl) (by kernel_rfl) (fun _ _ _ h => h) (Or.inl ⟨by rfl, ?_⟩) (by assumption) ?_
          rotate_left
          · intro w hSw
            (try dsimp only at hSw)
            first | (go_simp; done) | (go_simp; with_reducible rfl)
          try simp only [List.getElem_toArray, List.getElem_cons_succ, List.getElem_cons_zero, Act.put, List.setIfInBounds_toArray, List.set_cons_zero, List.set_cons_succ]
          refine wpAnyH_done (by kernel_rfl) ?_ _
          (try simp only [Exit.then])
          go_wp2
          go_ret
          exact ⟨rfl, HIq.out.b⟩

end Go.Proofs.YthbonbcbbngciaaGreatDoor
