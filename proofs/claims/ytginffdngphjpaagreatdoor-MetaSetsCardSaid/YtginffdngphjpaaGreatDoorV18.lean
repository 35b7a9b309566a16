/- Walks: metadata: Walk, place. -/
import Derived.Test.YtginffdngphjpaaGreatDoorV17
set_option linter.unusedVariables false
set_option linter.unusedSimpArgs false
namespace Go.Proofs.YtginffdngphjpaaGreatDoor
open Go.RowKit Go.Shelf

attribute [local go_sem] Oper.semAt_some

theorem pathL_ok {l : List UInt8} {L : List (List UInt8)} (h : Np.pathL l = some L) : (∀ s ∈ L, s ≠ [] ∧ s.length ≤ 1000) ∧ L.length ≤ 1000 := by
  have h1 := (Np.pathL_some h).1
  simp only [Bool.and_eq_true, decide_eq_true_eq, List.all_eq_true] at h1
  refine ⟨fun s hs => ?_, by omega⟩
  have hn := h1.2 s hs
  refine ⟨Np.name_ne hn, ?_⟩
  unfold Np.nameB at hn
  simp only [Bool.and_eq_true, decide_eq_true_eq] at hn
  omega

set_option maxHeartbeats 4000000 in
set_option maxRecDepth 100000 in
theorem mwalk_yes {x t c K : Nat} {S : List UInt8} {M : Gd.Vol} {T : Nat → Gd.Tab} {F : Nat → Prop} (s : ByteArray) (L : List (List UInt8)) (m : Int) (w : World) (h : MetaV x t S M c K w F) (hT : Gd.Tree M T) (hs : s.size ≤ 100000) (hm : w.cell? ⟨0, 0, none⟩ = some (.int .i64 m)) (hp : Np.pathL s.data.toList = some L) :
    Calls Tryz.prog 75 #[.pointer (some ⟨x, 0, none⟩), .string s] w fun e w' => e = .returned (.tuple #[.int .i64 (Gd.walkT M T L 1).1, .int .i64 (Gd.walkT M T L 1).2]) ∧ Below w.heap.size w w' := by
  have HP := Lib.hid (path_yes s L m w hs hm hp)
  have hok := pathL_ok hp
  have HW := Lib.hid fun A cc W (hW : Below w.heap.size w W) (hS : Strs W w.heap.size A L) => walk_any A L cc w.heap.size W (h.below hW) hT hS hok.1 hok.2
  obtain ⟨R, hR⟩ : ∃ R, R = Gd.walkT M T L 1 := ⟨_, rfl⟩
  rw [← hR] at HW ⊢
  clear h hT hs hm hp hok hR
  go_enter Tryz.func75, Tryz.ntmps75
  go_wp2_with fail
  refine HP.out.mono ?_
  rintro e w2 ⟨A, cc, rfl, -, hS2, hb2⟩
  have HW2 := Lib.hid (HW.out A cc w2 hb2 hS2)
  have HB2 := Lib.hid hb2
  clear hS2 hb2 HP HW
  go_wp2_with fail
  refine HW2.out.mono ?_
  rintro e w3 ⟨rfl, hb3⟩
  go_wp2
  go_ret2
  exact ⟨rfl, HB2.out.trans (hb3.mono HB2.out.size)⟩

set_option maxHeartbeats 4000000 in
set_option maxRecDepth 100000 in
theorem mwalk_no (xv : Value) (s : ByteArray) (m : Int) (w : World) (hs : s.size ≤ 100000) (hm : w.cell? ⟨0, 0, none⟩ = some (.int .i64 m)) (hp : Np.pathL s.data.toList = none) :
    Calls Tryz.prog 75 #[xv, .string s] w fun e w' => e = .returned (.tuple #[.int .i64 0, .int .i64 15]) ∧ Below w.heap.size w w' := by
  have HP := Lib.hid (path_no s m w hs hm hp)
  clear hs hm hp
  go_enter Tryz.func75, Tryz.ntmps75
  go_wp2_with fail
  refine HP.out.mono ?_
  rintro e w2 ⟨rfl, hb2⟩
  go_wp2
  go_ret2
  exact ⟨rfl, hb2⟩

set_option maxHeartbeats 4000000 in
set_option maxRecDepth 100000 in
theorem mplace_no (xv : Value) (s : ByteArray) (m : Int) (w : World) (hs : s.size ≤ 100000) (hm : w.cell? ⟨0, 0, none⟩ = some (.int .i64 m)) (hp : Np.pathL s.data.toList = none ∨ Np.pathL s.data.toList = some []) :
    Calls Tryz.prog 76 #[xv, .string s] w fun e w' => e = .returned (.tuple #[.int .i64 0, .string ⟨#[]⟩, .int .i64 15]) ∧ Below w.heap.size w w' := by
  have HP := Lib.hid (parent_no s m w hs hm hp)
  clear hs hm hp
  go_enter Tryz.func76, Tryz.ntmps76
  go_wp2_with fail
  refine HP.out.mono ?_
  rintro e w2 ⟨rfl, hb2⟩
  go_wp2
  go_ret3
  exact ⟨rfl, hb2⟩

namespace Gd
/-- the directory and the name of a path, and an error -/
def placeP (M : Vol) (T : Nat → Tab) (L : List (List UInt8)) (s : List UInt8) : Nat × List UInt8 × Nat :=
  if (walkT M T L 1).2 ≠ 0 then (0, [], (walkT M T L 1).2)
  else if (M.ino (walkT M T L 1).1).k = 2 then ((walkT M T L 1).1, s, 0) else (0, [], 12)
theorem walkT_in {M : Vol} {T : Nat → Tab} (hT : Tree M T) : ∀ (L : List (List UInt8)) (d : Nat), 1 ≤ d → d ≤ 32 → (walkT M T L d).2 = 0 → 1 ≤ (walkT M T L d).1 ∧ (walkT M T L d).1 ≤ 32
  | [], d, h1, h2, _ => ⟨h1, h2⟩
  | s :: r, d, h1, h2, h => by
    unfold walkT at h ⊢
    by_cases hk : (M.ino d).k = 2
    · rw [if_pos hk] at h ⊢
      cases hf : findT (T d) s (hN s) with
      | none =>
        rw [hf] at h
        cases h
      | some j =>
        rw [hf] at h
        have hfe := find_ent hT h1 h2 hk hf
        exact walkT_in hT r _ hfe.1 hfe.2.1 h
    · rw [if_neg hk] at h
      cases h
end Gd

set_option maxHeartbeats 4000000 in
set_option maxRecDepth 100000 in
theorem mplace_yes {x t c K : Nat} {S : List UInt8} {M : Gd.Vol} {T : Nat → Gd.Tab} {F : Nat → Prop} (s : ByteArray) (L : List (List UInt8)) (n : List UInt8) (m : Int) (w : World) (h : MetaV x t S M c K w F) (hT : Gd.Tree M T) (hs : s.size ≤ 100000) (hm : w.cell? ⟨0, 0, none⟩ = some (.int .i64 m)) (hp : Np.pathL s.data.toList = some (L ++ [n])) :
    Calls Tryz.prog 76 #[.pointer (some ⟨x, 0, none⟩), .string s] w fun e w' => e = .returned (.tuple #[.int .i64 (Gd.placeP M T L n).1, .string ⟨(Gd.placeP M T L n).2.1.toArray⟩, .int .i64 (Gd.placeP M T L n).2.2]) ∧ Below w.heap.size w w' := by
  have HP := Lib.hid (parent_yes s L n m w hs hm hp)
  have hok := pathL_ok hp
  have HW := Lib.hid fun A W (hW : Below w.heap.size w W) (hS : Strs W w.heap.size A L) => walk_any A L L.length w.heap.size W (h.below hW) hT hS (fun y hy => hok.1 y (List.mem_append_left _ hy)) (by have := hok.2; rw [List.length_append] at this; omega)
  have hin := Gd.walkT_in hT L 1 (by omega) (by omega)
  have hTd := fun W (hW : Below w.heap.size w W) d h1 h2 hk => tableI_dir W (h.below hW) (hT.dir d h1 h2 hk)
  have hTn := fun W (hW : Below w.heap.size w W) d h1 h2 hk => tableI_not (d := d) W (h.below hW) h1 h2 hk
  have hTl := fun d h1 h2 hk => (hT.dir d h1 h2 hk).ok.len
  obtain ⟨R, hR⟩ : ∃ R, R = Gd.placeP M T L n := ⟨_, rfl⟩
  rw [← hR]
  unfold Gd.placeP at hR
  obtain ⟨d, hd⟩ : ∃ d, d = (Gd.walkT M T L 1).1 := ⟨_, rfl⟩
  obtain ⟨e0, he⟩ : ∃ e0, e0 = (Gd.walkT M T L 1).2 := ⟨_, rfl⟩
  rw [← hd, ← he] at HW hR hin
  have HR := Lib.hid hR
  have Hin := Lib.hid hin
  have HTd := Lib.hid hTd
  have HTn := Lib.hid hTn
  have HTl := Lib.hid hTl
  clear h hT hs hm hp hok hR hd he hin hTd hTn hTl
  go_enter Tryz.func76, Tryz.ntmps76
  go_upto_region 1 with fail
  go_wp2_with fail
  refine HP.out.mono ?_
  rintro e w2 ⟨A, rfl, hS2, hb2⟩
  have HW2 := Lib.hid (HW.out A w2 hb2 hS2)
  have HB2 := Lib.hid hb2
  clear hS2 hb2 HP HW
  go_wp2_with fail
  refine HW2.out.mono ?_
  rintro e w3 ⟨rfl, hb3⟩
  have HB3 := Lib.hid (HB2.out.trans (hb3.mono HB2.out.size))
  clear hb3 HW2
  by_cases h0 : e0 = 0
  · subst h0
    obtain ⟨hd1, hd2⟩ := Hin.out rfl
    have hR := HR.out
    rw [if_neg (by omega)] at hR
    by_cases hk : (M.ino d).k = 2
    · rw [if_pos hk] at hR
      have HR2 := Lib.hid hR
      have HTb := Lib.hid (HTd.out w3 HB3.out d hd1 hd2 hk)
      have HTs := Lib.hid (tabC_size (HTl.out d hd1 hd2 hk))
      obtain ⟨D, hDe⟩ : ∃ D, D = T d := ⟨_, rfl⟩
      rw [← hDe] at HTb HTs
      unfold tabV at HTb
      clear hd1 hd2 hR hk hDe HTd HTn HTl Hin HR
      go_upto_region 8 with (first | (go_at_call 112; refine HTb.out.mono ?_; rintro e w4 ⟨rfl, hb4⟩; have HB4 := Lib.hid (HB3.out.trans (hb4.mono HB3.out.size)); clear hb4) | (rw [← zTab]; refine wpList_store_mid rfl 181 _ _ rfl w4.heap.size 0 (tabC D) rfl rfl (there_at (heap_alloc_new _ _) (by rw [noTab_size, HTs.out])) (by rw [HTs.out]; exact Tryz.sizeTab) (tabC_one _) ?_; obtain ⟨hbw, hbg⟩ := new_whole2 w4 (tabC Gd.noTab) 181 (tabC D).toList (by rw [noTab_size, Array.length_toList, HTs.out]); generalize (World.setCells _ _ _ _) = w5 at hbw hbg ⊢; have HB5 := Lib.hid (HB4.out.trans (hbw.mono HB4.out.size)); clear hbw hbg))
      go_wp2
      go_ret3
      refine ⟨?_, HB5.out⟩
      rw [HR2.out]
      rfl
    · rw [if_neg hk] at hR
      have HR2 := Lib.hid hR
      have HTb := Lib.hid (HTn.out w3 HB3.out d hd1 hd2 hk)
      unfold tabV at HTb
      clear hd1 hd2 hR hk HTd HTn HTl Hin HR
      go_upto_region 8 with (first | (go_at_call 112; refine HTb.out.mono ?_; rintro e w4 ⟨rfl, hb4⟩; have HB4 := Lib.hid (HB3.out.trans (hb4.mono HB3.out.size)); clear hb4) | (rw [← zTab]; refine wpList_store_mid rfl 181 _ _ rfl w4.heap.size 0 (tabC Gd.noTab) rfl rfl (there_at (heap_alloc_new _ _) noTab_size) (by rw [noTab_size]; exact Tryz.sizeTab) (tabC_one _) ?_; obtain ⟨hbw, hbg⟩ := new_whole2 w4 (tabC Gd.noTab) 181 (tabC Gd.noTab).toList (by rw [Array.length_toList]); generalize (World.setCells _ _ _ _) = w5 at hbw hbg ⊢; have HB5 := Lib.hid (HB4.out.trans (hbw.mono HB4.out.size)); clear hbw hbg))
      go_wp2
      go_ret3
      refine ⟨?_, HB5.out⟩
      rw [HR2.out]
      rfl
  · have hR := HR.out
    rw [if_pos h0] at hR
    have HR2 := Lib.hid hR
    have hne : ¬ (e0 : Int) = 0 := by omega
    clear hR h0 HTd HTn HTl Hin HR
    go_wp2
    go_ret3
    refine ⟨?_, HB3.out⟩
    rw [HR2.out]
    rfl

end Go.Proofs.YtginffdngphjpaaGreatDoor

/- Walks: metadata: free; inodes that turn in a variable. -/
namespace Go.Proofs.YtginffdngphjpaaGreatDoor
open Go.RowKit Go.Shelf

attribute [local go_sem] Oper.semAt_some

set_option maxHeartbeats 8000000 in
set_option maxRecDepth 100000 in
theorem free_ok {x t c K : Nat} {S : List UInt8} {M : Gd.Vol} {F : Nat → Prop} (f : Nat) (w : World) (h : MetaV x t S M c K w F) (h1 : 1 ≤ f) (h2 : f ≤ 32) (hk : (M.ino f).k = 0) (hl : ∀ i, 1 ≤ i → i < f → (M.ino i).k ≠ 0) :
    Calls Tryz.prog 115 #[.pointer (some ⟨x, 0, none⟩)] w fun e w' => e = .returned (.tuple #[.int .i64 f, .int .i64 0]) ∧ Below w.heap.size w w' := by
  have H := Lib.hid h
  have HK := Lib.hid hk
  have HL := Lib.hid hl
  clear h hk hl
  go_enter Tryz.func115, Tryz.ntmps115
  go_upto_region 2 with fail
  go_loopw [7] (fun z wr => ∃ i : Nat, z = .int .i64 i ∧ i + 1 ≤ f ∧ Hid (Below w.heap.size w wr)) (fun z _ => 32 - (intOf z).toNat)
  case atStart => exact ⟨0, rfl, by omega, Lib.hid (Below.refl _ _)⟩
  case round =>
    obtain ⟨i, rfl, hi, HB⟩ := hrel
    have hi1 : (i : Int) < 32 := by omega
    have hi0 : (0 : Int) ≤ i := by omega
    have HIn := Lib.hid (inode_ok ((i : Int) + 1) wr (H.out.below HB.out) (by omega) (by omega))
    have HS : Hid ((inoC (M.ino (i + 1))).size = 15) := Lib.hid (by
      obtain ⟨P, h3, h4⟩ := H.out
      exact inoC_size2 h4 (by omega) (by omega))
    rw [show ((i : Int) + 1).toNat = i + 1 by omega] at HIn
    obtain ⟨y, hy⟩ : ∃ y, y = M.ino (i + 1) := ⟨_, rfl⟩
    rw [← hy] at HIn HS
    have Hy := Lib.hid hy
    unfold inoV at HIn
    clear hy
    go_upto_region 5 with (first | (go_at_call 11; refine HIn.out.mono ?_; rintro e w2 ⟨rfl, hb2⟩; have HB2 := Lib.hid (HB.out.trans (hb2.mono HB.out.size)); clear hb2) | (rw [← zIno_lit]; refine wpList_store_mid rfl 25 _ _ rfl w2.heap.size 0 (inoC y) rfl rfl (there_at (heap_alloc_new _ _) (by rw [zIno_size, HS.out])) (by rw [HS.out]; exact Tryz.sizeIno) (inoC_one _) ?_; obtain ⟨hbw, hbg⟩ := new_whole2 w2 zIno 25 (inoC y).toList (by rw [zIno_size, Array.length_toList, HS.out]); generalize (World.setCells _ _ _ _) = w3 at hbw hbg ⊢; have HN3 : Hid (w3.heap[w2.heap.size]? = some (.cells (inoC y) 25 (0, 0))) := Lib.hid hbg; have HB3 := Lib.hid (HB2.out.trans (hbw.mono HB2.out.size)); clear hbw hbg))
    have n0 : w3.cell? ⟨w2.heap.size, 0, none⟩ = some (.int .i64 y.k) := (cell_of_row w3 w2.heap.size 0 _ _ _ HN3.out).trans (inoC_get rfl)
    by_cases he : i + 1 = f
    · have hk0 : y.k = 0 := by rw [Hy.out, he]; exact HK.out
      rw [hk0] at n0
      have Hfi : Hid ((f : Int) = i + 1) := Lib.hid (by omega)
      clear he hk0
      go_wp2
      go_ret2
      exact ⟨by rw [Hfi.out]; rfl, HB3.out⟩
    · have hk0 : y.k ≠ 0 := by rw [Hy.out]; exact HL.out (i + 1) (by omega) (by omega)
      obtain ⟨k, hkk⟩ : ∃ k, k = y.k := ⟨_, rfl⟩
      rw [← hkk] at n0 hk0
      have hi2 : i + 1 + 1 ≤ f := by omega
      clear he hkk hi
      go_wp2
      go_roundw
      case rel => exact ⟨i + 1, by go_num, by omega, HB3⟩
      case measure => simp [intOf]; omega

namespace Gd
def Ino.setB (x : Ino) (k : Nat) (n : Int) : Ino := { x with B := x.B.set k n }
def Ino.setS (x : Ino) (n : Int) : Ino := { x with s := n }
def Ino.setO (x : Ino) (k : Nat) (n : Int) : Ino := { x with O := x.O.set k n }
def Ino.setL (x : Ino) (n : Int) : Ino := { x with l := n }
theorem Ino.setB_shape {x : Ino} (h : x.Shape) (k : Nat) (n : Int) : (x.setB k n).Shape := ⟨by show (x.B.set k n).length = 4; rw [List.length_set]; exact h.1, h.2⟩
theorem Ino.setS_shape {x : Ino} (h : x.Shape) (n : Int) : (x.setS n).Shape := ⟨h.1, h.2⟩
theorem Ino.setO_shape {x : Ino} (h : x.Shape) (k : Nat) (n : Int) : (x.setO k n).Shape := ⟨h.1, by show (x.O.set k n).length = 8; rw [List.length_set]; exact h.2⟩
theorem Ino.setL_shape {x : Ino} (h : x.Shape) (n : Int) : (x.setL n).Shape := ⟨h.1, h.2⟩
end Gd
theorem inoC_set {x y : Gd.Ino} {j : Nat} {n : Int} (h : inoL y = (inoL x).set j n) : (inoC x).setIfInBounds j (.int .i64 n) = inoC y := by
  rw [← Array.toList_inj, Array.toList_setIfInBounds]
  show ((inoL x).map _).set j _ = (inoL y).map _
  rw [h, List.map_set]
theorem InoAt.turn {w : World} {b : Nat} {x y : Gd.Ino} {j : Nat} {n : Int} (h : InoAt w b x) (hy : y.Shape) (e : inoL y = (inoL x).set j n) : InoAt (w.setCell ⟨b, j, none⟩ (.int .i64 n)) b y :=
  ⟨by rw [← inoC_set e]; exact Go.heap_setCell_same w b j _ _ _ h.row, hy⟩
theorem inoL_setS (x : Gd.Ino) (n : Int) : inoL (x.setS n) = (inoL x).set 2 n := rfl
theorem inoL_setL (x : Gd.Ino) (n : Int) : inoL (x.setL n) = (inoL x).set 1 n := rfl
theorem inoL_setB {x : Gd.Ino} (h : x.Shape) {k : Nat} (hk : k < 4) (n : Int) : inoL (x.setB k n) = (inoL x).set (3 + k) n := by
  show x.k :: x.l :: x.s :: (x.B.set k n ++ x.O) = _
  unfold inoL
  rw [show 3 + k = k + 3 by omega, List.set_cons_succ, List.set_cons_succ, List.set_cons_succ, List.set_append_left _ _ (by rw [h.1]; exact hk)]
theorem inoL_setO {x : Gd.Ino} (h : x.Shape) {k : Nat} (hk : k < 8) (n : Int) : inoL (x.setO k n) = (inoL x).set (7 + k) n := by
  show x.k :: x.l :: x.s :: (x.B ++ x.O.set k n) = _
  unfold inoL
  rw [show 7 + k = (4 + k) + 3 by omega, List.set_cons_succ, List.set_cons_succ, List.set_cons_succ, List.set_append_right _ _ (by rw [h.1]; omega), h.1, show 4 + k - 4 = k by omega]
theorem InoAt.cB {w : World} {b : Nat} {x : Gd.Ino} (h : InoAt w b x) {k : Nat} {n : Int} (hn : x.B[k]? = some n) : w.cell? ⟨b, 3 + k, none⟩ = some (.int .i64 n) ∧ w.frozen? ⟨b, 3 + k, none⟩ = false :=
  ⟨h.blocks k _ (intC_get hn), frozen_of_row w b (3 + k) _ _ h.row⟩
theorem InoAt.cO {w : World} {b : Nat} {x : Gd.Ino} (h : InoAt w b x) {k : Nat} {n : Int} (hn : x.O[k]? = some n) : w.cell? ⟨b, 7 + k, none⟩ = some (.int .i64 n) ∧ w.frozen? ⟨b, 7 + k, none⟩ = false :=
  ⟨h.opens k _ (intC_get hn), frozen_of_row w b (7 + k) _ _ h.row⟩
theorem InoAt.f {w : World} {b : Nat} {x : Gd.Ino} (h : InoAt w b x) (k : Nat) : w.frozen? ⟨b, k, none⟩ = false := frozen_of_row w b k _ _ h.row

end Go.Proofs.YtginffdngphjpaaGreatDoor

/- Walks: metadata: what changes beside variables of one's own. -/
namespace Go.Proofs.YtginffdngphjpaaGreatDoor
open Go.RowKit Go.Shelf

attribute [local go_sem] Oper.semAt_some

/-- what turned since w, and variables of one's own -/
def Tl (x t : Nat) (S : List UInt8) (M : Gd.Vol) (c K : Nat) (F : Nat → Prop) (w a : World) (Ls : List (Nat × Obj)) : Prop :=
  ∃ F', Step (MetaV x t S M c K) F w F' a ∧ ∀ p ∈ Ls, w.heap.size ≤ p.1 ∧ ¬ F' p.1 ∧ a.heap[p.1]? = some p.2
section
variable {x t c K : Nat} {S : List UInt8} {M : Gd.Vol} {F : Nat → Prop} {w a b : World} {Ls : List (Nat × Obj)}
theorem Tl.start (h : MetaV x t S M c K w F) : Tl x t S M c K F w w [] := ⟨F, Step.refl h, fun p hp => by simp at hp⟩
theorem Tl.turns (h : Tl x t S M c K F w a Ls) : Turns x t S M c K F w a := by
  obtain ⟨F', h1, _⟩ := h
  exact ⟨F', h1⟩
theorem Tl.size (h : Tl x t S M c K F w a Ls) : w.heap.size ≤ a.heap.size := by
  obtain ⟨F', h1, _⟩ := h
  exact h1.only.size
theorem Tl.get (h : Tl x t S M c K F w a Ls) {k : Nat} {o : Obj} (hk : (k, o) ∈ Ls) : a.heap[k]? = some o := by
  obtain ⟨F', _, h2⟩ := h
  exact (h2 _ hk).2.2
theorem Tl.below (h : Tl x t S M c K F w a Ls) (hb : Below a.heap.size a b) : Tl x t S M c K F w b Ls := by
  obtain ⟨F', h1, h2⟩ := h
  refine ⟨F', ⟨h1.inv.below hb, h1.old, h1.only.trans (below_only hb F') fun j hj e => h1.old j hj e⟩, fun p hp => ?_⟩
  obtain ⟨q1, q2, q3⟩ := h2 p hp
  exact ⟨q1, q2, (hb.block _ (lt_get q3)).trans q3⟩
theorem Tl.new (h : Tl x t S M c K F w a Ls) (hb : Below a.heap.size a b) {k : Nat} {o : Obj} (hk : a.heap.size ≤ k) (ho : b.heap[k]? = some o) : Tl x t S M c K F w b ((k, o) :: Ls) := by
  obtain ⟨F', h1, h2⟩ := h
  refine ⟨F', ⟨h1.inv.below hb, h1.old, h1.only.trans (below_only hb F') fun j hj e => h1.old j hj e⟩, fun p hp => ?_⟩
  rcases List.mem_cons.1 hp with rfl | hp
  · refine ⟨Nat.le_trans h1.only.size hk, fun e => ?_, ho⟩
    have := h1.inv.tight _ e
    dsimp only at this
    omega
  · obtain ⟨q1, q2, q3⟩ := h2 p hp
    exact ⟨q1, q2, (hb.block _ (lt_get q3)).trans q3⟩
theorem Tl.set (h : Tl x t S M c K F w a Ls) {k j : Nat} {C : Array Value} {ty : TypeId} {v : Value} (hk : (k, Obj.cells C ty (0, 0)) ∈ Ls) (Ls' : List (Nat × Obj)) (hL : ∀ p ∈ Ls', p = (k, Obj.cells (C.setIfInBounds j v) ty (0, 0)) ∨ (p ∈ Ls ∧ p.1 ≠ k)) :
    Tl x t S M c K F w (a.setCell ⟨k, j, none⟩ v) Ls' := by
  obtain ⟨F', h1, h2⟩ := h
  obtain ⟨k1, k2, k3⟩ := h2 _ hk
  dsimp only at k1 k2 k3
  have hbl : Below k a (a.setCell ⟨k, j, none⟩ v) := (Below.refl k a).setCell (Nat.le_refl k) v
  have hoth : ∀ i, i ≠ k → (a.setCell ⟨k, j, none⟩ v).heap[i]? = a.heap[i]? := fun i hi => Go.heap_setCell_other a ⟨k, j, none⟩ i v hi
  have hO : Only (fun i => i = k) a (a.setCell ⟨k, j, none⟩ v) := ⟨hbl.os, hbl.tape, hbl.output, by simp, fun i _ hi => hoth i hi⟩
  refine ⟨F', ⟨h1.inv.keep hO.size fun i hi hF => hoth i (fun e => k2 (e ▸ hF)), h1.old, ?_⟩, fun p hp => ?_⟩
  · refine ⟨hO.os.trans h1.only.os, hO.tape.trans h1.only.tape, hO.output.trans h1.only.output, Nat.le_trans h1.only.size hO.size, fun i hi hF => ?_⟩
    exact (hoth i (by omega)).trans (h1.only.block i hi hF)
  · rcases hL p hp with rfl | ⟨hp, hne⟩
    · exact ⟨k1, k2, Go.heap_setCell_same a k j _ _ _ k3⟩
    · obtain ⟨q1, q2, q3⟩ := h2 p hp
      exact ⟨q1, q2, (hoth _ hne).trans q3⟩
end
theorem Tl.next {x t c d K : Nat} {S : List UInt8} {M N : Gd.Vol} {F F1 : Nat → Prop} {w a b : World} {Ls : List (Nat × Obj)} (h1 : Step (MetaV x t S M c K) F w F1 a) (h2 : ∀ p ∈ Ls, w.heap.size ≤ p.1 ∧ ¬ F1 p.1 ∧ a.heap[p.1]? = some p.2) (ht : Turns x t S N d K F1 a b) : Tl x t S N d K F w b Ls := by
  obtain ⟨F2, s⟩ := ht
  refine ⟨F2, h1.trans s, fun p hp => ?_⟩
  obtain ⟨q1, q2, q3⟩ := h2 p hp
  obtain ⟨o1, o2⟩ := s.own (lt_get q3) q2
  exact ⟨q1, o2, o1.trans q3⟩

end Go.Proofs.YtginffdngphjpaaGreatDoor

/- Walks: metadata: change (a directory's table is told anew): printed by gen_metm.py. -/
namespace Go.Proofs.YtginffdngphjpaaGreatDoor
open Go.RowKit Go.Shelf

attribute [local go_sem] Oper.semAt_some

theorem Step.aheadM {x t c K : Nat} {S : List UInt8} {M : Gd.Vol} {F G : Nat → Prop} {a b d : World} (h : Step (MetaV x t S M c K) F a G b) (hb : Below b.heap.size b d) : Step (MetaV x t S M c K) F a G d :=
  ⟨h.inv.below hb, h.old, h.only.trans (below_only hb G) fun j hj e => h.old j hj e⟩
theorem quo4 (a : Nat) : (a : Int) / 4 = ((a / 4 : Nat) : Int) := by omega

set_option maxHeartbeats 8000000 in
set_option maxRecDepth 100000 in
theorem change_new {x t c K d a : Nat} {S : List UInt8} {M : Gd.Vol} {F : Nat → Prop} (T : Gd.Tab) (more spare : Int) (w : World) (h : MetaV x t S M c K w F) (h1 : 1 ≤ d) (h2 : d ≤ 32) (ha : a < 16) (hT : Gd.TabOk T) (hu : Gd.usedT T (a / 4) = true) (hB : (M.ino d).B[a / 4]? = some 0) (hsp : max 0 spare < 128 - (Gd.countB M.map : Int)) (hmay : Gd.mayI (((M.ino d).setB (a / 4) (Gd.firstB M.map)).setS ((M.ino d).s + more)) = true) (hsz : 0 ≤ (M.ino d).s + more ∧ (M.ino d).s + more ≤ 16) (hc : c + 10 < 64) :
    Calls Tryz.prog 144 #[.pointer (some ⟨x, 0, none⟩), .int .i64 d, .int .i64 a, tabV T, .int .i64 more, .int .i64 spare] w fun e w' => e = .returned (.int .i64 0) ∧ Turns x t S ((M.take.setBlk (Gd.firstB M.map) (Gd.blkT T (a / 4))).setIno d (((M.ino d).setB (a / 4) (Gd.firstB M.map)).setS ((M.ino d).s + more))) (c + 2 + 2) K F w w' := by
  obtain ⟨k, hk⟩ : ∃ k, k = a / 4 := ⟨_, rfl⟩
  have hq := quo4 a
  rw [← hk] at hq hu hB hmay ⊢
  have hk4 : k < 4 := by omega
  have hsh : (M.ino d).Shape := by
    obtain ⟨P, h3, h4⟩ := h
    exact h4.shape d h1 h2
  have HTs := Lib.hid (tabC_size hT.len)
  obtain ⟨hb0, hr0⟩ := below_new w (tabC T) 181
  obtain ⟨tb, htb⟩ : ∃ tb, tb = w.heap.size := ⟨_, rfl⟩
  obtain ⟨w0, hw0⟩ : ∃ u, u = w.alloc (.cells (tabC T) 181) := ⟨_, rfl⟩
  rw [← hw0, ← htb] at hr0
  rw [← hw0] at hb0
  have HL0 := Lib.hid ((Tl.start h).new hb0 (k := tb) (by omega) hr0)
  have HIn := Lib.hid (inode_ok (d : Int) w0 (h.below hb0) (by omega) (by omega))
  rw [Int.toNat_natCast] at HIn
  have hml : M.map.length = 16 := by
    obtain ⟨P, h3, h4⟩ := h
    exact h4.mapl
  have hfs := Gd.first_some hml (by omega)
  have HBk := Lib.hid fun W F1 (h3 : MetaV x t S M c K W F1) => block_ok spare W h3 hsp (by omega)
  obtain ⟨n, hn⟩ : ∃ n, n = Gd.firstB M.map := ⟨_, rfl⟩
  rw [← hn] at HBk hfs hmay ⊢
  obtain ⟨hn1, hn2, -⟩ := hfs
  obtain ⟨M2, hM2⟩ : ∃ M2, M2 = M.take := ⟨_, rfl⟩
  rw [← hM2] at HBk ⊢
  have HSt := Lib.hid fun W F1 (h3 : MetaV x t S M2 (c + 2) K W F1) v hv hap => store_turns (M' := M2.setBlk n (Gd.blkT T k)) 7 n _ v (Gd.blkT T k) W h3 (Gd.ptAt_block hn1 hn2) hv (by rw [Gd.blkT_len hT hk4]; omega) (by rw [Gd.blkT_len hT hk4]; exact Nat.le_refl _) (by omega) hap fun V hV => hV.setBlk hn1 hn2 (Gd.blkT_len hT hk4)
  have HUs := Lib.hid fun W => tused_any T hT.len k hk4 W
  rw [hu] at HUs
  have HTb := Lib.hid fun W => tblock_any T hT k hk4 W
  obtain ⟨x0, hx0⟩ : ∃ x0, x0 = M.ino d := ⟨_, rfl⟩
  rw [← hx0] at hsh hB hmay hsz HIn ⊢
  obtain ⟨y, hy⟩ : ∃ y, y = ((x0.setB k n).setS (x0.s + more)) := ⟨_, rfl⟩
  rw [← hy] at hmay ⊢
  obtain ⟨x1, hx1⟩ : ∃ x1, x1 = x0.setB k n := ⟨_, rfl⟩
  have hsh1 : x1.Shape := by rw [hx1]; exact Gd.Ino.setB_shape hsh k n
  have hB1 : x1.B[k]? = some (n : Int) := by rw [hx1]; show (x0.B.set k (n : Int))[k]? = _; rw [List.getElem?_set_self (by rw [hsh.1]; exact hk4)]
  have hC1 : (inoC x0).setIfInBounds (3 + k) (.int .i64 n) = inoC x1 := by rw [hx1]; exact inoC_set (inoL_setB hsh hk4 n)
  have hs1 : x1.s = x0.s := by rw [hx1]; rfl
  have hC2 : (inoC x1).setIfInBounds 2 (.int .i64 (x0.s + more)) = inoC y := by rw [hy, ← hx1]; exact inoC_set (inoL_setS x1 _)
  have hyS : y.Shape := by rw [hy, ← hx1]; exact Gd.Ino.setS_shape hsh1 _
  have HC1 := Lib.hid hC1
  have HSi := Lib.hid fun W F1 (h3 : MetaV x t S (M2.setBlk n (Gd.blkT T k)) (c + 2 + 1) K W F1) => setino_ok (d : Int) y hyS hmay W h3 (by omega) (by omega) (by omega)
  rw [Int.toNat_natCast] at HSi
  have HS := Lib.hid (inoC_size hsh)
  have HSy := Lib.hid (inoC_size hyS)
  have HX := Lib.hid (And.intro hsh hsh1)
  have HB0 := Lib.hid hB
  have HB1 := Lib.hid hB1
  have HC2 := Lib.hid hC2
  have Htb := Lib.hid htb.symm
  have HW0 := Lib.hid hw0.symm
  obtain ⟨sm, hsm⟩ : ∃ sm, sm = x0.s + more := ⟨_, rfl⟩
  have hwr : IntKind.i64.wrap (x0.s + more) = sm := by rw [hsm, IntKind.wrap_i64]; omega
  obtain ⟨xs, hxs⟩ : ∃ xs, xs = x0.s := ⟨_, rfl⟩
  rw [← hxs] at hwr hs1
  rw [← hsm] at HC2
  have Hs1 := Lib.hid hs1
  have g4 : (k : Int) < 4 := by omega
  have g0 : (0 : Int) ≤ k := by omega
  have ga : (0 : Int) ≤ a := by omega
  have gn : ¬ (n : Int) = 0 := by omega
  have Hq := Lib.hid hq
  clear hk hq hB hmay hsz hsh hsh1 hB1 hC2 hyS htb hw0 hr0 hb0 h h1 h2 hT hu hsm hxs hs1 hx0 hy hx1 hml hn hM2 hC1 hsp
  unfold inoV tabV at *
  go_enter Tryz.func144, Tryz.ntmps144
  go_upto_region 1 with fail
  rw [HW0.out, Htb.out]
  go_upto_region 2 with (first | (go_at_call 11; refine HIn.out.mono ?_; rintro e w2 ⟨rfl, hb2⟩; have HL2 := Lib.hid (HL0.out.below hb2); clear hb2) | (rw [← zIno_lit]; refine wpList_store_mid rfl 25 _ _ rfl w2.heap.size 0 (inoC x0) rfl rfl (there_at (heap_alloc_new _ _) (by rw [zIno_size, HS.out])) (by rw [HS.out]; exact Tryz.sizeIno) (inoC_one _) ?_; obtain ⟨hbw, hbg⟩ := new_whole2 w2 zIno 25 (inoC x0).toList (by rw [zIno_size, Array.length_toList, HS.out]); generalize (World.setCells _ _ _ _) = w3 at hbw hbg ⊢; have HL3 := Lib.hid (HL2.out.new hbw (Nat.le_refl _) (o := .cells (inoC x0) 25 (0, 0)) hbg); clear hbw hbg))
  obtain ⟨ib, hib⟩ : ∃ ib, ib = w2.heap.size := ⟨_, rfl⟩
  rw [← hib] at HL3 ⊢
  have htib : Hid (ib ≠ tb) := Lib.hid (by
    have := lt_get (HL2.out.get (k := tb) (o := .cells (tabC T) 181 (0, 0)) (by simp))
    omega)
  clear hib
  have HTr3 := Lib.hid (HL3.out.get (k := tb) (o := .cells (tabC T) 181 (0, 0)) (by simp))
  go_upto_region 5 with fail
  rw [Hq.out]
  go_upto_region 8 with (first | (refine wpList_load_row rfl 181 _ rfl tb rfl 181 (tabC T) (0, 0) _ HTr3.out Tryz.underlying181 rfl (by rw [HTs.out]; exact Tryz.sizeTab) ?_) | (go_at_call 158; refine (HUs.out w3).mono ?_; rintro e w4 ⟨rfl, hb4⟩; have HL4 := Lib.hid (HL3.out.below hb4); clear hb4))
  have hI4 : InoAt w4 ib x0 := ⟨HL4.out.get (k := ib) (by simp), HX.out.1⟩
  obtain ⟨b0, -⟩ := hI4.cB HB0.out
  clear hI4
  go_upto_region 9 with fail
  obtain ⟨F4, h4s, h4l⟩ := HL4.out
  have HBc := Lib.hid (HBk.out w4 F4 h4s.inv)
  have HNx := Lib.hid fun b N d (h : Turns x t S N d K F4 w4 b) => Tl.next h4s h4l h
  clear h4s h4l b0
  go_wp2_with fail
  refine HBc.out.mono ?_
  rintro e w5 ⟨rfl, ht5⟩
  have HL5 := Lib.hid (HNx.out _ _ _ ht5)
  clear ht5 HNx HBc
  have hI5 : InoAt w5 ib x0 := ⟨HL5.out.get (k := ib) (by simp), HX.out.1⟩
  obtain ⟨b0, b1⟩ := hI5.cB HB0.out
  clear hI5
  have hl6 : Tl x t S M2 (c + 2) K F w (w5.setCell ⟨ib, 3 + k, none⟩ (.int .i64 n)) [(ib, .cells (inoC x1) 25 (0, 0)), (tb, .cells (tabC T) 181 (0, 0))] := by
    refine HL5.out.set (k := ib) (C := inoC x0) (ty := 25) (by simp) _ fun p hp => ?_
    rw [HC1.out]
    simp only [List.mem_cons, List.mem_nil_iff, or_false] at hp
    rcases hp with rfl | rfl
    · exact Or.inl rfl
    · exact Or.inr ⟨by simp, fun e => htib.out e.symm⟩
  obtain ⟨w6, hw6⟩ : ∃ u, u = w5.setCell ⟨ib, 3 + k, none⟩ (.int .i64 n) := ⟨_, rfl⟩
  rw [← hw6] at hl6
  have HL6 := Lib.hid hl6
  have HW6 := Lib.hid hw6.symm
  clear hl6 hw6
  go_upto_region 12 with fail
  rw [HW6.out]
  have hI6 : InoAt w6 ib x1 := ⟨HL6.out.get (k := ib) (by simp), HX.out.2⟩
  obtain ⟨b0, -⟩ := hI6.cB HB1.out
  clear hI6
  have HTr6 := Lib.hid (HL6.out.get (k := tb) (o := .cells (tabC T) 181 (0, 0)) (by simp))
  obtain ⟨F6, h6s, h6l⟩ := HL6.out
  have HT6 := Lib.hid h6s.inv.tight
  have HSt6 : Hid (∀ b v, Below w6.heap.size w6 b → OwnB b w6.heap.size v (Gd.blkT T k) → Calls Tryz.prog 40 #[.pointer (some ⟨x, 0, none⟩), .int .i64 7, .int .i64 n, v] b fun e w' => e = .returned (.int .i64 0) ∧ Tl x t S (M2.setBlk n (Gd.blkT T k)) (c + 2 + 1) K F w w' [(ib, .cells (inoC x1) 25 (0, 0)), (tb, .cells (tabC T) 181 (0, 0))]) := Lib.hid fun b v hb hv => by
    have h7 := Step.aheadM h6s hb
    refine (HSt.out b F6 h7.inv v hv.at_ fun q hq e => ?_).mono ?_
    · have h3 := (own_block hv q hq).1
      have h4 := HT6.out q e
      omega
    · rintro e w' ⟨he, ht⟩
      refine ⟨he, Tl.next h7 (fun p hp => ?_) ht⟩
      obtain ⟨q1, q2, q3⟩ := h6l p hp
      exact ⟨q1, q2, (hb.block _ (lt_get q3)).trans q3⟩
  clear h6s h6l HT6
  go_upto_region 14 with (first | (refine wpList_load_row rfl 181 _ rfl tb rfl 181 (tabC T) (0, 0) _ HTr6.out Tryz.underlying181 rfl (by rw [HTs.out]; exact Tryz.sizeTab) ?_) | (go_at_call 159; refine (HTb.out w6).mono ?_; rintro e w7 ⟨v7, rfl, ho7, hb7⟩))
  have HL7 := Lib.hid (HL6.out.below hb7)
  have HSc := Lib.hid (HSt6.out w7 v7 hb7 ho7)
  clear ho7 hb7 b0 HSt6
  have hI7 : InoAt w7 ib x1 := ⟨HL7.out.get (k := ib) (by simp), HX.out.2⟩
  obtain ⟨b0, -⟩ := hI7.cB HB1.out
  clear hI7
  go_upto_region 17 with (go_at_call 40; refine HSc.out.mono ?_; rintro e w8 ⟨rfl, hl8⟩; have HL8 := Lib.hid hl8; clear hl8)
  clear b0
  have hI8 : InoAt w8 ib x1 := ⟨HL8.out.get (k := ib) (by simp), HX.out.2⟩
  have b2 := hI8.c2
  rw [Hs1.out] at b2
  have f2 := hI8.f 2
  clear hI8
  have hl9 : Tl x t S (M2.setBlk n (Gd.blkT T k)) (c + 2 + 1) K F w (w8.setCell ⟨ib, 2, none⟩ (.int .i64 sm)) [(ib, .cells (inoC y) 25 (0, 0)), (tb, .cells (tabC T) 181 (0, 0))] := by
    refine HL8.out.set (k := ib) (C := inoC x1) (ty := 25) (by simp) _ fun p hp => ?_
    rw [HC2.out]
    simp only [List.mem_cons, List.mem_nil_iff, or_false] at hp
    rcases hp with rfl | rfl
    · exact Or.inl rfl
    · exact Or.inr ⟨by simp, fun e => htib.out e.symm⟩
  obtain ⟨w9, hw9⟩ : ∃ u, u = w8.setCell ⟨ib, 2, none⟩ (.int .i64 sm) := ⟨_, rfl⟩
  rw [← hw9] at hl9
  have HL9 := Lib.hid hl9
  have HW9 := Lib.hid hw9.symm
  clear hl9 hw9
  go_upto_region 20 with fail
  rw [HW9.out]
  have HIr := Lib.hid (HL9.out.get (k := ib) (o := .cells (inoC y) 25 (0, 0)) (by simp))
  obtain ⟨F9, h9s, h9l⟩ := HL9.out
  have HSc9 := Lib.hid (HSi.out w9 F9 h9s.inv)
  have HNx := Lib.hid fun b N d (h : Turns x t S N d K F9 w9 b) => Tl.next h9s h9l h
  clear h9s h9l b2 f2
  go_wp2_with (first | (refine wpList_load_row rfl 25 _ rfl ib rfl 25 (inoC y) (0, 0) _ HIr.out Tryz.underlying25 rfl (by rw [HSy.out]; exact Tryz.sizeIno) ?_) | (go_at_call 12; refine HSc9.out.mono ?_; rintro e w10 ⟨rfl, ht10⟩; have HL10 := Lib.hid (HNx.out _ _ _ ht10); clear ht10))
  go_ret
  exact ⟨rfl, HL10.out.turns⟩

set_option maxHeartbeats 8000000 in
set_option maxRecDepth 100000 in
theorem change_over {x t c K d a : Nat} {S : List UInt8} {M : Gd.Vol} {F : Nat → Prop} (n : Nat) (T : Gd.Tab) (more spare : Int) (w : World) (h : MetaV x t S M c K w F) (h1 : 1 ≤ d) (h2 : d ≤ 32) (ha : a < 16) (hT : Gd.TabOk T) (hu : Gd.usedT T (a / 4) = true) (hB : (M.ino d).B[a / 4]? = some (n : Int)) (hn1 : 1 ≤ n) (hn2 : n ≤ 128) (hmay : Gd.mayI ((M.ino d).setS ((M.ino d).s + more)) = true) (hsz : 0 ≤ (M.ino d).s + more ∧ (M.ino d).s + more ≤ 16) (hc : c + 10 < 64) :
    Calls Tryz.prog 144 #[.pointer (some ⟨x, 0, none⟩), .int .i64 d, .int .i64 a, tabV T, .int .i64 more, .int .i64 spare] w fun e w' => e = .returned (.int .i64 0) ∧ Turns x t S ((M.setBlk n (Gd.blkT T (a / 4))).setIno d ((M.ino d).setS ((M.ino d).s + more))) (c + 2) K F w w' := by
  obtain ⟨k, hk⟩ : ∃ k, k = a / 4 := ⟨_, rfl⟩
  have hq := quo4 a
  rw [← hk] at hq hu hB  ⊢
  have hk4 : k < 4 := by omega
  have hsh : (M.ino d).Shape := by
    obtain ⟨P, h3, h4⟩ := h
    exact h4.shape d h1 h2
  have HTs := Lib.hid (tabC_size hT.len)
  obtain ⟨hb0, hr0⟩ := below_new w (tabC T) 181
  obtain ⟨tb, htb⟩ : ∃ tb, tb = w.heap.size := ⟨_, rfl⟩
  obtain ⟨w0, hw0⟩ : ∃ u, u = w.alloc (.cells (tabC T) 181) := ⟨_, rfl⟩
  rw [← hw0, ← htb] at hr0
  rw [← hw0] at hb0
  have HL0 := Lib.hid ((Tl.start h).new hb0 (k := tb) (by omega) hr0)
  have HIn := Lib.hid (inode_ok (d : Int) w0 (h.below hb0) (by omega) (by omega))
  rw [Int.toNat_natCast] at HIn
  have HSt := Lib.hid fun W F1 (h3 : MetaV x t S M c K W F1) v hv hap => store_turns (M' := M.setBlk n (Gd.blkT T k)) 7 n _ v (Gd.blkT T k) W h3 (Gd.ptAt_block hn1 hn2) hv (by rw [Gd.blkT_len hT hk4]; omega) (by rw [Gd.blkT_len hT hk4]; exact Nat.le_refl _) (by omega) hap fun V hV => hV.setBlk hn1 hn2 (Gd.blkT_len hT hk4)
  have HUs := Lib.hid fun W => tused_any T hT.len k hk4 W
  rw [hu] at HUs
  have HTb := Lib.hid fun W => tblock_any T hT k hk4 W
  obtain ⟨x0, hx0⟩ : ∃ x0, x0 = M.ino d := ⟨_, rfl⟩
  rw [← hx0] at hsh hB hmay hsz HIn ⊢
  obtain ⟨y, hy⟩ : ∃ y, y = (x0.setS (x0.s + more)) := ⟨_, rfl⟩
  rw [← hy] at hmay ⊢
  obtain ⟨x1, hx1⟩ : ∃ x1, x1 = x0 := ⟨_, rfl⟩
  have HX1 := Lib.hid hx1
  have hsh1 : x1.Shape := by rw [hx1]; exact hsh
  have hB1 : x1.B[k]? = some (n : Int) := by rw [hx1]; exact hB
  have hs1 : x1.s = x0.s := by rw [hx1]
  have hC2 : (inoC x1).setIfInBounds 2 (.int .i64 (x0.s + more)) = inoC y := by rw [hx1, hy]; exact inoC_set (inoL_setS x0 _)
  have hyS : y.Shape := by rw [hy]; exact Gd.Ino.setS_shape hsh _
  have HSi := Lib.hid fun W F1 (h3 : MetaV x t S (M.setBlk n (Gd.blkT T k)) (c + 1) K W F1) => setino_ok (d : Int) y hyS hmay W h3 (by omega) (by omega) (by omega)
  rw [Int.toNat_natCast] at HSi
  have HS := Lib.hid (inoC_size hsh)
  have HSy := Lib.hid (inoC_size hyS)
  have HX := Lib.hid (And.intro hsh hsh1)
  have HB0 := Lib.hid hB
  have HB1 := Lib.hid hB1
  have HC2 := Lib.hid hC2
  have Htb := Lib.hid htb.symm
  have HW0 := Lib.hid hw0.symm
  obtain ⟨sm, hsm⟩ : ∃ sm, sm = x0.s + more := ⟨_, rfl⟩
  have hwr : IntKind.i64.wrap (x0.s + more) = sm := by rw [hsm, IntKind.wrap_i64]; omega
  obtain ⟨xs, hxs⟩ : ∃ xs, xs = x0.s := ⟨_, rfl⟩
  rw [← hxs] at hwr hs1
  rw [← hsm] at HC2
  have Hs1 := Lib.hid hs1
  have g4 : (k : Int) < 4 := by omega
  have g0 : (0 : Int) ≤ k := by omega
  have ga : (0 : Int) ≤ a := by omega
  have gn : ¬ (n : Int) = 0 := by omega
  have Hq := Lib.hid hq
  clear hk hq hB hmay hsz hsh hsh1 hB1 hC2 hyS htb hw0 hr0 hb0 h h1 h2 hT hu hsm hxs hs1 hx0 hy hx1 
  unfold inoV tabV at *
  go_enter Tryz.func144, Tryz.ntmps144
  go_upto_region 1 with fail
  rw [HW0.out, Htb.out]
  go_upto_region 2 with (first | (go_at_call 11; refine HIn.out.mono ?_; rintro e w2 ⟨rfl, hb2⟩; have HL2 := Lib.hid (HL0.out.below hb2); clear hb2) | (rw [← zIno_lit]; refine wpList_store_mid rfl 25 _ _ rfl w2.heap.size 0 (inoC x0) rfl rfl (there_at (heap_alloc_new _ _) (by rw [zIno_size, HS.out])) (by rw [HS.out]; exact Tryz.sizeIno) (inoC_one _) ?_; obtain ⟨hbw, hbg⟩ := new_whole2 w2 zIno 25 (inoC x0).toList (by rw [zIno_size, Array.length_toList, HS.out]); generalize (World.setCells _ _ _ _) = w3 at hbw hbg ⊢; have HL3 := Lib.hid (HL2.out.new hbw (Nat.le_refl _) (o := .cells (inoC x0) 25 (0, 0)) hbg); clear hbw hbg))
  obtain ⟨ib, hib⟩ : ∃ ib, ib = w2.heap.size := ⟨_, rfl⟩
  rw [← hib] at HL3 ⊢
  have htib : Hid (ib ≠ tb) := Lib.hid (by
    have := lt_get (HL2.out.get (k := tb) (o := .cells (tabC T) 181 (0, 0)) (by simp))
    omega)
  clear hib
  have HTr3 := Lib.hid (HL3.out.get (k := tb) (o := .cells (tabC T) 181 (0, 0)) (by simp))
  go_upto_region 5 with fail
  rw [Hq.out]
  go_upto_region 8 with (first | (refine wpList_load_row rfl 181 _ rfl tb rfl 181 (tabC T) (0, 0) _ HTr3.out Tryz.underlying181 rfl (by rw [HTs.out]; exact Tryz.sizeTab) ?_) | (go_at_call 158; refine (HUs.out w3).mono ?_; rintro e w4 ⟨rfl, hb4⟩; have HL4 := Lib.hid (HL3.out.below hb4); clear hb4))
  have hI4 : InoAt w4 ib x1 := ⟨by rw [HX1.out]; exact HL4.out.get (k := ib) (by simp), HX.out.2⟩
  obtain ⟨b0, -⟩ := hI4.cB HB1.out
  clear hI4
  go_upto_region 12 with fail
  obtain ⟨w6, hw6⟩ : ∃ u, u = w4 := ⟨_, rfl⟩
  have HL6 : Hid (Tl x t S M c K F w w6 [(ib, .cells (inoC x1) 25 (0, 0)), (tb, .cells (tabC T) 181 (0, 0))]) := Lib.hid (by rw [hw6, HX1.out]; exact HL4.out)
  rw [← hw6]
  clear hw6 b0
  have hI6 : InoAt w6 ib x1 := ⟨HL6.out.get (k := ib) (by simp), HX.out.2⟩
  obtain ⟨b0, -⟩ := hI6.cB HB1.out
  clear hI6
  have HTr6 := Lib.hid (HL6.out.get (k := tb) (o := .cells (tabC T) 181 (0, 0)) (by simp))
  obtain ⟨F6, h6s, h6l⟩ := HL6.out
  have HT6 := Lib.hid h6s.inv.tight
  have HSt6 : Hid (∀ b v, Below w6.heap.size w6 b → OwnB b w6.heap.size v (Gd.blkT T k) → Calls Tryz.prog 40 #[.pointer (some ⟨x, 0, none⟩), .int .i64 7, .int .i64 n, v] b fun e w' => e = .returned (.int .i64 0) ∧ Tl x t S (M.setBlk n (Gd.blkT T k)) (c + 1) K F w w' [(ib, .cells (inoC x1) 25 (0, 0)), (tb, .cells (tabC T) 181 (0, 0))]) := Lib.hid fun b v hb hv => by
    have h7 := Step.aheadM h6s hb
    refine (HSt.out b F6 h7.inv v hv.at_ fun q hq e => ?_).mono ?_
    · have h3 := (own_block hv q hq).1
      have h4 := HT6.out q e
      omega
    · rintro e w' ⟨he, ht⟩
      refine ⟨he, Tl.next h7 (fun p hp => ?_) ht⟩
      obtain ⟨q1, q2, q3⟩ := h6l p hp
      exact ⟨q1, q2, (hb.block _ (lt_get q3)).trans q3⟩
  clear h6s h6l HT6
  go_upto_region 14 with (first | (refine wpList_load_row rfl 181 _ rfl tb rfl 181 (tabC T) (0, 0) _ HTr6.out Tryz.underlying181 rfl (by rw [HTs.out]; exact Tryz.sizeTab) ?_) | (go_at_call 159; refine (HTb.out w6).mono ?_; rintro e w7 ⟨v7, rfl, ho7, hb7⟩))
  have HL7 := Lib.hid (HL6.out.below hb7)
  have HSc := Lib.hid (HSt6.out w7 v7 hb7 ho7)
  clear ho7 hb7 b0 HSt6
  have hI7 : InoAt w7 ib x1 := ⟨HL7.out.get (k := ib) (by simp), HX.out.2⟩
  obtain ⟨b0, -⟩ := hI7.cB HB1.out
  clear hI7
  go_upto_region 17 with (go_at_call 40; refine HSc.out.mono ?_; rintro e w8 ⟨rfl, hl8⟩; have HL8 := Lib.hid hl8; clear hl8)
  clear b0
  have hI8 : InoAt w8 ib x1 := ⟨HL8.out.get (k := ib) (by simp), HX.out.2⟩
  have b2 := hI8.c2
  rw [Hs1.out] at b2
  have f2 := hI8.f 2
  clear hI8
  have hl9 : Tl x t S (M.setBlk n (Gd.blkT T k)) (c + 1) K F w (w8.setCell ⟨ib, 2, none⟩ (.int .i64 sm)) [(ib, .cells (inoC y) 25 (0, 0)), (tb, .cells (tabC T) 181 (0, 0))] := by
    refine HL8.out.set (k := ib) (C := inoC x1) (ty := 25) (by simp) _ fun p hp => ?_
    rw [HC2.out]
    simp only [List.mem_cons, List.mem_nil_iff, or_false] at hp
    rcases hp with rfl | rfl
    · exact Or.inl rfl
    · exact Or.inr ⟨by simp, fun e => htib.out e.symm⟩
  obtain ⟨w9, hw9⟩ : ∃ u, u = w8.setCell ⟨ib, 2, none⟩ (.int .i64 sm) := ⟨_, rfl⟩
  rw [← hw9] at hl9
  have HL9 := Lib.hid hl9
  have HW9 := Lib.hid hw9.symm
  clear hl9 hw9
  go_upto_region 20 with fail
  rw [HW9.out]
  have HIr := Lib.hid (HL9.out.get (k := ib) (o := .cells (inoC y) 25 (0, 0)) (by simp))
  obtain ⟨F9, h9s, h9l⟩ := HL9.out
  have HSc9 := Lib.hid (HSi.out w9 F9 h9s.inv)
  have HNx := Lib.hid fun b N d (h : Turns x t S N d K F9 w9 b) => Tl.next h9s h9l h
  clear h9s h9l b2 f2
  go_wp2_with (first | (refine wpList_load_row rfl 25 _ rfl ib rfl 25 (inoC y) (0, 0) _ HIr.out Tryz.underlying25 rfl (by rw [HSy.out]; exact Tryz.sizeIno) ?_) | (go_at_call 12; refine HSc9.out.mono ?_; rintro e w10 ⟨rfl, ht10⟩; have HL10 := Lib.hid (HNx.out _ _ _ ht10); clear ht10))
  go_ret
  exact ⟨rfl, HL10.out.turns⟩

end Go.Proofs.YtginffdngphjpaaGreatDoor

/- Walks: metadata: put, make. -/
namespace Go.Proofs.YtginffdngphjpaaGreatDoor
open Go.RowKit Go.Shelf

attribute [local go_sem] Oper.semAt_some

set_option maxHeartbeats 8000000 in
set_option maxRecDepth 100000 in
/-- a name is put, where there is a place: what change does, at the table with it -/
theorem put_ok {x t c K d : Nat} {S : List UInt8} {M : Gd.Vol} {T : Gd.Tab} {F : Nat → Prop} (s : List UInt8) (i : Nat) (spare r : Int) (j : Fin 16) (w : World) (R : World → Prop) (h : MetaV x t S M c K w F) (hD : Gd.DirOf M d T) (hs : s.length ≤ 1000) (hj : Gd.placeT T (Gd.hN s) = some j)
    (hC : ∀ W, Below w.heap.size w W → Calls Tryz.prog 144 #[.pointer (some ⟨x, 0, none⟩), .int .i64 d, .int .i64 (j.val : Nat), tabV (Gd.setT T j.val ⟨s, i⟩), .int .i64 1, .int .i64 spare] W fun e w' => e = .returned (.int .i64 r) ∧ R w') :
    Calls Tryz.prog 116 #[.pointer (some ⟨x, 0, none⟩), .int .i64 d, .string ⟨s.toArray⟩, .int .i64 i, .int .i64 spare] w fun e w' => e = .returned (.int .i64 r) ∧ R w' := by
  have HTb := Lib.hid (tableI_dir w h hD)
  have HTs := Lib.hid (tabC_size hD.ok.len)
  have HPl := Lib.hid fun W => tplace_any T hD.ok ⟨s.toArray⟩ (by rw [Lib.size_eq]; show s.length ≤ _; omega) (Gd.hN s) rfl W
  rw [hj] at HPl
  have HSt := Lib.hid fun W => tset_any T hD.ok.len j.val j.isLt ⟨s, i⟩ W
  have HC := Lib.hid hC
  obtain ⟨k, hk⟩ : ∃ k, k = j.val := ⟨_, rfl⟩
  have hnk : numO (some j) = (k : Int) := by rw [hk]; rfl
  have hk16 : (k : Int) < 16 := by have := j.isLt; omega
  have hk0 : (0 : Int) ≤ k := by omega
  rw [← hk] at HSt HC
  rw [hnk] at HPl
  obtain ⟨T2, hT2⟩ : ∃ T2, T2 = Gd.setT T k ⟨s, i⟩ := ⟨_, rfl⟩
  rw [← hT2] at HSt HC
  unfold entV at HSt
  dsimp only at HSt
  obtain ⟨sb, hsb⟩ : ∃ sb : ByteArray, sb = ⟨s.toArray⟩ := ⟨_, rfl⟩
  rw [← hsb] at HSt HPl ⊢
  clear h hD hs hj hC hk hnk hT2 hsb
  unfold tabV at *
  go_enter Tryz.func116, Tryz.ntmps116
  go_upto_region 2 with (first | (go_at_call 112; refine HTb.out.mono ?_; rintro e w2 ⟨rfl, hb2⟩; have HB2 := Lib.hid hb2; clear hb2) | (rw [← zTab]; refine wpList_store_mid rfl 181 _ _ rfl w2.heap.size 0 (tabC T) rfl rfl (there_at (heap_alloc_new _ _) (by rw [noTab_size, HTs.out])) (by rw [HTs.out]; exact Tryz.sizeTab) (tabC_one _) ?_; obtain ⟨hbw, hbg⟩ := new_whole2 w2 (tabC Gd.noTab) 181 (tabC T).toList (by rw [noTab_size, Array.length_toList, HTs.out]); generalize (World.setCells _ _ _ _) = w3 at hbw hbg ⊢; have HN3 : Hid (w3.heap[w2.heap.size]? = some (.cells (tabC T) 181 (0, 0))) := Lib.hid hbg; have HB3 := Lib.hid (HB2.out.trans (hbw.mono HB2.out.size)); clear hbw hbg))
  go_upto_region 7 with (first | (refine wpList_load_row rfl 181 _ rfl w2.heap.size rfl 181 (tabC T) (0, 0) _ HN3.out Tryz.underlying181 rfl (by rw [HTs.out]; exact Tryz.sizeTab) ?_) | (go_at_call 143; refine (HPl.out w3).mono ?_; rintro e w4 ⟨rfl, hb4⟩; have HB4 := Lib.hid (HB3.out.trans (hb4.mono HB3.out.size)); have HN4 := Lib.hid ((hb4.block _ (lt_get HN3.out)).trans HN3.out); clear hb4))
  go_wp2_with (first | (refine wpList_load_row rfl 181 _ rfl w2.heap.size rfl 181 (tabC T) (0, 0) _ HN4.out Tryz.underlying181 rfl (by rw [HTs.out]; exact Tryz.sizeTab) ?_) | (go_at_call 145; refine (HSt.out w4).mono ?_; rintro e w5 ⟨rfl, hb5⟩; have HCc := Lib.hid (HC.out w5 (HB4.out.trans (hb5.mono HB4.out.size))); clear hb5) | (go_at_call 144; refine HCc.out.mono ?_; rintro e w6 ⟨rfl, hr6⟩))
  go_ret
  exact ⟨rfl, hr6⟩

set_option maxHeartbeats 8000000 in
set_option maxRecDepth 100000 in
/-- a node is made: the first that is none, and put does well -/
theorem make_ok {x t c c2 K d : Nat} {S : List UInt8} {M M2 : Gd.Vol} {F : Nat → Prop} (s : ByteArray) (f : Nat) (y : Gd.Ino) (spare : Int) (w : World) (h : MetaV x t S M c K w F) (hy : y.Shape) (hm : Gd.mayI y = true) (f1 : 1 ≤ f) (f2 : f ≤ 32) (hk : (M.ino f).k = 0) (hl : ∀ i, 1 ≤ i → i < f → (M.ino i).k ≠ 0) (hc : c < 64)
    (hP : ∀ W F1, MetaV x t S (M.setIno f y) (c + 1) K W F1 → Calls Tryz.prog 116 #[.pointer (some ⟨x, 0, none⟩), .int .i64 d, .string s, .int .i64 f, .int .i64 spare] W fun e w' => e = .returned (.int .i64 0) ∧ Turns x t S M2 c2 K F1 W w') :
    Calls Tryz.prog 78 #[.pointer (some ⟨x, 0, none⟩), .int .i64 d, .string s, inoV y, .int .i64 spare] w fun e w' => e = .returned (.tuple #[.int .i64 f, .int .i64 0]) ∧ Turns x t S M2 c2 K F w w' := by
  obtain ⟨hb0, hr0⟩ := below_new w (inoC y) 25
  obtain ⟨yb, hyb⟩ : ∃ yb, yb = w.heap.size := ⟨_, rfl⟩
  obtain ⟨w0, hw0⟩ : ∃ u, u = w.alloc (.cells (inoC y) 25) := ⟨_, rfl⟩
  rw [← hw0, ← hyb] at hr0
  rw [← hw0] at hb0
  have HL0 := Lib.hid ((Tl.start h).new hb0 (k := yb) (by omega) hr0)
  have HFr := Lib.hid (free_ok f w0 (h.below hb0) f1 f2 hk hl)
  have HSi := Lib.hid fun W F1 (h3 : MetaV x t S M c K W F1) => setino_ok (f : Int) y hy hm W h3 (by omega) (by omega) hc
  rw [Int.toNat_natCast] at HSi
  have HP := Lib.hid hP
  have HS := Lib.hid (inoC_size hy)
  have HTo := Lib.hid fun W => metold_any (f : Int) 0 W
  rw [if_pos rfl] at HTo
  have Hyb := Lib.hid hyb.symm
  have HW0 := Lib.hid hw0.symm
  clear h hy hm f1 f2 hk hl hc hP hb0 hr0 hyb hw0
  unfold inoV at *
  go_enter Tryz.func78, Tryz.ntmps78
  go_upto_region 1 with fail
  rw [HW0.out, Hyb.out]
  go_upto_region 4 with (go_at_call 115; refine HFr.out.mono ?_; rintro e w2 ⟨rfl, hb2⟩; have HL2 := Lib.hid (HL0.out.below hb2); clear hb2)
  have HIr := Lib.hid (HL2.out.get (k := yb) (o := .cells (inoC y) 25 (0, 0)) (by simp))
  obtain ⟨F2, h2s, h2l⟩ := HL2.out
  have HSc := Lib.hid (HSi.out w2 F2 h2s.inv)
  have HNx := Lib.hid fun b N d (h : Turns x t S N d K F2 w2 b) => Tl.next h2s h2l h
  clear h2s h2l
  go_upto_region 7 with (first | (refine wpList_load_row rfl 25 _ rfl yb rfl 25 (inoC y) (0, 0) _ HIr.out Tryz.underlying25 rfl (by rw [HS.out]; exact Tryz.sizeIno) ?_) | (go_at_call 12; refine HSc.out.mono ?_; rintro e w3 ⟨rfl, ht3⟩; have HL3 := Lib.hid (HNx.out _ _ _ ht3); clear ht3))
  obtain ⟨F3, h3s, h3l⟩ := HL3.out
  have HPc := Lib.hid (HP.out w3 F3 h3s.inv)
  have HNx3 := Lib.hid fun b N d (h : Turns x t S N d K F3 w3 b) => Tl.next h3s h3l h
  clear h3s h3l
  go_wp2_with (first | (go_at_call 116; refine HPc.out.mono ?_; rintro e w4 ⟨rfl, ht4⟩; have HL4 := Lib.hid (HNx3.out _ _ _ ht4); clear ht4) | (go_at_call 48; refine (HTo.out w4).mono ?_; rintro e w5 ⟨rfl, rfl⟩))
  go_ret2
  exact ⟨rfl, HL4.out.turns⟩

end Go.Proofs.YtginffdngphjpaaGreatDoor

/- Walks: metadata: Open, of what is not there. -/
namespace Go.Proofs.YtginffdngphjpaaGreatDoor
open Go.RowKit Go.Shelf

attribute [local go_sem] Oper.semAt_some

theorem mis_any (k : Int) (w : World) : Calls Tryz.prog 79 #[.int .i64 k] w fun e w' => e = .returned (.bool (decide (1 ≤ k) && decide (k ≤ 8))) ∧ w' = w := by
  go_enter Tryz.func79, Tryz.ntmps79
  by_cases h0 : 1 ≤ k
  · by_cases h4 : k ≤ 8
    · go_wp2
      go_ret
      exact ⟨ret_bool (by simp [h0, h4]), rfl⟩
    · go_wp2
      go_ret
      exact ⟨ret_bool (by simp [h0, h4]), rfl⟩
  · go_wp2
    go_ret
    exact ⟨ret_bool (by simp; omega), rfl⟩
/-- a file that one client has open -/
def newF : Gd.Ino := ⟨1, 1, 0, [0, 0, 0, 0], [0, 0, 0, 0, 0, 0, 0, 0]⟩
theorem zeros8 : ∀ k : Fin 8, ([0, 0, 0, 0, 0, 0, 0, 0] : List Int)[k.val]? = some 0 := by decide
theorem newF_shape : newF.Shape := ⟨rfl, rfl⟩

set_option maxHeartbeats 8000000 in
set_option maxRecDepth 100000 in
theorem open_new {x : Nat} (cl : Nat) (s n : ByteArray) (wi d f : Nat) (spare : Int) (w : World) (R : World → Prop) (hc1 : 1 ≤ cl) (hc8 : cl ≤ 8)
    (hW : ∀ W, Below w.heap.size w W → Calls Tryz.prog 75 #[.pointer (some ⟨x, 0, none⟩), .string s] W fun e w' => e = .returned (.tuple #[.int .i64 wi, .int .i64 10]) ∧ Below W.heap.size W w')
    (hP : ∀ W, Below w.heap.size w W → Calls Tryz.prog 76 #[.pointer (some ⟨x, 0, none⟩), .string s] W fun e w' => e = .returned (.tuple #[.int .i64 d, .string n, .int .i64 0]) ∧ Below W.heap.size W w')
    (hM : ∀ W, Below w.heap.size w W → Calls Tryz.prog 78 #[.pointer (some ⟨x, 0, none⟩), .int .i64 d, .string n, inoV (newF.setO (cl - 1) 1), .int .i64 spare] W fun e w' => e = .returned (.tuple #[.int .i64 f, .int .i64 0]) ∧ R w') :
    Calls Tryz.prog 44 #[.pointer (some ⟨x, 0, none⟩), .int .i64 cl, .string s, .int .i64 1, .bool false, .int .i64 spare] w fun e w' => e = .returned (.tuple #[.int .i64 f, .int .i64 0]) ∧ R w' := by
  have HW := Lib.hid hW
  have HP := Lib.hid hP
  have HM := Lib.hid hM
  have HI := Lib.hid fun W => mis_any (cl : Int) W
  rw [show (decide ((1 : Int) ≤ cl) && decide ((cl : Int) ≤ 8)) = true by simp; omega] at HI
  obtain ⟨k, rfl⟩ : ∃ k, cl = k + 1 := ⟨cl - 1, by omega⟩
  rw [Nat.add_sub_cancel] at HM
  rw [show (((k + 1 : Nat) : Int)) = (k : Int) + 1 by omega] at HI ⊢
  have hk8 : (k : Int) < 8 := by omega
  have hk0 : (0 : Int) ≤ k := by omega
  have HK8 : Hid (k < 8) := Lib.hid (by omega)
  have HSn : Hid ((inoC newF).size = 15) := Lib.hid rfl
  have HSo := Lib.hid (inoC_size (Gd.Ino.setO_shape newF_shape k 1))
  have HC : Hid ((inoC newF).setIfInBounds (7 + k) (.int .i64 1) = inoC (newF.setO k 1)) := Lib.hid (inoC_set (inoL_setO newF_shape HK8.out 1))
  have hcl0 : (1 : Int) ≤ (k : Int) + 1 := by omega
  have hcl8 : (k : Int) + 1 ≤ 8 := by omega
  clear hW hP hM hc1 hc8
  unfold inoV at *
  go_enter Tryz.func44, Tryz.ntmps44
  go_upto_region 5 with (go_at_call 79; refine (HI.out _).mono ?_; rintro e wq ⟨rfl, rfl⟩)
  have HW0 := Lib.hid (HW.out wq (Below.refl _ _))
  go_upto_region 6 with (go_at_call 75; refine HW0.out.mono ?_; rintro e w2 ⟨rfl, hb2⟩; have HB2 := Lib.hid hb2; clear hb2)
  have HP2 := Lib.hid (HP.out w2 HB2.out)
  go_upto_region 7 with (go_at_call 76; refine HP2.out.mono ?_; rintro e w3 ⟨rfl, hb3⟩; have HB3 := Lib.hid (HB2.out.trans (hb3.mono HB2.out.size)); clear hb3)
  go_upto_region 15 with fail
  go_upto_region 16 with (rw [← zIno_lit]; refine wpList_store_mid rfl 25 _ _ rfl w3.heap.size 0 (inoC newF) rfl rfl (there_at (heap_alloc_new _ _) (by rw [zIno_size, HSn.out])) (by rw [HSn.out]; exact Tryz.sizeIno) (inoC_one _) ?_; obtain ⟨hbw, hbg⟩ := new_whole2 w3 zIno 25 (inoC newF).toList (by rw [zIno_size, Array.length_toList, HSn.out]); generalize (World.setCells _ _ _ _) = w4 at hbw hbg ⊢; have HB4 := Lib.hid (HB3.out.trans (hbw.mono HB3.out.size)); have HN4 : Hid (w4.heap[w3.heap.size]? = some (.cells (inoC newF) 25 (0, 0))) := Lib.hid hbg; clear hbw hbg)
  obtain ⟨ib, hib⟩ : ∃ ib, ib = w3.heap.size := ⟨_, rfl⟩
  rw [← hib] at HN4 ⊢
  have hI4 : InoAt w4 ib newF := ⟨HN4.out, newF_shape⟩
  obtain ⟨b0, b1⟩ := hI4.cO (k := k) (n := 0) (by
    exact zeros8 ⟨k, HK8.out⟩)
  obtain ⟨w5, hw5⟩ : ∃ u, u = w4.setCell ⟨ib, 7 + k, none⟩ (.int .i64 1) := ⟨_, rfl⟩
  have HB5 : Hid (Below wq.heap.size wq w5) := Lib.hid (by rw [hw5]; exact HB4.out.setCell (show wq.heap.size ≤ ib by rw [hib]; exact HB3.out.size) _)
  have HN5 : Hid (w5.heap[ib]? = some (.cells (inoC (newF.setO k 1)) 25 (0, 0))) := Lib.hid (by rw [hw5, ← HC.out]; exact Go.heap_setCell_same w4 ib _ _ _ _ HN4.out)
  have HW5 := Lib.hid hw5.symm
  clear hI4 hw5 hib
  have HMc := Lib.hid (HM.out w5 HB5.out)
  go_upto_region 17 with fail
  rw [HW5.out]
  go_wp2_with (first | (refine wpList_load_row rfl 25 _ rfl ib rfl 25 (inoC (newF.setO k 1)) (0, 0) _ HN5.out Tryz.underlying25 rfl (by rw [HSo.out]; exact Tryz.sizeIno) ?_) | (go_at_call 78; refine HMc.out.mono ?_; rintro e w6 ⟨rfl, hr6⟩))
  go_ret2
  exact ⟨rfl, hr6⟩

end Go.Proofs.YtginffdngphjpaaGreatDoor
