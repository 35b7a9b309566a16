/- The example of chapter 14, in plain words: a directory, and a file in it. -/
import Derived.Test.YtginffdngphjpaaGreatDoorV23
import Derived.Test.YtginffdngphjpaaGreatDoorV26
import Derived.Test.YtginffdngphjpaaGreatDoorV24
import Derived.ArgAppend
set_option linter.unusedVariables false
set_option linter.unusedSimpArgs false
namespace Go.Proofs.YtginffdngphjpaaGreatDoor
namespace Gd
def z8 : List Int := [0, 0, 0, 0, 0, 0, 0, 0]
def lvD : Tab := setT noTab 14 ⟨[100], 2⟩
def lvT : Tab := setT noTab 14 ⟨[97], 3⟩
theorem lvD_ok : TabOk lvD := noTab_ok.set (Or.inr ⟨names4.2.2.2, by decide, by decide⟩)
theorem lvT_ok : TabOk lvT := noTab_ok.set (Or.inr ⟨names4.1, by decide, by decide⟩)
theorem lvD_no : ∀ (k : Fin 3) (i : Fin 4), entAt lvD (4 * k.val + i.val) = noEnt := by decide +kernel
theorem lvT_no : ∀ (k : Fin 3) (i : Fin 4), entAt lvT (4 * k.val + i.val) = noEnt := by decide +kernel
theorem findD : findT noTab [100] 14 = none ∧ findT lvD [100] 14 = some 14 ∧ (entAt lvD 14).i = 2 := by decide +kernel
theorem findA : findT noTab [97] 14 = none ∧ findT lvT [97] 14 = some 14 ∧ (entAt lvT 14).i = 3 := by decide +kernel
theorem place0 : placeT noTab 14 = some 14 := by decide +kernel
theorem lvT_back : setT lvT 14 noEnt = noTab ∧ usedT noTab 3 = false := by decide +kernel
theorem lvD_ent : ∀ e ∈ lvD, e ≠ noEnt → e.i = 2 := by decide +kernel
theorem lvT_ent : ∀ e ∈ lvT, e ≠ noEnt → e.i = 3 := by decide +kernel
/-- a directory with its last block alone -/
theorem dir_last {N : Vol} {d : Nat} {T : Tab} {n : Nat} (lo : 1 ≤ d) (hi : d ≤ 32) (kind : (N.ino d).k = 2) (ok : TabOk T) (hB : (N.ino d).B = [0, 0, 0, (n : Int)]) (hno : ∀ (k : Fin 3) (i : Fin 4), entAt T (4 * k.val + i.val) = noEnt) (hn1 : 1 ≤ n) (hn2 : n ≤ 128) (hb : N.blk n = blkT T 3) : DirOf N d T := by
  refine ⟨lo, hi, kind, ok, fun k hk => ?_⟩
  rw [hB]
  by_cases e : k = 3
  · subst e
    exact ⟨n, rfl, Or.inr ⟨hn1, hn2, hb⟩⟩
  · refine ⟨0, ?_, Or.inl ⟨rfl, fun i hi => hno ⟨k, by omega⟩ ⟨i, hi⟩⟩⟩
    match k, hk, e with
    | 0, _, _ => rfl
    | 1, _, _ => rfl
    | 2, _, _ => rfl
    | 3, _, e => exact absurd rfl e
theorem dir_none {N : Vol} {d : Nat} (lo : 1 ≤ d) (hi : d ≤ 32) (kind : (N.ino d).k = 2) (hB : (N.ino d).B = [0, 0, 0, 0]) : DirOf N d noTab := by
  refine ⟨lo, hi, kind, noTab_ok, fun k hk => ⟨0, ?_, Or.inl ⟨rfl, fun i _ => noTab_at _⟩⟩⟩
  rw [hB]
  match k, hk with
  | 0, _ => rfl
  | 1, _ => rfl
  | 2, _ => rfl
  | 3, _ => rfl
/-- behind Mkdir -/
structure Lv1 (M : Vol) : Prop where
  i1 : M.ino 1 = ⟨2, 1, 1, [0, 0, 0, 1], z8⟩
  i2 : M.ino 2 = rootI
  rest : ∀ i, 3 ≤ i → M.ino i = noIno
  map : M.map = map1
  b1 : M.blk 1 = blkT lvD 3
/-- behind Open -/
structure Lv2 (M : Vol) : Prop where
  i1 : M.ino 1 = ⟨2, 1, 1, [0, 0, 0, 1], z8⟩
  i2 : M.ino 2 = ⟨2, 1, 1, [0, 0, 0, 2], z8⟩
  i3 : M.ino 3 = newF.setO 0 1
  rest : ∀ i, 4 ≤ i → M.ino i = noIno
  map : M.map = map2
  b1 : M.blk 1 = blkT lvD 3
  b2 : M.blk 2 = blkT lvT 3
def tre1 (d : Nat) : Tab := if d = 1 then lvD else noTab
def tre2 (d : Nat) : Tab := if d = 1 then lvD else if d = 2 then lvT else noTab
theorem Lv1.tree {M : Vol} (h : Lv1 M) : Tree M tre1 := by
  have hd : ∀ d, 1 ≤ d → (M.ino d).k = 2 → d = 1 ∨ d = 2 := fun d h1 hk => by
    by_cases e : 3 ≤ d
    · rw [h.rest d e] at hk
      exact absurd hk (by decide)
    · omega
  refine ⟨by rw [h.i1], fun d h1 h2 hk => ?_, fun d h1 h2 hk e he hne => ?_⟩
  · rcases hd d h1 hk with rfl | rfl
    · exact dir_last (n := 1) (by omega) (by omega) (by rw [h.i1]) lvD_ok (by rw [h.i1]; rfl) lvD_no (by omega) (by omega) h.b1
    · exact dir_none (by omega) (by omega) hk (by rw [h.i2]; rfl)
  · rcases hd d h1 hk with rfl | rfl
    · rw [lvD_ent e he hne, h.i2]
      decide
    · exact absurd (List.eq_of_mem_replicate he) hne
theorem Lv2.tree {M : Vol} (h : Lv2 M) : Tree M tre2 := by
  have hd : ∀ d, 1 ≤ d → (M.ino d).k = 2 → d = 1 ∨ d = 2 := fun d h1 hk => by
    by_cases e : 4 ≤ d
    · rw [h.rest d e] at hk
      exact absurd hk (by decide)
    · by_cases e3 : d = 3
      · rw [e3, h.i3] at hk
        exact absurd hk (by decide)
      · omega
  refine ⟨by rw [h.i1], fun d h1 h2 hk => ?_, fun d h1 h2 hk e he hne => ?_⟩
  · rcases hd d h1 hk with rfl | rfl
    · exact dir_last (n := 1) (by omega) (by omega) (by rw [h.i1]) lvD_ok (by rw [h.i1]; rfl) lvD_no (by omega) (by omega) h.b1
    · exact dir_last (n := 2) (by omega) (by omega) (by rw [h.i2]) lvT_ok (by rw [h.i2]; rfl) lvT_no (by omega) (by omega) h.b2
  · rcases hd d h1 hk with rfl | rfl
    · rw [lvD_ent e he hne, h.i2]
      show (2 : Int) ≠ 0
      decide
    · rw [lvT_ent e he hne, h.i3]
      decide
theorem lv1_of (S : List UInt8) {N : Vol} (hN : N = ((((freshV S).setIno 2 rootI).take.setBlk 1 (blkT lvD 3)).setIno 1 ⟨2, 1, 1, [0, 0, 0, 1], z8⟩)) : Lv1 N := by
  have hmp : ((freshV S).setIno 2 rootI).map = map0 := rfl
  have hf : firstB ((freshV S).setIno 2 rootI).map = 1 := by rw [hmp]; exact first0.1
  subst hN
  refine ⟨rfl, rfl, fun i hi => ?_, ?_, ?_⟩
  · show (if i = 1 then _ else if i = 2 then rootI else if i = 1 then rootI else noIno) = noIno
    rw [if_neg (by omega), if_neg (by omega), if_neg (by omega)]
  · show takeB ((freshV S).setIno 2 rootI).map (firstB ((freshV S).setIno 2 rootI).map) = _
    rw [hf]
    rfl
  · simp [Vol.setIno, Vol.setBlk]
theorem lv2_of {M N : Vol} (h : Lv1 M) (hN : N = (((M.setIno 3 (newF.setO 0 1)).take.setBlk 2 (blkT lvT 3)).setIno 2 ⟨2, 1, 1, [0, 0, 0, 2], z8⟩)) : Lv2 N := by
  have hf : firstB M.map = 2 := by rw [h.map]; exact first1.1
  subst hN
  refine ⟨h.i1, rfl, rfl, fun i hi => ?_, ?_, ?_, ?_⟩
  · show (if i = 2 then _ else if i = 3 then _ else M.ino i) = noIno
    rw [if_neg (by omega), if_neg (by omega)]
    exact h.rest i (by omega)
  · show takeB M.map (firstB M.map) = _
    rw [hf, h.map]
    rfl
  · have hb := h.b1
    simp [Vol.setIno, Vol.setBlk, Vol.take, Vol.setMap, hf, hb]
  · simp [Vol.setIno, Vol.setBlk]
theorem walk_d0 (S : List UInt8) : walkT (freshV S) (fun _ => noTab) [[100]] 1 = (0, 10) := by
  unfold walkT
  rw [if_pos (show ((freshV S).ino 1).k = 2 from rfl), hash4.2.2.2, findD.1]
theorem place_d0 (S : List UInt8) : placeP (freshV S) (fun _ => noTab) [] [100] = (1, [100], 0) := by
  unfold placeP walkT
  rfl
theorem Lv1.walk_a {M : Vol} (h : Lv1 M) : walkT M tre1 [[100], [97]] 1 = (0, 10) := by
  have e2 : (entAt (tre1 1) 14).i = 2 := findD.2.2
  unfold walkT
  rw [if_pos (by rw [h.i1]), hash4.2.2.2, show findT (tre1 1) [100] 14 = some 14 from findD.2.1]
  show walkT M tre1 [[97]] (entAt (tre1 1) 14).i = _
  rw [e2]
  unfold walkT
  rw [if_pos (by rw [h.i2]; rfl), hash4.1, show findT (tre1 2) [97] 14 = none from findA.1]
theorem Lv1.walk_d {M : Vol} (h : Lv1 M) : walkT M tre1 [[100]] 1 = (2, 0) := by
  have e2 : (entAt (tre1 1) 14).i = 2 := findD.2.2
  unfold walkT
  rw [if_pos (by rw [h.i1]), hash4.2.2.2, show findT (tre1 1) [100] 14 = some 14 from findD.2.1]
  show walkT M tre1 [] (entAt (tre1 1) 14).i = _
  rw [e2]
  rfl
theorem Lv1.place_a {M : Vol} (h : Lv1 M) : placeP M tre1 [[100]] [97] = (2, [97], 0) := by
  unfold placeP
  rw [h.walk_d]
  show (if (0 : Nat) ≠ 0 then _ else if (M.ino 2).k = 2 then _ else _) = _
  rw [if_neg (by omega), if_pos (by rw [h.i2]; rfl)]
theorem Lv2.walk_d {M : Vol} (h : Lv2 M) : walkT M tre2 [[100]] 1 = (2, 0) := by
  have e2 : (entAt (tre2 1) 14).i = 2 := findD.2.2
  unfold walkT
  rw [if_pos (by rw [h.i1]), hash4.2.2.2, show findT (tre2 1) [100] 14 = some 14 from findD.2.1]
  show walkT M tre2 [] (entAt (tre2 1) 14).i = _
  rw [e2]
  rfl
theorem Lv2.walk_a {M : Vol} (h : Lv2 M) : walkT M tre2 [[100], [97]] 1 = (3, 0) := by
  have e2 : (entAt (tre2 1) 14).i = 2 := findD.2.2
  have e3 : (entAt (tre2 2) 14).i = 3 := findA.2.2
  unfold walkT
  rw [if_pos (by rw [h.i1]), hash4.2.2.2, show findT (tre2 1) [100] 14 = some 14 from findD.2.1]
  show walkT M tre2 [[97]] (entAt (tre2 1) 14).i = _
  rw [e2]
  unfold walkT
  rw [if_pos (by rw [h.i2]), hash4.1, show findT (tre2 2) [97] 14 = some 14 from findA.2.1]
  show walkT M tre2 [] (entAt (tre2 2) 14).i = _
  rw [e3]
  rfl
theorem Lv2.place_a {M : Vol} (h : Lv2 M) : placeP M tre2 [[100]] [97] = (2, [97], 0) := by
  unfold placeP
  rw [h.walk_d]
  show (if (0 : Nat) ≠ 0 then _ else if (M.ino 2).k = 2 then _ else _) = _
  rw [if_neg (by omega), if_pos (by rw [h.i2])]
theorem pathsL : Np.pathL [47, 100] = some [[100]] ∧ Np.pathL [47, 100, 47, 97] = some [[100], [97]] := by decide +kernel
theorem mayL : mayI ⟨2, 1, 1, [0, 0, 0, 1], z8⟩ = true ∧ mayI ⟨2, 1, 1, [0, 0, 0, 2], z8⟩ = true ∧ mayI ⟨2, 1, 0, [0, 0, 0, 0], z8⟩ = true ∧ mayI ((newF.setO 0 1).setL 0) = true := by decide +kernel
end Gd
end Go.Proofs.YtginffdngphjpaaGreatDoor

/- Walks: the example of chapter 14: Mkdir, Open. -/
namespace Go.Proofs.YtginffdngphjpaaGreatDoor
open Go.RowKit Go.Shelf

section
variable {x t K : Nat} {S Z : List UInt8} {F : Nat → Prop} {w a : World} {Ls : List (Nat × Obj)}
theorem lv_mkdir (mx : Int) (h : Tl x t S (Gd.freshV Z) 0 K F w a Ls) (hmx : a.cell? ⟨0, 0, none⟩ = some (.int .i64 mx)) (hml : 0 < a.heap.size) :
    Calls Tryz.prog 43 #[.pointer (some ⟨x, 0, none⟩), .string ⟨#[47, 100]⟩, .int .i64 0] a fun e b => e = .returned (.int .i64 0) ∧ ∃ N, Gd.Lv1 N ∧ Tl x t S N 5 K F w b Ls := by
  obtain ⟨F1, h1, h2⟩ := h
  have hT := Gd.fresh_tree Z
  have hD1 := hT.dir 1 (by omega) (by omega) rfl
  have hh : Gd.hN [100] = 14 := Gd.hash4.2.2.2
  have hf1 : Gd.firstB ((Gd.freshV Z).setIno 2 Gd.rootI).map = 1 := Gd.first0.1
  have hc0 : Gd.countB ((Gd.freshV Z).setIno 2 Gd.rootI).map = 0 := Gd.first0.2
  refine (mkdir_ok (x := x) ⟨#[47, 100]⟩ ⟨#[100]⟩ 0 1 2 10 0 a (fun b => Turns x t S ((((Gd.freshV Z).setIno 2 Gd.rootI).take.setBlk 1 (Gd.blkT Gd.lvD 3)).setIno 1 ⟨2, 1, 1, [0, 0, 0, 1], Gd.z8⟩) 5 K F1 a b) (by omega) (fun W hW => ?_) (fun W hW => ?_) (fun W hW => ?_) (fun W hW => ?_)).mono ?_
  · have := mwalk_yes ⟨#[47, 100]⟩ [[100]] mx W (h1.inv.below hW) hT (by decide) ((hW.cell (p := ⟨0, 0, none⟩) hml).trans hmx) Gd.pathsL.1
    rw [Gd.walk_d0] at this
    exact this
  · have := mplace_yes ⟨#[47, 100]⟩ [] [100] mx W (h1.inv.below hW) hT (by decide) ((hW.cell (p := ⟨0, 0, none⟩) hml).trans hmx) Gd.pathsL.1
    rw [Gd.place_d0] at this
    exact this
  · exact find_no [100] W (h1.inv.below hW) hD1 (by decide) (by decide) (by rw [hh]; exact Gd.findD.1)
  · refine (make_ok (M2 := ((((Gd.freshV Z).setIno 2 Gd.rootI).take.setBlk 1 (Gd.blkT Gd.lvD 3)).setIno 1 ⟨2, 1, 1, [0, 0, 0, 1], Gd.z8⟩)) (c2 := 5) ⟨#[100]⟩ 2 Gd.rootI 0 W (h1.inv.below hW) Gd.root_shape Gd.root_may (by omega) (by omega) rfl (fun i i1 i2 => ?_) (by omega) (fun W1 F2 h3 => ?_)).mono ?_
    · obtain rfl : i = 1 := by omega
      show (2 : Int) ≠ 0
      decide
    · refine put_ok [100] 2 0 0 14 W1 (fun w' => Turns x t S ((((Gd.freshV Z).setIno 2 Gd.rootI).take.setBlk 1 (Gd.blkT Gd.lvD 3)).setIno 1 ⟨2, 1, 1, [0, 0, 0, 1], Gd.z8⟩) 5 K F2 W1 w') h3 (hD1.same rfl rfl) (by decide) (by rw [hh]; exact Gd.place0) fun W2 hW2 => ?_
      have := change_new (a := 14) (d := 1) Gd.lvD 1 0 W2 (h3.below hW2) (by omega) (by omega) (by omega) Gd.lvD_ok (Gd.usedT_set rfl (by omega) (ent_not (by omega))) rfl (by rw [hc0]; decide) (by rw [hf1]; exact Gd.mayL.1) (show (0 : Int) ≤ 0 + 1 ∧ (0 : Int) + 1 ≤ 16 by decide) (by omega)
      rw [hf1] at this
      exact this.mono fun e w' ⟨he, ht⟩ => ⟨he, ht.behind hW2⟩
    · rintro e w' ⟨he, ht⟩
      exact ⟨he, ht.behind hW⟩
  · rintro e w' ⟨he, ht⟩
    exact ⟨he, _, Gd.lv1_of Z rfl, Tl.next h1 h2 ht⟩
theorem lv_open {M : Gd.Vol} (mx : Int) (h : Tl x t S M 5 K F w a Ls) (hL : Gd.Lv1 M) (hmx : a.cell? ⟨0, 0, none⟩ = some (.int .i64 mx)) (hml : 0 < a.heap.size) :
    Calls Tryz.prog 44 #[.pointer (some ⟨x, 0, none⟩), .int .i64 1, .string ⟨#[47, 100, 47, 97]⟩, .int .i64 1, .bool false, .int .i64 0] a fun e b => e = .returned (.tuple #[.int .i64 3, .int .i64 0]) ∧ ∃ N, Gd.Lv2 N ∧ Tl x t S N 10 K F w b Ls := by
  obtain ⟨F1, h1, h2⟩ := h
  have hT := hL.tree
  have hD2 : Gd.DirOf M 2 Gd.noTab := hT.dir 2 (by omega) (by omega) (by rw [hL.i2]; rfl)
  have hh : Gd.hN [97] = 14 := Gd.hash4.1
  have hf1 : Gd.firstB (M.setIno 3 (newF.setO 0 1)).map = 2 := by
    show Gd.firstB M.map = 2
    rw [hL.map]
    exact Gd.first1.1
  have hc0 : Gd.countB (M.setIno 3 (newF.setO 0 1)).map = 1 := by
    show Gd.countB M.map = 1
    rw [hL.map]
    exact Gd.first1.2
  have hi2 : (M.setIno 3 (newF.setO 0 1)).ino 2 = Gd.rootI := by
    show (if 2 = 3 then newF.setO 0 1 else M.ino 2) = _
    rw [if_neg (by omega), hL.i2]
  refine (open_new (x := x) 1 ⟨#[47, 100, 47, 97]⟩ ⟨#[97]⟩ 0 2 3 0 a (fun b => Turns x t S (((M.setIno 3 (newF.setO 0 1)).take.setBlk 2 (Gd.blkT Gd.lvT 3)).setIno 2 ⟨2, 1, 1, [0, 0, 0, 2], Gd.z8⟩) 10 K F1 a b) (by omega) (by omega) (fun W hW => ?_) (fun W hW => ?_) (fun W hW => ?_)).mono ?_
  · have := mwalk_yes ⟨#[47, 100, 47, 97]⟩ [[100], [97]] mx W (h1.inv.below hW) hT (by decide) ((hW.cell (p := ⟨0, 0, none⟩) hml).trans hmx) Gd.pathsL.2
    rw [hL.walk_a] at this
    exact this
  · have := mplace_yes ⟨#[47, 100, 47, 97]⟩ [[100]] [97] mx W (h1.inv.below hW) hT (by decide) ((hW.cell (p := ⟨0, 0, none⟩) hml).trans hmx) Gd.pathsL.2
    rw [hL.place_a] at this
    exact this
  · refine (make_ok (M2 := (((M.setIno 3 (newF.setO 0 1)).take.setBlk 2 (Gd.blkT Gd.lvT 3)).setIno 2 ⟨2, 1, 1, [0, 0, 0, 2], Gd.z8⟩)) (c2 := 10) ⟨#[97]⟩ 3 (newF.setO 0 1) 0 W (h1.inv.below hW) (Gd.Ino.setO_shape newF_shape 0 1) (by decide) (by omega) (by omega) (by rw [hL.rest 3 (by omega)]; rfl) (fun i i1 i2 => ?_) (by omega) (fun W1 F2 h3 => ?_)).mono ?_
    · rcases (by omega : i = 1 ∨ i = 2) with rfl | rfl
      · rw [hL.i1]
        show (2 : Int) ≠ 0
        decide
      · rw [hL.i2]
        decide
    · refine put_ok [97] 3 0 0 14 W1 (fun w' => Turns x t S (((M.setIno 3 (newF.setO 0 1)).take.setBlk 2 (Gd.blkT Gd.lvT 3)).setIno 2 ⟨2, 1, 1, [0, 0, 0, 2], Gd.z8⟩) 10 K F2 W1 w') h3 (hD2.same (hi2.trans hL.i2.symm) rfl) (by decide) (by rw [hh]; exact Gd.place0) fun W2 hW2 => ?_
      have := change_new (a := 14) (d := 2) Gd.lvT 1 0 W2 (h3.below hW2) (by omega) (by omega) (by omega) Gd.lvT_ok (Gd.usedT_set rfl (by omega) (ent_not (by omega))) (by rw [hi2]; rfl) (by rw [hc0]; decide) (by rw [hf1, hi2]; exact Gd.mayL.2.1) (by rw [hi2]; decide) (by omega)
      rw [hf1, hi2] at this
      exact this.mono fun e w' ⟨he, ht⟩ => ⟨he, ht.behind hW2⟩
    · rintro e w' ⟨he, ht⟩
      exact ⟨he, ht.behind hW⟩
  · rintro e w' ⟨he, ht⟩
    exact ⟨he, _, Gd.lv2_of hL rfl, Tl.next h1 h2 ht⟩
end

end Go.Proofs.YtginffdngphjpaaGreatDoor

/- Walks: the example of chapter 14: Stat, Unlink, Close. -/
namespace Go.Proofs.YtginffdngphjpaaGreatDoor
open Go.RowKit Go.Shelf

theorem setIno_at (M : Gd.Vol) (i : Nat) (y : Gd.Ino) : (M.setIno i y).ino i = y := by simp [Gd.Vol.setIno]
section
variable {x t K : Nat} {S : List UInt8} {F : Nat → Prop} {w a : World} {Ls : List (Nat × Obj)} {M : Gd.Vol}
theorem lv_stat (mx : Int) (h : Tl x t S M 10 K F w a Ls) (hL : Gd.Lv2 M) (hmx : a.cell? ⟨0, 0, none⟩ = some (.int .i64 mx)) (hml : 0 < a.heap.size) :
    Calls Tryz.prog 45 #[.pointer (some ⟨x, 0, none⟩), .string ⟨#[47, 100]⟩] a fun e b => e = .returned (.tuple #[.agg #[.int .i64 2, .int .i64 1, .int .i64 1], .int .i64 0]) ∧ Below a.heap.size a b := by
  obtain ⟨F1, h1, h2⟩ := h
  refine stat_ok (x := x) ⟨#[47, 100]⟩ 2 ⟨2, 1, 1, [0, 0, 0, 2], Gd.z8⟩ ⟨rfl, rfl⟩ a (fun W hW => ?_) (fun W hW => ?_)
  · have := mwalk_yes ⟨#[47, 100]⟩ [[100]] mx W (h1.inv.below hW) hL.tree (by decide) ((hW.cell (p := ⟨0, 0, none⟩) hml).trans hmx) Gd.pathsL.1
    rw [hL.walk_d] at this
    exact this
  · have := inode_ok (2 : Int) W (h1.inv.below hW) (by omega) (by omega)
    rw [show ((2 : Int)).toNat = 2 from rfl, hL.i2] at this
    exact this
theorem lv_unlink (mx : Int) (h : Tl x t S M 10 K F w a Ls) (hL : Gd.Lv2 M) (hmx : a.cell? ⟨0, 0, none⟩ = some (.int .i64 mx)) (hml : 0 < a.heap.size) :
    Calls Tryz.prog 46 #[.pointer (some ⟨x, 0, none⟩), .string ⟨#[47, 100, 47, 97]⟩] a fun e b => e = .returned (.int .i64 0) ∧ ∃ N, N.ino 3 = (newF.setO 0 1).setL 0 ∧ Tl x t S N 13 K F w b Ls := by
  obtain ⟨F1, h1, h2⟩ := h
  have hT := hL.tree
  have hD2 : Gd.DirOf M 2 Gd.lvT := hT.dir 2 (by omega) (by omega) (by rw [hL.i2])
  have hh : Gd.hN [97] = 14 := Gd.hash4.1
  obtain ⟨A, hA⟩ : ∃ A, A = (M.setMap (Gd.giveI M.map 2)).setIno 2 ⟨2, 1, 0, [0, 0, 0, 0], Gd.z8⟩ := ⟨_, rfl⟩
  have hA3 : A.ino 3 = newF.setO 0 1 := by
    rw [hA]
    show (if 3 = 2 then (⟨2, 1, 0, [0, 0, 0, 0], Gd.z8⟩ : Gd.Ino) else M.ino 3) = _
    rw [if_neg (by omega), hL.i3]
  refine (unlink_ok (x := x) ⟨#[47, 100, 47, 97]⟩ 3 (newF.setO 0 1) 0 (Gd.Ino.setO_shape newF_shape 0 1) (by decide) a (fun b => Turns x t S (A.setIno 3 ((newF.setO 0 1).setL 0)) 13 K F1 a b) (fun W hW => ?_) (fun W hW => ?_) (fun W hW => ?_)).mono ?_
  · have := mwalk_yes ⟨#[47, 100, 47, 97]⟩ [[100], [97]] mx W (h1.inv.below hW) hT (by decide) ((hW.cell (p := ⟨0, 0, none⟩) hml).trans hmx) Gd.pathsL.2
    rw [hL.walk_a] at this
    exact this
  · have := inode_ok (3 : Int) W (h1.inv.below hW) (by omega) (by omega)
    rw [show ((3 : Int)).toNat = 3 from rfl, hL.i3] at this
    exact this
  · refine remove_ok (x := x) ⟨#[47, 100, 47, 97]⟩ ⟨#[97]⟩ 3 2 0 W (fun b => Turns x t S A 12 K F1 a b) _ (fun W2 hW2 => ?_) (fun W2 hW2 => ?_) (fun W2 hQ => ?_)
    · have hb := hW.trans (hW2.mono hW.size)
      have := mplace_yes ⟨#[47, 100, 47, 97]⟩ [[100]] [97] mx W2 (h1.inv.below hb) hT (by decide) ((hb.cell (p := ⟨0, 0, none⟩) hml).trans hmx) Gd.pathsL.2
      rw [hL.place_a] at this
      exact this
    · have hb := hW.trans (hW2.mono hW.size)
      refine take_ok [97] 0 14 W2 (fun b => Turns x t S A 12 K F1 a b) (h1.inv.below hb) hD2 (by decide) (by decide) (by rw [hh]; exact Gd.findA.2.1) fun W3 hW3 => ?_
      have hb3 := hb.trans (hW3.mono hb.size)
      have := change_give (a := 14) (d := 2) 2 Gd.noTab (-1) 0 W3 (h1.inv.below hb3) (by omega) (by omega) (by omega) Gd.noTab_ok Gd.lvT_back.2 (by rw [hL.i2]; rfl) (by rw [hL.i2]; exact Gd.mayL.2.2.1) (by rw [hL.i2]; decide) (by omega)
      rw [hL.i2] at this
      rw [show Gd.setT Gd.lvT (14 : Fin 16).val Gd.noEnt = Gd.noTab from Gd.lvT_back.1]
      refine this.mono ?_
      rintro e w' ⟨he, ht⟩
      rw [hA]
      exact ⟨he, ht.behind hb3⟩
    · obtain ⟨F2, s2⟩ := hQ
      refine less_ok 3 0 W2 _ s2.inv (by omega) (by omega) (by rw [hA3]; decide) fun W3 hW3 => ?_
      rw [hA3]
      have := keep_set 3 ((newF.setO 0 1).setL 0) ⟨rfl, rfl⟩ Gd.mayL.2.2.2 W3 (s2.inv.below hW3) (by omega) (by omega) (by omega) (Or.inr (by decide))
      refine this.mono ?_
      rintro e w' ⟨he, ht⟩
      obtain ⟨F3, s3⟩ := ht.behind hW3
      exact ⟨he, F3, s2.trans s3⟩
  · rintro e w' ⟨he, ht⟩
    exact ⟨he, _, setIno_at _ _ _, Tl.next h1 h2 ht⟩
theorem lv_close (h : Tl x t S M 13 K F w a Ls) (h3 : M.ino 3 = (newF.setO 0 1).setL 0) :
    Calls Tryz.prog 47 #[.pointer (some ⟨x, 0, none⟩), .int .i64 1, .int .i64 3] a fun e b => e = .returned (.int .i64 0) ∧ ∃ N, N.ino 3 = Gd.noIno ∧ Tl x t S N 15 K F w b Ls := by
  obtain ⟨F1, h1, h2⟩ := h
  obtain ⟨A, hA⟩ : ∃ A, A = (M.setMap (([0, 0, 0, 0] : List Int).foldl Gd.giveI M.map)).setIno 3 Gd.noIno := ⟨_, rfl⟩
  refine (close_ok 0 3 1 0 a (fun b => Turns x t S A 15 K F1 a b) h1.inv (by omega) (by omega) (by omega) (by rw [h3]; rfl) (by omega) (by omega) (fun W hW => ?_)).mono ?_
  · rw [h3]
    have := keep_go 3 (((newF.setO 0 1).setL 0).setO 0 (1 - 1)) ⟨rfl, rfl⟩ (by decide) W (h1.inv.below hW) (by omega) (by omega) (by omega) ⟨rfl, by decide⟩
    refine this.mono ?_
    rintro e w' ⟨he, ht⟩
    rw [hA]
    exact ⟨he, ht.behind hW⟩
  · rintro e w' ⟨he, ht⟩
    exact ⟨he, A, by rw [hA]; exact setIno_at _ _ _, Tl.next h1 h2 ht⟩
end

end Go.Proofs.YtginffdngphjpaaGreatDoor

/- Walks: commonsref06.New; commonslaw14: begin, lives. -/
namespace Go.Proofs.YtginffdngphjpaaGreatDoor
open Go.RowKit Go.Shelf

attribute [local go_sem] Oper.semAt_some

theorem Tryz.infoN : (Tryz.prog.info? 134).map (fun i => (i.zero, i.size, i.bytes)) = some (some (.agg #[.bool false, .string ByteArray.empty, .int .i64 0]), 3, 32) := by kernel_rfl
theorem cells_new3 (w : World) (x y z : Value) (t : TypeId) : ∀ j u, [x, y, z][j]? = some u → (w.alloc (.cells #[x, y, z] t)).cell? ((⟨w.heap.size, 0, none⟩ : Addr).add j) = some u := by
  intro j u hj
  match j, hj with
  | 0, hj => simp at hj; subst hj; simp [Addr.add]
  | 1, hj => simp at hj; subst hj; simp [Addr.add]
  | 2, hj => simp at hj; subst hj; simp [Addr.add]

set_option maxHeartbeats 4000000 in
set_option maxRecDepth 100000 in
theorem rnew_any6 (w : World) : Calls Tryz.prog 36 #[] w fun e w' => (∃ p, e = .returned (.pointer (some ⟨p, 0, none⟩))) ∧ Below w.heap.size w w' := by
  obtain ⟨i0, hi, hz0, hz1, hz2⟩ := info_parts Tryz.infoN
  go_enter Tryz.func36, Tryz.ntmps36
  go_wp2_with (at_builtin; go_loud (refine wpList_append_own_at _ rfl _ _ 128 rfl 0 134 i0 _ 3 32 Tryz.underlying128 hi hz0 hz1 hz2 rfl (by decide) (.slice none 0 0) 0 [] rfl (World.ownsRow_nil _ _ _ _) ⟨w.heap.size + 1, 0, none⟩ 1 1 [.bool true, .string ByteArray.empty, .int .i64 1] rfl rfl ?_ (by intro u hu; simp at hu; rcases hu with rfl | rfl | rfl <;> rfl) (by unfold maxLen; omega) (by omega) (Nat.zero_le _) ?_))
  · intro j u hu
    have := cells_new3 (w.alloc (.cells #[.slice none 0 0, .slice none 0 0, .slice none 0 0] 132)) (.bool true) (.string ByteArray.empty) (.int .i64 1) 134 j u hu
    rwa [show (w.alloc (.cells #[.slice none 0 0, .slice none 0 0, .slice none 0 0] 132)).heap.size = w.heap.size + 1 by simp] at this
  intro v' w1 hown hgrow _ hat
  have hO := grown_only (F := fun _ => False) hgrow (fun k hk => by cases hk)
  have hr0 : ((w.alloc (.cells #[.slice none 0 0, .slice none 0 0, .slice none 0 0] 132)).alloc (.cells #[.bool true, .string ⟨#[]⟩, .int .i64 1] 134)).heap[w.heap.size]? = some (.cells #[.slice none 0 0, .slice none 0 0, .slice none 0 0] 132 (0, 0)) := by
    rw [((Below.refl _ _).alloc (Nat.le_refl _) _).block w.heap.size (by simp)]
    exact heap_alloc_new _ _
  have hr1 := (hO.block w.heap.size (lt_get hr0) id).trans hr0
  have c0 : w1.cell? ⟨w.heap.size, 0, none⟩ = some (.slice none 0 0) := cell_of_row w1 w.heap.size 0 _ _ _ hr1
  obtain ⟨A', n', c', rfl⟩ : ∃ A' n' c', v' = .slice A' n' c' := by
    rcases hown.2 with ⟨rfl, h0⟩ | ⟨b, cap, cur, rfl, _⟩
    · exact ⟨_, _, _, rfl⟩
    · exact ⟨_, _, _, rfl⟩
  have f0 := frozen_of_row w1 w.heap.size 0 _ _ hr1
  have HB : Hid (Below w.heap.size w w1) := Lib.hid ((((Below.refl w.heap.size w).alloc (Nat.le_refl _) (.cells #[.slice none 0 0, .slice none 0 0, .slice none 0 0] 132)).alloc (by simp) (.cells #[.bool true, .string ⟨#[]⟩, .int .i64 1] 134)).trans (hO.below (by simp; omega) fun _ _ e => e))
  clear hown hgrow hat hO hr0 hr1
  go_wp2
  go_ret
  exact ⟨⟨_, rfl⟩, HB.out.setCell (Nat.le_refl _) _⟩

end Go.Proofs.YtginffdngphjpaaGreatDoor

/- Walks: commonslaw14: begin. -/
namespace Go.Proofs.YtginffdngphjpaaGreatDoor
open Go.RowKit Go.Shelf

attribute [local go_sem] Oper.semAt_some

theorem Tl.of_step0 {x t c K : Nat} {S : List UInt8} {M : Gd.Vol} {F4 F6 : Nat → Prop} {w a b : World} (hb : Below w.heap.size w a) (hF : ∀ k, F4 k → w.heap.size ≤ k) (h : Step (MetaV x t S M c K) F4 a F6 b) : Tl x t S M c K Nof w b [] := by
  refine ⟨F6, ⟨h.inv, fun k hk h6 => ?_, (below_only hb Nof).trans h.only fun j hj hj2 => ?_⟩, fun p hp => by cases hp⟩
  · have := hF k (h.old k (Nat.lt_of_lt_of_le hk hb.size) h6)
    omega
  · have := hF j hj2
    omega
/-- a pair at p: a metadata object over a volume that was formatted -/
def Par (p x t : Nat) (S Z : List UInt8) (w a : World) : Prop := ∃ C : Array Value, C[2]? = some (.pointer (some ⟨x, 0, none⟩)) ∧ Tl x t S (Gd.freshV Z) 0 2000000 Nof w a [(p, .cells C 39 (0, 0))]

set_option maxHeartbeats 8000000 in
set_option maxRecDepth 100000 in
theorem begin14_any (w : World) : Calls Tryz.prog 9 #[] w fun e w' => ∃ p x t S Z, e = .returned (.pointer (some ⟨p, 0, none⟩)) ∧ Par p x t S Z w w' := by
  have HP : Hid (Calls Tryz.prog 31 #[.int .i64 23168] w (NewMem w 2896 23168)) := Lib.hid (pnew_any 2896 (by omega) (by omega) (by omega) w)
  go_enter Tryz.func9, Tryz.ntmps9
  go_wp2_with fail
  refine HP.out.mono ?_
  rintro e w1 ⟨m, sb, lb, ab, rfl, hM1, hb1, hlow1, hge1⟩
  obtain ⟨S, hS⟩ : ∃ S : List UInt8, S = List.replicate 23168 0 := ⟨_, rfl⟩
  have hSl : S.length = 23168 := by rw [hS, List.length_replicate]
  have hSe : Gd.part S 2688 8 = Gd.le 0 8 := by rw [hS]; exact zeros_log
  rw [← hS] at hM1
  have HM1 := Lib.hid hM1
  have HS := Lib.hid (And.intro hSl hSe)
  have HB1 := Lib.hid hb1
  have HGe := Lib.hid hge1
  clear HP hM1 hb1 hlow1 hge1 hS hSl hSe
  go_wp2_with fail
  refine (lnew_any w1 HM1.out HS.out.1).mono ?_
  rintro e w2 ⟨rfl, hw2⟩
  have hb2 : Below w1.heap.size w1 w2 := by rw [hw2]; exact (Below.refl _ _).alloc (Nat.le_refl _) _
  have HL2 : Hid (LogAt w2 w1.heap.size m 2688 4096) := Lib.hid (by rw [hw2]; exact heap_alloc_new _ _)
  have HM2 := Lib.hid (HM1.out.below hb2)
  have HB2 := Lib.hid (HB1.out.trans (hb2.mono HB1.out.size))
  obtain ⟨g, hg⟩ : ∃ g, g = w1.heap.size := ⟨_, rfl⟩
  have Hg : Hid (w.heap.size ≤ g) := Lib.hid (by rw [hg]; exact HB1.out.size)
  rw [← hg] at HL2 ⊢
  clear hw2 hb2 hg
  go_wp2_with fail
  refine (tnew_any m g w2).mono ?_
  rintro e w3 ⟨rfl, hw3⟩
  have hb3 : Below w2.heap.size w2 w3 := by rw [hw3]; exact (Below.refl _ _).alloc (Nat.le_refl _) _
  have hT3 : w3.heap[w2.heap.size]? = some (.cells #[.pointer (some ⟨m, 0, none⟩), .pointer (some ⟨g, 0, none⟩), .slice none 0 0] 108 (0, 0)) := by rw [hw3]; exact heap_alloc_new _ _
  obtain ⟨t, ht⟩ : ∃ t, t = w2.heap.size := ⟨_, rfl⟩
  have Ht : Hid (w.heap.size ≤ t) := Lib.hid (by rw [ht]; exact HB2.out.size)
  rw [← ht] at hT3 ⊢
  have HT3 := Lib.hid (txn_start (w := w) (HM2.out.below hb3) HGe.out Hg.out ((hb3.block g (lt_get HL2.out)).trans HL2.out) Ht.out hT3)
  have HB3 := Lib.hid (HB2.out.trans (hb3.mono HB2.out.size))
  clear hw3 hb3 hT3 ht HM1 HM2 HL2
  go_wp2_with fail
  refine (xnew_any w3 HT3.out HS.out.1).mono ?_
  rintro e w4 ⟨x, rfl, hx, hx4, hb4⟩
  have HT4 : Hid (TxnF t S [] 0 w4 fun k => w.heap.size ≤ k ∧ k < x) := Lib.hid ((TxnF.held t S [] 0).below ((TxnF.held t S [] 0).mono HT3.out fun k hk e => ⟨e, Nat.lt_of_lt_of_le hk hx⟩) hb4)
  have HM4 := Lib.hid (meta_start HT4.out (Nat.le_trans HB3.out.size hx) hx4 HS.out.1 HS.out.2)
  have HB4 := Lib.hid (HB3.out.trans (hb4.mono HB3.out.size))
  clear hx hx4 hb4 HT3 HT4
  have HFm : Hid (Calls Tryz.prog 35 #[.pointer (some ⟨x, 0, none⟩)] w4 fun e b => e = .returned (.int .i64 0) ∧ Tl x t S (Gd.freshV S) 50 0 Nof w b []) := Lib.hid ((format_any w4 HM4.out (by omega)).mono (by
    rintro e b ⟨rfl, F6, hs⟩
    exact ⟨rfl, Tl.of_step0 HB4.out (fun k hk => hk.1) (hs.mono fun hi => ⟨_, hi, Gd.fresh_good HS.out.1⟩)⟩))
  clear HM4
  go_wp2_with fail
  refine HFm.out.mono ?_
  rintro e w6 ⟨rfl, hT6⟩
  have HCm := Lib.hid (hT6.commit (by omega) (by omega))
  clear hT6 HFm
  go_wp2_with fail
  refine HCm.out.mono ?_
  rintro e w7 ⟨rfl, S7, hT7⟩
  have HT7 := Lib.hid hT7
  clear hT7 HCm
  go_wp2_with fail
  refine (rnew_any6 w7).mono ?_
  rintro e w8 ⟨⟨r, rfl⟩, hb8⟩
  have HT8 := Lib.hid (HT7.out.below hb8)
  clear hb8
  go_wp2
  go_ret
  exact ⟨_, x, t, S7, S, rfl, _, rfl, HT8.out.new ((Below.refl _ _).alloc (Nat.le_refl _) _) (Nat.le_refl _) (heap_alloc_new _ _)⟩

end Go.Proofs.YtginffdngphjpaaGreatDoor

/- Walks: commonslaw14: lives. -/
namespace Go.Proofs.YtginffdngphjpaaGreatDoor
open Go.RowKit Go.Shelf

attribute [local go_sem] Oper.semAt_some

def oInf : Obj := .cells #[.int .i64 2, .int .i64 1, .int .i64 1] 93 (0, 0)
def oIno (y : Gd.Ino) : Obj := .cells (inoC y) 25 (0, 0)

set_option maxHeartbeats 8000000 in
set_option maxRecDepth 100000 in
theorem lives14_any (w : World) (hM : Mx w) : Calls Tryz.prog 15 #[] w fun e w' => e = .returned (.bool true) ∧ Below w.heap.size w w' := by
  obtain ⟨mx, hmx⟩ := hM
  have HMx := Lib.hid (And.intro hmx (mx_lt hmx))
  have HBg := Lib.hid (begin14_any w)
  obtain ⟨y, hy⟩ : ∃ y, y = (newF.setO 0 1).setL 0 := ⟨_, rfl⟩
  have HS := Lib.hid (inoC_size (x := y) (by rw [hy]; exact ⟨rfl, rfl⟩))
  have HSh : Hid (y.Shape) := Lib.hid (by rw [hy]; exact ⟨rfl, rfl⟩)
  have HK : Hid (y.k = 1) := Lib.hid (by rw [hy]; rfl)
  have Hy := Lib.hid hy
  obtain ⟨z, hz⟩ : ∃ z, z = Gd.noIno := ⟨_, rfl⟩
  have HSz := Lib.hid (inoC_size (x := z) (by rw [hz]; exact ⟨rfl, rfl⟩))
  have HShz : Hid (z.Shape) := Lib.hid (by rw [hz]; exact ⟨rfl, rfl⟩)
  have HKz : Hid (z.k = 0) := Lib.hid (by rw [hz]; rfl)
  have Hz := Lib.hid hz
  clear hmx hy hz
  go_enter Tryz.func15, Tryz.ntmps15
  go_wp2_with fail
  refine HBg.out.mono ?_
  rintro e w1 ⟨p, x, t, S, Z, rfl, C, hC, hT1⟩
  have HT1 := Lib.hid hT1
  have HCx : Hid (∀ {W : World}, W.heap[p]? = some (.cells C 39 (0, 0)) → W.cell? ⟨p, 2, none⟩ = some (.pointer (some ⟨x, 0, none⟩))) := Lib.hid fun h => (cell_of_row _ p 2 _ _ _ h).trans hC
  have HMw : Hid (∀ {a : World} {c K : Nat} {N : Gd.Vol} {Ls : List (Nat × Obj)}, Tl x t S N c K Nof w a Ls → a.cell? ⟨0, 0, none⟩ = some (.int .i64 mx) ∧ 0 < a.heap.size) := Lib.hid fun h => ⟨(h.belowW.cell (p := ⟨0, 0, none⟩) HMx.out.2).trans HMx.out.1, Nat.lt_of_lt_of_le HMx.out.2 h.size⟩
  have HMk := Lib.hid (lv_mkdir mx hT1 (HMw.out hT1).1 (HMw.out hT1).2)
  have c2 := HCx.out (hT1.get (k := p) (o := .cells C 39 (0, 0)) (by simp))
  clear hT1 hC HBg
  go_wp2_with fail
  refine HMk.out.mono ?_
  rintro e w2 ⟨rfl, N1, hL1, hT2⟩
  have HL1 := Lib.hid hL1
  have HT2 := Lib.hid hT2
  have HOp := Lib.hid (lv_open mx hT2 hL1 (HMw.out hT2).1 (HMw.out hT2).2)
  have c3 := HCx.out (hT2.get (k := p) (o := .cells C 39 (0, 0)) (by simp))
  clear hT2 hL1 HMk c2 HT1
  go_wp2_with fail
  refine HOp.out.mono ?_
  rintro e w3 ⟨rfl, N2, hL2, hT3⟩
  have HL2 := Lib.hid hL2
  have HT3 := Lib.hid hT3
  have HSt := Lib.hid (lv_stat mx hT3 hL2 (HMw.out hT3).1 (HMw.out hT3).2)
  have c2 := HCx.out (hT3.get (k := p) (o := .cells C 39 (0, 0)) (by simp))
  clear hT3 hL2 HOp c3 HT2 HL1
  go_wp2_with fail
  refine HSt.out.mono ?_
  rintro e w4 ⟨rfl, hb4⟩
  have HT4 := Lib.hid (HT3.out.below hb4)
  clear hb4 HSt c2 HT3
  obtain ⟨w5, hw5⟩ : ∃ u, u = w4.alloc oInf := ⟨_, rfl⟩
  obtain ⟨sb, hsb⟩ : ∃ sb, sb = w4.heap.size := ⟨_, rfl⟩
  have hT5 : Tl x t S N2 10 2000000 Nof w w5 [(sb, oInf), (p, .cells C 39 (0, 0))] := by
    rw [hw5, hsb]
    exact HT4.out.new ((Below.refl _ _).alloc (Nat.le_refl _) _) (Nat.le_refl _) (heap_alloc_new _ _)
  have HT5 := Lib.hid hT5
  have HUn := Lib.hid (lv_unlink mx hT5 HL2.out (HMw.out hT5).1 (HMw.out hT5).2)
  have c3 := HCx.out (hT5.get (k := p) (o := .cells C 39 (0, 0)) (by simp))
  have HW5 := Lib.hid hw5.symm
  have Hsb := Lib.hid hsb.symm
  unfold oInf at HW5
  clear hT5 hw5 hsb
  go_upto_region 7 with fail
  rw [HW5.out, Hsb.out]
  go_wp2_with fail
  refine HUn.out.mono ?_
  rintro e w6 ⟨rfl, N3, hN3, hT6⟩
  have HT6 := Lib.hid hT6
  have HN3 := Lib.hid hN3
  have HI6 := Lib.hid (hT6.fino 3 (by omega) (by omega))
  rw [show ((3 : Int)).toNat = 3 from rfl, hN3, ← Hy.out] at HI6
  unfold inoV at HI6
  have c2 := HCx.out (hT6.get (k := p) (o := .cells C 39 (0, 0)) (by simp))
  clear hT6 hN3 HUn c3 HT4 HT5 HL2
  go_upto_region 9 with (first | (go_at_call 11; refine HI6.out.mono ?_; rintro e w7 ⟨rfl, hb7⟩; have HT7 := Lib.hid (HT6.out.below hb7); clear hb7) | (rw [← zIno_lit]; refine wpList_store_mid rfl 25 _ _ rfl w7.heap.size 0 (inoC y) rfl rfl (there_at (heap_alloc_new _ _) (by rw [zIno_size, HS.out])) (by rw [HS.out]; exact Tryz.sizeIno) (inoC_one _) ?_; obtain ⟨hbw, hbg⟩ := new_whole2 w7 zIno 25 (inoC y).toList (by rw [zIno_size, Array.length_toList, HS.out]); generalize (World.setCells _ _ _ _) = w8 at hbw hbg ⊢; have HT8 := Lib.hid (HT7.out.new hbw (Nat.le_refl _) (o := oIno y) hbg); clear hbw hbg))
  obtain ⟨ib, hib⟩ : ∃ ib, ib = w7.heap.size := ⟨_, rfl⟩
  rw [← hib] at HT8 ⊢
  have HCl := Lib.hid (lv_close HT8.out HN3.out)
  have c3 := HCx.out (HT8.out.get (k := p) (o := .cells C 39 (0, 0)) (by simp))
  clear hib c2 HI6 HT7 HT6
  go_wp2_with fail
  refine HCl.out.mono ?_
  rintro e w9 ⟨rfl, N4, hN4, hT9⟩
  have HT9 := Lib.hid hT9
  have HI9 := Lib.hid (hT9.fino 3 (by omega) (by omega))
  rw [show ((3 : Int)).toNat = 3 from rfl, hN4, ← Hz.out] at HI9
  unfold inoV at HI9
  have c2 := HCx.out (hT9.get (k := p) (o := .cells C 39 (0, 0)) (by simp))
  clear hT9 hN4 HCl c3 HT8 HN3
  go_upto_region 11 with (first | (go_at_call 11; refine HI9.out.mono ?_; rintro e w10 ⟨rfl, hb10⟩; have HT10 := Lib.hid (HT9.out.below hb10); clear hb10) | (rw [← zIno_lit]; refine wpList_store_mid rfl 25 _ _ rfl w10.heap.size 0 (inoC z) rfl rfl (there_at (heap_alloc_new _ _) (by rw [zIno_size, HSz.out])) (by rw [HSz.out]; exact Tryz.sizeIno) (inoC_one _) ?_; obtain ⟨hbw, hbg⟩ := new_whole2 w10 zIno 25 (inoC z).toList (by rw [zIno_size, Array.length_toList, HSz.out]); generalize (World.setCells _ _ _ _) = w11 at hbw hbg ⊢; have HT11 := Lib.hid (HT10.out.new hbw (Nat.le_refl _) (o := oIno z) hbg); clear hbw hbg))
  obtain ⟨iz, hiz⟩ : ∃ iz, iz = w10.heap.size := ⟨_, rfl⟩
  rw [← hiz] at HT11 ⊢
  have hsr := HT11.out.get (k := sb) (o := oInf) (by simp)
  have s0 : w11.cell? ⟨sb, 0, none⟩ = some (.int .i64 2) := cell_of_row w11 sb 0 _ _ _ hsr
  have s1 : w11.cell? ⟨sb, 1, none⟩ = some (.int .i64 1) := cell_of_row w11 sb 1 _ _ _ hsr
  have s2 : w11.cell? ⟨sb, 2, none⟩ = some (.int .i64 1) := cell_of_row w11 sb 2 _ _ _ hsr
  have hiy : InoAt w11 ib y := ⟨HT11.out.get (k := ib) (by simp [oIno]), HSh.out⟩
  have i0 := hiy.c0
  rw [HK.out] at i0
  have hiz0 : InoAt w11 iz z := ⟨HT11.out.get (k := iz) (by simp [oIno]), HShz.out⟩
  have z0 := hiz0.c0
  rw [HKz.out] at z0
  have HB11 := Lib.hid HT11.out.belowW
  clear hiz hsr hiy hiz0 c2 HI9 HT10 HT9 HT11
  go_wp2_with fail
  go_ret
  exact ⟨rfl, HB11.out⟩

end Go.Proofs.YtginffdngphjpaaGreatDoor
