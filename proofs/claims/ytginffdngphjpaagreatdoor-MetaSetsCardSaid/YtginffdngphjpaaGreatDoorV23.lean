/- Walks: a file is opened that is not there: in a volume that began. -/
import Derived.Test.YtginffdngphjpaaGreatDoorV22
set_option linter.unusedVariables false
set_option linter.unusedSimpArgs false
namespace Go.Proofs.YtginffdngphjpaaGreatDoor
open Go.RowKit Go.Shelf

theorem Gd.DirOf.same {M N : Gd.Vol} {d : Nat} {T : Gd.Tab} (h : Gd.DirOf M d T) (hi : N.ino d = M.ino d) (hb : N.blk = M.blk) : Gd.DirOf N d T :=
  ⟨h.lo, h.hi, by rw [hi]; exact h.kind, h.ok, fun k hk => by rw [hi, hb]; exact h.blk k hk⟩

theorem bopen {x t cc dd K c : Nat} {S : List UInt8} {M N : Gd.Vol} {T : Gd.Tab} {B : List Int} {m : List UInt8} {F : Nat → Prop} (nm : List UInt8) (j : Fin 16) (mx : Int) (w : World) (h : MetaV x t S M cc K w F) (hBg : Gd.Began M T c B m) (hc : c + 2 ≤ 32) (hcc : cc < 64)
    (hmx : w.cell? ⟨0, 0, none⟩ = some (.int .i64 mx)) (hml : 0 < w.heap.size)
    (hn : Np.nameB nm = true) (hp : Np.pathL (47 :: nm) = some [nm]) (hf : Gd.findT T nm (Gd.hN nm) = none) (hj : Gd.placeT T (Gd.hN nm) = some j)
    (hC : ∀ W F1, MetaV x t S (M.setIno (c + 2) (newF.setO 0 1)) (cc + 1) K W F1 → Calls Tryz.prog 144 #[.pointer (some ⟨x, 0, none⟩), .int .i64 1, .int .i64 (j.val : Nat), tabV (Gd.setT T j.val ⟨nm, c + 2⟩), .int .i64 1, .int .i64 0] W fun e w' => e = .returned (.int .i64 0) ∧ Turns x t S N dd K F1 W w') :
    Calls Tryz.prog 44 #[.pointer (some ⟨x, 0, none⟩), .int .i64 1, .string ⟨(47 :: nm).toArray⟩, .int .i64 1, .bool false, .int .i64 0] w fun e w' => e = .returned (.tuple #[.int .i64 ((c + 2 : Nat) : Int), .int .i64 0]) ∧ Turns x t S N dd K F w w' := by
  have hln : nm.length ≤ 12 := nameB_len hn
  have hk2 : (M.ino 1).k = 2 := hBg.tree.root
  have hsz : (⟨(47 :: nm).toArray⟩ : ByteArray).size ≤ 100000 := by rw [Lib.size_eq]; show nm.length + 1 ≤ _; omega
  have hD : Gd.DirOf (M.setIno (c + 2) (newF.setO 0 1)) 1 T := (hBg.tree.dir 1 (by omega) (by omega) hk2).same (by
    show (if 1 = c + 2 then newF.setO 0 1 else M.ino 1) = M.ino 1
    exact if_neg (by omega)) rfl
  have hwk : Gd.walkT M (fun _ => T) [nm] 1 = (0, 10) := by
    unfold Gd.walkT
    rw [if_pos hk2, hf]
  have hpl : Gd.placeP M (fun _ => T) [] nm = (1, nm, 0) := by
    unfold Gd.placeP
    show (if (0 : Nat) ≠ 0 then ((0 : Nat), ([] : List UInt8), (0 : Nat)) else if (M.ino 1).k = 2 then (1, nm, 0) else (0, [], 12)) = (1, nm, 0)
    rw [if_neg (by omega), if_pos hk2]
  refine open_new (x := x) 1 ⟨(47 :: nm).toArray⟩ ⟨nm.toArray⟩ 0 1 (c + 2) 0 w (fun w' => Turns x t S N dd K F w w') (by omega) (by omega) (fun W hW => ?_) (fun W hW => ?_) (fun W hW => ?_)
  · have := mwalk_yes ⟨(47 :: nm).toArray⟩ [nm] mx W (h.below hW) hBg.tree hsz ((hW.cell (p := ⟨0, 0, none⟩) hml).trans hmx) hp
    rw [hwk] at this
    exact this
  · have := mplace_yes ⟨(47 :: nm).toArray⟩ [] nm mx W (h.below hW) hBg.tree hsz ((hW.cell (p := ⟨0, 0, none⟩) hml).trans hmx) hp
    rw [hpl] at this
    exact this
  · refine (make_ok (M2 := N) (c2 := dd) ⟨nm.toArray⟩ (c + 2) (newF.setO 0 1) 0 W (h.below hW) (Gd.Ino.setO_shape newF_shape 0 1) (by decide) (by omega) hc (by rw [hBg.rest (c + 2) (Nat.le_refl _)]; rfl) (fun i i1 i2 => ?_) hcc (fun W1 F1 h1 => ?_)).mono ?_
    · by_cases e : i = 1
      · rw [e, hk2]
        decide
      · rw [hBg.files i (by omega) (by omega)]
        decide
    · exact put_ok nm (c + 2) 0 0 j W1 (fun w' => Turns x t S N dd K F1 W1 w') h1 hD (by omega) hj fun W2 hW2 => (hC W2 F1 (h1.below hW2)).mono fun e w' ⟨he, ht⟩ => ⟨he, ht.behind hW2⟩
    · rintro e w' ⟨he, ht⟩
      exact ⟨he, ht.behind hW⟩

end Go.Proofs.YtginffdngphjpaaGreatDoor

/- Walks: a file is opened that is not there: with a new block, and over one. -/
namespace Go.Proofs.YtginffdngphjpaaGreatDoor
open Go.RowKit Go.Shelf

theorem ent_may {nm : List UInt8} {i : Nat} (hn : Np.nameB nm = true) (h1 : 1 ≤ i) (h2 : i ≤ 32) : (⟨nm, i⟩ : Gd.Ent).May := Or.inr ⟨hn, h1, h2⟩
theorem ent_not {nm : List UInt8} {i : Nat} (h1 : 1 ≤ i) : (⟨nm, i⟩ : Gd.Ent) ≠ Gd.noEnt := fun e => by
  have : i = 0 := congrArg Gd.Ent.i e
  omega

theorem bopen_new {x t cc K c : Nat} {S : List UInt8} {M : Gd.Vol} {T : Gd.Tab} {B : List Int} {m : List UInt8} {F : Nat → Prop} (nm : List UInt8) (j : Fin 16) (mx : Int) (w : World) (h : MetaV x t S M cc K w F) (hBg : Gd.Began M T c B m) (hc : c + 1 ≤ 16) (hcc : cc + 12 < 64)
    (hmx : w.cell? ⟨0, 0, none⟩ = some (.int .i64 mx)) (hml : 0 < w.heap.size)
    (hn : Np.nameB nm = true) (hp : Np.pathL (47 :: nm) = some [nm]) (hf : Gd.findT T nm (Gd.hN nm) = none) (hj : Gd.placeT T (Gd.hN nm) = some j)
    (hB : B[j.val / 4]? = some 0) (hfs : Gd.countB m < 128) (hmay : Gd.mayI (Gd.rootN c (B.set (j.val / 4) (Gd.firstB m : Int))) = true) :
    ∃ N, Gd.Began N (Gd.setT T j.val ⟨nm, c + 2⟩) (c + 1) (B.set (j.val / 4) (Gd.firstB m : Int)) (Gd.takeB m (Gd.firstB m)) ∧ Calls Tryz.prog 44 #[.pointer (some ⟨x, 0, none⟩), .int .i64 1, .string ⟨(47 :: nm).toArray⟩, .int .i64 1, .bool false, .int .i64 0] w fun e w' => e = .returned (.tuple #[.int .i64 ((c + 2 : Nat) : Int), .int .i64 0]) ∧ Turns x t S N (cc + 5) K F w w' := by
  have hOk := (hBg.tree.dir 1 (by omega) (by omega) hBg.tree.root).ok
  have hr : ((M.setIno (c + 2) (newF.setO 0 1)).ino 1) = ⟨2, 1, c, B, [0, 0, 0, 0, 0, 0, 0, 0]⟩ := by
    show (if 1 = c + 2 then newF.setO 0 1 else M.ino 1) = _
    rw [if_neg (by omega)]
    exact hBg.root
  have hm : (M.setIno (c + 2) (newF.setO 0 1)).map = m := hBg.map
  have hy : ((((M.setIno (c + 2) (newF.setO 0 1)).ino 1).setB (j.val / 4) (Gd.firstB (M.setIno (c + 2) (newF.setO 0 1)).map)).setS (((M.setIno (c + 2) (newF.setO 0 1)).ino 1).s + 1)) = Gd.rootN c (B.set (j.val / 4) (Gd.firstB m : Int)) := by
    rw [hr, hm]
    rfl
  refine ⟨_, Gd.began_new hBg (by omega) j.isLt (ent_may hn (by omega) (by omega)) (ent_not (by omega)) rfl hB hfs, ?_⟩
  refine bopen (dd := cc + 5) nm j mx w h hBg (by omega) (by omega) hmx hml hn hp hf hj fun W F1 h1 => ?_
  have := change_new (a := j.val) (d := 1) (Gd.setT T j.val ⟨nm, c + 2⟩) 1 0 W h1 (by omega) (by omega) j.isLt (hOk.set (ent_may hn (by omega) (by omega))) (Gd.usedT_set hOk.len j.isLt (ent_not (by omega))) (by rw [hr]; exact hB) (by rw [hm]; omega) (by rw [hy]; exact hmay) (by rw [hr]; show 0 ≤ (c : Int) + 1 ∧ (c : Int) + 1 ≤ 16; omega) (by omega)
  rw [hy, hm] at this
  exact this

theorem bopen_over {x t cc K c : Nat} {S : List UInt8} {M : Gd.Vol} {T : Gd.Tab} {B : List Int} {m : List UInt8} {F : Nat → Prop} (nm : List UInt8) (j : Fin 16) (n : Nat) (mx : Int) (w : World) (h : MetaV x t S M cc K w F) (hBg : Gd.Began M T c B m) (hc : c + 1 ≤ 16) (hcc : cc + 12 < 64)
    (hmx : w.cell? ⟨0, 0, none⟩ = some (.int .i64 mx)) (hml : 0 < w.heap.size)
    (hn : Np.nameB nm = true) (hp : Np.pathL (47 :: nm) = some [nm]) (hf : Gd.findT T nm (Gd.hN nm) = none) (hj : Gd.placeT T (Gd.hN nm) = some j)
    (hB : B[j.val / 4]? = some (n : Int)) (n1 : 1 ≤ n) (n2 : n ≤ 128) (hmay : Gd.mayI (Gd.rootN c B) = true) :
    ∃ N, Gd.Began N (Gd.setT T j.val ⟨nm, c + 2⟩) (c + 1) B m ∧ Calls Tryz.prog 44 #[.pointer (some ⟨x, 0, none⟩), .int .i64 1, .string ⟨(47 :: nm).toArray⟩, .int .i64 1, .bool false, .int .i64 0] w fun e w' => e = .returned (.tuple #[.int .i64 ((c + 2 : Nat) : Int), .int .i64 0]) ∧ Turns x t S N (cc + 3) K F w w' := by
  have hOk := (hBg.tree.dir 1 (by omega) (by omega) hBg.tree.root).ok
  have hr : ((M.setIno (c + 2) (newF.setO 0 1)).ino 1) = ⟨2, 1, c, B, [0, 0, 0, 0, 0, 0, 0, 0]⟩ := by
    show (if 1 = c + 2 then newF.setO 0 1 else M.ino 1) = _
    rw [if_neg (by omega)]
    exact hBg.root
  have hy : (((M.setIno (c + 2) (newF.setO 0 1)).ino 1).setS (((M.setIno (c + 2) (newF.setO 0 1)).ino 1).s + 1)) = Gd.rootN c B := by
    rw [hr]
    rfl
  refine ⟨_, Gd.began_over hBg (by omega) j.isLt (ent_may hn (by omega) (by omega)) (ent_not (by omega)) rfl hB n1 n2, ?_⟩
  refine bopen (dd := cc + 3) nm j mx w h hBg (by omega) (by omega) hmx hml hn hp hf hj fun W F1 h1 => ?_
  have := change_over (a := j.val) (d := 1) n (Gd.setT T j.val ⟨nm, c + 2⟩) 1 0 W h1 (by omega) (by omega) j.isLt (hOk.set (ent_may hn (by omega) (by omega))) (Gd.usedT_set hOk.len j.isLt (ent_not (by omega))) (by rw [hr]; exact hB) n1 n2 (by rw [hy]; exact hmay) (by rw [hr]; show 0 ≤ (c : Int) + 1 ∧ (c : Int) + 1 ≤ 16; omega) (by omega)
  rw [hy] at this
  exact this

namespace Gd
/-- the four tables, and the root's blocks -/
def tabA : Tab := setT noTab 14 ⟨[97], 2⟩
def tabB : Tab := setT tabA 15 ⟨[98], 3⟩
def tabC4 : Tab := setT tabB 0 ⟨[99], 4⟩
def tabD : Tab := setT tabC4 1 ⟨[100], 5⟩
theorem hash4 : hN [97] = 14 ∧ hN [98] = 14 ∧ hN [99] = 14 ∧ hN [100] = 14 := by decide +kernel
theorem placeA : findT noTab [97] 14 = none ∧ placeT noTab 14 = some 14 := by decide +kernel
theorem placeB : findT tabA [98] 14 = none ∧ placeT tabA 14 = some 15 := by decide +kernel
theorem placeC : findT tabB [99] 14 = none ∧ placeT tabB 14 = some 0 := by decide +kernel
theorem placeD : findT tabC4 [100] 14 = none ∧ placeT tabC4 14 = some 1 := by decide +kernel
def map0 : List UInt8 := List.replicate 16 0
def map1 : List UInt8 := takeB map0 1
def map2 : List UInt8 := takeB map1 2
theorem first0 : firstB map0 = 1 ∧ countB map0 = 0 := by decide +kernel
theorem first1 : firstB map1 = 2 ∧ countB map1 = 1 := by decide +kernel
theorem count2 : countB map2 = 2 := by decide +kernel
theorem may4 : mayI (rootN 0 [0, 0, 0, 1]) = true ∧ mayI (rootN 1 [0, 0, 0, 1]) = true ∧ mayI (rootN 2 [2, 0, 0, 1]) = true ∧ mayI (rootN 3 [2, 0, 0, 1]) = true := by decide +kernel
theorem names4 : Np.nameB [97] = true ∧ Np.nameB [98] = true ∧ Np.nameB [99] = true ∧ Np.nameB [100] = true := by decide +kernel
theorem paths4 : Np.pathL [47, 97] = some [[97]] ∧ Np.pathL [47, 98] = some [[98]] ∧ Np.pathL [47, 99] = some [[99]] ∧ Np.pathL [47, 100] = some [[100]] := by decide +kernel
end Gd

end Go.Proofs.YtginffdngphjpaaGreatDoor

/- Files on a volume, in plain words: what their blocks hold, and what telling one anew comes to. -/
namespace Go.Proofs.YtginffdngphjpaaGreatDoor
namespace Gd
/-- how many blocks there are -/
def nz (B : List Int) : Nat := (B.map fun n => if n = 0 then 0 else 1).sum
theorem nz_set {B : List Int} {k : Nat} {b n : Int} (h : B[k]? = some b) : nz (B.set k n) + (if b = 0 then 0 else 1) = nz B + if n = 0 then 0 else 1 := by
  unfold nz
  rw [List.map_set]
  exact sum_set (by rw [List.getElem?_map, h]; rfl)
theorem nz_of {B : List Int} (hl : B.length = 4) {k : Nat} (hk : k ≤ 4) (h1 : ∀ j, j < k → ∃ n : Nat, B[j]? = some (n : Int) ∧ 1 ≤ n) (h0 : ∀ j, k ≤ j → j < 4 → B[j]? = some 0) : nz B = k := by
  have hv : ∀ j b, B[j]? = some b → j < 4 → (if b = 0 then 0 else 1) = if j < k then 1 else 0 := fun j b e hj => by
    by_cases hjk : j < k
    · obtain ⟨n, e1, n1⟩ := h1 j hjk
      rw [e1] at e
      have := Option.some.inj e
      rw [if_pos hjk, if_neg (by omega)]
    · have e1 := h0 j (by omega) hj
      rw [e1] at e
      rw [if_neg hjk, if_pos (Option.some.inj e).symm]
  match B, hl with
  | [a, b, c, d], _ =>
    have ha := hv 0 a rfl (by omega)
    have hb := hv 1 b rfl (by omega)
    have hc := hv 2 c rfl (by omega)
    have hd := hv 3 d rfl (by omega)
    unfold nz
    simp only [List.map_cons, List.map_nil, List.sum_cons, List.sum_nil]
    rw [ha, hb, hc, hd]
    rcases (by omega : k = 0 ∨ k = 1 ∨ k = 2 ∨ k = 3 ∨ k = 4) with rfl | rfl | rfl | rfl | rfl <;> rfl
def needN (l : Nat) : Nat := (l + 63) / 64
def allL (s : List UInt8) : List UInt8 := Fp.sizedL s (needN s.length * 64)
/-- blocks that hold some bytes -/
structure Has (M : Vol) (B : List Int) (s : List UInt8) : Prop where
  len : B.length = 4
  few : s.length ≤ 256
  blk : ∀ k, k < needN s.length → ∃ n : Nat, B[k]? = some (n : Int) ∧ 1 ≤ n ∧ n ≤ 128 ∧ M.blk n = part64 (allL s) k
  non : ∀ k, needN s.length ≤ k → k < 4 → B[k]? = some 0
theorem Has.need {M : Vol} {B : List Int} {s : List UInt8} (h : Has M B s) : needN s.length ≤ 4 := by
  have := h.few
  unfold needN
  omega
theorem Has.nz {M : Vol} {B : List Int} {s : List UInt8} (h : Has M B s) : nz B = needN s.length :=
  nz_of h.len h.need (fun j hj => by
    obtain ⟨n, e, n1, _⟩ := h.blk j hj
    exact ⟨n, e, n1⟩) h.non
theorem Has.at {M : Vol} {B : List Int} {s : List UInt8} (h : Has M B s) {k : Nat} {b : Int} (hb : B[k]? = some b) : ∃ n : Nat, b = n ∧ n ≤ 128 ∧ (n = 0 ↔ needN s.length ≤ k) := by
  have hk : k < 4 := by
    have := (List.getElem?_eq_some_iff.1 hb).1
    rw [h.len] at this
    exact this
  by_cases hj : k < needN s.length
  · obtain ⟨n, e, n1, n2, _⟩ := h.blk k hj
    rw [e] at hb
    exact ⟨n, (Option.some.inj hb).symm, n2, by omega⟩
  · have e := h.non k (by omega) hk
    rw [e] at hb
    exact ⟨0, (Option.some.inj hb).symm, by omega, by omega⟩
theorem Has.rng {M : Vol} {B : List Int} {s : List UInt8} (h : Has M B s) : ∀ n ∈ B, 0 ≤ n ∧ n ≤ 128 := fun b hb => by
  obtain ⟨k, hk⟩ := List.getElem?_of_mem hb
  obtain ⟨n, rfl, n2, _⟩ := h.at hk
  omega
theorem allL_length (s : List UInt8) : (allL s).length = needN s.length * 64 := Fp.sizedL_length _ _
theorem allL_take (s : List UInt8) : (allL s).take s.length = s := by
  unfold allL Fp.sizedL
  split
  · rename_i h
    have : needN s.length * 64 = s.length := by
      unfold needN at h ⊢
      omega
    rw [this, List.take_length, List.take_length]
  · rw [List.take_left' rfl]
theorem Has.cat_take {M : Vol} {B : List Int} {s : List UInt8} (h : Has M B s) : ∀ k, k ≤ 4 → catB M (B.take k) = (allL s).take (64 * k)
  | 0, _ => by simp [catB]
  | k + 1, hk => by
    have hl := h.len
    obtain ⟨b, hb⟩ : ∃ b, B[k]? = some b := ⟨_, List.getElem?_eq_getElem (by omega)⟩
    rw [catB_step M hb, h.cat_take k (by omega)]
    by_cases hj : k < needN s.length
    · obtain ⟨n, e, n1, n2, hm⟩ := h.blk k hj
      rw [hb] at e
      have := Option.some.inj e
      subst this
      rw [if_pos (by omega), Int.toNat_natCast, hm, show 64 * (k + 1) = 64 * k + 64 by omega, List.take_add]
      rfl
    · have e := h.non k (by omega) (by omega)
      rw [hb] at e
      have := Option.some.inj e
      subst this
      have hal := allL_length s
      rw [if_neg (by omega), List.append_nil, List.take_of_length_le (by omega), List.take_of_length_le (by omega)]
theorem Has.cat {M : Vol} {B : List Int} {s : List UInt8} (h : Has M B s) : catB M B = allL s := by
  have h1 := h.cat_take 4 (by omega)
  have h2 := h.need
  have h3 := allL_length s
  rw [List.take_of_length_le (by rw [h.len]; omega), List.take_of_length_le (by omega)] at h1
  exact h1
/-- a file with these bytes -/
def filI (s : List UInt8) (B : List Int) : Ino := ⟨1, 1, s.length, B, [1, 0, 0, 0, 0, 0, 0, 0]⟩
def IsFile (M : Vol) (i : Nat) (s : List UInt8) : Prop := ∃ B, M.ino i = filI s B ∧ Has M B s
/-- four files, and nothing else but the root -/
structure Fils (M : Vol) (s : Nat → List UInt8) : Prop where
  sound : Sound M
  root : M.ino 1 = rootN 3 [2, 0, 0, 1]
  files : ∀ i, 2 ≤ i → i ≤ 5 → IsFile M i (s i)
  rest : ∀ i, 6 ≤ i → M.ino i = noIno
  count : countB M.map = 2 + needN (s 2).length + needN (s 3).length + needN (s 4).length + needN (s 5).length

/-- while a file's blocks are told anew -/
structure Qs (M : Vol) (i : Nat) (y : Ino) (s0 all : List UInt8) (need : Nat) (spare : Int) (k : Nat) (N : Vol) (B : List Int) : Prop where
  ino : N.ino = M.ino
  sound : Sound (N.setIno i (y.setBs B))
  len : B.length = 4
  done : ∀ j, j < k → j < need → ∃ n : Nat, B[j]? = some (n : Int) ∧ 1 ≤ n ∧ n ≤ 128 ∧ N.blk n = part64 all j
  gone : ∀ j, j < k → need ≤ j → j < 4 → B[j]? = some 0
  todo : ∀ j, k ≤ j → B[j]? = y.B[j]?
  oth : ∀ i' k' n : Nat, 1 ≤ i' → i' ≤ 32 → i' ≠ i → (M.ino i').B[k']? = some (n : Int) → n ≠ 0 → N.blk n = M.blk n
  cnt : countB N.map + nz y.B = countB M.map + nz B
  room : nz y.B < min k need → max 0 spare + (min k need : Nat) + countB M.map ≤ 128 + nz y.B
section
variable {M : Vol} {i : Nat} {y : Ino} {s0 all : List UInt8} {need : Nat} {spare : Int} {k : Nat} {N : Vol} {B : List Int}
theorem Qs.start (hi : M.ino i = y) (hs : Sound M) (hy : Has M y.B s0) : Qs M i y s0 all need spare 0 M y.B := by
  refine ⟨rfl, hs.same rfl fun j _ _ => ?_, hy.len, fun j h => by omega, fun j h => by omega, fun _ _ => rfl, fun _ _ _ _ _ _ _ _ => rfl, rfl, fun h => by omega⟩
  show (if j = i then y.setBs y.B else M.ino j).B = _
  split
  · rename_i e
    rw [e, hi]
    rfl
  · rfl
theorem Qs.ownI (_ : Qs M i y s0 all need spare k N B) : ((N.setIno i (y.setBs B)).ino i).B = B := by
  show (if i = i then y.setBs B else N.ino i).B = _
  rw [if_pos rfl]
  rfl
theorem Qs.othI (h : Qs M i y s0 all need spare k N B) {j : Nat} (hj : j ≠ i) (N2 : Vol) (B2 : List Int) (h2 : N2.ino = N.ino) : (N2.setIno i (y.setBs B2)).ino j = M.ino j := by
  show (if j = i then y.setBs B2 else N2.ino j) = _
  rw [if_neg hj, h2, h.ino]
/-- a block of its own is used -/
theorem Qs.used (h : Qs M i y s0 all need spare k N B) (i1 : 1 ≤ i) (i2 : i ≤ 32) {j n : Nat} (hj : B[j]? = some (n : Int)) (n1 : 1 ≤ n) (n2 : n ≤ 128) : usedB N.map n = true :=
  (h.sound.used n n1 n2).2 ⟨i, j, i1, i2, by rw [h.ownI]; exact hj⟩
theorem Qs.usedO (h : Qs M i y s0 all need spare k N B) {i' j n : Nat} (i1 : 1 ≤ i') (i2 : i' ≤ 32) (hne : i' ≠ i) (hj : (M.ino i').B[j]? = some (n : Int)) (n1 : 1 ≤ n) (n2 : n ≤ 128) : usedB N.map n = true :=
  (h.sound.used n n1 n2).2 ⟨i', j, i1, i2, by rw [h.othI hne N B rfl]; exact hj⟩
theorem Qs.step (h : Qs M i y s0 all need spare k N B) {N2 : Vol} {B2 : List Int} {b : Int} (hk : k < 4) (hi2 : N2.ino = N.ino) (hs : Sound (N2.setIno i (y.setBs B2))) (hb : B2 = B.set k b)
    (hd : k < need → ∃ n : Nat, b = n ∧ 1 ≤ n ∧ n ≤ 128 ∧ N2.blk n = part64 all k) (hg : need ≤ k → b = 0) (hbl : ∀ j, j < k → j < need → ∀ n : Nat, B[j]? = some (n : Int) → 1 ≤ n → n ≤ 128 → N2.blk n = N.blk n)
    (ho : ∀ i' k' n : Nat, 1 ≤ i' → i' ≤ 32 → i' ≠ i → (M.ino i').B[k']? = some (n : Int) → n ≠ 0 → N2.blk n = N.blk n)
    (hc : countB N2.map + nz y.B = countB M.map + nz B2) (hr : k < need → nz y.B < k + 1 → max 0 spare + (k + 1 : Nat) + countB M.map ≤ 128 + nz y.B) : Qs M i y s0 all need spare (k + 1) N2 B2 := by
  have hl := h.len
  refine ⟨hi2.trans h.ino, hs, by rw [hb, List.length_set]; exact hl, fun j hj hn => ?_, fun j hj hn h4 => ?_, fun j hj => ?_, fun i' k' n a1 a2 a3 a4 a5 => (ho i' k' n a1 a2 a3 a4 a5).trans (h.oth i' k' n a1 a2 a3 a4 a5), hc, fun hlt => ?_⟩
  · by_cases e : j = k
    · subst e
      obtain ⟨n, hn1, n1, n2, hbk⟩ := hd hn
      exact ⟨n, by rw [hb, List.getElem?_set_self (by omega), hn1], n1, n2, hbk⟩
    · obtain ⟨n, e1, n1, n2, e2⟩ := h.done j (by omega) hn
      exact ⟨n, by rw [hb, List.getElem?_set_ne (fun x => e x.symm)]; exact e1, n1, n2, (hbl j (by omega) hn n e1 n1 n2).trans e2⟩
  · by_cases e : j = k
    · subst e
      rw [hb, List.getElem?_set_self (by omega), hg hn]
    · rw [hb, List.getElem?_set_ne (fun x => e x.symm)]
      exact h.gone j (by omega) hn h4
  · rw [hb, List.getElem?_set_ne (by omega)]
    exact h.todo j (by omega)
  · by_cases e : k < need
    · have e1 : min (k + 1) need = k + 1 := by omega
      rw [e1] at hlt ⊢
      exact hr e hlt
    · have e1 : min (k + 1) need = min k need := by omega
      rw [e1] at hlt ⊢
      exact h.room hlt
theorem Qs.last (h : Qs M i y s0 all need spare k N B) (hy : Has M y.B s0) (hn : need ≤ k) (hk : k < 4) (h0 : B[k]? = some 0) : Qs M i y s0 all need spare 4 N B := by
  have hz : needN s0.length ≤ k := by
    obtain ⟨n, e, _, e2⟩ := hy.at (k := k) (b := 0) (by rw [← h.todo k (Nat.le_refl _)]; exact h0)
    exact e2.1 (by omega)
  refine ⟨h.ino, h.sound, h.len, fun j _ hj => h.done j (by omega) hj, fun j _ hj h4 => ?_, fun j hj => ?_, h.oth, h.cnt, fun hlt => ?_⟩
  · by_cases e : j < k
    · exact h.gone j e hj h4
    · rw [h.todo j (by omega)]
      exact hy.non j (by omega) h4
  · have h1 := h.len
    have h2 := hy.len
    rw [List.getElem?_eq_none (by omega), List.getElem?_eq_none (by omega)]
  · have h1 := hy.need
    have e1 : min 4 need = min k need := by omega
    rw [e1] at hlt ⊢
    exact h.room hlt
/-- telling a file's blocks anew: there is room, or there is not -/
theorem setK_any (i1 : 1 ≤ i) (i2 : i ≤ 32) (hy : Has M y.B s0) (hO : ∀ i' k' : Nat, ∀ b : Int, 1 ≤ i' → i' ≤ 32 → (M.ino i').B[k']? = some b → 0 ≤ b ∧ b ≤ 128) (hn4 : need ≤ 4) : ∀ (fu k : Nat) (N : Vol) (B : List Int), k + fu = 4 → Qs M i y s0 all need spare k N B →
    match setK all need spare fu k N B with
    | none => needN s0.length < need ∧ 128 + needN s0.length < max 0 spare + need + countB M.map
    | some p => Qs M i y s0 all need spare 4 p.1 p.2
  | 0, k, N, B, hk, h => by
    obtain rfl : k = 4 := by omega
    exact h
  | fu + 1, k, N, B, hk, h => by
    have hl := h.len
    obtain ⟨b, hb⟩ : ∃ b, B[k]? = some b := ⟨_, List.getElem?_eq_getElem (by omega)⟩
    have hbg : B.getD k 0 = b := by rw [List.getD_eq_getElem?_getD, hb]; rfl
    obtain ⟨n, rfl, n2, n0⟩ := hy.at (k := k) (b := b) (by rw [← h.todo k (Nat.le_refl _)]; exact hb)
    have hml : N.map.length = 16 := h.sound.mapl
    unfold setK
    rw [hbg]
    by_cases e1 : need ≤ k
    · rw [if_pos e1]
      by_cases e2 : (n : Int) = 0
      · rw [if_pos e2]
        exact h.last hy e1 (by omega) (by rw [hb, e2])
      · rw [if_neg e2]
        have n1 : 1 ≤ n := by omega
        have hu : usedB N.map n = true := h.used i1 i2 hb n1 n2
        have hg : giveI N.map n = giveB N.map n := by
          unfold giveI isBlk
          rw [if_pos (by simp; omega), Int.toNat_natCast]
        rw [hg]
        refine setK_any i1 i2 hy hO hn4 fu (k + 1) _ _ (by omega) (h.step (b := 0) (by omega) rfl ?_ rfl (fun e => by omega) (fun _ => rfl) (fun _ _ _ _ _ _ _ => rfl) (fun _ _ _ _ _ _ _ _ => rfl) ?_ (fun e => by omega))
        · refine h.sound.give (d := i) (k := k) (n := n) i1 i2 (by rw [h.ownI]; exact hb) n1 n2 rfl ?_ fun j _ _ hj => ?_
          · rw [h.ownI]
            show (if i = i then y.setBs (B.set k 0) else N.ino i).B = _
            rw [if_pos rfl]
            rfl
          · rw [h.othI hj N B rfl, h.othI hj (N.setMap (giveB N.map n)) (B.set k 0) rfl]
        · have c1 := count_give hml n1 n2 hu
          have c2 := nz_set (n := 0) hb
          have c3 := h.cnt
          rw [if_neg e2, if_pos rfl] at c2
          show countB (giveB N.map n) + _ = _
          omega
    · rw [if_neg e1]
      by_cases e2 : (n : Int) = 0
      · rw [if_pos e2]
        have hz : needN s0.length ≤ k := n0.1 (by omega)
        have hnz : nz B = k := nz_of hl (by omega) (fun j hj => by
          obtain ⟨m, a1, a2, _⟩ := h.done j hj (by omega)
          exact ⟨m, a1, a2⟩) fun j hj hj4 => by
          rw [h.todo j hj]
          exact hy.non j (by omega) hj4
        have hc := h.cnt
        have hnz0 := hy.nz
        rw [hnz, hnz0] at hc
        by_cases e3 : 128 - (countB N.map : Int) ≤ max 0 spare
        · rw [if_pos e3]
          refine ⟨by omega, ?_⟩
          omega
        · rw [if_neg e3]
          obtain ⟨f1, f2, fu0⟩ := first_some hml (by omega)
          have hne : ∀ q, usedB N.map q = true → q ≠ firstB N.map := fun q hq e => by
            rw [e, fu0] at hq
            cases hq
          refine setK_any i1 i2 hy hO hn4 fu (k + 1) _ _ (by omega) (h.step (b := firstB N.map) (by omega) rfl ?_ rfl (fun _ => ⟨firstB N.map, rfl, f1, f2, ?_⟩) (fun e => by omega) (fun j hj hjn q hq q1 q2 => ?_) (fun i' k' q a1 a2 a3 a4 a5 => ?_) ?_ (fun _ _ => ?_))
          · refine h.sound.take (d := i) (k := k) (n := firstB N.map) i1 i2 (by rw [h.ownI, hb, e2]) f1 f2 fu0 rfl ?_ fun j _ _ hj => ?_
            · rw [h.ownI]
              show (if i = i then y.setBs (B.set k _) else N.ino i).B = _
              rw [if_pos rfl]
              rfl
            · rw [h.othI hj N B rfl, h.othI hj (N.take.setBlk (firstB N.map) (part64 all k)) (B.set k _) rfl]
          · show (if firstB N.map = firstB N.map then _ else _) = _
            rw [if_pos rfl]
          · have := hne q (h.used i1 i2 hq q1 q2)
            show (if q = firstB N.map then _ else if q = firstB N.map then _ else N.blk q) = _
            rw [if_neg this, if_neg this]
          · obtain ⟨_, b2⟩ := hO i' k' q a1 a2 a4
            have := hne q (h.usedO a1 a2 a3 a4 (by omega) (by omega))
            show (if q = firstB N.map then _ else if q = firstB N.map then _ else N.blk q) = _
            rw [if_neg this, if_neg this]
          · have c1 := count_take hml f1 f2 fu0
            have c2 := nz_set (n := (firstB N.map : Int)) hb
            rw [if_pos e2, if_neg (by omega)] at c2
            show countB (takeB N.map (firstB N.map)) + _ = _
            omega
          · rw [hnz0]
            omega
      · rw [if_neg e2]
        have n1 : 1 ≤ n := by omega
        have hset : B = B.set k (n : Int) := by
          obtain ⟨_, h2⟩ := List.getElem?_eq_some_iff.1 hb
          rw [← h2, List.set_getElem_self]
        rw [Int.toNat_natCast]
        refine setK_any i1 i2 hy hO hn4 fu (k + 1) _ _ (by omega) (h.step (b := n) (by omega) rfl ?_ hset (fun _ => ⟨n, rfl, n1, n2, ?_⟩) (fun e => by omega) (fun j hj hjn q hq q1 q2 => ?_) (fun i' k' q a1 a2 a3 a4 a5 => ?_) h.cnt (fun _ hlt => ?_))
        · exact h.sound.same rfl fun j _ _ => rfl
        · show (if n = n then _ else _) = _
          rw [if_pos rfl]
        · have : q ≠ n := fun e => by
            subst e
            have := (h.sound.one i i j k q i1 i2 i1 i2 (by rw [h.ownI]; exact hq) (by rw [h.ownI]; exact hb) (by omega)).2
            omega
          show (if q = n then _ else N.blk q) = _
          rw [if_neg this]
        · have : q ≠ n := fun e => by
            subst e
            exact a3 (h.sound.one i' i k' k q a1 a2 i1 i2 (by rw [h.othI a3 N B rfl]; exact a4) (by rw [h.ownI]; exact hb) (by omega)).1
          show (if q = n then _ else N.blk q) = _
          rw [if_neg this]
        · have hnz0 := hy.nz
          have : k < needN s0.length := by
            refine Nat.lt_of_not_le fun hle => ?_
            have := n0.2 hle
            omega
          omega
end
end Gd
end Go.Proofs.YtginffdngphjpaaGreatDoor

/- Files on a volume, in plain words: what setting one comes to. -/
namespace Go.Proofs.YtginffdngphjpaaGreatDoor
namespace Gd
theorem blkB_ok {size : Int} {B : List Int} (hr : ∀ n ∈ B, 0 ≤ n ∧ n ≤ 128) (hd : ∀ (k k' : Nat) (n : Int), B[k]? = some n → B[k']? = some n → 0 < n → k = k') (hz : ∀ (k : Nat) (n : Int), B[k]? = some n → (0 < n ↔ (64 * k : Int) < size)) : ∀ (r pre : List Int), B = pre ++ r → blkB 1 size pre.length pre r = true
  | [], _, _ => rfl
  | b :: r, pre, e => by
    have hb : B[pre.length]? = some b := by
      rw [e, List.getElem?_append_right (Nat.le_refl _), Nat.sub_self]
      rfl
    obtain ⟨b1, b2⟩ := hr b (List.mem_of_getElem? hb)
    have h3 := hz pre.length b hb
    have ih := blkB_ok hr hd hz r (pre ++ [b]) (by rw [e]; simp)
    rw [List.length_append] at ih
    simp only [blkB, Bool.and_eq_true]
    refine ⟨⟨⟨⟨decide_eq_true b1, decide_eq_true b2⟩, ?_⟩, ?_⟩, ih⟩
    · by_cases h0 : 0 < b
      · have : pre.contains b = false := by
          rw [Bool.eq_false_iff]
          intro hc
          obtain ⟨j, hj⟩ := List.getElem?_of_mem (List.elem_iff.1 hc)
          have hjl := (List.getElem?_eq_some_iff.1 hj).1
          have := hd j pre.length b (by rw [e, List.getElem?_append_left hjl]; exact hj) hb h0
          omega
        rw [this]
        simp
      · simp [h0]
    · rw [show decide (0 < b) = decide ((64 * (pre.length : Nat) : Int) < size) from decide_eq_decide.2 h3]
      simp
section
variable {M N : Vol} {i : Nat} {s : Nat → List UInt8} {B0 B2 : List Int} {s2 : List UInt8} {spare : Int}
theorem Fils.rng (h : Fils M s) : ∀ i' k' : Nat, ∀ b : Int, 1 ≤ i' → i' ≤ 32 → (M.ino i').B[k']? = some b → 0 ≤ b ∧ b ≤ 128 := fun i' k' b h1 h2 hb => by
  by_cases e1 : i' = 1
  · rw [e1, h.root] at hb
    have : b ∈ ([2, 0, 0, 1] : List Int) := List.mem_of_getElem? hb
    simp at this
    omega
  · by_cases e2 : i' ≤ 5
    · obtain ⟨B, e, hB⟩ := h.files i' (by omega) e2
      rw [e] at hb
      exact hB.rng b (List.mem_of_getElem? hb)
    · rw [h.rest i' (by omega)] at hb
      have : b ∈ ([0, 0, 0, 0] : List Int) := List.mem_of_getElem? hb
      simp at this
      omega
theorem Qs.has (hq : Qs M i (filI (s i) B0) (s i) (allL s2) (needN s2.length) spare 4 N B2) (hl : s2.length ≤ 256) : Has N B2 s2 :=
  ⟨hq.len, hl, fun k hk => hq.done k (by have : needN s2.length ≤ 4 := (by unfold needN; omega); omega) hk, fun k hk h4 => hq.gone k h4 hk h4⟩
theorem Qs.may (hq : Qs M i (filI (s i) B0) (s i) (allL s2) (needN s2.length) spare 4 N B2) (i1 : 1 ≤ i) (i2 : i ≤ 32) (hl : s2.length ≤ 256) : mayI (filI s2 B2) = true := by
  have hh := hq.has hl
  have hb := blkB_ok (size := (s2.length : Int)) (B := B2) hh.rng (fun k k' n e1 e2 hn => (hq.sound.one i i k k' n i1 i2 i1 i2 (by rw [hq.ownI]; exact e1) (by rw [hq.ownI]; exact e2) (by omega)).2) (fun k n e => by
    obtain ⟨m, rfl, _, h0⟩ := hh.at e
    unfold needN at h0
    omega) B2 [] rfl
  unfold mayI filI
  dsimp only
  rw [if_neg (by decide), if_pos rfl]
  simp only [Bool.and_eq_true, decide_eq_true_eq]
  refine ⟨⟨⟨⟨⟨by omega, by omega⟩, by omega⟩, by omega⟩, by decide⟩, hb⟩
/-- the files, with another text in one of them -/
theorem Fils.set (h : Fils M s) (i1 : 2 ≤ i) (i2 : i ≤ 5) (hi : M.ino i = filI (s i) B0) (hy : Has M B0 (s i)) (hl : s2.length ≤ 256) (hq : Qs M i (filI (s i) B0) (s i) (allL s2) (needN s2.length) spare 4 N B2) : Fils (N.setIno i (filI s2 B2)) fun j => if j = i then s2 else s j := by
  have hh := hq.has hl
  have hown : (N.setIno i (filI s2 B2)).ino i = filI s2 B2 := if_pos rfl
  have hoth : ∀ j, j ≠ i → (N.setIno i (filI s2 B2)).ino j = M.ino j := fun j hj => by
    show (if j = i then filI s2 B2 else N.ino j) = _
    rw [if_neg hj, hq.ino]
  refine ⟨hq.sound.same rfl fun j _ _ => ?_, (hoth 1 (by omega)).trans h.root, fun j j1 j2 => ?_, fun j hj => (hoth j (by omega)).trans (h.rest j hj), ?_⟩
  · show (if j = i then filI s2 B2 else N.ino j).B = (if j = i then (filI (s i) B0).setBs B2 else N.ino j).B
    split <;> rfl
  · by_cases e : j = i
    · subst e
      rw [if_pos rfl]
      refine ⟨B2, hown, ?_⟩
      exact ⟨hh.len, hh.few, hh.blk, hh.non⟩
    · obtain ⟨B, e1, e2⟩ := h.files j j1 j2
      refine ⟨B, ?_, ?_⟩
      · rw [hoth j e, if_neg e]
        exact e1
      · rw [if_neg e]
        refine ⟨e2.len, e2.few, fun k hk => ?_, e2.non⟩
        obtain ⟨n, a1, a2, a3, a4⟩ := e2.blk k hk
        exact ⟨n, a1, a2, a3, (hq.oth j k n (by omega) (by omega) e (by rw [e1]; exact a1) (by omega)).trans a4⟩
  · have c1 := hq.cnt
    have c2 : nz (filI (s i) B0).B = needN (s i).length := hy.nz
    have c3 := h.count
    rw [c2, hh.nz] at c1
    show countB N.map = _
    rcases (by omega : i = 2 ∨ i = 3 ∨ i = 4 ∨ i = 5) with rfl | rfl | rfl | rfl
    · simp only [if_true, if_neg (show ¬ (3 = 2) by omega), if_neg (show ¬ (4 = 2) by omega), if_neg (show ¬ (5 = 2) by omega)]
      omega
    · simp only [if_true, if_neg (show ¬ (2 = 3) by omega), if_neg (show ¬ (4 = 3) by omega), if_neg (show ¬ (5 = 3) by omega)]
      omega
    · simp only [if_true, if_neg (show ¬ (2 = 4) by omega), if_neg (show ¬ (3 = 4) by omega), if_neg (show ¬ (5 = 4) by omega)]
      omega
    · simp only [if_true, if_neg (show ¬ (2 = 5) by omega), if_neg (show ¬ (3 = 5) by omega), if_neg (show ¬ (4 = 5) by omega)]
      omega
/-- four files without bytes -/
theorem Fils.began (h : Began M tabD 4 [2, 0, 0, 1] map2) : Fils M fun _ => [] := by
  refine ⟨h.sound, h.root, fun i i1 i2 => ⟨[0, 0, 0, 0], h.files i i1 (by omega), rfl, by show (0 : Nat) ≤ 256; omega, fun k hk => ?_, fun k _ hk => ?_⟩, fun i hi => h.rest i (by omega), ?_⟩
  · exact absurd hk (by show ¬ k < 0; omega)
  · match k, hk with
    | 0, _ => rfl
    | 1, _ => rfl
    | 2, _ => rfl
    | 3, _ => rfl
  · rw [h.map]
    exact count2
end
end Gd
end Go.Proofs.YtginffdngphjpaaGreatDoor

/- Walks: a volume's changes committed, or dropped. -/
namespace Go.Proofs.YtginffdngphjpaaGreatDoor
open Go.RowKit

theorem MetaV.good {x t K : Nat} {S : List UInt8} {M : Gd.Vol} {w : World} {F : Nat → Prop} (h : MetaV x t S M 0 K w F) : Gd.Good S M := by
  obtain ⟨P, h1, h2⟩ := h
  have : P = [] := List.eq_nil_of_length_eq_zero (Nat.le_zero.1 h1.light.many)
  subst this
  exact h2
theorem mcommit {x t c K : Nat} {S : List UInt8} {M : Gd.Vol} {F : Nat → Prop} (w : World) (h : MetaV x t S M c K w F) (hc : c ≤ 57) (hK : K < 600000000000) :
    Calls Tryz.prog 22 #[.pointer (some ⟨t, 0, none⟩)] w fun e w' => e = .returned (.int .i64 0) ∧ ∃ S', Turns x t S' M 0 (K + 2000000) F w w' := by
  obtain ⟨P, h, hG⟩ := h
  refine (commit_any w h.txn ⟨Nat.le_trans h.light.many hc, h.light.len⟩ h.len h.log hK).mono ?_
  rintro e w' ⟨rfl, ⟨S', hl, he, hs, hT⟩, hO⟩
  refine ⟨rfl, S', F, ⟨[], ⟨hT, (hO.block x (lt_get h.obj) fun e => e.2 rfl).trans h.obj, h.inF, hl, he, ⟨Nat.le_refl 0, fun _ hp => by cases hp⟩, fun k hk => Nat.lt_of_lt_of_le (h.tight k hk) hO.size⟩, ?_⟩, fun _ _ e => e, hO.mono fun _ _ e => e.1⟩
  exact hG.same (by rw [h.view_len]; exact hl) hs
theorem mdrop {x t c K : Nat} {S : List UInt8} {M M0 : Gd.Vol} {F : Nat → Prop} (w : World) (h : MetaV x t S M c K w F) (hG : Gd.Good S M0) :
    Calls Tryz.prog 26 #[.pointer (some ⟨t, 0, none⟩)] w fun e w' => e = .returned (.tuple #[]) ∧ Turns x t S M0 0 K F w w' := by
  obtain ⟨P, h, _⟩ := h
  refine (tdrop_any w h.txn).mono ?_
  rintro e w' ⟨rfl, hT, hO⟩
  exact ⟨rfl, F, ⟨[], ⟨hT, (hO.block x (lt_get h.obj) fun e => e.2 rfl).trans h.obj, h.inF, h.len, h.log, ⟨Nat.le_refl 0, fun _ hp => by cases hp⟩, fun k hk => Nat.lt_of_lt_of_le (h.tight k hk) hO.size⟩, hG⟩, fun _ _ e => e, hO.mono fun _ _ e => e.1⟩

end Go.Proofs.YtginffdngphjpaaGreatDoor

/- Walks: four files are opened, one after the other. -/
namespace Go.Proofs.YtginffdngphjpaaGreatDoor
open Go.RowKit Go.Shelf

namespace Gd
def tab4 : Nat → Tab | 0 => noTab | 1 => tabA | 2 => tabB | 3 => tabC4 | _ => tabD
def blk4 : Nat → List Int | 0 => [0, 0, 0, 0] | 1 => [0, 0, 0, 1] | 2 => [0, 0, 0, 1] | 3 => [2, 0, 0, 1] | _ => [2, 0, 0, 1]
def mapN4 : Nat → List UInt8 | 0 => map0 | 1 => map1 | 2 => map1 | 3 => map2 | _ => map2
def cnt4 : Nat → Nat | 0 => 0 | 1 => 5 | 2 => 8 | 3 => 13 | _ => 16
def name4 : Nat → List UInt8 | 0 => [97] | 1 => [98] | 2 => [99] | _ => [100]
end Gd
theorem fopens_any {x t K : Nat} {S : List UInt8} {M : Gd.Vol} {F : Nat → Prop} (k : Nat) (hk : k < 4) (mx : Int) (w : World) (h : MetaV x t S M (Gd.cnt4 k) K w F) (hB : Gd.Began M (Gd.tab4 k) k (Gd.blk4 k) (Gd.mapN4 k))
    (hmx : w.cell? ⟨0, 0, none⟩ = some (.int .i64 mx)) (hml : 0 < w.heap.size) :
    ∃ N, Gd.Began N (Gd.tab4 (k + 1)) (k + 1) (Gd.blk4 (k + 1)) (Gd.mapN4 (k + 1)) ∧ Calls Tryz.prog 44 #[.pointer (some ⟨x, 0, none⟩), .int .i64 1, .string ⟨(47 :: Gd.name4 k).toArray⟩, .int .i64 1, .bool false, .int .i64 0] w fun e w' => e = .returned (.tuple #[.int .i64 ((k + 2 : Nat) : Int), .int .i64 0]) ∧ Turns x t S N (Gd.cnt4 (k + 1)) K F w w' := by
  obtain ⟨n1, n2, n3, n4⟩ := Gd.names4
  obtain ⟨p1, p2, p3, p4⟩ := Gd.paths4
  obtain ⟨q1, q2, q3, q4⟩ := Gd.may4
  obtain ⟨h1, h2, h3, h4⟩ := Gd.hash4
  obtain ⟨a1, a2⟩ := Gd.placeA
  obtain ⟨b1, b2⟩ := Gd.placeB
  obtain ⟨c1, c2⟩ := Gd.placeC
  obtain ⟨d1, d2⟩ := Gd.placeD
  obtain ⟨f1, f2⟩ := Gd.first0
  obtain ⟨g1, g2⟩ := Gd.first1
  match k, hk with
  | 0, _ =>
    obtain ⟨N, hN, hC⟩ := bopen_new [97] 14 mx w h hB (by omega) (by show 0 + 12 < 64; omega) hmx hml n1 p1 (by rw [h1]; exact a1) (by rw [h1]; exact a2) rfl (by show Gd.countB Gd.map0 < 128; rw [f2]; omega) (by show Gd.mayI (Gd.rootN 0 (([0, 0, 0, 0] : List Int).set 3 (Gd.firstB Gd.map0 : Int))) = true; rw [f1]; exact q1)
    refine ⟨N, ?_, hC⟩
    have hN' : Gd.Began N Gd.tabA 1 (([0, 0, 0, 0] : List Int).set 3 (Gd.firstB Gd.map0 : Int)) (Gd.takeB Gd.map0 (Gd.firstB Gd.map0)) := hN
    rw [f1] at hN'
    exact hN'
  | 1, _ =>
    obtain ⟨N, hN, hC⟩ := bopen_over [98] 15 1 mx w h hB (by omega) (by show 5 + 12 < 64; omega) hmx hml n2 p2 (by rw [h2]; exact b1) (by rw [h2]; exact b2) rfl (by omega) (by omega) q2
    exact ⟨N, hN, hC⟩
  | 2, _ =>
    obtain ⟨N, hN, hC⟩ := bopen_new [99] 0 mx w h hB (by omega) (by show 8 + 12 < 64; omega) hmx hml n3 p3 (by rw [h3]; exact c1) (by rw [h3]; exact c2) rfl (by show Gd.countB Gd.map1 < 128; rw [g2]; omega) (by show Gd.mayI (Gd.rootN 2 (([0, 0, 0, 1] : List Int).set 0 (Gd.firstB Gd.map1 : Int))) = true; rw [g1]; exact q3)
    refine ⟨N, ?_, hC⟩
    have hN' : Gd.Began N Gd.tabC4 3 (([0, 0, 0, 1] : List Int).set 0 (Gd.firstB Gd.map1 : Int)) (Gd.takeB Gd.map1 (Gd.firstB Gd.map1)) := hN
    rw [g1] at hN'
    exact hN'
  | 3, _ =>
    obtain ⟨N, hN, hC⟩ := bopen_over [100] 1 2 mx w h hB (by omega) (by show 13 + 12 < 64; omega) hmx hml n4 p4 (by rw [h4]; exact d1) (by rw [h4]; exact d2) rfl (by omega) (by omega) q4
    exact ⟨N, hN, hC⟩

end Go.Proofs.YtginffdngphjpaaGreatDoor
