/- Walks: a file is opened that is not there: in a volume that began. -/
import Derived.Test.YthbonbcbbngciaaGreatDoorV15
import Derived.Test.YthbonbcbbngciaaGreatDoorV00
import Derived.Test.YthbonbcbbngciaaGreatDoorV08
set_option linter.unusedVariables false
set_option linter.unusedSimpArgs false
set_option linter.unusedSectionVars false
namespace Go.Proofs.YthbonbcbbngciaaGreatDoor
open Go.RowKit Go.Shelf

theorem Gd.DirOf.same {M N : Gd.Vol} {d : Nat} {T : Gd.Tab} (h : Gd.DirOf M d T) (hi : N.ino d = M.ino d) (hb : N.blk = M.blk) : Gd.DirOf N d T :=
  ⟨h.lo, h.hi, by rw [hi]; exact h.kind, h.ok, fun k hk => by rw [hi, hb]; exact h.blk k hk⟩

theorem bopen [MemNo] {x t cc dd K c : Nat} {S : List UInt8} {M N : Gd.Vol} {T : Gd.Tab} {B : List Int} {m : List UInt8} {F : Nat → Prop} (nm : List UInt8) (j : Fin 16) (mx : Int) (w : World) (h : MetaV x t S M cc K w F) (hBg : Gd.Began M T c B m) (hc : c + 2 ≤ 32) (hcc : cc < 64)
    (hmx : w.cell? ⟨0, 0, none⟩ = some (.int .i64 mx)) (hml : 0 < w.heap.size)
    (hn : Np.nameB nm = true) (hp : Np.pathL (47 :: nm) = some [nm]) (hf : Gd.findT T nm (Gd.hN nm) = none) (hj : Gd.placeT T (Gd.hN nm) = some j)
    (hC : ∀ W F1, MetaV x t S (M.setIno (c + 2) (newF.setO 0 1)) (cc + 1) K W F1 → Calls Tryz.prog 161 #[.pointer (some ⟨x, 0, none⟩), .int .i64 1, .int .i64 (j.val : Nat), tabV (Gd.setT T j.val ⟨nm, c + 2⟩), .int .i64 1, .int .i64 0] W fun e w' => e = .returned (.int .i64 0) ∧ Turns x t S N dd K F1 W w') :
    Calls Tryz.prog 56 #[.pointer (some ⟨x, 0, none⟩), .int .i64 1, .string ⟨(47 :: nm).toArray⟩, .int .i64 1, .bool false, .int .i64 0] w fun e w' => e = .returned (.tuple #[.int .i64 ((c + 2 : Nat) : Int), .int .i64 0]) ∧ Turns x t S N dd K F w w' := by
  have hln : nm.length ≤ 12 := nameB_len hn
  have hk2 : (M.ino 1).k = 2 := hBg.tree.root
  have hsz : (⟨(47 :: nm).toArray⟩ : ByteArray).size ≤ 100000 := by rw [Lib.size_eq]; show nm.length + 1 ≤ _; omega
  have hD : Gd.DirOf (M.setIno (c + 2) (newF.setO 0 1)) 1 T := (hBg.tree.dir 1 (by omega) (by omega) hk2).same (by
    show (if 1 = c + 2 then newF.setO 0 1 else M.ino 1) = M.ino 1
    exact if_neg (by omega)) rfl
  have hwk : Gd.walkT M (fun _ => T) [nm] 1 = (0, 10) := by
    unfold Gd.walkT
    rw [if_pos hk2, hf]
  have hpl : Gd.placeP M (fun _ => T) [] nm = (1, nm, 0) := by
    unfold Gd.placeP
    show (if (0 : Nat) ≠ 0 then ((0 : Nat), ([] : List UInt8), (0 : Nat)) else if (M.ino 1).k = 2 then (1, nm, 0) else (0, [], 12)) = (1, nm, 0)
    rw [if_neg (by omega), if_pos hk2]
  refine open_new (x := x) 1 ⟨(47 :: nm).toArray⟩ ⟨nm.toArray⟩ 0 1 (c + 2) 0 w (fun w' => Turns x t S N dd K F w w') (by omega) (by omega) (fun W hW => ?_) (fun W hW => ?_) (fun W hW => ?_)
  · have := mwalk_yes ⟨(47 :: nm).toArray⟩ [nm] mx W (h.below hW) hBg.tree hsz ((hW.cell (p := ⟨0, 0, none⟩) hml).trans hmx) hp
    rw [hwk] at this
    exact this
  · have := mplace_yes ⟨(47 :: nm).toArray⟩ [] nm mx W (h.below hW) hBg.tree hsz ((hW.cell (p := ⟨0, 0, none⟩) hml).trans hmx) hp
    rw [hpl] at this
    exact this
  · refine (make_ok (M2 := N) (c2 := dd) ⟨nm.toArray⟩ (c + 2) (newF.setO 0 1) 0 W (h.below hW) (Gd.Ino.setO_shape newF_shape 0 1) (by decide) (by omega) hc (by rw [hBg.rest (c + 2) (Nat.le_refl _)]; rfl) (fun i i1 i2 => ?_) hcc (fun W1 F1 h1 => ?_)).mono ?_
    · by_cases e : i = 1
      · rw [e, hk2]
        decide
      · rw [hBg.files i (by omega) (by omega)]
        decide
    · exact put_ok nm (c + 2) 0 0 j W1 (fun w' => Turns x t S N dd K F1 W1 w') h1 hD (by omega) hj fun W2 hW2 => (hC W2 F1 (h1.below hW2)).mono fun e w' ⟨he, ht⟩ => ⟨he, ht.behind hW2⟩
    · rintro e w' ⟨he, ht⟩
      exact ⟨he, ht.behind hW⟩

end Go.Proofs.YthbonbcbbngciaaGreatDoor

/- Walks: a file is opened that is not there: with a new block, and over one. -/
namespace Go.Proofs.YthbonbcbbngciaaGreatDoor
open Go.RowKit Go.Shelf

theorem ent_may {nm : List UInt8} {i : Nat} (hn : Np.nameB nm = true) (h1 : 1 ≤ i) (h2 : i ≤ 32) : (⟨nm, i⟩ : Gd.Ent).May := Or.inr ⟨hn, h1, h2⟩
theorem ent_not {nm : List UInt8} {i : Nat} (h1 : 1 ≤ i) : (⟨nm, i⟩ : Gd.Ent) ≠ Gd.noEnt := fun e => by
  have : i = 0 := congrArg Gd.Ent.i e
  omega

theorem bopen_new [MemNo] {x t cc K c : Nat} {S : List UInt8} {M : Gd.Vol} {T : Gd.Tab} {B : List Int} {m : List UInt8} {F : Nat → Prop} (nm : List UInt8) (j : Fin 16) (mx : Int) (w : World) (h : MetaV x t S M cc K w F) (hBg : Gd.Began M T c B m) (hc : c + 1 ≤ 16) (hcc : cc + 12 < 64)
    (hmx : w.cell? ⟨0, 0, none⟩ = some (.int .i64 mx)) (hml : 0 < w.heap.size)
    (hn : Np.nameB nm = true) (hp : Np.pathL (47 :: nm) = some [nm]) (hf : Gd.findT T nm (Gd.hN nm) = none) (hj : Gd.placeT T (Gd.hN nm) = some j)
    (hB : B[j.val / 4]? = some 0) (hfs : Gd.countB m < 128) (hmay : Gd.mayI (Gd.rootN c (B.set (j.val / 4) (Gd.firstB m : Int))) = true) :
    ∃ N, Gd.Began N (Gd.setT T j.val ⟨nm, c + 2⟩) (c + 1) (B.set (j.val / 4) (Gd.firstB m : Int)) (Gd.takeB m (Gd.firstB m)) ∧ Calls Tryz.prog 56 #[.pointer (some ⟨x, 0, none⟩), .int .i64 1, .string ⟨(47 :: nm).toArray⟩, .int .i64 1, .bool false, .int .i64 0] w fun e w' => e = .returned (.tuple #[.int .i64 ((c + 2 : Nat) : Int), .int .i64 0]) ∧ Turns x t S N (cc + 5) K F w w' := by
  have hOk := (hBg.tree.dir 1 (by omega) (by omega) hBg.tree.root).ok
  have hr : ((M.setIno (c + 2) (newF.setO 0 1)).ino 1) = ⟨2, 1, c, B, [0, 0, 0, 0, 0, 0, 0, 0]⟩ := by
    show (if 1 = c + 2 then newF.setO 0 1 else M.ino 1) = _
    rw [if_neg (by omega)]
    exact hBg.root
  have hm : (M.setIno (c + 2) (newF.setO 0 1)).map = m := hBg.map
  have hy : ((((M.setIno (c + 2) (newF.setO 0 1)).ino 1).setB (j.val / 4) (Gd.firstB (M.setIno (c + 2) (newF.setO 0 1)).map)).setS (((M.setIno (c + 2) (newF.setO 0 1)).ino 1).s + 1)) = Gd.rootN c (B.set (j.val / 4) (Gd.firstB m : Int)) := by
    rw [hr, hm]
    rfl
  refine ⟨_, Gd.began_new hBg (by omega) j.isLt (ent_may hn (by omega) (by omega)) (ent_not (by omega)) rfl hB hfs, ?_⟩
  refine bopen (dd := cc + 5) nm j mx w h hBg (by omega) (by omega) hmx hml hn hp hf hj fun W F1 h1 => ?_
  have := change_new (a := j.val) (d := 1) (Gd.setT T j.val ⟨nm, c + 2⟩) 1 0 W h1 (by omega) (by omega) j.isLt (hOk.set (ent_may hn (by omega) (by omega))) (Gd.usedT_set hOk.len j.isLt (ent_not (by omega))) (by rw [hr]; exact hB) (by rw [hm]; omega) (by rw [hy]; exact hmay) (by rw [hr]; show 0 ≤ (c : Int) + 1 ∧ (c : Int) + 1 ≤ 16; omega) (by omega)
  rw [hy, hm] at this
  exact this

theorem bopen_over [MemNo] {x t cc K c : Nat} {S : List UInt8} {M : Gd.Vol} {T : Gd.Tab} {B : List Int} {m : List UInt8} {F : Nat → Prop} (nm : List UInt8) (j : Fin 16) (n : Nat) (mx : Int) (w : World) (h : MetaV x t S M cc K w F) (hBg : Gd.Began M T c B m) (hc : c + 1 ≤ 16) (hcc : cc + 12 < 64)
    (hmx : w.cell? ⟨0, 0, none⟩ = some (.int .i64 mx)) (hml : 0 < w.heap.size)
    (hn : Np.nameB nm = true) (hp : Np.pathL (47 :: nm) = some [nm]) (hf : Gd.findT T nm (Gd.hN nm) = none) (hj : Gd.placeT T (Gd.hN nm) = some j)
    (hB : B[j.val / 4]? = some (n : Int)) (n1 : 1 ≤ n) (n2 : n ≤ 128) (hmay : Gd.mayI (Gd.rootN c B) = true) :
    ∃ N, Gd.Began N (Gd.setT T j.val ⟨nm, c + 2⟩) (c + 1) B m ∧ Calls Tryz.prog 56 #[.pointer (some ⟨x, 0, none⟩), .int .i64 1, .string ⟨(47 :: nm).toArray⟩, .int .i64 1, .bool false, .int .i64 0] w fun e w' => e = .returned (.tuple #[.int .i64 ((c + 2 : Nat) : Int), .int .i64 0]) ∧ Turns x t S N (cc + 3) K F w w' := by
  have hOk := (hBg.tree.dir 1 (by omega) (by omega) hBg.tree.root).ok
  have hr : ((M.setIno (c + 2) (newF.setO 0 1)).ino 1) = ⟨2, 1, c, B, [0, 0, 0, 0, 0, 0, 0, 0]⟩ := by
    show (if 1 = c + 2 then newF.setO 0 1 else M.ino 1) = _
    rw [if_neg (by omega)]
    exact hBg.root
  have hy : (((M.setIno (c + 2) (newF.setO 0 1)).ino 1).setS (((M.setIno (c + 2) (newF.setO 0 1)).ino 1).s + 1)) = Gd.rootN c B := by
    rw [hr]
    rfl
  refine ⟨_, Gd.began_over hBg (by omega) j.isLt (ent_may hn (by omega) (by omega)) (ent_not (by omega)) rfl hB n1 n2, ?_⟩
  refine bopen (dd := cc + 3) nm j mx w h hBg (by omega) (by omega) hmx hml hn hp hf hj fun W F1 h1 => ?_
  have := change_over (a := j.val) (d := 1) n (Gd.setT T j.val ⟨nm, c + 2⟩) 1 0 W h1 (by omega) (by omega) j.isLt (hOk.set (ent_may hn (by omega) (by omega))) (Gd.usedT_set hOk.len j.isLt (ent_not (by omega))) (by rw [hr]; exact hB) n1 n2 (by rw [hy]; exact hmay) (by rw [hr]; show 0 ≤ (c : Int) + 1 ∧ (c : Int) + 1 ≤ 16; omega) (by omega)
  rw [hy] at this
  exact this

namespace Gd
/-- the four tables, and the root's blocks -/
def tabA : Tab := setT noTab 14 ⟨[97], 2⟩
def tabB : Tab := setT tabA 15 ⟨[98], 3⟩
def tabC4 : Tab := setT tabB 0 ⟨[99], 4⟩
def tabD : Tab := setT tabC4 1 ⟨[100], 5⟩
theorem hash4 : hN [97] = 14 ∧ hN [98] = 14 ∧ hN [99] = 14 ∧ hN [100] = 14 := by decide +kernel
theorem placeA : findT noTab [97] 14 = none ∧ placeT noTab 14 = some 14 := by decide +kernel
theorem placeB : findT tabA [98] 14 = none ∧ placeT tabA 14 = some 15 := by decide +kernel
theorem placeC : findT tabB [99] 14 = none ∧ placeT tabB 14 = some 0 := by decide +kernel
theorem placeD : findT tabC4 [100] 14 = none ∧ placeT tabC4 14 = some 1 := by decide +kernel
def map0 : List UInt8 := List.replicate 16 0
def map1 : List UInt8 := takeB map0 1
def map2 : List UInt8 := takeB map1 2
theorem first0 : firstB map0 = 1 ∧ countB map0 = 0 := by decide +kernel
theorem first1 : firstB map1 = 2 ∧ countB map1 = 1 := by decide +kernel
theorem count2 : countB map2 = 2 := by decide +kernel
theorem may4 : mayI (rootN 0 [0, 0, 0, 1]) = true ∧ mayI (rootN 1 [0, 0, 0, 1]) = true ∧ mayI (rootN 2 [2, 0, 0, 1]) = true ∧ mayI (rootN 3 [2, 0, 0, 1]) = true := by decide +kernel
theorem names4 : Np.nameB [97] = true ∧ Np.nameB [98] = true ∧ Np.nameB [99] = true ∧ Np.nameB [100] = true := by decide +kernel
theorem paths4 : Np.pathL [47, 97] = some [[97]] ∧ Np.pathL [47, 98] = some [[98]] ∧ Np.pathL [47, 99] = some [[99]] ∧ Np.pathL [47, 100] = some [[100]] := by decide +kernel
end Gd

end Go.Proofs.YthbonbcbbngciaaGreatDoor

/- Walks: a volume's changes committed, or dropped. -/
namespace Go.Proofs.YthbonbcbbngciaaGreatDoor
open Go.RowKit

theorem MetaV.good [MemNo] {x t K : Nat} {S : List UInt8} {M : Gd.Vol} {w : World} {F : Nat → Prop} (h : MetaV x t S M 0 K w F) : Gd.Good S M := by
  obtain ⟨P, h1, h2⟩ := h
  have : P = [] := List.eq_nil_of_length_eq_zero (Nat.le_zero.1 h1.light.many)
  subst this
  exact h2
theorem mcommit [MemNo] {x t c K : Nat} {S : List UInt8} {M : Gd.Vol} {F : Nat → Prop} (w : World) (h : MetaV x t S M c K w F) (hc : c ≤ 57) (hK : K < 600000000000) :
    Calls Tryz.prog 16 #[.pointer (some ⟨t, 0, none⟩)] w fun e w' => e = .returned (.int .i64 0) ∧ ∃ S', Turns x t S' M 0 (K + 2000000) F w w' := by
  obtain ⟨P, h, hG⟩ := h
  refine (commit_any w h.txn ⟨Nat.le_trans h.light.many hc, h.light.len⟩ h.len h.log hK).mono ?_
  rintro e w' ⟨rfl, ⟨S', hl, he, hs, hT⟩, hO⟩
  refine ⟨rfl, S', F, ⟨[], ⟨hT, (hO.block x (lt_get h.obj) fun e => e.2 rfl).trans h.obj, h.inF, hl, he, ⟨Nat.le_refl 0, fun _ hp => by cases hp⟩, fun k hk => Nat.lt_of_lt_of_le (h.tight k hk) hO.size⟩, ?_⟩, fun _ _ e => e, hO.mono fun _ _ e => e.1⟩
  exact hG.same (by rw [h.view_len]; exact hl) hs
theorem mdrop [MemNo] {x t c K : Nat} {S : List UInt8} {M M0 : Gd.Vol} {F : Nat → Prop} (w : World) (h : MetaV x t S M c K w F) (hG : Gd.Good S M0) :
    Calls Tryz.prog 29 #[.pointer (some ⟨t, 0, none⟩)] w fun e w' => e = .returned (.tuple #[]) ∧ Turns x t S M0 0 K F w w' := by
  obtain ⟨P, h, _⟩ := h
  refine (tdrop_any w h.txn).mono ?_
  rintro e w' ⟨rfl, hT, hO⟩
  exact ⟨rfl, F, ⟨[], ⟨hT, (hO.block x (lt_get h.obj) fun e => e.2 rfl).trans h.obj, h.inF, h.len, h.log, ⟨Nat.le_refl 0, fun _ hp => by cases hp⟩, fun k hk => Nat.lt_of_lt_of_le (h.tight k hk) hO.size⟩, hG⟩, fun _ _ e => e, hO.mono fun _ _ e => e.1⟩

end Go.Proofs.YthbonbcbbngciaaGreatDoor

/- The library's one variable. -/
namespace Go.Proofs.YthbonbcbbngciaaGreatDoor

/-- the library's one variable that is read holds an int -/
def Mx (w : World) : Prop := ∃ m : Int, w.cell? ⟨0, 0, none⟩ = some (.int .i64 m)
theorem mx_lt {w : World} {m : Int} (hm : w.cell? ⟨0, 0, none⟩ = some (.int .i64 m)) : 0 < w.heap.size := by
  unfold World.cell? at hm
  cases hh : w.heap[0]? with
  | none => rw [show (⟨0, 0, none⟩ : Addr).block = 0 from rfl, hh] at hm; cases hm
  | some o => exact (Array.getElem?_eq_some_iff.1 hh).1

end Go.Proofs.YthbonbcbbngciaaGreatDoor

/- Walks: a volume in a law: what it has, beside own variables; what all laws share. -/
namespace Go.Proofs.YthbonbcbbngciaaGreatDoor
open Go.RowKit Go.Shelf

def Nof (_ : Nat) : Prop := False
theorem Tl.belowW [MemNo] {x t c K : Nat} {S : List UInt8} {M : Gd.Vol} {w a : World} {Ls : List (Nat × Obj)} (h : Tl x t S M c K Nof w a Ls) : Below w.heap.size w a := by
  obtain ⟨F', h1, _⟩ := h
  exact h1.only.below (Nat.le_refl _) fun _ _ e => e
theorem Tl.next2 [MemNo] {x t c d K K2 : Nat} {S S2 : List UInt8} {M N : Gd.Vol} {F F1 : Nat → Prop} {w a b : World} {Ls : List (Nat × Obj)} (h1 : Step (MetaV x t S M c K) F w F1 a) (h2 : ∀ p ∈ Ls, w.heap.size ≤ p.1 ∧ ¬ F1 p.1 ∧ a.heap[p.1]? = some p.2) (ht : Turns x t S2 N d K2 F1 a b) : Tl x t S2 N d K2 F w b Ls := by
  obtain ⟨F2, s⟩ := ht
  refine ⟨F2, h1.trans s, fun p hp => ?_⟩
  obtain ⟨q1, q2, q3⟩ := h2 p hp
  obtain ⟨o1, o2⟩ := s.own (lt_get q3) q2
  exact ⟨q1, o2, o1.trans q3⟩
theorem Tl.of_step [MemNo] {x t c K f : Nat} {S : List UInt8} {M : Gd.Vol} {F4 F6 : Nat → Prop} {w a b : World} {o : Obj} (hb : Below w.heap.size w a) (hF : ∀ k, F4 k → w.heap.size ≤ k) (h : Step (MetaV x t S M c K) F4 a F6 b) (hf : a.heap[f]? = some o) (hfF : ¬ F4 f) (hfw : w.heap.size ≤ f) : Tl x t S M c K Nof w b [(f, o)] := by
  refine ⟨F6, ⟨h.inv, fun k hk h6 => ?_, (below_only hb Nof).trans h.only fun j hj hj2 => ?_⟩, fun p hp => ?_⟩
  · have := hF k (h.old k (Nat.lt_of_lt_of_le hk hb.size) h6)
    omega
  · have := hF j hj2
    omega
  · obtain rfl := List.mem_singleton.1 hp
    obtain ⟨o1, o2⟩ := h.own (lt_get hf) hfF
    exact ⟨hfw, o2, o1.trans hf⟩
theorem Tl.commit [MemNo] {x t c K : Nat} {S : List UInt8} {M : Gd.Vol} {F : Nat → Prop} {w a : World} {Ls : List (Nat × Obj)} (h : Tl x t S M c K F w a Ls) (hc : c ≤ 57) (hK : K < 600000000000) :
    Calls Tryz.prog 16 #[.pointer (some ⟨t, 0, none⟩)] a fun e b => e = .returned (.int .i64 0) ∧ ∃ S', Tl x t S' M 0 (K + 2000000) F w b Ls := by
  obtain ⟨F1, h1, h2⟩ := h
  refine (mcommit a h1.inv hc hK).mono ?_
  rintro e b ⟨rfl, S', ht⟩
  exact ⟨rfl, S', Tl.next2 h1 h2 ht⟩
theorem Tl.drop [MemNo] {x t c K : Nat} {S : List UInt8} {M M0 : Gd.Vol} {F : Nat → Prop} {w a : World} {Ls : List (Nat × Obj)} (h : Tl x t S M c K F w a Ls) (hG : Gd.Good S M0) :
    Calls Tryz.prog 29 #[.pointer (some ⟨t, 0, none⟩)] a fun e b => e = .returned (.tuple #[]) ∧ Tl x t S M0 0 K F w b Ls := by
  obtain ⟨F1, h1, h2⟩ := h
  refine (mdrop a h1.inv hG).mono ?_
  rintro e b ⟨rfl, ht⟩
  exact ⟨rfl, Tl.next2 h1 h2 ht⟩
theorem Tl.good [MemNo] {x t K : Nat} {S : List UInt8} {M : Gd.Vol} {F : Nat → Prop} {w a : World} {Ls : List (Nat × Obj)} (h : Tl x t S M 0 K F w a Ls) : Gd.Good S M := by
  obtain ⟨F1, h1, _⟩ := h
  exact h1.inv.good
theorem Tl.less [MemNo] {x t c K : Nat} {S : List UInt8} {M : Gd.Vol} {F : Nat → Prop} {w a : World} {Ls Ls' : List (Nat × Obj)} (h : Tl x t S M c K F w a Ls) (hL : ∀ p ∈ Ls', p ∈ Ls) : Tl x t S M c K F w a Ls' := by
  obtain ⟨F1, h1, h2⟩ := h
  exact ⟨F1, h1, fun p hp => h2 p (hL p hp)⟩
theorem txn_start [MemNo] {m sb lb ab n t g : Nat} {S : List UInt8} {w a : World} (hM : MemAt a m sb lb ab n S 0) (h1 : w.heap.size ≤ m ∧ w.heap.size ≤ sb ∧ w.heap.size ≤ lb ∧ w.heap.size ≤ ab) (hg1 : w.heap.size ≤ g) (hg : LogAt a g m 2688 4096)
    (ht1 : w.heap.size ≤ t) (ht : a.heap[t]? = some (.cells #[.pointer (some ⟨m, 0, none⟩), .pointer (some ⟨g, 0, none⟩), .slice none 0 0] 98 (0, 0))) (hmn : m = MemNo.no) : TxnF t S [] 0 a fun k => w.heap.size ≤ k :=
  ⟨m, g, .slice none 0 0, ⟨sb, lb, ab, n, hM, h1⟩, ⟨ht, World.ownsRow_nil _ _ _ _⟩, hg, ht1, hg1, (fun q hq => by cases hq), ⟨(fun p hp => by cases hp), (fun p hp => by cases hp), Nat.zero_le _⟩, hmn⟩
theorem meta_start [MemNo] {x t : Nat} {S : List UInt8} {w a : World} (h : TxnF t S [] 0 a fun k => w.heap.size ≤ k ∧ k < x) (hx1 : w.heap.size ≤ x) (hx : a.heap[x]? = some (.cells #[.pointer (some ⟨t, 0, none⟩)] 100 (0, 0))) (hS : S.length = 23168) (he : Gd.part S 2688 8 = Gd.le 0 8) : MetaF x t S [] 0 0 a fun k => w.heap.size ≤ k ∧ k < a.heap.size :=
  ⟨(TxnF.held t S [] 0).mono h fun k hk e => ⟨⟨e.1, hk⟩, by omega⟩, hx, ⟨hx1, lt_get hx⟩, hS, he, ⟨Nat.le_refl 0, fun _ hp => by cases hp⟩, fun k hk => hk.2⟩
theorem zeros_log : Gd.part (List.replicate 23168 0) 2688 8 = Gd.le 0 8 := by
  unfold Gd.part
  rw [List.drop_replicate, List.take_replicate]
  rfl

def cutN (s : ByteArray) (n : Nat) : ByteArray := if n < s.size then s.extract 0 n else s
theorem cutN_size (s : ByteArray) (n : Nat) : (cutN s n).size ≤ n := by
  unfold cutN
  split
  · rw [ByteArray.size_extract]
    omega
  · omega
section
variable {x t c K f : Nat} {S : List UInt8} {M : Gd.Vol} {F : Nat → Prop} {w a : World} {Ls : List (Nat × Obj)} {s : Nat → List UInt8}
theorem Tl.fmap [MemNo] (h : Tl x t S M c K F w a Ls) : Calls Tryz.prog 19 #[.pointer (some ⟨x, 0, none⟩)] a fun e W => e = .returned (mapV M.map) ∧ Below a.heap.size a W := by
  obtain ⟨F1, h1, h2⟩ := h
  exact map_any a h1.inv
theorem Tl.fino [MemNo] (h : Tl x t S M c K F w a Ls) (i : Int) (h1 : 1 ≤ i) (h2 : i ≤ 32) : Calls Tryz.prog 26 #[.pointer (some ⟨x, 0, none⟩), .int .i64 i] a fun e W => e = .returned (.tuple #[inoV (M.ino i.toNat), .int .i64 0]) ∧ Below a.heap.size a W := by
  obtain ⟨F1, k1, k2⟩ := h
  exact inode_ok i a k1.inv h1 h2
end
theorem i64_le {n : Int} (h : (Lit.int .i64 n).wf = true) : n ≤ 9223372036854775807 := by
  have : I64 n := h
  exact this.lo.2

end Go.Proofs.YthbonbcbbngciaaGreatDoor

/- Walks: how many descriptors a node has; blocks given back. -/
namespace Go.Proofs.YthbonbcbbngciaaGreatDoor
open Go.RowKit Go.Shelf

attribute [local go_sem] Oper.semAt_some

theorem sum_step {O : List Int} {k : Nat} {n : Int} (h : O[k]? = some n) : (O.take (k + 1)).sum = (O.take k).sum + n := by
  rw [List.take_add_one, h, List.sum_append]
  simp
theorem sum_rng {O : List Int} (hO : ∀ n ∈ O, 0 ≤ n ∧ n ≤ 8) : ∀ k, 0 ≤ (O.take k).sum ∧ (O.take k).sum ≤ 8 * k
  | 0 => by simp
  | k + 1 => by
    have h1 := sum_rng hO k
    by_cases hk : k < O.length
    · have hg : O[k]? = some O[k] := List.getElem?_eq_getElem hk
      have h2 := hO _ (List.mem_of_getElem? hg)
      rw [sum_step hg]
      omega
    · rw [List.take_of_length_le (by omega)] at h1 ⊢
      omega

set_option maxHeartbeats 8000000 in
set_option maxRecDepth 100000 in
theorem iopen_any (y : Gd.Ino) (hy : y.Shape) (hO : ∀ n ∈ y.O, 0 ≤ n ∧ n ≤ 8) (w : World) :
    Calls Tryz.prog 52 #[inoV y] w fun e w' => e = .returned (.int .i64 y.O.sum) ∧ Below w.heap.size w w' := by
  obtain ⟨hb0, hr0⟩ := below_new w (inoC y) 61
  obtain ⟨ib, hib⟩ : ∃ ib, ib = w.heap.size := ⟨_, rfl⟩
  obtain ⟨w0, hw0⟩ : ∃ u, u = w.alloc (.cells (inoC y) 61) := ⟨_, rfl⟩
  rw [← hw0, ← hib] at hr0
  rw [← hw0] at hb0
  have HI0 : Hid (InoAt w0 ib y) := Lib.hid ⟨hr0, hy⟩
  have HL : Hid ((intC y.O).length = 8) := Lib.hid (by rw [intC_len]; exact hy.2)
  have HO := Lib.hid hO
  have HSh := Lib.hid hy
  have HB0 := Lib.hid hb0
  have HW0 := Lib.hid hw0.symm
  have Hib := Lib.hid hib.symm
  have HAll : Hid (y.O.take 8 = y.O) := Lib.hid (List.take_of_length_le (by rw [hy.2]; exact Nat.le_refl _))
  clear hy hO hb0 hr0 hib hw0
  unfold inoV at *
  go_enter Tryz.func52, Tryz.ntmps52
  go_upto_region 2 with fail
  rw [HW0.out, Hib.out]
  go_upto_region 3 with (refine wpList_load_mid rfl 36 _ rfl ib 7 rfl (intC y.O) _ HI0.out.opens Tryz.underlying36 rfl (by rw [HL.out]; exact Tryz.size8) ?_)
  go_loopw [3, 8] (fun u z wr => ∃ k : Nat, z = .int .i64 k ∧ k ≤ 8 ∧ u = .int .i64 (y.O.take k).sum ∧ wr = w0) (fun _ z _ => 8 - (intOf z).toNat)
  case atStart => exact ⟨0, rfl, by omega, by simp, rfl⟩
  case round =>
    obtain ⟨k, rfl, hk, rfl, hwr⟩ := hrel
    subst hwr
    by_cases hlt : k < 8
    · obtain ⟨n, hn⟩ : ∃ n, y.O[k]? = some n := ⟨_, List.getElem?_eq_getElem (by rw [HSh.out.2]; omega)⟩
      have hc := run_index_one 36 3 8 (intC y.O).toArray .i64 .i64 k _ wr Tryz.underlying36 Tryz.underlying3 Tryz.infoInts hlt (by rw [List.getElem?_toArray]; exact intC_get hn)
      have h8 : (k : Int) < 8 := by omega
      have HSt := Lib.hid (sum_step hn)
      have hnr := HO.out n (List.mem_of_getElem? hn)
      have hsr := sum_rng HO.out k
      obtain ⟨q, hq⟩ : ∃ q, q = (y.O.take k).sum := ⟨_, rfl⟩
      rw [← hq] at HSt hsr ⊢
      obtain ⟨hn0, hn8⟩ := hnr
      obtain ⟨hs0, hs8⟩ := hsr
      have Hlt := Lib.hid hlt
      clear hn hq hlt
      go_wp2_with fail
      go_roundw
      case rel => exact ⟨k + 1, by go_num, by have := Hlt.out; omega, by rw [HSt.out], trivial⟩
      case measure => simp [intOf]; have := Hlt.out; omega
    · obtain rfl : k = 8 := by omega
      rw [HAll.out]
      clear hlt
      go_wp2_with fail
      go_ret
      exact ⟨rfl, HB0.out⟩

theorem fold_len : ∀ (L : List Int) (m : List UInt8), (L.foldl Gd.giveI m).length = m.length
  | [], _ => rfl
  | n :: r, m => by
    rw [List.foldl_cons, fold_len r]
    unfold Gd.giveI
    split
    · exact Gd.give_length _ _
    · rfl
theorem fold_step {L : List Int} {k : Nat} {n : Int} (m : List UInt8) (h : L[k]? = some n) : (L.take (k + 1)).foldl Gd.giveI m = Gd.giveI ((L.take k).foldl Gd.giveI m) n := by
  rw [List.take_add_one, h, List.foldl_append]
  rfl

set_option maxHeartbeats 8000000 in
set_option maxRecDepth 100000 in
/-- blocks of a row are given back -/
theorem mgive_any [MemNo] {x t c K : Nat} {S : List UInt8} {M : Gd.Vol} {F : Nat → Prop} (b o cp : Nat) (L : List Int) (w : World) (h : MetaV x t S M c K w F) (hc : c < 64) (hL : L.length ≤ 100) (hb : b < w.heap.size) (hA : ∀ (j : Nat) (n : Int), L[j]? = some n → w.cell? ⟨b, o + j, none⟩ = some (.int .i64 n)) :
    Calls Tryz.prog 126 #[.pointer (some ⟨x, 0, none⟩), .slice (some ⟨b, o, none⟩) L.length cp] w fun e w' => e = .returned (.int .i64 0) ∧ Turns x t S (M.setMap (L.foldl Gd.giveI M.map)) (c + 1) K F w w' := by
  have hml : M.map.length = 16 := by
    obtain ⟨P, h, hG⟩ := h
    exact hG.mapl
  have HMp := Lib.hid (map_any w h)
  obtain ⟨m, hmm⟩ : ∃ m, m = M.map := ⟨_, rfl⟩
  rw [← hmm] at hml HMp ⊢
  have HM := Lib.hid h
  have HAt := Lib.hid hA
  have Hb := Lib.hid hb
  have HC := Lib.hid hc
  obtain ⟨l, hl⟩ : ∃ l, l = L.length := ⟨_, rfl⟩
  have Hl := Lib.hid hl
  rw [← hl] at hL ⊢
  have hl2 : (l : Int) ≤ 100 := by omega
  obtain ⟨Z, hZ⟩ : ∃ Z : Array Value, Z = #[.int .u8 0, .int .u8 0, .int .u8 0, .int .u8 0, .int .u8 0, .int .u8 0, .int .u8 0, .int .u8 0, .int .u8 0, .int .u8 0, .int .u8 0, .int .u8 0, .int .u8 0, .int .u8 0, .int .u8 0, .int .u8 0] := ⟨_, rfl⟩
  have HZs : Hid (Z.size = 16) := Lib.hid (by rw [hZ]; rfl)
  have HZ := Lib.hid hZ.symm
  have HS := Lib.hid (cellsB_len hml)
  have HSk : Hid (∀ k, (cellsB ((L.take k).foldl Gd.giveI m)).size = 16) := Lib.hid fun k => cellsB_len (by rw [fold_len]; exact hml)
  have HGv : Hid (∀ k n W, Calls Tryz.prog 164 #[mapV ((L.take k).foldl Gd.giveI m), .int .i64 n] W fun e w' => e = .returned (mapV (Gd.giveI ((L.take k).foldl Gd.giveI m) n)) ∧ Below W.heap.size W w') := Lib.hid fun k n W => give_any _ (by rw [fold_len]; exact hml) n W
  have HSm : Hid (∀ W, Below w.heap.size w W → Calls Tryz.prog 45 #[.pointer (some ⟨x, 0, none⟩), mapV (L.foldl Gd.giveI m)] W fun e w' => e = .returned (.int .i64 0) ∧ Turns x t S (M.setMap (L.foldl Gd.giveI m)) (c + 1) K F w w') := Lib.hid fun W hW => by
    refine (setmap_any _ (by rw [fold_len]; exact hml) W (HM.out.below hW) HC.out).mono ?_
    rintro e w' ⟨he, ht⟩
    exact ⟨he, ht.behind hW⟩
  have HAll : Hid (L.take l = L) := Lib.hid (by rw [hl, List.take_length])
  unfold mapV at *
  clear h hmm hZ hl hml hA hb hc
  go_enter Tryz.func126, Tryz.ntmps126
  go_wp2_with fail
  refine HMp.out.mono ?_
  rintro e w1 ⟨rfl, hb1⟩
  obtain ⟨hb2, hn2⟩ := below_new w1 Z 45
  obtain ⟨w2, hw2⟩ : ∃ u, u = w1.alloc (.cells Z 45) := ⟨_, rfl⟩
  obtain ⟨mb, hbe⟩ : ∃ b, b = w1.heap.size := ⟨_, rfl⟩
  rw [← hw2, ← hbe] at hn2
  rw [← hw2] at hb2
  obtain ⟨hb3, hn3⟩ := whole_at hn2 (vs := (cellsB m).toList) (B := mb) (by rw [HZs.out, Array.length_toList, HS.out]) (Nat.le_refl mb)
  obtain ⟨w3, hw3⟩ : ∃ u, u = w2.setCells mb 0 (cellsB m).toList := ⟨_, rfl⟩
  rw [← hw3] at hb3 hn3
  have HN2 := Lib.hid hn2
  have HN3 : Hid (w3.heap[mb]? = some (.cells (cellsB m) 45 (0, 0))) := Lib.hid hn3
  have HB3 : Hid (Below w.heap.size w w3) := Lib.hid (by
    have h1 := hb1.size
    have h2 := hb2.size
    have h3 : w1.heap.size ≤ mb := by omega
    exact (hb1.trans (hb2.mono h1)).trans (hb3.mono (by omega)))
  have Hmb : Hid (w.heap.size ≤ mb) := Lib.hid (by rw [hbe]; exact hb1.size)
  have Hbe := Lib.hid hbe.symm
  have HW2 := Lib.hid hw2.symm
  have HW3 := Lib.hid hw3.symm
  rw [← HZ.out] at HW2
  clear hb1 hb2 hn2 hw2 hbe hb3 hn3 hw3 HMp
  go_upto_region 3 with (refine wpList_store_mid rfl 45 _ _ rfl mb 0 (cellsB m) (by rw [← Hbe.out]; rfl) rfl (by rw [HW2.out]; exact there_at HN2.out (by rw [HZs.out, HS.out])) (by rw [HS.out]; exact Tryz.sizeMap) (cellsB_one _) ?_; rw [HW2.out, HW3.out])
  rw [Hbe.out]
  go_loopw [12] (fun z wr => ∃ k : Nat, z = .int .i64 k ∧ k ≤ l ∧ Hid (wr.heap[mb]? = some (.cells (cellsB ((L.take k).foldl Gd.giveI m)) 45 (0, 0))) ∧ Hid (Below w.heap.size w wr)) (fun z _ => l - (intOf z).toNat)
  case atStart => exact ⟨0, rfl, by omega, HN3, HB3⟩
  case round =>
    obtain ⟨k, rfl, hk, HN, HB⟩ := hrel
    by_cases hlt : k < l
    · obtain ⟨n, hn⟩ : ∃ n, L[k]? = some n := ⟨_, List.getElem?_eq_getElem (by rw [← Hl.out]; exact hlt)⟩
      have c0 : wr.cell? ⟨b, o + k, none⟩ = some (.int .i64 n) := (HB.out.cell (p := ⟨b, o + k, none⟩) Hb.out).trans (HAt.out k n hn)
      have h1 : (k : Int) < l := by omega
      have h0 : (0 : Int) ≤ k := by omega
      have HSt := Lib.hid (fold_step m hn)
      have Hlt := Lib.hid hlt
      have HSz := Lib.hid (HSk.out k)
      have HSz1 := Lib.hid (HSk.out (k + 1))
      have HGc := Lib.hid (HGv.out k n wr)
      rw [← HSt.out] at HGc
      clear hn hlt
      go_wp2_with (refine wpList_load_row rfl 45 _ rfl mb rfl 45 (cellsB ((L.take k).foldl Gd.giveI m)) (0, 0) _ HN.out Tryz.underlying45 rfl (by rw [HSz.out]; exact Tryz.sizeMap) ?_)
      refine HGc.out.mono ?_
      rintro e w4 ⟨rfl, hb4⟩
      have HN4 := Lib.hid ((hb4.block mb (lt_get HN.out)).trans HN.out)
      have HB4 := Lib.hid (HB.out.trans (hb4.mono HB.out.size))
      clear hb4 c0 HGc
      go_wp2_with (refine wpList_store_mid rfl 45 _ _ rfl mb 0 (cellsB ((L.take (k + 1)).foldl Gd.giveI m)) rfl rfl (there_at HN4.out (by rw [HSz.out, HSz1.out])) (by rw [HSz1.out]; exact Tryz.sizeMap) (cellsB_one _) ?_; obtain ⟨hbw, hbg⟩ := whole_at HN4.out (vs := (cellsB ((L.take (k + 1)).foldl Gd.giveI m)).toList) (B := mb) (by rw [HSz.out, Array.length_toList, HSz1.out]) (Nat.le_refl mb); generalize (World.setCells _ _ _ _) = w5 at hbw hbg ⊢)
      have HN5 : Hid (w5.heap[mb]? = some (.cells (cellsB ((L.take (k + 1)).foldl Gd.giveI m)) 45 (0, 0))) := Lib.hid hbg
      have HB5 := Lib.hid (HB4.out.trans (hbw.mono Hmb.out))
      clear hbw hbg
      go_roundw
      case rel => exact ⟨k + 1, by go_num, by have := Hlt.out; omega, HN5, HB5⟩
      case measure => simp [intOf]; have := Hlt.out; omega
    · obtain rfl : k = l := by omega
      rw [HAll.out] at HN
      have HSz := Lib.hid (HSk.out k)
      rw [HAll.out] at HSz
      have HSc := Lib.hid (HSm.out wr HB.out)
      clear hlt
      go_wp2_with (refine wpList_load_row rfl 45 _ rfl mb rfl 45 (cellsB (L.foldl Gd.giveI m)) (0, 0) _ HN.out Tryz.underlying45 rfl (by rw [HSz.out]; exact Tryz.sizeMap) ?_)
      refine HSc.out.mono ?_
      rintro e w4 ⟨rfl, ht⟩
      go_wp2
      go_ret
      exact ⟨rfl, ht⟩

end Go.Proofs.YthbonbcbbngciaaGreatDoor

/- Walks: a name that is not there; a name taken out; a node kept, or let go. -/
namespace Go.Proofs.YthbonbcbbngciaaGreatDoor
open Go.RowKit Go.Shelf

attribute [local go_sem] Oper.semAt_some

set_option maxHeartbeats 8000000 in
set_option maxRecDepth 100000 in
theorem find_no [MemNo] {x t c K d : Nat} {S : List UInt8} {M : Gd.Vol} {T : Gd.Tab} {F : Nat → Prop} (s : List UInt8) (w : World) (h : MetaV x t S M c K w F) (hD : Gd.DirOf M d T) (hs : s.length ≤ 1000) (hne : s ≠ []) (hf : Gd.findT T s (Gd.hN s) = none) :
    Calls Tryz.prog 98 #[.pointer (some ⟨x, 0, none⟩), .int .i64 d, .string ⟨s.toArray⟩] w fun e w' => e = .returned (.tuple #[.int .i64 0, .int .i64 0]) ∧ Below w.heap.size w w' := by
  have HTb := Lib.hid (tableI_dir w h hD)
  have HTs := Lib.hid (tabC_size hD.ok.len)
  have HFi := Lib.hid fun W => tfind_any T hD.ok.len ⟨s.toArray⟩ (by rw [Lib.size_eq]; show s.length ≤ _; omega) hne (Gd.hN s) rfl W
  rw [show (⟨s.toArray⟩ : ByteArray).data.toList = s from rfl, hf, show numO none = -1 from rfl] at HFi
  obtain ⟨sb, hsb⟩ : ∃ sb : ByteArray, sb = ⟨s.toArray⟩ := ⟨_, rfl⟩
  rw [← hsb] at HFi ⊢
  clear h hD hs hne hf hsb
  unfold tabV at *
  go_enter Tryz.func98, Tryz.ntmps98
  go_upto_region 2 with (first | (go_at_call 35; refine HTb.out.mono ?_; rintro e w2 ⟨rfl, hb2⟩; have HB2 := Lib.hid hb2; clear hb2) | (rw [← zTab]; refine wpList_store_mid rfl 83 _ _ rfl w2.heap.size 0 (tabC T) rfl rfl (there_at (heap_alloc_new _ _) (by rw [noTab_size, HTs.out])) (by rw [HTs.out]; exact Tryz.sizeTab) (tabC_one _) ?_; obtain ⟨hbw, hbg⟩ := new_whole2 w2 (tabC Gd.noTab) 83 (tabC T).toList (by rw [noTab_size, Array.length_toList, HTs.out]); generalize (World.setCells _ _ _ _) = w3 at hbw hbg ⊢; have HN3 : Hid (w3.heap[w2.heap.size]? = some (.cells (tabC T) 83 (0, 0))) := Lib.hid hbg; have HB3 := Lib.hid (HB2.out.trans (hbw.mono HB2.out.size)); clear hbw hbg))
  go_wp2_with (first | (refine wpList_load_row rfl 83 _ rfl w2.heap.size rfl 83 (tabC T) (0, 0) _ HN3.out Tryz.underlying83 rfl (by rw [HTs.out]; exact Tryz.sizeTab) ?_) | (go_at_call 36; refine (HFi.out w3).mono ?_; rintro e w4 ⟨rfl, hb4⟩; have HB4 := Lib.hid (HB3.out.trans (hb4.mono HB3.out.size)); clear hb4))
  go_ret2
  exact ⟨rfl, HB4.out⟩

set_option maxHeartbeats 8000000 in
set_option maxRecDepth 100000 in
/-- a name is taken out, where it is: what change does, at the table without it -/
theorem take_ok [MemNo] {x t c K d : Nat} {S : List UInt8} {M : Gd.Vol} {T : Gd.Tab} {F : Nat → Prop} (s : List UInt8) (r : Int) (j : Fin 16) (w : World) (R : World → Prop) (h : MetaV x t S M c K w F) (hD : Gd.DirOf M d T) (hs : s.length ≤ 1000) (hne : s ≠ []) (hj : Gd.findT T s (Gd.hN s) = some j)
    (hC : ∀ W, Below w.heap.size w W → Calls Tryz.prog 161 #[.pointer (some ⟨x, 0, none⟩), .int .i64 d, .int .i64 (j.val : Nat), tabV (Gd.setT T j.val Gd.noEnt), .int .i64 (-1), .int .i64 0] W fun e w' => e = .returned (.int .i64 r) ∧ R w') :
    Calls Tryz.prog 125 #[.pointer (some ⟨x, 0, none⟩), .int .i64 d, .string ⟨s.toArray⟩] w fun e w' => e = .returned (.int .i64 r) ∧ R w' := by
  have HTb := Lib.hid (tableI_dir w h hD)
  have HTs := Lib.hid (tabC_size hD.ok.len)
  have HPl := Lib.hid fun W => tfind_any T hD.ok.len ⟨s.toArray⟩ (by rw [Lib.size_eq]; show s.length ≤ _; omega) hne (Gd.hN s) rfl W
  rw [show (⟨s.toArray⟩ : ByteArray).data.toList = s from rfl, hj] at HPl
  have HSt := Lib.hid fun W => tset_any T hD.ok.len j.val j.isLt Gd.noEnt W
  have HC := Lib.hid hC
  obtain ⟨k, hk⟩ : ∃ k, k = j.val := ⟨_, rfl⟩
  have hnk : numO (some j) = (k : Int) := by rw [hk]; rfl
  have hk16 : (k : Int) < 16 := by have := j.isLt; omega
  have hk0 : (0 : Int) ≤ k := by omega
  rw [← hk] at HSt HC
  rw [hnk] at HPl
  obtain ⟨T2, hT2⟩ : ∃ T2, T2 = Gd.setT T k Gd.noEnt := ⟨_, rfl⟩
  rw [← hT2] at HSt HC
  have HSt2 : Hid (∀ W, Calls Tryz.prog 162 #[tabV T, .int .i64 k, .agg #[.string ⟨#[]⟩, .int .i64 0]] W fun x w' => x = .returned (tabV T2) ∧ Below W.heap.size W w') := Lib.hid fun W => HSt.out W
  obtain ⟨sb, hsb⟩ : ∃ sb : ByteArray, sb = ⟨s.toArray⟩ := ⟨_, rfl⟩
  rw [← hsb] at HPl ⊢
  clear h hD hs hj hC hk hnk hT2 hsb hne HSt
  unfold tabV at *
  go_enter Tryz.func125, Tryz.ntmps125
  go_upto_region 2 with (first | (go_at_call 35; refine HTb.out.mono ?_; rintro e w2 ⟨rfl, hb2⟩; have HB2 := Lib.hid hb2; clear hb2) | (rw [← zTab]; refine wpList_store_mid rfl 83 _ _ rfl w2.heap.size 0 (tabC T) rfl rfl (there_at (heap_alloc_new _ _) (by rw [noTab_size, HTs.out])) (by rw [HTs.out]; exact Tryz.sizeTab) (tabC_one _) ?_; obtain ⟨hbw, hbg⟩ := new_whole2 w2 (tabC Gd.noTab) 83 (tabC T).toList (by rw [noTab_size, Array.length_toList, HTs.out]); generalize (World.setCells _ _ _ _) = w3 at hbw hbg ⊢; have HN3 : Hid (w3.heap[w2.heap.size]? = some (.cells (tabC T) 83 (0, 0))) := Lib.hid hbg; have HB3 := Lib.hid (HB2.out.trans (hbw.mono HB2.out.size)); clear hbw hbg))
  go_upto_region 7 with (first | (refine wpList_load_row rfl 83 _ rfl w2.heap.size rfl 83 (tabC T) (0, 0) _ HN3.out Tryz.underlying83 rfl (by rw [HTs.out]; exact Tryz.sizeTab) ?_) | (go_at_call 36; refine (HPl.out w3).mono ?_; rintro e w4 ⟨rfl, hb4⟩; have HB4 := Lib.hid (HB3.out.trans (hb4.mono HB3.out.size)); have HN4 := Lib.hid ((hb4.block _ (lt_get HN3.out)).trans HN3.out); clear hb4))
  go_wp2_with (first | (refine wpList_load_row rfl 83 _ rfl w2.heap.size rfl 83 (tabC T) (0, 0) _ HN4.out Tryz.underlying83 rfl (by rw [HTs.out]; exact Tryz.sizeTab) ?_) | (go_at_call 162; refine (HSt2.out w4).mono ?_; rintro e w5 ⟨rfl, hb5⟩; have HCc := Lib.hid (HC.out w5 (HB4.out.trans (hb5.mono HB4.out.size))); clear hb5) | (go_at_call 161; refine HCc.out.mono ?_; rintro e w6 ⟨rfl, hr6⟩))
  go_ret
  exact ⟨rfl, hr6⟩

/-- an array of blocks as a row -/
theorem slice_arr (b o : Nat) (w : World) : (Instr.sliceAt 59 (.pointer (some ⟨b, o, none⟩)) none none none).run Tryz.prog w = .ok (.slice (some ⟨b, o, none⟩) 4 4) w := by
  simp [go_sem, Instr.sliceAt, Instr.sliceBounds, Program.arrayLen, Tryz.underlying59, slicedAt, Program.elem, Addr.add]

end Go.Proofs.YthbonbcbbngciaaGreatDoor

/- Walks: metadata: keep, less, Close. -/
namespace Go.Proofs.YthbonbcbbngciaaGreatDoor
open Go.RowKit Go.Shelf

attribute [local go_sem] Oper.semAt_some

theorem run_loadAt_ino {w : World} {b t : Nat} {C : Array Value} (h : w.heap[b]? = some (.cells C t (0, 0))) (hs : C.size = 15) : (Instr.loadAt 61 (.pointer (some ⟨b, 0, none⟩))).run Tryz.prog w = .ok (.agg C) w := by
  have hr : w.rangeAt b 0 C.toList := fun j v hj => by
    rw [Nat.zero_add, cell_of_row w b j _ _ _ h]
    simpa using hj
  have := run_loadAt_mid (P := Tryz.prog) w b 0 61 C.toList _ hr Tryz.underlying61 rfl (by rw [Array.length_toList, hs]; exact Tryz.sizeIno)
  rw [this]

set_option maxHeartbeats 8000000 in
set_option maxRecDepth 100000 in
theorem keep_set [MemNo] {x t c K : Nat} {S : List UInt8} {M : Gd.Vol} {F : Nat → Prop} (i : Nat) (y : Gd.Ino) (hy : y.Shape) (hm : Gd.mayI y = true) (w : World) (h : MetaV x t S M c K w F) (h1 : 1 ≤ i) (h2 : i ≤ 32) (hc : c < 64) (hk : 0 < y.l ∨ 0 < y.O.sum) :
    Calls Tryz.prog 71 #[.pointer (some ⟨x, 0, none⟩), .int .i64 i, inoV y] w fun e w' => e = .returned (.int .i64 0) ∧ Turns x t S (M.setIno i y) (c + 1) K F w w' := by
  obtain ⟨hb0, hr0⟩ := below_new w (inoC y) 61
  obtain ⟨yb, hyb⟩ : ∃ yb, yb = w.heap.size := ⟨_, rfl⟩
  obtain ⟨w0, hw0⟩ : ∃ u, u = w.alloc (.cells (inoC y) 61) := ⟨_, rfl⟩
  rw [← hw0, ← hyb] at hr0
  rw [← hw0] at hb0
  have HIr := Lib.hid hr0
  have hI0 : InoAt w0 yb y := ⟨hr0, hy⟩
  have b1 := hI0.c1
  have HB0 := Lib.hid hb0
  have HS := Lib.hid (inoC_size hy)
  have HOp := Lib.hid fun W => iopen_any y hy (fun n hn => by have := (Gd.mayI_in hm).O n hn; omega) W
  have HSi : Hid (∀ W, Below w.heap.size w W → Calls Tryz.prog 46 #[.pointer (some ⟨x, 0, none⟩), .int .i64 i, inoV y] W fun e w' => e = .returned (.int .i64 0) ∧ Turns x t S (M.setIno i y) (c + 1) K F w w') := Lib.hid fun W hW => by
    have := setino_ok (i : Int) y hy hm W (h.below hW) (by omega) (by omega) hc
    rw [Int.toNat_natCast] at this
    refine this.mono ?_
    rintro e w' ⟨he, ht⟩
    exact ⟨he, ht.behind hW⟩
  have HW0 := Lib.hid hw0.symm
  have Hyb := Lib.hid hyb.symm
  obtain ⟨q, hq⟩ : ∃ q, q = y.O.sum := ⟨_, rfl⟩
  obtain ⟨l, hl⟩ : ∃ l, l = y.l := ⟨_, rfl⟩
  rw [← hq] at HOp hk
  rw [← hl] at hk b1
  clear h hy hm h1 h2 hc hb0 hr0 hyb hw0 hI0 hq hl
  unfold inoV at *
  go_enter Tryz.func71, Tryz.ntmps71
  go_upto_region 1 with fail
  rw [HW0.out, Hyb.out]
  by_cases hl0 : 0 < l
  · have HSc := Lib.hid (HSi.out w0 HB0.out)
    clear hk
    go_wp2_with (first | (refine wpList_load_row rfl 61 _ rfl yb rfl 61 (inoC y) (0, 0) _ HIr.out Tryz.underlying61 rfl (by rw [HS.out]; exact Tryz.sizeIno) ?_) | (go_at_call 46; refine HSc.out.mono ?_; rintro e w3 ⟨rfl, ht3⟩))
    go_ret
    exact ⟨rfl, ht3⟩
  · have hq0 : 0 < q := hk.resolve_left hl0
    have hlg := run_loadAt_ino HIr.out HS.out
    clear hk
    go_upto_region 2 with (first | (refine wpList_load_guarded _ _ rfl (by rfl) 61 _ rfl (.pointer (some ⟨yb, 0, none⟩)) (.agg (inoC y)) rfl hlg ?_) | (go_at_call 52; refine (HOp.out w0).mono ?_; rintro e w2 ⟨rfl, hb2⟩; have HI2 := Lib.hid ((hb2.block yb (lt_get HIr.out)).trans HIr.out); have HSc := Lib.hid (HSi.out w2 (HB0.out.trans (hb2.mono HB0.out.size))); clear hb2))
    go_wp2_with (first | (refine wpList_load_row rfl 61 _ rfl yb rfl 61 (inoC y) (0, 0) _ HI2.out Tryz.underlying61 rfl (by rw [HS.out]; exact Tryz.sizeIno) ?_) | (go_at_call 46; refine HSc.out.mono ?_; rintro e w3 ⟨rfl, ht3⟩))
    go_ret
    exact ⟨rfl, ht3⟩

set_option maxHeartbeats 8000000 in
set_option maxRecDepth 100000 in
theorem keep_go [MemNo] {x t c K : Nat} {S : List UInt8} {M : Gd.Vol} {F : Nat → Prop} (i : Nat) (y : Gd.Ino) (hy : y.Shape) (hO : ∀ n ∈ y.O, 0 ≤ n ∧ n ≤ 8) (w : World) (h : MetaV x t S M c K w F) (h1 : 1 ≤ i) (h2 : i ≤ 32) (hc : c + 1 < 64) (hk : y.l = 0 ∧ y.O.sum = 0) :
    Calls Tryz.prog 71 #[.pointer (some ⟨x, 0, none⟩), .int .i64 i, inoV y] w fun e w' => e = .returned (.int .i64 0) ∧ Turns x t S ((M.setMap (y.B.foldl Gd.giveI M.map)).setIno i Gd.noIno) (c + 2) K F w w' := by
  obtain ⟨hb0, hr0⟩ := below_new w (inoC y) 61
  obtain ⟨yb, hyb⟩ : ∃ yb, yb = w.heap.size := ⟨_, rfl⟩
  obtain ⟨w0, hw0⟩ : ∃ u, u = w.alloc (.cells (inoC y) 61) := ⟨_, rfl⟩
  rw [← hw0, ← hyb] at hr0
  rw [← hw0] at hb0
  have HIr := Lib.hid hr0
  have hI0 : InoAt w0 yb y := ⟨hr0, hy⟩
  have b1 := hI0.c1
  rw [hk.1] at b1
  have HB0 := Lib.hid hb0
  have HS := Lib.hid (inoC_size hy)
  have HOp := Lib.hid fun W => iopen_any y hy hO W
  rw [hk.2] at HOp
  have HGv : Hid (∀ W, Below w0.heap.size w0 W → Calls Tryz.prog 126 #[.pointer (some ⟨x, 0, none⟩), .slice (some ⟨yb, 3, none⟩) 4 4] W fun e w' => e = .returned (.int .i64 0) ∧ Turns x t S (M.setMap (y.B.foldl Gd.giveI M.map)) (c + 1) K F w w') := Lib.hid fun W hW => by
    have hIW := hI0.keep hW
    have := mgive_any yb 3 4 y.B W (h.below (hb0.trans (hW.mono hb0.size))) (by omega) (by rw [hy.1]; omega) (lt_get hIW.row) (fun j n hj => (hIW.cB hj).1)
    rw [hy.1] at this
    refine this.mono ?_
    rintro e w' ⟨he, ht⟩
    exact ⟨he, ht.behind (hb0.trans (hW.mono hb0.size))⟩
  have HSi : Hid (∀ W, Turns x t S (M.setMap (y.B.foldl Gd.giveI M.map)) (c + 1) K F w W → Calls Tryz.prog 46 #[.pointer (some ⟨x, 0, none⟩), .int .i64 i, inoV Gd.noIno] W fun e w' => e = .returned (.int .i64 0) ∧ Turns x t S ((M.setMap (y.B.foldl Gd.giveI M.map)).setIno i Gd.noIno) (c + 2) K F w w') := Lib.hid fun W hW => by
    obtain ⟨F1, s1⟩ := hW
    have := setino_ok (i : Int) Gd.noIno noIno_shape (by decide) W s1.inv (by omega) (by omega) (by omega)
    rw [Int.toNat_natCast] at this
    refine this.mono ?_
    rintro e w' ⟨he, F2, s2⟩
    exact ⟨he, F2, s1.trans s2⟩
  have HW0 := Lib.hid hw0.symm
  have Hyb := Lib.hid hyb.symm
  have hlg := run_loadAt_ino HIr.out HS.out
  have hsl := fun W => slice_arr yb 3 W
  clear h hy hO h1 h2 hc hb0 hr0 hyb hw0 hI0 hk
  unfold inoV at *
  go_enter Tryz.func71, Tryz.ntmps71
  go_upto_region 1 with fail
  rw [HW0.out, Hyb.out]
  go_upto_region 3 with (first | (refine wpList_load_guarded _ _ rfl (by rfl) 61 _ rfl (.pointer (some ⟨yb, 0, none⟩)) (.agg (inoC y)) rfl hlg ?_) | (go_at_call 52; refine (HOp.out w0).mono ?_; rintro e w2 ⟨rfl, hb2⟩; have HGc := Lib.hid (HGv.out w2 hb2); clear hb2))
  go_wp2_with (first | (go_at_call 126; refine HGc.out.mono ?_; rintro e w3 ⟨rfl, ht3⟩; have HSc := Lib.hid (HSi.out w3 ht3); clear ht3) | (go_at_call 46; refine HSc.out.mono ?_; rintro e w4 ⟨rfl, ht4⟩))
  go_ret
  exact ⟨rfl, ht4⟩

end Go.Proofs.YthbonbcbbngciaaGreatDoor
