/- Walks: a file is opened that is not there: with a new block, and over one. -/
import Derived.Test.YtccpdkjonepoiaaGreatDoorW15
import Derived.Test.YtccpdkjonepoiaaGreatDoorW00
import Derived.Test.YtccpdkjonepoiaaGreatDoorW01
import Derived.Test.YtccpdkjonepoiaaGreatDoorW08
import Derived.SliceStrings
import Derived.Test.YtccpdkjonepoiaaGreatDoorW05
set_option linter.unusedVariables false
set_option linter.unusedSimpArgs false
set_option linter.unusedSectionVars false
namespace Go.Proofs.YtccpdkjonepoiaaGreatDoor
open Go.RowKit Go.Shelf

theorem ent_may {nm : List UInt8} {i : Nat} (hn : Np.nameB nm = true) (h1 : 1 ≤ i) (h2 : i ≤ 32) : (⟨nm, i⟩ : Gd.Ent).May := Or.inr ⟨hn, h1, h2⟩
theorem ent_not {nm : List UInt8} {i : Nat} (h1 : 1 ≤ i) : (⟨nm, i⟩ : Gd.Ent) ≠ Gd.noEnt := fun e => by
  have : i = 0 := congrArg Gd.Ent.i e
  omega

theorem bopen_new [MemNo] {x t cc K c : Nat} {S : List UInt8} {M : Gd.Vol} {T : Gd.Tab} {B : List Int} {m : List UInt8} {F : Nat → Prop} (nm : List UInt8) (j : Fin 16) (mx : Int) (w : World) (h : MetaV x t S M cc K w F) (hBg : Gd.Began M T c B m) (hc : c + 1 ≤ 16) (hcc : cc + 12 < 64)
    (hmx : w.cell? ⟨0, 0, none⟩ = some (.int .i64 mx)) (hml : 0 < w.heap.size)
    (hn : Np.nameB nm = true) (hp : Np.pathL (47 :: nm) = some [nm]) (hf : Gd.findT T nm (Gd.hN nm) = none) (hj : Gd.placeT T (Gd.hN nm) = some j)
    (hB : B[j.val / 4]? = some 0) (hfs : Gd.countB m < 128) (hmay : Gd.mayI (Gd.rootN c (B.set (j.val / 4) (Gd.firstB m : Int))) = true) :
    ∃ N, (Gd.Began N (Gd.setT T j.val ⟨nm, c + 2⟩) (c + 1) (B.set (j.val / 4) (Gd.firstB m : Int)) (Gd.takeB m (Gd.firstB m)) ∧ N.head = M.head ∧ N.logs = M.logs) ∧ Calls Tryz.prog 50 #[.pointer (some ⟨x, 0, none⟩), .int .i64 1, .string ⟨(47 :: nm).toArray⟩, .int .i64 1, .bool false, .int .i64 0] w fun e w' => e = .returned (.tuple #[.int .i64 ((c + 2 : Nat) : Int), .int .i64 0]) ∧ Turns x t S N (cc + 5) K F w w' := by
  have hOk := (hBg.tree.dir 1 (by omega) (by omega) hBg.tree.root).ok
  have hr : ((M.setIno (c + 2) (newF.setO 0 1)).ino 1) = ⟨2, 1, c, B, [0, 0, 0, 0, 0, 0, 0, 0]⟩ := by
    show (if 1 = c + 2 then newF.setO 0 1 else M.ino 1) = _
    rw [if_neg (by omega)]
    exact hBg.root
  have hm : (M.setIno (c + 2) (newF.setO 0 1)).map = m := hBg.map
  have hy : ((((M.setIno (c + 2) (newF.setO 0 1)).ino 1).setB (j.val / 4) (Gd.firstB (M.setIno (c + 2) (newF.setO 0 1)).map)).setS (((M.setIno (c + 2) (newF.setO 0 1)).ino 1).s + 1)) = Gd.rootN c (B.set (j.val / 4) (Gd.firstB m : Int)) := by
    rw [hr, hm]
    rfl
  refine ⟨_, ⟨Gd.began_new hBg (by omega) j.isLt (ent_may hn (by omega) (by omega)) (ent_not (by omega)) rfl hB hfs, rfl, rfl⟩, ?_⟩
  refine bopen (dd := cc + 5) nm j mx w h hBg (by omega) (by omega) hmx hml hn hp hf hj fun W F1 h1 => ?_
  have := change_new (a := j.val) (d := 1) (Gd.setT T j.val ⟨nm, c + 2⟩) 1 0 W h1 (by omega) (by omega) j.isLt (hOk.set (ent_may hn (by omega) (by omega))) (Gd.usedT_set hOk.len j.isLt (ent_not (by omega))) (by rw [hr]; exact hB) (by rw [hm]; omega) (by rw [hy]; exact hmay) (by rw [hr]; show 0 ≤ (c : Int) + 1 ∧ (c : Int) + 1 ≤ 16; omega) (by omega)
  rw [hy, hm] at this
  exact this

theorem bopen_over [MemNo] {x t cc K c : Nat} {S : List UInt8} {M : Gd.Vol} {T : Gd.Tab} {B : List Int} {m : List UInt8} {F : Nat → Prop} (nm : List UInt8) (j : Fin 16) (n : Nat) (mx : Int) (w : World) (h : MetaV x t S M cc K w F) (hBg : Gd.Began M T c B m) (hc : c + 1 ≤ 16) (hcc : cc + 12 < 64)
    (hmx : w.cell? ⟨0, 0, none⟩ = some (.int .i64 mx)) (hml : 0 < w.heap.size)
    (hn : Np.nameB nm = true) (hp : Np.pathL (47 :: nm) = some [nm]) (hf : Gd.findT T nm (Gd.hN nm) = none) (hj : Gd.placeT T (Gd.hN nm) = some j)
    (hB : B[j.val / 4]? = some (n : Int)) (n1 : 1 ≤ n) (n2 : n ≤ 128) (hmay : Gd.mayI (Gd.rootN c B) = true) :
    ∃ N, (Gd.Began N (Gd.setT T j.val ⟨nm, c + 2⟩) (c + 1) B m ∧ N.head = M.head ∧ N.logs = M.logs) ∧ Calls Tryz.prog 50 #[.pointer (some ⟨x, 0, none⟩), .int .i64 1, .string ⟨(47 :: nm).toArray⟩, .int .i64 1, .bool false, .int .i64 0] w fun e w' => e = .returned (.tuple #[.int .i64 ((c + 2 : Nat) : Int), .int .i64 0]) ∧ Turns x t S N (cc + 3) K F w w' := by
  have hOk := (hBg.tree.dir 1 (by omega) (by omega) hBg.tree.root).ok
  have hr : ((M.setIno (c + 2) (newF.setO 0 1)).ino 1) = ⟨2, 1, c, B, [0, 0, 0, 0, 0, 0, 0, 0]⟩ := by
    show (if 1 = c + 2 then newF.setO 0 1 else M.ino 1) = _
    rw [if_neg (by omega)]
    exact hBg.root
  have hy : (((M.setIno (c + 2) (newF.setO 0 1)).ino 1).setS (((M.setIno (c + 2) (newF.setO 0 1)).ino 1).s + 1)) = Gd.rootN c B := by
    rw [hr]
    rfl
  refine ⟨_, ⟨Gd.began_over hBg (by omega) j.isLt (ent_may hn (by omega) (by omega)) (ent_not (by omega)) rfl hB n1 n2, rfl, rfl⟩, ?_⟩
  refine bopen (dd := cc + 3) nm j mx w h hBg (by omega) (by omega) hmx hml hn hp hf hj fun W F1 h1 => ?_
  have := change_over (a := j.val) (d := 1) n (Gd.setT T j.val ⟨nm, c + 2⟩) 1 0 W h1 (by omega) (by omega) j.isLt (hOk.set (ent_may hn (by omega) (by omega))) (Gd.usedT_set hOk.len j.isLt (ent_not (by omega))) (by rw [hr]; exact hB) n1 n2 (by rw [hy]; exact hmay) (by rw [hr]; show 0 ≤ (c : Int) + 1 ∧ (c : Int) + 1 ≤ 16; omega) (by omega)
  rw [hy] at this
  exact this

namespace Gd
/-- the four tables, and the root's blocks -/
def tabA : Tab := setT noTab 14 ⟨[97], 2⟩
def tabB : Tab := setT tabA 15 ⟨[98], 3⟩
def tabC4 : Tab := setT tabB 0 ⟨[99], 4⟩
def tabD : Tab := setT tabC4 1 ⟨[100], 5⟩
theorem hash4 : hN [97] = 14 ∧ hN [98] = 14 ∧ hN [99] = 14 ∧ hN [100] = 14 := by decide +kernel
theorem placeA : findT noTab [97] 14 = none ∧ placeT noTab 14 = some 14 := by decide +kernel
theorem placeB : findT tabA [98] 14 = none ∧ placeT tabA 14 = some 15 := by decide +kernel
theorem placeC : findT tabB [99] 14 = none ∧ placeT tabB 14 = some 0 := by decide +kernel
theorem placeD : findT tabC4 [100] 14 = none ∧ placeT tabC4 14 = some 1 := by decide +kernel
def map0 : List UInt8 := List.replicate 16 0
def map1 : List UInt8 := takeB map0 1
def map2 : List UInt8 := takeB map1 2
theorem first0 : firstB map0 = 1 ∧ countB map0 = 0 := by decide +kernel
theorem first1 : firstB map1 = 2 ∧ countB map1 = 1 := by decide +kernel
theorem count2 : countB map2 = 2 := by decide +kernel
theorem may4 : mayI (rootN 0 [0, 0, 0, 1]) = true ∧ mayI (rootN 1 [0, 0, 0, 1]) = true ∧ mayI (rootN 2 [2, 0, 0, 1]) = true ∧ mayI (rootN 3 [2, 0, 0, 1]) = true := by decide +kernel
theorem names4 : Np.nameB [97] = true ∧ Np.nameB [98] = true ∧ Np.nameB [99] = true ∧ Np.nameB [100] = true := by decide +kernel
theorem paths4 : Np.pathL [47, 97] = some [[97]] ∧ Np.pathL [47, 98] = some [[98]] ∧ Np.pathL [47, 99] = some [[99]] ∧ Np.pathL [47, 100] = some [[100]] := by decide +kernel
end Gd

end Go.Proofs.YtccpdkjonepoiaaGreatDoor

/- Walks: a volume's changes committed, or dropped. -/
namespace Go.Proofs.YtccpdkjonepoiaaGreatDoor
open Go.RowKit

theorem MetaV.good [MemNo] {x t K : Nat} {S : List UInt8} {M : Gd.Vol} {w : World} {F : Nat → Prop} (h : MetaV x t S M 0 K w F) : Gd.Good S M := by
  obtain ⟨P, h1, h2⟩ := h
  have : P = [] := List.eq_nil_of_length_eq_zero (Nat.le_zero.1 h1.light.many)
  subst this
  exact h2
theorem mcommit [MemNo] {x t c K : Nat} {S : List UInt8} {M : Gd.Vol} {F : Nat → Prop} (w : World) (h : MetaV x t S M c K w F) (hc : c ≤ 57) (hK : K < 600000000000) :
    Calls Tryz.prog 49 #[.pointer (some ⟨t, 0, none⟩)] w fun e w' => e = .returned (.int .i64 0) ∧ ∃ S', Turns x t S' M 0 (K + 2000000) F w w' := by
  obtain ⟨P, h, hG⟩ := h
  refine (commit_any w h.txn ⟨Nat.le_trans h.light.many hc, h.light.len⟩ h.len h.log hK).mono ?_
  rintro e w' ⟨rfl, ⟨S', hl, he, hs, hT⟩, hO⟩
  refine ⟨rfl, S', F, ⟨[], ⟨hT, (hO.block x (lt_get h.obj) fun e => e.2 rfl).trans h.obj, h.inF, hl, he, ⟨Nat.le_refl 0, fun _ hp => by cases hp⟩, fun k hk => Nat.lt_of_lt_of_le (h.tight k hk) hO.size⟩, ?_⟩, fun _ _ e => e, hO.mono fun _ _ e => e.1⟩
  exact hG.same (by rw [h.view_len]; exact hl) hs
theorem mdrop [MemNo] {x t c K : Nat} {S : List UInt8} {M M0 : Gd.Vol} {F : Nat → Prop} (w : World) (h : MetaV x t S M c K w F) (hG : Gd.Good S M0) :
    Calls Tryz.prog 31 #[.pointer (some ⟨t, 0, none⟩)] w fun e w' => e = .returned (.tuple #[]) ∧ Turns x t S M0 0 K F w w' := by
  obtain ⟨P, h, _⟩ := h
  refine (tdrop_any w h.txn).mono ?_
  rintro e w' ⟨rfl, hT, hO⟩
  exact ⟨rfl, F, ⟨[], ⟨hT, (hO.block x (lt_get h.obj) fun e => e.2 rfl).trans h.obj, h.inF, h.len, h.log, ⟨Nat.le_refl 0, fun _ hp => by cases hp⟩, fun k hk => Nat.lt_of_lt_of_le (h.tight k hk) hO.size⟩, hG⟩, fun _ _ e => e, hO.mono fun _ _ e => e.1⟩

end Go.Proofs.YtccpdkjonepoiaaGreatDoor

/- The library's one variable. -/
namespace Go.Proofs.YtccpdkjonepoiaaGreatDoor
open Go.RowKit

/-- the library's one variable that is read holds an int -/
def Mx (w : World) : Prop := ∃ m : Int, w.cell? ⟨0, 0, none⟩ = some (.int .i64 m)
theorem mx_lt {w : World} {m : Int} (hm : w.cell? ⟨0, 0, none⟩ = some (.int .i64 m)) : 0 < w.heap.size := by
  unfold World.cell? at hm
  cases hh : w.heap[0]? with
  | none => rw [show (⟨0, 0, none⟩ : Addr).block = 0 from rfl, hh] at hm; cases hm
  | some o => exact (Array.getElem?_eq_some_iff.1 hh).1
theorem Mx.under {w b : World} (h : Mx w) (hb : Below w.heap.size w b) : Mx b := by
  obtain ⟨mx, hmx⟩ := h
  exact ⟨mx, (hb.cell (p := ⟨0, 0, none⟩) (mx_lt hmx)).trans hmx⟩

end Go.Proofs.YtccpdkjonepoiaaGreatDoor

/- Walks: a volume in a law: what it has, beside own variables; what all laws share. -/
namespace Go.Proofs.YtccpdkjonepoiaaGreatDoor
open Go.RowKit Go.Shelf

def Nof (_ : Nat) : Prop := False
theorem Tl.belowW [MemNo] {x t c K : Nat} {S : List UInt8} {M : Gd.Vol} {w a : World} {Ls : List (Nat × Obj)} (h : Tl x t S M c K Nof w a Ls) : Below w.heap.size w a := by
  obtain ⟨F', h1, _⟩ := h
  exact h1.only.below (Nat.le_refl _) fun _ _ e => e
theorem Tl.next2 [MemNo] {x t c d K K2 : Nat} {S S2 : List UInt8} {M N : Gd.Vol} {F F1 : Nat → Prop} {w a b : World} {Ls : List (Nat × Obj)} (h1 : Step (MetaV x t S M c K) F w F1 a) (h2 : ∀ p ∈ Ls, w.heap.size ≤ p.1 ∧ ¬ F1 p.1 ∧ a.heap[p.1]? = some p.2) (ht : Turns x t S2 N d K2 F1 a b) : Tl x t S2 N d K2 F w b Ls := by
  obtain ⟨F2, s⟩ := ht
  refine ⟨F2, h1.trans s, fun p hp => ?_⟩
  obtain ⟨q1, q2, q3⟩ := h2 p hp
  obtain ⟨o1, o2⟩ := s.own (lt_get q3) q2
  exact ⟨q1, o2, o1.trans q3⟩
theorem Tl.of_step [MemNo] {x t c K f : Nat} {S : List UInt8} {M : Gd.Vol} {F4 F6 : Nat → Prop} {w a b : World} {o : Obj} (hb : Below w.heap.size w a) (hF : ∀ k, F4 k → w.heap.size ≤ k) (h : Step (MetaV x t S M c K) F4 a F6 b) (hf : a.heap[f]? = some o) (hfF : ¬ F4 f) (hfw : w.heap.size ≤ f) : Tl x t S M c K Nof w b [(f, o)] := by
  refine ⟨F6, ⟨h.inv, fun k hk h6 => ?_, (below_only hb Nof).trans h.only fun j hj hj2 => ?_⟩, fun p hp => ?_⟩
  · have := hF k (h.old k (Nat.lt_of_lt_of_le hk hb.size) h6)
    omega
  · have := hF j hj2
    omega
  · obtain rfl := List.mem_singleton.1 hp
    obtain ⟨o1, o2⟩ := h.own (lt_get hf) hfF
    exact ⟨hfw, o2, o1.trans hf⟩
theorem Tl.commit [MemNo] {x t c K : Nat} {S : List UInt8} {M : Gd.Vol} {F : Nat → Prop} {w a : World} {Ls : List (Nat × Obj)} (h : Tl x t S M c K F w a Ls) (hc : c ≤ 57) (hK : K < 600000000000) :
    Calls Tryz.prog 49 #[.pointer (some ⟨t, 0, none⟩)] a fun e b => e = .returned (.int .i64 0) ∧ ∃ S', Tl x t S' M 0 (K + 2000000) F w b Ls := by
  obtain ⟨F1, h1, h2⟩ := h
  refine (mcommit a h1.inv hc hK).mono ?_
  rintro e b ⟨rfl, S', ht⟩
  exact ⟨rfl, S', Tl.next2 h1 h2 ht⟩
theorem Tl.drop [MemNo] {x t c K : Nat} {S : List UInt8} {M M0 : Gd.Vol} {F : Nat → Prop} {w a : World} {Ls : List (Nat × Obj)} (h : Tl x t S M c K F w a Ls) (hG : Gd.Good S M0) :
    Calls Tryz.prog 31 #[.pointer (some ⟨t, 0, none⟩)] a fun e b => e = .returned (.tuple #[]) ∧ Tl x t S M0 0 K F w b Ls := by
  obtain ⟨F1, h1, h2⟩ := h
  refine (mdrop a h1.inv hG).mono ?_
  rintro e b ⟨rfl, ht⟩
  exact ⟨rfl, Tl.next2 h1 h2 ht⟩
theorem Tl.good [MemNo] {x t K : Nat} {S : List UInt8} {M : Gd.Vol} {F : Nat → Prop} {w a : World} {Ls : List (Nat × Obj)} (h : Tl x t S M 0 K F w a Ls) : Gd.Good S M := by
  obtain ⟨F1, h1, _⟩ := h
  exact h1.inv.good
theorem Tl.less [MemNo] {x t c K : Nat} {S : List UInt8} {M : Gd.Vol} {F : Nat → Prop} {w a : World} {Ls Ls' : List (Nat × Obj)} (h : Tl x t S M c K F w a Ls) (hL : ∀ p ∈ Ls', p ∈ Ls) : Tl x t S M c K F w a Ls' := by
  obtain ⟨F1, h1, h2⟩ := h
  exact ⟨F1, h1, fun p hp => h2 p (hL p hp)⟩
theorem txn_start [MemNo] {m sb lb ab n t g : Nat} {S : List UInt8} {w a : World} (hM : MemAt a m sb lb ab n S 0) (h1 : w.heap.size ≤ m ∧ w.heap.size ≤ sb ∧ w.heap.size ≤ lb ∧ w.heap.size ≤ ab) (hg1 : w.heap.size ≤ g) (hg : LogAt a g m 2688 4096)
    (ht1 : w.heap.size ≤ t) (ht : a.heap[t]? = some (.cells #[.pointer (some ⟨m, 0, none⟩), .pointer (some ⟨g, 0, none⟩), .slice none 0 0] 133 (0, 0))) (hmn : m = MemNo.no) : TxnF t S [] 0 a fun k => w.heap.size ≤ k :=
  ⟨m, g, .slice none 0 0, ⟨sb, lb, ab, n, hM, h1⟩, ⟨ht, World.ownsRow_nil _ _ _ _⟩, hg, ht1, hg1, (fun q hq => by cases hq), ⟨(fun p hp => by cases hp), (fun p hp => by cases hp), Nat.zero_le _⟩, hmn⟩
theorem meta_start [MemNo] {x t : Nat} {S : List UInt8} {w a : World} (h : TxnF t S [] 0 a fun k => w.heap.size ≤ k ∧ k < x) (hx1 : w.heap.size ≤ x) (hx : a.heap[x]? = some (.cells #[.pointer (some ⟨t, 0, none⟩)] 163 (0, 0))) (hS : S.length = 23168) (he : Gd.part S 2688 8 = Gd.le 0 8) : MetaF x t S [] 0 0 a fun k => w.heap.size ≤ k ∧ k < a.heap.size :=
  ⟨(TxnF.held t S [] 0).mono h fun k hk e => ⟨⟨e.1, hk⟩, by omega⟩, hx, ⟨hx1, lt_get hx⟩, hS, he, ⟨Nat.le_refl 0, fun _ hp => by cases hp⟩, fun k hk => hk.2⟩
theorem zeros_log : Gd.part (List.replicate 23168 0) 2688 8 = Gd.le 0 8 := by
  unfold Gd.part
  rw [List.drop_replicate, List.take_replicate]
  rfl

def cutN (s : ByteArray) (n : Nat) : ByteArray := if n < s.size then s.extract 0 n else s
theorem cutN_size (s : ByteArray) (n : Nat) : (cutN s n).size ≤ n := by
  unfold cutN
  split
  · rw [ByteArray.size_extract]
    omega
  · omega
section
variable {x t c K f : Nat} {S : List UInt8} {M : Gd.Vol} {F : Nat → Prop} {w a : World} {Ls : List (Nat × Obj)} {s : Nat → List UInt8}
theorem Tl.fmap [MemNo] (h : Tl x t S M c K F w a Ls) : Calls Tryz.prog 154 #[.pointer (some ⟨x, 0, none⟩)] a fun e W => e = .returned (mapV M.map) ∧ Below a.heap.size a W := by
  obtain ⟨F1, h1, h2⟩ := h
  exact map_any a h1.inv
theorem Tl.fino [MemNo] (h : Tl x t S M c K F w a Ls) (i : Int) (h1 : 1 ≤ i) (h2 : i ≤ 32) : Calls Tryz.prog 16 #[.pointer (some ⟨x, 0, none⟩), .int .i64 i] a fun e W => e = .returned (.tuple #[inoV (M.ino i.toNat), .int .i64 0]) ∧ Below a.heap.size a W := by
  obtain ⟨F1, k1, k2⟩ := h
  exact inode_ok i a k1.inv h1 h2
end
theorem i64_le {n : Int} (h : (Lit.int .i64 n).wf = true) : n ≤ 9223372036854775807 := by
  have : I64 n := h
  exact this.lo.2

end Go.Proofs.YtccpdkjonepoiaaGreatDoor

/- Walks: a store that is not within; a log in a small memory; no metadata. -/
namespace Go.Proofs.YtccpdkjonepoiaaGreatDoor
open Go.RowKit Go.Shelf

attribute [local go_sem] Oper.semAt_some

set_option maxHeartbeats 4000000 in
set_option maxRecDepth 100000 in
theorem mstore_bad {m sb lb ab n K : Nat} {S : List UInt8} (a : Nat) (v : Value) (b : List UInt8) (w : World) (h : MemAt w m sb lb ab n S K) (hb : BytesAt w v b) (ha : a ≤ 1000000) (hk : b.length ≤ 100000) (hak : S.length < a + b.length) :
    Calls Tryz.prog 25 #[.pointer (some ⟨m, 0, none⟩), .int .i64 a, v] w fun e w' => e = .returned (.int .i64 1) ∧ w' = w := by
  obtain ⟨A, c, rfl, hA⟩ := hb
  have HW := Lib.hid (within_any (a : Int) (b.length : Int) (nat_I64 (by omega)) (nat_I64 (by omega)) w h)
  have hwb : (decide (0 ≤ (a : Int)) && (decide (0 ≤ (b.length : Int)) && decide ((a : Int) + (b.length : Nat) ≤ S.length))) = false := by
    rw [Bool.eq_false_iff]
    intro e
    simp only [Bool.and_eq_true, decide_eq_true_eq] at e
    omega
  rw [hwb] at HW
  obtain ⟨N, hN⟩ : ∃ N, N = b.length := ⟨_, rfl⟩
  rw [← hN] at HW hak hk ⊢
  clear h hA hN hwb hak
  go_enter Tryz.func25, Tryz.ntmps25
  go_wp2_with (go_at_call 68; refine HW.out.mono ?_; rintro e w2 ⟨rfl, rfl⟩)
  go_ret
  exact ⟨rfl, rfl⟩

set_option maxHeartbeats 4000000 in
set_option maxRecDepth 100000 in
theorem lnew_small {m sb lb ab n K : Nat} {S : List UInt8} (w : World) (h : MemAt w m sb lb ab n S K) (hS : S.length = 128) : Calls Tryz.prog 84 #[.pointer (some ⟨m, 0, none⟩), .int .i64 0, .int .i64 128] w fun e w' => ∃ g, e = .returned (.pointer (some ⟨g, 0, none⟩)) ∧ Below w.heap.size w w' := by
  have HSz := size_any w h
  rw [hS] at HSz
  have HSz := Lib.hid HSz
  clear h
  go_enter Tryz.func84, Tryz.ntmps84
  go_wp2_with fail
  refine HSz.out.mono ?_
  rintro e w1 ⟨rfl, rfl⟩
  go_wp2
  go_ret
  exact ⟨_, rfl, (Below.refl _ _).alloc (Nat.le_refl _) _⟩

set_option maxHeartbeats 4000000 in
set_option maxRecDepth 100000 in
theorem xnew_small {m t g K sb lb ab n : Nat} {S : List UInt8} (w : World) (h : MemAt w m sb lb ab n S K) (hS : S.length = 64) (ht : w.heap[t]? = some (.cells #[.pointer (some ⟨m, 0, none⟩), .pointer (some ⟨g, 0, none⟩), .slice none 0 0] 133 (0, 0))) : Calls Tryz.prog 88 #[.pointer (some ⟨t, 0, none⟩)] w fun e w' => e = .returned (.pointer none) ∧ Below w.heap.size w w' := by
  have HLd : Hid (∀ W, Below w.heap.size w W → Calls Tryz.prog 101 #[.pointer (some ⟨t, 0, none⟩), .int .i64 0, .int .i64 23168] W (Fails W)) := Lib.hid (by
    intro W hW
    have hM : MemAt W m sb lb ab n S K := h.keep fun k hk => hW.block k (h.lts k hk)
    have HMl := Lib.hid (mload_bad 0 23168 (nat_I64 (n := 0) (by omega)) (nat_I64 (n := 23168) (by omega)) W (F := fun _ => True) ⟨sb, lb, ab, n, hM, trivial, trivial, trivial, trivial⟩ (by omega))
    obtain ⟨c0, _, _⟩ := cell2 ((hW.block t (lt_get ht)).trans ht)
    clear hM h ht
    go_enter Tryz.func101, Tryz.ntmps101
    go_wp2_with fail
    refine HMl.out.mono ?_
    rintro e w1 ⟨rfl, rfl⟩
    go_wp2
    go_ret2
    exact ⟨rfl, rfl⟩)
  clear h hS ht
  go_enter Tryz.func88, Tryz.ntmps88
  go_wp2_with fail
  refine (size_any5 _).mono ?_
  rintro e w1 ⟨rfl, hb1⟩
  have HB1 := Lib.hid hb1
  clear hb1
  go_wp2_with fail
  refine (HLd.out w1 HB1.out).mono ?_
  rintro e w2 ⟨rfl, rfl⟩
  go_wp2
  go_ret
  exact ⟨rfl, HB1.out⟩

set_option maxHeartbeats 4000000 in
set_option maxRecDepth 100000 in
theorem xnew_nil (w : World) : Calls Tryz.prog 88 #[.pointer none] w fun e w' => e = .returned (.pointer none) ∧ w' = w := by
  go_enter Tryz.func88, Tryz.ntmps88
  go_wp2
  go_ret
  exact ⟨rfl, rfl⟩

end Go.Proofs.YtccpdkjonepoiaaGreatDoor

/- Bytes that were handed in: opened; stored wherever they lie. -/
namespace Go.Proofs.YtccpdkjonepoiaaGreatDoor
open Go.RowKit Go.Shelf

attribute [local go_sem] Oper.semAt_some

/-- bytes that lie in memory -/
def RawB (w : World) (A : Option Addr) (L : List UInt8) : Prop := L = [] ∨ ∃ b o, A = some ⟨b, o, none⟩ ∧ b < w.heap.size ∧ ∀ (j : Nat) (x : UInt8), L[j]? = some x → w.cell? ⟨b, o + j, none⟩ = some (.int .u8 x.toNat)
theorem RawB.keep {w w' : World} {A : Option Addr} {L : List UInt8} (h : RawB w A L) (hb : Below w.heap.size w w') : RawB w' A L := by
  rcases h with h | ⟨b, o, h1, h2, h3⟩
  · exact Or.inl h
  · exact Or.inr ⟨b, o, h1, Nat.lt_of_lt_of_le h2 hb.size, fun j x hx => (hb.cell (p := ⟨b, o + j, none⟩) h2).trans (h3 j x hx)⟩
theorem RawB.take {w : World} {A : Option Addr} {L : List UInt8} (h : RawB w A L) (n : Nat) : RawB w A (L.take n) := by
  rcases h with h | ⟨b, o, h1, h2, h3⟩
  · exact Or.inl (by rw [h]; exact List.take_nil)
  · refine Or.inr ⟨b, o, h1, h2, fun j x hx => h3 j x ?_⟩
    rw [List.getElem?_take] at hx
    split at hx
    · exact hx
    · cases hx
theorem Tryz.cellsOf8 : Tryz.prog.cellsOf 5 = 1 := by kernel_rfl

set_option maxRecDepth 100000 in
theorem open_bytesR {H : Type} {enc : TypeId × Value → H} {W : World} {base : Nat} {v : Value} {d : DataW H} {p : List MemPlace} (hv : Value.okWide Tryz.prog W .any base 22 v) (hd : DataW.Trod enc Tryz.prog W 0 (fun _ => true) true 22 v d p) (hlt : ∀ x ∈ p, x.block < W.heap.size) :
    ∃ A L c, v = .slice A L.length c ∧ L.length ≤ c ∧ c ≤ 9223372036854775807 ∧ RawB W A L := by
  obtain ⟨a0, len, cap, rfl⟩ := Go.WideShapes.okWide_slice Tryz.underlying22 hv
  obtain ⟨fuel, hf⟩ := hd
  rcases Go.ChangeShapes.open_ints Tryz.underlying22 Tryz.underlying5 Tryz.cellsOf8 hf with ⟨hcs, hx⟩ | ⟨a, len', cap', zs, hcs, _, hl, hm, hz, hx, hcell, hwz⟩
  · simp [Value.cells] at hcs
    obtain ⟨rfl, rfl, rfl⟩ := hcs
    exact ⟨none, [], 0, rfl, Nat.le_refl _, by omega, Or.inl rfl⟩
  · simp [Value.cells] at hcs
    obtain ⟨rfl, rfl, rfl⟩ := hcs
    simp only [if_true] at hz
    simp only [Prod.mk.injEq] at hx
    obtain ⟨_, rfl⟩ := hx
    unfold maxLen at hm
    have hll : ((zs.take len).map fun n => UInt8.ofNat n.toNat).length = len := by simp; omega
    refine ⟨some a, (zs.take len).map fun n => UInt8.ofNat n.toNat, cap, by rw [hll], by rw [hll]; exact hl, by omega, ?_⟩
    by_cases h0 : len = 0
    · left
      rw [h0]
      rfl
    · right
      obtain ⟨b, o, spot⟩ := a
      have hspot : spot = none := by simpa [Addr.add] using World.cell?_spot (hcell 0 (by omega))
      subst hspot
      refine ⟨b, o, rfl, hlt (.cell b o) (MemPlace.mem_row.2 ⟨0, by omega, by simp⟩), fun j x hj => ?_⟩
      rw [List.getElem?_map] at hj
      cases hs : (zs.take len)[j]? with
      | none => rw [hs] at hj; cases hj
      | some y =>
        rw [hs] at hj
        cases hj
        rw [List.getElem?_take] at hs
        split at hs
        · have h1 := (List.getElem?_eq_some_iff.1 hs).1
          have h2 := hcell j h1
          rw [Addr.add_lit, List.getD_eq_getElem?_getD, hs] at h2
          rw [h2]
          have hw := hwz y (List.mem_of_getElem? hs)
          have hy : 0 ≤ y ∧ y ≤ 255 := by
            simp [Lit.wf, show IntKind.u8.min = 0 from rfl, show IntKind.u8.max = 255 from rfl] at hw
            exact hw
          simp only [Option.getD_some, UInt8.toNat_ofNat']
          congr 2
          omega
        · cases hs

set_option maxHeartbeats 4000000 in
set_option maxRecDepth 100000 in
theorem mstore_none {m sb lb ab n K : Nat} {S : List UInt8} (a : Nat) (A : Option Addr) (c : Nat) (w : World) (h : MemAt w m sb lb ab n S K) (ha : a ≤ S.length) :
    Calls Tryz.prog 25 #[.pointer (some ⟨m, 0, none⟩), .int .i64 a, .slice A 0 c] w fun e w' => e = .returned (.int .i64 0) ∧ w' = w := by
  have hl := h.len
  have hs := h.small
  have HW := Lib.hid (within_any (a : Int) 0 (nat_I64 (by omega)) (nat_I64 (n := 0) (by omega)) w h)
  have hwb : (decide (0 ≤ (a : Int)) && (decide (0 ≤ (0 : Int)) && decide ((a : Int) + 0 ≤ S.length))) = true := by simp; omega
  rw [hwb] at HW
  clear h hwb hl hs
  go_enter Tryz.func25, Tryz.ntmps25
  go_upto_region 4 with (go_at_call 68; refine HW.out.mono ?_; rintro e w2 ⟨rfl, rfl⟩)
  go_loopw [18] (fun z wr => z = .int .i64 0 ∧ wr = w2) (fun _ _ => 0)
  case atStart => exact ⟨rfl, rfl⟩
  case round =>
    obtain ⟨rfl, rfl⟩ := hrel
    go_wp2
    go_ret
    exact ⟨rfl, rfl⟩

/-- bytes of one's own or of the caller's, stored at any place, if they are within -/
def Stored (m sb lb ab n : Nat) (w : World) (e : Ending) (w' : World) : Prop := ∃ (r : Int) (S' : List UInt8), e = .returned (.int .i64 r) ∧ S'.length = 23168 ∧ MemAt w' m sb lb ab n S' 0 ∧ Only (fun k => k = sb ∨ k = ab) w w'
theorem mstore_raw {m sb lb ab n : Nat} {S : List UInt8} (a : Nat) (A : Option Addr) (c : Nat) (b : List UInt8) (w : World) (h : MemAt w m sb lb ab n S 0) (hS : S.length = 23168) (hb : RawB w A b) (hap : b ≠ [] → ∀ g o, A = some ⟨g, o, none⟩ → g ≠ sb ∧ g ≠ ab) (ha : a < 23168) (hk : b.length ≤ 4000) :
    Calls Tryz.prog 25 #[.pointer (some ⟨m, 0, none⟩), .int .i64 a, .slice A b.length c] w (Stored m sb lb ab n w) := by
  rcases hb with rfl | ⟨g, o, rfl, h2, h3⟩
  · refine (mstore_none a A c w h (by omega)).mono ?_
    rintro e w' ⟨rfl, rfl⟩
    exact ⟨0, S, rfl, hS, h, Only.refl _ _⟩
  · by_cases h0 : b.length = 0
    · have hb0 : b = [] := List.eq_nil_of_length_eq_zero h0
      subst hb0
      refine (mstore_none a _ c w h (by omega)).mono ?_
      rintro e w' ⟨rfl, rfl⟩
      exact ⟨0, S, rfl, hS, h, Only.refl _ _⟩
    have hB : BytesAt w (.slice (some ⟨g, o, none⟩) b.length c) b := ⟨_, _, rfl, Or.inr ⟨g, o, rfl, h2, h3⟩⟩
    by_cases hin : a + b.length ≤ 23168
    · refine (mstore_at a _ b w h hB (fun q hq => ?_) (by omega) (by omega)).mono ?_
      · cases hq
        refine hap (fun e => ?_) g o rfl
        rw [e, List.length_nil] at h0
        omega
      · rintro e w' ⟨rfl, hM, hO⟩
        exact ⟨0, _, rfl, by rw [Gd.splice_length (by omega)]; exact hS, hM, hO⟩
    · refine (mstore_bad a _ b w h hB (by omega) (by omega) (by omega)).mono ?_
      rintro e w' ⟨rfl, rfl⟩
      exact ⟨1, S, rfl, hS, h, Only.refl _ _⟩

end Go.Proofs.YtccpdkjonepoiaaGreatDoor

/- Walk: commonsref01.Same of two slices with the same bytes. -/
namespace Go.Proofs.YtccpdkjonepoiaaGreatDoor
open Go.RowKit

attribute [local go_sem] Oper.semAt_some

theorem OwnB.box {w : World} {B : Nat} {v : Value} {L : List UInt8} (h : OwnB w B v L) (hL : L ≠ []) : ∃ (g cap : Nat) (o : Obj), v = .slice (some ⟨g, 0, none⟩) L.length cap ∧ B ≤ g ∧ w.heap[g]? = some o ∧ ∀ W : World, W.heap[g]? = some o → BytesAt W (.slice (some ⟨g, 0, none⟩) L.length cap) L := by
  have hr := h
  rcases h.2 with ⟨_, h0⟩ | ⟨g, cap, cur, rfl, hb, hg, hc⟩
  · exact absurd (List.eq_nil_of_length_eq_zero h0) hL
  · exact ⟨g, cap, _, rfl, hb, hg, fun W hW => OwnB.at_ (w := W) (B := B) ⟨hr.1, Or.inr ⟨g, cap, cur, rfl, hb, hW, hc⟩⟩⟩
set_option maxHeartbeats 1000000 in
theorem bsame_any (v v2 : Value) (L : List UInt8) (w : World) (h1 : BytesAt w v L) (h2 : BytesAt w v2 L) (hl : L.length ≤ 1000000) :
    Calls Tryz.prog 19 #[v, v2] w fun e w' => e = .returned (.bool true) ∧ Below w.heap.size w w' := by
  obtain ⟨A, c, rfl, h1⟩ := h1
  obtain ⟨A2, c2, rfl, h2⟩ := h2
  have H1 := Lib.hid h1
  have H2 := Lib.hid h2
  clear h1 h2
  obtain ⟨n, hn⟩ : ∃ n, n = L.length := ⟨_, rfl⟩
  rw [← hn] at hl ⊢
  have Hn := Lib.hid hn
  clear hn
  go_enter Tryz.func19, Tryz.ntmps19
  go_wp2
  go_loopw [5] (fun i wr => ∃ k : Nat, k ≤ n ∧ i = .int .i64 k ∧ Below w.heap.size w wr) (fun i _ => n - (intOf i).toNat)
  case atStart => exact ⟨0, by omega, rfl, Below.refl _ _⟩
  case round =>
    obtain ⟨k, hk, rfl, hbw⟩ := hrel
    by_cases hlt : k < n
    · have hkL : k < L.length := by have := Hn.out; omega
      obtain ⟨x, hx⟩ : ∃ x, L[k]? = some x := ⟨_, List.getElem?_eq_getElem hkL⟩
      rcases H1.out with ⟨-, h, -⟩ | ⟨b, o, rfl, h3, h4⟩
      · subst h; simp at hkL
      rcases H2.out with ⟨-, h, -⟩ | ⟨b', o', rfl, h3', h4'⟩
      · subst h; simp at hkL
      have hc : wr.cell? ⟨b, o + k, none⟩ = some (.int .u8 x.toNat) := (hbw.cell (p := ⟨b, o + k, none⟩) h3).trans (h4 k x hx)
      have hc' : wr.cell? ⟨b', o' + k, none⟩ = some (.int .u8 x.toNat) := (hbw.cell (p := ⟨b', o' + k, none⟩) h3').trans (h4' k x hx)
      clear h4 h4' hx hkL
      have hk1 : (0 : Int) ≤ k := by omega
      have hk2 : (k : Int) < n := by omega
      go_wp2
      go_quiet (fail)
      go_wp2
      go_roundw
      case rel => exact ⟨k + 1, by omega, by go_num, below_drewN hbw _⟩
      case measure => simp [intOf]; omega
    · go_wp2
      go_ret
      exact ⟨rfl, hbw⟩
end Go.Proofs.YtccpdkjonepoiaaGreatDoor

/- Walks: plog.Decode, of any bytes. -/
namespace Go.Proofs.YtccpdkjonepoiaaGreatDoor
open Go.RowKit Go.Shelf

attribute [local go_sem] Oper.semAt_some

theorem getB_facts {L : List UInt8} {at_ k : Nat} (h : Gd.getB L at_ k = true) : at_ + k ≤ L.length ∧ Gd.get L at_ k = (Gd.getN L at_ k : Int) ∧ Gd.getN L at_ k < 256 ^ k := by
  have h1 := h
  unfold Gd.getB at h1
  simp only [Bool.and_eq_true, decide_eq_true_eq] at h1
  refine ⟨by omega, ?_, ?_⟩
  · unfold Gd.get
    rw [if_pos h, Int.toNat_natCast]
  · have h2 := Gd.unle_lt ((L.drop at_).take k)
    refine Nat.lt_of_lt_of_le h2 (Nat.pow_le_pow_right (by omega) ?_)
    rw [List.length_take]
    exact Nat.min_le_left _ _
theorem get_lo (L : List UInt8) (at_ k : Nat) : 0 ≤ Gd.get L at_ k ∧ Gd.get L at_ k < 9223372036854775808 := by
  unfold Gd.get
  split
  · rename_i h
    unfold Gd.getB at h
    simp only [Bool.and_eq_true, decide_eq_true_eq] at h
    omega
  · omega
/-- what Decode holds beside its bytes -/
structure DecG (w0 : World) (v : Value) (at_ : Nat) (sh : Bool) (w : World) : Prop where
  below : Below w0.heap.size w0 w
  c1 : CellsAt w w0.heap.size 22 #[v]
  c2 : CellsAt w (w0.heap.size + 1) 3 #[.int .i64 at_]
  c3 : CellsAt w (w0.heap.size + 1 + 1) 4 #[.bool sh]
theorem DecG.read {w0 w w' : World} {v : Value} {at_ : Nat} {sh : Bool} (h : DecG w0 v at_ sh w) (hb : Below w.heap.size w w') : DecG w0 v at_ sh w' :=
  ⟨h.below.trans (hb.mono h.below.size), (hb.block _ h.c1.lt).trans h.c1, (hb.block _ h.c2.lt).trans h.c2, (hb.block _ h.c3.lt).trans h.c3⟩
/-- what turns elsewhere -/
theorem DecG.apart {w0 w w' : World} {v : Value} {at_ : Nat} {sh : Bool} {F : Nat → Prop} (h : DecG w0 v at_ sh w) (hO : Only F w w') (hs : w0.heap.size ≤ w.heap.size) (hF : ∀ k, k < w0.heap.size + 3 → ¬ F k) : DecG w0 v at_ sh w' :=
  ⟨h.below.trans (hO.below hs fun k hk => hF k (by omega)), (hO.block _ h.c1.lt (hF _ (by omega))).trans h.c1, (hO.block _ h.c2.lt (hF _ (by omega))).trans h.c2, (hO.block _ h.c3.lt (hF _ (by omega))).trans h.c3⟩

set_option maxHeartbeats 4000000 in
set_option maxRecDepth 100000 in
theorem next_gen {w0 : World} {v : Value} {at_ : Nat} {sh : Bool} (L : List UInt8) (hv : BytesAt w0 v L) (k : Nat) (hk : Gd.wid k) (w : World) (h : DecG w0 v at_ sh w) (hl : L.length ≤ 1000000) (hat : at_ ≤ 1000000) :
    Calls Tryz.prog 159 #[.int .i64 k, .pointer (some ⟨w0.heap.size, 0, none⟩), .pointer (some ⟨w0.heap.size + 1, 0, none⟩), .pointer (some ⟨w0.heap.size + 1 + 1, 0, none⟩)] w fun e w' => e = .returned (.int .i64 (Gd.get L at_ k)) ∧ DecG w0 v (at_ + k) (sh || !(Gd.getB L at_ k)) w' ∧ Only (Dec2 w0) w w' := by
  have hvw := hv.keep h.below
  have HGt := Lib.hid (get_any v L at_ k hk (nat_I64 (by omega)) w hvw hl)
  obtain ⟨N, hN⟩ : ∃ N, N = Gd.get L at_ k := ⟨_, rfl⟩
  obtain ⟨g, hg⟩ : ∃ g, g = Gd.getB L at_ k := ⟨_, rfl⟩
  rw [← hN, ← hg] at HGt
  rw [← hN, ← hg]
  obtain ⟨n0, hn0⟩ : ∃ n0, n0 = w0.heap.size := ⟨_, rfl⟩
  have H := Lib.hid h
  have x1 := cell_of_row w _ 0 _ _ _ h.c1
  have x2 := cell_of_row w _ 0 _ _ _ h.c2
  have x3 := cell_of_row w _ 0 _ _ _ h.c3
  have y2 := frozen_of_row w _ 0 _ _ h.c2
  have y3 := frozen_of_row w _ 0 _ _ h.c3
  rw [← hn0] at x1 x2 x3 y2 y3 ⊢
  have Hn0 := Lib.hid hn0
  have hk8 : (k : Int) ≤ 8 := by rcases hk with rfl | rfl | rfl | rfl <;> omega
  have ha : (at_ : Int) ≤ 1000000 := by omega
  clear hvw hN hg hn0 h hat
  have hfin : Hid (∀ b : Bool, DecG w0 v (at_ + k) b ((w.setCell ⟨n0 + 1 + 1, 0, none⟩ (.bool b)).setCell ⟨n0 + 1, 0, none⟩ (.int .i64 ((at_ : Int) + k))) ∧ Only (Dec2 w0) w ((w.setCell ⟨n0 + 1 + 1, 0, none⟩ (.bool b)).setCell ⟨n0 + 1, 0, none⟩ (.int .i64 ((at_ : Int) + k)))) := Lib.hid fun b => by
    have e0 := Hn0.out
    subst e0
    have hc : ((at_ : Int) + k) = ((at_ + k : Nat) : Int) := by omega
    rw [hc]
    refine ⟨⟨(H.out.below.setCell (show w0.heap.size ≤ w0.heap.size + 1 + 1 by omega) _).setCell (show w0.heap.size ≤ w0.heap.size + 1 by omega) _, ?_, ?_, ?_⟩, ?_⟩
    · exact (Go.heap_setCell_other _ _ _ _ (by simp)).trans ((Go.heap_setCell_other _ _ _ _ (by simp; omega)).trans H.out.c1)
    · exact Go.heap_setCell_same _ _ 0 _ _ _ ((Go.heap_setCell_other _ _ _ _ (by simp)).trans H.out.c2)
    · exact (Go.heap_setCell_other _ _ _ _ (by simp)).trans (Go.heap_setCell_same _ _ 0 _ _ _ H.out.c3)
    · exact (only_setCell _ _ _ (Or.inr rfl)).trans (only_setCell _ _ _ (F := Dec2 w0) (Or.inl rfl)) fun _ _ e => e
  cases sh
  case' false => cases g
  all_goals
    go_enter Tryz.func159, Tryz.ntmps159
    go_wp2_with fail
    refine HGt.out.mono ?_
    rintro e w1 ⟨rfl, rfl⟩
    clear HGt
    go_wp2
    go_ret
    exact ⟨rfl, hfin.out _⟩
end Go.Proofs.YtccpdkjonepoiaaGreatDoor
