/- A volume in plain words: inodes, which blocks are used, blocks; and its bytes. -/
import Derived.Test.YtiinponoeaihcaaGreatU00
import Derived.WalkKit
import Derived.WalkLawsBesides
import Derived.Lib.OthersKept
import Derived.Maps.AppendAt
import Derived.Maps.OwnSet
import Derived.Maps.RangeWalk
import Derived.ChangeKeysEq
import Derived.Deep.MidRow
import Derived.Defers
import Derived.Lib.BufferWrite
import Derived.Laws.CopyOwn
import Derived.Laws.BytesString
import Derived.Deep.AppendLies
set_option linter.unusedVariables false
set_option linter.unusedSimpArgs false
set_option linter.unusedSectionVars false
namespace Go.Proofs.YtiinponoeaihcaaGreat
namespace Gd
structure Vol where
  ino : Nat → Ino
  map : List UInt8
  blk : Nat → List UInt8
  head : List UInt8
  logs : List UInt8
def size : Nat := 23168
def inoAt (i : Nat) : Nat := 640 + 64 * (i - 1)
def blkAt (n : Nat) : Nat := 14976 + 64 * (n - 1)
structure Good (V : List UInt8) (M : Vol) : Prop where
  len : V.length = 23168
  shape : ∀ i, 1 ≤ i → i ≤ 32 → (M.ino i).Shape
  may : ∀ i, 1 ≤ i → i ≤ 32 → mayI (M.ino i) = true
  ino : ∀ i, 1 ≤ i → i ≤ 32 → part V (inoAt i) 64 = inoB (M.ino i)
  mapl : M.map.length = 16
  map : part V 576 16 = M.map
  blkl : ∀ n, 1 ≤ n → n ≤ 128 → (M.blk n).length = 64
  blk : ∀ n, 1 ≤ n → n ≤ 128 → part V (blkAt n) 64 = M.blk n
  head : part V 0 576 = M.head
  logs : part V 6784 8192 = M.logs
def Vol.setIno (M : Vol) (i : Nat) (x : Ino) : Vol := { M with ino := fun j => if j = i then x else M.ino j }
def Vol.setMap (M : Vol) (m : List UInt8) : Vol := { M with map := m }
def Vol.setBlk (M : Vol) (n : Nat) (b : List UInt8) : Vol := { M with blk := fun j => if j = n then b else M.blk j }
theorem Good.setIno {V : List UInt8} {M : Vol} (h : Good V M) {i : Nat} {x : Ino} (h1 : 1 ≤ i) (h2 : i ≤ 32) (hs : x.Shape) (hm : mayI x = true) : Good (splice V (inoAt i) (inoB x)) (M.setIno i x) := by
  have hl : (inoB x).length = 64 := inoB_length hs
  have hV := h.len
  have hf : inoAt i + (inoB x).length ≤ V.length := by rw [hl]; unfold inoAt; omega
  refine ⟨by rw [splice_length hf]; exact hV, fun j j1 j2 => ?_, fun j j1 j2 => ?_, fun j j1 j2 => ?_, h.mapl, ?_, h.blkl, fun n n1 n2 => ?_, ?_, ?_⟩
  · show (if j = i then x else M.ino j).Shape
    split
    · exact hs
    · exact h.shape j j1 j2
  · show mayI (if j = i then x else M.ino j) = true
    split
    · exact hm
    · exact h.may j j1 j2
  · show part _ _ _ = inoB (if j = i then x else M.ino j)
    by_cases e : j = i
    · subst e
      rw [if_pos rfl]
      have := part_splice_same hf
      rw [hl] at this
      exact this
    · rw [if_neg e, part_splice_apart (by unfold inoAt; omega) hf (by rw [hl]; unfold inoAt; omega)]
      exact h.ino j j1 j2
  · rw [part_splice_apart (by omega) hf (by rw [hl]; unfold inoAt; omega)]
    exact h.map
  · rw [part_splice_apart (by unfold blkAt; omega) hf (by rw [hl]; unfold inoAt blkAt; omega)]
    exact h.blk n n1 n2
  · rw [part_splice_apart (by omega) hf (by rw [hl]; unfold inoAt; omega)]
    exact h.head
  · rw [part_splice_apart (by omega) hf (by rw [hl]; unfold inoAt; omega)]
    exact h.logs
theorem Good.setMap {V : List UInt8} {M : Vol} (h : Good V M) {m : List UInt8} (hm : m.length = 16) : Good (splice V 576 m) (M.setMap m) := by
  have hV := h.len
  have hf : 576 + m.length ≤ V.length := by omega
  refine ⟨by rw [splice_length hf]; exact hV, h.shape, h.may, fun j j1 j2 => ?_, hm, ?_, h.blkl, fun n n1 n2 => ?_, ?_, ?_⟩
  · rw [part_splice_apart (by unfold inoAt; omega) hf (by unfold inoAt; omega)]
    exact h.ino j j1 j2
  · have := part_splice_same hf
    rw [hm] at this
    exact this
  · rw [part_splice_apart (by unfold blkAt; omega) hf (by unfold blkAt; omega)]
    exact h.blk n n1 n2
  · rw [part_splice_apart (by omega) hf (by omega)]
    exact h.head
  · rw [part_splice_apart (by omega) hf (by omega)]
    exact h.logs
theorem Good.setBlk {V : List UInt8} {M : Vol} (h : Good V M) {n : Nat} {b : List UInt8} (h1 : 1 ≤ n) (h2 : n ≤ 128) (hb : b.length = 64) : Good (splice V (blkAt n) b) (M.setBlk n b) := by
  have hV := h.len
  have hf : blkAt n + b.length ≤ V.length := by unfold blkAt; omega
  refine ⟨by rw [splice_length hf]; exact hV, h.shape, h.may, fun j j1 j2 => ?_, h.mapl, ?_, fun k k1 k2 => ?_, fun k k1 k2 => ?_, ?_, ?_⟩
  · rw [part_splice_apart (by unfold inoAt; omega) hf (by unfold inoAt blkAt; omega)]
    exact h.ino j j1 j2
  · rw [part_splice_apart (by omega) hf (by unfold blkAt; omega)]
    exact h.map
  · show (if k = n then b else M.blk k).length = 64
    split
    · exact hb
    · exact h.blkl k k1 k2
  · show part _ _ _ = (if k = n then b else M.blk k)
    by_cases e : k = n
    · subst e
      rw [if_pos rfl]
      have := part_splice_same hf
      rw [hb] at this
      exact this
    · rw [if_neg e, part_splice_apart (by unfold blkAt; omega) hf (by rw [hb]; unfold blkAt; omega)]
      exact h.blk k k1 k2
  · rw [part_splice_apart (by omega) hf (by unfold blkAt; omega)]
    exact h.head
  · rw [part_splice_apart (by omega) hf (by unfold blkAt; omega)]
    exact h.logs
/-- what is told of the bytes outside the log holds of other bytes that are the same there -/
theorem Good.same {V W : List UInt8} {M : Vol} (h : Good V M) (hl : W.length = V.length) (hs : ∀ i, i < 2688 ∨ 6784 ≤ i → W[i]? = V[i]?) : Good W M := by
  have hV := h.len
  refine ⟨hl.trans hV, h.shape, h.may, fun j j1 j2 => ?_, h.mapl, ?_, h.blkl, fun n n1 n2 => ?_, ?_, ?_⟩
  · rw [← h.ino j j1 j2]
    exact part_ext (by unfold inoAt; omega) (by unfold inoAt; omega) fun i i1 i2 => hs i (by unfold inoAt at i2; omega)
  · rw [← h.map]
    exact part_ext (by omega) (by omega) fun i i1 i2 => hs i (by omega)
  · rw [← h.blk n n1 n2]
    exact part_ext (by unfold blkAt; omega) (by unfold blkAt; omega) fun i i1 i2 => hs i (by unfold blkAt at i1; omega)
  · rw [← h.head]
    exact part_ext (by omega) (by omega) fun i i1 i2 => hs i (by omega)
  · rw [← h.logs]
    exact part_ext (by omega) (by omega) fun i i1 i2 => hs i (by omega)
end Gd
end Go.Proofs.YtiinponoeaihcaaGreat

/- A log's record in plain words: changes as bytes, and back. -/
namespace Go.Proofs.YtiinponoeaihcaaGreat
namespace Gd
def paB (p : Pa) : List UInt8 := le p.1 4 ++ (le p.2.length 2 ++ p.2)
def pasB (P : List Pa) : List UInt8 := P.flatMap paB
/-- what stands ahead of the sum -/
def recBody (P : List Pa) : List UInt8 := le P.length 2 ++ pasB P
def pad8 (n : Nat) : List UInt8 := List.replicate (up8 n - n) 0
def recB (P : List Pa) : List UInt8 := recBody P ++ le (crc (recBody P)) 4 ++ pad8 ((recBody P).length + 4)
def wt (P : List Pa) : Nat := (pasB P).length
/-- a change that a record may hold -/
def PaMay (p : Pa) : Prop := p.1 < 4294967296 ∧ p.2.length ≤ 256
theorem paB_length (p : Pa) : (paB p).length = 6 + p.2.length := by
  unfold paB
  rw [List.length_append, List.length_append, le_length, le_length]
  omega
theorem pasB_snoc (P : List Pa) (p : Pa) : pasB (P ++ [p]) = pasB P ++ paB p := by
  unfold pasB
  rw [List.flatMap_append]
  simp
theorem wt_snoc (P : List Pa) (p : Pa) : wt (P ++ [p]) = wt P + (6 + p.2.length) := by
  unfold wt
  rw [pasB_snoc, List.length_append, paB_length]
theorem recBody_length (P : List Pa) : (recBody P).length = 2 + wt P := by
  unfold recBody wt
  rw [List.length_append, le_length]
theorem up8_ge (n : Nat) : n ≤ up8 n ∧ up8 n < n + 8 ∧ up8 n % 8 = 0 := by
  unfold up8
  omega
theorem recB_length (P : List Pa) : (recB P).length = up8 (6 + wt P) := by
  have := up8_ge (2 + wt P + 4)
  unfold recB pad8
  rw [List.length_append, List.length_append, le_length, recBody_length, List.length_replicate, show 6 + wt P = 2 + wt P + 4 by omega]
  omega
/-- where the k-th change stands in a record -/
def paOff (P : List Pa) (k : Nat) : Nat := 2 + (pasB (P.take k)).length
theorem part_mid (A B C : List UInt8) : part (A ++ (B ++ C)) A.length B.length = B := by
  unfold part
  rw [List.drop_left, List.take_left]
theorem recB_split {P : List Pa} {k : Nat} {p : Pa} (h : P[k]? = some p) : ∃ A C, recB P = A ++ (le p.1 4 ++ (le p.2.length 2 ++ (p.2 ++ C))) ∧ A.length = paOff P k := by
  have hk : k < P.length := (List.getElem?_eq_some_iff.1 h).1
  have hp : P[k] = p := (List.getElem?_eq_some_iff.1 h).2
  have e : P = P.take k ++ p :: P.drop (k + 1) := by
    rw [← hp, List.getElem_cons_drop, List.take_append_drop]
  have eb : pasB P = pasB (P.take k) ++ (paB p ++ pasB (P.drop (k + 1))) := by
    conv => lhs; rw [e]
    unfold pasB
    rw [List.flatMap_append, List.flatMap_cons]
  refine ⟨le P.length 2 ++ pasB (P.take k), pasB (P.drop (k + 1)) ++ (le (crc (recBody P)) 4 ++ pad8 ((recBody P).length + 4)), ?_, ?_⟩
  · unfold recB
    rw [List.append_assoc]
    generalize le (crc (recBody P)) 4 ++ pad8 ((recBody P).length + 4) = T
    have eR : recBody P = le P.length 2 ++ (pasB (P.take k) ++ (paB p ++ pasB (P.drop (k + 1)))) := by
      show le P.length 2 ++ pasB P = _
      rw [eb]
    rw [eR]
    unfold paB
    simp only [List.append_assoc]
  · rw [List.length_append, le_length]
    rfl
theorem paOff_succ {P : List Pa} {k : Nat} {p : Pa} (h : P[k]? = some p) : paOff P (k + 1) = paOff P k + 4 + 2 + p.2.length := by
  unfold paOff
  rw [List.take_add_one, h]
  show 2 + (pasB (P.take k ++ [p])).length = _
  rw [pasB_snoc, List.length_append, paB_length]
  omega
theorem paOff_end (P : List Pa) : paOff P P.length = (recBody P).length := by
  unfold paOff
  rw [List.take_length, recBody_length]
  rfl
theorem paOff_le (P : List Pa) (k : Nat) : paOff P k ≤ 2 + wt P := by
  unfold paOff wt
  have : pasB P = pasB (P.take k) ++ pasB (P.drop k) := by
    unfold pasB
    rw [← List.flatMap_append, List.take_append_drop]
  rw [this, List.length_append]
  omega
theorem getN_mid (A C : List UInt8) (n w : Nat) (hn : n < 256 ^ w) : getN (A ++ (le n w ++ C)) A.length w = n := by
  unfold getN
  have := part_mid A (le n w) C
  unfold part at this
  rw [le_length] at this
  rw [this, unle_le w n hn]
theorem get_mid (A C : List UInt8) (n w : Nat) (hn : n < 256 ^ w) (h63 : n < 9223372036854775808) : getB (A ++ (le n w ++ C)) A.length w = true ∧ get (A ++ (le n w ++ C)) A.length w = n := by
  have h1 := getN_mid A C n w hn
  have h2 : getB (A ++ (le n w ++ C)) A.length w = true := by
    unfold getB
    rw [Int.toNat_natCast, h1]
    simp only [Bool.and_eq_true, decide_eq_true_eq, List.length_append, le_length]
    omega
  refine ⟨h2, ?_⟩
  unfold get
  rw [if_pos h2, Int.toNat_natCast, h1]
end Gd
end Go.Proofs.YtiinponoeaihcaaGreat

/- Which blocks are used, in plain words; where parts lie. -/
namespace Go.Proofs.YtiinponoeaihcaaGreat
namespace Gd
def bitOf (n : Nat) : Nat := 2 ^ ((n - 1) % 8)
def byteAt (m : List UInt8) (n : Nat) : Nat := (m.getD ((n - 1) / 8) 0).toNat
def usedB (m : List UInt8) (n : Nat) : Bool := byteAt m n &&& bitOf n != 0
def takeB (m : List UInt8) (n : Nat) : List UInt8 := m.set ((n - 1) / 8) (UInt8.ofNat (byteAt m n ||| bitOf n))
def giveB (m : List UInt8) (n : Nat) : List UInt8 := m.set ((n - 1) / 8) (UInt8.ofNat (byteAt m n &&& (255 - bitOf n)))
def isBlk (n : Int) : Bool := decide (1 ≤ n) && decide (n ≤ 128)
def takeI (m : List UInt8) (n : Int) : List UInt8 := if isBlk n then takeB m n.toNat else m
def giveI (m : List UInt8) (n : Int) : List UInt8 := if isBlk n then giveB m n.toNat else m
def usedI (m : List UInt8) (n : Int) : Bool := isBlk n && usedB m n.toNat
def firstFrom (m : List UInt8) : Nat → Nat → Nat
  | 0, _ => 0
  | f + 1, n => if usedB m n then firstFrom m f (n + 1) else n
/-- the first one that is not used; 0: there is none -/
def firstB (m : List UInt8) : Nat := firstFrom m 128 1
def cntF : Nat → Nat → Nat
  | 0, _ => 0
  | f + 1, c => if c = 0 then 0 else 1 + cntF f (c &&& (c - 1))
def cnt (c : Nat) : Nat := cntF 8 c
def countB (m : List UInt8) : Nat := (m.map fun c => cnt c.toNat).sum
theorem cnt_zero : cnt 0 = 0 := rfl
theorem cnt_step : ∀ c : Fin 256, c.val ≠ 0 → cnt c.val = 1 + cnt (c.val &&& (c.val - 1)) := by decide +kernel
theorem cnt_le : ∀ c : Fin 256, cnt c.val ≤ 8 := by decide +kernel
theorem cnt_or : ∀ (c : Fin 256) (b : Fin 8), c.val &&& 2 ^ b.val = 0 → cnt (c.val ||| 2 ^ b.val) = cnt c.val + 1 ∧ c.val ||| 2 ^ b.val < 256 := by decide +kernel
theorem cnt_and : ∀ (c : Fin 256) (b : Fin 8), c.val &&& 2 ^ b.val ≠ 0 → cnt (c.val &&& (255 - 2 ^ b.val)) + 1 = cnt c.val := by decide +kernel
theorem bit_or : ∀ (c : Fin 256) (a b : Fin 8), ((c.val ||| 2 ^ b.val) &&& 2 ^ a.val != 0) = (decide (a = b) || (c.val &&& 2 ^ a.val != 0)) := by decide +kernel
theorem bit_and : ∀ (c : Fin 256) (a b : Fin 8), ((c.val &&& (255 - 2 ^ b.val)) &&& 2 ^ a.val != 0) = (!decide (a = b) && (c.val &&& 2 ^ a.val != 0)) := by decide +kernel
theorem or_lt : ∀ (c : Fin 256) (b : Fin 8), c.val ||| 2 ^ b.val < 256 := by decide +kernel
theorem and_lt : ∀ (c : Fin 256) (b : Fin 8), c.val &&& (255 - 2 ^ b.val) < 256 := by decide +kernel
theorem byteAt_lt (m : List UInt8) (n : Nat) : byteAt m n < 256 := (m.getD ((n - 1) / 8) 0).toNat_lt
theorem bit8 (n : Nat) : (n - 1) % 8 < 8 := Nat.mod_lt _ (by omega)
theorem take_length (m : List UInt8) (n : Nat) : (takeB m n).length = m.length := List.length_set
theorem give_length (m : List UInt8) (n : Nat) : (giveB m n).length = m.length := List.length_set
theorem used_take {m : List UInt8} (hm : m.length = 16) {n k : Nat} (h1 : 1 ≤ n) (h2 : n ≤ 128) (k1 : 1 ≤ k) (k2 : k ≤ 128) : usedB (takeB m n) k = (decide (k = n) || usedB m k) := by
  unfold usedB
  by_cases hb : (k - 1) / 8 = (n - 1) / 8
  · have e : byteAt (takeB m n) k = byteAt m n ||| bitOf n := by
      show ((m.set _ _).getD _ 0).toNat = _
      rw [hb, List.getD_eq_getElem?_getD, List.getElem?_set_self (by omega)]
      have := or_lt ⟨byteAt m n, byteAt_lt m n⟩ ⟨_, bit8 n⟩
      simp only [Option.getD_some, UInt8.toNat_ofNat']
      exact Nat.mod_eq_of_lt this
    have e2 : byteAt m k = byteAt m n := by unfold byteAt; rw [hb]
    rw [e, e2]
    have := bit_or ⟨byteAt m n, byteAt_lt m n⟩ ⟨_, bit8 k⟩ ⟨_, bit8 n⟩
    simp only [Fin.mk.injEq] at this
    rw [show decide (k = n) = decide ((k - 1) % 8 = (n - 1) % 8) by congr 1; apply propext; omega]
    exact this
  · have e : byteAt (takeB m n) k = byteAt m k := by
      show ((m.set _ _).getD _ 0).toNat = _
      rw [List.getD_eq_getElem?_getD, List.getElem?_set_ne (fun e => hb e.symm), ← List.getD_eq_getElem?_getD]
      rfl
    rw [e, decide_eq_false (by intro e; subst e; exact hb rfl), Bool.false_or]
theorem used_give {m : List UInt8} (hm : m.length = 16) {n k : Nat} (h1 : 1 ≤ n) (h2 : n ≤ 128) (k1 : 1 ≤ k) (k2 : k ≤ 128) : usedB (giveB m n) k = (!decide (k = n) && usedB m k) := by
  unfold usedB
  by_cases hb : (k - 1) / 8 = (n - 1) / 8
  · have e : byteAt (giveB m n) k = byteAt m n &&& (255 - bitOf n) := by
      show ((m.set _ _).getD _ 0).toNat = _
      rw [hb, List.getD_eq_getElem?_getD, List.getElem?_set_self (by omega)]
      have := and_lt ⟨byteAt m n, byteAt_lt m n⟩ ⟨_, bit8 n⟩
      simp only [Option.getD_some, UInt8.toNat_ofNat']
      exact Nat.mod_eq_of_lt this
    have e2 : byteAt m k = byteAt m n := by unfold byteAt; rw [hb]
    rw [e, e2]
    have := bit_and ⟨byteAt m n, byteAt_lt m n⟩ ⟨_, bit8 k⟩ ⟨_, bit8 n⟩
    simp only [Fin.mk.injEq] at this
    rw [show decide (k = n) = decide ((k - 1) % 8 = (n - 1) % 8) by congr 1; apply propext; omega]
    exact this
  · have e : byteAt (giveB m n) k = byteAt m k := by
      show ((m.set _ _).getD _ 0).toNat = _
      rw [List.getD_eq_getElem?_getD, List.getElem?_set_ne (fun e => hb e.symm), ← List.getD_eq_getElem?_getD]
      rfl
    rw [e, decide_eq_false (by intro e; subst e; exact hb rfl), Bool.not_false, Bool.true_and]
theorem sum_set : ∀ {m : List Nat} {i : Nat} {c d : Nat}, m[i]? = some c → (m.set i d).sum + c = m.sum + d
  | [], i, c, d, h => by simp at h
  | a :: r, 0, c, d, h => by
    simp at h
    subst h
    simp only [List.set_cons_zero, List.sum_cons]
    omega
  | a :: r, i + 1, c, d, h => by
    have := sum_set (m := r) (i := i) (c := c) (d := d) (by simpa using h)
    simp only [List.set_cons_succ, List.sum_cons]
    omega
theorem count_set {m : List UInt8} (hm : m.length = 16) {n : Nat} (h1 : 1 ≤ n) (h2 : n ≤ 128) {v : Nat} (hv : v < 256) : countB (m.set ((n - 1) / 8) (UInt8.ofNat v)) + cnt (byteAt m n) = countB m + cnt v := by
  unfold countB
  rw [List.map_set]
  have e : (UInt8.ofNat v).toNat = v := by
    rw [UInt8.toNat_ofNat']
    exact Nat.mod_eq_of_lt hv
  rw [e]
  refine sum_set ?_
  rw [List.getElem?_map]
  unfold byteAt
  rw [List.getD_eq_getElem?_getD, List.getElem?_eq_getElem (by omega)]
  rfl
theorem count_take {m : List UInt8} (hm : m.length = 16) {n : Nat} (h1 : 1 ≤ n) (h2 : n ≤ 128) (hu : usedB m n = false) : countB (takeB m n) = countB m + 1 := by
  have := cnt_or ⟨byteAt m n, byteAt_lt m n⟩ ⟨_, bit8 n⟩ (by
    unfold usedB at hu
    simpa [bitOf] using hu)
  have h := count_set hm h1 h2 (v := byteAt m n ||| bitOf n) this.2
  have h3 : cnt (byteAt m n ||| bitOf n) = cnt (byteAt m n) + 1 := this.1
  show countB (m.set _ _) = _
  omega
theorem count_give {m : List UInt8} (hm : m.length = 16) {n : Nat} (h1 : 1 ≤ n) (h2 : n ≤ 128) (hu : usedB m n = true) : countB (giveB m n) + 1 = countB m := by
  have h3 := cnt_and ⟨byteAt m n, byteAt_lt m n⟩ ⟨_, bit8 n⟩ (by
    unfold usedB at hu
    simpa [bitOf] using hu)
  have h := count_set hm h1 h2 (v := byteAt m n &&& (255 - bitOf n)) (and_lt ⟨byteAt m n, byteAt_lt m n⟩ ⟨_, bit8 n⟩)
  have h4 : cnt (byteAt m n &&& (255 - bitOf n)) + 1 = cnt (byteAt m n) := h3
  show countB (m.set _ _) + 1 = _
  omega
theorem firstFrom_in {m : List UInt8} : ∀ {f n : Nat}, n + f = 129 → 1 ≤ n → (firstFrom m f n = 0 ∧ ∀ k, n ≤ k → k ≤ 128 → usedB m k = true) ∨ (n ≤ firstFrom m f n ∧ firstFrom m f n ≤ 128 ∧ usedB m (firstFrom m f n) = false ∧ ∀ k, n ≤ k → k < firstFrom m f n → usedB m k = true)
  | 0, n, h, _ => Or.inl ⟨rfl, fun k h1 h2 => by omega⟩
  | f + 1, n, h, h1 => by
    rw [firstFrom]
    cases hu : usedB m n with
    | true =>
      rw [if_pos rfl]
      rcases firstFrom_in (m := m) (f := f) (n := n + 1) (by omega) (by omega) with ⟨e, ha⟩ | ⟨e1, e2, e3, ha⟩
      · refine Or.inl ⟨e, fun k k1 k2 => ?_⟩
        by_cases hk : k = n
        · rw [hk]; exact hu
        · exact ha k (by omega) k2
      · refine Or.inr ⟨by omega, e2, e3, fun k k1 k2 => ?_⟩
        by_cases hk : k = n
        · rw [hk]; exact hu
        · exact ha k (by omega) k2
    | false =>
      rw [if_neg (by simp)]
      exact Or.inr ⟨Nat.le_refl _, by omega, hu, fun k k1 k2 => by omega⟩
/-- where a part lies: its kind and its number -/
def partAt (kind number : Int) : Option (Nat × Nat) :=
  if kind = 1 then (if number = 0 then some (0, 64) else none)
  else if kind = 2 then (if 1 ≤ number ∧ number ≤ 8 then some (64 + 64 * (number.toNat - 1), 64) else none)
  else if kind = 3 then (if number = 0 then some (576, 64) else none)
  else if kind = 4 then (if 1 ≤ number ∧ number ≤ 32 then some (640 + 64 * (number.toNat - 1), 64) else none)
  else if kind = 5 then (if number = 0 then some (2688, 4096) else none)
  else if kind = 6 then (if 1 ≤ number ∧ number ≤ 8 then some (6784 + 1024 * (number.toNat - 1), 1024) else none)
  else if kind = 7 then (if 1 ≤ number ∧ number ≤ 128 then some (14976 + 64 * (number.toNat - 1), 64) else none)
  else none
end Gd
end Go.Proofs.YtiinponoeaihcaaGreat

/- Which blocks a call may turn: those of a set, and new ones; what a call holds behind its beginning. -/
namespace Go.Proofs.YtiinponoeaihcaaGreat
/-- the block of the memory that a volume lies in -/
class MemNo where
  no : Nat
open Go.RowKit

/-- w' is w but for blocks of F, and new ones -/
structure Only (F : Nat → Prop) (w w' : World) : Prop where
  os : w'.os = w.os
  tape : w'.tape = w.tape
  output : w'.output = w.output
  size : w.heap.size ≤ w'.heap.size
  block : ∀ k, k < w.heap.size → ¬ F k → w'.heap[k]? = w.heap[k]?

theorem Only.refl (F : Nat → Prop) (w : World) : Only F w w := ⟨rfl, rfl, rfl, Nat.le_refl _, fun _ _ _ => rfl⟩
theorem Only.trans {F G : Nat → Prop} {a b c : World} (h : Only F a b) (k : Only G b c) (hG : ∀ j, j < a.heap.size → G j → F j) : Only F a c :=
  ⟨k.os.trans h.os, k.tape.trans h.tape, k.output.trans h.output, Nat.le_trans h.size k.size, fun j hj hn => (k.block j (Nat.lt_of_lt_of_le hj h.size) (fun e => hn (hG j hj e))).trans (h.block j hj hn)⟩
theorem Only.mono {F G : Nat → Prop} {w w' : World} (h : Only F w w') (hG : ∀ j, j < w.heap.size → F j → G j) : Only G w w' :=
  ⟨h.os, h.tape, h.output, h.size, fun j hj hn => h.block j hj fun e => hn (hG j hj e)⟩
theorem below_only {w w' : World} (h : Below w.heap.size w w') (F : Nat → Prop) : Only F w w' := ⟨h.os, h.tape, h.output, h.size, fun j hj _ => h.block j hj⟩
theorem grown_only {F : Nat → Prop} {w w' : World} {row : Option Nat} (h : w.grownBy w' row) (hr : ∀ k, row = some k → F k) : Only F w w' :=
  ⟨h.os, h.tape, h.output, h.size, fun j hj hn => h.block j hj fun e => hn (hr j e.symm)⟩
theorem Only.cell {F : Nat → Prop} {w w' : World} (h : Only F w w') {p : Addr} (hp : p.block < w.heap.size) (hn : ¬ F p.block) : w'.cell? p = w.cell? p := World.cell?_of_block (w := w) (h.block _ hp hn)
theorem Only.frozen {F : Nat → Prop} {w w' : World} (h : Only F w w') {p : Addr} (hp : p.block < w.heap.size) (hn : ¬ F p.block) : w'.frozen? p = w.frozen? p := World.frozen?_of_block (w := w) (h.block _ hp hn)
theorem Only.below {F : Nat → Prop} {B : Nat} {w w' : World} (h : Only F w w') (hB : B ≤ w.heap.size) (hn : ∀ k, k < B → ¬ F k) : Below B w w' :=
  ⟨h.os, h.tape, h.output, h.size, fun k hk => h.block k (Nat.lt_of_lt_of_le hk hB) (hn k hk)⟩
theorem only_setCell (w : World) (a : Addr) (u : Value) {F : Nat → Prop} (hF : F a.block) : Only F w (w.setCell a u) :=
  ⟨rfl, rfl, rfl, by simp [World.setCell], fun k _ hn => Below.heap_setCell w a u k (fun e => hn (e ▸ hF))⟩

/-- F, and what is new from w on -/
def Gr (F : Nat → Prop) (w : World) (k : Nat) : Prop := F k ∨ w.heap.size ≤ k

/-- a thing in memory that lies in blocks of a set -/
structure Held (I : World → (Nat → Prop) → Prop) : Prop where
  keep : ∀ {w w' : World} {F : Nat → Prop}, I w F → w.heap.size ≤ w'.heap.size → (∀ k, k < w.heap.size → F k → w'.heap[k]? = w.heap[k]?) → I w' F
  mono : ∀ {w : World} {F G : Nat → Prop}, I w F → (∀ k, k < w.heap.size → F k → G k) → I w G

theorem Held.below {I : World → (Nat → Prop) → Prop} (hH : Held I) {w w' : World} {F : Nat → Prop} (h : I w F) (hb : Below w.heap.size w w') : I w' F := hH.keep h hb.size fun k hk _ => hb.block k hk
/-- what another thing's call does does not turn it -/
theorem Held.apart {I : World → (Nat → Prop) → Prop} (hH : Held I) {w w' : World} {F G : Nat → Prop} (h : I w F) (ho : Only G w w') (hd : ∀ k, k < w.heap.size → F k → ¬ G k) : I w' F :=
  hH.keep h ho.size fun k hk hF => ho.block k hk (hd k hk hF)
/-- a change behind some blocks that the call laid ahead of it -/
theorem Held.back {I : World → (Nat → Prop) → Prop} (hH : Held I) {w wa w' : World} {F : Nat → Prop} (hb : Below w.heap.size w wa) (h : I w' (Gr F wa)) (ho : Only F wa w') : I w' (Gr F w) ∧ Only F w w' :=
  ⟨hH.mono h fun _ _ h => h.imp id fun e => Nat.le_trans hb.size e, (below_only hb F).trans ho fun _ _ h => h⟩

/-- F as it was when the call began, and what is new behind the call's own n blocks -/
def Ft (F : Nat → Prop) (w0 : World) (n : Nat) (k : Nat) : Prop := (F k ∧ k < w0.heap.size) ∨ w0.heap.size + n ≤ k
/-- what a call holds that laid n blocks of its own when it began -/
structure St (I : World → (Nat → Prop) → Prop) (F : Nat → Prop) (w0 : World) (n : Nat) (w : World) : Prop where
  inv : I w (Ft F w0 n)
  only : Only F w0 w
  size : w0.heap.size + n ≤ w.heap.size

theorem St.start {I : World → (Nat → Prop) → Prop} (hH : Held I) {w w' : World} {F : Nat → Prop} {n : Nat} (h : I w F) (hb : Below w.heap.size w w') (hs : w.heap.size + n ≤ w'.heap.size) : St I F w n w' :=
  ⟨hH.below (hH.mono h fun _ hk hF => Or.inl ⟨hF, hk⟩) hb, below_only hb F, hs⟩
theorem St.read {I : World → (Nat → Prop) → Prop} (hH : Held I) {w0 w w' : World} {F : Nat → Prop} {n : Nat} (h : St I F w0 n w) (hb : Below w.heap.size w w') : St I F w0 n w' :=
  ⟨hH.below h.inv hb, h.only.trans (below_only hb F) fun _ _ e => e, Nat.le_trans h.size hb.size⟩
theorem St.write {I J : World → (Nat → Prop) → Prop} (hJ : Held J) {w0 w w' : World} {F : Nat → Prop} {n : Nat} (h : St I F w0 n w) (hi : J w' (Gr (Ft F w0 n) w)) (ho : Only (Ft F w0 n) w w') : St J F w0 n w' :=
  ⟨hJ.mono hi fun _ _ e => e.elim id fun e => Or.inr (Nat.le_trans h.size e), h.only.trans ho fun j hj e => e.elim (fun e => e.1) fun e => absurd e (by omega), Nat.le_trans h.size ho.size⟩
theorem St.own {I : World → (Nat → Prop) → Prop} {w0 w w' : World} {F : Nat → Prop} {n : Nat} (h : St I F w0 n w) (ho : Only (Ft F w0 n) w w') {k : Nat} (h1 : w0.heap.size ≤ k) (h2 : k < w0.heap.size + n) : w'.heap[k]? = w.heap[k]? :=
  ho.block k (Nat.lt_of_lt_of_le h2 h.size) fun e => e.elim (fun e => absurd e.2 (by omega)) fun e => absurd e (by omega)
theorem St.fin {I : World → (Nat → Prop) → Prop} (hH : Held I) {w0 w w' : World} {F : Nat → Prop} {n : Nat} (h : St I F w0 n w) (ho : Only (fun k => w0.heap.size ≤ k ∧ k < w0.heap.size + n) w w') : I w' (Gr F w0) ∧ Only F w0 w' := by
  refine ⟨hH.mono (hH.apart h.inv ho fun k _ e he => ?_) fun k _ e => ?_, h.only.trans ho fun j hj e => absurd e.1 (by omega)⟩
  · rcases e with ⟨_, e⟩ | e <;> omega
  · rcases e with ⟨e, _⟩ | e
    · exact Or.inl e
    · exact Or.inr (by omega)

end Go.Proofs.YtiinponoeaihcaaGreat

/- Walks: the memory that lasts: its size, its bytes. -/
namespace Go.Proofs.YtiinponoeaihcaaGreat
open Go.RowKit Go.Maps

theorem lt_get {w : World} {k : Nat} {o : Obj} (h : w.heap[k]? = some o) : k < w.heap.size := (Array.getElem?_eq_some_iff.1 h).1
def cellsB (S : List UInt8) : Array Value := (Lib.byteCells S).toArray
theorem cellsB_get {S : List UInt8} {j : Nat} {x : UInt8} (h : S[j]? = some x) : (cellsB S)[j]? = some (.int .u8 x.toNat) := by
  unfold cellsB
  rw [List.getElem?_toArray]
  exact byteCells_get h
/-- .. with something behind them -/
def cellsT (S : List UInt8) (T : List Value) : Array Value := (Lib.byteCells S ++ T).toArray
theorem cellsT_get {S : List UInt8} {T : List Value} {j : Nat} {x : UInt8} (h : S[j]? = some x) : (cellsT S T)[j]? = some (.int .u8 x.toNat) := by
  have h1 := byteCells_get h
  unfold cellsT
  rw [List.getElem?_toArray, List.getElem?_append_left (List.getElem?_eq_some_iff.1 h1).1]
  exact h1
theorem cellsT_nil (S : List UInt8) : cellsT S [] = cellsB S := by
  unfold cellsT cellsB
  rw [List.append_nil]
theorem cellsT_set {S : List UInt8} {T : List Value} {j : Nat} (x : UInt8) (hj : j < S.length) : (cellsT S T).setIfInBounds j (.int .u8 x.toNat) = cellsT (S.set j x) T := by
  unfold cellsT Lib.byteCells
  rw [← Array.toList_inj]
  simp only [Array.toList_setIfInBounds, List.map_set]
  rw [List.set_append_left _ _ (by rw [List.length_map]; exact hj)]
/-- which cells are on their way -/
def Away (w : World) (ab n K : Nat) : Prop := ∃ (k : Nat) (D : DataW Unit), k ≤ K ∧ w.ownsMap Tryz.prog 3 (plainElem Tryz.prog 4) ab k D ∧ ∀ kl, Maps.has D kl = true → ∃ j : Nat, j < n ∧ kl = .int .i64 j
/-- the cell k of bytes -/
def cel (S : List UInt8) (k : Nat) : List UInt8 := Gd.part S (k * 8) 8
def NoX (_ : Nat) : Prop := False
theorem map_keepM {w w' : World} {b n : Nat} {D : DataW Unit} {k : TypeId} {R : Value → Option (DataW Unit × List MemPlace)} (h : w.ownsMap Tryz.prog k R b n D) (hb : w'.heap[b]? = w.heap[b]?) : w'.ownsMap Tryz.prog k R b n D := by
  obtain ⟨es, ck, h1, h2⟩ := h
  exact ⟨es, ck, hb.trans h1, h2⟩
theorem Away.lt {w : World} {ab n K : Nat} (h : Away w ab n K) : ab < w.heap.size := by
  obtain ⟨k, D, _, h, _⟩ := h
  exact h.lt
theorem Away.keep {w w' : World} {ab n K : Nat} (h : Away w ab n K) (hb : w'.heap[ab]? = w.heap[ab]?) : Away w' ab n K := by
  obtain ⟨k, D, h1, h2, h3⟩ := h
  exact ⟨k, D, h1, map_keepM h2 hb, h3⟩
end Go.Proofs.YtiinponoeaihcaaGreat

/- Walks: the memory that lasts: bytes that are loaded. -/
namespace Go.Proofs.YtiinponoeaihcaaGreat
open Go.RowKit Go.Maps

theorem part_snoc {S : List UInt8} {a i : Nat} {x : UInt8} (h : S[a + i]? = some x) : Gd.part S a (i + 1) = Gd.part S a i ++ [x] := part_next h
theorem nat_I64 {n : Nat} (h : n ≤ 9223372036854775807) : I64 (n : Int) := by
  unfold I64
  simp [Lit.wf, show IntKind.i64.min = -9223372036854775808 from rfl, show IntKind.i64.max = 9223372036854775807 from rfl]
  omega
/-- bytes of a call's own, and no error -/
def Loads (w : World) (L : List UInt8) (e : Ending) (w' : World) : Prop := ∃ v, e = .returned (.tuple #[v, .int .i64 0]) ∧ OwnB w' w.heap.size v L ∧ Below w.heap.size w w'

theorem cell2 {w : World} {m t : Nat} {a b c : Value} (h : w.heap[m]? = some (.cells #[a, b, c] t (0, 0))) : w.cell? ⟨m, 0, none⟩ = some a ∧ w.cell? ⟨m, 1, none⟩ = some b ∧ w.cell? ⟨m, 2, none⟩ = some c :=
  ⟨cell_of_row w m 0 _ _ _ h, cell_of_row w m 1 _ _ _ h, cell_of_row w m 2 _ _ _ h⟩
/-- bytes that are not within: an error -/
def Fails (w : World) (e : Ending) (w' : World) : Prop := e = .returned (.tuple #[.slice none 0 0, .int .i64 1]) ∧ w' = w
end Go.Proofs.YtiinponoeaihcaaGreat

/- Walks: the memory that lasts: bytes that are stored. -/
namespace Go.Proofs.YtiinponoeaihcaaGreat
open Go.RowKit Go.Maps

theorem Tryz.intLaw : Keyed Tryz.prog 3 := int_keyed Tryz.underlying3
theorem only_turned {w w' : World} {b : Nat} (h : w.mapTurned w' b) : Only (fun k => k = b) w w' := grown_only h.grown (fun k e => (Option.some.inj e).symm)
theorem has_del_le {D : DataW Unit} {kl z : Lit} (h : has (D.del kl) z = true) : has D z = true := by
  by_cases e : z = kl
  · rw [e, has_del_same] at h
    cases h
  · rwa [has_del_other e] at h
theorem splice_take {S b : List UInt8} {a i : Nat} {x : UInt8} (hx : b[i]? = some x) (h : a + b.length ≤ S.length) : (Gd.splice S a (b.take i)).set (a + i) x = Gd.splice S a (b.take (i + 1)) := by
  have hi := (List.getElem?_eq_some_iff.1 hx).1
  have h1 : (b.take i).length = i := by rw [List.length_take]; omega
  have h2 : (b.take (i + 1)).length = i + 1 := by rw [List.length_take]; omega
  apply List.ext_getElem?
  intro j
  rw [Gd.splice_get (by rw [h2]; omega), h2]
  by_cases hj : j = a + i
  · subst hj
    rw [List.getElem?_set_self (by rw [Gd.splice_length (by rw [h1]; omega)]; omega), if_pos (by omega), show a + i - a = i by omega, List.getElem?_take_of_lt (by omega), hx]
  · rw [List.getElem?_set_ne (fun e => hj e.symm), Gd.splice_get (by rw [h1]; omega), h1]
    by_cases hk : a ≤ j ∧ j < a + i
    · rw [if_pos hk, if_pos (by omega), List.getElem?_take_of_lt (by omega), List.getElem?_take_of_lt (by omega)]
    · rw [if_neg hk, if_neg (by omega)]
theorem cellsB_set {S : List UInt8} {j : Nat} (x : UInt8) : (cellsB S).setIfInBounds j (.int .u8 x.toNat) = cellsB (S.set j x) := by
  unfold cellsB Lib.byteCells
  rw [← Array.toList_inj]
  simp [List.map_set]

theorem cel_set {S : List UInt8} {j : Nat} (x : UInt8) {k : Nat} (h : k ≠ j / 8) : cel (S.set j x) k = cel S k := by
  unfold cel Gd.part
  apply List.ext_getElem?
  intro i
  rw [List.getElem?_take, List.getElem?_take, List.getElem?_drop, List.getElem?_drop]
  by_cases hi : i < 8
  · rw [if_pos hi, if_pos hi, List.getElem?_set_ne (by omega)]
  · rw [if_neg hi, if_neg hi]
/-- the cells that bytes lie in -/
def touched (a k : Nat) (q : Nat) : Prop := ∃ i, i < k ∧ (a + i) / 8 = q
end Go.Proofs.YtiinponoeaihcaaGreat

/- Rows of bytes, as values, that are compared. -/
namespace Go.Proofs.YtiinponoeaihcaaGreat
open Go.RowKit

theorem mapM_all {α β : Type} (f : α → Option β) (g : α → β) : ∀ (l : List α), (∀ a ∈ l, f a = some (g a)) → l.mapM f = some (l.map g)
  | [], _ => rfl
  | a :: r, h => by
    rw [List.mapM_cons, h a (List.mem_cons_self ..), mapM_all f g r fun b hb => h b (List.mem_cons_of_mem _ hb)]
    rfl
theorem flatten_one {α β : Type} (f : α → β) : ∀ (l : List α), (l.map fun a => [f a]).flatten = l.map f
  | [] => rfl
  | a :: r => by rw [List.map_cons, List.flatten_cons, flatten_one f r]; rfl
theorem range_getD {β : Type} (h : UInt8 → β) (L : List UInt8) : (List.range L.length).map (fun i => h (L.getD i 0)) = L.map h := by
  apply List.ext_getElem?
  intro i
  rw [List.getElem?_map, List.getElem?_map]
  by_cases hi : i < L.length
  · rw [List.getElem?_range hi, List.getElem?_eq_getElem hi]
    simp [List.getD_eq_getElem?_getD, List.getElem?_eq_getElem hi]
  · rw [List.getElem?_eq_none (by simpa using hi), List.getElem?_eq_none (by omega)]
    rfl
theorem u8_wf (x : UInt8) : (Lit.int .u8 x.toNat).wf = true := by
  have := x.toNat_lt
  simp [Lit.wf, show IntKind.u8.min = 0 from rfl, show IntKind.u8.max = 255 from rfl]
  omega
theorem u8_key (x : UInt8) : Tryz.prog.keyLits 1 5 [.int .u8 x.toNat] = some [.int .u8 x.toNat] := by
  unfold Program.keyLits
  simp [Tryz.underlying5, u8_wf x]
theorem u8_cells : Tryz.prog.cellsOf 5 = 1 := by kernel_rfl
theorem u8_items (L : List UInt8) : (List.range L.length).mapM (fun i => Tryz.prog.keyLits 1 5 (((Lib.byteCells L).toArray.toList.drop (i * Tryz.prog.cellsOf 5)).take (Tryz.prog.cellsOf 5))) = some ((List.range L.length).map fun i => [Lit.int .u8 (L.getD i 0).toNat]) := by
  refine mapM_all _ _ _ fun i hi => ?_
  have hi' : i < L.length := by simpa using hi
  rw [u8_cells, Nat.mul_one]
  have e : ((Lib.byteCells L).toArray.toList.drop i).take 1 = [Value.int .u8 (L.getD i 0).toNat] := by
    rw [List.getD_eq_getElem?_getD, List.getElem?_eq_getElem hi']
    have hb : (Lib.byteCells L)[i]? = some (.int .u8 L[i].toNat) := byteCells_get (List.getElem?_eq_getElem hi')
    have hl : i < (Lib.byteCells L).length := (List.getElem?_eq_some_iff.1 hb).1
    rw [List.drop_eq_getElem_cons hl, List.take_succ_cons, List.take_zero]
    have := (List.getElem?_eq_some_iff.1 hb).2
    rw [this]
    rfl
  rw [e]
  exact u8_key _
set_option maxRecDepth 100000 in
/-- two rows of bytes are the same just if their bytes are -/
theorem arr_eq {t : TypeId} (L M : List UInt8) (hl : M.length = L.length) (hu : Tryz.prog.underlying t = some (.array L.length 5)) (w : World) : (Op.equal t (.agg (Lib.byteCells L).toArray) (.agg (Lib.byteCells M).toArray)).run Tryz.prog w = .ok (decide (L = M)) w := by
  obtain ⟨i0, hi, _⟩ := info_parts Tryz.infoU8
  refine (run_equalIn_array w 9999 _ _ hu hi).trans ?_
  obtain ⟨r, hr, hiff⟩ := run_eqItems_plain w 9998 (P := Tryz.prog) (e := 5) (by kernel_rfl) (Lib.byteCells L).toArray (Lib.byteCells M).toArray (D := 1) (D' := 1) (List.range L.length) _ _ (u8_items L) (by rw [← hl]; exact u8_items M)
  refine hr.trans ?_
  congr 1
  rw [flatten_one, flatten_one, range_getD (fun x => Lit.int .u8 x.toNat) L, range_getD (fun x => Lit.int .u8 x.toNat) M] at hiff
  rw [Bool.eq_iff_iff, hiff, decide_eq_true_iff]
  constructor
  · intro h
    refine List.map_inj_right (fun x y e => ?_) |>.1 h
    have := (Lit.int.inj e).2
    exact UInt8.toNat_inj.1 (by omega)
  · intro h
    rw [h]
theorem arr_neq {t : TypeId} (L M : List UInt8) (hl : M.length = L.length) (hu : Tryz.prog.underlying t = some (.array L.length 5)) (w : World) : (binOp .neq t (.agg (Lib.byteCells L).toArray) (.agg (Lib.byteCells M).toArray)).run Tryz.prog w = .ok (.bool (!decide (L = M))) w := by
  simp [binOp, arr_eq L M hl hu w]
theorem arr_eql {t : TypeId} (L M : List UInt8) (hl : M.length = L.length) (hu : Tryz.prog.underlying t = some (.array L.length 5)) (w : World) : (binOp .eql t (.agg (Lib.byteCells L).toArray) (.agg (Lib.byteCells M).toArray)).run Tryz.prog w = .ok (.bool (decide (L = M))) w := by
  simp [binOp, arr_eq L M hl hu w]

end Go.Proofs.YtiinponoeaihcaaGreat

/- Walks: the memory that lasts: cells are set on their way. -/
namespace Go.Proofs.YtiinponoeaihcaaGreat
open Go.RowKit Go.Maps

theorem eight {S : List UInt8} {k n : Nat} (h : S.length = n * 8) (hk : k < n) : ∃ x0 x1 x2 x3 x4 x5 x6 x7, S[k * 8]? = some x0 ∧ S[k * 8 + 1]? = some x1 ∧ S[k * 8 + 2]? = some x2 ∧ S[k * 8 + 3]? = some x3 ∧ S[k * 8 + 4]? = some x4 ∧ S[k * 8 + 5]? = some x5 ∧ S[k * 8 + 6]? = some x6 ∧ S[k * 8 + 7]? = some x7 :=
  ⟨_, _, _, _, _, _, _, _, List.getElem?_eq_getElem (by omega), List.getElem?_eq_getElem (by omega), List.getElem?_eq_getElem (by omega), List.getElem?_eq_getElem (by omega), List.getElem?_eq_getElem (by omega), List.getElem?_eq_getElem (by omega), List.getElem?_eq_getElem (by omega), List.getElem?_eq_getElem (by omega)⟩
theorem cellBT {w : World} {g t j : Nat} {S : List UInt8} {T : List Value} {x : UInt8} (h : w.heap[g]? = some (.cells (cellsT S T) t (0, 0))) (hx : S[j]? = some x) : w.cell? ⟨g, j, none⟩ = some (.int .u8 x.toNat) := (cell_of_row w g j _ _ _ h).trans (cellsT_get hx)
theorem cellB {w : World} {g t j : Nat} {S : List UInt8} {x : UInt8} (h : w.heap[g]? = some (.cells (cellsB S) t (0, 0))) (hx : S[j]? = some x) : w.cell? ⟨g, j, none⟩ = some (.int .u8 x.toNat) := (cell_of_row w g j _ _ _ h).trans (cellsB_get hx)

theorem cel_eight {S : List UInt8} {k : Nat} {x0 x1 x2 x3 x4 x5 x6 x7 : UInt8} (s0 : S[k * 8]? = some x0) (s1 : S[k * 8 + 1]? = some x1) (s2 : S[k * 8 + 2]? = some x2) (s3 : S[k * 8 + 3]? = some x3) (s4 : S[k * 8 + 4]? = some x4) (s5 : S[k * 8 + 5]? = some x5) (s6 : S[k * 8 + 6]? = some x6) (s7 : S[k * 8 + 7]? = some x7) : cel S k = [x0, x1, x2, x3, x4, x5, x6, x7] := by
  unfold cel Gd.part
  apply List.ext_getElem?
  intro i
  rw [List.getElem?_take]
  by_cases hi : i < 8
  · rw [if_pos hi, List.getElem?_drop]
    match i, hi with
    | 0, _ => rw [Nat.add_zero, s0]; rfl
    | 1, _ => rw [s1]; rfl
    | 2, _ => rw [s2]; rfl
    | 3, _ => rw [s3]; rfl
    | 4, _ => rw [s4]; rfl
    | 5, _ => rw [s5]; rfl
    | 6, _ => rw [s6]; rfl
    | 7, _ => rw [s7]; rfl
  · rw [if_neg hi, List.getElem?_eq_none (by simp; omega)]
end Go.Proofs.YtiinponoeaihcaaGreat

/- Walks: the memory that lasts: Flush, and what is on its way lasts. -/
namespace Go.Proofs.YtiinponoeaihcaaGreat
open Go.RowKit Go.Maps

theorem touched_line {a k q : Nat} (h : touched a k q) : 0 < k ∧ a / 64 * 8 ≤ q ∧ q < ((a + k - 1) / 64 + 1) * 8 := by
  obtain ⟨i, hi, rfl⟩ := h
  omega
end Go.Proofs.YtiinponoeaihcaaGreat

/- Walks: the memory that lasts: a cell lasts; all that is on its way. -/
namespace Go.Proofs.YtiinponoeaihcaaGreat
open Go.RowKit Go.Maps

theorem setCells_bytes (b : Nat) (t : TypeId) : ∀ (X : List UInt8) (o : Nat) (w : World) (Z : List UInt8), w.heap[b]? = some (.cells (cellsB Z) t (0, 0)) → ∃ Z' : List UInt8, Z'.length = Z.length ∧ (w.setCells b o (Lib.byteCells X)).heap[b]? = some (.cells (cellsB Z') t (0, 0))
  | [], _, _, Z, h => ⟨Z, rfl, h⟩
  | x :: r, o, w, Z, h => by
    have h1 := Go.heap_setCell_same w b o _ t (.int .u8 x.toNat) h
    rw [cellsB_set] at h1
    obtain ⟨Z', hl, h2⟩ := setCells_bytes b t r (o + 1) _ (Z.set o x) h1
    exact ⟨Z', by rw [hl, List.length_set], h2⟩
theorem setCells_grownM (g : Nat) : ∀ (vs : List Value) (o : Nat) (w : World), w.grownBy (w.setCells g o vs) (some g)
  | [], _, w => ⟨rfl, rfl, rfl, Nat.le_refl _, fun _ _ _ => rfl⟩
  | v :: r, o, w => by
    have h := setCells_grownM g r (o + 1) (w.setCell ⟨g, o, none⟩ v)
    rw [World.setCells]
    exact grown_trans (setCell_grown g o w v) h
theorem there_cells {w : World} {g t : Nat} {C : Array Value} (h : w.heap[g]? = some (.cells C t (0, 0))) {o n : Nat} (ho : o + n ≤ C.size) : w.there g o n := fun j hj => by
  refine ⟨?_, frozen_of_row _ _ _ _ t h⟩
  have : C[o + j]? = some C[o + j] := Array.getElem?_eq_getElem (by omega)
  rw [cell_of_row _ _ (o + j) C t _ h, this]
  rfl
theorem cellsB_size (S : List UInt8) : (cellsB S).size = S.length := by
  unfold cellsB
  rw [List.size_toArray, byteCells_len]

/-- a truth, in a box of its own: else a walk parts the ways at once -/
structure BoxB where
  b : Bool
def boxV (x : BoxB) : Value := .bool x.b
set_option maxRecDepth 100000 in
theorem elem_bool {v : Value} {y : DataW Unit × List MemPlace} (h : plainElem Tryz.prog 4 v = some y) : ∃ c : BoxB, v = boxV c := by
  unfold plainElem at h
  rw [Tryz.underlying4] at h
  cases v with
  | bool c => exact ⟨⟨c⟩, rfl⟩
  | _ => cases h
/-- cells of a row of bytes, stored -/
theorem setCells_splice (b : Nat) (t : TypeId) : ∀ (X : List UInt8) (o : Nat) (w : World) (Z : List UInt8), o + X.length ≤ Z.length → w.heap[b]? = some (.cells (cellsB Z) t (0, 0)) → (w.setCells b o (Lib.byteCells X)).heap[b]? = some (.cells (cellsB (Gd.splice Z o X)) t (0, 0))
  | [], o, w, Z, _, h => by rw [Gd.splice_nil]; exact h
  | x :: X, o, w, Z, hl, h => by
    have hl' : o + (X.length + 1) ≤ Z.length := hl
    have h1 : (w.setCell ⟨b, o, none⟩ (.int .u8 x.toNat)).heap[b]? = some (.cells (cellsB (Z.set o x)) t (0, 0)) := by
      rw [← cellsB_set]
      exact Go.heap_setCell_same w b o _ _ _ h
    have h2 := setCells_splice b t X (o + 1) (w.setCell ⟨b, o, none⟩ (.int .u8 x.toNat)) (Z.set o x) (by rw [List.length_set]; omega) h1
    rw [show Gd.splice Z o (x :: X) = Gd.splice (Z.set o x) (o + 1) X from ?_]
    · exact h2
    · apply List.ext_getElem?
      intro i
      rw [Gd.splice_get (by show o + (X.length + 1) ≤ _; omega), Gd.splice_get (by rw [List.length_set]; omega), List.getElem?_set, List.length_cons]
      by_cases e : i = o
      · subst e
        rw [if_pos ⟨Nat.le_refl _, by omega⟩, if_neg (by omega), if_pos rfl, if_pos (by omega), Nat.sub_self]
        rfl
      · by_cases h3 : o ≤ i ∧ i < o + (X.length + 1)
        · rw [if_pos h3, if_pos (by omega), show i - o = (i - (o + 1)) + 1 by omega]
          rfl
        · rw [if_neg h3, if_neg (by omega), if_neg (fun h => e h.symm)]
theorem cel_splice {S Z : List UInt8} {k j : Nat} {C : List UInt8} (hC : C.length = 8) (hk : k * 8 + 8 ≤ Z.length) (hj : j * 8 + 8 ≤ Z.length) : cel (Gd.splice Z (k * 8) C) j = if j = k then C else cel Z j := by
  unfold cel
  by_cases e : j = k
  · subst e
    rw [if_pos rfl]
    have := Gd.part_splice_same (S := Z) (k := j * 8) (b := C) (by omega)
    rw [hC] at this
    exact this
  · rw [if_neg e]
    exact Gd.part_splice_apart hj (by omega) (by omega)
/-- bytes that are the same cell by cell -/
theorem cels_eq {S Z : List UInt8} {n : Nat} (hS : S.length = n * 8) (hZ : Z.length = S.length) (h : ∀ j, j < n → cel S j = cel Z j) : Z = S := by
  apply List.ext_getElem?
  intro i
  by_cases hi : i < n * 8
  · have h1 := h (i / 8) (by omega)
    have h2 := congrArg (fun l => l[i % 8]?) h1
    simp only [cel] at h2
    rw [Gd.part_get (by omega), Gd.part_get (by omega), show i / 8 * 8 + i % 8 = i by omega] at h2
    exact h2.symm
  · rw [List.getElem?_eq_none (by omega), List.getElem?_eq_none (by omega)]
end Go.Proofs.YtiinponoeaihcaaGreat

/- Walks: a transaction: a change that is laid over bytes. -/
namespace Go.Proofs.YtiinponoeaihcaaGreat
open Go.RowKit

def paV (p : Gd.Pa) : Value := .agg #[.int .i64 p.1, .string ⟨p.2.toArray⟩]
theorem run_copy_min {P : Program} (w : World) (dT sT ty elem : TypeId) (g o dLen dCap : Nat) (s : ByteArray) (cur : Array Value) (t : TypeId)
    (hu : P.underlying dT = some (.slice elem)) (hs : (P.info? elem).map (·.size) = some 1) (hg : w.heap[g]? = some (.cells cur t (0, 0))) (hle : dLen ≤ s.size) (hfit : o + dLen ≤ cur.size) :
    (Builtin.copy_ #[dT, sT] ty #[.slice (some ⟨g, o, none⟩) dLen dCap, .string s]).run P w =
      .ok (goInt dLen) (w.setRow g (cur.toList.take o ++ Lib.byteCells (s.data.toList.take dLen) ++ cur.toList.drop (o + dLen)).toArray) := by
  have hss : s.size = s.data.toList.length := Lib.size_eq s
  have hlen : (Lib.byteCells (s.data.toList.take dLen)).length = dLen := by rw [Lib.byteCells_length, List.length_take]; omega
  have hst := run_storeCells_at P g o t (Lib.byteCells (s.data.toList.take dLen)) 0 cur w hg (by rw [hlen]; simpa using hfit) (Lib.byteCells_one _)
  have hmin : Nat.min s.size dLen = dLen := Nat.min_eq_right hle
  have htk : List.take dLen (List.map (fun b : UInt8 => Value.int IntKind.u8 (b.toNat : Int)) s.data.toList) = Lib.byteCells (s.data.toList.take dLen) := by
    rw [← List.map_take]
    rfl
  rw [hlen] at hst
  simp only [Nat.add_zero] at hst
  cases hq : P.info? elem with
  | none => simp [hq] at hs
  | some i =>
    simp [Builtin.copy_, run_underlying hu, Builtin.lenOf, Builtin.firstCells, sizeOf, typeInfo, hq, hmin]
    rw [htk, hst]
    simp [Result.andThen]
theorem wpList_copy_min {P : Program} (w : World) {ops : Array Oper} {rest : List Oper} {o : Oper} {a : Act} {Q : Exit → Act → World → Prop} (hgd : o.guard = none) (d s : Operand) (dT sT : TypeId) (ho : o.op = .call { callee := .builtin .copy, args := #[d, s], argTypes := #[dT, sT] })
    (elem : TypeId) (g k dLen dCap : Nat) (str : ByteArray) (cur : Array Value) (t : TypeId) (hu : P.underlying dT = some (.slice elem)) (hs : (P.info? elem).map (·.size) = some 1) (hg : w.heap[g]? = some (.cells cur t (0, 0))) (hle : dLen ≤ str.size) (hfit : k + dLen ≤ cur.size)
    (hd : a.eval d = .slice (some ⟨g, k, none⟩) dLen dCap) (hx : a.eval s = .string str)
    (h : wpList P ops Q rest (a.put o.dst (goInt dLen)) (w.setRow g (cur.toList.take k ++ Lib.byteCells (str.data.toList.take dLen) ++ cur.toList.drop (k + dLen)).toArray)) : wpList P ops Q (o :: rest) a w := by
  refine wpList_plain hgd fun K hK => ?_
  have hr := run_copy_min (P := P) w dT sT o.type elem g k dLen dCap str cur t hu hs hg hle hfit
  unfold Oper.wp execOp
  simp only [ho, resolve, invoke, builtin, Sem.run_bind, Sem.run_pure, Result.andThen_ok, List.map_toArray, List.map_cons, List.map_nil, hd, hx, hr]
  exact hK _ _ h
theorem byteCells_take (L : List UInt8) (k : Nat) : Lib.byteCells (L.take k) = (Lib.byteCells L).take k := List.map_take
theorem byteCells_drop (L : List UInt8) (k : Nat) : Lib.byteCells (L.drop k) = (Lib.byteCells L).drop k := List.map_drop
/-- bytes laid over bytes of one's own -/
theorem own_splice {w w' : World} {B g n c k : Nat} {cur : Array Value} {L X : List UInt8} (hB : B ≤ g) (hn : n = L.length) (hnc : n ≤ c) (hcm : c ≤ maxLen) (hcs : cur.size = c * 1) (hcur : cur.toList.take (n * 1) = Lib.byteCells L) (hk : k + X.length ≤ n)
    (hg : w.heap[g]? = some (.cells cur 5 (0, 0))) (hw : w' = w.setRow g (cur.toList.take k ++ Lib.byteCells X ++ cur.toList.drop (k + X.length)).toArray) : OwnB w' B (.slice (some ⟨g, 0, none⟩) n c) (Gd.splice L k X) := by
  have hl : (Gd.splice L k X).length = n := by rw [Gd.splice_length (S := L) (k := k) (b := X) (by omega)]; exact hn.symm
  rw [Nat.mul_one] at hcur hcs
  have hkc : k + X.length ≤ cur.toList.length := by rw [Array.length_toList (xs := cur)]; omega
  refine ⟨by rw [byteCells_len, Nat.mul_one], Or.inr ⟨g, c, _, by rw [hl], hB, by rw [hw]; exact setRow_heap w g cur _ _ _ hg, by omega, hcm, ?_, ?_⟩⟩
  · rw [List.size_toArray, List.length_append, List.length_append, List.length_take, List.length_drop, byteCells_len, Array.length_toList]
    rw [Array.length_toList] at hkc
    omega
  · rw [hl, Nat.mul_one]
    unfold Gd.splice
    rw [← byteCells_app, ← byteCells_app, byteCells_take, byteCells_drop, ← hcur]
    have e1 : (cur.toList.take n).take k = cur.toList.take k := by rw [List.take_take, Nat.min_eq_left (by omega)]
    have hk1 : (cur.toList.take k).length = k := by rw [List.length_take]; omega
    rw [e1, List.drop_take, List.append_assoc, List.take_append, hk1, List.take_of_length_le (l := cur.toList.take k) (by omega), List.take_append, byteCells_len, List.take_of_length_le (l := Lib.byteCells X) (by rw [byteCells_len]; omega), show n - k - X.length = n - (k + X.length) by omega]
theorem Tryz.infoU8s : (Tryz.prog.info? 5).map (·.size) = some 1 := by kernel_rfl

end Go.Proofs.YtiinponoeaihcaaGreat

/- Walks: a transaction: bytes with its changes laid over. -/
namespace Go.Proofs.YtiinponoeaihcaaGreat
open Go.RowKit

namespace Gd
theorem over_length (b : List UInt8) (k : Nat) (p : Pa) : (over b k p).length = b.length := by
  unfold over
  split
  · rename_i h
    have h1 : overTo k b.length p ≤ k + b.length := by unfold overTo; omega
    have h2 : overTo k b.length p ≤ p.1 + p.2.length := by unfold overTo; omega
    have h3 : k ≤ overFrom k p := by unfold overFrom; omega
    have h4 : p.1 ≤ overFrom k p := by unfold overFrom; omega
    rw [splice_length]
    rw [part_length (by omega)]
    omega
  · rfl
theorem overs_length : ∀ (P : List Pa) (b : List UInt8) (k : Nat), (overs b k P).length = b.length
  | [], _, _ => rfl
  | p :: r, b, k => by
    show (overs (over b k p) k r).length = _
    rw [overs_length r, over_length]
theorem overs_snoc (b : List UInt8) (k : Nat) (P : List Pa) (p : Pa) : overs b k (P ++ [p]) = over (overs b k P) k p := by
  unfold overs
  rw [List.foldl_append]
  rfl
theorem take_next {α : Type} {P : List α} {i : Nat} {p : α} (h : P[i]? = some p) : P.take (i + 1) = P.take i ++ [p] := by
  rw [List.take_add_one, h]
  rfl
end Gd
def paC (p : Gd.Pa) : List Value := [.int .i64 p.1, .string ⟨p.2.toArray⟩]
def flatP (P : List Gd.Pa) : List Value := P.flatMap paC
theorem flatP_snoc (P : List Gd.Pa) (p : Gd.Pa) : flatP P ++ paC p = flatP (P ++ [p]) := by
  unfold flatP
  rw [List.flatMap_append]
  simp
theorem flatP_get : ∀ {P : List Gd.Pa} {k : Nat} {p : Gd.Pa} (i : Nat), P[k]? = some p → i < 2 → (flatP P)[k * 2 + i]? = (paC p)[i]?
  | [], k, p, i, hx, _ => by simp at hx
  | a :: r, 0, p, i, hx, hi => by
    simp at hx
    subst hx
    unfold flatP
    rw [List.flatMap_cons, List.getElem?_append_left (by show 0 * 2 + i < 2; omega), Nat.zero_mul, Nat.zero_add]
  | a :: r, k + 1, p, i, hx, hi => by
    unfold flatP
    rw [List.flatMap_cons, List.getElem?_append_right (by show 2 ≤ _; omega)]
    have := flatP_get (P := r) (k := k) (p := p) i (by simpa using hx) hi
    unfold flatP at this
    rw [← this]
    congr 1
    show (k + 1) * 2 + i - 2 = _
    omega
/-- changes in a row -/
theorem row_pa {w : World} {B e : Nat} {v : Value} {P : List Gd.Pa} (h : w.ownsRow B e 2 v P.length (flatP P)) : ∃ A c, v = .slice A P.length c ∧ ((A = none ∧ P = []) ∨ ∃ b, A = some ⟨b, 0, none⟩ ∧ b < w.heap.size ∧ ∀ (k : Nat) (p : Gd.Pa), P[k]? = some p → w.cell? ⟨b, k * 2, none⟩ = some (.int .i64 p.1) ∧ w.cell? ⟨b, k * 2 + 1, none⟩ = some (.string ⟨p.2.toArray⟩)) := by
  have hr := h
  rcases h.2 with ⟨rfl, h0⟩ | ⟨b, cap, cur, rfl, hb, hg, hc, _, _, _⟩
  · exact ⟨none, 0, by rw [h0], Or.inl ⟨rfl, List.eq_nil_of_length_eq_zero h0⟩⟩
  · refine ⟨_, cap, rfl, Or.inr ⟨b, rfl, lt_get hg, fun k p hp => ?_⟩⟩
    have hk := (List.getElem?_eq_some_iff.1 hp).1
    exact ⟨(hr.cellAt (k * 2) (by omega)).trans (flatP_get 0 hp (by omega)), (hr.cellAt (k * 2 + 1) (by omega)).trans (flatP_get 1 hp (by omega))⟩
/-- changes that may wait -/
structure PaOk (n : Nat) (P : List Gd.Pa) : Prop where
  fit : Gd.Fit n P
  len : ∀ p ∈ P, p.2.length ≤ 256
  many : P.length ≤ 64
end Go.Proofs.YtiinponoeaihcaaGreat

/- Walks: a transaction: one change more. -/
namespace Go.Proofs.YtiinponoeaihcaaGreat
open Go.RowKit

theorem push_all : ∀ (L : List UInt8) (r : ByteArray), (L.map fun b => (b.toNat : Int)).foldl (fun r n => r.push (UInt8.ofNat n.toNat)) r = ⟨(r.data.toList ++ L).toArray⟩
  | [], r => by
    rw [List.append_nil]
    exact (ba_mk r).symm
  | b :: L, r => by
    rw [List.map_cons, List.foldl_cons, push_all L]
    congr 2
    rw [show (UInt8.ofNat ((b.toNat : Int)).toNat) = b by simp]
    simp [ByteArray.push]
theorem str_of (L : List UInt8) : (L.map fun b => (b.toNat : Int)).foldl (fun r n => r.push (UInt8.ofNat n.toNat)) ByteArray.empty = ⟨L.toArray⟩ := push_all L _
theorem conv_any (v : Value) (L : List UInt8) (w : World) (h : BytesAt w v L) : (convert 42 9 v).run Tryz.prog w = .ok (.string ⟨L.toArray⟩) w := by
  obtain ⟨A, c, rfl, ⟨rfl, rfl, rfl⟩ | ⟨b, o, rfl, hb, hc⟩⟩ := h
  · rw [run_convert_bytes_string w _ _ 5 _ _ _ Tryz.underlying42 Tryz.underlying5 Tryz.underlying9]
    rfl
  · rw [run_convert_bytes_string w _ _ 5 _ _ _ Tryz.underlying42 Tryz.underlying5 Tryz.underlying9]
    have hl : (loadCells ⟨b, o, none⟩ L.length).run Tryz.prog w = .ok ((L.map fun b => (b.toNat : Int)).map (Value.int .u8)).toArray w := by
      have := run_loadCells_list (P := Tryz.prog) w ⟨b, o, none⟩ (Lib.byteCells L) (bytes_news hc)
      rw [byteCells_len] at this
      rw [this, List.map_map]
      rfl
    rw [run_bytesToString w _ _ _ _ hl, str_of]

theorem cells_new2 (w : World) (a b : Value) (t : TypeId) : ∀ j u, [a, b][j]? = some u → (w.alloc (.cells #[a, b] t)).cell? ((⟨w.heap.size, 0, none⟩ : Addr).add j) = some u := by
  intro j u hj
  have h := cell_of_row (w.alloc (.cells #[a, b] t)) w.heap.size j #[a, b] t _ (heap_alloc_new w _)
  rw [Addr.add_lit, Nat.zero_add, h]
  simpa using hj
end Go.Proofs.YtiinponoeaihcaaGreat
