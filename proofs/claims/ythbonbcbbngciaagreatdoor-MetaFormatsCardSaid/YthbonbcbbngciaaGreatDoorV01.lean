/- Inodes in plain words: which may be, and their bytes. -/
import Derived.Test.YthbonbcbbngciaaGreatDoorV00
import Derived.WalkKit
import Derived.WalkLawsBesides
import Derived.Lib.OthersKept
import Derived.Maps.AppendAt
import Derived.Maps.OwnSet
import Derived.Maps.RangeWalk
set_option linter.unusedVariables false
set_option linter.unusedSimpArgs false
set_option linter.unusedSectionVars false
namespace Go.Proofs.YthbonbcbbngciaaGreatDoor
namespace Gd
/-- a file, or a directory: kind, names, size, blocks, descriptors -/
structure Ino where
  k : Int
  l : Int
  s : Int
  B : List Int
  O : List Int
def noIno : Ino := ⟨0, 0, 0, [0, 0, 0, 0], [0, 0, 0, 0, 0, 0, 0, 0]⟩
def Ino.Shape (x : Ino) : Prop := x.B.length = 4 ∧ x.O.length = 8
def blkB (kind size : Int) : Nat → List Int → List Int → Bool
  | _, _, [] => true
  | k, had, b :: r => decide (0 ≤ b) && decide (b ≤ 128) && !(decide (0 < b) && had.contains b) && !(decide (kind = 1) && (decide (0 < b) != decide ((64 * k : Int) < size))) && blkB kind size (k + 1) (had ++ [b]) r
def opnB (most : Int) (O : List Int) : Bool := O.all fun n => decide (0 ≤ n) && decide (n ≤ most)
def mayI (x : Ino) : Bool :=
  if x.k = 0 then decide (x.l = 0) && decide (x.s = 0) && x.B.all (· == 0) && x.O.all (· == 0)
  else if x.k = 1 then decide (0 ≤ x.l) && decide (x.l ≤ 20) && decide (0 ≤ x.s) && decide (x.s ≤ 256) && opnB 8 x.O && blkB 1 x.s 0 [] x.B
  else if x.k = 2 then decide (x.l = 1) && decide (0 ≤ x.s) && decide (x.s ≤ 16) && opnB 0 x.O && blkB 2 x.s 0 [] x.B
  else false
def byteOf (n : Int) : UInt8 := UInt8.ofNat n.toNat
/-- the sixty bytes ahead of the sum -/
def inoBody (x : Ino) : List UInt8 := le x.k.toNat 1 ++ le x.l.toNat 1 ++ le x.s.toNat 2 ++ x.B.map byteOf ++ x.O.map byteOf ++ List.replicate 44 0
def sealB (b : List UInt8) : List UInt8 := b ++ le (crc b) 4
def inoB (x : Ino) : List UInt8 := if x.k = 0 then List.replicate 64 0 else sealB (inoBody x)
theorem inoBody_length {x : Ino} (h : x.Shape) : (inoBody x).length = 60 := by
  unfold inoBody
  simp only [List.length_append, le_length, List.length_map, h.1, h.2, List.length_replicate]
theorem sealB_length (b : List UInt8) : (sealB b).length = b.length + 4 := by
  unfold sealB
  rw [List.length_append, le_length]
theorem inoB_length {x : Ino} (h : x.Shape) : (inoB x).length = 64 := by
  unfold inoB
  split
  · exact List.length_replicate
  · rw [sealB_length, inoBody_length h]
theorem blkB_in {kind size : Int} : ∀ {L : List Int} {k : Nat} {had : List Int}, blkB kind size k had L = true → ∀ b ∈ L, 0 ≤ b ∧ b ≤ 128
  | [], _, _, _, b, hb => by cases hb
  | a :: r, k, had, h, b, hb => by
    simp only [blkB, Bool.and_eq_true, decide_eq_true_eq] at h
    rcases List.mem_cons.1 hb with rfl | hb
    · exact ⟨h.1.1.1.1, h.1.1.1.2⟩
    · exact blkB_in h.2 b hb
theorem opnB_in {most : Int} {L : List Int} (h : opnB most L = true) : ∀ b ∈ L, 0 ≤ b ∧ b ≤ most := fun b hb => by
  have := List.all_eq_true.1 h b hb
  simpa using this
/-- what may be fits its bytes -/
structure InoIn (x : Ino) : Prop where
  k : 0 ≤ x.k ∧ x.k ≤ 2
  l : 0 ≤ x.l ∧ x.l ≤ 20
  s : 0 ≤ x.s ∧ x.s ≤ 256
  B : ∀ b ∈ x.B, 0 ≤ b ∧ b ≤ 128
  O : ∀ b ∈ x.O, 0 ≤ b ∧ b ≤ 8
theorem mayI_in {x : Ino} (h : mayI x = true) : InoIn x := by
  unfold mayI at h
  split at h
  · rename_i hk
    simp only [Bool.and_eq_true, decide_eq_true_eq, List.all_eq_true, beq_iff_eq] at h
    obtain ⟨⟨⟨h1, h2⟩, h3⟩, h4⟩ := h
    exact ⟨by omega, by omega, by omega, fun b hb => by have := h3 b hb; omega, fun b hb => by have := h4 b hb; omega⟩
  · split at h
    · rename_i hk
      simp only [Bool.and_eq_true, decide_eq_true_eq] at h
      obtain ⟨⟨⟨⟨⟨h1, h2⟩, h3⟩, h4⟩, h5⟩, h6⟩ := h
      exact ⟨by omega, by omega, by omega, blkB_in h6, opnB_in h5⟩
    · split at h
      · rename_i hk
        simp only [Bool.and_eq_true, decide_eq_true_eq] at h
        obtain ⟨⟨⟨⟨h1, h2⟩, h3⟩, h5⟩, h6⟩ := h
        exact ⟨by omega, by omega, by omega, blkB_in h6, fun b hb => by have := opnB_in h5 b hb; omega⟩
      · cases h
theorem mayI_zero {x : Ino} (hs : x.Shape) (h : mayI x = true) (hk : x.k = 0) : x = noIno := by
  obtain ⟨k, l, s, B, O⟩ := x
  obtain ⟨h1, h2⟩ := hs
  unfold mayI at h
  rw [if_pos hk] at h
  simp only [Bool.and_eq_true, decide_eq_true_eq, List.all_eq_true, beq_iff_eq] at h
  obtain ⟨⟨⟨h3, h4⟩, h5⟩, h6⟩ := h
  have e1 : B = [0, 0, 0, 0] := List.eq_replicate_iff.2 ⟨h1, h5⟩
  have e2 : O = [0, 0, 0, 0, 0, 0, 0, 0] := List.eq_replicate_iff.2 ⟨h2, h6⟩
  simp only at hk h3 h4
  rw [hk, h3, h4, e1, e2]
  rfl
end Gd
end Go.Proofs.YthbonbcbbngciaaGreatDoor

/- A volume in plain words: inodes, which blocks are used, blocks; and its bytes. -/
namespace Go.Proofs.YthbonbcbbngciaaGreatDoor
namespace Gd
structure Vol where
  ino : Nat → Ino
  map : List UInt8
  blk : Nat → List UInt8
def size : Nat := 23168
def inoAt (i : Nat) : Nat := 640 + 64 * (i - 1)
def blkAt (n : Nat) : Nat := 14976 + 64 * (n - 1)
structure Good (V : List UInt8) (M : Vol) : Prop where
  len : V.length = 23168
  shape : ∀ i, 1 ≤ i → i ≤ 32 → (M.ino i).Shape
  may : ∀ i, 1 ≤ i → i ≤ 32 → mayI (M.ino i) = true
  ino : ∀ i, 1 ≤ i → i ≤ 32 → part V (inoAt i) 64 = inoB (M.ino i)
  mapl : M.map.length = 16
  map : part V 576 16 = M.map
  blkl : ∀ n, 1 ≤ n → n ≤ 128 → (M.blk n).length = 64
  blk : ∀ n, 1 ≤ n → n ≤ 128 → part V (blkAt n) 64 = M.blk n
def Vol.setIno (M : Vol) (i : Nat) (x : Ino) : Vol := { M with ino := fun j => if j = i then x else M.ino j }
def Vol.setMap (M : Vol) (m : List UInt8) : Vol := { M with map := m }
def Vol.setBlk (M : Vol) (n : Nat) (b : List UInt8) : Vol := { M with blk := fun j => if j = n then b else M.blk j }
theorem Good.setIno {V : List UInt8} {M : Vol} (h : Good V M) {i : Nat} {x : Ino} (h1 : 1 ≤ i) (h2 : i ≤ 32) (hs : x.Shape) (hm : mayI x = true) : Good (splice V (inoAt i) (inoB x)) (M.setIno i x) := by
  have hl : (inoB x).length = 64 := inoB_length hs
  have hV := h.len
  have hf : inoAt i + (inoB x).length ≤ V.length := by rw [hl]; unfold inoAt; omega
  refine ⟨by rw [splice_length hf]; exact hV, fun j j1 j2 => ?_, fun j j1 j2 => ?_, fun j j1 j2 => ?_, h.mapl, ?_, h.blkl, fun n n1 n2 => ?_⟩
  · show (if j = i then x else M.ino j).Shape
    split
    · exact hs
    · exact h.shape j j1 j2
  · show mayI (if j = i then x else M.ino j) = true
    split
    · exact hm
    · exact h.may j j1 j2
  · show part _ _ _ = inoB (if j = i then x else M.ino j)
    by_cases e : j = i
    · subst e
      rw [if_pos rfl]
      have := part_splice_same hf
      rw [hl] at this
      exact this
    · rw [if_neg e, part_splice_apart (by unfold inoAt; omega) hf (by rw [hl]; unfold inoAt; omega)]
      exact h.ino j j1 j2
  · rw [part_splice_apart (by omega) hf (by rw [hl]; unfold inoAt; omega)]
    exact h.map
  · rw [part_splice_apart (by unfold blkAt; omega) hf (by rw [hl]; unfold inoAt blkAt; omega)]
    exact h.blk n n1 n2
theorem Good.setMap {V : List UInt8} {M : Vol} (h : Good V M) {m : List UInt8} (hm : m.length = 16) : Good (splice V 576 m) (M.setMap m) := by
  have hV := h.len
  have hf : 576 + m.length ≤ V.length := by omega
  refine ⟨by rw [splice_length hf]; exact hV, h.shape, h.may, fun j j1 j2 => ?_, hm, ?_, h.blkl, fun n n1 n2 => ?_⟩
  · rw [part_splice_apart (by unfold inoAt; omega) hf (by unfold inoAt; omega)]
    exact h.ino j j1 j2
  · have := part_splice_same hf
    rw [hm] at this
    exact this
  · rw [part_splice_apart (by unfold blkAt; omega) hf (by unfold blkAt; omega)]
    exact h.blk n n1 n2
theorem Good.setBlk {V : List UInt8} {M : Vol} (h : Good V M) {n : Nat} {b : List UInt8} (h1 : 1 ≤ n) (h2 : n ≤ 128) (hb : b.length = 64) : Good (splice V (blkAt n) b) (M.setBlk n b) := by
  have hV := h.len
  have hf : blkAt n + b.length ≤ V.length := by unfold blkAt; omega
  refine ⟨by rw [splice_length hf]; exact hV, h.shape, h.may, fun j j1 j2 => ?_, h.mapl, ?_, fun k k1 k2 => ?_, fun k k1 k2 => ?_⟩
  · rw [part_splice_apart (by unfold inoAt; omega) hf (by unfold inoAt blkAt; omega)]
    exact h.ino j j1 j2
  · rw [part_splice_apart (by omega) hf (by unfold blkAt; omega)]
    exact h.map
  · show (if k = n then b else M.blk k).length = 64
    split
    · exact hb
    · exact h.blkl k k1 k2
  · show part _ _ _ = (if k = n then b else M.blk k)
    by_cases e : k = n
    · subst e
      rw [if_pos rfl]
      have := part_splice_same hf
      rw [hb] at this
      exact this
    · rw [if_neg e, part_splice_apart (by unfold blkAt; omega) hf (by rw [hb]; unfold blkAt; omega)]
      exact h.blk k k1 k2
/-- what is told of the bytes outside the log holds of other bytes that are the same there -/
theorem Good.same {V W : List UInt8} {M : Vol} (h : Good V M) (hl : W.length = V.length) (hs : ∀ i, i < 2688 ∨ 6784 ≤ i → W[i]? = V[i]?) : Good W M := by
  have hV := h.len
  refine ⟨hl.trans hV, h.shape, h.may, fun j j1 j2 => ?_, h.mapl, ?_, h.blkl, fun n n1 n2 => ?_⟩
  · rw [← h.ino j j1 j2]
    exact part_ext (by unfold inoAt; omega) (by unfold inoAt; omega) fun i i1 i2 => hs i (by unfold inoAt at i2; omega)
  · rw [← h.map]
    exact part_ext (by omega) (by omega) fun i i1 i2 => hs i (by omega)
  · rw [← h.blk n n1 n2]
    exact part_ext (by unfold blkAt; omega) (by unfold blkAt; omega) fun i i1 i2 => hs i (by unfold blkAt at i1; omega)
end Gd
end Go.Proofs.YthbonbcbbngciaaGreatDoor

/- A log's record in plain words: changes as bytes, and back. -/
namespace Go.Proofs.YthbonbcbbngciaaGreatDoor
namespace Gd
def paB (p : Pa) : List UInt8 := le p.1 4 ++ (le p.2.length 2 ++ p.2)
def pasB (P : List Pa) : List UInt8 := P.flatMap paB
/-- what stands ahead of the sum -/
def recBody (P : List Pa) : List UInt8 := le P.length 2 ++ pasB P
def pad8 (n : Nat) : List UInt8 := List.replicate (up8 n - n) 0
def recB (P : List Pa) : List UInt8 := recBody P ++ le (crc (recBody P)) 4 ++ pad8 ((recBody P).length + 4)
def wt (P : List Pa) : Nat := (pasB P).length
/-- a change that a record may hold -/
def PaMay (p : Pa) : Prop := p.1 < 4294967296 ∧ p.2.length ≤ 256
theorem paB_length (p : Pa) : (paB p).length = 6 + p.2.length := by
  unfold paB
  rw [List.length_append, List.length_append, le_length, le_length]
  omega
theorem pasB_snoc (P : List Pa) (p : Pa) : pasB (P ++ [p]) = pasB P ++ paB p := by
  unfold pasB
  rw [List.flatMap_append]
  simp
theorem wt_snoc (P : List Pa) (p : Pa) : wt (P ++ [p]) = wt P + (6 + p.2.length) := by
  unfold wt
  rw [pasB_snoc, List.length_append, paB_length]
theorem recBody_length (P : List Pa) : (recBody P).length = 2 + wt P := by
  unfold recBody wt
  rw [List.length_append, le_length]
theorem up8_ge (n : Nat) : n ≤ up8 n ∧ up8 n < n + 8 ∧ up8 n % 8 = 0 := by
  unfold up8
  omega
theorem recB_length (P : List Pa) : (recB P).length = up8 (6 + wt P) := by
  have := up8_ge (2 + wt P + 4)
  unfold recB pad8
  rw [List.length_append, List.length_append, le_length, recBody_length, List.length_replicate, show 6 + wt P = 2 + wt P + 4 by omega]
  omega
/-- where the k-th change stands in a record -/
def paOff (P : List Pa) (k : Nat) : Nat := 2 + (pasB (P.take k)).length
theorem part_mid (A B C : List UInt8) : part (A ++ (B ++ C)) A.length B.length = B := by
  unfold part
  rw [List.drop_left, List.take_left]
theorem recB_split {P : List Pa} {k : Nat} {p : Pa} (h : P[k]? = some p) : ∃ A C, recB P = A ++ (le p.1 4 ++ (le p.2.length 2 ++ (p.2 ++ C))) ∧ A.length = paOff P k := by
  have hk : k < P.length := (List.getElem?_eq_some_iff.1 h).1
  have hp : P[k] = p := (List.getElem?_eq_some_iff.1 h).2
  have e : P = P.take k ++ p :: P.drop (k + 1) := by
    rw [← hp, List.getElem_cons_drop, List.take_append_drop]
  have eb : pasB P = pasB (P.take k) ++ (paB p ++ pasB (P.drop (k + 1))) := by
    conv => lhs; rw [e]
    unfold pasB
    rw [List.flatMap_append, List.flatMap_cons]
  refine ⟨le P.length 2 ++ pasB (P.take k), pasB (P.drop (k + 1)) ++ (le (crc (recBody P)) 4 ++ pad8 ((recBody P).length + 4)), ?_, ?_⟩
  · unfold recB
    rw [List.append_assoc]
    generalize le (crc (recBody P)) 4 ++ pad8 ((recBody P).length + 4) = T
    have eR : recBody P = le P.length 2 ++ (pasB (P.take k) ++ (paB p ++ pasB (P.drop (k + 1)))) := by
      show le P.length 2 ++ pasB P = _
      rw [eb]
    rw [eR]
    unfold paB
    simp only [List.append_assoc]
  · rw [List.length_append, le_length]
    rfl
theorem paOff_succ {P : List Pa} {k : Nat} {p : Pa} (h : P[k]? = some p) : paOff P (k + 1) = paOff P k + 4 + 2 + p.2.length := by
  unfold paOff
  rw [List.take_add_one, h]
  show 2 + (pasB (P.take k ++ [p])).length = _
  rw [pasB_snoc, List.length_append, paB_length]
  omega
theorem paOff_end (P : List Pa) : paOff P P.length = (recBody P).length := by
  unfold paOff
  rw [List.take_length, recBody_length]
  rfl
theorem paOff_le (P : List Pa) (k : Nat) : paOff P k ≤ 2 + wt P := by
  unfold paOff wt
  have : pasB P = pasB (P.take k) ++ pasB (P.drop k) := by
    unfold pasB
    rw [← List.flatMap_append, List.take_append_drop]
  rw [this, List.length_append]
  omega
theorem getN_mid (A C : List UInt8) (n w : Nat) (hn : n < 256 ^ w) : getN (A ++ (le n w ++ C)) A.length w = n := by
  unfold getN
  have := part_mid A (le n w) C
  unfold part at this
  rw [le_length] at this
  rw [this, unle_le w n hn]
theorem get_mid (A C : List UInt8) (n w : Nat) (hn : n < 256 ^ w) (h63 : n < 9223372036854775808) : getB (A ++ (le n w ++ C)) A.length w = true ∧ get (A ++ (le n w ++ C)) A.length w = n := by
  have h1 := getN_mid A C n w hn
  have h2 : getB (A ++ (le n w ++ C)) A.length w = true := by
    unfold getB
    rw [Int.toNat_natCast, h1]
    simp only [Bool.and_eq_true, decide_eq_true_eq, List.length_append, le_length]
    omega
  refine ⟨h2, ?_⟩
  unfold get
  rw [if_pos h2, Int.toNat_natCast, h1]
end Gd
end Go.Proofs.YthbonbcbbngciaaGreatDoor

/- Which blocks are used, in plain words; where parts lie. -/
namespace Go.Proofs.YthbonbcbbngciaaGreatDoor
namespace Gd
def bitOf (n : Nat) : Nat := 2 ^ ((n - 1) % 8)
def byteAt (m : List UInt8) (n : Nat) : Nat := (m.getD ((n - 1) / 8) 0).toNat
def usedB (m : List UInt8) (n : Nat) : Bool := byteAt m n &&& bitOf n != 0
def takeB (m : List UInt8) (n : Nat) : List UInt8 := m.set ((n - 1) / 8) (UInt8.ofNat (byteAt m n ||| bitOf n))
def giveB (m : List UInt8) (n : Nat) : List UInt8 := m.set ((n - 1) / 8) (UInt8.ofNat (byteAt m n &&& (255 - bitOf n)))
def isBlk (n : Int) : Bool := decide (1 ≤ n) && decide (n ≤ 128)
def takeI (m : List UInt8) (n : Int) : List UInt8 := if isBlk n then takeB m n.toNat else m
def giveI (m : List UInt8) (n : Int) : List UInt8 := if isBlk n then giveB m n.toNat else m
def usedI (m : List UInt8) (n : Int) : Bool := isBlk n && usedB m n.toNat
def firstFrom (m : List UInt8) : Nat → Nat → Nat
  | 0, _ => 0
  | f + 1, n => if usedB m n then firstFrom m f (n + 1) else n
/-- the first one that is not used; 0: there is none -/
def firstB (m : List UInt8) : Nat := firstFrom m 128 1
def cntF : Nat → Nat → Nat
  | 0, _ => 0
  | f + 1, c => if c = 0 then 0 else 1 + cntF f (c &&& (c - 1))
def cnt (c : Nat) : Nat := cntF 8 c
def countB (m : List UInt8) : Nat := (m.map fun c => cnt c.toNat).sum
theorem cnt_zero : cnt 0 = 0 := rfl
theorem cnt_step : ∀ c : Fin 256, c.val ≠ 0 → cnt c.val = 1 + cnt (c.val &&& (c.val - 1)) := by decide +kernel
theorem cnt_le : ∀ c : Fin 256, cnt c.val ≤ 8 := by decide +kernel
theorem cnt_or : ∀ (c : Fin 256) (b : Fin 8), c.val &&& 2 ^ b.val = 0 → cnt (c.val ||| 2 ^ b.val) = cnt c.val + 1 ∧ c.val ||| 2 ^ b.val < 256 := by decide +kernel
theorem cnt_and : ∀ (c : Fin 256) (b : Fin 8), c.val &&& 2 ^ b.val ≠ 0 → cnt (c.val &&& (255 - 2 ^ b.val)) + 1 = cnt c.val := by decide +kernel
theorem bit_or : ∀ (c : Fin 256) (a b : Fin 8), ((c.val ||| 2 ^ b.val) &&& 2 ^ a.val != 0) = (decide (a = b) || (c.val &&& 2 ^ a.val != 0)) := by decide +kernel
theorem bit_and : ∀ (c : Fin 256) (a b : Fin 8), ((c.val &&& (255 - 2 ^ b.val)) &&& 2 ^ a.val != 0) = (!decide (a = b) && (c.val &&& 2 ^ a.val != 0)) := by decide +kernel
theorem or_lt : ∀ (c : Fin 256) (b : Fin 8), c.val ||| 2 ^ b.val < 256 := by decide +kernel
theorem and_lt : ∀ (c : Fin 256) (b : Fin 8), c.val &&& (255 - 2 ^ b.val) < 256 := by decide +kernel
theorem byteAt_lt (m : List UInt8) (n : Nat) : byteAt m n < 256 := (m.getD ((n - 1) / 8) 0).toNat_lt
theorem bit8 (n : Nat) : (n - 1) % 8 < 8 := Nat.mod_lt _ (by omega)
theorem take_length (m : List UInt8) (n : Nat) : (takeB m n).length = m.length := List.length_set
theorem give_length (m : List UInt8) (n : Nat) : (giveB m n).length = m.length := List.length_set
theorem used_take {m : List UInt8} (hm : m.length = 16) {n k : Nat} (h1 : 1 ≤ n) (h2 : n ≤ 128) (k1 : 1 ≤ k) (k2 : k ≤ 128) : usedB (takeB m n) k = (decide (k = n) || usedB m k) := by
  unfold usedB
  by_cases hb : (k - 1) / 8 = (n - 1) / 8
  · have e : byteAt (takeB m n) k = byteAt m n ||| bitOf n := by
      show ((m.set _ _).getD _ 0).toNat = _
      rw [hb, List.getD_eq_getElem?_getD, List.getElem?_set_self (by omega)]
      have := or_lt ⟨byteAt m n, byteAt_lt m n⟩ ⟨_, bit8 n⟩
      simp only [Option.getD_some, UInt8.toNat_ofNat']
      exact Nat.mod_eq_of_lt this
    have e2 : byteAt m k = byteAt m n := by unfold byteAt; rw [hb]
    rw [e, e2]
    have := bit_or ⟨byteAt m n, byteAt_lt m n⟩ ⟨_, bit8 k⟩ ⟨_, bit8 n⟩
    simp only [Fin.mk.injEq] at this
    rw [show decide (k = n) = decide ((k - 1) % 8 = (n - 1) % 8) by congr 1; apply propext; omega]
    exact this
  · have e : byteAt (takeB m n) k = byteAt m k := by
      show ((m.set _ _).getD _ 0).toNat = _
      rw [List.getD_eq_getElem?_getD, List.getElem?_set_ne (fun e => hb e.symm), ← List.getD_eq_getElem?_getD]
      rfl
    rw [e, decide_eq_false (by intro e; subst e; exact hb rfl), Bool.false_or]
theorem used_give {m : List UInt8} (hm : m.length = 16) {n k : Nat} (h1 : 1 ≤ n) (h2 : n ≤ 128) (k1 : 1 ≤ k) (k2 : k ≤ 128) : usedB (giveB m n) k = (!decide (k = n) && usedB m k) := by
  unfold usedB
  by_cases hb : (k - 1) / 8 = (n - 1) / 8
  · have e : byteAt (giveB m n) k = byteAt m n &&& (255 - bitOf n) := by
      show ((m.set _ _).getD _ 0).toNat = _
      rw [hb, List.getD_eq_getElem?_getD, List.getElem?_set_self (by omega)]
      have := and_lt ⟨byteAt m n, byteAt_lt m n⟩ ⟨_, bit8 n⟩
      simp only [Option.getD_some, UInt8.toNat_ofNat']
      exact Nat.mod_eq_of_lt this
    have e2 : byteAt m k = byteAt m n := by unfold byteAt; rw [hb]
    rw [e, e2]
    have := bit_and ⟨byteAt m n, byteAt_lt m n⟩ ⟨_, bit8 k⟩ ⟨_, bit8 n⟩
    simp only [Fin.mk.injEq] at this
    rw [show decide (k = n) = decide ((k - 1) % 8 = (n - 1) % 8) by congr 1; apply propext; omega]
    exact this
  · have e : byteAt (giveB m n) k = byteAt m k := by
      show ((m.set _ _).getD _ 0).toNat = _
      rw [List.getD_eq_getElem?_getD, List.getElem?_set_ne (fun e => hb e.symm), ← List.getD_eq_getElem?_getD]
      rfl
    rw [e, decide_eq_false (by intro e; subst e; exact hb rfl), Bool.not_false, Bool.true_and]
theorem sum_set : ∀ {m : List Nat} {i : Nat} {c d : Nat}, m[i]? = some c → (m.set i d).sum + c = m.sum + d
  | [], i, c, d, h => by simp at h
  | a :: r, 0, c, d, h => by
    simp at h
    subst h
    simp only [List.set_cons_zero, List.sum_cons]
    omega
  | a :: r, i + 1, c, d, h => by
    have := sum_set (m := r) (i := i) (c := c) (d := d) (by simpa using h)
    simp only [List.set_cons_succ, List.sum_cons]
    omega
theorem count_set {m : List UInt8} (hm : m.length = 16) {n : Nat} (h1 : 1 ≤ n) (h2 : n ≤ 128) {v : Nat} (hv : v < 256) : countB (m.set ((n - 1) / 8) (UInt8.ofNat v)) + cnt (byteAt m n) = countB m + cnt v := by
  unfold countB
  rw [List.map_set]
  have e : (UInt8.ofNat v).toNat = v := by
    rw [UInt8.toNat_ofNat']
    exact Nat.mod_eq_of_lt hv
  rw [e]
  refine sum_set ?_
  rw [List.getElem?_map]
  unfold byteAt
  rw [List.getD_eq_getElem?_getD, List.getElem?_eq_getElem (by omega)]
  rfl
theorem count_take {m : List UInt8} (hm : m.length = 16) {n : Nat} (h1 : 1 ≤ n) (h2 : n ≤ 128) (hu : usedB m n = false) : countB (takeB m n) = countB m + 1 := by
  have := cnt_or ⟨byteAt m n, byteAt_lt m n⟩ ⟨_, bit8 n⟩ (by
    unfold usedB at hu
    simpa [bitOf] using hu)
  have h := count_set hm h1 h2 (v := byteAt m n ||| bitOf n) this.2
  have h3 : cnt (byteAt m n ||| bitOf n) = cnt (byteAt m n) + 1 := this.1
  show countB (m.set _ _) = _
  omega
theorem count_give {m : List UInt8} (hm : m.length = 16) {n : Nat} (h1 : 1 ≤ n) (h2 : n ≤ 128) (hu : usedB m n = true) : countB (giveB m n) + 1 = countB m := by
  have h3 := cnt_and ⟨byteAt m n, byteAt_lt m n⟩ ⟨_, bit8 n⟩ (by
    unfold usedB at hu
    simpa [bitOf] using hu)
  have h := count_set hm h1 h2 (v := byteAt m n &&& (255 - bitOf n)) (and_lt ⟨byteAt m n, byteAt_lt m n⟩ ⟨_, bit8 n⟩)
  have h4 : cnt (byteAt m n &&& (255 - bitOf n)) + 1 = cnt (byteAt m n) := h3
  show countB (m.set _ _) + 1 = _
  omega
theorem firstFrom_in {m : List UInt8} : ∀ {f n : Nat}, n + f = 129 → 1 ≤ n → (firstFrom m f n = 0 ∧ ∀ k, n ≤ k → k ≤ 128 → usedB m k = true) ∨ (n ≤ firstFrom m f n ∧ firstFrom m f n ≤ 128 ∧ usedB m (firstFrom m f n) = false ∧ ∀ k, n ≤ k → k < firstFrom m f n → usedB m k = true)
  | 0, n, h, _ => Or.inl ⟨rfl, fun k h1 h2 => by omega⟩
  | f + 1, n, h, h1 => by
    rw [firstFrom]
    cases hu : usedB m n with
    | true =>
      rw [if_pos rfl]
      rcases firstFrom_in (m := m) (f := f) (n := n + 1) (by omega) (by omega) with ⟨e, ha⟩ | ⟨e1, e2, e3, ha⟩
      · refine Or.inl ⟨e, fun k k1 k2 => ?_⟩
        by_cases hk : k = n
        · rw [hk]; exact hu
        · exact ha k (by omega) k2
      · refine Or.inr ⟨by omega, e2, e3, fun k k1 k2 => ?_⟩
        by_cases hk : k = n
        · rw [hk]; exact hu
        · exact ha k (by omega) k2
    | false =>
      rw [if_neg (by simp)]
      exact Or.inr ⟨Nat.le_refl _, by omega, hu, fun k k1 k2 => by omega⟩
/-- where a part lies: its kind and its number -/
def partAt (kind number : Int) : Option (Nat × Nat) :=
  if kind = 1 then (if number = 0 then some (0, 64) else none)
  else if kind = 2 then (if 1 ≤ number ∧ number ≤ 8 then some (64 + 64 * (number.toNat - 1), 64) else none)
  else if kind = 3 then (if number = 0 then some (576, 64) else none)
  else if kind = 4 then (if 1 ≤ number ∧ number ≤ 32 then some (640 + 64 * (number.toNat - 1), 64) else none)
  else if kind = 5 then (if number = 0 then some (2688, 4096) else none)
  else if kind = 6 then (if 1 ≤ number ∧ number ≤ 8 then some (6784 + 1024 * (number.toNat - 1), 1024) else none)
  else if kind = 7 then (if 1 ≤ number ∧ number ≤ 128 then some (14976 + 64 * (number.toNat - 1), 64) else none)
  else none
end Gd
end Go.Proofs.YthbonbcbbngciaaGreatDoor

/- Which blocks a call may turn: those of a set, and new ones; what a call holds behind its beginning. -/
namespace Go.Proofs.YthbonbcbbngciaaGreatDoor
/-- the block of the memory that a volume lies in -/
class MemNo where
  no : Nat
open Go.RowKit

/-- w' is w but for blocks of F, and new ones -/
structure Only (F : Nat → Prop) (w w' : World) : Prop where
  os : w'.os = w.os
  tape : w'.tape = w.tape
  output : w'.output = w.output
  size : w.heap.size ≤ w'.heap.size
  block : ∀ k, k < w.heap.size → ¬ F k → w'.heap[k]? = w.heap[k]?

theorem Only.refl (F : Nat → Prop) (w : World) : Only F w w := ⟨rfl, rfl, rfl, Nat.le_refl _, fun _ _ _ => rfl⟩
theorem Only.trans {F G : Nat → Prop} {a b c : World} (h : Only F a b) (k : Only G b c) (hG : ∀ j, j < a.heap.size → G j → F j) : Only F a c :=
  ⟨k.os.trans h.os, k.tape.trans h.tape, k.output.trans h.output, Nat.le_trans h.size k.size, fun j hj hn => (k.block j (Nat.lt_of_lt_of_le hj h.size) (fun e => hn (hG j hj e))).trans (h.block j hj hn)⟩
theorem Only.mono {F G : Nat → Prop} {w w' : World} (h : Only F w w') (hG : ∀ j, j < w.heap.size → F j → G j) : Only G w w' :=
  ⟨h.os, h.tape, h.output, h.size, fun j hj hn => h.block j hj fun e => hn (hG j hj e)⟩
theorem below_only {w w' : World} (h : Below w.heap.size w w') (F : Nat → Prop) : Only F w w' := ⟨h.os, h.tape, h.output, h.size, fun j hj _ => h.block j hj⟩
theorem grown_only {F : Nat → Prop} {w w' : World} {row : Option Nat} (h : w.grownBy w' row) (hr : ∀ k, row = some k → F k) : Only F w w' :=
  ⟨h.os, h.tape, h.output, h.size, fun j hj hn => h.block j hj fun e => hn (hr j e.symm)⟩
theorem Only.cell {F : Nat → Prop} {w w' : World} (h : Only F w w') {p : Addr} (hp : p.block < w.heap.size) (hn : ¬ F p.block) : w'.cell? p = w.cell? p := World.cell?_of_block (w := w) (h.block _ hp hn)
theorem Only.frozen {F : Nat → Prop} {w w' : World} (h : Only F w w') {p : Addr} (hp : p.block < w.heap.size) (hn : ¬ F p.block) : w'.frozen? p = w.frozen? p := World.frozen?_of_block (w := w) (h.block _ hp hn)
theorem Only.below {F : Nat → Prop} {B : Nat} {w w' : World} (h : Only F w w') (hB : B ≤ w.heap.size) (hn : ∀ k, k < B → ¬ F k) : Below B w w' :=
  ⟨h.os, h.tape, h.output, h.size, fun k hk => h.block k (Nat.lt_of_lt_of_le hk hB) (hn k hk)⟩
theorem only_setCell (w : World) (a : Addr) (u : Value) {F : Nat → Prop} (hF : F a.block) : Only F w (w.setCell a u) :=
  ⟨rfl, rfl, rfl, by simp [World.setCell], fun k _ hn => Below.heap_setCell w a u k (fun e => hn (e ▸ hF))⟩

/-- F, and what is new from w on -/
def Gr (F : Nat → Prop) (w : World) (k : Nat) : Prop := F k ∨ w.heap.size ≤ k

/-- a thing in memory that lies in blocks of a set -/
structure Held (I : World → (Nat → Prop) → Prop) : Prop where
  keep : ∀ {w w' : World} {F : Nat → Prop}, I w F → w.heap.size ≤ w'.heap.size → (∀ k, k < w.heap.size → F k → w'.heap[k]? = w.heap[k]?) → I w' F
  mono : ∀ {w : World} {F G : Nat → Prop}, I w F → (∀ k, k < w.heap.size → F k → G k) → I w G

theorem Held.below {I : World → (Nat → Prop) → Prop} (hH : Held I) {w w' : World} {F : Nat → Prop} (h : I w F) (hb : Below w.heap.size w w') : I w' F := hH.keep h hb.size fun k hk _ => hb.block k hk
/-- what another thing's call does does not turn it -/
theorem Held.apart {I : World → (Nat → Prop) → Prop} (hH : Held I) {w w' : World} {F G : Nat → Prop} (h : I w F) (ho : Only G w w') (hd : ∀ k, k < w.heap.size → F k → ¬ G k) : I w' F :=
  hH.keep h ho.size fun k hk hF => ho.block k hk (hd k hk hF)
/-- a change behind some blocks that the call laid ahead of it -/
theorem Held.back {I : World → (Nat → Prop) → Prop} (hH : Held I) {w wa w' : World} {F : Nat → Prop} (hb : Below w.heap.size w wa) (h : I w' (Gr F wa)) (ho : Only F wa w') : I w' (Gr F w) ∧ Only F w w' :=
  ⟨hH.mono h fun _ _ h => h.imp id fun e => Nat.le_trans hb.size e, (below_only hb F).trans ho fun _ _ h => h⟩

/-- F as it was when the call began, and what is new behind the call's own n blocks -/
def Ft (F : Nat → Prop) (w0 : World) (n : Nat) (k : Nat) : Prop := (F k ∧ k < w0.heap.size) ∨ w0.heap.size + n ≤ k
/-- what a call holds that laid n blocks of its own when it began -/
structure St (I : World → (Nat → Prop) → Prop) (F : Nat → Prop) (w0 : World) (n : Nat) (w : World) : Prop where
  inv : I w (Ft F w0 n)
  only : Only F w0 w
  size : w0.heap.size + n ≤ w.heap.size

theorem St.start {I : World → (Nat → Prop) → Prop} (hH : Held I) {w w' : World} {F : Nat → Prop} {n : Nat} (h : I w F) (hb : Below w.heap.size w w') (hs : w.heap.size + n ≤ w'.heap.size) : St I F w n w' :=
  ⟨hH.below (hH.mono h fun _ hk hF => Or.inl ⟨hF, hk⟩) hb, below_only hb F, hs⟩
theorem St.read {I : World → (Nat → Prop) → Prop} (hH : Held I) {w0 w w' : World} {F : Nat → Prop} {n : Nat} (h : St I F w0 n w) (hb : Below w.heap.size w w') : St I F w0 n w' :=
  ⟨hH.below h.inv hb, h.only.trans (below_only hb F) fun _ _ e => e, Nat.le_trans h.size hb.size⟩
theorem St.write {I J : World → (Nat → Prop) → Prop} (hJ : Held J) {w0 w w' : World} {F : Nat → Prop} {n : Nat} (h : St I F w0 n w) (hi : J w' (Gr (Ft F w0 n) w)) (ho : Only (Ft F w0 n) w w') : St J F w0 n w' :=
  ⟨hJ.mono hi fun _ _ e => e.elim id fun e => Or.inr (Nat.le_trans h.size e), h.only.trans ho fun j hj e => e.elim (fun e => e.1) fun e => absurd e (by omega), Nat.le_trans h.size ho.size⟩
theorem St.own {I : World → (Nat → Prop) → Prop} {w0 w w' : World} {F : Nat → Prop} {n : Nat} (h : St I F w0 n w) (ho : Only (Ft F w0 n) w w') {k : Nat} (h1 : w0.heap.size ≤ k) (h2 : k < w0.heap.size + n) : w'.heap[k]? = w.heap[k]? :=
  ho.block k (Nat.lt_of_lt_of_le h2 h.size) fun e => e.elim (fun e => absurd e.2 (by omega)) fun e => absurd e (by omega)
theorem St.fin {I : World → (Nat → Prop) → Prop} (hH : Held I) {w0 w w' : World} {F : Nat → Prop} {n : Nat} (h : St I F w0 n w) (ho : Only (fun k => w0.heap.size ≤ k ∧ k < w0.heap.size + n) w w') : I w' (Gr F w0) ∧ Only F w0 w' := by
  refine ⟨hH.mono (hH.apart h.inv ho fun k _ e he => ?_) fun k _ e => ?_, h.only.trans ho fun j hj e => absurd e.1 (by omega)⟩
  · rcases e with ⟨_, e⟩ | e <;> omega
  · rcases e with ⟨e, _⟩ | e
    · exact Or.inl e
    · exact Or.inr (by omega)

end Go.Proofs.YthbonbcbbngciaaGreatDoor

/- Walks: the memory that lasts: its size, its bytes. -/
namespace Go.Proofs.YthbonbcbbngciaaGreatDoor
open Go.RowKit Go.Maps

theorem lt_get {w : World} {k : Nat} {o : Obj} (h : w.heap[k]? = some o) : k < w.heap.size := (Array.getElem?_eq_some_iff.1 h).1
def cellsB (S : List UInt8) : Array Value := (Lib.byteCells S).toArray
theorem cellsB_get {S : List UInt8} {j : Nat} {x : UInt8} (h : S[j]? = some x) : (cellsB S)[j]? = some (.int .u8 x.toNat) := by
  unfold cellsB
  rw [List.getElem?_toArray]
  exact byteCells_get h
/-- which cells are on their way -/
def Away (w : World) (ab n K : Nat) : Prop := ∃ (k : Nat) (D : DataW Unit), k ≤ K ∧ w.ownsMap Tryz.prog 3 (plainElem Tryz.prog 4) ab k D ∧ ∀ kl, Maps.has D kl = true → ∃ j : Nat, j < n ∧ kl = .int .i64 j
/-- a memory at m: its bytes as they are seen -/
structure MemAt (w : World) (m sb lb ab n : Nat) (S : List UInt8) (K : Nat) : Prop where
  obj : w.heap[m]? = some (.cells #[.slice (some ⟨sb, 0, none⟩) n n, .slice (some ⟨lb, 0, none⟩) n n, .map (some ab)] 90 (0, 0))
  seen : w.heap[sb]? = some (.cells (cellsB S) 93 (0, 0))
  lasts : ∃ Z : List UInt8, Z.length = S.length ∧ w.heap[lb]? = some (.cells (cellsB Z) 93 (0, 0))
  away : Away w ab n K
  len : S.length = n * 8
  small : n ≤ 131072
  lines : n % 8 = 0
  ne : sb ≠ lb
def MemF (m : Nat) (S : List UInt8) (K : Nat) (w : World) (F : Nat → Prop) : Prop := ∃ sb lb ab n, MemAt w m sb lb ab n S K ∧ F m ∧ F sb ∧ F lb ∧ F ab
theorem map_keepM {w w' : World} {b n : Nat} {D : DataW Unit} {k : TypeId} {R : Value → Option (DataW Unit × List MemPlace)} (h : w.ownsMap Tryz.prog k R b n D) (hb : w'.heap[b]? = w.heap[b]?) : w'.ownsMap Tryz.prog k R b n D := by
  obtain ⟨es, ck, h1, h2⟩ := h
  exact ⟨es, ck, hb.trans h1, h2⟩
theorem Away.lt {w : World} {ab n K : Nat} (h : Away w ab n K) : ab < w.heap.size := by
  obtain ⟨k, D, _, h, _⟩ := h
  exact h.lt
theorem Away.keep {w w' : World} {ab n K : Nat} (h : Away w ab n K) (hb : w'.heap[ab]? = w.heap[ab]?) : Away w' ab n K := by
  obtain ⟨k, D, h1, h2, h3⟩ := h
  exact ⟨k, D, h1, map_keepM h2 hb, h3⟩
theorem MemAt.keep {w w' : World} {m sb lb ab n : Nat} {S : List UInt8} {K : Nat} (h : MemAt w m sb lb ab n S K) (hb : ∀ k, k = m ∨ k = sb ∨ k = lb ∨ k = ab → w'.heap[k]? = w.heap[k]?) : MemAt w' m sb lb ab n S K := by
  obtain ⟨Z, hZ, hl⟩ := h.lasts
  exact ⟨(hb m (Or.inl rfl)).trans h.obj, (hb sb (Or.inr (Or.inl rfl))).trans h.seen, ⟨Z, hZ, (hb lb (Or.inr (Or.inr (Or.inl rfl)))).trans hl⟩, h.away.keep (hb ab (Or.inr (Or.inr (Or.inr rfl)))), h.len, h.small, h.lines, h.ne⟩
theorem MemAt.lts {w : World} {m sb lb ab n : Nat} {S : List UInt8} {K : Nat} (h : MemAt w m sb lb ab n S K) : ∀ k, k = m ∨ k = sb ∨ k = lb ∨ k = ab → k < w.heap.size := by
  obtain ⟨Z, hZ, hl⟩ := h.lasts
  rintro k (rfl | rfl | rfl | rfl)
  · exact lt_get h.obj
  · exact lt_get h.seen
  · exact lt_get hl
  · exact h.away.lt
theorem MemF.held (m : Nat) (S : List UInt8) (K : Nat) : Held (MemF m S K) where
  keep := by
    rintro w w' F ⟨sb, lb, ab, n, h, h1, h2, h3, h4⟩ hs hb
    refine ⟨sb, lb, ab, n, h.keep fun k hk => hb k (h.lts k hk) ?_, h1, h2, h3, h4⟩
    rcases hk with rfl | rfl | rfl | rfl <;> assumption
  mono := by
    rintro w F G ⟨sb, lb, ab, n, h, h1, h2, h3, h4⟩ hG
    exact ⟨sb, lb, ab, n, h, hG _ (h.lts _ (Or.inl rfl)) h1, hG _ (h.lts _ (Or.inr (Or.inl rfl))) h2, hG _ (h.lts _ (Or.inr (Or.inr (Or.inl rfl)))) h3, hG _ (h.lts _ (Or.inr (Or.inr (Or.inr rfl)))) h4⟩

set_option maxHeartbeats 4000000 in
set_option maxRecDepth 100000 in
theorem size_any {m sb lb ab n K : Nat} {S : List UInt8} (w : World) (h : MemAt w m sb lb ab n S K) : Calls Tryz.prog 38 #[.pointer (some ⟨m, 0, none⟩)] w fun e w' => e = .returned (.int .i64 S.length) ∧ w' = w := by
  have c0 := cell_of_row w m 0 _ _ _ h.obj
  have hl := h.len
  have hs := h.small
  clear h
  go_enter Tryz.func38, Tryz.ntmps38
  go_wp2
  go_ret
  refine ⟨ret_int ?_, rfl⟩
  omega
set_option maxHeartbeats 4000000 in
set_option maxRecDepth 100000 in
theorem within_any {m sb lb ab n K : Nat} {S : List UInt8} (at_ k : Int) (ha : I64 at_) (hk : I64 k) (w : World) (h : MemAt w m sb lb ab n S K) : Calls Tryz.prog 37 #[.pointer (some ⟨m, 0, none⟩), .int .i64 at_, .int .i64 k] w fun e w' => e = .returned (.bool (decide (0 ≤ at_) && (decide (0 ≤ k) && decide (at_ + k ≤ S.length)))) ∧ w' = w := by
  have HS := Lib.hid (size_any w h)
  have hl := h.len
  have hs := h.small
  have h1 := ha.lo
  have h2 := hk.lo
  obtain ⟨N, hN⟩ : ∃ N, N = S.length := ⟨_, rfl⟩
  rw [← hN] at HS hl
  rw [← hN]
  have hN2 : N ≤ 1048576 := by omega
  clear h ha hk hN hl hs
  by_cases a0 : 0 ≤ at_
  · by_cases k0 : 0 ≤ k
    · by_cases aN : at_ ≤ N
      · go_enter Tryz.func37, Tryz.ntmps37
        go_wp2_with (go_at_call 38; refine HS.out.mono ?_; rintro e w2 ⟨rfl, rfl⟩)
        go_ret
        refine ⟨ret_bool ?_, rfl⟩
        rw [Bool.eq_iff_iff]
        simp
        omega
      · have aN' : decide (at_ ≤ (N : Int)) = false := decide_eq_false aN
        go_enter Tryz.func37, Tryz.ntmps37
        go_wp2_with (go_at_call 38; refine HS.out.mono ?_; rintro e w2 ⟨rfl, rfl⟩)
        go_ret
        refine ⟨ret_bool ?_, rfl⟩
        rw [Bool.eq_iff_iff]
        simp
        omega
    · have k0' : decide (0 ≤ k) = false := decide_eq_false k0
      go_enter Tryz.func37, Tryz.ntmps37
      go_wp2_with fail
      go_ret
      refine ⟨ret_bool ?_, rfl⟩
      simp [k0']
  · have a0' : decide (0 ≤ at_) = false := decide_eq_false a0
    go_enter Tryz.func37, Tryz.ntmps37
    go_wp2_with fail
    go_ret
    refine ⟨ret_bool ?_, rfl⟩
    simp [a0']

end Go.Proofs.YthbonbcbbngciaaGreatDoor

/- Walks: the memory that lasts: bytes that are loaded. -/
namespace Go.Proofs.YthbonbcbbngciaaGreatDoor
open Go.RowKit Go.Maps

theorem part_snoc {S : List UInt8} {a i : Nat} {x : UInt8} (h : S[a + i]? = some x) : Gd.part S a (i + 1) = Gd.part S a i ++ [x] := part_next h
theorem nat_I64 {n : Nat} (h : n ≤ 9223372036854775807) : I64 (n : Int) := by
  unfold I64
  simp [Lit.wf, show IntKind.i64.min = -9223372036854775808 from rfl, show IntKind.i64.max = 9223372036854775807 from rfl]
  omega
/-- bytes of a call's own, and no error -/
def Loads (w : World) (L : List UInt8) (e : Ending) (w' : World) : Prop := ∃ v, e = .returned (.tuple #[v, .int .i64 0]) ∧ OwnB w' w.heap.size v L ∧ Below w.heap.size w w'

set_option maxHeartbeats 4000000 in
set_option maxRecDepth 100000 in
theorem bytes_any {m sb lb ab n K : Nat} {S : List UInt8} (a k : Nat) (w : World) (h : MemAt w m sb lb ab n S K) (hak : a + k ≤ S.length) (hk : k ≤ 100000) :
    Calls Tryz.prog 69 #[.pointer (some ⟨m, 0, none⟩), .slice (some ⟨sb, 0, none⟩) n n, .int .i64 a, .int .i64 k] w (Loads w (Gd.part S a k)) := by
  have hl := h.len
  have hs := h.small
  have HW := Lib.hid (within_any (a : Int) (k : Int) (nat_I64 (by omega)) (nat_I64 (by omega)) w h)
  have hwb : (decide (0 ≤ (a : Int)) && (decide (0 ≤ (k : Int)) && decide ((a : Int) + k ≤ S.length))) = true := by simp; omega
  rw [hwb] at HW
  have hsb := lt_get h.seen
  have HS := Lib.hid h.seen
  have hak' : Hid (a + k ≤ S.length) := Lib.hid hak
  have Hl := Lib.hid hl
  have hak2 : a + k ≤ n * 8 := by omega
  have hSs : Hid (S.length ≤ 1048576) := Lib.hid (by omega)
  clear h hwb hl hak
  go_enter Tryz.func69, Tryz.ntmps69
  go_upto_region 5 with (go_at_call 37; refine HW.out.mono ?_; rintro e w2 ⟨rfl, rfl⟩)
  go_loopw [10, 11] (fun u z wr => ∃ i : Nat, z = .int .i64 ((a + i : Nat) : Int) ∧ i ≤ k ∧ Hid (OwnB wr w2.heap.size u (Gd.part S a i)) ∧ Hid (Below w2.heap.size w2 wr)) (fun _ z _ => a + k - (intOf z).toNat)
  case atStart => exact ⟨0, rfl, by omega, Lib.hid (ownB_nil _ _), Lib.hid (Below.refl _ _)⟩
  case round =>
    obtain ⟨i, rfl, hik, HO, HB⟩ := hrel
    by_cases hlt : i < k
    · obtain ⟨x, hx⟩ : ∃ x, S[a + i]? = some x := ⟨_, List.getElem?_eq_getElem (by have := hak'.out; omega)⟩
      have hc0 : wr.cell? ⟨sb, a + i, none⟩ = some (.int .u8 x.toNat) := (HB.out.cell (p := ⟨sb, a + i, none⟩) hsb).trans ((cell_of_row w2 sb (a + i) _ _ _ HS.out).trans (cellsB_get hx))
      have hc : wr.cell? ⟨sb, (a + i) / 8 * 8 + (a + i) % 8, none⟩ = some (.int .u8 x.toNat) := by
        rw [show (a + i) / 8 * 8 + (a + i) % 8 = a + i by omega]
        exact hc0
      have e3 : ((a + i : Nat) : Int) < (a : Int) + k := by omega
      have e4 : ((a + i : Nat) : Int) / 8 < n := by omega
      have e6 : (0 : Int) ≤ ((a + i : Nat) : Int) / 8 := by omega
      have e5 : ((a + i : Nat) : Int) % 8 < 8 := by omega
      have HX := Lib.hid hx
      have HL : Hid ((Gd.part S a i).length < 1000000) := Lib.hid (by rw [Gd.part_length (by have := hak'.out; omega)]; omega)
      clear hx
      go_wp2_with (at_builtin; refine app_byte rfl _ _ rfl w2.heap.size u10 (Gd.part S a i) wr rfl HO.out _ x rfl rfl HL.out HB.out.size ?_)
      intro v' w' ho' hb'
      have HO' : Hid (OwnB w' w2.heap.size v' (Gd.part S a (i + 1))) := Lib.hid (by rw [part_snoc HX.out]; exact ho')
      have HB' := Lib.hid (HB.out.trans hb')
      clear ho' hb' hc hc0
      go_wp2
      go_roundw
      case rel => exact ⟨i + 1, by go_num, by omega, HO', HB'⟩
      case measure => simp [intOf]; omega
    · obtain rfl : i = k := by omega
      clear hlt
      go_wp2
      go_ret2
      exact ⟨_, rfl, HO.out, HB.out⟩

theorem cell2 {w : World} {m t : Nat} {a b c : Value} (h : w.heap[m]? = some (.cells #[a, b, c] t (0, 0))) : w.cell? ⟨m, 0, none⟩ = some a ∧ w.cell? ⟨m, 1, none⟩ = some b ∧ w.cell? ⟨m, 2, none⟩ = some c :=
  ⟨cell_of_row w m 0 _ _ _ h, cell_of_row w m 1 _ _ _ h, cell_of_row w m 2 _ _ _ h⟩
set_option maxHeartbeats 4000000 in
set_option maxRecDepth 100000 in
theorem mload_any {m K : Nat} {S : List UInt8} {F : Nat → Prop} (a k : Nat) (w : World) (h : MemF m S K w F) (hak : a + k ≤ S.length) (hk : k ≤ 100000) :
    Calls Tryz.prog 28 #[.pointer (some ⟨m, 0, none⟩), .int .i64 a, .int .i64 k] w (Loads w (Gd.part S a k)) := by
  obtain ⟨sb, lb, ab, n, h, _⟩ := h
  have HB := Lib.hid (bytes_any a k w h hak hk)
  obtain ⟨c0, _, _⟩ := cell2 h.obj
  clear h
  go_enter Tryz.func28, Tryz.ntmps28
  go_wp2_with fail
  refine HB.out.mono ?_
  rintro e w2 ⟨v, rfl, ho, hb⟩
  have HO := Lib.hid ho
  have HB2 := Lib.hid hb
  clear ho hb
  go_wp2
  go_ret2
  exact ⟨v, rfl, HO.out, HB2.out⟩
/-- bytes that are not within: an error -/
def Fails (w : World) (e : Ending) (w' : World) : Prop := e = .returned (.tuple #[.slice none 0 0, .int .i64 1]) ∧ w' = w
set_option maxHeartbeats 4000000 in
set_option maxRecDepth 100000 in
theorem mload_bad {m K : Nat} {S : List UInt8} {F : Nat → Prop} (a k : Int) (ha : I64 a) (hk : I64 k) (w : World) (h : MemF m S K w F) (hn : ¬ (0 ≤ a ∧ 0 ≤ k ∧ a + k ≤ S.length)) :
    Calls Tryz.prog 28 #[.pointer (some ⟨m, 0, none⟩), .int .i64 a, .int .i64 k] w (Fails w) := by
  obtain ⟨sb, lb, ab, n, h, _⟩ := h
  have HW := Lib.hid (within_any a k ha hk w h)
  have hwb : (decide (0 ≤ a) && (decide (0 ≤ k) && decide (a + k ≤ S.length))) = false := by
    rw [Bool.eq_false_iff]
    intro e
    simp only [Bool.and_eq_true, decide_eq_true_eq] at e
    exact hn ⟨e.1, e.2.1, e.2.2⟩
  rw [hwb] at HW
  obtain ⟨c0, _, _⟩ := cell2 h.obj
  have HB : Hid (Calls Tryz.prog 69 #[.pointer (some ⟨m, 0, none⟩), .slice (some ⟨sb, 0, none⟩) n n, .int .i64 a, .int .i64 k] w (Fails w)) := Lib.hid (by
    clear c0 h
    go_enter Tryz.func69, Tryz.ntmps69
    go_wp2_with (go_at_call 37; refine HW.out.mono ?_; rintro e w2 ⟨rfl, rfl⟩)
    go_ret2
    exact ⟨rfl, rfl⟩)
  clear h HW hwb
  go_enter Tryz.func28, Tryz.ntmps28
  go_wp2_with fail
  refine HB.out.mono ?_
  rintro e w2 ⟨rfl, rfl⟩
  go_wp2
  go_ret2
  exact ⟨rfl, rfl⟩

end Go.Proofs.YthbonbcbbngciaaGreatDoor

/- Walks: the memory that lasts: bytes that are stored. -/
namespace Go.Proofs.YthbonbcbbngciaaGreatDoor
open Go.RowKit Go.Maps

theorem Tryz.intLaw : Keyed Tryz.prog 3 := int_keyed Tryz.underlying3
theorem only_turned {w w' : World} {b : Nat} (h : w.mapTurned w' b) : Only (fun k => k = b) w w' := grown_only h.grown (fun k e => (Option.some.inj e).symm)
theorem has_del_le {D : DataW Unit} {kl z : Lit} (h : has (D.del kl) z = true) : has D z = true := by
  by_cases e : z = kl
  · rw [e, has_del_same] at h
    cases h
  · rwa [has_del_other e] at h
theorem splice_take {S b : List UInt8} {a i : Nat} {x : UInt8} (hx : b[i]? = some x) (h : a + b.length ≤ S.length) : (Gd.splice S a (b.take i)).set (a + i) x = Gd.splice S a (b.take (i + 1)) := by
  have hi := (List.getElem?_eq_some_iff.1 hx).1
  have h1 : (b.take i).length = i := by rw [List.length_take]; omega
  have h2 : (b.take (i + 1)).length = i + 1 := by rw [List.length_take]; omega
  apply List.ext_getElem?
  intro j
  rw [Gd.splice_get (by rw [h2]; omega), h2]
  by_cases hj : j = a + i
  · subst hj
    rw [List.getElem?_set_self (by rw [Gd.splice_length (by rw [h1]; omega)]; omega), if_pos (by omega), show a + i - a = i by omega, List.getElem?_take_of_lt (by omega), hx]
  · rw [List.getElem?_set_ne (fun e => hj e.symm), Gd.splice_get (by rw [h1]; omega), h1]
    by_cases hk : a ≤ j ∧ j < a + i
    · rw [if_pos hk, if_pos (by omega), List.getElem?_take_of_lt (by omega), List.getElem?_take_of_lt (by omega)]
    · rw [if_neg hk, if_neg (by omega)]
theorem cellsB_set {S : List UInt8} {j : Nat} (x : UInt8) : (cellsB S).setIfInBounds j (.int .u8 x.toNat) = cellsB (S.set j x) := by
  unfold cellsB Lib.byteCells
  rw [← Array.toList_inj]
  simp [List.map_set]

theorem MemAt.write {w : World} {m sb lb ab n K : Nat} {S : List UInt8} (h : MemAt w m sb lb ab n S K) (j : Nat) (x : UInt8) (hm : m ≠ sb ∧ m ≠ ab ∧ sb ≠ ab) : MemAt (w.setCell ⟨sb, j, none⟩ (.int .u8 x.toNat)) m sb lb ab n (S.set j x) K := by
  have ho : ∀ k, k ≠ sb → (w.setCell ⟨sb, j, none⟩ (.int .u8 x.toNat)).heap[k]? = w.heap[k]? := fun k hk => Go.heap_setCell_other w ⟨sb, j, none⟩ k _ (fun e => hk e)
  obtain ⟨Z, hZ, hl⟩ := h.lasts
  refine ⟨(ho m hm.1).trans h.obj, ?_, ⟨Z, by rw [List.length_set]; exact hZ, (ho lb h.ne.symm).trans hl⟩, h.away.keep (ho ab hm.2.2.symm), by rw [List.length_set]; exact h.len, h.small, h.lines, h.ne⟩
  rw [← cellsB_set]
  exact Go.heap_setCell_same w sb j _ _ _ h.seen
theorem MemAt.turn {w w' : World} {m sb lb ab n K k : Nat} {S : List UInt8} {D : DataW Unit} (h : MemAt w m sb lb ab n S K) (hm : m ≠ sb ∧ m ≠ ab ∧ sb ≠ ab) (hlb : lb ≠ ab) (ht : w.mapTurned w' ab) (hk : k ≤ K) (ho : w'.ownsMap Tryz.prog 3 (plainElem Tryz.prog 4) ab k D) (hD : ∀ kl, has D kl = true → ∃ j : Nat, j < n ∧ kl = .int .i64 j) : MemAt w' m sb lb ab n S K := by
  have hb : ∀ q, q < w.heap.size → q ≠ ab → w'.heap[q]? = w.heap[q]? := fun q hq hn => (only_turned ht).block q hq hn
  obtain ⟨Z, hZ, hl⟩ := h.lasts
  exact ⟨(hb m (lt_get h.obj) hm.2.1).trans h.obj, (hb sb (lt_get h.seen) hm.2.2).trans h.seen, ⟨Z, hZ, (hb lb (lt_get hl) hlb).trans hl⟩, ⟨k, D, hk, ho, hD⟩, h.len, h.small, h.lines, h.ne⟩
theorem MemAt.apart {w : World} {m sb lb ab n K : Nat} {S : List UInt8} (h : MemAt w m sb lb ab n S K) : (m ≠ sb ∧ m ≠ ab ∧ sb ≠ ab) ∧ lb ≠ ab ∧ m ≠ lb := by
  obtain ⟨k, D, _, ⟨es, ck, hm, _⟩, _⟩ := h.away
  obtain ⟨Z, hZ, hl⟩ := h.lasts
  have h1 := h.obj
  have h2 := h.seen
  refine ⟨⟨fun e => ?_, fun e => ?_, fun e => ?_⟩, fun e => ?_, fun e => ?_⟩
  · rw [e, h2] at h1
    exact absurd (Obj.cells.inj (Option.some.inj h1)).2.1 (by decide)
  · rw [e, hm] at h1; cases h1
  · rw [e, hm] at h2; cases h2
  · rw [e, hm] at hl; cases hl
  · rw [e, hl] at h1
    exact absurd (Obj.cells.inj (Option.some.inj h1)).2.1 (by decide)

set_option maxHeartbeats 4000000 in
set_option maxRecDepth 100000 in
theorem mstore_at {m sb lb ab n K : Nat} {S : List UInt8} (a : Nat) (v : Value) (b : List UInt8) (w : World) (h : MemAt w m sb lb ab n S K) (hb : BytesAt w v b) (hap : ∀ q, v.ownBlock = some q → q ≠ sb ∧ q ≠ ab) (hak : a + b.length ≤ S.length) (hk : b.length ≤ 100000) :
    Calls Tryz.prog 11 #[.pointer (some ⟨m, 0, none⟩), .int .i64 a, v] w fun e w' => e = .returned (.int .i64 0) ∧ MemAt w' m sb lb ab n (Gd.splice S a b) K ∧ Only (fun k => k = sb ∨ k = ab) w w' := by
  obtain ⟨A, c, rfl, hA⟩ := hb
  have hl := h.len
  have hs := h.small
  have HW := Lib.hid (within_any (a : Int) (b.length : Int) (nat_I64 (by omega)) (nat_I64 (by omega)) w h)
  have hwb : (decide (0 ≤ (a : Int)) && (decide (0 ≤ (b.length : Int)) && decide ((a : Int) + (b.length : Nat) ≤ S.length))) = true := by simp; omega
  rw [hwb] at HW
  obtain ⟨N, hN⟩ : ∃ N, N = b.length := ⟨_, rfl⟩
  rw [← hN] at HW hak hk
  rw [← hN]
  have HN := Lib.hid hN
  have HA := Lib.hid hA
  have HAp := Lib.hid hap
  have Hm := Lib.hid h.apart
  have HM0 := Lib.hid h
  have hak2 : a + N ≤ n * 8 := by omega
  have Hl := Lib.hid hl
  clear h hwb hl hak hN hA hap
  go_enter Tryz.func11, Tryz.ntmps11
  go_upto_region 4 with (go_at_call 37; refine HW.out.mono ?_; rintro e w2 ⟨rfl, rfl⟩)
  go_loopw [18] (fun z wr => ∃ i : Nat, z = .int .i64 i ∧ i ≤ N ∧ Hid (MemAt wr m sb lb ab n (Gd.splice S a (b.take i)) K) ∧ Hid (Only (fun k => k = sb ∨ k = ab) w2 wr)) (fun z _ => N - (intOf z).toNat)
  case atStart => exact ⟨0, rfl, by omega, Lib.hid (by rw [List.take_zero, Gd.splice_nil]; exact HM0.out), Lib.hid (Only.refl _ _)⟩
  case round =>
    obtain ⟨i, rfl, hin, HM, HO⟩ := hrel
    by_cases hlt : i < N
    · obtain ⟨x, hx⟩ : ∃ x, b[i]? = some x := ⟨_, List.getElem?_eq_getElem (by have := HN.out; omega)⟩
      rcases HA.out with ⟨_, h0, _⟩ | ⟨bb, o, rfl, hbl, hcell⟩
      · rw [h0] at hx; simp at hx
      have hbg := HAp.out bb rfl
      have hc := (HO.out.cell (p := ⟨bb, o + i, none⟩) hbl (fun e => e.elim hbg.1 hbg.2)).trans (hcell i x hx)
      have h1 : (i : Int) < N := by omega
      have h0 : (0 : Int) ≤ i := by omega
      obtain ⟨c0, _, c2⟩ := cell2 HM.out.obj
      have hlen : (Gd.splice S a (b.take i)).length = n * 8 := HM.out.len
      obtain ⟨y, hy⟩ : ∃ y, (Gd.splice S a (b.take i))[a + i]? = some y := ⟨_, List.getElem?_eq_getElem (by omega)⟩
      have hat : (a + i) / 8 * 8 + (a + i) % 8 = a + i := by omega
      have hs0 : wr.cell? ⟨sb, (a + i) / 8 * 8 + (a + i) % 8, none⟩ = some (.int .u8 y.toNat) := by
        rw [hat]
        exact (cell_of_row wr sb (a + i) _ _ _ HM.out.seen).trans (cellsB_get hy)
      have hf0 : wr.frozen? ⟨sb, (a + i) / 8 * 8 + (a + i) % 8, none⟩ = false := by
        rw [hat]
        exact frozen_of_row wr sb (a + i) _ _ HM.out.seen
      have e4 : ((a : Int) + i) / 8 < n := by omega
      have e6 : (0 : Int) ≤ ((a : Int) + i) / 8 := by omega
      have e5 : ((a : Int) + i) % 8 < 8 := by omega
      have e7 : (0 : Int) ≤ ((a : Int) + i) % 8 := by omega
      have e8 : (a : Int) + i < 1048576 := by omega
      have HX := Lib.hid hx
      have Hat := Lib.hid hat
      clear hx hcell hbg hlt hy hlen hat
      go_upto_region 8 with fail
      rw [Hat.out]
      obtain ⟨wz, hwz⟩ : ∃ v, v = wr.setCell ⟨sb, a + i, none⟩ (.int .u8 x.toNat) := ⟨_, rfl⟩
      rw [← hwz]
      have HMz : Hid (MemAt wz m sb lb ab n (Gd.splice S a (b.take (i + 1))) K) := Lib.hid (by
        rw [hwz, ← splice_take HX.out (by have := HN.out; have := Hl.out; omega)]
        exact HM.out.write _ _ Hm.out.1)
      have HOz : Hid (Only (fun k => k = sb ∨ k = ab) w2 wz) := Lib.hid (by
        rw [hwz]
        exact HO.out.trans (only_setCell wr ⟨sb, a + i, none⟩ _ (F := fun k => k = sb ∨ k = ab) (Or.inl rfl)) fun _ _ e => e)
      have hsz : wr.heap.size = wz.heap.size := by rw [hwz]; simp [World.setCell]
      obtain ⟨d0, _, d2⟩ := cell2 HMz.out.obj
      obtain ⟨k, D, hkK, hown, hD⟩ := HMz.out.away
      have HD := Lib.hid (And.intro hkK hD)
      have HKey := Lib.hid (keyOf_int_mk (P := Tryz.prog) Tryz.underlying3 (q := .i64) (a := ((a : Int) + i) / 8) (show (Lit.int .i64 (((a : Int) + i) / 8)).wf = true from by
        have := nat_I64 (n := (a + i) / 8) (by omega)
        unfold I64 at this
        rw [show (((a + i) / 8 : Nat) : Int) = ((a : Int) + i) / 8 by omega] at this
        exact this))
      clear hwz hc c0 c2 hs0 hf0 hkK hD hsz
      go_wp2_with (at_delete; refine wpList_delete_own _ rfl _ _ 88 3 rfl 4 Tryz.intLaw Tryz.underlying88 _ ab k D rfl hown _ _ rfl HKey.out ?_)
      intro w1 hown1 hturn
      have HM1 : Hid (MemAt w1 m sb lb ab n (Gd.splice S a (b.take (i + 1))) K) := Lib.hid (HMz.out.turn Hm.out.1 Hm.out.2.1 hturn HD.out.1 hown1 fun kl hkl => HD.out.2 kl (has_del_le hkl))
      have HO1 : Hid (Only (fun k => k = sb ∨ k = ab) w2 w1) := Lib.hid (HOz.out.trans (only_turned hturn) fun j _ e => Or.inr e)
      clear hown hown1 hturn d0 d2
      go_wp2
      go_roundw
      case rel => exact ⟨i + 1, by go_num, by omega, HM1, HO1⟩
      case measure => simp [intOf]; omega
    · obtain rfl : i = N := by omega
      clear hlt
      go_wp2
      go_ret
      have := HM.out
      rw [List.take_of_length_le (by have := HN.out; omega)] at this
      exact ⟨rfl, this, HO.out⟩
theorem mstore_any {m K : Nat} {S : List UInt8} {F : Nat → Prop} (a : Nat) (v : Value) (b : List UInt8) (w : World) (h : MemF m S K w F) (hb : BytesAt w v b) (hap : ∀ q, v.ownBlock = some q → ¬ F q) (hak : a + b.length ≤ S.length) (hk : b.length ≤ 100000) :
    Calls Tryz.prog 11 #[.pointer (some ⟨m, 0, none⟩), .int .i64 a, v] w fun e w' => e = .returned (.int .i64 0) ∧ MemF m (Gd.splice S a b) K w' F ∧ Only F w w' := by
  obtain ⟨sb, lb, ab, n, h, f1, f2, f3, f4⟩ := h
  refine (mstore_at a v b w h hb (fun q hq => ⟨fun e => hap q hq (e ▸ f2), fun e => hap q hq (e ▸ f4)⟩) hak hk).mono ?_
  rintro e w' ⟨he, hM, hO⟩
  exact ⟨he, ⟨sb, lb, ab, n, hM, f1, f2, f3, f4⟩, hO.mono fun j _ e => e.elim (fun e => e ▸ f2) fun e => e ▸ f4⟩

end Go.Proofs.YthbonbcbbngciaaGreatDoor
