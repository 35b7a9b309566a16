/- Walks: crc.Sum: the check sum of bytes. -/
import Derived.Test.YtginffdngphjpaaGreatDoorV00
import Derived.RowKit
set_option linter.unusedVariables false
set_option linter.unusedSimpArgs false
namespace Go.Proofs.YtginffdngphjpaaGreatDoor
open Go.RowKit

theorem crcnew_any (w : World) : Calls Tryz.prog 101 #[] w fun e w' => e = .returned (.pointer (some ⟨w.heap.size, 0, none⟩)) ∧ RegAt w' w.heap.size Gd.ones ∧ Below w.heap.size w w' := by
  go_enter Tryz.func101, Tryz.ntmps101
  go_wp2
  go_ret
  exact ⟨rfl, heap_alloc_new _ _, (Below.refl _ w).alloc (Nat.le_refl _) _⟩
set_option maxHeartbeats 4000000 in
set_option maxRecDepth 100000 in
theorem crcadd_any (g r : Nat) (v : Value) (L : List UInt8) (hr : r < 4294967296) (w : World) (h : RegAt w g r) (hb : BytesAt w v L) (hne : ∀ A n c, v = .slice A n c → ∀ b o, A = some ⟨b, o, none⟩ → b ≠ g) (hl : L.length ≤ 1000000) :
    Calls Tryz.prog 102 #[.pointer (some ⟨g, 0, none⟩), v] w fun e w' => e = .returned (.tuple #[]) ∧ RegAt w' g (Gd.crcR r L) ∧ w.grownBy w' (some g) := by
  obtain ⟨A, c, rfl, hA⟩ := hb
  have HH := Lib.hid h
  have HA := Lib.hid hA
  have HNe := Lib.hid hne
  obtain ⟨n, hn⟩ : ∃ n, n = L.length := ⟨_, rfl⟩
  rw [← hn]
  rw [← hn] at hl
  have Hn := Lib.hid hn
  clear h hA hne hn
  go_enter Tryz.func102, Tryz.ntmps102
  go_upto_region 1 with fail
  go_loopw [8] (fun z wr => ∃ i : Nat, z = .int .i64 i ∧ i ≤ n ∧ Hid (RegAt wr g (Gd.crcR r (L.take i))) ∧ Hid (w.grownBy wr (some g))) (fun z _ => n - (intOf z).toNat)
  case atStart => exact ⟨0, rfl, by omega, HH, Lib.hid (World.grownBy.refl _ _)⟩
  case round =>
    obtain ⟨i, rfl, hin, HR, HG⟩ := hrel
    by_cases hlt : i < n
    · obtain ⟨x, hx⟩ : ∃ x, L[i]? = some x := ⟨_, List.getElem?_eq_getElem (by have := Hn.out; omega)⟩
      rcases HA.out with ⟨_, h0, _⟩ | ⟨b, o, rfl, hbl, hcell⟩
      · rw [h0] at hx; simp at hx
      have hbg := HNe.out _ _ _ rfl b o rfl
      have hc := (World.cell?_of_block (a := ⟨b, o + i, none⟩) (HG.out.block b hbl (fun e => hbg (Option.some.inj e)))).trans (hcell i x hx)
      have h1 : (i : Int) < n := by omega
      have h0 : (0 : Int) ≤ i := by omega
      have HS : Hid (Gd.crcR r (L.take (i + 1)) = Gd.byteStep (Gd.crcR r (L.take i)) x) := Lib.hid (by rw [List.take_add_one, hx]; exact Gd.crcR_snoc _ _ _)
      have HY := Lib.hid (byte_any g (Gd.crcR r (L.take i)) x (Gd.crcR_lt _ hr) wr HR.out)
      clear hx hcell hbg hlt
      go_wp2_with fail
      refine HY.out.mono ?_
      rintro e w2 ⟨rfl, hR2, hG2⟩
      have HR2 : Hid (RegAt w2 g (Gd.crcR r (L.take (i + 1)))) := Lib.hid (by rw [HS.out]; exact hR2)
      have HG2 := Lib.hid (grown_trans HG.out hG2)
      clear hR2 hG2 hc HY
      go_wp2
      go_roundw
      case rel => exact ⟨i + 1, by go_num, by omega, HR2, HG2⟩
      case measure => simp [intOf]; omega
    · obtain rfl : i = n := by omega
      clear hlt
      go_wp2
      go_end0
      have := HR.out
      rw [List.take_of_length_le (by have := Hn.out; omega)] at this
      exact ⟨rfl, this, HG.out⟩
theorem xor_ones (r : Nat) (h : r < 4294967296) : 4294967295 ^^^ r = 4294967295 - r := by
  have := congrArg BitVec.toNat (BitVec.allOnes_xor (x := BitVec.ofNat 32 r))
  simpa [BitVec.toNat_xor, BitVec.toNat_allOnes, BitVec.toNat_not, BitVec.toNat_ofNat, Nat.mod_eq_of_lt h] using this
theorem not32 (r : Nat) (h : r < 4294967296) : bits .xor .u32 IntKind.u32.max (r : Int) = ((Gd.ones - r : Nat) : Int) := by
  rw [show IntKind.u32.max = ((4294967295 : Nat) : Int) from rfl, u32_xor_nat _ r (by decide) h, xor_ones r h]
  rfl
set_option maxHeartbeats 4000000 in
set_option maxRecDepth 100000 in
theorem crcsumm_any (g r : Nat) (hr : r < 4294967296) (w : World) (h : RegAt w g r) : Calls Tryz.prog 103 #[.pointer (some ⟨g, 0, none⟩)] w fun e w' => e = .returned (.int .u32 (Gd.ones - r : Nat)) ∧ w' = w := by
  have hc := cell_of_row w g 0 _ _ _ h
  go_enter Tryz.func103, Tryz.ntmps103
  go_wp2
  go_ret
  exact ⟨by rw [← not32 r hr]; rfl, rfl⟩
set_option maxHeartbeats 4000000 in
set_option maxRecDepth 100000 in
theorem crc_any (v : Value) (L : List UInt8) (w : World) (hb : BytesAt w v L) (hl : L.length ≤ 1000000) : Calls Tryz.prog 71 #[v] w fun e w' => e = .returned (.int .u32 (Gd.crc L)) ∧ Below w.heap.size w w' := by
  have HB := Lib.hid hb
  clear hb
  go_enter Tryz.func71, Tryz.ntmps71
  go_wp2_with fail
  refine (crcnew_any w).mono ?_
  rintro e w1 ⟨rfl, hR1, hb1⟩
  have HA := Lib.hid (crcadd_any w.heap.size Gd.ones v L (by decide) w1 hR1 (HB.out.keep hb1) (fun A n c hv b o hA => by
    obtain ⟨A', c', hv', h⟩ := HB.out
    rw [hv'] at hv
    cases hv
    rcases h with ⟨h, _⟩ | ⟨b', o', h, hb, _⟩
    · rw [h] at hA; cases hA
    · rw [h] at hA; cases hA; omega) hl)
  have HB1 := Lib.hid hb1
  clear hR1 hb1
  go_wp2_with fail
  refine HA.out.mono ?_
  rintro e w2 ⟨rfl, hR2, hg2⟩
  have HS := Lib.hid (crcsumm_any w.heap.size (Gd.crcR Gd.ones L) (Gd.crcR_lt _ (by decide)) w2 hR2)
  have HB2 := Lib.hid (HB1.out.trans (below_grown hg2 HB1.out.size (fun k hk => by cases hk; exact Nat.le_refl _)))
  clear hR2 hg2 HA
  go_wp2_with fail
  refine HS.out.mono ?_
  rintro e w3 ⟨rfl, rfl⟩
  go_wp2
  go_ret
  exact ⟨rfl, HB2.out⟩

end Go.Proofs.YtginffdngphjpaaGreatDoor

/- Bytes in plain words: parts of bytes, bytes laid over others, changes that wait. -/
namespace Go.Proofs.YtginffdngphjpaaGreatDoor
namespace Gd
def part (S : List UInt8) (at_ n : Nat) : List UInt8 := (S.drop at_).take n
def splice (S : List UInt8) (at_ : Nat) (b : List UInt8) : List UInt8 := S.take at_ ++ (b ++ S.drop (at_ + b.length))
theorem part_length {S : List UInt8} {k n : Nat} (h : k + n ≤ S.length) : (part S k n).length = n := by
  unfold part
  rw [List.length_take, List.length_drop]
  omega
theorem part_get {S : List UInt8} {k n i : Nat} (hi : i < n) : (part S k n)[i]? = S[k + i]? := by
  unfold part
  rw [List.getElem?_take_of_lt hi, List.getElem?_drop]
theorem splice_length {S : List UInt8} {k : Nat} {b : List UInt8} (h : k + b.length ≤ S.length) : (splice S k b).length = S.length := by
  unfold splice
  rw [List.length_append, List.length_append, List.length_take, List.length_drop]
  omega
theorem splice_get {S : List UInt8} {k : Nat} {b : List UInt8} (h : k + b.length ≤ S.length) (i : Nat) : (splice S k b)[i]? = if k ≤ i ∧ i < k + b.length then b[i - k]? else S[i]? := by
  unfold splice
  have hl : (S.take k).length = k := by rw [List.length_take]; omega
  by_cases h1 : i < k
  · rw [if_neg (by omega), List.getElem?_append_left (by omega), List.getElem?_take_of_lt h1]
  · rw [List.getElem?_append_right (by omega), hl]
    by_cases h2 : i < k + b.length
    · rw [if_pos ⟨by omega, h2⟩, List.getElem?_append_left (by omega)]
    · rw [if_neg (by omega), List.getElem?_append_right (by omega), List.getElem?_drop]
      congr 1
      omega
theorem splice_nil (S : List UInt8) (k : Nat) : splice S k [] = S := by
  unfold splice
  simp
theorem part_ext {S T : List UInt8} {k n : Nat} (hS : k + n ≤ S.length) (hT : k + n ≤ T.length) (h : ∀ i, k ≤ i → i < k + n → S[i]? = T[i]?) : part S k n = part T k n := by
  apply List.ext_getElem?
  intro i
  by_cases hi : i < n
  · rw [part_get hi, part_get hi]
    exact h _ (by omega) (by omega)
  · rw [List.getElem?_eq_none (by rw [part_length hS]; omega), List.getElem?_eq_none (by rw [part_length hT]; omega)]
/-- a part apart from what was laid over -/
theorem part_splice_apart {S : List UInt8} {k n j : Nat} {b : List UInt8} (hS : k + n ≤ S.length) (hb : j + b.length ≤ S.length) (h : k + n ≤ j ∨ j + b.length ≤ k) : part (splice S j b) k n = part S k n :=
  part_ext (by rw [splice_length hb]; exact hS) hS fun i h1 h2 => by
    rw [splice_get hb, if_neg (by omega)]
theorem part_splice_same {S : List UInt8} {k : Nat} {b : List UInt8} (hb : k + b.length ≤ S.length) : part (splice S k b) k b.length = b := by
  apply List.ext_getElem?
  intro i
  by_cases hi : i < b.length
  · rw [part_get hi, splice_get hb, if_pos (by omega)]
    congr 1
    omega
  · rw [List.getElem?_eq_none (by rw [part_length (by rw [splice_length hb]; exact hb)]; omega), List.getElem?_eq_none (by omega)]
/-- a change: where, and the bytes -/
abbrev Pa := Nat × List UInt8
def overFrom (k : Nat) (p : Pa) : Nat := max k p.1
def overTo (k n : Nat) (p : Pa) : Nat := min (k + n) (p.1 + p.2.length)
def over (b : List UInt8) (k : Nat) (p : Pa) : List UInt8 :=
  if overFrom k p < overTo k b.length p then splice b (overFrom k p - k) (part p.2 (overFrom k p - p.1) (overTo k b.length p - overFrom k p)) else b
theorem over_part {S : List UInt8} {k n : Nat} {p : Pa} (hS : k + n ≤ S.length) (hp : p.1 + p.2.length ≤ S.length) : over (part S k n) k p = part (splice S p.1 p.2) k n := by
  have hl : (part S k n).length = n := part_length hS
  unfold over
  rw [hl]
  by_cases h : overFrom k p < overTo k n p
  · rw [if_pos h]
    unfold overFrom overTo at h
    have hlen : (part p.2 (overFrom k p - p.1) (overTo k n p - overFrom k p)).length = overTo k n p - overFrom k p := part_length (by unfold overFrom overTo; omega)
    apply List.ext_getElem?
    intro i
    by_cases hi : i < n
    · rw [splice_get (by rw [hlen, hl]; unfold overFrom overTo; omega), hlen, part_get hi, part_get hi, splice_get hp]
      by_cases h1 : p.1 ≤ k + i ∧ k + i < p.1 + p.2.length
      · rw [if_pos h1, if_pos (by unfold overFrom overTo; omega), part_get (by unfold overFrom overTo; omega)]
        congr 1
        unfold overFrom
        omega
      · rw [if_neg h1, if_neg (by unfold overFrom overTo; omega)]
    · rw [List.getElem?_eq_none (by rw [splice_length (by rw [hlen, hl]; unfold overFrom overTo; omega), hl]; omega), List.getElem?_eq_none (by rw [part_length (by rw [splice_length hp]; exact hS)]; omega)]
  · rw [if_neg h]
    unfold overFrom overTo at h
    refine (part_ext (by rw [splice_length hp]; exact hS) hS fun i h1 h2 => ?_).symm
    rw [splice_get hp, if_neg (by omega)]
/-- the bytes with all changes laid over -/
def view (S : List UInt8) (P : List Pa) : List UInt8 := P.foldl (fun S p => splice S p.1 p.2) S
def Fit (n : Nat) (P : List Pa) : Prop := ∀ p ∈ P, p.1 + p.2.length ≤ n
theorem view_length : ∀ {P : List Pa} {S : List UInt8}, Fit S.length P → (view S P).length = S.length
  | [], S, _ => rfl
  | p :: r, S, h => by
    have hp := h p (List.mem_cons_self ..)
    have hl := splice_length hp
    have := view_length (P := r) (S := splice S p.1 p.2) (fun q hq => by rw [hl]; exact h q (List.mem_cons_of_mem _ hq))
    show (view (splice S p.1 p.2) r).length = _
    rw [this, hl]
theorem view_snoc (S : List UInt8) (P : List Pa) (p : Pa) : view S (P ++ [p]) = splice (view S P) p.1 p.2 := by
  unfold view
  rw [List.foldl_append]
  rfl
/-- a part, all changes laid over it -/
def overs (b : List UInt8) (k : Nat) (P : List Pa) : List UInt8 := P.foldl (fun b p => over b k p) b
theorem overs_part : ∀ {P : List Pa} {S : List UInt8} {k n : Nat}, k + n ≤ S.length → Fit S.length P → overs (part S k n) k P = part (view S P) k n
  | [], S, k, n, _, _ => rfl
  | p :: r, S, k, n, hS, h => by
    have hp := h p (List.mem_cons_self ..)
    have hl := splice_length hp
    show overs (over (part S k n) k p) k r = part (view (splice S p.1 p.2) r) k n
    rw [over_part hS hp]
    exact overs_part (by rw [hl]; exact hS) (fun q hq => by rw [hl]; exact h q (List.mem_cons_of_mem _ hq))
end Gd
end Go.Proofs.YtginffdngphjpaaGreatDoor

/- Inodes in plain words: which may be, and their bytes. -/
namespace Go.Proofs.YtginffdngphjpaaGreatDoor
namespace Gd
/-- a file, or a directory: kind, names, size, blocks, descriptors -/
structure Ino where
  k : Int
  l : Int
  s : Int
  B : List Int
  O : List Int
def noIno : Ino := ⟨0, 0, 0, [0, 0, 0, 0], [0, 0, 0, 0, 0, 0, 0, 0]⟩
def Ino.Shape (x : Ino) : Prop := x.B.length = 4 ∧ x.O.length = 8
def blkB (kind size : Int) : Nat → List Int → List Int → Bool
  | _, _, [] => true
  | k, had, b :: r => decide (0 ≤ b) && decide (b ≤ 128) && !(decide (0 < b) && had.contains b) && !(decide (kind = 1) && (decide (0 < b) != decide ((64 * k : Int) < size))) && blkB kind size (k + 1) (had ++ [b]) r
def opnB (most : Int) (O : List Int) : Bool := O.all fun n => decide (0 ≤ n) && decide (n ≤ most)
def mayI (x : Ino) : Bool :=
  if x.k = 0 then decide (x.l = 0) && decide (x.s = 0) && x.B.all (· == 0) && x.O.all (· == 0)
  else if x.k = 1 then decide (0 ≤ x.l) && decide (x.l ≤ 20) && decide (0 ≤ x.s) && decide (x.s ≤ 256) && opnB 8 x.O && blkB 1 x.s 0 [] x.B
  else if x.k = 2 then decide (x.l = 1) && decide (0 ≤ x.s) && decide (x.s ≤ 16) && opnB 0 x.O && blkB 2 x.s 0 [] x.B
  else false
def byteOf (n : Int) : UInt8 := UInt8.ofNat n.toNat
/-- the sixty bytes ahead of the sum -/
def inoBody (x : Ino) : List UInt8 := le x.k.toNat 1 ++ le x.l.toNat 1 ++ le x.s.toNat 2 ++ x.B.map byteOf ++ x.O.map byteOf ++ List.replicate 44 0
def sealB (b : List UInt8) : List UInt8 := b ++ le (crc b) 4
def inoB (x : Ino) : List UInt8 := if x.k = 0 then List.replicate 64 0 else sealB (inoBody x)
theorem inoBody_length {x : Ino} (h : x.Shape) : (inoBody x).length = 60 := by
  unfold inoBody
  simp only [List.length_append, le_length, List.length_map, h.1, h.2, List.length_replicate]
theorem sealB_length (b : List UInt8) : (sealB b).length = b.length + 4 := by
  unfold sealB
  rw [List.length_append, le_length]
theorem inoB_length {x : Ino} (h : x.Shape) : (inoB x).length = 64 := by
  unfold inoB
  split
  · exact List.length_replicate
  · rw [sealB_length, inoBody_length h]
theorem blkB_in {kind size : Int} : ∀ {L : List Int} {k : Nat} {had : List Int}, blkB kind size k had L = true → ∀ b ∈ L, 0 ≤ b ∧ b ≤ 128
  | [], _, _, _, b, hb => by cases hb
  | a :: r, k, had, h, b, hb => by
    simp only [blkB, Bool.and_eq_true, decide_eq_true_eq] at h
    rcases List.mem_cons.1 hb with rfl | hb
    · exact ⟨h.1.1.1.1, h.1.1.1.2⟩
    · exact blkB_in h.2 b hb
theorem opnB_in {most : Int} {L : List Int} (h : opnB most L = true) : ∀ b ∈ L, 0 ≤ b ∧ b ≤ most := fun b hb => by
  have := List.all_eq_true.1 h b hb
  simpa using this
/-- what may be fits its bytes -/
structure InoIn (x : Ino) : Prop where
  k : 0 ≤ x.k ∧ x.k ≤ 2
  l : 0 ≤ x.l ∧ x.l ≤ 20
  s : 0 ≤ x.s ∧ x.s ≤ 256
  B : ∀ b ∈ x.B, 0 ≤ b ∧ b ≤ 128
  O : ∀ b ∈ x.O, 0 ≤ b ∧ b ≤ 8
theorem mayI_in {x : Ino} (h : mayI x = true) : InoIn x := by
  unfold mayI at h
  split at h
  · rename_i hk
    simp only [Bool.and_eq_true, decide_eq_true_eq, List.all_eq_true, beq_iff_eq] at h
    obtain ⟨⟨⟨h1, h2⟩, h3⟩, h4⟩ := h
    exact ⟨by omega, by omega, by omega, fun b hb => by have := h3 b hb; omega, fun b hb => by have := h4 b hb; omega⟩
  · split at h
    · rename_i hk
      simp only [Bool.and_eq_true, decide_eq_true_eq] at h
      obtain ⟨⟨⟨⟨⟨h1, h2⟩, h3⟩, h4⟩, h5⟩, h6⟩ := h
      exact ⟨by omega, by omega, by omega, blkB_in h6, opnB_in h5⟩
    · split at h
      · rename_i hk
        simp only [Bool.and_eq_true, decide_eq_true_eq] at h
        obtain ⟨⟨⟨⟨h1, h2⟩, h3⟩, h5⟩, h6⟩ := h
        exact ⟨by omega, by omega, by omega, blkB_in h6, fun b hb => by have := opnB_in h5 b hb; omega⟩
      · cases h
theorem mayI_zero {x : Ino} (hs : x.Shape) (h : mayI x = true) (hk : x.k = 0) : x = noIno := by
  obtain ⟨k, l, s, B, O⟩ := x
  obtain ⟨h1, h2⟩ := hs
  unfold mayI at h
  rw [if_pos hk] at h
  simp only [Bool.and_eq_true, decide_eq_true_eq, List.all_eq_true, beq_iff_eq] at h
  obtain ⟨⟨⟨h3, h4⟩, h5⟩, h6⟩ := h
  have e1 : B = [0, 0, 0, 0] := List.eq_replicate_iff.2 ⟨h1, h5⟩
  have e2 : O = [0, 0, 0, 0, 0, 0, 0, 0] := List.eq_replicate_iff.2 ⟨h2, h6⟩
  simp only at hk h3 h4
  rw [hk, h3, h4, e1, e2]
  rfl
end Gd
end Go.Proofs.YtginffdngphjpaaGreatDoor

/- A volume in plain words: inodes, which blocks are used, blocks; and its bytes. -/
namespace Go.Proofs.YtginffdngphjpaaGreatDoor
namespace Gd
structure Vol where
  ino : Nat → Ino
  map : List UInt8
  blk : Nat → List UInt8
def size : Nat := 23168
def inoAt (i : Nat) : Nat := 640 + 64 * (i - 1)
def blkAt (n : Nat) : Nat := 14976 + 64 * (n - 1)
structure Good (V : List UInt8) (M : Vol) : Prop where
  len : V.length = 23168
  shape : ∀ i, 1 ≤ i → i ≤ 32 → (M.ino i).Shape
  may : ∀ i, 1 ≤ i → i ≤ 32 → mayI (M.ino i) = true
  ino : ∀ i, 1 ≤ i → i ≤ 32 → part V (inoAt i) 64 = inoB (M.ino i)
  mapl : M.map.length = 16
  map : part V 576 16 = M.map
  blkl : ∀ n, 1 ≤ n → n ≤ 128 → (M.blk n).length = 64
  blk : ∀ n, 1 ≤ n → n ≤ 128 → part V (blkAt n) 64 = M.blk n
def Vol.setIno (M : Vol) (i : Nat) (x : Ino) : Vol := { M with ino := fun j => if j = i then x else M.ino j }
def Vol.setMap (M : Vol) (m : List UInt8) : Vol := { M with map := m }
def Vol.setBlk (M : Vol) (n : Nat) (b : List UInt8) : Vol := { M with blk := fun j => if j = n then b else M.blk j }
theorem Good.setIno {V : List UInt8} {M : Vol} (h : Good V M) {i : Nat} {x : Ino} (h1 : 1 ≤ i) (h2 : i ≤ 32) (hs : x.Shape) (hm : mayI x = true) : Good (splice V (inoAt i) (inoB x)) (M.setIno i x) := by
  have hl : (inoB x).length = 64 := inoB_length hs
  have hV := h.len
  have hf : inoAt i + (inoB x).length ≤ V.length := by rw [hl]; unfold inoAt; omega
  refine ⟨by rw [splice_length hf]; exact hV, fun j j1 j2 => ?_, fun j j1 j2 => ?_, fun j j1 j2 => ?_, h.mapl, ?_, h.blkl, fun n n1 n2 => ?_⟩
  · show (if j = i then x else M.ino j).Shape
    split
    · exact hs
    · exact h.shape j j1 j2
  · show mayI (if j = i then x else M.ino j) = true
    split
    · exact hm
    · exact h.may j j1 j2
  · show part _ _ _ = inoB (if j = i then x else M.ino j)
    by_cases e : j = i
    · subst e
      rw [if_pos rfl]
      have := part_splice_same hf
      rw [hl] at this
      exact this
    · rw [if_neg e, part_splice_apart (by unfold inoAt; omega) hf (by rw [hl]; unfold inoAt; omega)]
      exact h.ino j j1 j2
  · rw [part_splice_apart (by omega) hf (by rw [hl]; unfold inoAt; omega)]
    exact h.map
  · rw [part_splice_apart (by unfold blkAt; omega) hf (by rw [hl]; unfold inoAt blkAt; omega)]
    exact h.blk n n1 n2
theorem Good.setMap {V : List UInt8} {M : Vol} (h : Good V M) {m : List UInt8} (hm : m.length = 16) : Good (splice V 576 m) (M.setMap m) := by
  have hV := h.len
  have hf : 576 + m.length ≤ V.length := by omega
  refine ⟨by rw [splice_length hf]; exact hV, h.shape, h.may, fun j j1 j2 => ?_, hm, ?_, h.blkl, fun n n1 n2 => ?_⟩
  · rw [part_splice_apart (by unfold inoAt; omega) hf (by unfold inoAt; omega)]
    exact h.ino j j1 j2
  · have := part_splice_same hf
    rw [hm] at this
    exact this
  · rw [part_splice_apart (by unfold blkAt; omega) hf (by unfold blkAt; omega)]
    exact h.blk n n1 n2
theorem Good.setBlk {V : List UInt8} {M : Vol} (h : Good V M) {n : Nat} {b : List UInt8} (h1 : 1 ≤ n) (h2 : n ≤ 128) (hb : b.length = 64) : Good (splice V (blkAt n) b) (M.setBlk n b) := by
  have hV := h.len
  have hf : blkAt n + b.length ≤ V.length := by unfold blkAt; omega
  refine ⟨by rw [splice_length hf]; exact hV, h.shape, h.may, fun j j1 j2 => ?_, h.mapl, ?_, fun k k1 k2 => ?_, fun k k1 k2 => ?_⟩
  · rw [part_splice_apart (by unfold inoAt; omega) hf (by unfold inoAt blkAt; omega)]
    exact h.ino j j1 j2
  · rw [part_splice_apart (by omega) hf (by unfold blkAt; omega)]
    exact h.map
  · show (if k = n then b else M.blk k).length = 64
    split
    · exact hb
    · exact h.blkl k k1 k2
  · show part _ _ _ = (if k = n then b else M.blk k)
    by_cases e : k = n
    · subst e
      rw [if_pos rfl]
      have := part_splice_same hf
      rw [hb] at this
      exact this
    · rw [if_neg e, part_splice_apart (by unfold blkAt; omega) hf (by rw [hb]; unfold blkAt; omega)]
      exact h.blk k k1 k2
/-- what is told of the bytes outside the log holds of other bytes that are the same there -/
theorem Good.same {V W : List UInt8} {M : Vol} (h : Good V M) (hl : W.length = V.length) (hs : ∀ i, i < 2688 ∨ 6784 ≤ i → W[i]? = V[i]?) : Good W M := by
  have hV := h.len
  refine ⟨hl.trans hV, h.shape, h.may, fun j j1 j2 => ?_, h.mapl, ?_, h.blkl, fun n n1 n2 => ?_⟩
  · rw [← h.ino j j1 j2]
    exact part_ext (by unfold inoAt; omega) (by unfold inoAt; omega) fun i i1 i2 => hs i (by unfold inoAt at i2; omega)
  · rw [← h.map]
    exact part_ext (by omega) (by omega) fun i i1 i2 => hs i (by omega)
  · rw [← h.blk n n1 n2]
    exact part_ext (by unfold blkAt; omega) (by unfold blkAt; omega) fun i i1 i2 => hs i (by unfold blkAt at i1; omega)
end Gd
end Go.Proofs.YtginffdngphjpaaGreatDoor

/- A log's record in plain words: changes as bytes, and back. -/
namespace Go.Proofs.YtginffdngphjpaaGreatDoor
namespace Gd
def paB (p : Pa) : List UInt8 := le p.1 4 ++ (le p.2.length 2 ++ p.2)
def pasB (P : List Pa) : List UInt8 := P.flatMap paB
/-- what stands ahead of the sum -/
def recBody (P : List Pa) : List UInt8 := le P.length 2 ++ pasB P
def pad8 (n : Nat) : List UInt8 := List.replicate (up8 n - n) 0
def recB (P : List Pa) : List UInt8 := recBody P ++ le (crc (recBody P)) 4 ++ pad8 ((recBody P).length + 4)
def wt (P : List Pa) : Nat := (pasB P).length
/-- a change that a record may hold -/
def PaMay (p : Pa) : Prop := p.1 < 4294967296 ∧ p.2.length ≤ 256
theorem paB_length (p : Pa) : (paB p).length = 6 + p.2.length := by
  unfold paB
  rw [List.length_append, List.length_append, le_length, le_length]
  omega
theorem pasB_snoc (P : List Pa) (p : Pa) : pasB (P ++ [p]) = pasB P ++ paB p := by
  unfold pasB
  rw [List.flatMap_append]
  simp
theorem wt_snoc (P : List Pa) (p : Pa) : wt (P ++ [p]) = wt P + (6 + p.2.length) := by
  unfold wt
  rw [pasB_snoc, List.length_append, paB_length]
theorem recBody_length (P : List Pa) : (recBody P).length = 2 + wt P := by
  unfold recBody wt
  rw [List.length_append, le_length]
theorem up8_ge (n : Nat) : n ≤ up8 n ∧ up8 n < n + 8 ∧ up8 n % 8 = 0 := by
  unfold up8
  omega
theorem recB_length (P : List Pa) : (recB P).length = up8 (6 + wt P) := by
  have := up8_ge (2 + wt P + 4)
  unfold recB pad8
  rw [List.length_append, List.length_append, le_length, recBody_length, List.length_replicate, show 6 + wt P = 2 + wt P + 4 by omega]
  omega
/-- where the k-th change stands in a record -/
def paOff (P : List Pa) (k : Nat) : Nat := 2 + (pasB (P.take k)).length
theorem part_mid (A B C : List UInt8) : part (A ++ (B ++ C)) A.length B.length = B := by
  unfold part
  rw [List.drop_left, List.take_left]
theorem recB_split {P : List Pa} {k : Nat} {p : Pa} (h : P[k]? = some p) : ∃ A C, recB P = A ++ (le p.1 4 ++ (le p.2.length 2 ++ (p.2 ++ C))) ∧ A.length = paOff P k := by
  have hk : k < P.length := (List.getElem?_eq_some_iff.1 h).1
  have hp : P[k] = p := (List.getElem?_eq_some_iff.1 h).2
  have e : P = P.take k ++ p :: P.drop (k + 1) := by
    rw [← hp, List.getElem_cons_drop, List.take_append_drop]
  have eb : pasB P = pasB (P.take k) ++ (paB p ++ pasB (P.drop (k + 1))) := by
    conv => lhs; rw [e]
    unfold pasB
    rw [List.flatMap_append, List.flatMap_cons]
  refine ⟨le P.length 2 ++ pasB (P.take k), pasB (P.drop (k + 1)) ++ (le (crc (recBody P)) 4 ++ pad8 ((recBody P).length + 4)), ?_, ?_⟩
  · unfold recB
    rw [List.append_assoc]
    generalize le (crc (recBody P)) 4 ++ pad8 ((recBody P).length + 4) = T
    have eR : recBody P = le P.length 2 ++ (pasB (P.take k) ++ (paB p ++ pasB (P.drop (k + 1)))) := by
      show le P.length 2 ++ pasB P = _
      rw [eb]
    rw [eR]
    unfold paB
    simp only [List.append_assoc]
  · rw [List.length_append, le_length]
    rfl
theorem paOff_succ {P : List Pa} {k : Nat} {p : Pa} (h : P[k]? = some p) : paOff P (k + 1) = paOff P k + 4 + 2 + p.2.length := by
  unfold paOff
  rw [List.take_add_one, h]
  show 2 + (pasB (P.take k ++ [p])).length = _
  rw [pasB_snoc, List.length_append, paB_length]
  omega
theorem paOff_end (P : List Pa) : paOff P P.length = (recBody P).length := by
  unfold paOff
  rw [List.take_length, recBody_length]
  rfl
theorem paOff_le (P : List Pa) (k : Nat) : paOff P k ≤ 2 + wt P := by
  unfold paOff wt
  have : pasB P = pasB (P.take k) ++ pasB (P.drop k) := by
    unfold pasB
    rw [← List.flatMap_append, List.take_append_drop]
  rw [this, List.length_append]
  omega
theorem getN_mid (A C : List UInt8) (n w : Nat) (hn : n < 256 ^ w) : getN (A ++ (le n w ++ C)) A.length w = n := by
  unfold getN
  have := part_mid A (le n w) C
  unfold part at this
  rw [le_length] at this
  rw [this, unle_le w n hn]
theorem get_mid (A C : List UInt8) (n w : Nat) (hn : n < 256 ^ w) (h63 : n < 9223372036854775808) : getB (A ++ (le n w ++ C)) A.length w = true ∧ get (A ++ (le n w ++ C)) A.length w = n := by
  have h1 := getN_mid A C n w hn
  have h2 : getB (A ++ (le n w ++ C)) A.length w = true := by
    unfold getB
    rw [Int.toNat_natCast, h1]
    simp only [Bool.and_eq_true, decide_eq_true_eq, List.length_append, le_length]
    omega
  refine ⟨h2, ?_⟩
  unfold get
  rw [if_pos h2, Int.toNat_natCast, h1]
end Gd
end Go.Proofs.YtginffdngphjpaaGreatDoor

/- Which blocks are used, in plain words; where parts lie. -/
namespace Go.Proofs.YtginffdngphjpaaGreatDoor
namespace Gd
def bitOf (n : Nat) : Nat := 2 ^ ((n - 1) % 8)
def byteAt (m : List UInt8) (n : Nat) : Nat := (m.getD ((n - 1) / 8) 0).toNat
def usedB (m : List UInt8) (n : Nat) : Bool := byteAt m n &&& bitOf n != 0
def takeB (m : List UInt8) (n : Nat) : List UInt8 := m.set ((n - 1) / 8) (UInt8.ofNat (byteAt m n ||| bitOf n))
def giveB (m : List UInt8) (n : Nat) : List UInt8 := m.set ((n - 1) / 8) (UInt8.ofNat (byteAt m n &&& (255 - bitOf n)))
def isBlk (n : Int) : Bool := decide (1 ≤ n) && decide (n ≤ 128)
def takeI (m : List UInt8) (n : Int) : List UInt8 := if isBlk n then takeB m n.toNat else m
def giveI (m : List UInt8) (n : Int) : List UInt8 := if isBlk n then giveB m n.toNat else m
def usedI (m : List UInt8) (n : Int) : Bool := isBlk n && usedB m n.toNat
def firstFrom (m : List UInt8) : Nat → Nat → Nat
  | 0, _ => 0
  | f + 1, n => if usedB m n then firstFrom m f (n + 1) else n
/-- the first one that is not used; 0: there is none -/
def firstB (m : List UInt8) : Nat := firstFrom m 128 1
def cntF : Nat → Nat → Nat
  | 0, _ => 0
  | f + 1, c => if c = 0 then 0 else 1 + cntF f (c &&& (c - 1))
def cnt (c : Nat) : Nat := cntF 8 c
def countB (m : List UInt8) : Nat := (m.map fun c => cnt c.toNat).sum
theorem cnt_zero : cnt 0 = 0 := rfl
theorem cnt_step : ∀ c : Fin 256, c.val ≠ 0 → cnt c.val = 1 + cnt (c.val &&& (c.val - 1)) := by decide +kernel
theorem cnt_le : ∀ c : Fin 256, cnt c.val ≤ 8 := by decide +kernel
theorem cnt_or : ∀ (c : Fin 256) (b : Fin 8), c.val &&& 2 ^ b.val = 0 → cnt (c.val ||| 2 ^ b.val) = cnt c.val + 1 ∧ c.val ||| 2 ^ b.val < 256 := by decide +kernel
theorem cnt_and : ∀ (c : Fin 256) (b : Fin 8), c.val &&& 2 ^ b.val ≠ 0 → cnt (c.val &&& (255 - 2 ^ b.val)) + 1 = cnt c.val := by decide +kernel
theorem bit_or : ∀ (c : Fin 256) (a b : Fin 8), ((c.val ||| 2 ^ b.val) &&& 2 ^ a.val != 0) = (decide (a = b) || (c.val &&& 2 ^ a.val != 0)) := by decide +kernel
theorem bit_and : ∀ (c : Fin 256) (a b : Fin 8), ((c.val &&& (255 - 2 ^ b.val)) &&& 2 ^ a.val != 0) = (!decide (a = b) && (c.val &&& 2 ^ a.val != 0)) := by decide +kernel
theorem or_lt : ∀ (c : Fin 256) (b : Fin 8), c.val ||| 2 ^ b.val < 256 := by decide +kernel
theorem and_lt : ∀ (c : Fin 256) (b : Fin 8), c.val &&& (255 - 2 ^ b.val) < 256 := by decide +kernel
theorem byteAt_lt (m : List UInt8) (n : Nat) : byteAt m n < 256 := (m.getD ((n - 1) / 8) 0).toNat_lt
theorem bit8 (n : Nat) : (n - 1) % 8 < 8 := Nat.mod_lt _ (by omega)
theorem take_length (m : List UInt8) (n : Nat) : (takeB m n).length = m.length := List.length_set
theorem give_length (m : List UInt8) (n : Nat) : (giveB m n).length = m.length := List.length_set
theorem used_take {m : List UInt8} (hm : m.length = 16) {n k : Nat} (h1 : 1 ≤ n) (h2 : n ≤ 128) (k1 : 1 ≤ k) (k2 : k ≤ 128) : usedB (takeB m n) k = (decide (k = n) || usedB m k) := by
  unfold usedB
  by_cases hb : (k - 1) / 8 = (n - 1) / 8
  · have e : byteAt (takeB m n) k = byteAt m n ||| bitOf n := by
      show ((m.set _ _).getD _ 0).toNat = _
      rw [hb, List.getD_eq_getElem?_getD, List.getElem?_set_self (by omega)]
      have := or_lt ⟨byteAt m n, byteAt_lt m n⟩ ⟨_, bit8 n⟩
      simp only [Option.getD_some, UInt8.toNat_ofNat']
      exact Nat.mod_eq_of_lt this
    have e2 : byteAt m k = byteAt m n := by unfold byteAt; rw [hb]
    rw [e, e2]
    have := bit_or ⟨byteAt m n, byteAt_lt m n⟩ ⟨_, bit8 k⟩ ⟨_, bit8 n⟩
    simp only [Fin.mk.injEq] at this
    rw [show decide (k = n) = decide ((k - 1) % 8 = (n - 1) % 8) by congr 1; apply propext; omega]
    exact this
  · have e : byteAt (takeB m n) k = byteAt m k := by
      show ((m.set _ _).getD _ 0).toNat = _
      rw [List.getD_eq_getElem?_getD, List.getElem?_set_ne (fun e => hb e.symm), ← List.getD_eq_getElem?_getD]
      rfl
    rw [e, decide_eq_false (by intro e; subst e; exact hb rfl), Bool.false_or]
theorem used_give {m : List UInt8} (hm : m.length = 16) {n k : Nat} (h1 : 1 ≤ n) (h2 : n ≤ 128) (k1 : 1 ≤ k) (k2 : k ≤ 128) : usedB (giveB m n) k = (!decide (k = n) && usedB m k) := by
  unfold usedB
  by_cases hb : (k - 1) / 8 = (n - 1) / 8
  · have e : byteAt (giveB m n) k = byteAt m n &&& (255 - bitOf n) := by
      show ((m.set _ _).getD _ 0).toNat = _
      rw [hb, List.getD_eq_getElem?_getD, List.getElem?_set_self (by omega)]
      have := and_lt ⟨byteAt m n, byteAt_lt m n⟩ ⟨_, bit8 n⟩
      simp only [Option.getD_some, UInt8.toNat_ofNat']
      exact Nat.mod_eq_of_lt this
    have e2 : byteAt m k = byteAt m n := by unfold byteAt; rw [hb]
    rw [e, e2]
    have := bit_and ⟨byteAt m n, byteAt_lt m n⟩ ⟨_, bit8 k⟩ ⟨_, bit8 n⟩
    simp only [Fin.mk.injEq] at this
    rw [show decide (k = n) = decide ((k - 1) % 8 = (n - 1) % 8) by congr 1; apply propext; omega]
    exact this
  · have e : byteAt (giveB m n) k = byteAt m k := by
      show ((m.set _ _).getD _ 0).toNat = _
      rw [List.getD_eq_getElem?_getD, List.getElem?_set_ne (fun e => hb e.symm), ← List.getD_eq_getElem?_getD]
      rfl
    rw [e, decide_eq_false (by intro e; subst e; exact hb rfl), Bool.not_false, Bool.true_and]
theorem sum_set : ∀ {m : List Nat} {i : Nat} {c d : Nat}, m[i]? = some c → (m.set i d).sum + c = m.sum + d
  | [], i, c, d, h => by simp at h
  | a :: r, 0, c, d, h => by
    simp at h
    subst h
    simp only [List.set_cons_zero, List.sum_cons]
    omega
  | a :: r, i + 1, c, d, h => by
    have := sum_set (m := r) (i := i) (c := c) (d := d) (by simpa using h)
    simp only [List.set_cons_succ, List.sum_cons]
    omega
theorem count_set {m : List UInt8} (hm : m.length = 16) {n : Nat} (h1 : 1 ≤ n) (h2 : n ≤ 128) {v : Nat} (hv : v < 256) : countB (m.set ((n - 1) / 8) (UInt8.ofNat v)) + cnt (byteAt m n) = countB m + cnt v := by
  unfold countB
  rw [List.map_set]
  have e : (UInt8.ofNat v).toNat = v := by
    rw [UInt8.toNat_ofNat']
    exact Nat.mod_eq_of_lt hv
  rw [e]
  refine sum_set ?_
  rw [List.getElem?_map]
  unfold byteAt
  rw [List.getD_eq_getElem?_getD, List.getElem?_eq_getElem (by omega)]
  rfl
theorem count_take {m : List UInt8} (hm : m.length = 16) {n : Nat} (h1 : 1 ≤ n) (h2 : n ≤ 128) (hu : usedB m n = false) : countB (takeB m n) = countB m + 1 := by
  have := cnt_or ⟨byteAt m n, byteAt_lt m n⟩ ⟨_, bit8 n⟩ (by
    unfold usedB at hu
    simpa [bitOf] using hu)
  have h := count_set hm h1 h2 (v := byteAt m n ||| bitOf n) this.2
  have h3 : cnt (byteAt m n ||| bitOf n) = cnt (byteAt m n) + 1 := this.1
  show countB (m.set _ _) = _
  omega
theorem count_give {m : List UInt8} (hm : m.length = 16) {n : Nat} (h1 : 1 ≤ n) (h2 : n ≤ 128) (hu : usedB m n = true) : countB (giveB m n) + 1 = countB m := by
  have h3 := cnt_and ⟨byteAt m n, byteAt_lt m n⟩ ⟨_, bit8 n⟩ (by
    unfold usedB at hu
    simpa [bitOf] using hu)
  have h := count_set hm h1 h2 (v := byteAt m n &&& (255 - bitOf n)) (and_lt ⟨byteAt m n, byteAt_lt m n⟩ ⟨_, bit8 n⟩)
  have h4 : cnt (byteAt m n &&& (255 - bitOf n)) + 1 = cnt (byteAt m n) := h3
  show countB (m.set _ _) + 1 = _
  omega
theorem firstFrom_in {m : List UInt8} : ∀ {f n : Nat}, n + f = 129 → 1 ≤ n → (firstFrom m f n = 0 ∧ ∀ k, n ≤ k → k ≤ 128 → usedB m k = true) ∨ (n ≤ firstFrom m f n ∧ firstFrom m f n ≤ 128 ∧ usedB m (firstFrom m f n) = false ∧ ∀ k, n ≤ k → k < firstFrom m f n → usedB m k = true)
  | 0, n, h, _ => Or.inl ⟨rfl, fun k h1 h2 => by omega⟩
  | f + 1, n, h, h1 => by
    rw [firstFrom]
    cases hu : usedB m n with
    | true =>
      rw [if_pos rfl]
      rcases firstFrom_in (m := m) (f := f) (n := n + 1) (by omega) (by omega) with ⟨e, ha⟩ | ⟨e1, e2, e3, ha⟩
      · refine Or.inl ⟨e, fun k k1 k2 => ?_⟩
        by_cases hk : k = n
        · rw [hk]; exact hu
        · exact ha k (by omega) k2
      · refine Or.inr ⟨by omega, e2, e3, fun k k1 k2 => ?_⟩
        by_cases hk : k = n
        · rw [hk]; exact hu
        · exact ha k (by omega) k2
    | false =>
      rw [if_neg (by simp)]
      exact Or.inr ⟨Nat.le_refl _, by omega, hu, fun k k1 k2 => by omega⟩
/-- where a part lies: its kind and its number -/
def partAt (kind number : Int) : Option (Nat × Nat) :=
  if kind = 1 then (if number = 0 then some (0, 64) else none)
  else if kind = 2 then (if 1 ≤ number ∧ number ≤ 8 then some (64 + 64 * (number.toNat - 1), 64) else none)
  else if kind = 3 then (if number = 0 then some (576, 64) else none)
  else if kind = 4 then (if 1 ≤ number ∧ number ≤ 32 then some (640 + 64 * (number.toNat - 1), 64) else none)
  else if kind = 5 then (if number = 0 then some (2688, 4096) else none)
  else if kind = 6 then (if 1 ≤ number ∧ number ≤ 8 then some (6784 + 1024 * (number.toNat - 1), 1024) else none)
  else if kind = 7 then (if 1 ≤ number ∧ number ≤ 128 then some (14976 + 64 * (number.toNat - 1), 64) else none)
  else none
end Gd
end Go.Proofs.YtginffdngphjpaaGreatDoor
