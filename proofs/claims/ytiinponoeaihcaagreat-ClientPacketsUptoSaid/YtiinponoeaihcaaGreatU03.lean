/- Walk: the log's records, none. -/
import Derived.Test.YtiinponoeaihcaaGreatU02
import Derived.Test.YtiinponoeaihcaaGreatU00
import Derived.Test.YtiinponoeaihcaaGreatU01
import Derived.Lib.ConvBytes
import Derived.WalkKit
import Derived.Deep.MidRow
import Derived.DeepKeys
import Derived.Test.YtiinponoeaihcaaGreatProg
import Derived.WalkSpells
import Derived.WalkLawsBesides
import Derived.Lib.Hide
import Derived.BigQuiet
import Derived.Deep.QuietTactic
set_option linter.unusedVariables false
set_option linter.unusedSimpArgs false
set_option linter.unusedSectionVars false
namespace Go.Proofs.YtiinponoeaihcaaGreat
open Go.RowKit Go.Shelf

attribute [local go_sem] Oper.semAt_some

end Go.Proofs.YtiinponoeaihcaaGreat

/- Walk: plog.Append, behind no record. -/
namespace Go.Proofs.YtiinponoeaihcaaGreat
open Go.RowKit Go.Shelf

attribute [local go_sem] Oper.semAt_some

end Go.Proofs.YtiinponoeaihcaaGreat

/- Walks: a new transaction, a new log. -/
namespace Go.Proofs.YtiinponoeaihcaaGreat
open Go.RowKit Go.Shelf

attribute [local go_sem] Oper.semAt_some

theorem find_any5 (k m : Int) (w : World) : Calls Tryz.prog 57 #[.int .i64 k, .int .i64 m] w fun e W' => e = .returned (.tuple #[ptO (Gd.ptAt k m), .bool (Gd.ptAt k m).isSome]) ∧ Below w.heap.size w W' := by
  rw [← Gd.findP_at]
  exact callsIn_wide.1 (find_in Fence.wide 6 trivial trivial trivial rfl (by omega) k m w)

end Go.Proofs.YtiinponoeaihcaaGreat

/- Walks: inode's small functions. -/
namespace Go.Proofs.YtiinponoeaihcaaGreat
open Go.RowKit

attribute [local go_sem] Oper.semAt_some

end Go.Proofs.YtiinponoeaihcaaGreat

/- Walks: bits. -/
namespace Go.Proofs.YtiinponoeaihcaaGreat
open Go.RowKit

attribute [local go_sem] Oper.semAt_some

end Go.Proofs.YtiinponoeaihcaaGreat

/- What a commit comes to, in plain words: outside the log the bytes are those with the changes laid over. -/
namespace Go.Proofs.YtiinponoeaihcaaGreat
namespace Gd
theorem fit_len {n m : Nat} {P : List Pa} (h : Fit n P) (e : m = n) : Fit m P := by rw [e]; exact h
theorem view_agree : ∀ {P : List Pa} {S T : List UInt8}, T.length = S.length → Fit S.length P → ∀ i : Nat, S[i]? = T[i]? → (view S P)[i]? = (view T P)[i]?
  | [], S, T, _, _, i, h => h
  | p :: r, S, T, hl, hf, i, h => by
    have hp := hf p (List.mem_cons_self ..)
    have hp2 : p.1 + p.2.length ≤ T.length := by rw [hl]; exact hp
    have h1 := splice_length hp
    have h2 := splice_length hp2
    show (view (splice S p.1 p.2) r)[i]? = (view (splice T p.1 p.2) r)[i]?
    refine view_agree (by rw [h1, h2]; exact hl) (fun q hq => by rw [h1]; exact hf q (List.mem_cons_of_mem _ hq)) i ?_
    rw [splice_get hp, splice_get hp2, h]
theorem fit_take {n : Nat} {P : List Pa} (h : Fit n P) (k : Nat) : Fit n (P.take k) := fun p hp => h p (List.mem_of_mem_take hp)
/-- what a commit leaves -/
def done (S : List UInt8) (P : List Pa) (R : List UInt8) : List UInt8 := splice (view (splice (splice S 2696 R) 2688 (le R.length 8)) P) 2688 (List.replicate 8 0)
theorem logged_length {S R : List UInt8} (hS : S.length = 23168) (hR : R.length ≤ 4088) : (splice (splice S 2696 R) 2688 (le R.length 8)).length = 23168 := by
  rw [splice_length (by rw [splice_length (by omega), le_length]; omega), splice_length (by omega)]
  exact hS
theorem done_length {S R : List UInt8} {P : List Pa} (hS : S.length = 23168) (hR : R.length ≤ 4088) (hP : Fit 23168 P) : (done S P R).length = 23168 := by
  have h1 := logged_length hS hR
  have h2 := view_length (P := P) (S := splice (splice S 2696 R) 2688 (le R.length 8)) (by rw [h1]; exact hP)
  unfold done
  rw [splice_length (by rw [h2, h1, List.length_replicate]; omega), h2, h1]
theorem done_get {S R : List UInt8} {P : List Pa} (hS : S.length = 23168) (hR : R.length ≤ 4088) (hP : Fit 23168 P) (i : Nat) (hi : i < 2688 ∨ 6784 ≤ i) : (done S P R)[i]? = (view S P)[i]? := by
  have h1 := logged_length hS hR
  have h2 := view_length (P := P) (S := splice (splice S 2696 R) 2688 (le R.length 8)) (by rw [h1]; exact hP)
  unfold done
  rw [splice_get (by rw [h2, h1, List.length_replicate]; omega), if_neg (by rw [List.length_replicate]; omega)]
  refine view_agree (by rw [h1]; exact hS) (by rw [h1]; exact hP) i ?_
  rw [splice_get (by rw [splice_length (by omega), le_length]; omega), if_neg (by rw [le_length]; omega), splice_get (by omega), if_neg (by omega)]
theorem done_end {S R : List UInt8} {P : List Pa} (hS : S.length = 23168) (hR : R.length ≤ 4088) (hP : Fit 23168 P) : part (done S P R) 2688 8 = le 0 8 := by
  have h1 := logged_length hS hR
  have h2 := view_length (P := P) (S := splice (splice S 2696 R) 2688 (le R.length 8)) (by rw [h1]; exact hP)
  unfold done
  have := part_splice_same (S := view (splice (splice S 2696 R) 2688 (le R.length 8)) P) (k := 2688) (b := List.replicate 8 0) (by rw [h2, h1, List.length_replicate]; omega)
  rw [List.length_replicate] at this
  rw [this]
  rfl
/-- the log's bytes behind Append -/
theorem logged_end {S R : List UInt8} (hS : S.length = 23168) (hR : R.length ≤ 4088) : part (splice (splice S 2696 R) 2688 (le R.length 8)) 2688 8 = le R.length 8 := by
  have := part_splice_same (S := splice S 2696 R) (k := 2688) (b := le R.length 8) (by rw [splice_length (by omega), le_length]; omega)
  rw [le_length] at this
  exact this
theorem logged_rec {S R : List UInt8} (hS : S.length = 23168) (hR : R.length ≤ 4088) : part (splice (splice S 2696 R) 2688 (le R.length 8)) 2696 R.length = R := by
  rw [part_splice_apart (by rw [splice_length (by omega)]; omega) (by rw [splice_length (by omega), le_length]; omega) (by rw [le_length]; omega)]
  exact part_splice_same (by omega)
end Gd
end Go.Proofs.YtiinponoeaihcaaGreat

/- Walk: a record's changes, redone. -/
namespace Go.Proofs.YtiinponoeaihcaaGreat
open Go.RowKit Go.Shelf

attribute [local go_sem] Oper.semAt_some

/-- a string's bytes, in a row of their own -/
theorem str_bytes (w : World) (L : List UInt8) : ∃ v w', (convert 9 42 (.string ⟨L.toArray⟩)).run Tryz.prog w = .ok v w' ∧ BytesAt w' v L ∧ Below w.heap.size w w' ∧ v.ownBlock = some w.heap.size ∧ ∃ c, v = .slice (some ⟨w.heap.size, 0, none⟩) L.length c := by
  have hs : (⟨L.toArray⟩ : ByteArray).size = L.length := by simp [ByteArray.size]
  refine ⟨_, _, Lib.run_convert_string_bytes w 9 42 5 ⟨L.toArray⟩ Tryz.underlying9 Tryz.underlying42 Tryz.underlying5, ⟨_, _, by rw [hs], Or.inr ⟨_, 0, rfl, by rw [Lib.bytesWorld_size]; omega, fun j x hx => ?_⟩⟩, ⟨rfl, rfl, rfl, by rw [Lib.bytesWorld_size]; omega, fun k hk => Lib.bytesWorld_at_old w _ _ k hk⟩, rfl, _, by rw [hs]⟩
  have hj := (List.getElem?_eq_some_iff.1 hx).1
  rw [Nat.zero_add, Lib.bytesWorld_cell w _ _ j (by rw [hs]; exact hj)]
  simp only [List.getD, hx, Option.getD_some]

/-- blocks that lie apart: below B -/
structure LowAt (m sb lb ab g B : Nat) : Prop where
  m : m < B
  sb : sb < B
  lb : lb < B
  ab : ab < B
  g : g < B
theorem LowAt.mem3 {m sb lb ab g B : Nat} (h : LowAt m sb lb ab g B) {k : Nat} (hk : B ≤ k) : ¬ Mem3 sb lb ab k := by
  rintro (e | e | e)
  · have := h.sb; omega
  · have := h.lb; omega
  · have := h.ab; omega

end Go.Proofs.YtiinponoeaihcaaGreat

/- Walk: the log's records, one, redone. -/
namespace Go.Proofs.YtiinponoeaihcaaGreat
open Go.RowKit Go.Shelf

attribute [local go_sem] Oper.semAt_some

theorem recB_pos (P : List Gd.Pa) : 8 ≤ (Gd.recB P).length := by
  have := Gd.up8_ge (6 + Gd.wt P)
  rw [Gd.recB_length]
  omega

end Go.Proofs.YtiinponoeaihcaaGreat

/- Walk: plog.Redo; txn.Commit. -/
namespace Go.Proofs.YtiinponoeaihcaaGreat
open Go.RowKit Go.Shelf

attribute [local go_sem] Oper.semAt_some

/-- a record of changes that may be, and what it weighs -/
structure PaLight (P : List Gd.Pa) (c : Nat) : Prop where
  many : P.length ≤ c
  len : ∀ p ∈ P, p.2.length ≤ 64
theorem wt_light : ∀ {P : List Gd.Pa}, (∀ p ∈ P, p.2.length ≤ 64) → Gd.wt P ≤ 70 * P.length
  | [], _ => Nat.zero_le _
  | p :: r, h => by
    have h1 := wt_light (P := r) fun q hq => h q (List.mem_cons_of_mem _ hq)
    have h2 := h p (List.mem_cons_self ..)
    unfold Gd.wt Gd.pasB at *
    rw [List.flatMap_cons, List.length_append, Gd.paB_length, List.length_cons]
    omega
theorem PaLight.wt {P : List Gd.Pa} {c : Nat} (h : PaLight P c) : Gd.wt P ≤ 70 * P.length := wt_light h.len
theorem PaLight.fits {P : List Gd.Pa} (h : PaLight P 57) : (Gd.recB P).length ≤ 4088 := by
  have h1 := h.wt
  have h2 := h.many
  have h3 := Gd.up8_ge (6 + Gd.wt P)
  rw [Gd.recB_length]
  unfold Gd.up8 at *
  omega

namespace Gd
/-- the memory behind a commit -/
def doneS (S : List UInt8) (P : List Pa) : List UInt8 := splice (view (splice (splice S 2696 (recB P)) 2688 (le (recB P).length 8)) P) 2688 (List.replicate 8 0)
end Gd
end Go.Proofs.YtiinponoeaihcaaGreat

/- Walk: a new memory. -/
namespace Go.Proofs.YtiinponoeaihcaaGreat
open Go.RowKit Go.Shelf Go.Maps

attribute [local go_sem] Oper.semAt_some

theorem made_zeros (n : Nat) : madeCells (Value.agg #[.int .u8 0, .int .u8 0, .int .u8 0, .int .u8 0, .int .u8 0, .int .u8 0, .int .u8 0, .int .u8 0]).cells n = cellsB (List.replicate n 0) := by
  have hc : (Value.agg #[.int .u8 0, .int .u8 0, .int .u8 0, .int .u8 0, .int .u8 0, .int .u8 0, .int .u8 0, .int .u8 0]).cells = Array.replicate 8 (.int .u8 0) := by kernel_rfl
  rw [hc]
  unfold madeCells cellsB Lib.byteCells
  apply Array.ext
  · simp
  · intro i h1 h2
    simp only [Array.getElem_map, Array.getElem_range, List.getElem_toArray, List.getElem_map, List.getElem_replicate]
    rw [getElem!_pos _ _ (by simp; omega)]
    simp
theorem alloc4 (w : World) (a b c d : Obj) : ((((w.alloc a).alloc b).alloc c).alloc d).drew.heap[w.heap.size]? = some a ∧ ((((w.alloc a).alloc b).alloc c).alloc d).drew.heap[w.heap.size + 1]? = some b ∧ ((((w.alloc a).alloc b).alloc c).alloc d).drew.heap[w.heap.size + 1 + 1]? = some c ∧ ((((w.alloc a).alloc b).alloc c).alloc d).drew.heap[w.heap.size + 1 + 1 + 1]? = some d := by
  have hk : ∀ (W : World) (o : Obj) (k : Nat), k < W.heap.size → (W.alloc o).heap[k]? = W.heap[k]? := fun W o k h => ((Below.refl W.heap.size W).alloc (Nat.le_refl _) o).block k h
  have hd : ∀ (W : World) (k : Nat), W.drew.heap[k]? = W.heap[k]? := fun _ _ => rfl
  have n1 : (w.alloc a).heap.size = w.heap.size + 1 := by simp
  have n2 : ((w.alloc a).alloc b).heap.size = w.heap.size + 1 + 1 := by simp
  have n3 : (((w.alloc a).alloc b).alloc c).heap.size = w.heap.size + 1 + 1 + 1 := by simp
  have e1 := heap_alloc_new w a
  have e2 := heap_alloc_new (w.alloc a) b
  have e3 := heap_alloc_new ((w.alloc a).alloc b) c
  have e4 := heap_alloc_new (((w.alloc a).alloc b).alloc c) d
  rw [n1] at e2
  rw [n2] at e3
  rw [n3] at e4
  refine ⟨?_, ?_, ?_, ?_⟩
  · rw [hd, hk _ _ _ (by omega), hk _ _ _ (by omega), hk _ _ _ (by omega)]
    exact e1
  · rw [hd, hk _ _ _ (by omega), hk _ _ _ (by omega)]
    exact e2
  · rw [hd, hk _ _ _ (by omega)]
    exact e3
  · rw [hd]
    exact e4
theorem below4 (w : World) (a b c d : Obj) : Below w.heap.size w ((((w.alloc a).alloc b).alloc c).alloc d).drew :=
  (((((Below.refl w.heap.size w).alloc (Nat.le_refl _) a).alloc (by simp) b).alloc (by simp; omega) c).alloc (by simp; omega) d).drew
end Go.Proofs.YtiinponoeaihcaaGreat

/- Walks: bits: a block's byte and bit. -/
namespace Go.Proofs.YtiinponoeaihcaaGreat
open Go.RowKit

attribute [local go_sem] Oper.semAt_some

theorem and7 : ∀ k : Fin 128, bits .and .i64 (k.val : Int) 7 = ((k.val % 8 : Nat) : Int) := by decide +kernel
theorem shl8 : ∀ b : Fin 8, IntKind.u8.wrap ((2 : Int) ^ min b.val 8) = ((2 ^ b.val : Nat) : Int) := by decide +kernel

end Go.Proofs.YtiinponoeaihcaaGreat

/- Great rows as values: rows that are loaded, stored, handed back whole. -/
namespace Go.Proofs.YtiinponoeaihcaaGreat
open Go.RowKit

/-- so many cells of a row, from a place on -/
def putCells2 : Array Value → Nat → List Value → Array Value
  | C, _, [] => C
  | C, o, v :: r => putCells2 (C.setIfInBounds o v) (o + 1) r
theorem setCells_heap2 (b : Nat) (t : TypeId) : ∀ (vs : List Value) (o : Nat) (w : World) (C : Array Value), w.heap[b]? = some (.cells C t (0, 0)) → (w.setCells b o vs).heap[b]? = some (.cells (putCells2 C o vs) t (0, 0))
  | [], _, _, _, h => h
  | v :: r, o, w, C, h => by
    rw [World.setCells, putCells2]
    exact setCells_heap2 b t r (o + 1) _ _ (Go.heap_setCell_same w b o C t v h)
theorem setCells_below2 {B b : Nat} (hb : B ≤ b) : ∀ (vs : List Value) (o : Nat) (a w : World), Below B a w → Below B a (w.setCells b o vs)
  | [], _, _, _, h => h
  | v :: r, o, a, w, h => by
    rw [World.setCells]
    exact setCells_below2 hb r (o + 1) a _ (h.setCell hb v)
theorem putCells2_toList : ∀ (vs : List Value) (o : Nat) (C : Array Value), o + vs.length ≤ C.size → (putCells2 C o vs).toList = C.toList.take o ++ vs ++ C.toList.drop (o + vs.length)
  | [], o, C, _ => by
    rw [putCells2, List.append_nil]
    exact (List.take_append_drop o C.toList).symm
  | v :: r, o, C, h => by
    rw [List.length_cons] at h
    have hl : o < C.toList.length := by simp; omega
    rw [putCells2, putCells2_toList r (o + 1) _ (by rw [Array.size_setIfInBounds]; omega), Array.toList_setIfInBounds, List.length_cons]
    rw [List.drop_set_of_lt (by omega), show o + 1 + r.length = o + (r.length + 1) by omega, List.take_set, List.take_add_one, List.getElem?_eq_getElem hl]
    rw [List.set_append_right _ _ (by rw [List.length_take]; omega)]
    rw [List.length_take, Nat.min_eq_left (Nat.le_of_lt hl), Nat.sub_self]
    simp
theorem putCells2_all {C : Array Value} {vs : List Value} (h : C.size = vs.length) : putCells2 C 0 vs = vs.toArray := by
  have := putCells2_toList vs 0 C (by omega)
  rw [List.take_zero, List.nil_append, Nat.zero_add, List.drop_eq_nil_of_le (by simp; omega), List.append_nil] at this
  rw [← Array.toList_inj, this]
/-- a block that lies there may be written -/
theorem there_at {w : World} {b t n : Nat} {C : Array Value} (hg : w.heap[b]? = some (.cells C t (0, 0))) (h : C.size = n) : w.there b 0 n := fun j hj => by
  rw [Nat.zero_add]
  refine ⟨?_, frozen_of_row _ _ _ _ t hg⟩
  have : C[j]? = some C[j] := Array.getElem?_eq_getElem (by omega)
  rw [cell_of_row _ _ j C t _ hg, this]
  rfl
/-- a variable, stored whole -/
theorem whole_at {w : World} {b t B : Nat} {C : Array Value} {vs : List Value} (hg : w.heap[b]? = some (.cells C t (0, 0))) (h : C.size = vs.length) (hB : B ≤ b) :
    Below B w (w.setCells b 0 vs) ∧ (w.setCells b 0 vs).heap[b]? = some (.cells vs.toArray t (0, 0)) := by
  refine ⟨setCells_below2 hB vs 0 w _ (Below.refl _ w), ?_⟩
  rw [setCells_heap2 _ t vs 0 _ C hg, putCells2_all h]
/-- a function with two results, the first a row -/
theorem results_row_tmp {P : Program} {fn : Func} {p u : Tmp} {ty : TypeId} (h : fn.results = #[.cell p ty, .tmp u]) (tmps : Array Value) (w : World) (g : Nat) (t : TypeId) (cs : Array Value) (fr : Nat × Nat) (d : TypeDesc)
    (hp : tmps.getD p undef = .pointer (some ⟨g, 0, none⟩)) (hg : w.heap[g]? = some (.cells cs t fr))
    (hu : P.underlying ty = some d) (hd : (match d with | .struct _ | .array _ _ => true | _ => false) = true) (hi : (P.info? ty).map (·.size) = some cs.size) :
    (results fn tmps).run P w = .ok (.tuple #[.agg cs, tmps.getD u undef]) w := by
  have hp' : tmps[p]?.getD undef = .pointer (some ⟨g, 0, none⟩) := by simpa using hp
  simp [results, h, hp', asAddr, run_loadVar_row w g t ty cs fr d hg hu hd hi]

end Go.Proofs.YtiinponoeaihcaaGreat

/- Walks: which blocks are used: maps as values; Used. -/
namespace Go.Proofs.YtiinponoeaihcaaGreat
open Go.RowKit

attribute [local go_sem] Oper.semAt_some

theorem and8 : ∀ (c : Fin 256) (b : Fin 8), bits .and .u8 (c.val : Int) ((2 ^ b.val : Nat) : Int) = ((c.val &&& 2 ^ b.val : Nat) : Int) := by decide +kernel
theorem or8 : ∀ (c : Fin 256) (b : Fin 8), bits .or .u8 (c.val : Int) ((2 ^ b.val : Nat) : Int) = ((c.val ||| 2 ^ b.val : Nat) : Int) := by decide +kernel
theorem andNot8 : ∀ (c : Fin 256) (b : Fin 8), bits .andNot .u8 (c.val : Int) ((2 ^ b.val : Nat) : Int) = ((c.val &&& (255 - 2 ^ b.val) : Nat) : Int) := by decide +kernel
theorem less8 : ∀ c : Fin 256, c.val ≠ 0 → bits .and .u8 (c.val : Int) (IntKind.u8.wrap ((c.val : Int) - 1)) = ((c.val &&& (c.val - 1) : Nat) : Int) := by decide +kernel
def mapV (m : List UInt8) : Value := .agg (cellsB m)
theorem map_get {m : List UInt8} (hm : m.length = 16) {n : Nat} (h1 : 1 ≤ n) (h2 : n ≤ 128) : ∃ x, m[(n - 1) / 8]? = some x ∧ x.toNat = Gd.byteAt m n := by
  refine ⟨_, List.getElem?_eq_getElem (by omega), ?_⟩
  unfold Gd.byteAt
  rw [List.getD_eq_getElem?_getD, List.getElem?_eq_getElem (by omega)]
  rfl

theorem cellsB_one (m : List UInt8) : (cellsB m).all (·.oneCell') = true := by
  unfold cellsB
  rw [Array.all_eq_true_iff_forall_mem]
  intro u hu
  exact byteCells_one m u (by simpa using hu)

end Go.Proofs.YtiinponoeaihcaaGreat

/- Walks: which blocks are used: the first free one, how many, bytes and back. -/
namespace Go.Proofs.YtiinponoeaihcaaGreat
open Go.RowKit

attribute [local go_sem] Oper.semAt_some

theorem cellsB_len {m : List UInt8} (hm : m.length = 16) : (cellsB m).size = 16 := by unfold cellsB; rw [List.size_toArray, byteCells_len]; exact hm
theorem below_new (w : World) (C : Array Value) (t : TypeId) : Below w.heap.size w (w.alloc (.cells C t)) ∧ (w.alloc (.cells C t)).heap[w.heap.size]? = some (.cells C t (0, 0)) := ⟨(Below.refl _ _).alloc (Nat.le_refl _) _, heap_alloc_new _ _⟩

theorem run_index_one {P : Program} (t e : TypeId) (n : Nat) (cs : Array Value) (k q : IntKind) (i : Nat) (v : Value) (w : World) (h : P.underlying t = some (.array n e)) (he : P.underlying e = some (.int q)) (hs : (P.info? e).map (·.size) = some 1) (hi : i < n) (hv : cs[i]? = some v) :
    (Instr.index t (.agg cs) (.int k (i : Int))).run P w = .ok v w := by
  have hn : (0 : Int) ≤ i ∧ (i : Int) < (n : Int) := by omega
  cases hq : P.info? e with
  | none => simp [hq] at hs
  | some j =>
    have hj : j.size = 1 := by simpa [hq] using hs
    simp [Instr.index, run_underlying h, asIntOf, hn, part, isAgg, run_underlying he, sizeOf, typeInfo, hq, hj, hv, go_sem]
    intro hh
    omega

def cntTo (m : List UInt8) (i : Nat) : Nat := ((m.take i).map fun c => Gd.cnt c.toNat).sum
theorem cntTo_next {m : List UInt8} {i : Nat} {x : UInt8} (h : m[i]? = some x) : cntTo m (i + 1) = cntTo m i + Gd.cnt x.toNat := by
  unfold cntTo
  rw [List.take_add_one, h]
  simp
theorem cntTo_le (m : List UInt8) (i : Nat) : cntTo m i ≤ 8 * i := by
  induction i with
  | zero => simp [cntTo]
  | succ i ih =>
    cases hx : m[i]? with
    | none =>
      have : m.take (i + 1) = m.take i := by rw [List.take_add_one, hx]; simp
      unfold cntTo at *
      rw [this]
      omega
    | some x =>
      rw [cntTo_next hx]
      have := Gd.cnt_le ⟨x.toNat, x.toNat_lt⟩
      dsimp only at this
      omega

end Go.Proofs.YtiinponoeaihcaaGreat

/- Walks: inodes as values; which may be. -/
namespace Go.Proofs.YtiinponoeaihcaaGreat
open Go.RowKit

attribute [local go_sem] Oper.semAt_some

def intC (L : List Int) : List Value := L.map fun n => Value.int .i64 n
def inoL (x : Gd.Ino) : List Int := x.k :: x.l :: x.s :: (x.B ++ x.O)
def inoC (x : Gd.Ino) : Array Value := (intC (inoL x)).toArray
def inoV (x : Gd.Ino) : Value := .agg (inoC x)
theorem Tryz.sizeIno : (Tryz.prog.info? 39).map (fun i => i.size) = some 15 := by kernel_rfl
theorem Tryz.size4 : (Tryz.prog.info? 36).map (fun i => i.size) = some 4 := by kernel_rfl
theorem Tryz.size8 : (Tryz.prog.info? 37).map (fun i => i.size) = some 8 := by kernel_rfl
theorem Tryz.infoInts : (Tryz.prog.info? 3).map (·.size) = some 1 := by kernel_rfl
theorem intC_len (L : List Int) : (intC L).length = L.length := List.length_map ..
theorem intC_get {L : List Int} {j : Nat} {n : Int} (h : L[j]? = some n) : (intC L)[j]? = some (.int .i64 n) := by
  unfold intC
  rw [List.getElem?_map, h]
  rfl
theorem intC_one (L : List Int) : ∀ u ∈ intC L, u.oneCell' = true := by
  intro u hu
  unfold intC at hu
  obtain ⟨n, _, rfl⟩ := List.mem_map.1 hu
  rfl
theorem inoL_len {x : Gd.Ino} (h : x.Shape) : (inoL x).length = 15 := by
  unfold inoL
  simp only [List.length_cons, List.length_append, h.1, h.2]
theorem inoC_size {x : Gd.Ino} (h : x.Shape) : (inoC x).size = 15 := by
  unfold inoC
  rw [List.size_toArray, intC_len, inoL_len h]
theorem inoC_one (x : Gd.Ino) : (inoC x).all (·.oneCell') = true := all_oneCell_toArray (intC_one _)
theorem inoC_get {x : Gd.Ino} {j : Nat} {n : Int} (h : (inoL x)[j]? = some n) : (inoC x)[j]? = some (.int .i64 n) := by
  unfold inoC
  rw [List.getElem?_toArray]
  exact intC_get h
/-- an inode in a variable of its own -/
structure InoAt (w : World) (b : Nat) (x : Gd.Ino) : Prop where
  row : w.heap[b]? = some (.cells (inoC x) 39 (0, 0))
  shape : x.Shape
theorem InoAt.c0 {w : World} {b : Nat} {x : Gd.Ino} (h : InoAt w b x) : w.cell? ⟨b, 0, none⟩ = some (.int .i64 x.k) := (cell_of_row w b 0 _ _ _ h.row).trans (inoC_get rfl)
theorem InoAt.c1 {w : World} {b : Nat} {x : Gd.Ino} (h : InoAt w b x) : w.cell? ⟨b, 1, none⟩ = some (.int .i64 x.l) := (cell_of_row w b 1 _ _ _ h.row).trans (inoC_get rfl)
theorem InoAt.c2 {w : World} {b : Nat} {x : Gd.Ino} (h : InoAt w b x) : w.cell? ⟨b, 2, none⟩ = some (.int .i64 x.s) := (cell_of_row w b 2 _ _ _ h.row).trans (inoC_get rfl)
theorem InoAt.blocks {w : World} {b : Nat} {x : Gd.Ino} (h : InoAt w b x) : w.rangeAt b 3 (intC x.B) := fun j v hv => by
  unfold intC at hv
  rw [List.getElem?_map] at hv
  obtain ⟨n, hn, rfl⟩ := Option.map_eq_some_iff.1 hv
  have hj := (List.getElem?_eq_some_iff.1 hn).1
  refine (cell_of_row w b (3 + j) _ _ _ h.row).trans (inoC_get ?_)
  rw [show 3 + j = j + 3 by omega]
  show (x.B ++ x.O)[j]? = some n
  rw [List.getElem?_append_left hj]
  exact hn
theorem InoAt.opens {w : World} {b : Nat} {x : Gd.Ino} (h : InoAt w b x) : w.rangeAt b 7 (intC x.O) := fun j v hv => by
  unfold intC at hv
  rw [List.getElem?_map] at hv
  obtain ⟨n, hn, rfl⟩ := Option.map_eq_some_iff.1 hv
  have hB := h.shape.1
  refine (cell_of_row w b (7 + j) _ _ _ h.row).trans (inoC_get ?_)
  rw [show 7 + j = (4 + j) + 3 by omega]
  show (x.B ++ x.O)[4 + j]? = some n
  rw [List.getElem?_append_right (by omega), hB, show 4 + j - 4 = j by omega]
  exact hn
theorem InoAt.keep {w w' : World} {b : Nat} {x : Gd.Ino} (h : InoAt w b x) (hb : Below w.heap.size w w') : InoAt w' b x := ⟨(hb.block b (lt_get h.row)).trans h.row, h.shape⟩
theorem InoAt.range {w : World} {b : Nat} {x : Gd.Ino} (h : InoAt w b x) : w.rangeAt b 0 (intC (inoL x)) := fun j v hv => by
  rw [Nat.zero_add, cell_of_row w b j _ _ _ h.row]
  unfold inoC
  rw [List.getElem?_toArray]
  exact hv
theorem ino_box (w : World) {x : Gd.Ino} (h : x.Shape) : InoAt (w.alloc (.cells (inoC x) 39)) w.heap.size x ∧ Below w.heap.size w (w.alloc (.cells (inoC x) 39)) := ⟨⟨heap_alloc_new _ _, h⟩, (Below.refl _ _).alloc (Nat.le_refl _) _⟩
/-- numbers that fit -/
def AllI (L : List Int) : Prop := ∀ n ∈ L, I64 n
theorem opnB_take {most : Int} {O : List Int} {i : Nat} {n : Int} (h : O[i]? = some n) : Gd.opnB most (O.take (i + 1)) = (Gd.opnB most (O.take i) && (decide (0 ≤ n) && decide (n ≤ most))) := by
  unfold Gd.opnB
  rw [List.take_add_one, h, List.all_append]
  simp
theorem opnB_bad {most : Int} {O : List Int} {i : Nat} {n : Int} (h : O[i]? = some n) (hb : (decide (0 ≤ n) && decide (n ≤ most)) = false) : Gd.opnB most O = false := by
  unfold Gd.opnB
  rw [List.all_eq_false]
  exact ⟨n, List.mem_of_getElem? h, by rw [hb]; simp⟩

/-- what is asked of one block's number -/
def blkOk (kind size : Int) (k : Nat) (had : List Int) (b : Int) : Bool := (decide (0 ≤ b) && decide (b ≤ 128)) && !(decide (0 < b) && had.contains b) && !(decide (kind = 1) && (decide (0 < b) != decide ((64 * k : Int) < size)))
theorem blkB_cons (kind size : Int) (k : Nat) (had : List Int) (b : Int) (r : List Int) : Gd.blkB kind size k had (b :: r) = (blkOk kind size k had b && Gd.blkB kind size (k + 1) (had ++ [b]) r) := rfl

end Go.Proofs.YtiinponoeaihcaaGreat

/- Walks: inodes that are compared; May. -/
namespace Go.Proofs.YtiinponoeaihcaaGreat
open Go.RowKit

attribute [local go_sem] Oper.semAt_some

theorem Tryz.cells4 : Tryz.prog.cellsOf 36 = 4 := by kernel_rfl
theorem Tryz.cells8 : Tryz.prog.cellsOf 37 = 8 := by kernel_rfl
theorem Tryz.cells1 : Tryz.prog.cellsOf 3 = 1 := by kernel_rfl
theorem Tryz.cells15 : Tryz.prog.cellsOf 39 = 15 := by kernel_rfl
theorem Tryz.inoKey : Tryz.prog.keyTypeAt 3 39 = true := by kernel_rfl
theorem int_key {n : Int} (h : I64 n) : Tryz.prog.keyLits 1 3 [.int .i64 n] = some [.int .i64 n] := by
  unfold I64 at h
  unfold Program.keyLits
  simp [Tryz.underlying3, h]
theorem int_items {L : List Int} (h : AllI L) (n : Nat) (hn : L.length = n) : (List.range n).mapM (fun i => Tryz.prog.keyLits 1 3 (((intC L).drop (i * Tryz.prog.cellsOf 3)).take (Tryz.prog.cellsOf 3))) = some ((List.range n).map fun i => [Lit.int .i64 (L.getD i 0)]) := by
  refine mapM_all _ _ _ fun i hi => ?_
  have hi' : i < L.length := by rw [hn]; simpa using hi
  rw [Tryz.cells1, Nat.mul_one]
  have hb : (intC L)[i]? = some (.int .i64 L[i]) := intC_get (List.getElem?_eq_getElem hi')
  have hl : i < (intC L).length := (List.getElem?_eq_some_iff.1 hb).1
  rw [List.drop_eq_getElem_cons hl, List.take_succ_cons, List.take_zero, (List.getElem?_eq_some_iff.1 hb).2, List.getD_eq_getElem?_getD, List.getElem?_eq_getElem hi']
  exact int_key (h _ (List.getElem_mem hi'))
theorem range_getI (L : List Int) (n : Nat) (hn : L.length = n) : ((List.range n).map fun i => [Lit.int .i64 (L.getD i 0)]).flatten = L.map (Lit.int .i64) := by
  rw [flatten_one]
  subst hn
  apply List.ext_getElem?
  intro i
  rw [List.getElem?_map, List.getElem?_map]
  by_cases hi : i < L.length
  · rw [List.getElem?_range hi, List.getElem?_eq_getElem hi]
    simp [List.getD_eq_getElem?_getD, List.getElem?_eq_getElem hi]
  · rw [List.getElem?_eq_none (by simpa using hi), List.getElem?_eq_none (by omega)]
    rfl
theorem key4 {L : List Int} (h : AllI L) (hn : L.length = 4) : Tryz.prog.keyLits 2 36 (intC L) = some (L.map (Lit.int .i64)) := by
  unfold Program.keyLits
  rw [Tryz.underlying36]
  simp only [intC_len, hn, Tryz.cells4, if_true]
  rw [int_items h 4 hn, Option.map_some, range_getI L 4 hn]
theorem key8 {L : List Int} (h : AllI L) (hn : L.length = 8) : Tryz.prog.keyLits 2 37 (intC L) = some (L.map (Lit.int .i64)) := by
  unfold Program.keyLits
  rw [Tryz.underlying37]
  simp only [intC_len, hn, Tryz.cells8, if_true]
  rw [int_items h 8 hn, Option.map_some, range_getI L 8 hn]
theorem int_key2 {n : Int} (h : I64 n) : Tryz.prog.keyLits 2 3 [.int .i64 n] = some [.int .i64 n] := by
  unfold I64 at h
  unfold Program.keyLits
  simp [Tryz.underlying3, h]
deriving instance DecidableEq for Gd.Ino
theorem ino_lits {x : Gd.Ino} (hs : x.Shape) (hI : AllI (inoL x)) : Tryz.prog.keyLits 3 39 (intC (inoL x)) = some ((inoL x).map (Lit.int .i64)) := by
  unfold Program.keyLits
  rw [Tryz.underlying39]
  have hc : intC (inoL x) = .int .i64 x.k :: .int .i64 x.l :: .int .i64 x.s :: (intC x.B ++ intC x.O) := by simp [intC, inoL]
  have e3 : ((intC (inoL x)).drop 3).take 4 = intC x.B := by
    rw [hc]
    show (intC x.B ++ intC x.O).take 4 = _
    exact List.take_left' (by rw [intC_len]; exact hs.1)
  have e7 : ((intC (inoL x)).drop 7).take 8 = intC x.O := by
    rw [hc]
    show ((intC x.B ++ intC x.O).drop 4).take 8 = _
    rw [List.drop_left' (by rw [intC_len]; exact hs.1), List.take_of_length_le (by rw [intC_len, hs.2]; omega)]
  have e0 : ((intC (inoL x)).drop 0).take 1 = [.int .i64 x.k] := by rw [hc]; rfl
  have e1 : ((intC (inoL x)).drop 1).take 1 = [.int .i64 x.l] := by rw [hc]; rfl
  have e2 : ((intC (inoL x)).drop 2).take 1 = [.int .i64 x.s] := by rw [hc]; rfl
  have k0 := int_key2 (hI x.k (by simp [inoL]))
  have k1 := int_key2 (hI x.l (by simp [inoL]))
  have k2 := int_key2 (hI x.s (by simp [inoL]))
  have k3 := key4 (L := x.B) (fun n h => hI n (by simp [inoL, h])) hs.1
  have k4 := key8 (L := x.O) (fun n h => hI n (by simp [inoL, h])) hs.2
  simp only [intC_len, inoL_len hs, Tryz.cells15, true_and]
  rw [if_pos (by kernel_rfl)]
  simp only [List.mapM_cons, List.mapM_nil, Tryz.cells1, Tryz.cells4, Tryz.cells8, e0, e1, e2, e3, e7, k0, k1, k2, k3, k4]
  simp [inoL]
theorem ino_formed {x : Gd.Ino} (hs : x.Shape) : (inoV x).formed Tryz.prog 39 = true := by
  unfold inoV Value.formed
  rw [Tryz.underlying39]
  simp [inoC_size hs, Tryz.cells15]
set_option maxRecDepth 100000 in
/-- two inodes are the same just if their numbers are -/
theorem ino_eq {x y : Gd.Ino} (hx : x.Shape) (hy : y.Shape) (hxI : AllI (inoL x)) (hyI : AllI (inoL y)) (w : World) : (Op.equal 39 (inoV x) (inoV y)).run Tryz.prog w = .ok (decide (x = y)) w := by
  obtain ⟨r, hr, hiff⟩ := run_equalIn_deep (P := Tryz.prog) 9997 3 39 Tryz.inoKey w 3 3 (inoV x) (inoV y) _ _ (ino_formed hx) (ino_formed hy) (ino_lits hx hxI) (ino_lits hy hyI)
  refine hr.trans ?_
  congr 1
  rw [Bool.eq_iff_iff, hiff, decide_eq_true_iff]
  constructor
  · intro h
    have h2 := (List.map_inj_right (fun a b e => (Lit.int.inj e).2)).1 h
    obtain ⟨k, l, s, B, O⟩ := x
    obtain ⟨k', l', s', B', O'⟩ := y
    simp only [inoL, List.cons.injEq] at h2
    obtain ⟨rfl, rfl, rfl, h3⟩ := h2
    obtain ⟨rfl, rfl⟩ := List.append_inj h3 (by rw [hx.1, hy.1])
    rfl
  · intro h
    rw [h]
theorem ino_eql {x y : Gd.Ino} (hx : x.Shape) (hy : y.Shape) (hxI : AllI (inoL x)) (hyI : AllI (inoL y)) (w : World) : (binOp .eql 39 (inoV x) (inoV y)).run Tryz.prog w = .ok (.bool (decide (x = y))) w := by
  have h := ino_eq hx hy hxI hyI w
  unfold inoV at h ⊢
  simp [binOp, h]
theorem ino_neq {x y : Gd.Ino} (hx : x.Shape) (hy : y.Shape) (hxI : AllI (inoL x)) (hyI : AllI (inoL y)) (w : World) : (binOp .neq 39 (inoV x) (inoV y)).run Tryz.prog w = .ok (.bool (!decide (x = y))) w := by
  have h := ino_eq hx hy hxI hyI w
  unfold inoV at h ⊢
  simp [binOp, h]
theorem noIno_shape : Gd.noIno.Shape := ⟨rfl, rfl⟩
theorem noIno_all : AllI (inoL Gd.noIno) := fun n h => by
  have : n = 0 := by simp [inoL, Gd.noIno] at h; exact h
  rw [this]
  rfl
/-- which may be, without a kind: none but the empty one -/
theorem mayI_none {x : Gd.Ino} (hs : x.Shape) (hk : x.k = 0) : Gd.mayI x = decide (x = Gd.noIno) := by
  rw [Bool.eq_iff_iff, decide_eq_true_iff]
  constructor
  · intro h
    exact Gd.mayI_zero hs h hk
  · intro h
    rw [h]
    rfl

theorem Tryz.noGuard : Tryz.prog.eqGuardType Tryz.prog.depth 39 = false := by kernel_rfl
theorem ino_guard (o : BinOp) (x y : Operand) (cs ds : Array Value) (w : World) : (eqGuard o 39 x y (.agg cs) (.agg ds)).run Tryz.prog w = .ok () w := by
  have hp : ∀ w : World, (Sem.program Sem.pure : Sem Program).run Tryz.prog w = .ok Tryz.prog w := fun _ => rfl
  simp only [eqGuard]
  cases o <;> simp [program, hp, Tryz.noGuard]
theorem InoAt.load {w : World} {b : Nat} {x : Gd.Ino} (h : InoAt w b x) : (Instr.loadAt 39 (.pointer (some ⟨b, 0, none⟩))).run Tryz.prog w = .ok (.agg (inoC x)) w := by
  have := run_loadAt_mid (P := Tryz.prog) w b 0 39 (intC (inoL x)) _ h.range Tryz.underlying39 rfl (by rw [intC_len, inoL_len h.shape]; exact Tryz.sizeIno)
  exact this
/-- a guarded load that is wanted -/
theorem wpList_load_guarded {P : Program} {ops : Array Oper} {rest : List Oper} {op : Oper} {a : Act} {w : World} {Q : Exit → Act → World → Prop} (i : Nat) (b : Bool) (hgd : op.guard = some (i, b)) (hw : Region.wanted op (yielded ops a.tmps) = true) (ty : TypeId) (x : Operand) (ho : op.op = .load ty x) (p v : Value) (hx : a.eval x = p)
    (hr : (Instr.loadAt ty p).run P w = .ok v w) (h : wpList P ops Q rest (a.put op.dst v) w) : wpList P ops Q (op :: rest) a w :=
  wpList_step fun K hK => by
    rw [if_pos hw]
    unfold Oper.wp execOp
    simp only [ho, hx, Sem.run_bind, Sem.run_pure, hr, Result.andThen_ok]
    exact hK _ _ h
/-- an operation on two values whose outcome is known -/
theorem wpList_bin {P : Program} {ops : Array Oper} {rest : List Oper} {op : Oper} {a : Act} {w : World} {Q : Exit → Act → World → Prop} (hgd : op.guard = none) (o : BinOp) (t ty : TypeId) (x y : Operand) (ho : op.op = .binOp o t x y ty) (u v r : Value) (hx : a.eval x = u) (hy : a.eval y = v)
    (hq : (eqGuard o t x y u v).run P w = .ok () w) (hr : (binOp o t u v).run P w = .ok r w) (h : wpList P ops Q rest (a.put op.dst r) w) : wpList P ops Q (op :: rest) a w :=
  wpList_plain hgd fun _ hK => by
    unfold Oper.wp execOp
    simp only [ho, hx, hy, Sem.run_bind, Sem.run_pure, hq, hr, Result.andThen_ok]
    exact hK _ _ h

end Go.Proofs.YtiinponoeaihcaaGreat

/- Walks: an inode as bytes. -/
namespace Go.Proofs.YtiinponoeaihcaaGreat
open Go.RowKit

attribute [local go_sem] Oper.semAt_some

set_option maxRecDepth 100000 in
theorem made_bytes (n : Nat) (hn : n ≤ 100000) (W : World) : (Instr.makeSlice 42 (.int .i64 n) (.int .i64 n)).run Tryz.prog W = .ok (.slice (some ⟨W.heap.size, 0, none⟩) n n) (W.alloc (.cells (cellsB (List.replicate n 0)) 5)) := by
  obtain ⟨i0, hi, hz0, hz1, hz2⟩ := info_parts Tryz.infoU8
  have := run_makeSlice (P := Tryz.prog) (w := W) 42 5 i0 _ Tryz.underlying42 hi hz0 .i64 .i64 n n (by omega) (by omega) (by rw [hz1, Int.toNat_natCast]; omega) (by rw [hz2]; omega) (by omega)
  rw [hz1, Int.toNat_natCast, Nat.mul_one] at this
  rw [this]
  congr 3
  unfold madeCells cellsB Lib.byteCells
  apply Array.ext
  · simp
  · intro i h1 h2
    simp only [Array.getElem_map, Array.getElem_range, List.getElem_toArray, List.getElem_map, List.getElem_replicate]
    have hc : (Value.int .u8 0).cells = #[.int .u8 0] := rfl
    rw [hc, getElem!_pos _ _ (by simp; omega)]
    simp
theorem own_made (W : World) (n : Nat) (hn : n ≤ 100000) (B : Nat) (hB : B ≤ W.heap.size) : OwnB (W.alloc (.cells (cellsB (List.replicate n 0)) 5)) B (.slice (some ⟨W.heap.size, 0, none⟩) n n) (List.replicate n 0) := by
  refine ⟨by rw [byteCells_len, Nat.mul_one], Or.inr ⟨W.heap.size, n, cellsB (List.replicate n 0), by rw [List.length_replicate], hB, heap_alloc_new _ _, by rw [List.length_replicate]; exact Nat.le_refl _, by unfold maxLen; omega, ?_, ?_⟩⟩
  · unfold cellsB
    rw [List.size_toArray, byteCells_len, List.length_replicate, Nat.mul_one]
  · rw [List.length_replicate, Nat.mul_one]
    unfold cellsB
    exact List.take_of_length_le (by rw [byteCells_len, List.length_replicate]; exact Nat.le_refl _)
theorem le_one (n : Int) : Gd.le n.toNat 1 = [Gd.byteOf n] := rfl
theorem bytes_take {L : List Int} {i : Nat} {n : Int} (h : L[i]? = some n) : (L.take (i + 1)).map Gd.byteOf = (L.take i).map Gd.byteOf ++ [Gd.byteOf n] := by
  rw [List.take_add_one, h]
  simp

/-- an inode that may not be: an error -/
def Bad1 (w : World) (e : Ending) (w' : World) : Prop := e = .returned (.tuple #[.slice none 0 0, .int .i64 1]) ∧ Below w.heap.size w w'

end Go.Proofs.YtiinponoeaihcaaGreat

/- Walks: bytes that are compared; an inode's bytes, piece by piece. -/
namespace Go.Proofs.YtiinponoeaihcaaGreat
open Go.RowKit

attribute [local go_sem] Oper.semAt_some

theorem ba_eq_list (L M : List UInt8) : (((⟨L.toArray⟩ : ByteArray).toList == (⟨M.toArray⟩ : ByteArray).toList) : Bool) = decide (L = M) := by
  rw [Bool.eq_iff_iff, decide_eq_true_iff, beq_iff_eq]
  constructor
  · intro h
    have h1 := Lib.toList_data (⟨L.toArray⟩ : ByteArray)
    have h2 := Lib.toList_data (⟨M.toArray⟩ : ByteArray)
    rw [h1, h2] at h
    simpa using h
  · intro h
    rw [h]

namespace Gd
theorem byteOf_nat {n : Int} (h0 : 0 ≤ n) (h1 : n < 256) : ((byteOf n).toNat : Int) = n := by
  unfold byteOf
  rw [UInt8.toNat_ofNat']
  omega
/-- an inode's bytes, read piece by piece -/
structure InoBytes (x : Ino) (L : List UInt8) : Prop where
  len : L.length = 64
  k : ∃ b : UInt8, L[0]? = some b ∧ (b.toNat : Int) = x.k
  l : ∃ b : UInt8, L[1]? = some b ∧ (b.toNat : Int) = x.l
  s : getN L 2 2 = x.s.toNat
  B : ∀ j n, x.B[j]? = some n → ∃ b : UInt8, L[4 + j]? = some b ∧ (b.toNat : Int) = n
  O : ∀ j n, x.O[j]? = some n → ∃ b : UInt8, L[8 + j]? = some b ∧ (b.toNat : Int) = n
  sum : getN L 60 4 = crc (L.take 60)
  ne : L ≠ List.replicate 64 0
theorem ino_bytes {x : Ino} (hs : x.Shape) (hm : mayI x = true) (hk : x.k ≠ 0) : InoBytes x (inoB x) := by
  have hin := mayI_in hm
  have hbl := inoBody_length hs
  have hB := hs.1
  have hO := hs.2
  have e : inoB x = inoBody x ++ le (crc (inoBody x)) 4 := by
    unfold inoB
    rw [if_neg hk]
    rfl
  have e2 : inoBody x = byteOf x.k :: byteOf x.l :: (le x.s.toNat 2 ++ (x.B.map byteOf ++ (x.O.map byteOf ++ List.replicate 44 0))) := by
    unfold inoBody
    rw [le_one, le_one]
    simp only [List.append_assoc, List.cons_append, List.nil_append]
  have ek : ((byteOf x.k).toNat : Int) = x.k := byteOf_nat hin.k.1 (by have := hin.k.2; omega)
  have el : ((byteOf x.l).toNat : Int) = x.l := byteOf_nat hin.l.1 (by have := hin.l.2; omega)
  have h0 : (inoB x)[0]? = some (byteOf x.k) := by rw [e, e2]; rfl
  refine ⟨inoB_length hs, ⟨_, h0, ek⟩, ⟨_, by rw [e, e2]; rfl, el⟩, ?_, ?_, ?_, ?_, ?_⟩
  · have h : inoB x = [byteOf x.k, byteOf x.l] ++ (le x.s.toNat 2 ++ ((x.B.map byteOf ++ (x.O.map byteOf ++ List.replicate 44 0)) ++ le (crc (inoBody x)) 4)) := by
      rw [e, e2]
      simp only [List.append_assoc, List.cons_append, List.nil_append]
    rw [h]
    exact getN_mid [byteOf x.k, byteOf x.l] _ x.s.toNat 2 (by have := hin.s; omega)
  · intro j n hj
    have hjl := (List.getElem?_eq_some_iff.1 hj).1
    have hn := hin.B n (List.mem_of_getElem? hj)
    refine ⟨byteOf n, ?_, byteOf_nat hn.1 (by omega)⟩
    rw [e, e2, show 4 + j = (2 + j) + 1 + 1 by omega, List.getElem?_append_left (by simp [le_length]; omega), List.getElem?_cons_succ, List.getElem?_cons_succ, List.getElem?_append_right (by rw [le_length]; omega), le_length, show 2 + j - 2 = j by omega, List.getElem?_append_left (by rw [List.length_map]; exact hjl), List.getElem?_map, hj]
    rfl
  · intro j n hj
    have hjl := (List.getElem?_eq_some_iff.1 hj).1
    have hn := hin.O n (List.mem_of_getElem? hj)
    refine ⟨byteOf n, ?_, byteOf_nat hn.1 (by omega)⟩
    rw [e, e2, show 8 + j = (6 + j) + 1 + 1 by omega, List.getElem?_append_left (by simp [le_length]; omega), List.getElem?_cons_succ, List.getElem?_cons_succ, List.getElem?_append_right (by rw [le_length]; omega), le_length, show 6 + j - 2 = 4 + j by omega, List.getElem?_append_right (by rw [List.length_map]; omega), List.length_map, hB, show 4 + j - 4 = j by omega, List.getElem?_append_left (by rw [List.length_map]; exact hjl), List.getElem?_map, hj]
    rfl
  · have ht : (inoB x).take 60 = inoBody x := by rw [e, List.take_left' hbl]
    rw [ht, e]
    have := getN_mid (inoBody x) [] (crc (inoBody x)) 4 (by have := crc_lt (inoBody x); omega)
    rw [List.append_nil, hbl] at this
    exact this
  · intro h
    rw [h, List.getElem?_replicate] at h0
    simp at h0
    rw [← h0] at ek
    exact hk ek.symm
end Gd
theorem ino_all {x : Gd.Ino} (hm : Gd.mayI x = true) : AllI (inoL x) := by
  have h := Gd.mayI_in hm
  intro n hn
  have hI : -9223372036854775808 ≤ n ∧ n ≤ 9223372036854775807 := by
    simp only [inoL, List.mem_cons, List.mem_append] at hn
    have hk := h.k
    have hl := h.l
    have hs := h.s
    rcases hn with rfl | rfl | rfl | hn | hn
    · omega
    · omega
    · omega
    · have := h.B n hn; omega
    · have := h.O n hn; omega
  unfold I64
  simp [Lit.wf, show IntKind.i64.min = -9223372036854775808 from rfl, show IntKind.i64.max = 9223372036854775807 from rfl]
  omega

end Go.Proofs.YtiinponoeaihcaaGreat

/- Walk: commonsref01.Same of two slices with the same bytes. -/
namespace Go.Proofs.YtiinponoeaihcaaGreat
open Go.RowKit

attribute [local go_sem] Oper.semAt_some

theorem OwnB.box {w : World} {B : Nat} {v : Value} {L : List UInt8} (h : OwnB w B v L) (hL : L ≠ []) : ∃ (g cap : Nat) (o : Obj), v = .slice (some ⟨g, 0, none⟩) L.length cap ∧ B ≤ g ∧ w.heap[g]? = some o ∧ ∀ W : World, W.heap[g]? = some o → BytesAt W (.slice (some ⟨g, 0, none⟩) L.length cap) L := by
  have hr := h
  rcases h.2 with ⟨_, h0⟩ | ⟨g, cap, cur, rfl, hb, hg, hc⟩
  · exact absurd (List.eq_nil_of_length_eq_zero h0) hL
  · exact ⟨g, cap, _, rfl, hb, hg, fun W hW => OwnB.at_ (w := W) (B := B) ⟨hr.1, Or.inr ⟨g, cap, cur, rfl, hb, hW, hc⟩⟩⟩
end Go.Proofs.YtiinponoeaihcaaGreat

/- Plain functions for the change of a file's bytes by a record, and the law that doing it twice comes to the same as once. No program in sight. -/
namespace Go.Proofs.YtiinponoeaihcaaGreat.Fp

/-- bytes cut to n, or with noughts behind -/
def sizedL (l : List UInt8) (n : Nat) : List UInt8 := if n ≤ l.length then l.take n else l ++ List.replicate (n - l.length) 0

theorem sizedL_length (l : List UInt8) (n : Nat) : (sizedL l n).length = n := by
  unfold sizedL; split
  · rw [List.length_take]; omega
  · rw [List.length_append, List.length_replicate]; omega

theorem sizedL_self (l : List UInt8) (n : Nat) (h : l.length = n) : sizedL l n = l := by
  unfold sizedL; rw [if_pos (by omega), List.take_of_length_le (by omega)]

/-- may the record be -/
def mayB (call inode : Int) (tr : Bool) (off : Int) (d : List UInt8) : Bool :=
  decide (0 ≤ call ∧ call ≤ 1099511627776 ∧ 1 ≤ inode ∧ inode ≤ 32 ∧ 0 ≤ off ∧ off ≤ 256 ∧ d.length ≤ 64 ∧ off + d.length ≤ 256) && !(tr && !d.isEmpty)

theorem mayB_no {call inode : Int} {tr : Bool} {off : Int} {d : List UInt8} (h : ¬ (0 ≤ call ∧ call ≤ 1099511627776 ∧ 1 ≤ inode ∧ inode ≤ 32 ∧ 0 ≤ off ∧ off ≤ 256 ∧ d.length ≤ 64 ∧ off + d.length ≤ 256)) :
    mayB call inode tr off d = false := by
  unfold mayB; rw [decide_eq_false h]; rfl
theorem mayB_if {call inode : Int} {tr : Bool} {off : Int} {d : List UInt8} (h : 0 ≤ call ∧ call ≤ 1099511627776 ∧ 1 ≤ inode ∧ inode ≤ 32 ∧ 0 ≤ off ∧ off ≤ 256 ∧ d.length ≤ 64 ∧ off + d.length ≤ 256) :
    mayB call inode tr off d = !(tr && !d.isEmpty) := by
  unfold mayB; rw [decide_eq_true h]; rfl

/-- the bytes that come out, of a record that may be -/
def outL (s : List UInt8) (tr : Bool) (off : Nat) (d : List UInt8) : List UInt8 :=
  if tr then sizedL s off else if d.isEmpty then s else sizedL s off ++ d ++ s.drop (off + d.length)

/-- the bytes and the error -/
def chg (s : List UInt8) (call inode : Int) (tr : Bool) (off : Int) (d : List UInt8) : List UInt8 × Int :=
  if mayB call inode tr off d then
    (if (outL s tr off.toNat d).length ≤ 256 then (outL s tr off.toNat d, 0) else ([], 19))
  else ([], 1)

theorem outL_twice (s : List UInt8) (tr : Bool) (off : Nat) (d : List UInt8) : outL (outL s tr off d) tr off d = outL s tr off d := by
  unfold outL
  cases tr with
  | true => simp only [if_true]; exact sizedL_self _ _ (sizedL_length _ _)
  | false =>
    simp only [Bool.false_eq_true, if_false]
    by_cases hd : d.isEmpty = true
    · simp [hd]
    · simp only [hd, Bool.false_eq_true, if_false]
      have hl := sizedL_length s off
      have h1 : sizedL (sizedL s off ++ d ++ s.drop (off + d.length)) off = sizedL s off := by
        show (if off ≤ (sizedL s off ++ d ++ s.drop (off + d.length)).length then (sizedL s off ++ d ++ s.drop (off + d.length)).take off else _) = _
        rw [if_pos (by simp only [List.length_append]; omega), List.append_assoc, List.take_append_of_le_length (by omega), List.take_of_length_le (by omega)]
      have h2 : (sizedL s off ++ d ++ s.drop (off + d.length)).drop (off + d.length) = s.drop (off + d.length) := by
        rw [List.drop_append, List.drop_eq_nil_of_le (by rw [List.length_append]; omega)]
        simp [hl]
      rw [h1, h2]

theorem chg_twice (s : List UInt8) (call inode : Int) (tr : Bool) (off : Int) (d : List UInt8) (h : (chg s call inode tr off d).2 = 0) :
    chg (chg s call inode tr off d).1 call inode tr off d = chg s call inode tr off d := by
  unfold chg at h ⊢
  by_cases hm : mayB call inode tr off d = true
  · simp only [hm, if_true] at h ⊢
    by_cases hl : (outL s tr off.toNat d).length ≤ 256
    · simp only [hl, if_true] at h ⊢
      rw [outL_twice]
      simp [hl]
    · simp [hl] at h
  · simp [hm] at h

theorem chg_bad (s : List UInt8) (call inode : Int) (tr : Bool) (off : Int) (d : List UInt8) (h : (chg s call inode tr off d).2 ≠ 0) :
    (chg s call inode tr off d).1 = [] := by
  unfold chg at h ⊢
  by_cases hm : mayB call inode tr off d = true
  · simp only [hm, if_true] at h ⊢
    by_cases hl : (outL s tr off.toNat d).length ≤ 256
    · simp [hl] at h
    · simp [hl]
  · simp [hm]

theorem chg_le (s : List UInt8) (call inode : Int) (tr : Bool) (off : Int) (d : List UInt8) : (chg s call inode tr off d).1.length ≤ 256 := by
  unfold chg
  split
  · split
    · assumption
    · simp
  · simp

end Go.Proofs.YtiinponoeaihcaaGreat.Fp

/- Walks: files.in, files.May, commonsref15.May, commonsref06.Sized, commonslaw15.cut: each by itself. -/
namespace Go.Proofs.YtiinponoeaihcaaGreat
namespace Fl
open Go.RowKit

set_option maxHeartbeats 400000 in
theorem in_yes (n a b : Int) (w : World) (h1 : a ≤ n) (h2 : n ≤ b) :
    Calls Tryz.prog 90 #[.int .i64 n, .int .i64 a, .int .i64 b] w fun e w' => e = .returned (.bool true) ∧ w = w' := by
  go_enter Tryz.func90, Tryz.ntmps90
  go_wp2
  go_ret
  exact ⟨rfl, rfl⟩
set_option maxHeartbeats 400000 in
theorem in_no1 (n a b : Int) (w : World) (h1 : n < a) :
    Calls Tryz.prog 90 #[.int .i64 n, .int .i64 a, .int .i64 b] w fun e w' => e = .returned (.bool false) ∧ w = w' := by
  have h1' : ¬ a ≤ n := by omega
  go_enter Tryz.func90, Tryz.ntmps90
  go_wp2
  go_ret
  exact ⟨rfl, rfl⟩
set_option maxHeartbeats 400000 in
theorem in_no2 (n a b : Int) (w : World) (h1 : a ≤ n) (h2 : b < n) :
    Calls Tryz.prog 90 #[.int .i64 n, .int .i64 a, .int .i64 b] w fun e w' => e = .returned (.bool false) ∧ w = w' := by
  have h2' : ¬ n ≤ b := by omega
  go_enter Tryz.func90, Tryz.ntmps90
  go_wp2
  go_ret
  exact ⟨rfl, rfl⟩
def inB (n a b : Int) : Bool := decide (a ≤ n) && decide (n ≤ b)
theorem in_any (n a b : Int) (w : World) :
    Calls Tryz.prog 90 #[.int .i64 n, .int .i64 a, .int .i64 b] w fun e w' => e = .returned (.bool (inB n a b)) ∧ w = w' := by
  unfold inB
  by_cases h1 : a ≤ n
  · by_cases h2 : n ≤ b
    · simpa [h1, h2] using in_yes n a b w h1 h2
    · simpa [h1, h2] using in_no2 n a b w h1 (by omega)
  · simpa [h1] using in_no1 n a b w (by omega)

end Fl
end Go.Proofs.YtiinponoeaihcaaGreat

/- Walks: files.May, commonsref15.May, commonsref06.Sized. -/
namespace Go.Proofs.YtiinponoeaihcaaGreat
namespace Fl
open Go.RowKit

def recV (call inode : Int) (tr : Bool) (off : Int) (d : ByteArray) : Value := .agg #[.int .i64 call, .int .i64 inode, .bool tr, .int .i64 off, .string d]

set_option maxHeartbeats 400000 in
theorem may_any (call inode : Int) (tr : Bool) (off : Int) (d : ByteArray) (w : World) (hd : d.size ≤ 9223372036854775807) :
    Calls Tryz.prog 77 #[recV call inode tr off d] w fun e w' => e = .returned (.bool (Fp.mayB call inode tr off d.data.toList)) ∧ Below w.heap.size w w' := by
  unfold recV
  go_enter Tryz.func77, Tryz.ntmps77
  go_wp2_with (go_at_call 90; refine (in_any _ _ _ _).mono ?_; rintro e w' ⟨rfl, rfl⟩)
  all_goals go_ret
  all_goals refine ⟨ret_bool ?_, (Below.refl _ _).alloc (Nat.le_refl _) _⟩
  all_goals (try unfold wrap64 at *)
  all_goals (simp only [inB, Bool.and_eq_true, decide_eq_true_eq] at *)
  all_goals (have hs := Lib.size_eq d)
  · have htr : tr = true := by assumption
    subst htr; rw [Fp.mayB_if (by omega), Lib.toList_data]; simp
  · have htr : ¬ tr = true := by assumption
    rw [Fp.mayB_if (by omega)]; simp [htr]
  all_goals (rw [Fp.mayB_no (by omega)])

theorem sized_snoc (l : List UInt8) (n : Nat) (h : l.length < n) : Fp.sizedL (l ++ [0]) n = Fp.sizedL l n := by
  unfold Fp.sizedL
  rw [if_neg (by omega : ¬ n ≤ l.length)]
  by_cases h2 : n ≤ (l ++ [0]).length
  · rw [if_pos h2]
    simp only [List.length_append, List.length_cons, List.length_nil] at h2
    rw [List.take_of_length_le (by simp; omega), show n - l.length = 1 by omega]
    rfl
  · rw [if_neg h2]
    simp only [List.length_append, List.length_cons, List.length_nil] at h2 ⊢
    rw [List.append_assoc, show n - l.length = (n - (l.length + (0 + 1))) + 1 by omega, List.replicate_succ]
    rfl
theorem sized_head (l : List UInt8) (n : Nat) (h : n ≤ l.length) : l.take n = Fp.sizedL l n := by
  unfold Fp.sizedL; rw [if_pos h]

def szOf : Value → Nat | .string u => u.size | _ => 0

end Fl
end Go.Proofs.YtiinponoeaihcaaGreat
