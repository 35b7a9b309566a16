/- Walks: commonslaw17: lives; a memory of any size, mounted. -/
import Derived.Test.YtccpdkjonepoiaaGreatDoorW22
import Derived.Deep.AppendLies
import Derived.Test.YtccpdkjonepoiaaGreatDoorW16
set_option linter.unusedVariables false
set_option linter.unusedSimpArgs false
set_option linter.unusedSectionVars false
namespace Go.Proofs.YtccpdkjonepoiaaGreatDoor
open Go.RowKit Go.Shelf

attribute [local go_sem] Oper.semAt_some

set_option maxHeartbeats 4000000 in
set_option maxRecDepth 100000 in
theorem pnew_low (q : Int) (h : q < 64) (w : World) : Calls Tryz.prog 9 #[.int .i64 q] w fun e w' => e = .returned (.pointer none) ∧ w' = w := by
  have hb : decide (q < 64) = true := decide_eq_true h
  go_enter Tryz.func9, Tryz.ntmps9
  go_wp2
  go_ret
  exact ⟨rfl, rfl⟩
set_option maxHeartbeats 4000000 in
set_option maxRecDepth 100000 in
theorem pnew_odd (s : Nat) (h : 64 ≤ s) (h2 : s ≤ 30000) (h3 : ¬ s % 64 = 0) (w : World) : Calls Tryz.prog 9 #[.int .i64 s] w fun e w' => e = .returned (.pointer none) ∧ w' = w := by
  have h1 : ¬ (s : Int) < 64 := by omega
  have h2' : (s : Int) ≤ 1048576 := by omega
  have h3' : ¬ (s : Int) % 64 = 0 := by omega
  have hb : ((s : Int) % 64 != 0) = true := by simp [h3']
  clear h h2 h3
  go_enter Tryz.func9, Tryz.ntmps9
  go_wp2
  go_ret
  exact ⟨rfl, rfl⟩
/-- a memory of any size -/
def HasMem (q : Int) (w w' : World) (v : Value) : Prop := (q ≠ 23168 ∧ Sized w' v) ∨ (q = 23168 ∧ ∃ m sb lb ab, v = .pointer (some ⟨m, 0, none⟩) ∧ MemAt w' m sb lb ab 2896 (List.replicate 23168 0) 0 ∧ (w.heap.size ≤ m ∧ w.heap.size ≤ sb ∧ w.heap.size ≤ lb ∧ w.heap.size ≤ ab))
theorem pnew_gen (q : Int) (h1 : q ≤ 30000) (w : World) : Calls Tryz.prog 9 #[.int .i64 q] w fun e w' => ∃ v, e = .returned v ∧ Below w.heap.size w w' ∧ HasMem q w w' v := by
  by_cases hl : q < 64
  · refine (pnew_low q hl w).mono ?_
    rintro e w' ⟨rfl, rfl⟩
    exact ⟨_, rfl, Below.refl _ _, Or.inl ⟨by omega, Or.inl rfl⟩⟩
  · obtain ⟨s, rfl⟩ : ∃ s : Nat, q = s := ⟨q.toNat, by omega⟩
    by_cases h3 : s % 64 = 0
    · obtain ⟨n, rfl⟩ : ∃ n, s = n * 8 := ⟨s / 8, by omega⟩
      refine (pnew_any n (by omega) (by omega) (by omega) w).mono ?_
      rintro e w' ⟨m, sb, lb, ab, rfl, hM, hb, -, hge⟩
      refine ⟨_, rfl, hb, ?_⟩
      by_cases h4 : n = 2896
      · subst h4
        exact Or.inr ⟨rfl, m, sb, lb, ab, rfl, hM, hge⟩
      · exact Or.inl ⟨by omega, Or.inr ⟨m, sb, lb, ab, n, _, 0, rfl, hM, by rw [List.length_replicate]; omega⟩⟩
    · refine (pnew_odd s (by omega) (by omega) h3 w).mono ?_
      rintro e w' ⟨rfl, rfl⟩
      exact ⟨_, rfl, Below.refl _ _, Or.inl ⟨by omega, Or.inl rfl⟩⟩
theorem Sized.below {w w' : World} {v : Value} (h : Sized w v) (hb : Below w.heap.size w w') : Sized w' v := by
  rcases h with h | ⟨m, sb, lb, ab, n, S, K, h1, h2, h3⟩
  · exact Or.inl h
  · exact Or.inr ⟨m, sb, lb, ab, n, S, K, h1, h2.keep fun k hk => hb.block k (h2.lts k hk), h3⟩
theorem vmount_all (q : Int) (v : Value) {w : World} (w1 : World) (hb : Below w.heap.size w w1) (h : HasMem q w w1 v) : Calls Tryz.prog 10 #[v] w1 fun e w' => ∃ xv ev, e = .returned (.tuple #[xv, .int .i64 ev]) ∧ Below w.heap.size w w' ∧ (q ≠ 23168 → xv = .pointer none ∧ ev = 1 ∧ Calls Tryz.prog 11 #[v] w' fun e w2 => e = .returned (.int .i64 1) ∧ Below w'.heap.size w' w2) := by
  rcases h with ⟨hq, hS⟩ | ⟨rfl, m, sb, lb, ab, rfl, hM, hge⟩
  · refine (vmount_bad v w1 hS).mono ?_
    rintro e w' ⟨rfl, hb'⟩
    exact ⟨_, _, rfl, hb.trans (hb'.mono hb.size), fun _ => ⟨rfl, rfl, vformat_bad v w' (hS.below hb')⟩⟩
  · letI : MemNo := ⟨m⟩
    have hm : Mst (List.replicate 23168 0) 0 w w1 [] := ⟨sb, lb, ab, 2896, hM, hge, hb, fun p hp => by cases hp⟩
    refine (vmount_gen hm List.length_replicate (by omega)).mono ?_
    rintro e w' ⟨S2, -, -, -, ⟨-, o, x, t, f, rfl, hv⟩ | ⟨-, rfl, hv⟩⟩
    · exact ⟨_, _, rfl, hv.belowW, fun h => absurd rfl h⟩
    · exact ⟨_, _, rfl, hv.belowW, fun h => absurd rfl h⟩
theorem Vp.inode [MemNo] {o x t f c K : Nat} {S : List UInt8} {w a : World} {Ls : List (Nat × Obj)} (h : Vp o x t f S [] c K w a Ls) (i : Nat) (h1 : 1 ≤ i) (h2 : i ≤ 32) (hs : Gd.SoundV S) :
    Calls Tryz.prog 16 #[.pointer (some ⟨x, 0, none⟩), .int .i64 i] a fun e b => ∃ y : Gd.Ino, e = .returned (.tuple #[inoV y, .int .i64 0]) ∧ y.Shape ∧ (i = 1 → y.k = 2) ∧ Below a.heap.size a b := by
  obtain ⟨F', hm, -⟩ := h.metaF
  obtain ⟨y, hy, hmy, hp⟩ := hs.ino i h1 h2
  refine (inode_good (i : Int) y a hm (by omega) (by omega) hy hmy hp).mono ?_
  rintro e b ⟨rfl, hb⟩
  refine ⟨y, rfl, hy, fun e => ?_, hb⟩
  subst e
  obtain ⟨z, z1, z2, z3, z4⟩ := hs.root
  exact Gd.inoB_k hy z1 hmy z2 (hp.symm.trans z3) z4

theorem Vp.slots [MemNo] {o x t f c K : Nat} {S : List UInt8} {w a : World} {Ls : List (Nat × Obj)} (h : Vp o x t f S [] c K w a Ls) (k : Nat) (k1 : 1 ≤ k) (k2 : k ≤ 8) (hs : Gd.SoundV S) :
    Calls Tryz.prog 17 #[.pointer (some ⟨o, 0, none⟩), .int .i64 k] a fun e b => ∃ s : Gd.Slot, e = .returned (.tuple #[slotV s, .int .i64 0]) ∧ Below a.heap.size a b := by
  obtain ⟨F', hm, -⟩ := h.metaF
  refine (vslot_gen k (64 * k) a hm h.vol (Gd.ptAt_slotV k1 k2)).mono ?_
  rintro e b ⟨hb, ⟨-, he⟩ | ⟨hno, -⟩⟩
  · exact ⟨_, he, hb⟩
  · exact absurd (hs.slot k k1 k2) hno
theorem Mst.loads [MemNo] {K : Nat} {S : List UInt8} {w a : World} {Ls : List (Nat × Obj)} (h : Mst S K w a Ls) (hl : S.length = 23168) : Calls Tryz.prog 18 #[.pointer (some ⟨MemNo.no, 0, none⟩), .int .i64 0, .int .i64 23168] a (Loads a S) := by
  have h1 := mload_any 0 23168 a h.memF (by omega) (by omega)
  have h2 : Gd.part S 0 23168 = S := by
    unfold Gd.part
    rw [List.drop_zero, List.take_of_length_le (by omega)]
  rw [h2] at h1
  exact h1

def slot1 : Gd.Slot := ⟨1, 0, 0, 0, 0, 0⟩
theorem slot1_may : slot1.May := ⟨by decide, by decide, by decide, by decide, by decide, by decide⟩
set_option maxHeartbeats 8000000 in
set_option maxRecDepth 100000 in
theorem lives17_any (w : World) : Calls Tryz.prog 14 #[] w fun e w' => e = .returned (.bool true) ∧ Below w.heap.size w w' := by
  have HP : Hid (Calls Tryz.prog 9 #[.int .i64 23168] w (NewMem w 2896 23168)) := Lib.hid (pnew_any 2896 (by omega) (by omega) (by omega) w)
  go_enter Tryz.func14, Tryz.ntmps14
  go_wp2_with fail
  refine HP.out.mono ?_
  rintro e w1 ⟨m, sb, lb, ab, rfl, hM1, hb1, hlow1, hge1⟩
  obtain ⟨mn, hmn⟩ : ∃ mn : MemNo, m = mn.no := ⟨⟨m⟩, rfl⟩
  subst hmn
  have h1 : Mst (List.replicate 23168 0) 0 w w1 [] := ⟨sb, lb, ab, 2896, hM1, hge1, hb1, fun p hp => by cases hp⟩
  have HFm := Lib.hid (vformat_any h1 List.length_replicate (by omega))
  clear hM1 hb1 hlow1 hge1 h1 HP
  go_wp2_with fail
  refine HFm.out.mono ?_
  rintro e w2 ⟨rfl, S, Z, hZ, hG, he, h2⟩
  have HMo := Lib.hid (vmount_gen h2 hG.len (by omega))
  have HH := Lib.hid (Gd.HeadIs.fresh hZ)
  have HG := Lib.hid (And.intro hG he)
  have HSo := Lib.hid (HH.out.sound hG rfl)
  clear h2 hG he hZ HFm
  go_wp2_with fail
  refine HMo.out.mono ?_
  rintro e w3 ⟨S2, hl2, he2, hs2, hor⟩
  obtain rfl := hs2 HG.out.2
  rcases hor with ⟨-, o, x, t, f, rfl, h3⟩ | ⟨hno, -⟩
  rotate_left
  · exact absurd HSo.out hno
  have hv : Vq o x t f S2 [] (Gd.freshV Z) 0 (fun _ => Gd.slot0) 0 657100000 w w3 [] := ⟨h3, HG.out.1, HH.out⟩
  have HC := Lib.hid hv.commits
  clear hl2 he2 h3 HMo hv
  go_wp2_with fail
  refine HC.out.mono ?_
  rintro e w4 ⟨rfl, h4⟩
  have HSt := h4.setslot 1 (by omega) (by omega) slot1 slot1_may (by omega)
  unfold slotV slotC slot1 at HSt
  dsimp only at HSt
  rw [show ((1 : Nat) : Int) = 1 from rfl, show ((0 : Nat) : Int) = 0 from rfl] at HSt
  have HSt2 := Lib.hid HSt
  clear h4 HC HSt
  go_wp2_with fail
  refine HSt2.out.mono ?_
  rintro e w5 ⟨rfl, h5⟩
  have HCm := Lib.hid (h5.commit (by simp) (by omega) (by omega) (by omega))
  clear h5 HSt2
  go_wp2_with fail
  refine HCm.out.mono ?_
  rintro e w6 ⟨rfl, S6, h6⟩
  have HC6 := Lib.hid h6.commits
  clear h6 HCm
  go_wp2_with fail
  refine HC6.out.mono ?_
  rintro e w7 ⟨rfl, h7⟩
  have HFe := Lib.hid (h7.fence 1 (by omega) (by omega) (by omega) (by omega) (by show (1 : Nat) < _; omega))
  clear h7 HC6
  go_wp2_with fail
  refine HFe.out.mono ?_
  rintro e w8 ⟨rfl, S8, M8, h8, -⟩
  obtain ⟨s8, hs8, h8⟩ : ∃ s8 : Nat → Gd.Slot, s8 1 = ⟨2, 0, 0, 0, 0, 0⟩ ∧ Vq o x t f S8 [] M8 2 s8 0 (657100000 + 2000000 + 2000000) w w8 [] := ⟨_, rfl, h8⟩
  have HSl := h8.slot 1 (by omega) (by omega)
  rw [hs8, show ((1 : Nat) : Int) = 1 from rfl] at HSl
  unfold slotV slotC at HSl
  dsimp only at HSl
  have HSl2 := Lib.hid HSl
  clear h8 hs8 HFe HSl
  go_wp2_with fail
  refine HSl2.out.mono ?_
  rintro e w9 ⟨rfl, h9⟩
  have hba := (Below.refl w9.heap.size w9).alloc (Nat.le_refl _) (.cells #[.int .i64 2, .int .i64 0, .int .i64 0, .int .i64 0, .int .i64 0, .int .i64 0] 48)
  have HC9 := Lib.hid (h9.below hba).commits
  clear h9 HSl2 hba
  go_wp2_with fail
  refine HC9.out.mono ?_
  rintro e w10 ⟨rfl, h10⟩
  have H10 := Lib.hid h10.1.belowW
  clear h10 HC9
  go_wp2
  go_ret
  exact ⟨rfl, H10.out⟩
end Go.Proofs.YtccpdkjonepoiaaGreatDoor

/- The document's volume in memory: slots, a count, files, logs. -/
namespace Go.Proofs.YtccpdkjonepoiaaGreatDoor
open Go.RowKit Go.Shelf

def slotsC (sl : List Gd.Slot) : List Value := sl.flatMap fun s => (slotC s).toList
def filesC (fs : List (List UInt8)) : List Value := fs.map fun f => .string ⟨f.toArray⟩
def logsC (bs : List Nat) : List Value := bs.map fun b => .slice (some ⟨b, 0, none⟩) 1024 1024
structure RvAt (r : Nat) (sl : List Gd.Slot) (n : Int) (fs lg : List (List UInt8)) (sv fv lv : Value) (bs : List Nat) (w : World) : Prop where
  obj : w.heap[r]? = some (.cells #[sv, .int .i64 n, fv, lv] 91 (0, 0))
  slots : w.ownsRow 0 48 6 sv sl.length (slotsC sl)
  files : w.ownsRow 0 9 1 fv fs.length (filesC fs)
  logs : w.ownsRow 0 22 1 lv bs.length (logsC bs)
  blk : ∀ (j b : Nat), bs[j]? = some b → ∃ L : List UInt8, lg[j]? = some L ∧ L.length = 1024 ∧ w.heap[b]? = some (.cells (cellsB L) 5 (0, 0))
  len : bs.length = lg.length
  nodup : bs.Nodup
/-- a row lies as it lay -/
theorem ownsRow_keep {w w' : World} {B e n : Nat} {size : Nat} {v : Value} {xs : List Value} (h : w.ownsRow B e size v n xs) (hk : ∀ q cur, v.ownBlock = some q → w.heap[q]? = some (.cells cur e (0, 0)) → w'.heap[q]? = w.heap[q]?) : w'.ownsRow B e size v n xs :=
  ⟨h.1, h.2.imp id fun ⟨g, cap, cur, hv, hB, hg, hr⟩ => ⟨g, cap, cur, hv, hB, (hk g cur (by rw [hv]; rfl) hg).trans hg, hr⟩⟩
section
variable {r : Nat} {sl : List Gd.Slot} {n : Int} {fs lg : List (List UInt8)} {sv fv lv : Value} {bs : List Nat} {w w' : World}
theorem RvAt.keep (h : RvAt r sl n fs lg sv fv lv bs w) (hk : ∀ q, q = r ∨ sv.ownBlock = some q ∨ fv.ownBlock = some q ∨ lv.ownBlock = some q ∨ q ∈ bs → w'.heap[q]? = w.heap[q]?) : RvAt r sl n fs lg sv fv lv bs w' :=
  ⟨(hk r (Or.inl rfl)).trans h.obj, ownsRow_keep h.slots fun q _ hq _ => hk q (Or.inr (Or.inl hq)), ownsRow_keep h.files fun q _ hq _ => hk q (Or.inr (Or.inr (Or.inl hq))), ownsRow_keep h.logs fun q _ hq _ => hk q (Or.inr (Or.inr (Or.inr (Or.inl hq)))), fun j b hj => by
    obtain ⟨L, h1, h2, h3⟩ := h.blk j b hj
    exact ⟨L, h1, h2, (hk b (Or.inr (Or.inr (Or.inr (Or.inr (List.mem_of_getElem? hj)))))).trans h3⟩, h.len, h.nodup⟩
theorem RvAt.lt (h : RvAt r sl n fs lg sv fv lv bs w) {q : Nat} (hq : q = r ∨ sv.ownBlock = some q ∨ fv.ownBlock = some q ∨ lv.ownBlock = some q ∨ q ∈ bs) : q < w.heap.size := by
  have own : ∀ {e size m : Nat} {v : Value} {xs : List Value}, w.ownsRow 0 e size v m xs → v.ownBlock = some q → q < w.heap.size := fun ho hv => by
    rcases ho.2 with ⟨e, -⟩ | ⟨g, cap, cur, e, -, hg, -⟩
    · rw [e] at hv; cases hv
    · rw [e] at hv; cases hv; exact lt_get hg
  rcases hq with rfl | hq | hq | hq | hq
  · exact lt_get h.obj
  · exact own h.slots hq
  · exact own h.files hq
  · exact own h.logs hq
  · obtain ⟨j, hj⟩ := List.mem_iff_getElem?.1 hq
    obtain ⟨L, -, -, hL⟩ := h.blk j q hj
    exact lt_get hL
theorem RvAt.obj5 {wa w5 : World} (h : RvAt r sl n fs lg sv fv lv bs w) (hb : Below w.heap.size w wa) (hg : wa.grownBy w5 sv.ownBlock) : w5.heap[r]? = some (.cells #[sv, .int .i64 n, fv, lv] 91 (0, 0)) := by
  have hl := lt_get h.obj
  rw [hg.block r (Nat.lt_of_lt_of_le hl hb.size) fun e => ?_, hb.block r hl]
  · exact h.obj
  · rcases h.slots.2 with ⟨e2, -⟩ | ⟨g, cap, cur2, e2, -, hg2, -⟩
    · rw [e2] at e; cases e
    · rw [e2] at e
      cases e
      have := h.obj
      rw [hg2] at this
      exact absurd (Obj.cells.inj (Option.some.inj this)).2.1 (by decide)
theorem RvAt.obj5l {wa w5 : World} (h : RvAt r sl n fs lg sv fv lv bs w) (hb : Below w.heap.size w wa) (hg : wa.grownBy w5 lv.ownBlock) : w5.heap[r]? = some (.cells #[sv, .int .i64 n, fv, lv] 91 (0, 0)) := by
  have hl := lt_get h.obj
  rw [hg.block r (Nat.lt_of_lt_of_le hl hb.size) fun e => ?_, hb.block r hl]
  · exact h.obj
  · rcases h.logs.2 with ⟨e2, -⟩ | ⟨g, cap, cur2, e2, -, hg2, -⟩
    · rw [e2] at e; cases e
    · rw [e2] at e
      cases e
      have := h.obj
      rw [hg2] at this
      exact absurd (Obj.cells.inj (Option.some.inj this)).2.1 (by decide)
/-- what lies elsewhere, in the words of a change of one type's blocks -/
theorem RvAt.slot_put {wa w5 : World} {v' : Value} {x : Gd.Slot} (h : RvAt r sl n fs lg sv fv lv bs w) (hb : Below w.heap.size w wa) (hown : w5.ownsRow 0 48 6 v' (sl.length + 1) (slotsC sl ++ (slotC x).toList)) (hg : wa.grownBy w5 sv.ownBlock) : RvAt r (sl ++ [x]) n fs lg v' fv lv bs (w5.setCell ⟨r, 0, none⟩ v') := by
  have same : ∀ (q : Nat) (cur : Array Value) (ty : TypeId), w.heap[q]? = some (Obj.cells cur ty (0, 0)) → ty ≠ 48 → w5.heap[q]? = w.heap[q]? := fun q cur ty hq hty => by
    have hl := lt_get hq
    rw [hg.block q (Nat.lt_of_lt_of_le hl hb.size) fun e => ?_, hb.block q hl]
    rcases h.slots.2 with ⟨e2, -⟩ | ⟨g, cap, cur2, e2, -, hg2, -⟩
    · rw [e2] at e; cases e
    · rw [e2] at e
      cases e
      rw [hg2] at hq
      exact hty (Obj.cells.inj (Option.some.inj hq)).2.1.symm
  have hr5 : w5.heap[r]? = some (.cells #[sv, .int .i64 n, fv, lv] 91 (0, 0)) := (same r _ _ h.obj (by decide)).trans h.obj
  have nr : ∀ (q : Nat) (cur : Array Value) (ty : TypeId), w5.heap[q]? = some (Obj.cells cur ty (0, 0)) → ty ≠ 91 → (w5.setCell ⟨r, 0, none⟩ v').heap[q]? = w5.heap[q]? := fun q cur ty hq hty => Go.heap_setCell_other w5 ⟨r, 0, none⟩ q v' fun e => by
    have e : q = r := e
    subst e
    rw [hr5] at hq
    exact hty (Obj.cells.inj (Option.some.inj hq)).2.1.symm
  have both : ∀ (q : Nat) (cur : Array Value) (ty : TypeId), w.heap[q]? = some (Obj.cells cur ty (0, 0)) → ty ≠ 48 → ty ≠ 91 → (w5.setCell ⟨r, 0, none⟩ v').heap[q]? = w.heap[q]? := fun q cur ty hq t1 t2 => by
    have e := same q cur ty hq t1
    rw [nr q cur ty (e.trans hq) t2, e]
  refine ⟨Go.heap_setCell_same w5 r 0 _ _ v' hr5, ?_, ownsRow_keep h.files fun q cur _ hq => both q cur _ hq (by decide) (by decide), ownsRow_keep h.logs fun q cur _ hq => both q cur _ hq (by decide) (by decide), fun j b hj => ?_, h.len, h.nodup⟩
  · have := ownsRow_keep (w' := w5.setCell ⟨r, 0, none⟩ v') hown fun q cur _ hq => nr q cur _ hq (by decide)
    unfold slotsC at this ⊢
    rw [List.flatMap_append, List.length_append, List.length_singleton]
    simpa using this
  · obtain ⟨L, h1, h2, h3⟩ := h.blk j b hj
    exact ⟨L, h1, h2, (both b _ _ h3 (by decide) (by decide)).trans h3⟩
theorem RvAt.log_put {wa w5 : World} {v' : Value} {b : Nat} {L : List UInt8} (h : RvAt r sl n fs lg sv fv lv bs w) (hb : Below w.heap.size w wa) (hbn : w.heap.size ≤ b) (hbb : wa.heap[b]? = some (.cells (cellsB L) 5 (0, 0))) (hL : L.length = 1024) (hown : w5.ownsRow 0 22 1 v' (bs.length + 1) (logsC bs ++ [.slice (some ⟨b, 0, none⟩) 1024 1024])) (hg : wa.grownBy w5 lv.ownBlock) : RvAt r sl n fs (lg ++ [L]) sv fv v' (bs ++ [b]) (w5.setCell ⟨r, 3, none⟩ v') := by
  have same : ∀ (q : Nat) (cur : Array Value) (ty : TypeId), wa.heap[q]? = some (Obj.cells cur ty (0, 0)) → ty ≠ 22 → w5.heap[q]? = wa.heap[q]? := fun q cur ty hq hty => by
    have hl := lt_get hq
    rw [hg.block q hl fun e => ?_]
    rcases h.logs.2 with ⟨e2, -⟩ | ⟨g, cap, cur2, e2, -, hg2, -⟩
    · rw [e2] at e; cases e
    · rw [e2] at e
      cases e
      rw [hb.block _ (lt_get hg2), hg2] at hq
      exact hty (Obj.cells.inj (Option.some.inj hq)).2.1.symm
  have up : ∀ (q : Nat) (cur : Array Value) (ty : TypeId), w.heap[q]? = some (Obj.cells cur ty (0, 0)) → wa.heap[q]? = some (Obj.cells cur ty (0, 0)) := fun q cur ty hq => (hb.block q (lt_get hq)).trans hq
  have hr5 : w5.heap[r]? = some (.cells #[sv, .int .i64 n, fv, lv] 91 (0, 0)) := (same r _ _ (up _ _ _ h.obj) (by decide)).trans (up _ _ _ h.obj)
  have nr : ∀ (q : Nat) (cur : Array Value) (ty : TypeId), w5.heap[q]? = some (Obj.cells cur ty (0, 0)) → ty ≠ 91 → (w5.setCell ⟨r, 3, none⟩ v').heap[q]? = w5.heap[q]? := fun q cur ty hq hty => Go.heap_setCell_other w5 ⟨r, 3, none⟩ q v' fun e => by
    have e : q = r := e
    subst e
    rw [hr5] at hq
    exact hty (Obj.cells.inj (Option.some.inj hq)).2.1.symm
  have both : ∀ (q : Nat) (cur : Array Value) (ty : TypeId), wa.heap[q]? = some (Obj.cells cur ty (0, 0)) → ty ≠ 22 → ty ≠ 91 → (w5.setCell ⟨r, 3, none⟩ v').heap[q]? = some (Obj.cells cur ty (0, 0)) := fun q cur ty hq t1 t2 => by
    have e := same q cur ty hq t1
    rw [nr q cur ty (e.trans hq) t2, e]
    exact hq
  refine ⟨Go.heap_setCell_same w5 r 3 _ _ v' hr5, ownsRow_keep h.slots fun q cur _ hq => (both q cur _ (up _ _ _ hq) (by decide) (by decide)).trans hq.symm, ownsRow_keep h.files fun q cur _ hq => (both q cur _ (up _ _ _ hq) (by decide) (by decide)).trans hq.symm, ?_, fun j c hj => ?_, by rw [List.length_append, List.length_append, h.len]; rfl, ?_⟩
  · have := ownsRow_keep (w' := w5.setCell ⟨r, 3, none⟩ v') hown fun q cur _ hq => nr q cur _ hq (by decide)
    unfold logsC at this ⊢
    rw [List.map_append, List.length_append, List.length_singleton]
    exact this
  · rw [List.getElem?_append] at hj ⊢
    by_cases hjl : j < bs.length
    · rw [if_pos hjl] at hj
      rw [if_pos (by rw [← h.len]; exact hjl)]
      obtain ⟨L', h1, h2, h3⟩ := h.blk j c hj
      exact ⟨L', h1, h2, both c _ _ (up _ _ _ h3) (by decide) (by decide)⟩
    · rw [if_neg hjl] at hj
      rw [if_neg (by rw [← h.len]; exact hjl), ← h.len]
      have hj0 : j - bs.length = 0 := by
        have := (List.getElem?_eq_some_iff.1 hj).1
        simp at this
        omega
      rw [hj0] at hj ⊢
      cases hj
      exact ⟨L, rfl, hL, both b _ _ hbb (by decide) (by decide)⟩
  · rw [List.nodup_append]
    refine ⟨h.nodup, by simp, fun c hc d hd e => ?_⟩
    rw [List.mem_singleton.1 hd] at e
    have := h.lt (Or.inr (Or.inr (Or.inr (Or.inr hc))))
    omega
end
/-- the document's volume at r, in blocks of a set -/
def RvF (r : Nat) (sl : List Gd.Slot) (n : Int) (fs lg : List (List UInt8)) (w : World) (F : Nat → Prop) : Prop :=
  ∃ sv fv lv bs, RvAt r sl n fs lg sv fv lv bs w ∧ F r ∧ (∀ q, sv.ownBlock = some q → F q) ∧ (∀ q, fv.ownBlock = some q → F q) ∧ (∀ q, lv.ownBlock = some q → F q) ∧ ∀ b ∈ bs, F b
theorem RvF.held (r : Nat) (sl : List Gd.Slot) (n : Int) (fs lg : List (List UInt8)) : Held (RvF r sl n fs lg) where
  keep := by
    rintro w w' F ⟨sv, fv, lv, bs, h, f1, f2, f3, f4, f5⟩ hs hb
    refine ⟨sv, fv, lv, bs, h.keep fun q hq => hb q (h.lt hq) ?_, f1, f2, f3, f4, f5⟩
    rcases hq with rfl | hq | hq | hq | hq
    · exact f1
    · exact f2 q hq
    · exact f3 q hq
    · exact f4 q hq
    · exact f5 q hq
  mono := by
    rintro w F G ⟨sv, fv, lv, bs, h, f1, f2, f3, f4, f5⟩ hG
    exact ⟨sv, fv, lv, bs, h, hG _ (h.lt (Or.inl rfl)) f1, fun q hq => hG q (h.lt (Or.inr (Or.inl hq))) (f2 q hq), fun q hq => hG q (h.lt (Or.inr (Or.inr (Or.inl hq)))) (f3 q hq), fun q hq => hG q (h.lt (Or.inr (Or.inr (Or.inr (Or.inl hq))))) (f4 q hq), fun b hb => hG b (h.lt (Or.inr (Or.inr (Or.inr (Or.inr hb))))) (f5 b hb)⟩
end Go.Proofs.YtccpdkjonepoiaaGreatDoor

/- Walk: commonsref17.New. -/
namespace Go.Proofs.YtccpdkjonepoiaaGreatDoor
open Go.RowKit Go.Shelf

attribute [local go_sem] Oper.semAt_some

theorem Tryz.infoSlotZ : (Tryz.prog.info? 48).map (fun i => (i.zero, i.size, i.bytes)) = some (some (.agg #[.int .i64 0, .int .i64 0, .int .i64 0, .int .i64 0, .int .i64 0, .int .i64 0]), 6, 48) := by kernel_rfl
theorem Tryz.infoByS : (Tryz.prog.info? 22).map (fun i => (i.zero, i.size, i.bytes)) = some (some (.slice none 0 0), 1, 24) := by kernel_rfl
theorem made_zeros1 (n : Nat) : madeCells (Value.int .u8 0).cells n = cellsB (List.replicate n 0) := by
  have hc : (Value.int .u8 0).cells = Array.replicate 1 (.int .u8 0) := by kernel_rfl
  rw [hc]
  unfold madeCells cellsB Lib.byteCells
  apply Array.ext
  · simp
  · intro i h1 h2
    simp only [Array.getElem_map, Array.getElem_range, List.getElem_toArray, List.getElem_map, List.getElem_replicate]
    rw [getElem!_pos _ _ (by simp; omega)]
    simp
theorem made1024 (W : World) : (Instr.makeSlice 22 (.int .i64 1024) (.int .i64 1024)).run Tryz.prog W = .ok (.slice (some ⟨W.heap.size, 0, none⟩) 1024 1024) (W.alloc (.cells (cellsB (List.replicate 1024 0)) 5)) := by
  obtain ⟨i0, hi, hz0, hz1, hz2⟩ := info_parts Tryz.infoU8
  have := run_makeSlice (P := Tryz.prog) (w := W) 22 5 i0 _ Tryz.underlying22 hi hz0 .i64 .i64 1024 1024 (by omega) (by omega) (by rw [hz1]; decide) (by rw [hz2]; omega) (by omega)
  rw [hz1, show madeCells (Value.int .u8 0).cells (Int.toNat 1024 * 1) = cellsB (List.replicate 1024 0) from made_zeros1 1024] at this
  exact this
theorem cells_new6 (w : World) (l : List Value) (t : TypeId) : ∀ j u, l[j]? = some u → (w.alloc (.cells l.toArray t)).cell? ((⟨w.heap.size, 0, none⟩ : Addr).add j) = some u := by
  intro j u hj
  have h := cell_of_row (w.alloc (.cells l.toArray t)) w.heap.size j _ _ _ (heap_alloc_new w _)
  have h2 : l.toArray[j]? = some u := by simpa using hj
  by_cases h0 : j = 0
  · subst h0; simpa [Addr.add] using h.trans h2
  · simpa [Addr.add, h0] using h.trans h2
theorem own_form {w : World} {B e size n : Nat} {v : Value} {xs : List Value} (h : w.ownsRow B e size v n xs) : ∃ A c, v = .slice A n c := by
  rcases h.2 with ⟨rfl, rfl⟩ | ⟨g, cap, cur, rfl, -⟩
  · exact ⟨none, 0, rfl⟩
  · exact ⟨_, _, rfl⟩
theorem slotC0 : (slotC ⟨0, 0, 0, 0, 0, 0⟩).toList = [.int .i64 0, .int .i64 0, .int .i64 0, .int .i64 0, .int .i64 0, .int .i64 0] := rfl
def zslot : Gd.Slot := ⟨0, 0, 0, 0, 0, 0⟩
def zlog : List UInt8 := List.replicate 1024 0
theorem zlog_len : zlog.length = 1024 := List.length_replicate
/-- the document's volume at r, so many clients' slots and logs laid -/
def RvN (r k : Nat) (w0 w : World) : Prop := RvF r (List.replicate k zslot) 4 [[], [], [], []] (List.replicate k zlog) w (fun q => w0.heap.size ≤ q) ∧ Below w0.heap.size w0 w

def strsC : Array Value := #[.string ⟨#[]⟩, .string ⟨#[]⟩, .string ⟨#[]⟩, .string ⟨#[]⟩]
theorem rv_start (w : World) : RvN (w.heap.size + 1) 0 w ((w.alloc (.cells strsC 9)).alloc (.cells #[.slice none 0 0, .int .i64 4, .slice (some ⟨w.heap.size, 0, none⟩) 4 4, .slice none 0 0] 91)) := by
  have hb1 := (Below.refl w.heap.size w).alloc (Nat.le_refl _) (.cells strsC 9)
  have hn1 := heap_alloc_new w (.cells strsC 9)
  generalize hw1 : w.alloc (.cells strsC 9) = w1 at hb1 hn1 ⊢
  have hs1 : w1.heap.size = w.heap.size + 1 := by rw [← hw1]; simp
  have hb2 := (Below.refl w1.heap.size w1).alloc (Nat.le_refl _) (.cells #[.slice none 0 0, .int .i64 4, .slice (some ⟨w.heap.size, 0, none⟩) 4 4, .slice none 0 0] 91)
  have hn2 := heap_alloc_new w1 (.cells #[.slice none 0 0, .int .i64 4, .slice (some ⟨w.heap.size, 0, none⟩) 4 4, .slice none 0 0] 91)
  rw [hs1] at hn2
  refine ⟨⟨.slice none 0 0, .slice (some ⟨w.heap.size, 0, none⟩) 4 4, .slice none 0 0, [], ⟨hn2, World.ownsRow_nil _ _ _ _, ⟨rfl, Or.inr ⟨w.heap.size, 4, strsC, rfl, Nat.zero_le _, (hb2.block _ (lt_get hn1)).trans hn1, Nat.le_refl _, by unfold maxLen; omega, rfl, rfl⟩⟩, World.ownsRow_nil _ _ _ _, fun j b hj => by simp at hj, rfl, List.nodup_nil⟩, (by omega), (fun q hq => by cases hq), (fun q hq => by cases hq; exact Nat.le_refl _), (fun q hq => by cases hq), (fun b hb => by cases hb)⟩, hb1.trans (hb2.mono hb1.size)⟩
/-- what an append to one of its rows leaves below -/
theorem rv_below {w wr w5 w6 : World} {r j : Nat} {v v' : Value} {o : Obj} (hB : Below w.heap.size w wr) (hr : r < wr.heap.size) (hg : (wr.alloc o).grownBy w5 v.ownBlock) (hv : ∀ q, v.ownBlock = some q → w.heap.size ≤ q) (hr2 : w.heap.size ≤ r) (hw6 : w6 = w5.setCell ⟨r, j, none⟩ v') : Below w.heap.size w w6 ∧ wr.heap.size ≤ w6.heap.size := by
  have h1 : Below w.heap.size w (wr.alloc o) := hB.trans ((Below.refl wr.heap.size wr).alloc (Nat.le_refl _) o |>.mono hB.size)
  have h2 := (grown_only (F := fun k => w.heap.size ≤ k) hg fun k e => hv k e)
  have h3 : Below w.heap.size w w5 := h1.trans (h2.below h1.size fun k hk e => by omega)
  have hs := h2.size
  have hs2 : (wr.alloc o).heap.size = wr.heap.size + 1 := by simp
  subst hw6
  exact ⟨h3.setCell hr2 v', by rw [show (w5.setCell ⟨r, j, none⟩ v').heap.size = w5.heap.size by simp]; omega⟩
theorem rv_own {w wr : World} {v : Value} {gq : Nat} {n c : Nat} (hv : ∀ q, v.ownBlock = some q → w.heap.size ≤ q) (h : v.ownBlock = some gq ∨ gq = wr.heap.size + 1) (hB : w.heap.size ≤ wr.heap.size) : ∀ q, (Value.slice (some ⟨gq, 0, none⟩) n c).ownBlock = some q → w.heap.size ≤ q := by
  intro q hq
  cases hq
  rcases h with h | h
  · exact hv _ h
  · show _ ≤ gq
    omega
theorem rv_own2 {n : Nat} {v : Value} {gq m k c : Nat} (hv : ∀ q, v.ownBlock = some q → n ≤ q) (h : v.ownBlock = some gq ∨ gq = m) (hB : n ≤ m) : ∀ q, (Value.slice (some ⟨gq, 0, none⟩) k c).ownBlock = some q → n ≤ q := by
  intro q hq
  cases hq
  rcases h with h | h
  · exact hv _ h
  · show _ ≤ gq
    omega
/-- a log more -/
theorem rv_fin {w wd wn : World} {r k b : Nat} {sv fv : Value} {lA : Option Addr} {lc : Nat} {bs : List Nat} (h : RvAt r (List.replicate (k + 1) zslot) 4 [[], [], [], []] (List.replicate k zlog) sv fv (.slice lA k lc) bs wd) (hB : Below w.heap.size w wd) (hbl : bs.length = k) (hb : Below wd.heap.size wd wn) (hbn : wd.heap.size ≤ b) (hbb : wn.heap[b]? = some (.cells (cellsB zlog) 5 (0, 0))) (f1 : w.heap.size ≤ r) (f2 : ∀ q, sv.ownBlock = some q → w.heap.size ≤ q) (f3 : ∀ q, fv.ownBlock = some q → w.heap.size ≤ q) (f4 : ∀ q, (Value.slice lA k lc).ownBlock = some q → w.heap.size ≤ q) (f5 : ∀ q ∈ bs, w.heap.size ≤ q) :
    ∀ (w7 : World) (v' : Value), w7.ownsRow 0 22 1 v' (k + 1) (logsC bs ++ [.slice (some ⟨b, 0, none⟩) 1024 1024]) → wn.grownBy w7 (Value.slice lA k lc).ownBlock → (∀ q, v'.ownBlock = some q → w.heap.size ≤ q) → RvN r (k + 1) w (w7.setCell ⟨r, 3, none⟩ v') := by
  intro w7 v' hown hg hv'
  have hp := h.log_put hb hbn hbb zlog_len (by rw [hbl]; exact hown) hg
  rw [show List.replicate k zlog ++ [zlog] = List.replicate (k + 1) zlog from (List.replicate_succ' ..).symm] at hp
  have hBn : Below w.heap.size w wn := hB.trans (hb.mono hB.size)
  have h2 := (grown_only (F := fun q => w.heap.size ≤ q) hg fun q e => f4 q e)
  refine ⟨⟨sv, fv, v', bs ++ [b], hp, f1, f2, f3, hv', fun q hq => ?_⟩, (hBn.trans (h2.below hBn.size fun q hq e => by omega)).setCell f1 v'⟩
  rcases List.mem_append.1 hq with hq | hq
  · exact f5 q hq
  · rw [List.mem_singleton.1 hq]
    exact Nat.le_trans hB.size hbn
set_option maxHeartbeats 8000000 in
set_option maxRecDepth 100000 in
theorem rnew17_any (w : World) : Calls Tryz.prog 51 #[.int .i64 4] w fun e w' => ∃ r, e = .returned (.pointer (some ⟨r, 0, none⟩)) ∧ RvN r 8 w w' := by
  obtain ⟨i0, hi, hz0, hz1, hz2⟩ := info_parts Tryz.infoSlotZ
  obtain ⟨j0, hj, hy0, hy1, hy2⟩ := info_parts Tryz.infoByS
  have Hmk := Lib.hid made1024
  have hst := Lib.hid (rv_start w)
  unfold strsC at hst
  go_enter Tryz.func51, Tryz.ntmps51
  go_upto_region 2 with fail
  generalize ((w.alloc _).alloc _) = w2 at hst ⊢
  generalize w.heap.size + 1 = r at hst ⊢
  go_wp2
  go_loopw [4] (fun i wr => ∃ k : Nat, i = .int .i64 k ∧ k ≤ 8 ∧ Hid (RvN r k w wr)) (fun i _ => 8 - (intOf i).toNat)
  case atStart => exact ⟨0, rfl, by omega, hst⟩
  case round =>
    obtain ⟨k, rfl, hk, HR⟩ := hrel
    by_cases hlt : k < 8
    · obtain ⟨⟨sv, fv, lv, bs, hR, f1, f2, f3, f4, f5⟩, hB⟩ := HR.out
      have hkI : (k : Int) < 8 := by omega
      have hk0 : (0 : Int) ≤ k := by omega
      obtain ⟨sA, sc, hsv⟩ := own_form hR.slots
      rw [List.length_replicate] at hsv
      have hbl : bs.length = k := by rw [hR.len, List.length_replicate]
      obtain ⟨lA, lc, hlv⟩ := own_form hR.logs
      rw [hbl] at hlv
      subst hsv
      subst hlv
      have HSl : Hid (wr.ownsRow 0 48 6 (.slice sA k sc) k (slotsC (List.replicate k zslot))) := Lib.hid (by
        have := hR.slots
        rw [List.length_replicate] at this
        exact this)
      have HObj5 := Lib.hid fun (w5 : World) hg => hR.obj5 (w5 := w5) ((Below.refl wr.heap.size wr).alloc (Nat.le_refl _) (.cells #[.int .i64 0, .int .i64 0, .int .i64 0, .int .i64 0, .int .i64 0, .int .i64 0] 48)) hg
      have HPut := Lib.hid fun (w5 : World) (v' : Value) (hown : w5.ownsRow 0 48 6 v' (k + 1) (slotsC (List.replicate k zslot) ++ (slotC zslot).toList)) hg => hR.slot_put (x := zslot) (w5 := w5) ((Below.refl wr.heap.size wr).alloc (Nat.le_refl _) (.cells #[.int .i64 0, .int .i64 0, .int .i64 0, .int .i64 0, .int .i64 0, .int .i64 0] 48)) (by rw [List.length_replicate]; exact hown) hg
      have Hf := Lib.hid (And.intro f1 (And.intro f2 (And.intro f3 (And.intro f4 f5))))
      have HB := Lib.hid hB
      have Hbl := Lib.hid hbl
      have c0 : wr.cell? ⟨r, 0, none⟩ = some (.slice sA k sc) := cell_of_row wr r 0 _ _ _ hR.obj
      have HRlt := Lib.hid (lt_get hR.obj)
      clear HR hR hB f1 f2 f3 f4 f5 hbl hlt
      go_upto_region 6 with (at_builtin; go_loud (refine wpList_append_lies _ rfl _ _ 87 rfl 0 48 i0 _ 6 48 Tryz.underlying87 hi hz0 hz1 hz2 rfl (by decide) (.slice sA k sc) k _ rfl (HSl.out.alloc _) ⟨wr.heap.size, 0, none⟩ 1 1 [.int .i64 0, .int .i64 0, .int .i64 0, .int .i64 0, .int .i64 0, .int .i64 0] rfl rfl (cells_new6 _ _ _) (by intro u hu; simp at hu; subst hu; rfl) (by omega) (by unfold maxLen; omega) (by omega) (Nat.zero_le _) (wr.heap.size + 1) (by simp) ?_); intro gq cap w5 hown5 hgrow5 hat5 hlt5; have hr5 := HObj5.out w5 hgrow5; have g0 : w5.frozen? ⟨r, 0, none⟩ = false := frozen_of_row w5 r 0 _ _ hr5; have d0 : w5.cell? ⟨r, 0, none⟩ = some (.slice sA k sc) := cell_of_row w5 r 0 _ _ _ hr5; have HP5 := Lib.hid (HPut.out w5 _ hown5 hgrow5); have HG5 := Lib.hid (And.intro hgrow5 hat5); clear hr5 hown5 hgrow5 hat5 hlt5)
      obtain ⟨w6, hw6⟩ : ∃ w6, w6 = w5.setCell ⟨r, 0, none⟩ (.slice (some ⟨gq, 0, none⟩) (k + 1) cap) := ⟨_, rfl⟩
      have h6 := HP5.out
      rw [← hw6] at h6 ⊢
      rw [show List.replicate k zslot ++ [zslot] = List.replicate (k + 1) zslot from (List.replicate_succ' ..).symm] at h6
      have hB6 : Below w.heap.size w w6 ∧ wr.heap.size ≤ w6.heap.size := rv_below HB.out HRlt.out HG5.out.1 (fun q hq => Hf.out.2.1 q hq) Hf.out.1 hw6
      obtain ⟨hB6a, hB6b⟩ := hB6
      obtain ⟨wd, hwd⟩ : ∃ wd, wd = w6.drew := ⟨_, rfl⟩
      have h6d : RvAt r (List.replicate (k + 1) zslot) 4 [[], [], [], []] (List.replicate k zlog) (.slice (some ⟨gq, 0, none⟩) (k + 1) cap) fv (.slice lA k lc) bs wd := by rw [hwd]; exact h6.keep fun _ _ => rfl
      have hBd : Below w.heap.size w wd := by rw [hwd]; exact hB6a.drew
      have HWd := Lib.hid hwd.symm
      have hc3 : wd.cell? ⟨r, 3, none⟩ = some (.slice lA k lc) := cell_of_row wd r 3 _ _ _ h6d.obj
      have hba := (Below.refl wd.heap.size wd).alloc (Nat.le_refl _) (.cells (cellsB (List.replicate 1024 0)) 5)
      have hnb := heap_alloc_new wd (.cells (cellsB (List.replicate 1024 0)) 5)
      have hkd := Hmk.out wd
      obtain ⟨wm, hwm⟩ : ∃ wm, wm = wd.alloc (.cells (cellsB (List.replicate 1024 0)) 5) := ⟨_, rfl⟩
      rw [← hwm] at hba hnb hkd
      have hsm : wm.heap.size = wd.heap.size + 1 := by rw [hwm]; simp
      have hmc3 : wm.cell? ⟨r, 3, none⟩ = some (.slice lA k lc) := (hba.cell (p := ⟨r, 3, none⟩) (lt_get h6d.obj)).trans hc3
      have hbn := (Below.refl wm.heap.size wm).alloc (Nat.le_refl _) (.cells #[.slice (some ⟨wd.heap.size, 0, none⟩) 1024 1024] 22)
      have hnc3 : (wm.alloc (.cells #[.slice (some ⟨wd.heap.size, 0, none⟩) 1024 1024] 22)).cell? ⟨r, 3, none⟩ = some (.slice lA k lc) := (hbn.cell (p := ⟨r, 3, none⟩) (Nat.lt_of_lt_of_le (lt_get h6d.obj) hba.size)).trans hmc3
      have hbdn : Below wd.heap.size wd (wm.alloc (.cells #[.slice (some ⟨wd.heap.size, 0, none⟩) 1024 1024] 22)) := hba.trans (hbn.mono hba.size)
      have HObj := Lib.hid fun (w7 : World) hg => h6d.obj5l (w5 := w7) hbdn hg
      have HLr : Hid ((wm.alloc (.cells #[.slice (some ⟨wd.heap.size, 0, none⟩) 1024 1024] 22)).ownsRow 0 22 1 (.slice lA k lc) k (logsC bs)) := Lib.hid (by
        have := h6d.logs
        rw [Hbl.out] at this
        exact ownsRow_keep this fun q cur _ hq => hbdn.block q (lt_get hq))
      have HFin := Lib.hid (rv_fin (w := w) h6d hBd Hbl.out hbdn (Nat.le_refl _) (show (wm.alloc (.cells #[.slice (some ⟨wd.heap.size, 0, none⟩) 1024 1024] 22)).heap[wd.heap.size]? = some (.cells (cellsB zlog) 5 (0, 0)) from (hbn.block _ (by omega)).trans hnb) Hf.out.1 (rv_own (fun q hq => Hf.out.2.1 q hq) HG5.out.2 HB.out.size) Hf.out.2.2.1 Hf.out.2.2.2.1 Hf.out.2.2.2.2)
      have HSz : Hid (w.heap.size ≤ wm.heap.size + 1) := Lib.hid (by have := hBd.size; omega)
      clear h6 h6d hB6a hB6b hBd hwd hba hnb hwm hbn hbdn hw6 g0 d0 c0 hsm
      refine wp_region_held_drew (S := fun _ => True) (by kernel_rfl) trivial (fun hHeld => ?_)
      refine wpAnyH_take (i := 0) (oi := _) (v := ?_) rfl (by kernel_rfl) (by kernel_rfl) (by kernel_rfl) (fun _ _ _ h => h) (Or.inl ⟨by rfl, ?_⟩) (by assumption) ?_
      rotate_left
      · intro w hSw
        (try dsimp only at hSw)
        first | (go_simp; done) | (go_simp; with_reducible rfl)
      try simp only [List.getElem_toArray, List.getElem_cons_succ, List.getElem_cons_zero, Act.put, List.setIfInBounds_toArray, List.set_cons_zero, List.set_cons_succ]
      refine wpAnyH_take (i := 1) (oi := _) (v := ?_) rfl (by kernel_rfl) (by kernel_rfl) (by kernel_rfl) (fun _ _ _ h => h) (Or.inl ⟨by rfl, ?_⟩) (by assumption) ?_
      rotate_left
      · intro w hSw
        (try dsimp only at hSw)
        first | (go_simp; done) | (go_simp; with_reducible rfl)
      try simp only [List.getElem_toArray, List.getElem_cons_succ, List.getElem_cons_zero, Act.put, List.setIfInBounds_toArray, List.set_cons_zero, List.set_cons_succ]
      refine wpAnyH_take (i := 2) (oi := _) (v := ?_) rfl (by kernel_rfl) (by kernel_rfl) (by kernel_rfl) (fun _ _ _ h => h) (Or.inl ⟨by rfl, ?_⟩) (by assumption) ?_
      rotate_left
      · intro w hSw
        (try dsimp only at hSw)
        first | (go_simp; done) | (go_simp; with_reducible rfl)
      try simp only [List.getElem_toArray, List.getElem_cons_succ, List.getElem_cons_zero, Act.put, List.setIfInBounds_toArray, List.set_cons_zero, List.set_cons_succ]
      refine wpAnyH_take (i := 3) (oi := _) (v := ?_) rfl (by kernel_rfl) (by kernel_rfl) (by kernel_rfl) (fun _ _ _ h => h) (Or.inl ⟨by rfl, ?_⟩) (by assumption) ?_
      rotate_left
      · intro w hSw
        (try dsimp only at hSw)
        first | (go_simp; done) | (go_simp; with_reducible rfl)
      try simp only [List.getElem_toArray, List.getElem_cons_succ, List.getElem_cons_zero, Act.put, List.setIfInBounds_toArray, List.set_cons_zero, List.set_cons_succ]
      change wpAnyH _ _ _ _ _ _ _ _ w6.drew
      rw [HWd.out]
      refine wpAnyH_ready (rs := [4, 5]) (by kernel_rfl) (by simp) ?_
      refine AllReadyH.cons (o := _) rfl (fun K hK => ?_) (AllReadyH.cons (o := _) rfl (fun K hK => ?_) AllReadyH.nil)
      · go_simp
        try dsimp only
        refine hK.out _ _ trivial (fun hHeld => ?_)
        clear hK K
        try simp only [List.getElem_toArray, List.getElem_cons_succ, List.getElem_cons_zero, Act.put, List.setIfInBounds_toArray, List.set_cons_zero, List.set_cons_succ]
        refine wpAnyH_ready (rs := [5]) (by kernel_rfl) (by simp) ?_
        refine AllReadyH.cons (o := _) rfl (fun K hK => ?_) AllReadyH.nil
        go_simp
        try dsimp only
        refine hK.out _ _ trivial (fun hHeld => ?_)
        clear hK K
        try simp only [List.getElem_toArray, List.getElem_cons_succ, List.getElem_cons_zero, Act.put, List.setIfInBounds_toArray, List.set_cons_zero, List.set_cons_succ]
        refine wpAnyH_ready (rs := [6]) (by kernel_rfl) (by simp) ?_
        refine AllReadyH.cons (o := _) rfl (fun K hK => ?_) AllReadyH.nil
        go_simp
        try dsimp only
        refine hK.out _ _ trivial (fun hHeld => ?_)
        clear hK K
        try simp only [List.getElem_toArray, List.getElem_cons_succ, List.getElem_cons_zero, Act.put, List.setIfInBounds_toArray, List.set_cons_zero, List.set_cons_succ]
        refine wpAnyH_ready (rs := [7]) (by kernel_rfl) (by simp) ?_
        refine AllReadyH.cons (o := _) rfl (fun K hK => ?_) AllReadyH.nil
        refine step_append_lies _ (by rfl) _ _ 89 (by rfl) 0 22 j0 _ 1 24 Tryz.underlying89 hj hy0 hy1 hy2 rfl (by decide) (.slice lA k lc) k _ rfl HLr.out ⟨wm.heap.size, 0, none⟩ 1 1 [.slice (some ⟨wd.heap.size, 0, none⟩) 1024 1024] rfl rfl (cell_one_new _ _ _) (by intro u hu; simp at hu; subst hu; rfl) (by omega) (by unfold maxLen; omega) (by omega) (Nat.zero_le _) (wm.heap.size + 1) (by simp) ?_
        intro gq cap w7 hown7 hgrow7 hat7 hlt7
        try dsimp only
        refine hK.out _ _ trivial (fun hHeld => ?_)
        clear hK K
        try simp only [List.getElem_toArray, List.getElem_cons_succ, List.getElem_cons_zero, Act.put, List.setIfInBounds_toArray, List.set_cons_zero, List.set_cons_succ]
        have hr7 := HObj.out w7 hgrow7
        have g3 : w7.frozen? ⟨r, 3, none⟩ = false := frozen_of_row w7 r 3 _ _ hr7
        have d3 : w7.cell? ⟨r, 3, none⟩ = some (.slice lA k lc) := cell_of_row w7 r 3 _ _ _ hr7
        have HF7 := Lib.hid (HFin.out w7 _ hown7 hgrow7 (rv_own2 Hf.out.2.2.2.1 hat7 HSz.out))
        clear hr7
        refine wpAnyH_take (i := 8) (oi := _) (v := ?_) rfl (by kernel_rfl) (by kernel_rfl) (by kernel_rfl) (fun _ _ _ h => h) (Or.inl ⟨by rfl, ?_⟩) (by assumption) ?_
        rotate_left
        · intro w hSw
          (try dsimp only at hSw)
          first | (go_simp; done) | (go_simp; with_reducible rfl)
        try simp only [List.getElem_toArray, List.getElem_cons_succ, List.getElem_cons_zero, Act.put, List.setIfInBounds_toArray, List.set_cons_zero, List.set_cons_succ]
        refine wpAnyH_take (i := 9) (oi := _) (v := ?_) rfl (by kernel_rfl) (by kernel_rfl) (by kernel_rfl) (fun _ _ _ h => h) (Or.inl ⟨by rfl, ?_⟩) (by assumption) ?_
        rotate_left
        · intro w hSw
          (try dsimp only at hSw)
          first | (go_simp; done) | (go_simp; with_reducible rfl)
        try simp only [List.getElem_toArray, List.getElem_cons_succ, List.getElem_cons_zero, Act.put, List.setIfInBounds_toArray, List.set_cons_zero, List.set_cons_succ]
        refine wpAnyH_ready (rs := [10]) (by kernel_rfl) (by simp) ?_
        refine AllReadyH.cons (o := _) rfl (fun K hK => ?_) AllReadyH.nil
        go_simp
        try dsimp only
        refine hK.out _ _ trivial (fun hHeld => ?_)
        clear hK K
        try simp only [List.getElem_toArray, List.getElem_cons_succ, List.getElem_cons_zero, Act.put, List.setIfInBounds_toArray, List.set_cons_zero, List.set_cons_succ]
        refine wpAnyH_done (by kernel_rfl) ?_ _
        (try simp only [Exit.then])
        clear g3 d3 hown7 hgrow7 hat7 hlt7
        go_wp2
        go_roundw
        case rel => exact ⟨k + 1, by go_num, by omega, HF7⟩
        case measure => simp [intOf]; omega

      · go_simp
        try dsimp only
        refine hK.out _ _ trivial (fun hHeld => ?_)
        clear hK K
        try simp only [List.getElem_toArray, List.getElem_cons_succ, List.getElem_cons_zero, Act.put, List.setIfInBounds_toArray, List.set_cons_zero, List.set_cons_succ]
        refine wpAnyH_ready (rs := [4, 6]) (by kernel_rfl) (by simp) ?_
        refine AllReadyH.cons (o := _) rfl (fun K hK => ?_) (AllReadyH.cons (o := _) rfl (fun K hK => ?_) AllReadyH.nil)
        · go_simp
          try dsimp only
          refine hK.out _ _ trivial (fun hHeld => ?_)
          clear hK K
          try simp only [List.getElem_toArray, List.getElem_cons_succ, List.getElem_cons_zero, Act.put, List.setIfInBounds_toArray, List.set_cons_zero, List.set_cons_succ]
          refine wpAnyH_ready (rs := [6]) (by kernel_rfl) (by simp) ?_
          refine AllReadyH.cons (o := _) rfl (fun K hK => ?_) AllReadyH.nil
          go_simp
          try dsimp only
          refine hK.out _ _ trivial (fun hHeld => ?_)
          clear hK K
          try simp only [List.getElem_toArray, List.getElem_cons_succ, List.getElem_cons_zero, Act.put, List.setIfInBounds_toArray, List.set_cons_zero, List.set_cons_succ]
          refine wpAnyH_ready (rs := [7]) (by kernel_rfl) (by simp) ?_
          refine AllReadyH.cons (o := _) rfl (fun K hK => ?_) AllReadyH.nil
          refine step_append_lies _ (by rfl) _ _ 89 (by rfl) 0 22 j0 _ 1 24 Tryz.underlying89 hj hy0 hy1 hy2 rfl (by decide) (.slice lA k lc) k _ rfl HLr.out ⟨wm.heap.size, 0, none⟩ 1 1 [.slice (some ⟨wd.heap.size, 0, none⟩) 1024 1024] rfl rfl (cell_one_new _ _ _) (by intro u hu; simp at hu; subst hu; rfl) (by omega) (by unfold maxLen; omega) (by omega) (Nat.zero_le _) (wm.heap.size + 1) (by simp) ?_
          intro gq cap w7 hown7 hgrow7 hat7 hlt7
          try dsimp only
          refine hK.out _ _ trivial (fun hHeld => ?_)
          clear hK K
          try simp only [List.getElem_toArray, List.getElem_cons_succ, List.getElem_cons_zero, Act.put, List.setIfInBounds_toArray, List.set_cons_zero, List.set_cons_succ]
          have hr7 := HObj.out w7 hgrow7
          have g3 : w7.frozen? ⟨r, 3, none⟩ = false := frozen_of_row w7 r 3 _ _ hr7
          have d3 : w7.cell? ⟨r, 3, none⟩ = some (.slice lA k lc) := cell_of_row w7 r 3 _ _ _ hr7
          have HF7 := Lib.hid (HFin.out w7 _ hown7 hgrow7 (rv_own2 Hf.out.2.2.2.1 hat7 HSz.out))
          clear hr7
          refine wpAnyH_take (i := 8) (oi := _) (v := ?_) rfl (by kernel_rfl) (by kernel_rfl) (by kernel_rfl) (fun _ _ _ h => h) (Or.inl ⟨by rfl, ?_⟩) (by assumption) ?_
          rotate_left
          · intro w hSw
            (try dsimp only at hSw)
            first | (go_simp; done) | (go_simp; with_reducible rfl)
          try simp only [List.getElem_toArray, List.getElem_cons_succ, List.getElem_cons_zero, Act.put, List.setIfInBounds_toArray, List.set_cons_zero, List.set_cons_succ]
          refine wpAnyH_take (i := 9) (oi := _) (v := ?_) rfl (by kernel_rfl) (by kernel_rfl) (by kernel_rfl) (fun _ _ _ h => h) (Or.inl ⟨by rfl, ?_⟩) (by assumption) ?_
          rotate_left
          · intro w hSw
            (try dsimp only at hSw)
            first | (go_simp; done) | (go_simp; with_reducible rfl)
          try simp only [List.getElem_toArray, List.getElem_cons_succ, List.getElem_cons_zero, Act.put, List.setIfInBounds_toArray, List.set_cons_zero, List.set_cons_succ]
          refine wpAnyH_ready (rs := [10]) (by kernel_rfl) (by simp) ?_
          refine AllReadyH.cons (o := _) rfl (fun K hK => ?_) AllReadyH.nil
          go_simp
          try dsimp only
          refine hK.out _ _ trivial (fun hHeld => ?_)
          clear hK K
          try simp only [List.getElem_toArray, List.getElem_cons_succ, List.getElem_cons_zero, Act.put, List.setIfInBounds_toArray, List.set_cons_zero, List.set_cons_succ]
          refine wpAnyH_done (by kernel_rfl) ?_ _
          (try simp only [Exit.then])
          clear g3 d3 hown7 hgrow7 hat7 hlt7
          go_wp2
          go_roundw
          case rel => exact ⟨k + 1, by go_num, by omega, HF7⟩
          case measure => simp [intOf]; omega

        · go_simp
          try dsimp only
          refine hK.out _ _ trivial (fun hHeld => ?_)
          clear hK K
          try simp only [List.getElem_toArray, List.getElem_cons_succ, List.getElem_cons_zero, Act.put, List.setIfInBounds_toArray, List.set_cons_zero, List.set_cons_succ]
          refine wpAnyH_ready (rs := [4]) (by kernel_rfl) (by simp) ?_
          refine AllReadyH.cons (o := _) rfl (fun K hK => ?_) AllReadyH.nil
          go_simp
          try dsimp only
          refine hK.out _ _ trivial (fun hHeld => ?_)
          clear hK K
          try simp only [List.getElem_toArray, List.getElem_cons_succ, List.getElem_cons_zero, Act.put, List.setIfInBounds_toArray, List.set_cons_zero, List.set_cons_succ]
          refine wpAnyH_ready (rs := [7]) (by kernel_rfl) (by simp) ?_
          refine AllReadyH.cons (o := _) rfl (fun K hK => ?_) AllReadyH.nil
          refine step_append_lies _ (by rfl) _ _ 89 (by rfl) 0 22 j0 _ 1 24 Tryz.underlying89 hj hy0 hy1 hy2 rfl (by decide) (.slice lA k lc) k _ rfl HLr.out ⟨wm.heap.size, 0, none⟩ 1 1 [.slice (some ⟨wd.heap.size, 0, none⟩) 1024 1024] rfl rfl (cell_one_new _ _ _) (by intro u hu; simp at hu; subst hu; rfl) (by omega) (by unfold maxLen; omega) (by omega) (Nat.zero_le _) (wm.heap.size + 1) (by simp) ?_
          intro gq cap w7 hown7 hgrow7 hat7 hlt7
          try dsimp only
          refine hK.out _ _ trivial (fun hHeld => ?_)
          clear hK K
          try simp only [List.getElem_toArray, List.getElem_cons_succ, List.getElem_cons_zero, Act.put, List.setIfInBounds_toArray, List.set_cons_zero, List.set_cons_succ]
          have hr7 := HObj.out w7 hgrow7
          have g3 : w7.frozen? ⟨r, 3, none⟩ = false := frozen_of_row w7 r 3 _ _ hr7
          have d3 : w7.cell? ⟨r, 3, none⟩ = some (.slice lA k lc) := cell_of_row w7 r 3 _ _ _ hr7
          have HF7 := Lib.hid (HFin.out w7 _ hown7 hgrow7 (rv_own2 Hf.out.2.2.2.1 hat7 HSz.out))
          clear hr7
          refine wpAnyH_take (i := 8) (oi := _) (v := ?_) rfl (by kernel_rfl) (by kernel_rfl) (by kernel_rfl) (fun _ _ _ h => h) (Or.inl ⟨by rfl, ?_⟩) (by assumption) ?_
          rotate_left
          · intro w hSw
            (try dsimp only at hSw)
            first | (go_simp; done) | (go_simp; with_reducible rfl)
          try simp only [List.getElem_toArray, List.getElem_cons_succ, List.getElem_cons_zero, Act.put, List.setIfInBounds_toArray, List.set_cons_zero, List.set_cons_succ]
          refine wpAnyH_take (i := 9) (oi := _) (v := ?_) rfl (by kernel_rfl) (by kernel_rfl) (by kernel_rfl) (fun _ _ _ h => h) (Or.inl ⟨by rfl, ?_⟩) (by assumption) ?_
          rotate_left
          · intro w hSw
            (try dsimp only at hSw)
            first | (go_simp; done) | (go_simp; with_reducible rfl)
          try simp only [List.getElem_toArray, List.getElem_cons_succ, List.getElem_cons_zero, Act.put, List.setIfInBounds_toArray, List.set_cons_zero, List.set_cons_succ]
          refine wpAnyH_ready (rs := [10]) (by kernel_rfl) (by simp) ?_
          refine AllReadyH.cons (o := _) rfl (fun K hK => ?_) AllReadyH.nil
          go_simp
          try dsimp only
          refine hK.out _ _ trivial (fun hHeld => ?_)
          clear hK K
          try simp only [List.getElem_toArray, List.getElem_cons_succ, List.getElem_cons_zero, Act.put, List.setIfInBounds_toArray, List.set_cons_zero, List.set_cons_succ]
          refine wpAnyH_done (by kernel_rfl) ?_ _
          (try simp only [Exit.then])
          clear g3 d3 hown7 hgrow7 hat7 hlt7
          go_wp2
          go_roundw
          case rel => exact ⟨k + 1, by go_num, by omega, HF7⟩
          case measure => simp [intOf]; omega

    · obtain rfl : k = 8 := by omega
      clear hlt
      go_wp2
      go_ret
      exact ⟨r, rfl, HR.out⟩

end Go.Proofs.YtccpdkjonepoiaaGreatDoor

/- Walks: commonslaw17.begin. -/
namespace Go.Proofs.YtccpdkjonepoiaaGreatDoor
open Go.RowKit Go.Shelf

attribute [local go_sem] Oper.semAt_some

set_option maxHeartbeats 4000000 in
set_option maxRecDepth 100000 in
theorem vmeta_any {o t x f : Nat} (w : World) (h : VolAt w o t x f) : Calls Tryz.prog 15 #[.pointer (some ⟨o, 0, none⟩)] w fun e w' => e = .returned (.pointer (some ⟨x, 0, none⟩)) ∧ w' = w := by
  obtain ⟨c0, c1, c2⟩ := cell2 h
  clear h
  go_enter Tryz.func15, Tryz.ntmps15
  go_wp2
  go_ret
  exact ⟨rfl, rfl⟩
set_option maxHeartbeats 4000000 in
set_option maxRecDepth 100000 in
theorem vfiles_any {o t x f : Nat} (w : World) (h : VolAt w o t x f) : Calls Tryz.prog 40 #[.pointer (some ⟨o, 0, none⟩)] w fun e w' => e = .returned (.pointer (some ⟨f, 0, none⟩)) ∧ w' = w := by
  obtain ⟨c0, c1, c2⟩ := cell2 h
  clear h
  go_enter Tryz.func40, Tryz.ntmps40
  go_wp2
  go_ret
  exact ⟨rfl, rfl⟩
def namesV : Array Value := #[.string ⟨#[47, 97]⟩, .string ⟨#[47, 98]⟩, .string ⟨#[47, 99]⟩, .string ⟨#[47, 100]⟩]
def oNamV : Obj := .cells namesV 9 (0, 0)
theorem namesV_cell {a : World} {nb k : Nat} (h : a.heap[nb]? = some oNamV) (hk : k < 4) : a.cell? ⟨nb, k, none⟩ = some (.string ⟨(47 :: Gd.vname4 k).toArray⟩) := by
  match k, hk with
  | 0, _ => exact cell_of_row a nb 0 _ _ _ h
  | 1, _ => exact cell_of_row a nb 1 _ _ _ h
  | 2, _ => exact cell_of_row a nb 2 _ _ _ h
  | 3, _ => exact cell_of_row a nb 3 _ _ _ h
theorem Vq.new [MemNo] {o x t f c K n : Nat} {S : List UInt8} {P : List Gd.Pa} {M : Gd.Vol} {s : Nat → Gd.Slot} {w a b : World} {Ls : List (Nat × Obj)} (h : Vq o x t f S P M n s c K w a Ls) (hb : Below a.heap.size a b) {k : Nat} {o' : Obj} (hk : a.heap.size ≤ k) (ho : b.heap[k]? = some o') : Vq o x t f S P M n s c K w b ((k, o') :: Ls) := ⟨h.1.new hb hk ho, h.2⟩
theorem Vq.opens [MemNo] {o x t f K n : Nat} {S : List UInt8} {M : Gd.Vol} {s : Nat → Gd.Slot} {w a : World} {Ls : List (Nat × Obj)} (k : Nat) (hk : k < 4) (h : Vq o x t f S [] M n s 0 K w a Ls) (hB : Gd.VBegan M k) (hM : Mx w) :
    Calls Tryz.prog 50 #[.pointer (some ⟨x, 0, none⟩), .int .i64 1, .string ⟨(47 :: Gd.vname4 k).toArray⟩, .int .i64 1, .bool false, .int .i64 0] a fun e b => e = .returned (.tuple #[.int .i64 ((k + 2 : Nat) : Int), .int .i64 0]) ∧ ∃ (N : Gd.Vol) (P : List Gd.Pa) (c : Nat), Gd.VBegan N (k + 1) ∧ P ≠ [] ∧ c ≤ 5 ∧ Vq o x t f S P N n s c K w b Ls := by
  obtain ⟨mx, hmx⟩ := hM
  refine (h.1.opens k hk mx h.2.1 hB ((h.1.belowW.cell (p := ⟨0, 0, none⟩) (mx_lt hmx)).trans hmx) (Nat.lt_of_lt_of_le (mx_lt hmx) h.1.size)).mono ?_
  rintro e b ⟨he, N, P, c, hN, hh, -, hP, hc, hV, hG⟩
  exact ⟨he, N, P, c, hN, hP, hc, hV, hG, h.2.2.same hh⟩
/-- a pair of commonslaw17 at p -/
def Began17 [MemNo] (p : Nat) (w a : World) : Prop := ∃ (o x t f r : Nat) (S : List UInt8) (M : Gd.Vol), Vq o x t f S [] M 4 (fun _ => Gd.slot0) 0 665100000 w a [(p, oPairV o r)] ∧ Gd.VBegan M 4

set_option maxHeartbeats 8000000 in
set_option maxRecDepth 100000 in
theorem begin17_any (w : World) (hM : Mx w) : Calls Tryz.prog 12 #[] w fun e w' => ∃ (mn : MemNo) (p : Nat), e = .returned (.pointer (some ⟨p, 0, none⟩)) ∧ Began17 p w w' := by
  have HP : Hid (Calls Tryz.prog 9 #[.int .i64 23168] w (NewMem w 2896 23168)) := Lib.hid (pnew_any 2896 (by omega) (by omega) (by omega) w)
  have HMx := Lib.hid hM
  clear hM
  go_enter Tryz.func12, Tryz.ntmps12
  go_wp2_with fail
  refine HP.out.mono ?_
  rintro e w1 ⟨m, sb, lb, ab, rfl, hM1, hb1, hlow1, hge1⟩
  obtain ⟨mn, hmn⟩ : ∃ mn : MemNo, m = mn.no := ⟨⟨m⟩, rfl⟩
  subst hmn
  have h1 : Mst (List.replicate 23168 0) 0 w w1 [] := ⟨sb, lb, ab, 2896, hM1, hge1, hb1, fun p hp => by cases hp⟩
  have HFm := Lib.hid (vformat_any h1 List.length_replicate (by omega))
  clear hM1 hb1 hlow1 hge1 h1 HP
  go_wp2_with fail
  refine HFm.out.mono ?_
  rintro e w2 ⟨rfl, S, Z, hZ, hG, he, h2⟩
  have HMo := Lib.hid (vmount_gen h2 hG.len (by omega))
  have HH := Lib.hid (Gd.HeadIs.fresh hZ)
  have HG := Lib.hid (And.intro hG he)
  have HSo := Lib.hid (HH.out.sound hG rfl)
  clear h2 hG he hZ HFm
  go_wp2_with fail
  refine HMo.out.mono ?_
  rintro e w3 ⟨S2, hl2, he2, hs2, hor⟩
  obtain rfl := hs2 HG.out.2
  rcases hor with ⟨-, o, x, t, f, rfl, h3⟩ | ⟨hno, -⟩
  rotate_left
  · exact absurd HSo.out hno
  have HV : Hid (Vq o x t f S2 [] (Gd.freshV Z) 0 (fun _ => Gd.slot0) 0 657100000 w w3 []) := Lib.hid ⟨h3, HG.out.1, HH.out⟩
  have HMe := Lib.hid (vmeta_any w3 h3.vol)
  have HFi := Lib.hid (vfiles_any w3 h3.vol)
  clear hl2 he2 h3 HMo
  go_wp2_with fail
  refine HMe.out.mono ?_
  rintro e w4 ⟨rfl, rfl⟩
  clear HMe
  go_wp2_with fail
  refine HFi.out.mono ?_
  rintro e w5 ⟨rfl, rfl⟩
  clear HFi
  obtain ⟨w8, hw8⟩ : ∃ u, u = w5.alloc (.cells namesV 9) := ⟨_, rfl⟩
  obtain ⟨nb, hnb⟩ : ∃ nb, nb = w5.heap.size := ⟨_, rfl⟩
  have HT8 : Hid (Vq o x t f S2 [] (Gd.freshV Z) 0 (fun _ => Gd.slot0) 0 657100000 w w8 [(nb, oNamV)]) := Lib.hid (by
    rw [hw8, hnb]
    exact HV.out.new ((Below.refl _ _).alloc (Nat.le_refl _) _) (Nat.le_refl _) (heap_alloc_new _ _))
  have HW8 := Lib.hid hw8.symm
  have Hnb := Lib.hid hnb.symm
  unfold namesV at HW8
  clear hw8 hnb HV
  go_upto_region 11 with fail
  rw [HW8.out, Hnb.out]
  go_wp2
  go_loopw [6, 7, 8] (fun i _ _ wr => ∃ (k : Nat) (M : Gd.Vol) (S : List UInt8), i = .int .i64 k ∧ k ≤ 4 ∧ Hid (Gd.VBegan M k) ∧ Hid (Vq o x t f S [] M k (fun _ => Gd.slot0) 0 (657100000 + 2000000 * k) w wr [(nb, oNamV)])) (fun i _ _ _ => 4 - (intOf i).toNat)
  case atStart => exact ⟨0, Gd.freshV Z, S2, rfl, by omega, Lib.hid (Gd.vbegan_fresh Z), HT8⟩
  case round =>
    obtain ⟨k, M, S3, rfl, hk, HBg, HTr⟩ := hrel
    by_cases hlt : k < 4
    · have h1 : (k : Int) < 4 := by omega
      have h0 : (0 : Int) ≤ k := by omega
      have c0 := namesV_cell (HTr.out.1.get (k := nb) (o' := oNamV) (by simp)) hlt
      have HOp := Lib.hid (HTr.out.opens k hlt HBg.out HMx.out)
      rw [show ((k + 2 : Nat) : Int) = (k : Int) + 2 by omega] at HOp
      have Hlt := Lib.hid hlt
      clear hlt
      go_wp2_with fail
      refine HOp.out.mono ?_
      rintro e w9 ⟨rfl, N, P, c, hN, hP, hc, h9⟩
      have HN := Lib.hid hN
      have HCm := Lib.hid (h9.commit hP (by omega) (by have := Hlt.out; omega) (by have := Hlt.out; omega))
      rw [show 657100000 + 2000000 * k + 2000000 = 657100000 + 2000000 * (k + 1) by omega] at HCm
      clear hN hP hc h9 HOp
      go_wp2_with fail
      refine HCm.out.mono ?_
      rintro e w10 ⟨rfl, S4, h10⟩
      have H10 := Lib.hid h10
      have HN2 := Lib.hid (show Gd.VBegan (N.setHead 0 (Gd.headB (k + 1))) (k + 1) from Gd.VBegan.setHead HN.out)
      clear h10 HCm
      go_wp2
      go_roundw
      case rel => exact ⟨k + 1, _, S4, by go_num, by have := Hlt.out; omega, HN2, H10⟩
      case measure => simp [intOf]; have := Hlt.out; omega
    · obtain rfl : k = 4 := by omega
      clear hlt
      go_wp2_with fail
      refine (rnew17_any wr).mono ?_
      rintro e w9 ⟨r, rfl, -, hb9⟩
      have H9 := Lib.hid (HTr.out.below hb9)
      have HB := HBg
      clear hb9 HTr
      go_wp2
      go_ret
      refine ⟨mn, _, rfl, o, x, t, f, r, S3, M, ?_, HB.out⟩
      have hv := H9.out.new ((Below.refl _ _).alloc (Nat.le_refl _) (oPairV o r)) (Nat.le_refl _) (heap_alloc_new w9 (oPairV o r))
      exact ⟨hv.1.less fun p hp => by
        simp only [List.mem_cons, List.not_mem_nil, or_false] at hp ⊢
        exact Or.inl hp, hv.2⟩
end Go.Proofs.YtccpdkjonepoiaaGreatDoor
