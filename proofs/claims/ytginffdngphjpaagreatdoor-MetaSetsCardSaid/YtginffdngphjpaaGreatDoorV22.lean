/- Walks: files: Set, where it is refused. -/
import Derived.Test.YtginffdngphjpaaGreatDoorV21
import Derived.Test.YtginffdngphjpaaGreatDoorV17
import Derived.Test.YtginffdngphjpaaGreatDoorV14
import Derived.Test.YtginffdngphjpaaGreatDoorV18
set_option linter.unusedVariables false
set_option linter.unusedSimpArgs false
namespace Go.Proofs.YtginffdngphjpaaGreatDoor
open Go.RowKit Go.Shelf

attribute [local go_sem] Oper.semAt_some

set_option maxHeartbeats 8000000 in
set_option maxRecDepth 100000 in
theorem set_err {f : Nat} {y : Gd.Ino} {E : Int} (i : Int) (s : ByteArray) (spare : Int) (w : World) (hsh : y.Shape) (hE : E ≠ 0) (hf : Calls Tryz.prog 51 #[.pointer (some ⟨f, 0, none⟩), .int .i64 i] w fun e w' => e = .returned (.tuple #[inoV y, .int .i64 E]) ∧ Below w.heap.size w w') :
    Calls Tryz.prog 21 #[.pointer (some ⟨f, 0, none⟩), .int .i64 i, .string s, .int .i64 spare] w fun e w' => e = .returned (.int .i64 E) ∧ Below w.heap.size w w' := by
  have HF := Lib.hid hf
  have HS := Lib.hid (inoC_size hsh)
  clear hf hsh
  unfold inoV at *
  go_enter Tryz.func21, Tryz.ntmps21
  go_upto_region 1 with fail
  refine wp_scope_straight ?_
  go_upto_region 2 with (first | (go_at_call 51; refine HF.out.mono ?_; rintro e w2 ⟨rfl, hb2⟩; have HB2 := Lib.hid hb2; clear hb2) | (rw [← zIno_lit]; refine wpList_store_mid rfl 25 _ _ rfl w2.heap.size 0 (inoC y) rfl rfl (there_at (heap_alloc_new _ _) (by rw [zIno_size, HS.out])) (by rw [HS.out]; exact Tryz.sizeIno) (inoC_one _) ?_; obtain ⟨hbw, hbg⟩ := new_whole2 w2 zIno 25 (inoC y).toList (by rw [zIno_size, Array.length_toList, HS.out]); generalize (World.setCells _ _ _ _) = w3 at hbw hbg ⊢; have HB3 := Lib.hid (HB2.out.trans (hbw.mono HB2.out.size)); clear hbw hbg))
  go_wp2
  simp only [Exit.noGoto]
  go_ret
  exact ⟨rfl, HB3.out⟩

set_option maxHeartbeats 8000000 in
set_option maxRecDepth 100000 in
theorem set_big {f : Nat} {y : Gd.Ino} (i : Int) (s : ByteArray) (spare : Int) (w : World) (hsh : y.Shape) (hs : 256 < s.size) (hs2 : s.size ≤ 9223372036854775807) (hf : Calls Tryz.prog 51 #[.pointer (some ⟨f, 0, none⟩), .int .i64 i] w fun e w' => e = .returned (.tuple #[inoV y, .int .i64 0]) ∧ Below w.heap.size w w') :
    Calls Tryz.prog 21 #[.pointer (some ⟨f, 0, none⟩), .int .i64 i, .string s, .int .i64 spare] w fun e w' => e = .returned (.int .i64 19) ∧ Below w.heap.size w w' := by
  have HF := Lib.hid hf
  have HS := Lib.hid (inoC_size hsh)
  have hs3 : (256 : Int) < s.size := by omega
  clear hf hsh
  unfold inoV at *
  go_enter Tryz.func21, Tryz.ntmps21
  go_upto_region 1 with fail
  refine wp_scope_straight ?_
  go_upto_region 2 with (first | (go_at_call 51; refine HF.out.mono ?_; rintro e w2 ⟨rfl, hb2⟩; have HB2 := Lib.hid hb2; clear hb2) | (rw [← zIno_lit]; refine wpList_store_mid rfl 25 _ _ rfl w2.heap.size 0 (inoC y) rfl rfl (there_at (heap_alloc_new _ _) (by rw [zIno_size, HS.out])) (by rw [HS.out]; exact Tryz.sizeIno) (inoC_one _) ?_; obtain ⟨hbw, hbg⟩ := new_whole2 w2 zIno 25 (inoC y).toList (by rw [zIno_size, Array.length_toList, HS.out]); generalize (World.setCells _ _ _ _) = w3 at hbw hbg ⊢; have HB3 := Lib.hid (HB2.out.trans (hbw.mono HB2.out.size)); clear hbw hbg))
  go_wp2
  simp only [Exit.noGoto]
  go_ret
  exact ⟨rfl, HB3.out⟩

end Go.Proofs.YtginffdngphjpaaGreatDoor

/- Walks: files: Apply. -/
namespace Go.Proofs.YtginffdngphjpaaGreatDoor
open Go.RowKit Go.Shelf

attribute [local go_sem] Oper.semAt_some

set_option maxHeartbeats 4000000 in
set_option maxRecDepth 100000 in
theorem apply_no (fv : Value) (call inode : Int) (tr : Bool) (off : Int) (d : ByteArray) (spare : Int) (w : World) (hd : d.size ≤ 80) (hm : Fp.mayB call inode tr off d.data.toList = false) :
    Calls Tryz.prog 29 #[fv, Fl.recV call inode tr off d, .int .i64 spare] w fun e w' => e = .returned (.int .i64 1) ∧ Below w.heap.size w w' := by
  have HM := Lib.hid fun W => Fl.may_any call inode tr off d W (by omega)
  rw [hm] at HM
  unfold Fl.recV at *
  clear hm hd
  go_enter Tryz.func29, Tryz.ntmps29
  go_wp2_with fail
  refine (HM.out _).mono ?_
  rintro e w2 ⟨rfl, hb2⟩
  go_wp2
  go_ret
  exact ⟨rfl, ((Below.refl w.heap.size w).alloc (Nat.le_refl _) _).trans (hb2.mono (by simp))⟩

set_option maxHeartbeats 4000000 in
set_option maxRecDepth 100000 in
theorem apply_err (f : Nat) (call inode : Int) (tr : Bool) (off : Int) (d s : ByteArray) (spare E : Int) (w : World) (hd : d.size ≤ 80) (hm : Fp.mayB call inode tr off d.data.toList = true) (hE : E ≠ 0)
    (hB : ∀ W, Below w.heap.size w W → Calls Tryz.prog 24 #[.pointer (some ⟨f, 0, none⟩), .int .i64 inode] W fun e w' => e = .returned (.tuple #[.string s, .int .i64 E]) ∧ Below W.heap.size W w') :
    Calls Tryz.prog 29 #[.pointer (some ⟨f, 0, none⟩), Fl.recV call inode tr off d, .int .i64 spare] w fun e w' => e = .returned (.int .i64 E) ∧ Below w.heap.size w w' := by
  have HM := Lib.hid fun W => Fl.may_any call inode tr off d W (by omega)
  rw [hm] at HM
  have HB := Lib.hid hB
  unfold Fl.recV at *
  obtain ⟨hb0, hr0⟩ := below_new w #[.int .i64 call, .int .i64 inode, .bool tr, .int .i64 off, .string d] 69
  obtain ⟨rb, hrb⟩ : ∃ rb, rb = w.heap.size := ⟨_, rfl⟩
  obtain ⟨w0, hw0⟩ : ∃ u, u = w.alloc (.cells #[.int .i64 call, .int .i64 inode, .bool tr, .int .i64 off, .string d] 69) := ⟨_, rfl⟩
  rw [← hw0, ← hrb] at hr0
  rw [← hw0] at hb0
  have HR0 := Lib.hid hr0
  have HB0 := Lib.hid hb0
  have HW0 := Lib.hid hw0.symm
  have Hrb := Lib.hid hrb.symm
  have r0 := cell_of_row w0 rb 0 _ _ _ hr0
  have r1 := cell_of_row w0 rb 1 _ _ _ hr0
  have r2 := cell_of_row w0 rb 2 _ _ _ hr0
  have r3 := cell_of_row w0 rb 3 _ _ _ hr0
  have r4 := cell_of_row w0 rb 4 _ _ _ hr0
  clear hm hd hB hb0 hr0 hrb hw0
  go_enter Tryz.func29, Tryz.ntmps29
  go_upto_region 1 with fail
  rw [HW0.out, Hrb.out]
  go_wp2_with fail
  refine (HM.out _).mono ?_
  rintro e w2 ⟨rfl, hb2⟩
  have HB2 := Lib.hid (HB0.out.trans (hb2.mono HB0.out.size))
  have q1 : w2.cell? ⟨rb, 1, none⟩ = some (.int .i64 inode) := (hb2.cell (p := ⟨rb, 1, none⟩) (lt_get HR0.out)).trans r1
  have HBc := Lib.hid (HB.out w2 HB2.out)
  clear hb2 r0 r1 r2 r3 r4
  go_wp2_with fail
  refine HBc.out.mono ?_
  rintro e w3 ⟨rfl, hb3⟩
  have HB3 := Lib.hid (HB2.out.trans (hb3.mono HB2.out.size))
  clear hb3 q1
  go_wp2
  go_ret
  exact ⟨rfl, HB3.out⟩

set_option maxHeartbeats 4000000 in
set_option maxRecDepth 100000 in
theorem apply_ok (f : Nat) (call inode : Int) (tr : Bool) (off : Int) (d s out : ByteArray) (spare : Int) (w : World) (Q : Int → World → Prop) (hd : d.size ≤ 80) (hs : s.size ≤ 300) (hm : Fp.mayB call inode tr off d.data.toList = true) (hc : Fp.chg s.data.toList call inode tr off d.data.toList = (out.data.toList, 0))
    (hB : ∀ W, Below w.heap.size w W → Calls Tryz.prog 24 #[.pointer (some ⟨f, 0, none⟩), .int .i64 inode] W fun e w' => e = .returned (.tuple #[.string s, .int .i64 0]) ∧ Below W.heap.size W w')
    (hS : ∀ W, Below w.heap.size w W → Calls Tryz.prog 21 #[.pointer (some ⟨f, 0, none⟩), .int .i64 inode, .string out, .int .i64 spare] W fun e w' => ∃ r : Int, e = .returned (.int .i64 r) ∧ Q r w') :
    Calls Tryz.prog 29 #[.pointer (some ⟨f, 0, none⟩), Fl.recV call inode tr off d, .int .i64 spare] w fun e w' => ∃ r : Int, e = .returned (.int .i64 r) ∧ Q r w' := by
  have HM := Lib.hid fun W => Fl.may_any call inode tr off d W (by omega)
  rw [hm] at HM
  have HC := Lib.hid fun W => Fl.change_any s call inode tr off d W hs hd
  rw [hc] at HC
  unfold Fl.chgV at HC
  rw [show (⟨((out.data.toList, (0 : Int)).1).toArray⟩ : ByteArray) = out from ba_mk out] at HC
  dsimp only at HC
  have HB := Lib.hid hB
  have HS := Lib.hid hS
  unfold Fl.recV at *
  obtain ⟨hb0, hr0⟩ := below_new w #[.int .i64 call, .int .i64 inode, .bool tr, .int .i64 off, .string d] 69
  obtain ⟨rb, hrb⟩ : ∃ rb, rb = w.heap.size := ⟨_, rfl⟩
  obtain ⟨w0, hw0⟩ : ∃ u, u = w.alloc (.cells #[.int .i64 call, .int .i64 inode, .bool tr, .int .i64 off, .string d] 69) := ⟨_, rfl⟩
  rw [← hw0, ← hrb] at hr0
  rw [← hw0] at hb0
  have HR0 := Lib.hid hr0
  have HB0 := Lib.hid hb0
  have HW0 := Lib.hid hw0.symm
  have Hrb := Lib.hid hrb.symm
  have HCl : Hid (∀ W : World, W.heap[rb]? = some (.cells #[.int .i64 call, .int .i64 inode, .bool tr, .int .i64 off, .string d] 69 (0, 0)) → W.cell? ⟨rb, 0, none⟩ = some (.int .i64 call) ∧ W.cell? ⟨rb, 1, none⟩ = some (.int .i64 inode) ∧ W.cell? ⟨rb, 2, none⟩ = some (.bool tr) ∧ W.cell? ⟨rb, 3, none⟩ = some (.int .i64 off) ∧ W.cell? ⟨rb, 4, none⟩ = some (.string d)) := Lib.hid fun W h => ⟨cell_of_row W rb 0 _ _ _ h, cell_of_row W rb 1 _ _ _ h, cell_of_row W rb 2 _ _ _ h, cell_of_row W rb 3 _ _ _ h, cell_of_row W rb 4 _ _ _ h⟩
  obtain ⟨r0, r1, r2, r3, r4⟩ := HCl.out _ hr0
  clear hm hd hs hc hB hS hb0 hr0 hrb hw0
  go_enter Tryz.func29, Tryz.ntmps29
  go_upto_region 1 with fail
  rw [HW0.out, Hrb.out]
  go_wp2_with fail
  refine (HM.out _).mono ?_
  rintro e w2 ⟨rfl, hb2⟩
  have HB2 := Lib.hid (HB0.out.trans (hb2.mono HB0.out.size))
  have HR2 := Lib.hid ((hb2.block rb (lt_get HR0.out)).trans HR0.out)
  have HBc := Lib.hid (HB.out w2 HB2.out)
  clear hb2 r0 r1 r2 r3 r4
  obtain ⟨r0, r1, r2, r3, r4⟩ := HCl.out _ HR2.out
  go_wp2_with fail
  refine HBc.out.mono ?_
  rintro e w3 ⟨rfl, hb3⟩
  have HB3 := Lib.hid (HB2.out.trans (hb3.mono HB2.out.size))
  have HR3 := Lib.hid ((hb3.block rb (lt_get HR2.out)).trans HR2.out)
  clear hb3 r0 r1 r2 r3 r4
  obtain ⟨r0, r1, r2, r3, r4⟩ := HCl.out _ HR3.out
  go_wp2_with fail
  refine (HC.out _).mono ?_
  rintro e w4 ⟨rfl, hb4⟩
  have HB4 := Lib.hid (HB3.out.trans (hb4.mono HB3.out.size))
  have HR4 := Lib.hid ((hb4.block rb (lt_get HR3.out)).trans HR3.out)
  have HSc := Lib.hid (HS.out w4 HB4.out)
  clear hb4 r0 r1 r2 r3 r4
  obtain ⟨r0, r1, r2, r3, r4⟩ := HCl.out _ HR4.out
  go_wp2_with fail
  refine HSc.out.mono ?_
  rintro e w5 ⟨r, rfl, hq⟩
  go_wp2
  go_ret
  exact ⟨r, rfl, hq⟩

end Go.Proofs.YtginffdngphjpaaGreatDoor

/- A volume that was formatted, in plain words. -/
namespace Go.Proofs.YtginffdngphjpaaGreatDoor
namespace Gd
theorem view_append (S : List UInt8) (P Q : List Pa) : view S (P ++ Q) = view (view S P) Q := by
  unfold view
  rw [List.foldl_append]
theorem view_apart {k n : Nat} : ∀ {P : List Pa} {S : List UInt8}, Fit S.length P → k + n ≤ S.length → (∀ p ∈ P, k + n ≤ p.1 ∨ p.1 + p.2.length ≤ k) → part (view S P) k n = part S k n
  | [], _, _, _, _ => rfl
  | p :: r, S, hf, hk, h => by
    have h1 := hf p (List.mem_cons_self ..)
    have hl := splice_length h1
    show part (view (splice S p.1 p.2) r) k n = _
    rw [view_apart (by rw [hl]; exact fun q hq => hf q (List.mem_cons_of_mem _ hq)) (by rw [hl]; exact hk) fun q hq => h q (List.mem_cons_of_mem _ hq)]
    exact part_splice_apart hk h1 (h p (List.mem_cons_self ..))
theorem view_at {p : Pa} {P Q : List Pa} {S : List UInt8} (hf : Fit S.length (P ++ [p] ++ Q)) (h : ∀ q ∈ Q, p.1 + p.2.length ≤ q.1 ∨ q.1 + q.2.length ≤ p.1) : part (view S (P ++ [p] ++ Q)) p.1 p.2.length = p.2 := by
  have hp : Fit S.length P := fun q hq => hf q (List.mem_append_left _ (List.mem_append_left _ hq))
  have h1 := hf p (List.mem_append_left _ (List.mem_append_right _ (List.mem_singleton.2 rfl)))
  have hl := view_length hp
  have hl2 : (view S (P ++ [p])).length = S.length := by rw [view_snoc, splice_length (by rw [hl]; exact h1), hl]
  rw [view_append, view_apart (by rw [hl2]; exact fun q hq => hf q (List.mem_append_right _ hq)) (by rw [hl2]; exact h1) h, view_snoc]
  exact part_splice_same (by rw [hl]; exact h1)
theorem fmtS_mem {k : Nat} {p : Pa} (h : p ∈ fmtS k) : ∃ c, c < k ∧ ((p.1 = 64 + 64 * c ∧ p.2.length = 64) ∨ (p.1 = 6784 + 1024 * c ∧ p.2.length = 8)) := by
  unfold fmtS at h
  obtain ⟨c, hc, hp⟩ := List.mem_flatMap.1 h
  refine ⟨c, List.mem_range.1 hc, ?_⟩
  simp only [List.mem_cons, List.mem_nil_iff, or_false] at hp
  rcases hp with rfl | rfl
  · exact Or.inl ⟨rfl, slotB_length _⟩
  · exact Or.inr ⟨rfl, List.length_replicate⟩
theorem fmtN_mem {k : Nat} {p : Pa} (h : p ∈ fmtN k) : ∃ i, i < k ∧ p.1 = inoAt (i + 2) ∧ p.2.length = 64 := by
  unfold fmtN at h
  obtain ⟨i, hi, rfl⟩ := List.mem_map.1 h
  exact ⟨i, List.mem_range.1 hi, rfl, List.length_replicate⟩
theorem root_len : (inoB rootI).length = 64 := inoB_length root_shape
/-- where Format stores -/
theorem fmtP_mem {p : Pa} (h : p ∈ fmtP) : p.1 + p.2.length ≤ 14976 := by
  unfold fmtP at h
  simp only [List.mem_append, List.mem_singleton] at h
  rcases h with (((rfl | h) | rfl) | rfl) | h
  · rw [headB_length]
    omega
  · obtain ⟨c, hc, h | h⟩ := fmtS_mem h <;> omega
  · rw [List.length_replicate]
    omega
  · rw [root_len]
    unfold inoAt
    omega
  · obtain ⟨i, hi, h1, h2⟩ := fmtN_mem h
    rw [h1, h2]
    unfold inoAt
    omega
theorem fmtP_fit {n : Nat} (hn : 23168 ≤ n) : Fit n fmtP := fun p hp => by
  have := fmtP_mem hp
  omega
theorem fmtN_at {V : List UInt8} (hV : V.length = 23168) : ∀ k, k ≤ 31 → ∀ j, j < k → part (view V (fmtN k)) (inoAt (j + 2)) 64 = List.replicate 64 0
  | 0, _, j, hj => by omega
  | k + 1, hk, j, hj => by
    have hf : Fit V.length (fmtN k) := fun p hp => by
      obtain ⟨i, hi, h1, h2⟩ := fmtN_mem hp
      rw [h1, h2, hV]
      unfold inoAt
      omega
    have hl := view_length hf
    have hz : (List.replicate 64 (0 : UInt8)).length = 64 := List.length_replicate
    rw [fmtN_succ, view_snoc]
    by_cases e : j = k
    · subst e
      have := part_splice_same (S := view V (fmtN j)) (k := inoAt (j + 2)) (b := List.replicate 64 0) (by rw [hl, hV, hz]; unfold inoAt; omega)
      rw [hz] at this
      exact this
    · rw [part_splice_apart (by rw [hl, hV]; unfold inoAt; omega) (by rw [hl, hV, hz]; unfold inoAt; omega) (by rw [hz]; unfold inoAt; omega)]
      exact fmtN_at hV k (by omega) j (by omega)
/-- a volume that was formatted -/
def freshV (S : List UInt8) : Vol := ⟨fun i => if i = 1 then rootI else noIno, List.replicate 16 0, fun n => part S (blkAt n) 64⟩
theorem fresh_good {S : List UInt8} (hS : S.length = 23168) : Good (view S fmtP) (freshV S) := by
  have hfit : Fit S.length fmtP := fmtP_fit (by omega)
  have hl : (view S fmtP).length = 23168 := by rw [view_length hfit, hS]
  refine ⟨hl, fun i h1 h2 => ?_, fun i h1 h2 => ?_, fun i h1 h2 => ?_, List.length_replicate, ?_, fun n n1 n2 => ?_, fun n n1 n2 => ?_⟩
  · show (if i = 1 then rootI else noIno).Shape
    split
    · exact root_shape
    · exact ⟨rfl, rfl⟩
  · show mayI (if i = 1 then rootI else noIno) = true
    split
    · exact root_may
    · decide
  · show part _ _ _ = inoB (if i = 1 then rootI else noIno)
    by_cases e : i = 1
    · subst e
      rw [if_pos rfl]
      have := view_at (p := (inoAt 1, inoB rootI)) (P := [(0, headB 0)] ++ fmtS 8 ++ [(576, List.replicate 16 0)]) (Q := fmtN 31) (S := S) hfit fun q hq => by
        obtain ⟨i, hi, h1, h2⟩ := fmtN_mem hq
        rw [h1, root_len]
        unfold inoAt
        omega
      rw [root_len] at this
      exact this
    · rw [if_neg e]
      have h3 : (view S ([(0, headB 0)] ++ fmtS 8 ++ [(576, List.replicate 16 0)] ++ [(inoAt 1, inoB rootI)])).length = 23168 := by
        rw [view_length fun p hp => hfit p (List.mem_append_left _ hp), hS]
      have := fmtN_at h3 31 (Nat.le_refl _) (i - 2) (by omega)
      rw [← view_append, show i - 2 + 2 = i by omega] at this
      exact this
  · have := view_at (p := (576, List.replicate 16 0)) (P := [(0, headB 0)] ++ fmtS 8) (Q := [(inoAt 1, inoB rootI)] ++ fmtN 31) (S := S) (by rw [← List.append_assoc]; exact hfit) fun q hq => by
      rw [List.length_replicate]
      rcases List.mem_append.1 hq with hq | hq
      · rw [List.mem_singleton.1 hq]
        unfold inoAt
        omega
      · obtain ⟨i, hi, h1, h2⟩ := fmtN_mem hq
        rw [h1]
        unfold inoAt
        omega
    rw [← List.append_assoc, List.length_replicate] at this
    exact this
  · exact part_length (by rw [hS]; unfold blkAt; omega)
  · exact view_apart hfit (by rw [hS]; unfold blkAt; omega) fun p hp => by
      have := fmtP_mem hp
      unfold blkAt
      omega
/-- the root is empty, and there is no other directory -/
theorem fresh_tree (S : List UInt8) : Tree (freshV S) fun _ => noTab := by
  have hd : ∀ d, ((freshV S).ino d).k = 2 → d = 1 := fun d h => by
    by_cases e : d = 1
    · exact e
    · exact absurd (show (if d = 1 then rootI else noIno).k = 2 from h) (by rw [if_neg e]; decide)
  refine ⟨rfl, fun d h1 h2 hk => ⟨h1, h2, hk, noTab_ok, fun k hk4 => ⟨0, ?_, Or.inl ⟨rfl, fun i _ => noTab_at _⟩⟩⟩, fun d _ _ _ e he hne => absurd (List.eq_of_mem_replicate he) hne⟩
  have := hd d hk
  subst this
  show rootI.B[k]? = some ((0 : Nat) : Int)
  match k, hk4 with
  | 0, _ => rfl
  | 1, _ => rfl
  | 2, _ => rfl
  | 3, _ => rfl
end Gd
end Go.Proofs.YtginffdngphjpaaGreatDoor

/- A directory of which an entry was told anew, in plain words. -/
namespace Go.Proofs.YtginffdngphjpaaGreatDoor
namespace Gd
theorem setT_other {T : Tab} {j k i : Nat} {e : Ent} (hT : T.length = 16) (hj : j < 16) (hk : k ≠ j / 4) (hi : i < 4) : entAt (setT T j e) (4 * k + i) = entAt T (4 * k + i) := by
  rw [setT_at hT hj, if_neg (by omega)]
theorem blkT_other {T : Tab} {j k : Nat} {e : Ent} (hT : T.length = 16) (hj : j < 16) (hk4 : k < 4) (hk : k ≠ j / 4) : blkT (setT T j e) k = blkT T k := by
  unfold blkT
  rw [blk_ext (by unfold setT; rw [List.length_set]; exact hT) hT hk4 fun i hi => setT_other hT hj hk hi]
/-- the table with an entry more, in the volume where its block was told anew -/
theorem DirOf.put {M N : Vol} {d j n : Nat} {T : Tab} {e : Ent} (h : DirOf M d T) (he : e.May) (hj : j < 16) (hk : (N.ino d).k = 2) (hB : (N.ino d).B = (M.ino d).B.set (j / 4) (n : Int)) (hn1 : 1 ≤ n) (hn2 : n ≤ 128) (hblk : N.blk n = blkT (setT T j e) (j / 4)) (hoth : ∀ q, q ≠ n → N.blk q = M.blk q)
    (hfree : ∀ k q : Nat, k ≠ j / 4 → (M.ino d).B[k]? = some (q : Int) → q ≠ 0 → q ≠ n) : DirOf N d (setT T j e) := by
  refine ⟨h.lo, h.hi, hk, h.ok.set he, fun k hk4 => ?_⟩
  obtain ⟨q, hq, hr⟩ := h.blk k hk4
  have hlen : k < (M.ino d).B.length := (List.getElem?_eq_some_iff.1 hq).1
  by_cases e1 : k = j / 4
  · refine ⟨n, ?_, Or.inr ⟨hn1, hn2, by rw [e1]; exact hblk⟩⟩
    rw [hB, ← e1, List.getElem?_set_self hlen]
  · refine ⟨q, ?_, ?_⟩
    · rw [hB, List.getElem?_set_ne (fun e => e1 e.symm)]
      exact hq
    · rcases hr with ⟨h0, hno⟩ | ⟨q1, q2, hb⟩
      · exact Or.inl ⟨h0, fun i hi => by rw [setT_other h.ok.len hj e1 hi]; exact hno i hi⟩
      · refine Or.inr ⟨q1, q2, ?_⟩
        rw [hoth q (hfree k q e1 hq (by omega)), hb, blkT_other h.ok.len hj hk4 e1]
/-- where no entry was, one that is there makes the block used -/
theorem usedT_set {T : Tab} {j : Nat} {e : Ent} (hT : T.length = 16) (hj : j < 16) (he : e ≠ noEnt) : usedT (setT T j e) (j / 4) = true := by
  unfold usedT
  rw [List.any_eq_true]
  refine ⟨e, ?_, by simpa using he⟩
  have hl : (setT T j e).length = 16 := by unfold setT; rw [List.length_set]; exact hT
  have hg := entAt_get hl hj
  rw [setT_at hT hj, if_pos rfl] at hg
  refine List.mem_of_getElem? (i := j % 4) ?_
  rw [List.getElem?_take, if_pos (Nat.mod_lt _ (by omega)), List.getElem?_drop, show 4 * (j / 4) + j % 4 = j by omega]
  exact hg
/-- blocks hang together: each is some inode's, once; and just they are used -/
structure Sound (M : Vol) : Prop where
  mapl : M.map.length = 16
  one : ∀ i i' k k' : Nat, ∀ n : Int, 1 ≤ i → i ≤ 32 → 1 ≤ i' → i' ≤ 32 → (M.ino i).B[k]? = some n → (M.ino i').B[k']? = some n → n ≠ 0 → i = i' ∧ k = k'
  used : ∀ n : Nat, 1 ≤ n → n ≤ 128 → (usedB M.map n = true ↔ ∃ i k : Nat, 1 ≤ i ∧ i ≤ 32 ∧ (M.ino i).B[k]? = some (n : Int))
theorem used_zero (n : Nat) : usedB (List.replicate 16 0) n = false := by
  unfold usedB byteAt
  have : ((List.replicate 16 (0 : UInt8)).getD ((n - 1) / 8) 0).toNat = 0 := by
    rw [List.getD_eq_getElem?_getD, List.getElem?_replicate]
    split <;> rfl
  rw [this]
  simp
theorem fresh_blocks (S : List UInt8) (i k : Nat) (n : Int) (h : ((freshV S).ino i).B[k]? = some n) : n = 0 := by
  have h2 : (if i = 1 then rootI else noIno).B[k]? = some n := h
  split at h2
  · have : n ∈ rootI.B := List.mem_of_getElem? h2
    simp [rootI] at this
    exact this
  · have : n ∈ noIno.B := List.mem_of_getElem? h2
    simp [noIno] at this
    exact this
theorem fresh_sound (S : List UInt8) : Sound (freshV S) := by
  refine ⟨List.length_replicate, fun i i' k k' n _ _ _ _ h _ hn => absurd (fresh_blocks S i k n h) hn, fun n n1 _ => ⟨fun h => ?_, fun ⟨i, k, _, _, h⟩ => ?_⟩⟩
  · rw [show (freshV S).map = List.replicate 16 0 from rfl, used_zero] at h
    cases h
  · have := fresh_blocks S i k _ h
    omega
end Gd
end Go.Proofs.YtginffdngphjpaaGreatDoor

/- Blocks that hang together: a block more, a block less. -/
namespace Go.Proofs.YtginffdngphjpaaGreatDoor
namespace Gd
theorem set_get {B : List Int} {k j : Nat} {m n : Int} (h : (B.set k m)[j]? = some n) : (j = k ∧ n = m) ∨ (j ≠ k ∧ B[j]? = some n) := by
  by_cases e : j = k
  · subst e
    have hl := (List.getElem?_eq_some_iff.1 h).1
    rw [List.length_set] at hl
    rw [List.getElem?_set_self hl] at h
    exact Or.inl ⟨rfl, (Option.some.inj h).symm⟩
  · rw [List.getElem?_set_ne (fun x => e x.symm)] at h
    exact Or.inr ⟨e, h⟩
theorem Sound.same {M N : Vol} (h : Sound M) (hm : N.map = M.map) (hB : ∀ i, 1 ≤ i → i ≤ 32 → (N.ino i).B = (M.ino i).B) : Sound N := by
  refine ⟨by rw [hm]; exact h.mapl, fun i i' k k' n h1 h2 h3 h4 a b hn => ?_, fun n n1 n2 => ?_⟩
  · rw [hB i h1 h2] at a
    rw [hB i' h3 h4] at b
    exact h.one i i' k k' n h1 h2 h3 h4 a b hn
  · rw [hm, h.used n n1 n2]
    constructor
    · rintro ⟨i, k, h1, h2, h3⟩
      exact ⟨i, k, h1, h2, by rw [hB i h1 h2]; exact h3⟩
    · rintro ⟨i, k, h1, h2, h3⟩
      exact ⟨i, k, h1, h2, by rw [hB i h1 h2] at h3; exact h3⟩
/-- a block more -/
theorem Sound.take {M N : Vol} (h : Sound M) {d k n : Nat} (d1 : 1 ≤ d) (d2 : d ≤ 32) (hk : (M.ino d).B[k]? = some 0) (n1 : 1 ≤ n) (n2 : n ≤ 128) (hf : usedB M.map n = false) (hm : N.map = takeB M.map n) (hd : (N.ino d).B = (M.ino d).B.set k (n : Int)) (hB : ∀ i, 1 ≤ i → i ≤ 32 → i ≠ d → (N.ino i).B = (M.ino i).B) : Sound N := by
  have hno : ∀ i k : Nat, 1 ≤ i → i ≤ 32 → (M.ino i).B[k]? ≠ some (n : Int) := fun i k i1 i2 e => by
    have := (h.used n n1 n2).2 ⟨i, k, i1, i2, e⟩
    rw [hf] at this
    cases this
  have hg : ∀ i j m, 1 ≤ i → i ≤ 32 → (N.ino i).B[j]? = some m → (i = d ∧ j = k ∧ m = (n : Int)) ∨ (¬ (i = d ∧ j = k) ∧ (M.ino i).B[j]? = some m) := fun i j m i1 i2 e => by
    by_cases ei : i = d
    · subst ei
      rw [hd] at e
      rcases set_get e with ⟨e1, e2⟩ | ⟨e1, e2⟩
      · exact Or.inl ⟨rfl, e1, e2⟩
      · exact Or.inr ⟨fun x => e1 x.2, e2⟩
    · rw [hB i i1 i2 ei] at e
      exact Or.inr ⟨fun x => ei x.1, e⟩
  have hl := (List.getElem?_eq_some_iff.1 hk).1
  refine ⟨by rw [hm, take_length]; exact h.mapl, fun i i' j j' m i1 i2 i3 i4 a b hn => ?_, fun m m1 m2 => ?_⟩
  · rcases hg i j m i1 i2 a with ⟨a1, a2, a3⟩ | ⟨a1, a2⟩ <;> rcases hg i' j' m i3 i4 b with ⟨b1, b2, b3⟩ | ⟨b1, b2⟩
    · exact ⟨a1.trans b1.symm, a2.trans b2.symm⟩
    · exact absurd (a3 ▸ b2) (hno i' j' i3 i4)
    · exact absurd (b3 ▸ a2) (hno i j i1 i2)
    · exact h.one i i' j j' m i1 i2 i3 i4 a2 b2 hn
  · rw [hm, used_take h.mapl n1 n2 m1 m2, Bool.or_eq_true, decide_eq_true_iff, h.used m m1 m2]
    constructor
    · rintro (rfl | ⟨i, j, i1, i2, e⟩)
      · exact ⟨d, k, d1, d2, by rw [hd, List.getElem?_set_self hl]⟩
      · by_cases ei : i = d
        · subst ei
          refine ⟨i, j, i1, i2, ?_⟩
          have hjk : j ≠ k := fun x => by
            rw [x, hk] at e
            have := Option.some.inj e
            omega
          rw [hd, List.getElem?_set_ne (fun x => hjk x.symm)]
          exact e
        · exact ⟨i, j, i1, i2, by rw [hB i i1 i2 ei]; exact e⟩
    · rintro ⟨i, j, i1, i2, e⟩
      rcases hg i j _ i1 i2 e with ⟨_, _, e3⟩ | ⟨_, e2⟩
      · exact Or.inl (by omega)
      · exact Or.inr ⟨i, j, i1, i2, e2⟩
/-- a block less -/
theorem Sound.give {M N : Vol} (h : Sound M) {d k n : Nat} (d1 : 1 ≤ d) (d2 : d ≤ 32) (hk : (M.ino d).B[k]? = some (n : Int)) (n1 : 1 ≤ n) (n2 : n ≤ 128) (hm : N.map = giveB M.map n) (hd : (N.ino d).B = (M.ino d).B.set k 0) (hB : ∀ i, 1 ≤ i → i ≤ 32 → i ≠ d → (N.ino i).B = (M.ino i).B) : Sound N := by
  have hn0 : (n : Int) ≠ 0 := by omega
  have hg : ∀ i j m, 1 ≤ i → i ≤ 32 → (N.ino i).B[j]? = some m → m ≠ 0 → ¬ (i = d ∧ j = k) ∧ (M.ino i).B[j]? = some m := fun i j m i1 i2 e hm0 => by
    by_cases ei : i = d
    · subst ei
      rw [hd] at e
      rcases set_get e with ⟨e1, e2⟩ | ⟨e1, e2⟩
      · exact absurd e2 hm0
      · exact ⟨fun x => e1 x.2, e2⟩
    · rw [hB i i1 i2 ei] at e
      exact ⟨fun x => ei x.1, e⟩
  refine ⟨by rw [hm, give_length]; exact h.mapl, fun i i' j j' m i1 i2 i3 i4 a b hm0 => ?_, fun m m1 m2 => ?_⟩
  · exact h.one i i' j j' m i1 i2 i3 i4 (hg i j m i1 i2 a hm0).2 (hg i' j' m i3 i4 b hm0).2 hm0
  · rw [hm, used_give h.mapl n1 n2 m1 m2, Bool.and_eq_true, Bool.not_eq_true', decide_eq_false_iff_not, h.used m m1 m2]
    constructor
    · rintro ⟨hne, i, j, i1, i2, e⟩
      by_cases ei : i = d
      · subst ei
        refine ⟨i, j, i1, i2, ?_⟩
        have hjk : j ≠ k := fun x => by
          rw [x, hk] at e
          have := Option.some.inj e
          omega
        rw [hd, List.getElem?_set_ne (fun x => hjk x.symm)]
        exact e
      · exact ⟨i, j, i1, i2, by rw [hB i i1 i2 ei]; exact e⟩
    · rintro ⟨i, j, i1, i2, e⟩
      obtain ⟨e1, e2⟩ := hg i j _ i1 i2 e (by omega)
      refine ⟨fun x => ?_, i, j, i1, i2, e2⟩
      subst x
      exact e1 (h.one i d j k _ i1 i2 d1 d2 e2 hk hn0)
end Gd
end Go.Proofs.YtginffdngphjpaaGreatDoor

/- A volume with some files, open, in its root: one file more. -/
namespace Go.Proofs.YtginffdngphjpaaGreatDoor
namespace Gd
/-- so many files, in the inodes from 2 on, all empty and open by the first client -/
structure Began (M : Vol) (T : Tab) (c : Nat) (B : List Int) (m : List UInt8) : Prop where
  tree : Tree M fun _ => T
  sound : Sound M
  root : M.ino 1 = ⟨2, 1, c, B, [0, 0, 0, 0, 0, 0, 0, 0]⟩
  files : ∀ i, 2 ≤ i → i ≤ c + 1 → M.ino i = newF.setO 0 1
  rest : ∀ i, c + 2 ≤ i → M.ino i = noIno
  map : M.map = m
theorem began_fresh (S : List UInt8) : Began (freshV S) noTab 0 [0, 0, 0, 0] (List.replicate 16 0) :=
  ⟨fresh_tree S, fresh_sound S, rfl, fun i h1 h2 => by omega, fun i h => by
    show (if i = 1 then rootI else noIno) = noIno
    rw [if_neg (by omega)], rfl⟩
/-- what the root is, with a file more -/
def rootN (c : Nat) (B : List Int) : Ino := ⟨2, 1, (c : Int) + 1, B, [0, 0, 0, 0, 0, 0, 0, 0]⟩
theorem began_step {M N : Vol} {T : Tab} {c : Nat} {B B2 : List Int} {m m2 : List UInt8} (h : Began M T c B m) (hc : c + 2 ≤ 32) {j n : Nat} {e : Ent} (hj : j < 16) (he : e.May) (hne : e ≠ noEnt) (hi : e.i = c + 2) (n1 : 1 ≤ n) (n2 : n ≤ 128)
    (hino : ∀ i, N.ino i = if i = 1 then rootN c B2 else if i = c + 2 then newF.setO 0 1 else M.ino i) (hB2 : B2 = B.set (j / 4) (n : Int)) (hm : N.map = m2) (hblk : ∀ q, N.blk q = if q = n then blkT (setT T j e) (j / 4) else M.blk q) (hfree : ∀ k q : Nat, k ≠ j / 4 → B[k]? = some (q : Int) → q ≠ 0 → q ≠ n) (hs : Sound N) :
    Began N (setT T j e) (c + 1) B2 m2 := by
  have hr : N.ino 1 = rootN c B2 := by rw [hino 1, if_pos rfl]
  have hf : N.ino (c + 2) = newF.setO 0 1 := by rw [hino (c + 2), if_neg (by omega), if_pos rfl]
  have ho : ∀ i, i ≠ 1 → i ≠ c + 2 → N.ino i = M.ino i := fun i h1 h2 => by rw [hino i, if_neg h1, if_neg h2]
  have hD1 := h.tree.dir 1 (by omega) (by omega) h.tree.root
  have hroot : (M.ino 1).B = B := by rw [h.root]
  have hD : DirOf N 1 (setT T j e) := hD1.put he hj (by rw [hr]; rfl) (by rw [hr, hroot]; exact hB2) n1 n2 (by rw [hblk n, if_pos rfl]) (fun q hq => by rw [hblk q, if_neg hq]) (fun k q hk hq => hfree k q hk (by rw [hroot] at hq; exact hq))
  have hk2 : ∀ d, 1 ≤ d → (N.ino d).k = 2 → d = 1 := fun d h1 hk => by
    by_cases e1 : d = 1
    · exact e1
    · by_cases e2 : d = c + 2
      · rw [e2, hf] at hk
        exact absurd hk (by decide)
      · rw [ho d e1 e2] at hk
        by_cases e3 : d ≤ c + 1
        · rw [h.files d (by omega) e3] at hk
          exact absurd hk (by decide)
        · rw [h.rest d (by omega)] at hk
          exact absurd hk (by decide)
  refine ⟨⟨by rw [hr]; rfl, fun d h1 h2 hk => ?_, fun d h1 h2 hk x hx hxn => ?_⟩, hs, hr.trans (by unfold rootN; congr 1), fun i h1 h2 => ?_, fun i h1 => ?_, hm⟩
  · obtain rfl := hk2 d h1 hk
    exact hD
  · have hx' : x = e ∨ x ∈ T := by
      rcases List.mem_or_eq_of_mem_set hx with a | a
      · exact Or.inr a
      · exact Or.inl a
    rcases hx' with rfl | hx
    · rw [hi, hf]
      decide
    · have hk0 := h.tree.ent 1 (by omega) (by omega) h.tree.root x hx hxn
      by_cases e1 : x.i = 1
      · rw [e1, hr]
        show (2 : Int) ≠ 0
        decide
      · by_cases e2 : x.i = c + 2
        · rw [e2, hf]
          decide
        · rw [ho _ e1 e2]
          exact hk0
  · by_cases e2 : i = c + 2
    · rw [e2, hf]
    · rw [ho i (by omega) e2]
      exact h.files i h1 (by omega)
  · rw [ho i (by omega) (by omega)]
    exact h.rest i (by omega)
/-- the inodes, and the blocks: a new block -/
theorem began_new {M : Vol} {T : Tab} {c : Nat} {B : List Int} {m : List UInt8} (h : Began M T c B m) (hc : c + 2 ≤ 32) {j : Nat} {e : Ent} (hj : j < 16) (he : e.May) (hne : e ≠ noEnt) (hi : e.i = c + 2) (hB : B[j / 4]? = some 0) (hfs : countB m < 128) :
    Began (((M.setIno (c + 2) (newF.setO 0 1)).take.setBlk (firstB m) (blkT (setT T j e) (j / 4))).setIno 1 (rootN c (B.set (j / 4) (firstB m : Int)))) (setT T j e) (c + 1) (B.set (j / 4) (firstB m : Int)) (takeB m (firstB m)) := by
  have hml : m.length = 16 := by rw [← h.map]; exact h.sound.mapl
  obtain ⟨n1, n2, hu⟩ := first_some hml hfs
  have hroot : (M.ino 1).B = B := by rw [h.root]
  have hmp : ((M.setIno (c + 2) (newF.setO 0 1)).take).map = takeB m (firstB m) := by
    show takeB M.map (firstB M.map) = _
    rw [h.map]
  have hino : ∀ i, (((M.setIno (c + 2) (newF.setO 0 1)).take.setBlk (firstB m) (blkT (setT T j e) (j / 4))).setIno 1 (rootN c (B.set (j / 4) (firstB m : Int)))).ino i = if i = 1 then rootN c (B.set (j / 4) (firstB m : Int)) else if i = c + 2 then newF.setO 0 1 else M.ino i := fun i => rfl
  refine began_step h hc hj he hne hi n1 n2 hino rfl hmp (fun q => ?_) (fun k q hk hq h0 hqn => ?_) ?_
  · show (if q = firstB m then _ else if q = firstB M.map then _ else M.blk q) = _
    by_cases e1 : q = firstB m
    · rw [if_pos e1, if_pos e1]
    · rw [if_neg e1, if_neg e1, if_neg (by rw [h.map]; exact e1)]
  · have := (h.sound.used (firstB m) n1 n2).2 ⟨1, k, by omega, by omega, by rw [hroot, hq, hqn]⟩
    rw [h.map, hu] at this
    cases this
  · refine h.sound.take (d := 1) (k := j / 4) (n := firstB m) (by omega) (by omega) (by rw [hroot]; exact hB) n1 n2 (by rw [h.map]; exact hu) (by rw [h.map]; exact hmp) (by rw [hino 1, if_pos rfl, hroot]; rfl) fun i i1 i2 hi1 => ?_
    rw [hino i, if_neg hi1]
    by_cases e2 : i = c + 2
    · rw [if_pos e2, e2, h.rest (c + 2) (Nat.le_refl _)]
      rfl
    · rw [if_neg e2]
/-- a block that is there already -/
theorem began_over {M : Vol} {T : Tab} {c : Nat} {B : List Int} {m : List UInt8} (h : Began M T c B m) (hc : c + 2 ≤ 32) {j n : Nat} {e : Ent} (hj : j < 16) (he : e.May) (hne : e ≠ noEnt) (hi : e.i = c + 2) (hB : B[j / 4]? = some (n : Int)) (n1 : 1 ≤ n) (n2 : n ≤ 128) :
    Began (((M.setIno (c + 2) (newF.setO 0 1)).setBlk n (blkT (setT T j e) (j / 4))).setIno 1 (rootN c B)) (setT T j e) (c + 1) B m := by
  have hroot : (M.ino 1).B = B := by rw [h.root]
  have hl := (List.getElem?_eq_some_iff.1 hB)
  have hset : B = B.set (j / 4) (n : Int) := by
    obtain ⟨h1, h2⟩ := hl
    rw [← h2, List.set_getElem_self]
  have hino : ∀ i, (((M.setIno (c + 2) (newF.setO 0 1)).setBlk n (blkT (setT T j e) (j / 4))).setIno 1 (rootN c B)).ino i = if i = 1 then rootN c B else if i = c + 2 then newF.setO 0 1 else M.ino i := fun i => rfl
  refine began_step h hc hj he hne hi n1 n2 hino hset h.map (fun q => rfl) (fun k q hk hq h0 hqn => ?_) ?_
  · have := (h.sound.one 1 1 k (j / 4) (n : Int) (by omega) (by omega) (by omega) (by omega) (by rw [hroot, hq, hqn]) (by rw [hroot]; exact hB) (by omega)).2
    exact hk this
  · refine h.sound.same rfl fun i i1 i2 => ?_
    rw [hino i]
    by_cases e1 : i = 1
    · rw [if_pos e1, e1, hroot]
      rfl
    · rw [if_neg e1]
      by_cases e2 : i = c + 2
      · rw [if_pos e2, e2, h.rest (c + 2) (Nat.le_refl _)]
        rfl
      · rw [if_neg e2]
end Gd
end Go.Proofs.YtginffdngphjpaaGreatDoor
