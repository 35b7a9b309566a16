/- Walks: metadata: less, Close, Stat. -/
import Derived.Test.YthbonbcbbngciaaGreatDoorV16
import Derived.Test.YthbonbcbbngciaaGreatDoorV12
import Derived.ArgAppend
set_option linter.unusedVariables false
set_option linter.unusedSimpArgs false
set_option linter.unusedSectionVars false
namespace Go.Proofs.YthbonbcbbngciaaGreatDoor
open Go.RowKit Go.Shelf

attribute [local go_sem] Oper.semAt_some

set_option maxHeartbeats 8000000 in
set_option maxRecDepth 100000 in
/-- a name less: what keep does -/
theorem less_ok [MemNo] {x t c K : Nat} {S : List UInt8} {M : Gd.Vol} {F : Nat → Prop} (i : Nat) (r : Int) (w : World) (R : World → Prop) (h : MetaV x t S M c K w F) (h1 : 1 ≤ i) (h2 : i ≤ 32) (hl : 1 ≤ (M.ino i).l ∧ (M.ino i).l ≤ 20)
    (hC : ∀ W, Below w.heap.size w W → Calls Tryz.prog 71 #[.pointer (some ⟨x, 0, none⟩), .int .i64 i, inoV ((M.ino i).setL ((M.ino i).l - 1))] W fun e w' => e = .returned (.int .i64 r) ∧ R w') :
    Calls Tryz.prog 102 #[.pointer (some ⟨x, 0, none⟩), .int .i64 i] w fun e w' => e = .returned (.int .i64 r) ∧ R w' := by
  have HI := Lib.hid (inode_ok (i : Int) w h (by omega) (by omega))
  rw [Int.toNat_natCast] at HI
  have hsh : (M.ino i).Shape := by
    obtain ⟨P, h3, h4⟩ := h
    exact h4.shape i h1 h2
  obtain ⟨y, hy⟩ : ∃ y, y = M.ino i := ⟨_, rfl⟩
  rw [← hy] at HI hsh hl hC
  have HS := Lib.hid (inoC_size hsh)
  have HSh := Lib.hid hsh
  have HS2 := Lib.hid (inoC_size (x := y.setL (y.l - 1)) ⟨hsh.1, hsh.2⟩)
  have HSt := Lib.hid (inoC_set (inoL_setL y (y.l - 1)))
  have HC := Lib.hid hC
  obtain ⟨l, hlq⟩ : ∃ l, l = y.l := ⟨_, rfl⟩
  obtain ⟨l1, hl1⟩ : ∃ l1, l1 = y.l - 1 := ⟨_, rfl⟩
  have hwr : IntKind.i64.wrap (l - 1) = l1 := by rw [hl1, hlq, IntKind.wrap_i64]; omega
  have Hlq := Lib.hid hlq.symm
  rw [← hl1] at HSt HS2 HC
  clear h h1 h2 hsh hy hl hC hlq hl1
  unfold inoV at *
  go_enter Tryz.func102, Tryz.ntmps102
  go_upto_region 4 with (first | (go_at_call 26; refine HI.out.mono ?_; rintro e w2 ⟨rfl, hb2⟩; have HB2 := Lib.hid hb2; clear hb2) | (rw [← zIno_lit]; refine wpList_store_mid rfl 61 _ _ rfl w2.heap.size 0 (inoC y) rfl rfl (there_at (heap_alloc_new _ _) (by rw [zIno_size, HS.out])) (by rw [HS.out]; exact Tryz.sizeIno) (inoC_one _) ?_; obtain ⟨hbw, hbg⟩ := new_whole2 w2 zIno 61 (inoC y).toList (by rw [zIno_size, Array.length_toList, HS.out]); generalize (World.setCells _ _ _ _) = w3 at hbw hbg ⊢; have HB3 := Lib.hid (HB2.out.trans (hbw.mono HB2.out.size)); have HN3 : Hid (w3.heap[w2.heap.size]? = some (.cells (inoC y) 61 (0, 0))) := Lib.hid hbg; clear hbw hbg))
  obtain ⟨ib, hib⟩ : ∃ ib, ib = w2.heap.size := ⟨_, rfl⟩
  have Hib : Hid (w.heap.size ≤ ib) := Lib.hid (by rw [hib]; exact HB2.out.size)
  rw [← hib] at HN3 ⊢
  have hI3 : InoAt w3 ib y := ⟨HN3.out, HSh.out⟩
  have b1 := hI3.c1
  have f1 := hI3.f 1
  rw [Hlq.out] at b1
  obtain ⟨w4, hw4⟩ : ∃ u, u = w3.setCell ⟨ib, 1, none⟩ (.int .i64 l1) := ⟨_, rfl⟩
  have HN4 : Hid (w4.heap[ib]? = some (.cells (inoC (y.setL l1)) 61 (0, 0))) := Lib.hid (by rw [hw4, ← HSt.out]; exact Go.heap_setCell_same w3 ib 1 _ _ _ HN3.out)
  have HB4 : Hid (Below w.heap.size w w4) := Lib.hid (by rw [hw4]; exact HB3.out.setCell Hib.out _)
  have HW4 := Lib.hid hw4.symm
  have HCc := Lib.hid (HC.out w4 HB4.out)
  clear hI3 hw4 hib
  go_upto_region 5 with fail
  rw [HW4.out]
  clear hwr
  go_wp2_with (first | (refine wpList_load_row rfl 61 _ rfl ib rfl 61 (inoC (y.setL l1)) (0, 0) _ HN4.out Tryz.underlying61 rfl (by rw [HS2.out]; exact Tryz.sizeIno) ?_) | (go_at_call 71; refine HCc.out.mono ?_; rintro e w6 ⟨rfl, hr6⟩))
  go_ret
  exact ⟨rfl, hr6⟩

theorem Tryz.sizeInfo : (Tryz.prog.info? 65).map (fun i => i.size) = some 3 := by kernel_rfl

set_option maxHeartbeats 8000000 in
set_option maxRecDepth 100000 in
theorem stat_ok {x : Nat} (s : ByteArray) (i : Nat) (y : Gd.Ino) (hy : y.Shape) (w : World)
    (hW : ∀ W, Below w.heap.size w W → Calls Tryz.prog 32 #[.pointer (some ⟨x, 0, none⟩), .string s] W fun e w' => e = .returned (.tuple #[.int .i64 i, .int .i64 0]) ∧ Below W.heap.size W w')
    (hI : ∀ W, Below w.heap.size w W → Calls Tryz.prog 26 #[.pointer (some ⟨x, 0, none⟩), .int .i64 i] W fun e w' => e = .returned (.tuple #[inoV y, .int .i64 0]) ∧ Below W.heap.size W w') :
    Calls Tryz.prog 33 #[.pointer (some ⟨x, 0, none⟩), .string s] w fun e w' => e = .returned (.tuple #[.agg #[.int .i64 y.k, .int .i64 y.l, .int .i64 y.s], .int .i64 0]) ∧ Below w.heap.size w w' := by
  have HW := Lib.hid hW
  have HI := Lib.hid hI
  have HS := Lib.hid (inoC_size hy)
  have HSh := Lib.hid hy
  clear hW hI hy
  obtain ⟨hb0, hr0⟩ := below_new w #[.int .i64 0, .int .i64 0, .int .i64 0] 65
  obtain ⟨rb, hrb⟩ : ∃ rb, rb = w.heap.size := ⟨_, rfl⟩
  obtain ⟨w0, hw0⟩ : ∃ u, u = w.alloc (.cells #[.int .i64 0, .int .i64 0, .int .i64 0] 65) := ⟨_, rfl⟩
  rw [← hw0, ← hrb] at hr0
  rw [← hw0] at hb0
  have HR0 := Lib.hid hr0
  have HB0 := Lib.hid hb0
  have HW0 := Lib.hid hw0.symm
  have Hrb := Lib.hid hrb.symm
  have Hrb2 : Hid (w.heap.size ≤ rb) := Lib.hid (by omega)
  have HWc := Lib.hid (HW.out w0 hb0)
  clear hb0 hr0 hw0 hrb
  unfold inoV at *
  go_enter Tryz.func33, Tryz.ntmps33
  go_upto_region 1 with fail
  rw [HW0.out, Hrb.out]
  go_upto_region 4 with (go_at_call 32; refine HWc.out.mono ?_; rintro e w1 ⟨rfl, hb1⟩; have HB1 := Lib.hid (HB0.out.trans (hb1.mono HB0.out.size)); have HR1 := Lib.hid ((hb1.block rb (lt_get HR0.out)).trans HR0.out); have HIc := Lib.hid (HI.out w1 HB1.out); clear hb1)
  go_upto_region 5 with (first | (go_at_call 26; refine HIc.out.mono ?_; rintro e w2 ⟨rfl, hb2⟩; have HB2 := Lib.hid (HB1.out.trans (hb2.mono HB1.out.size)); have HR2 := Lib.hid ((hb2.block rb (lt_get HR1.out)).trans HR1.out); clear hb2) | (rw [← zIno_lit]; refine wpList_store_mid rfl 61 _ _ rfl w2.heap.size 0 (inoC y) rfl rfl (there_at (heap_alloc_new _ _) (by rw [zIno_size, HS.out])) (by rw [HS.out]; exact Tryz.sizeIno) (inoC_one _) ?_; obtain ⟨hbw, hbg⟩ := new_whole2 w2 zIno 61 (inoC y).toList (by rw [zIno_size, Array.length_toList, HS.out]); generalize (World.setCells _ _ _ _) = w3 at hbw hbg ⊢; have HB3 := Lib.hid (HB2.out.trans (hbw.mono HB2.out.size)); have HR3 := Lib.hid ((hbw.block rb (lt_get HR2.out)).trans HR2.out); have HN3 : Hid (w3.heap[w2.heap.size]? = some (.cells (inoC y) 61 (0, 0))) := Lib.hid hbg; clear hbw hbg))
  obtain ⟨ib, hib⟩ : ∃ ib, ib = w2.heap.size := ⟨_, rfl⟩
  rw [← hib] at HN3 ⊢
  have hI3 : InoAt w3 ib y := ⟨HN3.out, HSh.out⟩
  have b0 := hI3.c0
  have b1 := hI3.c1
  have b2 := hI3.c2
  have r0 := cell_of_row w3 rb 0 _ _ _ HR3.out
  have r1 := cell_of_row w3 rb 1 _ _ _ HR3.out
  have r2 := cell_of_row w3 rb 2 _ _ _ HR3.out
  have f0 := frozen_of_row w3 rb 0 _ _ HR3.out
  have f1 := frozen_of_row w3 rb 1 _ _ HR3.out
  have f2 := frozen_of_row w3 rb 2 _ _ HR3.out
  clear hI3 hib
  go_wp2
  have g0 := Go.heap_setCell_same w3 rb 0 _ _ (.int .i64 y.k) HR3.out
  have g1 := Go.heap_setCell_same _ rb 1 _ _ (.int .i64 y.l) g0
  have g2 := Go.heap_setCell_same _ rb 2 _ _ (.int .i64 y.s) g1
  refine bodyPost_ret (results_row_tmp rfl _ _ rb 65 #[.int .i64 y.k, .int .i64 y.l, .int .i64 y.s] (0, 0) _ rfl g2 Tryz.underlying65 rfl Tryz.sizeInfo) rfl ?_
  exact ⟨rfl, ((HB3.out.setCell Hrb2.out _).setCell Hrb2.out _).setCell Hrb2.out _⟩

set_option maxHeartbeats 8000000 in
set_option maxRecDepth 100000 in
/-- a descriptor less: what keep does -/
theorem close_ok [MemNo] {x t c K : Nat} {S : List UInt8} {M : Gd.Vol} {F : Nat → Prop} (k i : Nat) (o r : Int) (w : World) (R : World → Prop) (h : MetaV x t S M c K w F) (h1 : 1 ≤ i) (h2 : i ≤ 32) (hk : k < 8) (ho : (M.ino i).O[k]? = some o) (ho1 : 1 ≤ o) (ho8 : o ≤ 8)
    (hC : ∀ W, Below w.heap.size w W → Calls Tryz.prog 71 #[.pointer (some ⟨x, 0, none⟩), .int .i64 i, inoV ((M.ino i).setO k (o - 1))] W fun e w' => e = .returned (.int .i64 r) ∧ R w') :
    Calls Tryz.prog 58 #[.pointer (some ⟨x, 0, none⟩), .int .i64 ((k : Int) + 1), .int .i64 i] w fun e w' => e = .returned (.int .i64 r) ∧ R w' := by
  have HI := Lib.hid (inode_ok (i : Int) w h (by omega) (by omega))
  rw [Int.toNat_natCast] at HI
  have hsh : (M.ino i).Shape := by
    obtain ⟨P, h3, h4⟩ := h
    exact h4.shape i h1 h2
  obtain ⟨y, hy⟩ : ∃ y, y = M.ino i := ⟨_, rfl⟩
  rw [← hy] at HI hsh hC ho
  have HS := Lib.hid (inoC_size hsh)
  have HSh := Lib.hid hsh
  have Ho := Lib.hid ho
  have HS2 := Lib.hid (inoC_size (Gd.Ino.setO_shape hsh k (o - 1)))
  have HSt := Lib.hid (inoC_set (inoL_setO hsh hk (o - 1)))
  have HC := Lib.hid hC
  have HIs := Lib.hid fun W => mis_any ((k : Int) + 1) W
  rw [show (decide ((1 : Int) ≤ (k : Int) + 1) && decide (((k : Int) + 1) ≤ 8)) = true by simp; omega] at HIs
  have hk8 : (k : Int) < 8 := by omega
  have hk0 : (0 : Int) ≤ k := by omega
  obtain ⟨o1, ho1q⟩ : ∃ o1, o1 = o - 1 := ⟨_, rfl⟩
  have hwo : IntKind.i64.wrap (o - 1) = o1 := by rw [ho1q, IntKind.wrap_i64]; omega
  have hob : (o == 0) = false := by simp; omega
  have hon : ¬ o = 0 := by omega
  rw [← ho1q] at HSt HS2 HC
  clear h h1 h2 hsh hy hC ho1q ho ho1 ho8
  unfold inoV at *
  go_enter Tryz.func58, Tryz.ntmps58
  go_upto_region 2 with (first | (go_at_call 26; refine HI.out.mono ?_; rintro e w2 ⟨rfl, hb2⟩; have HB2 := Lib.hid hb2; clear hb2) | (rw [← zIno_lit]; refine wpList_store_mid rfl 61 _ _ rfl w2.heap.size 0 (inoC y) rfl rfl (there_at (heap_alloc_new _ _) (by rw [zIno_size, HS.out])) (by rw [HS.out]; exact Tryz.sizeIno) (inoC_one _) ?_; obtain ⟨hbw, hbg⟩ := new_whole2 w2 zIno 61 (inoC y).toList (by rw [zIno_size, Array.length_toList, HS.out]); generalize (World.setCells _ _ _ _) = w3 at hbw hbg ⊢; have HB3 := Lib.hid (HB2.out.trans (hbw.mono HB2.out.size)); have HN3 : Hid (w3.heap[w2.heap.size]? = some (.cells (inoC y) 61 (0, 0))) := Lib.hid hbg; clear hbw hbg))
  obtain ⟨ib, hib⟩ : ∃ ib, ib = w2.heap.size := ⟨_, rfl⟩
  have Hib : Hid (w.heap.size ≤ ib) := Lib.hid (by rw [hib]; exact HB2.out.size)
  rw [← hib] at HN3 ⊢
  have hI3 : InoAt w3 ib y := ⟨HN3.out, HSh.out⟩
  obtain ⟨b1, f1⟩ := hI3.cO (k := k) (n := o) Ho.out
  obtain ⟨w4, hw4⟩ : ∃ u, u = w3.setCell ⟨ib, 7 + k, none⟩ (.int .i64 o1) := ⟨_, rfl⟩
  have HN4 : Hid (w4.heap[ib]? = some (.cells (inoC (y.setO k o1)) 61 (0, 0))) := Lib.hid (by rw [hw4, ← HSt.out]; exact Go.heap_setCell_same w3 ib (7 + k) _ _ _ HN3.out)
  have HB4 : Hid (Below w.heap.size w w4) := Lib.hid (by rw [hw4]; exact HB3.out.setCell Hib.out _)
  have HW4 := Lib.hid hw4.symm
  have HCc := Lib.hid (HC.out w4 HB4.out)
  clear hI3 hw4 hib
  go_upto_region 5 with (go_at_call 70; refine (HIs.out _).mono ?_; rintro e wq ⟨rfl, rfl⟩)
  rw [HW4.out]
  clear hwo
  go_wp2_with (first | (refine wpList_load_row rfl 61 _ rfl ib rfl 61 (inoC (y.setO k o1)) (0, 0) _ HN4.out Tryz.underlying61 rfl (by rw [HS2.out]; exact Tryz.sizeIno) ?_) | (go_at_call 71; refine HCc.out.mono ?_; rintro e w6 ⟨rfl, hr6⟩))
  go_ret
  exact ⟨rfl, hr6⟩

end Go.Proofs.YthbonbcbbngciaaGreatDoor

/- Walks: metadata: a directory's table is changed, and a block given back. -/
namespace Go.Proofs.YthbonbcbbngciaaGreatDoor
open Go.RowKit Go.Shelf

attribute [local go_sem] Oper.semAt_some

set_option maxHeartbeats 8000000 in
set_option maxRecDepth 100000 in
theorem change_give [MemNo] {x t c K d a : Nat} {S : List UInt8} {M : Gd.Vol} {F : Nat → Prop} (n : Int) (T : Gd.Tab) (more spare : Int) (w : World) (h : MetaV x t S M c K w F) (h1 : 1 ≤ d) (h2 : d ≤ 32) (ha : a < 16) (hT : Gd.TabOk T) (hu : Gd.usedT T (a / 4) = false) (hB : (M.ino d).B[a / 4]? = some n) (hmay : Gd.mayI (((M.ino d).setB (a / 4) 0).setS ((M.ino d).s + more)) = true) (hsz : 0 ≤ (M.ino d).s + more ∧ (M.ino d).s + more ≤ 16) (hc : c + 10 < 64) :
    Calls Tryz.prog 161 #[.pointer (some ⟨x, 0, none⟩), .int .i64 d, .int .i64 a, tabV T, .int .i64 more, .int .i64 spare] w fun e w' => e = .returned (.int .i64 0) ∧ Turns x t S ((M.setMap (Gd.giveI M.map n)).setIno d (((M.ino d).setB (a / 4) 0).setS ((M.ino d).s + more))) (c + 2) K F w w' := by
  obtain ⟨k, hk⟩ : ∃ k, k = a / 4 := ⟨_, rfl⟩
  have hq := quo4 a
  rw [← hk] at hq hu hB hmay ⊢
  have hk4 : k < 4 := by omega
  have hsh : (M.ino d).Shape := by
    obtain ⟨P, h3, h4⟩ := h
    exact h4.shape d h1 h2
  have HTs := Lib.hid (tabC_size hT.len)
  obtain ⟨hb0, hr0⟩ := below_new w (tabC T) 83
  obtain ⟨tb, htb⟩ : ∃ tb, tb = w.heap.size := ⟨_, rfl⟩
  obtain ⟨w0, hw0⟩ : ∃ u, u = w.alloc (.cells (tabC T) 83) := ⟨_, rfl⟩
  rw [← hw0, ← htb] at hr0
  rw [← hw0] at hb0
  have HL0 := Lib.hid ((Tl.start h).new hb0 (k := tb) (by omega) hr0)
  have HIn := Lib.hid (inode_ok (d : Int) w0 (h.below hb0) (by omega) (by omega))
  rw [Int.toNat_natCast] at HIn
  have HGv := Lib.hid fun W F1 (h3 : MetaV x t S M c K W F1) gb (hg : W.heap[gb]? = some (.cells #[.int .i64 n] 3 (0, 0))) => mgive_any gb 0 1 [n] W h3 (by omega) (by show 1 ≤ 100; omega) (lt_get hg) (fun j m hj => by
    match j, hj with
    | 0, hj =>
      cases hj
      exact cell_of_row W gb 0 _ _ _ hg)
  have HUs := Lib.hid fun W => tused_any T hT.len k hk4 W
  rw [hu] at HUs
  obtain ⟨x0, hx0⟩ : ∃ x0, x0 = M.ino d := ⟨_, rfl⟩
  rw [← hx0] at hsh hB hmay hsz HIn ⊢
  obtain ⟨x1, hx1⟩ : ∃ x1, x1 = x0.setB k 0 := ⟨_, rfl⟩
  rw [← hx1] at hmay ⊢
  obtain ⟨y, hy⟩ : ∃ y, y = (x1.setS (x0.s + more)) := ⟨_, rfl⟩
  rw [← hy] at hmay ⊢
  have hsh1 : x1.Shape := by rw [hx1]; exact Gd.Ino.setB_shape hsh k 0
  have hB1 : x1.B[k]? = some 0 := by
    rw [hx1]
    show (x0.B.set k 0)[k]? = some 0
    rw [List.getElem?_set_self (by rw [hsh.1]; exact hk4)]
  have hs1 : x1.s = x0.s := by rw [hx1]; rfl
  have hC1 : (inoC x0).setIfInBounds (3 + k) (.int .i64 0) = inoC x1 := by rw [hx1]; exact inoC_set (inoL_setB hsh hk4 0)
  have hC2 : (inoC x1).setIfInBounds 2 (.int .i64 (x0.s + more)) = inoC y := by rw [hy]; exact inoC_set (inoL_setS x1 _)
  have hyS : y.Shape := by rw [hy]; exact Gd.Ino.setS_shape hsh1 _
  obtain ⟨M1, hM1⟩ : ∃ M1, M1 = M.setMap (Gd.giveI M.map n) := ⟨_, rfl⟩
  have hM1' : M.setMap ([n].foldl Gd.giveI M.map) = M1 := by rw [hM1]; rfl
  rw [hM1'] at HGv
  rw [← hM1]
  have HSi := Lib.hid fun W F1 (h3 : MetaV x t S M1 (c + 1) K W F1) => setino_ok (d : Int) y hyS hmay W h3 (by omega) (by omega) (by omega)
  rw [Int.toNat_natCast] at HSi
  have HS := Lib.hid (inoC_size hsh)
  have HSy := Lib.hid (inoC_size hyS)
  have HX := Lib.hid (And.intro hsh hsh1)
  have HB0 := Lib.hid hB
  have HB1 := Lib.hid hB1
  have HC1 := Lib.hid hC1
  have HC2 := Lib.hid hC2
  have Htb := Lib.hid htb.symm
  have HW0 := Lib.hid hw0.symm
  obtain ⟨sm, hsm⟩ : ∃ sm, sm = x0.s + more := ⟨_, rfl⟩
  have hwr : IntKind.i64.wrap (x0.s + more) = sm := by rw [hsm, IntKind.wrap_i64]; omega
  obtain ⟨xs, hxs⟩ : ∃ xs, xs = x0.s := ⟨_, rfl⟩
  rw [← hxs] at hwr hs1
  rw [← hsm] at HC2
  have Hs1 := Lib.hid hs1
  have g4 : (k : Int) < 4 := by omega
  have g0 : (0 : Int) ≤ k := by omega
  have ga : (0 : Int) ≤ a := by omega
  have Hq := Lib.hid hq
  clear hk hq hB hmay hsz hsh hsh1 hB1 hC1 hC2 hyS htb hw0 hr0 hb0 h h1 h2 hT hu hsm hxs hs1 hx0 hy hx1 hM1 hM1'
  unfold inoV tabV at *
  go_enter Tryz.func161, Tryz.ntmps161
  go_upto_region 1 with fail
  rw [HW0.out, Htb.out]
  go_upto_region 2 with (first | (go_at_call 26; refine HIn.out.mono ?_; rintro e w2 ⟨rfl, hb2⟩; have HL2 := Lib.hid (HL0.out.below hb2); clear hb2) | (rw [← zIno_lit]; refine wpList_store_mid rfl 61 _ _ rfl w2.heap.size 0 (inoC x0) rfl rfl (there_at (heap_alloc_new _ _) (by rw [zIno_size, HS.out])) (by rw [HS.out]; exact Tryz.sizeIno) (inoC_one _) ?_; obtain ⟨hbw, hbg⟩ := new_whole2 w2 zIno 61 (inoC x0).toList (by rw [zIno_size, Array.length_toList, HS.out]); generalize (World.setCells _ _ _ _) = w3 at hbw hbg ⊢; have HL3 := Lib.hid (HL2.out.new hbw (Nat.le_refl _) (o := .cells (inoC x0) 61 (0, 0)) hbg); clear hbw hbg))
  obtain ⟨ib, hib⟩ : ∃ ib, ib = w2.heap.size := ⟨_, rfl⟩
  rw [← hib] at HL3 ⊢
  have htib : Hid (ib ≠ tb) := Lib.hid (by
    have := lt_get (HL2.out.get (k := tb) (o := .cells (tabC T) 83 (0, 0)) (by simp))
    omega)
  clear hib
  have HTr3 := Lib.hid (HL3.out.get (k := tb) (o := .cells (tabC T) 83 (0, 0)) (by simp))
  go_upto_region 5 with fail
  rw [Hq.out]
  go_upto_region 6 with (first | (refine wpList_load_row rfl 83 _ rfl tb rfl 83 (tabC T) (0, 0) _ HTr3.out Tryz.underlying83 rfl (by rw [HTs.out]; exact Tryz.sizeTab) ?_) | (go_at_call 188; refine (HUs.out w3).mono ?_; rintro e w4 ⟨rfl, hb4⟩; have HL4 := Lib.hid (HL3.out.below hb4); clear hb4))
  have hI4 : InoAt w4 ib x0 := ⟨HL4.out.get (k := ib) (by simp), HX.out.1⟩
  obtain ⟨b0, -⟩ := hI4.cB HB0.out
  obtain ⟨w5, hw5⟩ : ∃ u, u = w4.alloc (.cells #[.int .i64 n] 3) := ⟨_, rfl⟩
  obtain ⟨gb, hgb⟩ : ∃ gb, gb = w4.heap.size := ⟨_, rfl⟩
  have hl5 : Tl x t S M c K F w w5 [(gb, .cells #[.int .i64 n] 3 (0, 0)), (ib, .cells (inoC x0) 61 (0, 0)), (tb, .cells (tabC T) 83 (0, 0))] := by
    rw [hw5, hgb]
    exact HL4.out.new ((Below.refl _ _).alloc (Nat.le_refl _) _) (Nat.le_refl _) (heap_alloc_new _ _)
  have hgr := hl5.get (k := gb) (o := .cells #[.int .i64 n] 3 (0, 0)) (by simp)
  obtain ⟨F5, h5s, h5l⟩ := hl5
  have HGc : Hid (Calls Tryz.prog 126 #[.pointer (some ⟨x, 0, none⟩), .slice (some ⟨gb, 0, none⟩) 1 1] w5 fun e w' => e = .returned (.int .i64 0) ∧ Tl x t S M1 (c + 1) K F w w' [(ib, .cells (inoC x0) 61 (0, 0)), (tb, .cells (tabC T) 83 (0, 0))]) := Lib.hid (by
    refine (HGv.out w5 F5 h5s.inv gb hgr).mono ?_
    rintro e w' ⟨he, ht⟩
    exact ⟨he, Tl.next h5s (fun p hp => h5l p (List.mem_cons_of_mem _ hp)) ht⟩)
  have HW5 := Lib.hid hw5.symm
  have Hgb := Lib.hid hgb.symm
  clear hI4 hw5 hgb hgr h5s h5l
  go_upto_region 7 with (first | (rw [HW5.out, Hgb.out]; go_at_call 126; refine HGc.out.mono ?_; rintro e w6 ⟨rfl, hl6⟩; have HL6 := Lib.hid hl6; clear hl6) | (go_at_call 126; rw [HW5.out, Hgb.out]; refine HGc.out.mono ?_; rintro e w6 ⟨rfl, hl6⟩; have HL6 := Lib.hid hl6; clear hl6))
  clear b0
  have hI6 : InoAt w6 ib x0 := ⟨HL6.out.get (k := ib) (by simp), HX.out.1⟩
  obtain ⟨b0, f0⟩ := hI6.cB HB0.out
  clear hI6
  have hl7 : Tl x t S M1 (c + 1) K F w (w6.setCell ⟨ib, 3 + k, none⟩ (.int .i64 0)) [(ib, .cells (inoC x1) 61 (0, 0))] := by
    refine HL6.out.set (k := ib) (C := inoC x0) (ty := 61) (by simp) _ fun p hp => ?_
    rw [HC1.out]
    exact Or.inl (by simpa using hp)
  obtain ⟨w7, hw7⟩ : ∃ u, u = w6.setCell ⟨ib, 3 + k, none⟩ (.int .i64 0) := ⟨_, rfl⟩
  rw [← hw7] at hl7
  have HL7 := Lib.hid hl7
  have HW7 := Lib.hid hw7.symm
  clear hl7 hw7
  go_upto_region 10 with fail
  rw [HW7.out]
  clear b0 f0
  have hI7 : InoAt w7 ib x1 := ⟨HL7.out.get (k := ib) (by simp), HX.out.2⟩
  obtain ⟨b0, -⟩ := hI7.cB HB1.out
  have b2 := hI7.c2
  rw [Hs1.out] at b2
  have f2 := hI7.f 2
  clear hI7
  have hl9 : Tl x t S M1 (c + 1) K F w (w7.setCell ⟨ib, 2, none⟩ (.int .i64 sm)) [(ib, .cells (inoC y) 61 (0, 0))] := by
    refine HL7.out.set (k := ib) (C := inoC x1) (ty := 61) (by simp) _ fun p hp => ?_
    rw [HC2.out]
    exact Or.inl (by simpa using hp)
  obtain ⟨w9, hw9⟩ : ∃ u, u = w7.setCell ⟨ib, 2, none⟩ (.int .i64 sm) := ⟨_, rfl⟩
  rw [← hw9] at hl9
  have HL9 := Lib.hid hl9
  have HW9 := Lib.hid hw9.symm
  clear hl9 hw9
  go_upto_region 20 with fail
  rw [HW9.out]
  have HIr := Lib.hid (HL9.out.get (k := ib) (o := .cells (inoC y) 61 (0, 0)) (by simp))
  obtain ⟨F9, h9s, h9l⟩ := HL9.out
  have HSc9 := Lib.hid (HSi.out w9 F9 h9s.inv)
  have HNx := Lib.hid fun b N d (h : Turns x t S N d K F9 w9 b) => Tl.next h9s h9l h
  clear h9s h9l b2 f2
  go_wp2_with (first | (refine wpList_load_row rfl 61 _ rfl ib rfl 61 (inoC y) (0, 0) _ HIr.out Tryz.underlying61 rfl (by rw [HSy.out]; exact Tryz.sizeIno) ?_) | (go_at_call 46; refine HSc9.out.mono ?_; rintro e w10 ⟨rfl, ht10⟩; have HL10 := Lib.hid (HNx.out _ _ _ ht10); clear ht10))
  go_ret
  exact ⟨rfl, HL10.out.turns⟩

end Go.Proofs.YthbonbcbbngciaaGreatDoor

/- Walks: metadata: Mkdir, remove, Unlink. -/
namespace Go.Proofs.YthbonbcbbngciaaGreatDoor
open Go.RowKit Go.Shelf

attribute [local go_sem] Oper.semAt_some

theorem rootV_lit : inoV Gd.rootI = .agg #[.int .i64 2, .int .i64 1, .int .i64 0, .int .i64 0, .int .i64 0, .int .i64 0, .int .i64 0, .int .i64 0, .int .i64 0, .int .i64 0, .int .i64 0, .int .i64 0, .int .i64 0, .int .i64 0, .int .i64 0] := rfl

set_option maxHeartbeats 8000000 in
set_option maxRecDepth 100000 in
theorem mkdir_ok {x : Nat} (s n : ByteArray) (wi d f : Nat) (E spare : Int) (w : World) (R : World → Prop) (hE : E ≠ 0)
    (hW : ∀ W, Below w.heap.size w W → Calls Tryz.prog 32 #[.pointer (some ⟨x, 0, none⟩), .string s] W fun e w' => e = .returned (.tuple #[.int .i64 wi, .int .i64 E]) ∧ Below W.heap.size W w')
    (hP : ∀ W, Below w.heap.size w W → Calls Tryz.prog 97 #[.pointer (some ⟨x, 0, none⟩), .string s] W fun e w' => e = .returned (.tuple #[.int .i64 d, .string n, .int .i64 0]) ∧ Below W.heap.size W w')
    (hF : ∀ W, Below w.heap.size w W → Calls Tryz.prog 98 #[.pointer (some ⟨x, 0, none⟩), .int .i64 d, .string n] W fun e w' => e = .returned (.tuple #[.int .i64 0, .int .i64 0]) ∧ Below W.heap.size W w')
    (hM : ∀ W, Below w.heap.size w W → Calls Tryz.prog 99 #[.pointer (some ⟨x, 0, none⟩), .int .i64 d, .string n, inoV Gd.rootI, .int .i64 spare] W fun e w' => e = .returned (.tuple #[.int .i64 f, .int .i64 0]) ∧ R w') :
    Calls Tryz.prog 55 #[.pointer (some ⟨x, 0, none⟩), .string s, .int .i64 spare] w fun e w' => e = .returned (.int .i64 0) ∧ R w' := by
  have HW0 := Lib.hid (hW w (Below.refl _ _))
  have HP := Lib.hid hP
  have HF := Lib.hid hF
  have HM : Hid (∀ W, Below w.heap.size w W → Calls Tryz.prog 99 #[.pointer (some ⟨x, 0, none⟩), .int .i64 d, .string n, .agg #[.int .i64 2, .int .i64 1, .int .i64 0, .int .i64 0, .int .i64 0, .int .i64 0, .int .i64 0, .int .i64 0, .int .i64 0, .int .i64 0, .int .i64 0, .int .i64 0, .int .i64 0, .int .i64 0, .int .i64 0], .int .i64 spare] W fun e w' => e = .returned (.tuple #[.int .i64 f, .int .i64 0]) ∧ R w') := Lib.hid fun W hW => by
    have h0 := hM W hW
    rw [rootV_lit] at h0
    exact h0
  have hEb : (E == 0) = false := by simp [hE]
  clear hW hP hF hM
  go_enter Tryz.func55, Tryz.ntmps55
  go_upto_region 4 with (go_at_call 32; refine HW0.out.mono ?_; rintro e w2 ⟨rfl, hb2⟩; have HB2 := Lib.hid hb2; clear hb2)
  have HP2 := Lib.hid (HP.out w2 HB2.out)
  go_upto_region 7 with (go_at_call 97; refine HP2.out.mono ?_; rintro e w3 ⟨rfl, hb3⟩; have HB3 := Lib.hid (HB2.out.trans (hb3.mono HB2.out.size)); clear hb3)
  have HF3 := Lib.hid (HF.out w3 HB3.out)
  go_upto_region 10 with (go_at_call 98; refine HF3.out.mono ?_; rintro e w4 ⟨rfl, hb4⟩; have HB4 := Lib.hid (HB3.out.trans (hb4.mono HB3.out.size)); clear hb4)
  have HMc := Lib.hid (HM.out w4 HB4.out)
  go_wp2_with (go_at_call 99; refine HMc.out.mono ?_; rintro e w6 ⟨rfl, hr6⟩)
  go_ret
  exact ⟨rfl, hr6⟩

set_option maxHeartbeats 8000000 in
set_option maxRecDepth 100000 in
theorem remove_ok {x : Nat} (s n : ByteArray) (i d : Nat) (r : Int) (w : World) (Q R : World → Prop)
    (hP : ∀ W, Below w.heap.size w W → Calls Tryz.prog 97 #[.pointer (some ⟨x, 0, none⟩), .string s] W fun e w' => e = .returned (.tuple #[.int .i64 d, .string n, .int .i64 0]) ∧ Below W.heap.size W w')
    (hT : ∀ W, Below w.heap.size w W → Calls Tryz.prog 125 #[.pointer (some ⟨x, 0, none⟩), .int .i64 d, .string n] W fun e w' => e = .returned (.int .i64 0) ∧ Q w')
    (hL : ∀ W, Q W → Calls Tryz.prog 102 #[.pointer (some ⟨x, 0, none⟩), .int .i64 i] W fun e w' => e = .returned (.int .i64 r) ∧ R w') :
    Calls Tryz.prog 101 #[.pointer (some ⟨x, 0, none⟩), .string s, .int .i64 i, .func (.func 102) #[.pointer (some ⟨x, 0, none⟩)] #[]] w fun e w' => e = .returned (.int .i64 r) ∧ R w' := by
  have HP0 := Lib.hid (hP w (Below.refl _ _))
  have HT := Lib.hid hT
  have HL := Lib.hid hL
  clear hP hT hL
  go_enter Tryz.func101, Tryz.ntmps101
  go_upto_region 4 with (go_at_call 97; refine HP0.out.mono ?_; rintro e w1 ⟨rfl, hb1⟩; have HTc := Lib.hid (HT.out w1 hb1); clear hb1)
  go_upto_region 7 with (go_at_call 125; refine HTc.out.mono ?_; rintro e w2 ⟨rfl, hq2⟩; have HLc := Lib.hid (HL.out w2 hq2); clear hq2)
  go_wp2_with (go_at_call 102; refine HLc.out.mono ?_; rintro e w3 ⟨rfl, hr3⟩)
  go_ret
  exact ⟨rfl, hr3⟩

set_option maxHeartbeats 8000000 in
set_option maxRecDepth 100000 in
theorem unlink_ok {x : Nat} (s : ByteArray) (i : Nat) (y : Gd.Ino) (r : Int) (hy : y.Shape) (hk : y.k ≠ 2) (w : World) (R : World → Prop)
    (hW : ∀ W, Below w.heap.size w W → Calls Tryz.prog 32 #[.pointer (some ⟨x, 0, none⟩), .string s] W fun e w' => e = .returned (.tuple #[.int .i64 i, .int .i64 0]) ∧ Below W.heap.size W w')
    (hI : ∀ W, Below w.heap.size w W → Calls Tryz.prog 26 #[.pointer (some ⟨x, 0, none⟩), .int .i64 i] W fun e w' => e = .returned (.tuple #[inoV y, .int .i64 0]) ∧ Below W.heap.size W w')
    (hR : ∀ W, Below w.heap.size w W → Calls Tryz.prog 101 #[.pointer (some ⟨x, 0, none⟩), .string s, .int .i64 i, .func (.func 102) #[.pointer (some ⟨x, 0, none⟩)] #[]] W fun e w' => e = .returned (.int .i64 r) ∧ R w') :
    Calls Tryz.prog 57 #[.pointer (some ⟨x, 0, none⟩), .string s] w fun e w' => e = .returned (.int .i64 r) ∧ R w' := by
  have HW0 := Lib.hid (hW w (Below.refl _ _))
  have HI := Lib.hid hI
  have HR := Lib.hid hR
  have HS := Lib.hid (inoC_size hy)
  have HSh := Lib.hid hy
  have hkb : (y.k == 2) = false := by simp [hk]
  clear hW hI hy hR
  unfold inoV at *
  go_enter Tryz.func57, Tryz.ntmps57
  go_upto_region 4 with (go_at_call 32; refine HW0.out.mono ?_; rintro e w1 ⟨rfl, hb1⟩; have HB1 := Lib.hid hb1; have HIc := Lib.hid (HI.out w1 hb1); clear hb1)
  go_upto_region 5 with (first | (go_at_call 26; refine HIc.out.mono ?_; rintro e w2 ⟨rfl, hb2⟩; have HB2 := Lib.hid (HB1.out.trans (hb2.mono HB1.out.size)); clear hb2) | (rw [← zIno_lit]; refine wpList_store_mid rfl 61 _ _ rfl w2.heap.size 0 (inoC y) rfl rfl (there_at (heap_alloc_new _ _) (by rw [zIno_size, HS.out])) (by rw [HS.out]; exact Tryz.sizeIno) (inoC_one _) ?_; obtain ⟨hbw, hbg⟩ := new_whole2 w2 zIno 61 (inoC y).toList (by rw [zIno_size, Array.length_toList, HS.out]); generalize (World.setCells _ _ _ _) = w3 at hbw hbg ⊢; have HB3 := Lib.hid (HB2.out.trans (hbw.mono HB2.out.size)); have HN3 : Hid (w3.heap[w2.heap.size]? = some (.cells (inoC y) 61 (0, 0))) := Lib.hid hbg; clear hbw hbg))
  obtain ⟨ib, hib⟩ : ∃ ib, ib = w2.heap.size := ⟨_, rfl⟩
  rw [← hib] at HN3 ⊢
  have hI3 : InoAt w3 ib y := ⟨HN3.out, HSh.out⟩
  have b0 := hI3.c0
  clear hI3 hib
  go_upto_region 9 with fail
  have HRc := Lib.hid (HR.out w3 HB3.out)
  go_wp2_with fail
  refine HRc.out.mono ?_
  rintro e w4 ⟨rfl, hr4⟩
  go_wp2
  go_ret
  exact ⟨rfl, hr4⟩

end Go.Proofs.YthbonbcbbngciaaGreatDoor

/- The example of chapter 14, in plain words: a directory, and a file in it. -/
namespace Go.Proofs.YthbonbcbbngciaaGreatDoor
namespace Gd
def z8 : List Int := [0, 0, 0, 0, 0, 0, 0, 0]
def lvD : Tab := setT noTab 14 ⟨[100], 2⟩
def lvT : Tab := setT noTab 14 ⟨[97], 3⟩
theorem lvD_ok : TabOk lvD := noTab_ok.set (Or.inr ⟨names4.2.2.2, by decide, by decide⟩)
theorem lvT_ok : TabOk lvT := noTab_ok.set (Or.inr ⟨names4.1, by decide, by decide⟩)
theorem lvD_no : ∀ (k : Fin 3) (i : Fin 4), entAt lvD (4 * k.val + i.val) = noEnt := by decide +kernel
theorem lvT_no : ∀ (k : Fin 3) (i : Fin 4), entAt lvT (4 * k.val + i.val) = noEnt := by decide +kernel
theorem findD : findT noTab [100] 14 = none ∧ findT lvD [100] 14 = some 14 ∧ (entAt lvD 14).i = 2 := by decide +kernel
theorem findA : findT noTab [97] 14 = none ∧ findT lvT [97] 14 = some 14 ∧ (entAt lvT 14).i = 3 := by decide +kernel
theorem place0 : placeT noTab 14 = some 14 := by decide +kernel
theorem lvT_back : setT lvT 14 noEnt = noTab ∧ usedT noTab 3 = false := by decide +kernel
theorem lvD_ent : ∀ e ∈ lvD, e ≠ noEnt → e.i = 2 := by decide +kernel
theorem lvT_ent : ∀ e ∈ lvT, e ≠ noEnt → e.i = 3 := by decide +kernel
/-- a directory with its last block alone -/
theorem dir_last {N : Vol} {d : Nat} {T : Tab} {n : Nat} (lo : 1 ≤ d) (hi : d ≤ 32) (kind : (N.ino d).k = 2) (ok : TabOk T) (hB : (N.ino d).B = [0, 0, 0, (n : Int)]) (hno : ∀ (k : Fin 3) (i : Fin 4), entAt T (4 * k.val + i.val) = noEnt) (hn1 : 1 ≤ n) (hn2 : n ≤ 128) (hb : N.blk n = blkT T 3) : DirOf N d T := by
  refine ⟨lo, hi, kind, ok, fun k hk => ?_⟩
  rw [hB]
  by_cases e : k = 3
  · subst e
    exact ⟨n, rfl, Or.inr ⟨hn1, hn2, hb⟩⟩
  · refine ⟨0, ?_, Or.inl ⟨rfl, fun i hi => hno ⟨k, by omega⟩ ⟨i, hi⟩⟩⟩
    match k, hk, e with
    | 0, _, _ => rfl
    | 1, _, _ => rfl
    | 2, _, _ => rfl
    | 3, _, e => exact absurd rfl e
theorem dir_none {N : Vol} {d : Nat} (lo : 1 ≤ d) (hi : d ≤ 32) (kind : (N.ino d).k = 2) (hB : (N.ino d).B = [0, 0, 0, 0]) : DirOf N d noTab := by
  refine ⟨lo, hi, kind, noTab_ok, fun k hk => ⟨0, ?_, Or.inl ⟨rfl, fun i _ => noTab_at _⟩⟩⟩
  rw [hB]
  match k, hk with
  | 0, _ => rfl
  | 1, _ => rfl
  | 2, _ => rfl
  | 3, _ => rfl
/-- behind Mkdir -/
structure Lv1 (M : Vol) : Prop where
  i1 : M.ino 1 = ⟨2, 1, 1, [0, 0, 0, 1], z8⟩
  i2 : M.ino 2 = rootI
  rest : ∀ i, 3 ≤ i → M.ino i = noIno
  map : M.map = map1
  b1 : M.blk 1 = blkT lvD 3
/-- behind Open -/
structure Lv2 (M : Vol) : Prop where
  i1 : M.ino 1 = ⟨2, 1, 1, [0, 0, 0, 1], z8⟩
  i2 : M.ino 2 = ⟨2, 1, 1, [0, 0, 0, 2], z8⟩
  i3 : M.ino 3 = newF.setO 0 1
  rest : ∀ i, 4 ≤ i → M.ino i = noIno
  map : M.map = map2
  b1 : M.blk 1 = blkT lvD 3
  b2 : M.blk 2 = blkT lvT 3
def tre1 (d : Nat) : Tab := if d = 1 then lvD else noTab
def tre2 (d : Nat) : Tab := if d = 1 then lvD else if d = 2 then lvT else noTab
theorem Lv1.tree {M : Vol} (h : Lv1 M) : Tree M tre1 := by
  have hd : ∀ d, 1 ≤ d → (M.ino d).k = 2 → d = 1 ∨ d = 2 := fun d h1 hk => by
    by_cases e : 3 ≤ d
    · rw [h.rest d e] at hk
      exact absurd hk (by decide)
    · omega
  refine ⟨by rw [h.i1], fun d h1 h2 hk => ?_, fun d h1 h2 hk e he hne => ?_⟩
  · rcases hd d h1 hk with rfl | rfl
    · exact dir_last (n := 1) (by omega) (by omega) (by rw [h.i1]) lvD_ok (by rw [h.i1]; rfl) lvD_no (by omega) (by omega) h.b1
    · exact dir_none (by omega) (by omega) hk (by rw [h.i2]; rfl)
  · rcases hd d h1 hk with rfl | rfl
    · rw [lvD_ent e he hne, h.i2]
      decide
    · exact absurd (List.eq_of_mem_replicate he) hne
theorem Lv2.tree {M : Vol} (h : Lv2 M) : Tree M tre2 := by
  have hd : ∀ d, 1 ≤ d → (M.ino d).k = 2 → d = 1 ∨ d = 2 := fun d h1 hk => by
    by_cases e : 4 ≤ d
    · rw [h.rest d e] at hk
      exact absurd hk (by decide)
    · by_cases e3 : d = 3
      · rw [e3, h.i3] at hk
        exact absurd hk (by decide)
      · omega
  refine ⟨by rw [h.i1], fun d h1 h2 hk => ?_, fun d h1 h2 hk e he hne => ?_⟩
  · rcases hd d h1 hk with rfl | rfl
    · exact dir_last (n := 1) (by omega) (by omega) (by rw [h.i1]) lvD_ok (by rw [h.i1]; rfl) lvD_no (by omega) (by omega) h.b1
    · exact dir_last (n := 2) (by omega) (by omega) (by rw [h.i2]) lvT_ok (by rw [h.i2]; rfl) lvT_no (by omega) (by omega) h.b2
  · rcases hd d h1 hk with rfl | rfl
    · rw [lvD_ent e he hne, h.i2]
      show (2 : Int) ≠ 0
      decide
    · rw [lvT_ent e he hne, h.i3]
      decide
theorem lv1_of (S : List UInt8) {N : Vol} (hN : N = ((((freshV S).setIno 2 rootI).take.setBlk 1 (blkT lvD 3)).setIno 1 ⟨2, 1, 1, [0, 0, 0, 1], z8⟩)) : Lv1 N := by
  have hmp : ((freshV S).setIno 2 rootI).map = map0 := rfl
  have hf : firstB ((freshV S).setIno 2 rootI).map = 1 := by rw [hmp]; exact first0.1
  subst hN
  refine ⟨rfl, rfl, fun i hi => ?_, ?_, ?_⟩
  · show (if i = 1 then _ else if i = 2 then rootI else if i = 1 then rootI else noIno) = noIno
    rw [if_neg (by omega), if_neg (by omega), if_neg (by omega)]
  · show takeB ((freshV S).setIno 2 rootI).map (firstB ((freshV S).setIno 2 rootI).map) = _
    rw [hf]
    rfl
  · simp [Vol.setIno, Vol.setBlk]
theorem lv2_of {M N : Vol} (h : Lv1 M) (hN : N = (((M.setIno 3 (newF.setO 0 1)).take.setBlk 2 (blkT lvT 3)).setIno 2 ⟨2, 1, 1, [0, 0, 0, 2], z8⟩)) : Lv2 N := by
  have hf : firstB M.map = 2 := by rw [h.map]; exact first1.1
  subst hN
  refine ⟨h.i1, rfl, rfl, fun i hi => ?_, ?_, ?_, ?_⟩
  · show (if i = 2 then _ else if i = 3 then _ else M.ino i) = noIno
    rw [if_neg (by omega), if_neg (by omega)]
    exact h.rest i (by omega)
  · show takeB M.map (firstB M.map) = _
    rw [hf, h.map]
    rfl
  · have hb := h.b1
    simp [Vol.setIno, Vol.setBlk, Vol.take, Vol.setMap, hf, hb]
  · simp [Vol.setIno, Vol.setBlk]
theorem walk_d0 (S : List UInt8) : walkT (freshV S) (fun _ => noTab) [[100]] 1 = (0, 10) := by
  unfold walkT
  rw [if_pos (show ((freshV S).ino 1).k = 2 from rfl), hash4.2.2.2, findD.1]
theorem place_d0 (S : List UInt8) : placeP (freshV S) (fun _ => noTab) [] [100] = (1, [100], 0) := by
  unfold placeP walkT
  rfl
theorem Lv1.walk_a {M : Vol} (h : Lv1 M) : walkT M tre1 [[100], [97]] 1 = (0, 10) := by
  have e2 : (entAt (tre1 1) 14).i = 2 := findD.2.2
  unfold walkT
  rw [if_pos (by rw [h.i1]), hash4.2.2.2, show findT (tre1 1) [100] 14 = some 14 from findD.2.1]
  show walkT M tre1 [[97]] (entAt (tre1 1) 14).i = _
  rw [e2]
  unfold walkT
  rw [if_pos (by rw [h.i2]; rfl), hash4.1, show findT (tre1 2) [97] 14 = none from findA.1]
theorem Lv1.walk_d {M : Vol} (h : Lv1 M) : walkT M tre1 [[100]] 1 = (2, 0) := by
  have e2 : (entAt (tre1 1) 14).i = 2 := findD.2.2
  unfold walkT
  rw [if_pos (by rw [h.i1]), hash4.2.2.2, show findT (tre1 1) [100] 14 = some 14 from findD.2.1]
  show walkT M tre1 [] (entAt (tre1 1) 14).i = _
  rw [e2]
  rfl
theorem Lv1.place_a {M : Vol} (h : Lv1 M) : placeP M tre1 [[100]] [97] = (2, [97], 0) := by
  unfold placeP
  rw [h.walk_d]
  show (if (0 : Nat) ≠ 0 then _ else if (M.ino 2).k = 2 then _ else _) = _
  rw [if_neg (by omega), if_pos (by rw [h.i2]; rfl)]
theorem Lv2.walk_d {M : Vol} (h : Lv2 M) : walkT M tre2 [[100]] 1 = (2, 0) := by
  have e2 : (entAt (tre2 1) 14).i = 2 := findD.2.2
  unfold walkT
  rw [if_pos (by rw [h.i1]), hash4.2.2.2, show findT (tre2 1) [100] 14 = some 14 from findD.2.1]
  show walkT M tre2 [] (entAt (tre2 1) 14).i = _
  rw [e2]
  rfl
theorem Lv2.walk_a {M : Vol} (h : Lv2 M) : walkT M tre2 [[100], [97]] 1 = (3, 0) := by
  have e2 : (entAt (tre2 1) 14).i = 2 := findD.2.2
  have e3 : (entAt (tre2 2) 14).i = 3 := findA.2.2
  unfold walkT
  rw [if_pos (by rw [h.i1]), hash4.2.2.2, show findT (tre2 1) [100] 14 = some 14 from findD.2.1]
  show walkT M tre2 [[97]] (entAt (tre2 1) 14).i = _
  rw [e2]
  unfold walkT
  rw [if_pos (by rw [h.i2]), hash4.1, show findT (tre2 2) [97] 14 = some 14 from findA.2.1]
  show walkT M tre2 [] (entAt (tre2 2) 14).i = _
  rw [e3]
  rfl
theorem Lv2.place_a {M : Vol} (h : Lv2 M) : placeP M tre2 [[100]] [97] = (2, [97], 0) := by
  unfold placeP
  rw [h.walk_d]
  show (if (0 : Nat) ≠ 0 then _ else if (M.ino 2).k = 2 then _ else _) = _
  rw [if_neg (by omega), if_pos (by rw [h.i2])]
theorem pathsL : Np.pathL [47, 100] = some [[100]] ∧ Np.pathL [47, 100, 47, 97] = some [[100], [97]] := by decide +kernel
theorem mayL : mayI ⟨2, 1, 1, [0, 0, 0, 1], z8⟩ = true ∧ mayI ⟨2, 1, 1, [0, 0, 0, 2], z8⟩ = true ∧ mayI ⟨2, 1, 0, [0, 0, 0, 0], z8⟩ = true ∧ mayI ((newF.setO 0 1).setL 0) = true := by decide +kernel
end Gd
end Go.Proofs.YthbonbcbbngciaaGreatDoor

/- Walks: the example of chapter 14: Mkdir, Open. -/
namespace Go.Proofs.YthbonbcbbngciaaGreatDoor
open Go.RowKit Go.Shelf

section
variable {x t K : Nat} {S Z : List UInt8} {F : Nat → Prop} {w a : World} {Ls : List (Nat × Obj)}
theorem lv_mkdir [MemNo] (mx : Int) (h : Tl x t S (Gd.freshV Z) 0 K F w a Ls) (hmx : a.cell? ⟨0, 0, none⟩ = some (.int .i64 mx)) (hml : 0 < a.heap.size) :
    Calls Tryz.prog 55 #[.pointer (some ⟨x, 0, none⟩), .string ⟨#[47, 100]⟩, .int .i64 0] a fun e b => e = .returned (.int .i64 0) ∧ ∃ N, Gd.Lv1 N ∧ Tl x t S N 5 K F w b Ls := by
  obtain ⟨F1, h1, h2⟩ := h
  have hT := Gd.fresh_tree Z
  have hD1 := hT.dir 1 (by omega) (by omega) rfl
  have hh : Gd.hN [100] = 14 := Gd.hash4.2.2.2
  have hf1 : Gd.firstB ((Gd.freshV Z).setIno 2 Gd.rootI).map = 1 := Gd.first0.1
  have hc0 : Gd.countB ((Gd.freshV Z).setIno 2 Gd.rootI).map = 0 := Gd.first0.2
  refine (mkdir_ok (x := x) ⟨#[47, 100]⟩ ⟨#[100]⟩ 0 1 2 10 0 a (fun b => Turns x t S ((((Gd.freshV Z).setIno 2 Gd.rootI).take.setBlk 1 (Gd.blkT Gd.lvD 3)).setIno 1 ⟨2, 1, 1, [0, 0, 0, 1], Gd.z8⟩) 5 K F1 a b) (by omega) (fun W hW => ?_) (fun W hW => ?_) (fun W hW => ?_) (fun W hW => ?_)).mono ?_
  · have := mwalk_yes ⟨#[47, 100]⟩ [[100]] mx W (h1.inv.below hW) hT (by decide) ((hW.cell (p := ⟨0, 0, none⟩) hml).trans hmx) Gd.pathsL.1
    rw [Gd.walk_d0] at this
    exact this
  · have := mplace_yes ⟨#[47, 100]⟩ [] [100] mx W (h1.inv.below hW) hT (by decide) ((hW.cell (p := ⟨0, 0, none⟩) hml).trans hmx) Gd.pathsL.1
    rw [Gd.place_d0] at this
    exact this
  · exact find_no [100] W (h1.inv.below hW) hD1 (by decide) (by decide) (by rw [hh]; exact Gd.findD.1)
  · refine (make_ok (M2 := ((((Gd.freshV Z).setIno 2 Gd.rootI).take.setBlk 1 (Gd.blkT Gd.lvD 3)).setIno 1 ⟨2, 1, 1, [0, 0, 0, 1], Gd.z8⟩)) (c2 := 5) ⟨#[100]⟩ 2 Gd.rootI 0 W (h1.inv.below hW) Gd.root_shape Gd.root_may (by omega) (by omega) rfl (fun i i1 i2 => ?_) (by omega) (fun W1 F2 h3 => ?_)).mono ?_
    · obtain rfl : i = 1 := by omega
      show (2 : Int) ≠ 0
      decide
    · refine put_ok [100] 2 0 0 14 W1 (fun w' => Turns x t S ((((Gd.freshV Z).setIno 2 Gd.rootI).take.setBlk 1 (Gd.blkT Gd.lvD 3)).setIno 1 ⟨2, 1, 1, [0, 0, 0, 1], Gd.z8⟩) 5 K F2 W1 w') h3 (hD1.same rfl rfl) (by decide) (by rw [hh]; exact Gd.place0) fun W2 hW2 => ?_
      have := change_new (a := 14) (d := 1) Gd.lvD 1 0 W2 (h3.below hW2) (by omega) (by omega) (by omega) Gd.lvD_ok (Gd.usedT_set rfl (by omega) (ent_not (by omega))) rfl (by rw [hc0]; decide) (by rw [hf1]; exact Gd.mayL.1) (show (0 : Int) ≤ 0 + 1 ∧ (0 : Int) + 1 ≤ 16 by decide) (by omega)
      rw [hf1] at this
      exact this.mono fun e w' ⟨he, ht⟩ => ⟨he, ht.behind hW2⟩
    · rintro e w' ⟨he, ht⟩
      exact ⟨he, ht.behind hW⟩
  · rintro e w' ⟨he, ht⟩
    exact ⟨he, _, Gd.lv1_of Z rfl, Tl.next h1 h2 ht⟩
theorem lv_open [MemNo] {M : Gd.Vol} (mx : Int) (h : Tl x t S M 5 K F w a Ls) (hL : Gd.Lv1 M) (hmx : a.cell? ⟨0, 0, none⟩ = some (.int .i64 mx)) (hml : 0 < a.heap.size) :
    Calls Tryz.prog 56 #[.pointer (some ⟨x, 0, none⟩), .int .i64 1, .string ⟨#[47, 100, 47, 97]⟩, .int .i64 1, .bool false, .int .i64 0] a fun e b => e = .returned (.tuple #[.int .i64 3, .int .i64 0]) ∧ ∃ N, Gd.Lv2 N ∧ Tl x t S N 10 K F w b Ls := by
  obtain ⟨F1, h1, h2⟩ := h
  have hT := hL.tree
  have hD2 : Gd.DirOf M 2 Gd.noTab := hT.dir 2 (by omega) (by omega) (by rw [hL.i2]; rfl)
  have hh : Gd.hN [97] = 14 := Gd.hash4.1
  have hf1 : Gd.firstB (M.setIno 3 (newF.setO 0 1)).map = 2 := by
    show Gd.firstB M.map = 2
    rw [hL.map]
    exact Gd.first1.1
  have hc0 : Gd.countB (M.setIno 3 (newF.setO 0 1)).map = 1 := by
    show Gd.countB M.map = 1
    rw [hL.map]
    exact Gd.first1.2
  have hi2 : (M.setIno 3 (newF.setO 0 1)).ino 2 = Gd.rootI := by
    show (if 2 = 3 then newF.setO 0 1 else M.ino 2) = _
    rw [if_neg (by omega), hL.i2]
  refine (open_new (x := x) 1 ⟨#[47, 100, 47, 97]⟩ ⟨#[97]⟩ 0 2 3 0 a (fun b => Turns x t S (((M.setIno 3 (newF.setO 0 1)).take.setBlk 2 (Gd.blkT Gd.lvT 3)).setIno 2 ⟨2, 1, 1, [0, 0, 0, 2], Gd.z8⟩) 10 K F1 a b) (by omega) (by omega) (fun W hW => ?_) (fun W hW => ?_) (fun W hW => ?_)).mono ?_
  · have := mwalk_yes ⟨#[47, 100, 47, 97]⟩ [[100], [97]] mx W (h1.inv.below hW) hT (by decide) ((hW.cell (p := ⟨0, 0, none⟩) hml).trans hmx) Gd.pathsL.2
    rw [hL.walk_a] at this
    exact this
  · have := mplace_yes ⟨#[47, 100, 47, 97]⟩ [[100]] [97] mx W (h1.inv.below hW) hT (by decide) ((hW.cell (p := ⟨0, 0, none⟩) hml).trans hmx) Gd.pathsL.2
    rw [hL.place_a] at this
    exact this
  · refine (make_ok (M2 := (((M.setIno 3 (newF.setO 0 1)).take.setBlk 2 (Gd.blkT Gd.lvT 3)).setIno 2 ⟨2, 1, 1, [0, 0, 0, 2], Gd.z8⟩)) (c2 := 10) ⟨#[97]⟩ 3 (newF.setO 0 1) 0 W (h1.inv.below hW) (Gd.Ino.setO_shape newF_shape 0 1) (by decide) (by omega) (by omega) (by rw [hL.rest 3 (by omega)]; rfl) (fun i i1 i2 => ?_) (by omega) (fun W1 F2 h3 => ?_)).mono ?_
    · rcases (by omega : i = 1 ∨ i = 2) with rfl | rfl
      · rw [hL.i1]
        show (2 : Int) ≠ 0
        decide
      · rw [hL.i2]
        decide
    · refine put_ok [97] 3 0 0 14 W1 (fun w' => Turns x t S (((M.setIno 3 (newF.setO 0 1)).take.setBlk 2 (Gd.blkT Gd.lvT 3)).setIno 2 ⟨2, 1, 1, [0, 0, 0, 2], Gd.z8⟩) 10 K F2 W1 w') h3 (hD2.same (hi2.trans hL.i2.symm) rfl) (by decide) (by rw [hh]; exact Gd.place0) fun W2 hW2 => ?_
      have := change_new (a := 14) (d := 2) Gd.lvT 1 0 W2 (h3.below hW2) (by omega) (by omega) (by omega) Gd.lvT_ok (Gd.usedT_set rfl (by omega) (ent_not (by omega))) (by rw [hi2]; rfl) (by rw [hc0]; decide) (by rw [hf1, hi2]; exact Gd.mayL.2.1) (by rw [hi2]; decide) (by omega)
      rw [hf1, hi2] at this
      exact this.mono fun e w' ⟨he, ht⟩ => ⟨he, ht.behind hW2⟩
    · rintro e w' ⟨he, ht⟩
      exact ⟨he, ht.behind hW⟩
  · rintro e w' ⟨he, ht⟩
    exact ⟨he, _, Gd.lv2_of hL rfl, Tl.next h1 h2 ht⟩
end

end Go.Proofs.YthbonbcbbngciaaGreatDoor

/- Walks: the example of chapter 14: Stat, Unlink, Close. -/
namespace Go.Proofs.YthbonbcbbngciaaGreatDoor
open Go.RowKit Go.Shelf

theorem setIno_at (M : Gd.Vol) (i : Nat) (y : Gd.Ino) : (M.setIno i y).ino i = y := by simp [Gd.Vol.setIno]
section
variable {x t K : Nat} {S : List UInt8} {F : Nat → Prop} {w a : World} {Ls : List (Nat × Obj)} {M : Gd.Vol}
theorem lv_stat [MemNo] (mx : Int) (h : Tl x t S M 10 K F w a Ls) (hL : Gd.Lv2 M) (hmx : a.cell? ⟨0, 0, none⟩ = some (.int .i64 mx)) (hml : 0 < a.heap.size) :
    Calls Tryz.prog 33 #[.pointer (some ⟨x, 0, none⟩), .string ⟨#[47, 100]⟩] a fun e b => e = .returned (.tuple #[.agg #[.int .i64 2, .int .i64 1, .int .i64 1], .int .i64 0]) ∧ Below a.heap.size a b := by
  obtain ⟨F1, h1, h2⟩ := h
  refine stat_ok (x := x) ⟨#[47, 100]⟩ 2 ⟨2, 1, 1, [0, 0, 0, 2], Gd.z8⟩ ⟨rfl, rfl⟩ a (fun W hW => ?_) (fun W hW => ?_)
  · have := mwalk_yes ⟨#[47, 100]⟩ [[100]] mx W (h1.inv.below hW) hL.tree (by decide) ((hW.cell (p := ⟨0, 0, none⟩) hml).trans hmx) Gd.pathsL.1
    rw [hL.walk_d] at this
    exact this
  · have := inode_ok (2 : Int) W (h1.inv.below hW) (by omega) (by omega)
    rw [show ((2 : Int)).toNat = 2 from rfl, hL.i2] at this
    exact this
theorem lv_unlink [MemNo] (mx : Int) (h : Tl x t S M 10 K F w a Ls) (hL : Gd.Lv2 M) (hmx : a.cell? ⟨0, 0, none⟩ = some (.int .i64 mx)) (hml : 0 < a.heap.size) :
    Calls Tryz.prog 57 #[.pointer (some ⟨x, 0, none⟩), .string ⟨#[47, 100, 47, 97]⟩] a fun e b => e = .returned (.int .i64 0) ∧ ∃ N, N.ino 3 = (newF.setO 0 1).setL 0 ∧ Tl x t S N 13 K F w b Ls := by
  obtain ⟨F1, h1, h2⟩ := h
  have hT := hL.tree
  have hD2 : Gd.DirOf M 2 Gd.lvT := hT.dir 2 (by omega) (by omega) (by rw [hL.i2])
  have hh : Gd.hN [97] = 14 := Gd.hash4.1
  obtain ⟨A, hA⟩ : ∃ A, A = (M.setMap (Gd.giveI M.map 2)).setIno 2 ⟨2, 1, 0, [0, 0, 0, 0], Gd.z8⟩ := ⟨_, rfl⟩
  have hA3 : A.ino 3 = newF.setO 0 1 := by
    rw [hA]
    show (if 3 = 2 then (⟨2, 1, 0, [0, 0, 0, 0], Gd.z8⟩ : Gd.Ino) else M.ino 3) = _
    rw [if_neg (by omega), hL.i3]
  refine (unlink_ok (x := x) ⟨#[47, 100, 47, 97]⟩ 3 (newF.setO 0 1) 0 (Gd.Ino.setO_shape newF_shape 0 1) (by decide) a (fun b => Turns x t S (A.setIno 3 ((newF.setO 0 1).setL 0)) 13 K F1 a b) (fun W hW => ?_) (fun W hW => ?_) (fun W hW => ?_)).mono ?_
  · have := mwalk_yes ⟨#[47, 100, 47, 97]⟩ [[100], [97]] mx W (h1.inv.below hW) hT (by decide) ((hW.cell (p := ⟨0, 0, none⟩) hml).trans hmx) Gd.pathsL.2
    rw [hL.walk_a] at this
    exact this
  · have := inode_ok (3 : Int) W (h1.inv.below hW) (by omega) (by omega)
    rw [show ((3 : Int)).toNat = 3 from rfl, hL.i3] at this
    exact this
  · refine remove_ok (x := x) ⟨#[47, 100, 47, 97]⟩ ⟨#[97]⟩ 3 2 0 W (fun b => Turns x t S A 12 K F1 a b) _ (fun W2 hW2 => ?_) (fun W2 hW2 => ?_) (fun W2 hQ => ?_)
    · have hb := hW.trans (hW2.mono hW.size)
      have := mplace_yes ⟨#[47, 100, 47, 97]⟩ [[100]] [97] mx W2 (h1.inv.below hb) hT (by decide) ((hb.cell (p := ⟨0, 0, none⟩) hml).trans hmx) Gd.pathsL.2
      rw [hL.place_a] at this
      exact this
    · have hb := hW.trans (hW2.mono hW.size)
      refine take_ok [97] 0 14 W2 (fun b => Turns x t S A 12 K F1 a b) (h1.inv.below hb) hD2 (by decide) (by decide) (by rw [hh]; exact Gd.findA.2.1) fun W3 hW3 => ?_
      have hb3 := hb.trans (hW3.mono hb.size)
      have := change_give (a := 14) (d := 2) 2 Gd.noTab (-1) 0 W3 (h1.inv.below hb3) (by omega) (by omega) (by omega) Gd.noTab_ok Gd.lvT_back.2 (by rw [hL.i2]; rfl) (by rw [hL.i2]; exact Gd.mayL.2.2.1) (by rw [hL.i2]; decide) (by omega)
      rw [hL.i2] at this
      rw [show Gd.setT Gd.lvT (14 : Fin 16).val Gd.noEnt = Gd.noTab from Gd.lvT_back.1]
      refine this.mono ?_
      rintro e w' ⟨he, ht⟩
      rw [hA]
      exact ⟨he, ht.behind hb3⟩
    · obtain ⟨F2, s2⟩ := hQ
      refine less_ok 3 0 W2 _ s2.inv (by omega) (by omega) (by rw [hA3]; decide) fun W3 hW3 => ?_
      rw [hA3]
      have := keep_set 3 ((newF.setO 0 1).setL 0) ⟨rfl, rfl⟩ Gd.mayL.2.2.2 W3 (s2.inv.below hW3) (by omega) (by omega) (by omega) (Or.inr (by decide))
      refine this.mono ?_
      rintro e w' ⟨he, ht⟩
      obtain ⟨F3, s3⟩ := ht.behind hW3
      exact ⟨he, F3, s2.trans s3⟩
  · rintro e w' ⟨he, ht⟩
    exact ⟨he, _, setIno_at _ _ _, Tl.next h1 h2 ht⟩
theorem lv_close [MemNo] (h : Tl x t S M 13 K F w a Ls) (h3 : M.ino 3 = (newF.setO 0 1).setL 0) :
    Calls Tryz.prog 58 #[.pointer (some ⟨x, 0, none⟩), .int .i64 1, .int .i64 3] a fun e b => e = .returned (.int .i64 0) ∧ ∃ N, N.ino 3 = Gd.noIno ∧ Tl x t S N 15 K F w b Ls := by
  obtain ⟨F1, h1, h2⟩ := h
  obtain ⟨A, hA⟩ : ∃ A, A = (M.setMap (([0, 0, 0, 0] : List Int).foldl Gd.giveI M.map)).setIno 3 Gd.noIno := ⟨_, rfl⟩
  refine (close_ok 0 3 1 0 a (fun b => Turns x t S A 15 K F1 a b) h1.inv (by omega) (by omega) (by omega) (by rw [h3]; rfl) (by omega) (by omega) (fun W hW => ?_)).mono ?_
  · rw [h3]
    have := keep_go 3 (((newF.setO 0 1).setL 0).setO 0 (1 - 1)) ⟨rfl, rfl⟩ (by decide) W (h1.inv.below hW) (by omega) (by omega) (by omega) ⟨rfl, by decide⟩
    refine this.mono ?_
    rintro e w' ⟨he, ht⟩
    rw [hA]
    exact ⟨he, ht.behind hW⟩
  · rintro e w' ⟨he, ht⟩
    exact ⟨he, A, by rw [hA]; exact setIno_at _ _ _, Tl.next h1 h2 ht⟩
end

end Go.Proofs.YthbonbcbbngciaaGreatDoor

/- Walks: commonsref06.New; commonslaw14: begin, lives. -/
namespace Go.Proofs.YthbonbcbbngciaaGreatDoor
open Go.RowKit Go.Shelf

attribute [local go_sem] Oper.semAt_some

theorem Tryz.infoN : (Tryz.prog.info? 173).map (fun i => (i.zero, i.size, i.bytes)) = some (some (.agg #[.bool false, .string ByteArray.empty, .int .i64 0]), 3, 32) := by kernel_rfl
theorem cells_new3 (w : World) (x y z : Value) (t : TypeId) : ∀ j u, [x, y, z][j]? = some u → (w.alloc (.cells #[x, y, z] t)).cell? ((⟨w.heap.size, 0, none⟩ : Addr).add j) = some u := by
  intro j u hj
  match j, hj with
  | 0, hj => simp at hj; subst hj; simp [Addr.add]
  | 1, hj => simp at hj; subst hj; simp [Addr.add]
  | 2, hj => simp at hj; subst hj; simp [Addr.add]

set_option maxHeartbeats 4000000 in
set_option maxRecDepth 100000 in
theorem rnew_any6 (w : World) : Calls Tryz.prog 59 #[] w fun e w' => (∃ p, e = .returned (.pointer (some ⟨p, 0, none⟩))) ∧ Below w.heap.size w w' := by
  obtain ⟨i0, hi, hz0, hz1, hz2⟩ := info_parts Tryz.infoN
  go_enter Tryz.func59, Tryz.ntmps59
  go_wp2_with (at_builtin; go_loud (refine wpList_append_own_at _ rfl _ _ 167 rfl 0 173 i0 _ 3 32 Tryz.underlying167 hi hz0 hz1 hz2 rfl (by decide) (.slice none 0 0) 0 [] rfl (World.ownsRow_nil _ _ _ _) ⟨w.heap.size + 1, 0, none⟩ 1 1 [.bool true, .string ByteArray.empty, .int .i64 1] rfl rfl ?_ (by intro u hu; simp at hu; rcases hu with rfl | rfl | rfl <;> rfl) (by unfold maxLen; omega) (by omega) (Nat.zero_le _) ?_))
  · intro j u hu
    have := cells_new3 (w.alloc (.cells #[.slice none 0 0, .slice none 0 0, .slice none 0 0] 171)) (.bool true) (.string ByteArray.empty) (.int .i64 1) 173 j u hu
    rwa [show (w.alloc (.cells #[.slice none 0 0, .slice none 0 0, .slice none 0 0] 171)).heap.size = w.heap.size + 1 by simp] at this
  intro v' w1 hown hgrow _ hat
  have hO := grown_only (F := fun _ => False) hgrow (fun k hk => by cases hk)
  have hr0 : ((w.alloc (.cells #[.slice none 0 0, .slice none 0 0, .slice none 0 0] 171)).alloc (.cells #[.bool true, .string ⟨#[]⟩, .int .i64 1] 173)).heap[w.heap.size]? = some (.cells #[.slice none 0 0, .slice none 0 0, .slice none 0 0] 171 (0, 0)) := by
    rw [((Below.refl _ _).alloc (Nat.le_refl _) _).block w.heap.size (by simp)]
    exact heap_alloc_new _ _
  have hr1 := (hO.block w.heap.size (lt_get hr0) id).trans hr0
  have c0 : w1.cell? ⟨w.heap.size, 0, none⟩ = some (.slice none 0 0) := cell_of_row w1 w.heap.size 0 _ _ _ hr1
  obtain ⟨A', n', c', rfl⟩ : ∃ A' n' c', v' = .slice A' n' c' := by
    rcases hown.2 with ⟨rfl, h0⟩ | ⟨b, cap, cur, rfl, _⟩
    · exact ⟨_, _, _, rfl⟩
    · exact ⟨_, _, _, rfl⟩
  have f0 := frozen_of_row w1 w.heap.size 0 _ _ hr1
  have HB : Hid (Below w.heap.size w w1) := Lib.hid ((((Below.refl w.heap.size w).alloc (Nat.le_refl _) (.cells #[.slice none 0 0, .slice none 0 0, .slice none 0 0] 171)).alloc (by simp) (.cells #[.bool true, .string ⟨#[]⟩, .int .i64 1] 173)).trans (hO.below (by simp; omega) fun _ _ e => e))
  clear hown hgrow hat hO hr0 hr1
  go_wp2
  go_ret
  exact ⟨⟨_, rfl⟩, HB.out.setCell (Nat.le_refl _) _⟩

end Go.Proofs.YthbonbcbbngciaaGreatDoor
