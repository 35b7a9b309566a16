/- Walks: metadata: what changes beside variables of one's own. -/
import Derived.Test.YtccpdkjonepoiaaGreatDoorW14
import Derived.Test.YtccpdkjonepoiaaGreatDoorW12
import Derived.Test.YtccpdkjonepoiaaGreatDoorW11
set_option linter.unusedVariables false
set_option linter.unusedSimpArgs false
set_option linter.unusedSectionVars false
namespace Go.Proofs.YtccpdkjonepoiaaGreatDoor
open Go.RowKit Go.Shelf

attribute [local go_sem] Oper.semAt_some

/-- what turned since w, and variables of one's own -/
def Tl [MemNo] (x t : Nat) (S : List UInt8) (M : Gd.Vol) (c K : Nat) (F : Nat → Prop) (w a : World) (Ls : List (Nat × Obj)) : Prop :=
  ∃ F', Step (MetaV x t S M c K) F w F' a ∧ ∀ p ∈ Ls, w.heap.size ≤ p.1 ∧ ¬ F' p.1 ∧ a.heap[p.1]? = some p.2
section
variable {x t c K : Nat} {S : List UInt8} {M : Gd.Vol} {F : Nat → Prop} {w a b : World} {Ls : List (Nat × Obj)}
theorem Tl.start [MemNo] (h : MetaV x t S M c K w F) : Tl x t S M c K F w w [] := ⟨F, Step.refl h, fun p hp => by simp at hp⟩
theorem Tl.turns [MemNo] (h : Tl x t S M c K F w a Ls) : Turns x t S M c K F w a := by
  obtain ⟨F', h1, _⟩ := h
  exact ⟨F', h1⟩
theorem Tl.size [MemNo] (h : Tl x t S M c K F w a Ls) : w.heap.size ≤ a.heap.size := by
  obtain ⟨F', h1, _⟩ := h
  exact h1.only.size
theorem Tl.get [MemNo] (h : Tl x t S M c K F w a Ls) {k : Nat} {o : Obj} (hk : (k, o) ∈ Ls) : a.heap[k]? = some o := by
  obtain ⟨F', _, h2⟩ := h
  exact (h2 _ hk).2.2
theorem Tl.below [MemNo] (h : Tl x t S M c K F w a Ls) (hb : Below a.heap.size a b) : Tl x t S M c K F w b Ls := by
  obtain ⟨F', h1, h2⟩ := h
  refine ⟨F', ⟨h1.inv.below hb, h1.old, h1.only.trans (below_only hb F') fun j hj e => h1.old j hj e⟩, fun p hp => ?_⟩
  obtain ⟨q1, q2, q3⟩ := h2 p hp
  exact ⟨q1, q2, (hb.block _ (lt_get q3)).trans q3⟩
theorem Tl.new [MemNo] (h : Tl x t S M c K F w a Ls) (hb : Below a.heap.size a b) {k : Nat} {o : Obj} (hk : a.heap.size ≤ k) (ho : b.heap[k]? = some o) : Tl x t S M c K F w b ((k, o) :: Ls) := by
  obtain ⟨F', h1, h2⟩ := h
  refine ⟨F', ⟨h1.inv.below hb, h1.old, h1.only.trans (below_only hb F') fun j hj e => h1.old j hj e⟩, fun p hp => ?_⟩
  rcases List.mem_cons.1 hp with rfl | hp
  · refine ⟨Nat.le_trans h1.only.size hk, fun e => ?_, ho⟩
    have := h1.inv.tight _ e
    dsimp only at this
    omega
  · obtain ⟨q1, q2, q3⟩ := h2 p hp
    exact ⟨q1, q2, (hb.block _ (lt_get q3)).trans q3⟩
theorem Tl.set [MemNo] (h : Tl x t S M c K F w a Ls) {k j : Nat} {C : Array Value} {ty : TypeId} {v : Value} (hk : (k, Obj.cells C ty (0, 0)) ∈ Ls) (Ls' : List (Nat × Obj)) (hL : ∀ p ∈ Ls', p = (k, Obj.cells (C.setIfInBounds j v) ty (0, 0)) ∨ (p ∈ Ls ∧ p.1 ≠ k)) :
    Tl x t S M c K F w (a.setCell ⟨k, j, none⟩ v) Ls' := by
  obtain ⟨F', h1, h2⟩ := h
  obtain ⟨k1, k2, k3⟩ := h2 _ hk
  dsimp only at k1 k2 k3
  have hbl : Below k a (a.setCell ⟨k, j, none⟩ v) := (Below.refl k a).setCell (Nat.le_refl k) v
  have hoth : ∀ i, i ≠ k → (a.setCell ⟨k, j, none⟩ v).heap[i]? = a.heap[i]? := fun i hi => Go.heap_setCell_other a ⟨k, j, none⟩ i v hi
  have hO : Only (fun i => i = k) a (a.setCell ⟨k, j, none⟩ v) := ⟨hbl.os, hbl.tape, hbl.output, by simp, fun i _ hi => hoth i hi⟩
  refine ⟨F', ⟨h1.inv.keep hO.size fun i hi hF => hoth i (fun e => k2 (e ▸ hF)), h1.old, ?_⟩, fun p hp => ?_⟩
  · refine ⟨hO.os.trans h1.only.os, hO.tape.trans h1.only.tape, hO.output.trans h1.only.output, Nat.le_trans h1.only.size hO.size, fun i hi hF => ?_⟩
    exact (hoth i (by omega)).trans (h1.only.block i hi hF)
  · rcases hL p hp with rfl | ⟨hp, hne⟩
    · exact ⟨k1, k2, Go.heap_setCell_same a k j _ _ _ k3⟩
    · obtain ⟨q1, q2, q3⟩ := h2 p hp
      exact ⟨q1, q2, (hoth _ hne).trans q3⟩
end
theorem Tl.next [MemNo] {x t c d K : Nat} {S : List UInt8} {M N : Gd.Vol} {F F1 : Nat → Prop} {w a b : World} {Ls : List (Nat × Obj)} (h1 : Step (MetaV x t S M c K) F w F1 a) (h2 : ∀ p ∈ Ls, w.heap.size ≤ p.1 ∧ ¬ F1 p.1 ∧ a.heap[p.1]? = some p.2) (ht : Turns x t S N d K F1 a b) : Tl x t S N d K F w b Ls := by
  obtain ⟨F2, s⟩ := ht
  refine ⟨F2, h1.trans s, fun p hp => ?_⟩
  obtain ⟨q1, q2, q3⟩ := h2 p hp
  obtain ⟨o1, o2⟩ := s.own (lt_get q3) q2
  exact ⟨q1, o2, o1.trans q3⟩

end Go.Proofs.YtccpdkjonepoiaaGreatDoor

/- Walks: metadata: change (a directory's table is told anew): printed by gen_metm.py. -/
namespace Go.Proofs.YtccpdkjonepoiaaGreatDoor
open Go.RowKit Go.Shelf

attribute [local go_sem] Oper.semAt_some

theorem Step.aheadM [MemNo] {x t c K : Nat} {S : List UInt8} {M : Gd.Vol} {F G : Nat → Prop} {a b d : World} (h : Step (MetaV x t S M c K) F a G b) (hb : Below b.heap.size b d) : Step (MetaV x t S M c K) F a G d :=
  ⟨h.inv.below hb, h.old, h.only.trans (below_only hb G) fun j hj e => h.old j hj e⟩
theorem quo4 (a : Nat) : (a : Int) / 4 = ((a / 4 : Nat) : Int) := by omega

set_option maxHeartbeats 8000000 in
set_option maxRecDepth 100000 in
theorem change_new [MemNo] {x t c K d a : Nat} {S : List UInt8} {M : Gd.Vol} {F : Nat → Prop} (T : Gd.Tab) (more spare : Int) (w : World) (h : MetaV x t S M c K w F) (h1 : 1 ≤ d) (h2 : d ≤ 32) (ha : a < 16) (hT : Gd.TabOk T) (hu : Gd.usedT T (a / 4) = true) (hB : (M.ino d).B[a / 4]? = some 0) (hsp : max 0 spare < 128 - (Gd.countB M.map : Int)) (hmay : Gd.mayI (((M.ino d).setB (a / 4) (Gd.firstB M.map)).setS ((M.ino d).s + more)) = true) (hsz : 0 ≤ (M.ino d).s + more ∧ (M.ino d).s + more ≤ 16) (hc : c + 10 < 64) :
    Calls Tryz.prog 171 #[.pointer (some ⟨x, 0, none⟩), .int .i64 d, .int .i64 a, tabV T, .int .i64 more, .int .i64 spare] w fun e w' => e = .returned (.int .i64 0) ∧ Turns x t S ((M.take.setBlk (Gd.firstB M.map) (Gd.blkT T (a / 4))).setIno d (((M.ino d).setB (a / 4) (Gd.firstB M.map)).setS ((M.ino d).s + more))) (c + 2 + 2) K F w w' := by
  obtain ⟨k, hk⟩ : ∃ k, k = a / 4 := ⟨_, rfl⟩
  have hq := quo4 a
  rw [← hk] at hq hu hB hmay ⊢
  have hk4 : k < 4 := by omega
  have hsh : (M.ino d).Shape := by
    obtain ⟨P, h3, h4⟩ := h
    exact h4.shape d h1 h2
  have HTs := Lib.hid (tabC_size hT.len)
  obtain ⟨hb0, hr0⟩ := below_new w (tabC T) 194
  obtain ⟨tb, htb⟩ : ∃ tb, tb = w.heap.size := ⟨_, rfl⟩
  obtain ⟨w0, hw0⟩ : ∃ u, u = w.alloc (.cells (tabC T) 194) := ⟨_, rfl⟩
  rw [← hw0, ← htb] at hr0
  rw [← hw0] at hb0
  have HL0 := Lib.hid ((Tl.start h).new hb0 (k := tb) (by omega) hr0)
  have HIn := Lib.hid (inode_ok (d : Int) w0 (h.below hb0) (by omega) (by omega))
  rw [Int.toNat_natCast] at HIn
  have hml : M.map.length = 16 := by
    obtain ⟨P, h3, h4⟩ := h
    exact h4.mapl
  have hfs := Gd.first_some hml (by omega)
  have HBk := Lib.hid fun W F1 (h3 : MetaV x t S M c K W F1) => block_ok spare W h3 hsp (by omega)
  obtain ⟨n, hn⟩ : ∃ n, n = Gd.firstB M.map := ⟨_, rfl⟩
  rw [← hn] at HBk hfs hmay ⊢
  obtain ⟨hn1, hn2, -⟩ := hfs
  obtain ⟨M2, hM2⟩ : ∃ M2, M2 = M.take := ⟨_, rfl⟩
  rw [← hM2] at HBk ⊢
  have HSt := Lib.hid fun W F1 (h3 : MetaV x t S M2 (c + 2) K W F1) v hv hap => store_turns (M' := M2.setBlk n (Gd.blkT T k)) 7 n _ v (Gd.blkT T k) W h3 (Gd.ptAt_block hn1 hn2) hv (by rw [Gd.blkT_len hT hk4]; omega) (by rw [Gd.blkT_len hT hk4]; exact Nat.le_refl _) (by omega) hap fun V hV => hV.setBlk hn1 hn2 (Gd.blkT_len hT hk4)
  have HUs := Lib.hid fun W => tused_any T hT.len k hk4 W
  rw [hu] at HUs
  have HTb := Lib.hid fun W => tblock_any T hT k hk4 W
  obtain ⟨x0, hx0⟩ : ∃ x0, x0 = M.ino d := ⟨_, rfl⟩
  rw [← hx0] at hsh hB hmay hsz HIn ⊢
  obtain ⟨y, hy⟩ : ∃ y, y = ((x0.setB k n).setS (x0.s + more)) := ⟨_, rfl⟩
  rw [← hy] at hmay ⊢
  obtain ⟨x1, hx1⟩ : ∃ x1, x1 = x0.setB k n := ⟨_, rfl⟩
  have hsh1 : x1.Shape := by rw [hx1]; exact Gd.Ino.setB_shape hsh k n
  have hB1 : x1.B[k]? = some (n : Int) := by rw [hx1]; show (x0.B.set k (n : Int))[k]? = _; rw [List.getElem?_set_self (by rw [hsh.1]; exact hk4)]
  have hC1 : (inoC x0).setIfInBounds (3 + k) (.int .i64 n) = inoC x1 := by rw [hx1]; exact inoC_set (inoL_setB hsh hk4 n)
  have hs1 : x1.s = x0.s := by rw [hx1]; rfl
  have hC2 : (inoC x1).setIfInBounds 2 (.int .i64 (x0.s + more)) = inoC y := by rw [hy, ← hx1]; exact inoC_set (inoL_setS x1 _)
  have hyS : y.Shape := by rw [hy, ← hx1]; exact Gd.Ino.setS_shape hsh1 _
  have HC1 := Lib.hid hC1
  have HSi := Lib.hid fun W F1 (h3 : MetaV x t S (M2.setBlk n (Gd.blkT T k)) (c + 2 + 1) K W F1) => setino_ok (d : Int) y hyS hmay W h3 (by omega) (by omega) (by omega)
  rw [Int.toNat_natCast] at HSi
  have HS := Lib.hid (inoC_size hsh)
  have HSy := Lib.hid (inoC_size hyS)
  have HX := Lib.hid (And.intro hsh hsh1)
  have HB0 := Lib.hid hB
  have HB1 := Lib.hid hB1
  have HC2 := Lib.hid hC2
  have Htb := Lib.hid htb.symm
  have HW0 := Lib.hid hw0.symm
  obtain ⟨sm, hsm⟩ : ∃ sm, sm = x0.s + more := ⟨_, rfl⟩
  have hwr : IntKind.i64.wrap (x0.s + more) = sm := by rw [hsm, IntKind.wrap_i64]; omega
  obtain ⟨xs, hxs⟩ : ∃ xs, xs = x0.s := ⟨_, rfl⟩
  rw [← hxs] at hwr hs1
  rw [← hsm] at HC2
  have Hs1 := Lib.hid hs1
  have g4 : (k : Int) < 4 := by omega
  have g0 : (0 : Int) ≤ k := by omega
  have ga : (0 : Int) ≤ a := by omega
  have gn : ¬ (n : Int) = 0 := by omega
  have Hq := Lib.hid hq
  clear hk hq hB hmay hsz hsh hsh1 hB1 hC2 hyS htb hw0 hr0 hb0 h h1 h2 hT hu hsm hxs hs1 hx0 hy hx1 hml hn hM2 hC1 hsp
  unfold inoV tabV at *
  go_enter Tryz.func171, Tryz.ntmps171
  go_upto_region 1 with fail
  rw [HW0.out, Htb.out]
  go_upto_region 2 with (first | (go_at_call 16; refine HIn.out.mono ?_; rintro e w2 ⟨rfl, hb2⟩; have HL2 := Lib.hid (HL0.out.below hb2); clear hb2) | (rw [← zIno_lit]; refine wpList_store_mid rfl 40 _ _ rfl w2.heap.size 0 (inoC x0) rfl rfl (there_at (heap_alloc_new _ _) (by rw [zIno_size, HS.out])) (by rw [HS.out]; exact Tryz.sizeIno) (inoC_one _) ?_; obtain ⟨hbw, hbg⟩ := new_whole2 w2 zIno 40 (inoC x0).toList (by rw [zIno_size, Array.length_toList, HS.out]); generalize (World.setCells _ _ _ _) = w3 at hbw hbg ⊢; have HL3 := Lib.hid (HL2.out.new hbw (Nat.le_refl _) (o := .cells (inoC x0) 40 (0, 0)) hbg); clear hbw hbg))
  obtain ⟨ib, hib⟩ : ∃ ib, ib = w2.heap.size := ⟨_, rfl⟩
  rw [← hib] at HL3 ⊢
  have htib : Hid (ib ≠ tb) := Lib.hid (by
    have := lt_get (HL2.out.get (k := tb) (o := .cells (tabC T) 194 (0, 0)) (by simp))
    omega)
  clear hib
  have HTr3 := Lib.hid (HL3.out.get (k := tb) (o := .cells (tabC T) 194 (0, 0)) (by simp))
  go_upto_region 5 with fail
  rw [Hq.out]
  go_upto_region 8 with (first | (refine wpList_load_row rfl 194 _ rfl tb rfl 194 (tabC T) (0, 0) _ HTr3.out Tryz.underlying194 rfl (by rw [HTs.out]; exact Tryz.sizeTab) ?_) | (go_at_call 192; refine (HUs.out w3).mono ?_; rintro e w4 ⟨rfl, hb4⟩; have HL4 := Lib.hid (HL3.out.below hb4); clear hb4))
  have hI4 : InoAt w4 ib x0 := ⟨HL4.out.get (k := ib) (by simp), HX.out.1⟩
  obtain ⟨b0, -⟩ := hI4.cB HB0.out
  clear hI4
  go_upto_region 9 with fail
  obtain ⟨F4, h4s, h4l⟩ := HL4.out
  have HBc := Lib.hid (HBk.out w4 F4 h4s.inv)
  have HNx := Lib.hid fun b N d (h : Turns x t S N d K F4 w4 b) => Tl.next h4s h4l h
  clear h4s h4l b0
  go_wp2_with fail
  refine HBc.out.mono ?_
  rintro e w5 ⟨rfl, ht5⟩
  have HL5 := Lib.hid (HNx.out _ _ _ ht5)
  clear ht5 HNx HBc
  have hI5 : InoAt w5 ib x0 := ⟨HL5.out.get (k := ib) (by simp), HX.out.1⟩
  obtain ⟨b0, b1⟩ := hI5.cB HB0.out
  clear hI5
  have hl6 : Tl x t S M2 (c + 2) K F w (w5.setCell ⟨ib, 3 + k, none⟩ (.int .i64 n)) [(ib, .cells (inoC x1) 40 (0, 0)), (tb, .cells (tabC T) 194 (0, 0))] := by
    refine HL5.out.set (k := ib) (C := inoC x0) (ty := 40) (by simp) _ fun p hp => ?_
    rw [HC1.out]
    simp only [List.mem_cons, List.mem_nil_iff, or_false] at hp
    rcases hp with rfl | rfl
    · exact Or.inl rfl
    · exact Or.inr ⟨by simp, fun e => htib.out e.symm⟩
  obtain ⟨w6, hw6⟩ : ∃ u, u = w5.setCell ⟨ib, 3 + k, none⟩ (.int .i64 n) := ⟨_, rfl⟩
  rw [← hw6] at hl6
  have HL6 := Lib.hid hl6
  have HW6 := Lib.hid hw6.symm
  clear hl6 hw6
  go_upto_region 12 with fail
  rw [HW6.out]
  have hI6 : InoAt w6 ib x1 := ⟨HL6.out.get (k := ib) (by simp), HX.out.2⟩
  obtain ⟨b0, -⟩ := hI6.cB HB1.out
  clear hI6
  have HTr6 := Lib.hid (HL6.out.get (k := tb) (o := .cells (tabC T) 194 (0, 0)) (by simp))
  obtain ⟨F6, h6s, h6l⟩ := HL6.out
  have HT6 := Lib.hid h6s.inv.tight
  have HSt6 : Hid (∀ b v, Below w6.heap.size w6 b → OwnB b w6.heap.size v (Gd.blkT T k) → Calls Tryz.prog 91 #[.pointer (some ⟨x, 0, none⟩), .int .i64 7, .int .i64 n, v] b fun e w' => e = .returned (.int .i64 0) ∧ Tl x t S (M2.setBlk n (Gd.blkT T k)) (c + 2 + 1) K F w w' [(ib, .cells (inoC x1) 40 (0, 0)), (tb, .cells (tabC T) 194 (0, 0))]) := Lib.hid fun b v hb hv => by
    have h7 := Step.aheadM h6s hb
    refine (HSt.out b F6 h7.inv v hv.at_ fun q hq e => ?_).mono ?_
    · have h3 := (own_block hv q hq).1
      have h4 := HT6.out q e
      omega
    · rintro e w' ⟨he, ht⟩
      refine ⟨he, Tl.next h7 (fun p hp => ?_) ht⟩
      obtain ⟨q1, q2, q3⟩ := h6l p hp
      exact ⟨q1, q2, (hb.block _ (lt_get q3)).trans q3⟩
  clear h6s h6l HT6
  go_upto_region 14 with (first | (refine wpList_load_row rfl 194 _ rfl tb rfl 194 (tabC T) (0, 0) _ HTr6.out Tryz.underlying194 rfl (by rw [HTs.out]; exact Tryz.sizeTab) ?_) | (go_at_call 194; refine (HTb.out w6).mono ?_; rintro e w7 ⟨v7, rfl, ho7, hb7⟩))
  have HL7 := Lib.hid (HL6.out.below hb7)
  have HSc := Lib.hid (HSt6.out w7 v7 hb7 ho7)
  clear ho7 hb7 b0 HSt6
  have hI7 : InoAt w7 ib x1 := ⟨HL7.out.get (k := ib) (by simp), HX.out.2⟩
  obtain ⟨b0, -⟩ := hI7.cB HB1.out
  clear hI7
  go_upto_region 17 with (go_at_call 91; refine HSc.out.mono ?_; rintro e w8 ⟨rfl, hl8⟩; have HL8 := Lib.hid hl8; clear hl8)
  clear b0
  have hI8 : InoAt w8 ib x1 := ⟨HL8.out.get (k := ib) (by simp), HX.out.2⟩
  have b2 := hI8.c2
  rw [Hs1.out] at b2
  have f2 := hI8.f 2
  clear hI8
  have hl9 : Tl x t S (M2.setBlk n (Gd.blkT T k)) (c + 2 + 1) K F w (w8.setCell ⟨ib, 2, none⟩ (.int .i64 sm)) [(ib, .cells (inoC y) 40 (0, 0)), (tb, .cells (tabC T) 194 (0, 0))] := by
    refine HL8.out.set (k := ib) (C := inoC x1) (ty := 40) (by simp) _ fun p hp => ?_
    rw [HC2.out]
    simp only [List.mem_cons, List.mem_nil_iff, or_false] at hp
    rcases hp with rfl | rfl
    · exact Or.inl rfl
    · exact Or.inr ⟨by simp, fun e => htib.out e.symm⟩
  obtain ⟨w9, hw9⟩ : ∃ u, u = w8.setCell ⟨ib, 2, none⟩ (.int .i64 sm) := ⟨_, rfl⟩
  rw [← hw9] at hl9
  have HL9 := Lib.hid hl9
  have HW9 := Lib.hid hw9.symm
  clear hl9 hw9
  go_upto_region 20 with fail
  rw [HW9.out]
  have HIr := Lib.hid (HL9.out.get (k := ib) (o := .cells (inoC y) 40 (0, 0)) (by simp))
  obtain ⟨F9, h9s, h9l⟩ := HL9.out
  have HSc9 := Lib.hid (HSi.out w9 F9 h9s.inv)
  have HNx := Lib.hid fun b N d (h : Turns x t S N d K F9 w9 b) => Tl.next h9s h9l h
  clear h9s h9l b2 f2
  go_wp2_with (first | (refine wpList_load_row rfl 40 _ rfl ib rfl 40 (inoC y) (0, 0) _ HIr.out Tryz.underlying40 rfl (by rw [HSy.out]; exact Tryz.sizeIno) ?_) | (go_at_call 94; refine HSc9.out.mono ?_; rintro e w10 ⟨rfl, ht10⟩; have HL10 := Lib.hid (HNx.out _ _ _ ht10); clear ht10))
  go_ret
  exact ⟨rfl, HL10.out.turns⟩

set_option maxHeartbeats 8000000 in
set_option maxRecDepth 100000 in
theorem change_over [MemNo] {x t c K d a : Nat} {S : List UInt8} {M : Gd.Vol} {F : Nat → Prop} (n : Nat) (T : Gd.Tab) (more spare : Int) (w : World) (h : MetaV x t S M c K w F) (h1 : 1 ≤ d) (h2 : d ≤ 32) (ha : a < 16) (hT : Gd.TabOk T) (hu : Gd.usedT T (a / 4) = true) (hB : (M.ino d).B[a / 4]? = some (n : Int)) (hn1 : 1 ≤ n) (hn2 : n ≤ 128) (hmay : Gd.mayI ((M.ino d).setS ((M.ino d).s + more)) = true) (hsz : 0 ≤ (M.ino d).s + more ∧ (M.ino d).s + more ≤ 16) (hc : c + 10 < 64) :
    Calls Tryz.prog 171 #[.pointer (some ⟨x, 0, none⟩), .int .i64 d, .int .i64 a, tabV T, .int .i64 more, .int .i64 spare] w fun e w' => e = .returned (.int .i64 0) ∧ Turns x t S ((M.setBlk n (Gd.blkT T (a / 4))).setIno d ((M.ino d).setS ((M.ino d).s + more))) (c + 2) K F w w' := by
  obtain ⟨k, hk⟩ : ∃ k, k = a / 4 := ⟨_, rfl⟩
  have hq := quo4 a
  rw [← hk] at hq hu hB  ⊢
  have hk4 : k < 4 := by omega
  have hsh : (M.ino d).Shape := by
    obtain ⟨P, h3, h4⟩ := h
    exact h4.shape d h1 h2
  have HTs := Lib.hid (tabC_size hT.len)
  obtain ⟨hb0, hr0⟩ := below_new w (tabC T) 194
  obtain ⟨tb, htb⟩ : ∃ tb, tb = w.heap.size := ⟨_, rfl⟩
  obtain ⟨w0, hw0⟩ : ∃ u, u = w.alloc (.cells (tabC T) 194) := ⟨_, rfl⟩
  rw [← hw0, ← htb] at hr0
  rw [← hw0] at hb0
  have HL0 := Lib.hid ((Tl.start h).new hb0 (k := tb) (by omega) hr0)
  have HIn := Lib.hid (inode_ok (d : Int) w0 (h.below hb0) (by omega) (by omega))
  rw [Int.toNat_natCast] at HIn
  have HSt := Lib.hid fun W F1 (h3 : MetaV x t S M c K W F1) v hv hap => store_turns (M' := M.setBlk n (Gd.blkT T k)) 7 n _ v (Gd.blkT T k) W h3 (Gd.ptAt_block hn1 hn2) hv (by rw [Gd.blkT_len hT hk4]; omega) (by rw [Gd.blkT_len hT hk4]; exact Nat.le_refl _) (by omega) hap fun V hV => hV.setBlk hn1 hn2 (Gd.blkT_len hT hk4)
  have HUs := Lib.hid fun W => tused_any T hT.len k hk4 W
  rw [hu] at HUs
  have HTb := Lib.hid fun W => tblock_any T hT k hk4 W
  obtain ⟨x0, hx0⟩ : ∃ x0, x0 = M.ino d := ⟨_, rfl⟩
  rw [← hx0] at hsh hB hmay hsz HIn ⊢
  obtain ⟨y, hy⟩ : ∃ y, y = (x0.setS (x0.s + more)) := ⟨_, rfl⟩
  rw [← hy] at hmay ⊢
  obtain ⟨x1, hx1⟩ : ∃ x1, x1 = x0 := ⟨_, rfl⟩
  have HX1 := Lib.hid hx1
  have hsh1 : x1.Shape := by rw [hx1]; exact hsh
  have hB1 : x1.B[k]? = some (n : Int) := by rw [hx1]; exact hB
  have hs1 : x1.s = x0.s := by rw [hx1]
  have hC2 : (inoC x1).setIfInBounds 2 (.int .i64 (x0.s + more)) = inoC y := by rw [hx1, hy]; exact inoC_set (inoL_setS x0 _)
  have hyS : y.Shape := by rw [hy]; exact Gd.Ino.setS_shape hsh _
  have HSi := Lib.hid fun W F1 (h3 : MetaV x t S (M.setBlk n (Gd.blkT T k)) (c + 1) K W F1) => setino_ok (d : Int) y hyS hmay W h3 (by omega) (by omega) (by omega)
  rw [Int.toNat_natCast] at HSi
  have HS := Lib.hid (inoC_size hsh)
  have HSy := Lib.hid (inoC_size hyS)
  have HX := Lib.hid (And.intro hsh hsh1)
  have HB0 := Lib.hid hB
  have HB1 := Lib.hid hB1
  have HC2 := Lib.hid hC2
  have Htb := Lib.hid htb.symm
  have HW0 := Lib.hid hw0.symm
  obtain ⟨sm, hsm⟩ : ∃ sm, sm = x0.s + more := ⟨_, rfl⟩
  have hwr : IntKind.i64.wrap (x0.s + more) = sm := by rw [hsm, IntKind.wrap_i64]; omega
  obtain ⟨xs, hxs⟩ : ∃ xs, xs = x0.s := ⟨_, rfl⟩
  rw [← hxs] at hwr hs1
  rw [← hsm] at HC2
  have Hs1 := Lib.hid hs1
  have g4 : (k : Int) < 4 := by omega
  have g0 : (0 : Int) ≤ k := by omega
  have ga : (0 : Int) ≤ a := by omega
  have gn : ¬ (n : Int) = 0 := by omega
  have Hq := Lib.hid hq
  clear hk hq hB hmay hsz hsh hsh1 hB1 hC2 hyS htb hw0 hr0 hb0 h h1 h2 hT hu hsm hxs hs1 hx0 hy hx1 
  unfold inoV tabV at *
  go_enter Tryz.func171, Tryz.ntmps171
  go_upto_region 1 with fail
  rw [HW0.out, Htb.out]
  go_upto_region 2 with (first | (go_at_call 16; refine HIn.out.mono ?_; rintro e w2 ⟨rfl, hb2⟩; have HL2 := Lib.hid (HL0.out.below hb2); clear hb2) | (rw [← zIno_lit]; refine wpList_store_mid rfl 40 _ _ rfl w2.heap.size 0 (inoC x0) rfl rfl (there_at (heap_alloc_new _ _) (by rw [zIno_size, HS.out])) (by rw [HS.out]; exact Tryz.sizeIno) (inoC_one _) ?_; obtain ⟨hbw, hbg⟩ := new_whole2 w2 zIno 40 (inoC x0).toList (by rw [zIno_size, Array.length_toList, HS.out]); generalize (World.setCells _ _ _ _) = w3 at hbw hbg ⊢; have HL3 := Lib.hid (HL2.out.new hbw (Nat.le_refl _) (o := .cells (inoC x0) 40 (0, 0)) hbg); clear hbw hbg))
  obtain ⟨ib, hib⟩ : ∃ ib, ib = w2.heap.size := ⟨_, rfl⟩
  rw [← hib] at HL3 ⊢
  have htib : Hid (ib ≠ tb) := Lib.hid (by
    have := lt_get (HL2.out.get (k := tb) (o := .cells (tabC T) 194 (0, 0)) (by simp))
    omega)
  clear hib
  have HTr3 := Lib.hid (HL3.out.get (k := tb) (o := .cells (tabC T) 194 (0, 0)) (by simp))
  go_upto_region 5 with fail
  rw [Hq.out]
  go_upto_region 8 with (first | (refine wpList_load_row rfl 194 _ rfl tb rfl 194 (tabC T) (0, 0) _ HTr3.out Tryz.underlying194 rfl (by rw [HTs.out]; exact Tryz.sizeTab) ?_) | (go_at_call 192; refine (HUs.out w3).mono ?_; rintro e w4 ⟨rfl, hb4⟩; have HL4 := Lib.hid (HL3.out.below hb4); clear hb4))
  have hI4 : InoAt w4 ib x1 := ⟨by rw [HX1.out]; exact HL4.out.get (k := ib) (by simp), HX.out.2⟩
  obtain ⟨b0, -⟩ := hI4.cB HB1.out
  clear hI4
  go_upto_region 12 with fail
  obtain ⟨w6, hw6⟩ : ∃ u, u = w4 := ⟨_, rfl⟩
  have HL6 : Hid (Tl x t S M c K F w w6 [(ib, .cells (inoC x1) 40 (0, 0)), (tb, .cells (tabC T) 194 (0, 0))]) := Lib.hid (by rw [hw6, HX1.out]; exact HL4.out)
  rw [← hw6]
  clear hw6 b0
  have hI6 : InoAt w6 ib x1 := ⟨HL6.out.get (k := ib) (by simp), HX.out.2⟩
  obtain ⟨b0, -⟩ := hI6.cB HB1.out
  clear hI6
  have HTr6 := Lib.hid (HL6.out.get (k := tb) (o := .cells (tabC T) 194 (0, 0)) (by simp))
  obtain ⟨F6, h6s, h6l⟩ := HL6.out
  have HT6 := Lib.hid h6s.inv.tight
  have HSt6 : Hid (∀ b v, Below w6.heap.size w6 b → OwnB b w6.heap.size v (Gd.blkT T k) → Calls Tryz.prog 91 #[.pointer (some ⟨x, 0, none⟩), .int .i64 7, .int .i64 n, v] b fun e w' => e = .returned (.int .i64 0) ∧ Tl x t S (M.setBlk n (Gd.blkT T k)) (c + 1) K F w w' [(ib, .cells (inoC x1) 40 (0, 0)), (tb, .cells (tabC T) 194 (0, 0))]) := Lib.hid fun b v hb hv => by
    have h7 := Step.aheadM h6s hb
    refine (HSt.out b F6 h7.inv v hv.at_ fun q hq e => ?_).mono ?_
    · have h3 := (own_block hv q hq).1
      have h4 := HT6.out q e
      omega
    · rintro e w' ⟨he, ht⟩
      refine ⟨he, Tl.next h7 (fun p hp => ?_) ht⟩
      obtain ⟨q1, q2, q3⟩ := h6l p hp
      exact ⟨q1, q2, (hb.block _ (lt_get q3)).trans q3⟩
  clear h6s h6l HT6
  go_upto_region 14 with (first | (refine wpList_load_row rfl 194 _ rfl tb rfl 194 (tabC T) (0, 0) _ HTr6.out Tryz.underlying194 rfl (by rw [HTs.out]; exact Tryz.sizeTab) ?_) | (go_at_call 194; refine (HTb.out w6).mono ?_; rintro e w7 ⟨v7, rfl, ho7, hb7⟩))
  have HL7 := Lib.hid (HL6.out.below hb7)
  have HSc := Lib.hid (HSt6.out w7 v7 hb7 ho7)
  clear ho7 hb7 b0 HSt6
  have hI7 : InoAt w7 ib x1 := ⟨HL7.out.get (k := ib) (by simp), HX.out.2⟩
  obtain ⟨b0, -⟩ := hI7.cB HB1.out
  clear hI7
  go_upto_region 17 with (go_at_call 91; refine HSc.out.mono ?_; rintro e w8 ⟨rfl, hl8⟩; have HL8 := Lib.hid hl8; clear hl8)
  clear b0
  have hI8 : InoAt w8 ib x1 := ⟨HL8.out.get (k := ib) (by simp), HX.out.2⟩
  have b2 := hI8.c2
  rw [Hs1.out] at b2
  have f2 := hI8.f 2
  clear hI8
  have hl9 : Tl x t S (M.setBlk n (Gd.blkT T k)) (c + 1) K F w (w8.setCell ⟨ib, 2, none⟩ (.int .i64 sm)) [(ib, .cells (inoC y) 40 (0, 0)), (tb, .cells (tabC T) 194 (0, 0))] := by
    refine HL8.out.set (k := ib) (C := inoC x1) (ty := 40) (by simp) _ fun p hp => ?_
    rw [HC2.out]
    simp only [List.mem_cons, List.mem_nil_iff, or_false] at hp
    rcases hp with rfl | rfl
    · exact Or.inl rfl
    · exact Or.inr ⟨by simp, fun e => htib.out e.symm⟩
  obtain ⟨w9, hw9⟩ : ∃ u, u = w8.setCell ⟨ib, 2, none⟩ (.int .i64 sm) := ⟨_, rfl⟩
  rw [← hw9] at hl9
  have HL9 := Lib.hid hl9
  have HW9 := Lib.hid hw9.symm
  clear hl9 hw9
  go_upto_region 20 with fail
  rw [HW9.out]
  have HIr := Lib.hid (HL9.out.get (k := ib) (o := .cells (inoC y) 40 (0, 0)) (by simp))
  obtain ⟨F9, h9s, h9l⟩ := HL9.out
  have HSc9 := Lib.hid (HSi.out w9 F9 h9s.inv)
  have HNx := Lib.hid fun b N d (h : Turns x t S N d K F9 w9 b) => Tl.next h9s h9l h
  clear h9s h9l b2 f2
  go_wp2_with (first | (refine wpList_load_row rfl 40 _ rfl ib rfl 40 (inoC y) (0, 0) _ HIr.out Tryz.underlying40 rfl (by rw [HSy.out]; exact Tryz.sizeIno) ?_) | (go_at_call 94; refine HSc9.out.mono ?_; rintro e w10 ⟨rfl, ht10⟩; have HL10 := Lib.hid (HNx.out _ _ _ ht10); clear ht10))
  go_ret
  exact ⟨rfl, HL10.out.turns⟩

end Go.Proofs.YtccpdkjonepoiaaGreatDoor

/- Walks: metadata: put, make. -/
namespace Go.Proofs.YtccpdkjonepoiaaGreatDoor
open Go.RowKit Go.Shelf

attribute [local go_sem] Oper.semAt_some

set_option maxHeartbeats 8000000 in
set_option maxRecDepth 100000 in
/-- a name is put, where there is a place: what change does, at the table with it -/
theorem put_ok [MemNo] {x t c K d : Nat} {S : List UInt8} {M : Gd.Vol} {T : Gd.Tab} {F : Nat → Prop} (s : List UInt8) (i : Nat) (spare r : Int) (j : Fin 16) (w : World) (R : World → Prop) (h : MetaV x t S M c K w F) (hD : Gd.DirOf M d T) (hs : s.length ≤ 1000) (hj : Gd.placeT T (Gd.hN s) = some j)
    (hC : ∀ W, Below w.heap.size w W → Calls Tryz.prog 171 #[.pointer (some ⟨x, 0, none⟩), .int .i64 d, .int .i64 (j.val : Nat), tabV (Gd.setT T j.val ⟨s, i⟩), .int .i64 1, .int .i64 spare] W fun e w' => e = .returned (.int .i64 r) ∧ R w') :
    Calls Tryz.prog 136 #[.pointer (some ⟨x, 0, none⟩), .int .i64 d, .string ⟨s.toArray⟩, .int .i64 i, .int .i64 spare] w fun e w' => e = .returned (.int .i64 r) ∧ R w' := by
  have HTb := Lib.hid (tableI_dir w h hD)
  have HTs := Lib.hid (tabC_size hD.ok.len)
  have HPl := Lib.hid fun W => tplace_any T hD.ok ⟨s.toArray⟩ (by rw [Lib.size_eq]; show s.length ≤ _; omega) (Gd.hN s) rfl W
  rw [hj] at HPl
  have HSt := Lib.hid fun W => tset_any T hD.ok.len j.val j.isLt ⟨s, i⟩ W
  have HC := Lib.hid hC
  obtain ⟨k, hk⟩ : ∃ k, k = j.val := ⟨_, rfl⟩
  have hnk : numO (some j) = (k : Int) := by rw [hk]; rfl
  have hk16 : (k : Int) < 16 := by have := j.isLt; omega
  have hk0 : (0 : Int) ≤ k := by omega
  rw [← hk] at HSt HC
  rw [hnk] at HPl
  obtain ⟨T2, hT2⟩ : ∃ T2, T2 = Gd.setT T k ⟨s, i⟩ := ⟨_, rfl⟩
  rw [← hT2] at HSt HC
  unfold entV at HSt
  dsimp only at HSt
  obtain ⟨sb, hsb⟩ : ∃ sb : ByteArray, sb = ⟨s.toArray⟩ := ⟨_, rfl⟩
  rw [← hsb] at HSt HPl ⊢
  clear h hD hs hj hC hk hnk hT2 hsb
  unfold tabV at *
  go_enter Tryz.func136, Tryz.ntmps136
  go_upto_region 2 with (first | (go_at_call 134; refine HTb.out.mono ?_; rintro e w2 ⟨rfl, hb2⟩; have HB2 := Lib.hid hb2; clear hb2) | (rw [← zTab]; refine wpList_store_mid rfl 194 _ _ rfl w2.heap.size 0 (tabC T) rfl rfl (there_at (heap_alloc_new _ _) (by rw [noTab_size, HTs.out])) (by rw [HTs.out]; exact Tryz.sizeTab) (tabC_one _) ?_; obtain ⟨hbw, hbg⟩ := new_whole2 w2 (tabC Gd.noTab) 194 (tabC T).toList (by rw [noTab_size, Array.length_toList, HTs.out]); generalize (World.setCells _ _ _ _) = w3 at hbw hbg ⊢; have HN3 : Hid (w3.heap[w2.heap.size]? = some (.cells (tabC T) 194 (0, 0))) := Lib.hid hbg; have HB3 := Lib.hid (HB2.out.trans (hbw.mono HB2.out.size)); clear hbw hbg))
  go_upto_region 7 with (first | (refine wpList_load_row rfl 194 _ rfl w2.heap.size rfl 194 (tabC T) (0, 0) _ HN3.out Tryz.underlying194 rfl (by rw [HTs.out]; exact Tryz.sizeTab) ?_) | (go_at_call 170; refine (HPl.out w3).mono ?_; rintro e w4 ⟨rfl, hb4⟩; have HB4 := Lib.hid (HB3.out.trans (hb4.mono HB3.out.size)); have HN4 := Lib.hid ((hb4.block _ (lt_get HN3.out)).trans HN3.out); clear hb4))
  go_wp2_with (first | (refine wpList_load_row rfl 194 _ rfl w2.heap.size rfl 194 (tabC T) (0, 0) _ HN4.out Tryz.underlying194 rfl (by rw [HTs.out]; exact Tryz.sizeTab) ?_) | (go_at_call 172; refine (HSt.out w4).mono ?_; rintro e w5 ⟨rfl, hb5⟩; have HCc := Lib.hid (HC.out w5 (HB4.out.trans (hb5.mono HB4.out.size))); clear hb5) | (go_at_call 171; refine HCc.out.mono ?_; rintro e w6 ⟨rfl, hr6⟩))
  go_ret
  exact ⟨rfl, hr6⟩

set_option maxHeartbeats 8000000 in
set_option maxRecDepth 100000 in
/-- a node is made: the first that is none, and put does well -/
theorem make_ok [MemNo] {x t c c2 K d : Nat} {S : List UInt8} {M M2 : Gd.Vol} {F : Nat → Prop} (s : ByteArray) (f : Nat) (y : Gd.Ino) (spare : Int) (w : World) (h : MetaV x t S M c K w F) (hy : y.Shape) (hm : Gd.mayI y = true) (f1 : 1 ≤ f) (f2 : f ≤ 32) (hk : (M.ino f).k = 0) (hl : ∀ i, 1 ≤ i → i < f → (M.ino i).k ≠ 0) (hc : c < 64)
    (hP : ∀ W F1, MetaV x t S (M.setIno f y) (c + 1) K W F1 → Calls Tryz.prog 136 #[.pointer (some ⟨x, 0, none⟩), .int .i64 d, .string s, .int .i64 f, .int .i64 spare] W fun e w' => e = .returned (.int .i64 0) ∧ Turns x t S M2 c2 K F1 W w') :
    Calls Tryz.prog 99 #[.pointer (some ⟨x, 0, none⟩), .int .i64 d, .string s, inoV y, .int .i64 spare] w fun e w' => e = .returned (.tuple #[.int .i64 f, .int .i64 0]) ∧ Turns x t S M2 c2 K F w w' := by
  obtain ⟨hb0, hr0⟩ := below_new w (inoC y) 40
  obtain ⟨yb, hyb⟩ : ∃ yb, yb = w.heap.size := ⟨_, rfl⟩
  obtain ⟨w0, hw0⟩ : ∃ u, u = w.alloc (.cells (inoC y) 40) := ⟨_, rfl⟩
  rw [← hw0, ← hyb] at hr0
  rw [← hw0] at hb0
  have HL0 := Lib.hid ((Tl.start h).new hb0 (k := yb) (by omega) hr0)
  have HFr := Lib.hid (free_ok f w0 (h.below hb0) f1 f2 hk hl)
  have HSi := Lib.hid fun W F1 (h3 : MetaV x t S M c K W F1) => setino_ok (f : Int) y hy hm W h3 (by omega) (by omega) hc
  rw [Int.toNat_natCast] at HSi
  have HP := Lib.hid hP
  have HS := Lib.hid (inoC_size hy)
  have HTo := Lib.hid fun W => metold_any (f : Int) 0 W
  rw [if_pos rfl] at HTo
  have Hyb := Lib.hid hyb.symm
  have HW0 := Lib.hid hw0.symm
  clear h hy hm f1 f2 hk hl hc hP hb0 hr0 hyb hw0
  unfold inoV at *
  go_enter Tryz.func99, Tryz.ntmps99
  go_upto_region 1 with fail
  rw [HW0.out, Hyb.out]
  go_upto_region 4 with (go_at_call 135; refine HFr.out.mono ?_; rintro e w2 ⟨rfl, hb2⟩; have HL2 := Lib.hid (HL0.out.below hb2); clear hb2)
  have HIr := Lib.hid (HL2.out.get (k := yb) (o := .cells (inoC y) 40 (0, 0)) (by simp))
  obtain ⟨F2, h2s, h2l⟩ := HL2.out
  have HSc := Lib.hid (HSi.out w2 F2 h2s.inv)
  have HNx := Lib.hid fun b N d (h : Turns x t S N d K F2 w2 b) => Tl.next h2s h2l h
  clear h2s h2l
  go_upto_region 7 with (first | (refine wpList_load_row rfl 40 _ rfl yb rfl 40 (inoC y) (0, 0) _ HIr.out Tryz.underlying40 rfl (by rw [HS.out]; exact Tryz.sizeIno) ?_) | (go_at_call 94; refine HSc.out.mono ?_; rintro e w3 ⟨rfl, ht3⟩; have HL3 := Lib.hid (HNx.out _ _ _ ht3); clear ht3))
  obtain ⟨F3, h3s, h3l⟩ := HL3.out
  have HPc := Lib.hid (HP.out w3 F3 h3s.inv)
  have HNx3 := Lib.hid fun b N d (h : Turns x t S N d K F3 w3 b) => Tl.next h3s h3l h
  clear h3s h3l
  go_wp2_with (first | (go_at_call 136; refine HPc.out.mono ?_; rintro e w4 ⟨rfl, ht4⟩; have HL4 := Lib.hid (HNx3.out _ _ _ ht4); clear ht4) | (go_at_call 100; refine (HTo.out w4).mono ?_; rintro e w5 ⟨rfl, rfl⟩))
  go_ret2
  exact ⟨rfl, HL4.out.turns⟩

end Go.Proofs.YtccpdkjonepoiaaGreatDoor

/- Walks: metadata: Open, of what is not there. -/
namespace Go.Proofs.YtccpdkjonepoiaaGreatDoor
open Go.RowKit Go.Shelf

attribute [local go_sem] Oper.semAt_some

theorem mis_any (k : Int) (w : World) : Calls Tryz.prog 96 #[.int .i64 k] w fun e w' => e = .returned (.bool (decide (1 ≤ k) && decide (k ≤ 8))) ∧ w' = w := by
  go_enter Tryz.func96, Tryz.ntmps96
  by_cases h0 : 1 ≤ k
  · by_cases h4 : k ≤ 8
    · go_wp2
      go_ret
      exact ⟨ret_bool (by simp [h0, h4]), rfl⟩
    · go_wp2
      go_ret
      exact ⟨ret_bool (by simp [h0, h4]), rfl⟩
  · go_wp2
    go_ret
    exact ⟨ret_bool (by simp; omega), rfl⟩
/-- a file that one client has open -/
def newF : Gd.Ino := ⟨1, 1, 0, [0, 0, 0, 0], [0, 0, 0, 0, 0, 0, 0, 0]⟩
theorem zeros8 : ∀ k : Fin 8, ([0, 0, 0, 0, 0, 0, 0, 0] : List Int)[k.val]? = some 0 := by decide
theorem newF_shape : newF.Shape := ⟨rfl, rfl⟩

set_option maxHeartbeats 8000000 in
set_option maxRecDepth 100000 in
theorem open_new {x : Nat} (cl : Nat) (s n : ByteArray) (wi d f : Nat) (spare : Int) (w : World) (R : World → Prop) (hc1 : 1 ≤ cl) (hc8 : cl ≤ 8)
    (hW : ∀ W, Below w.heap.size w W → Calls Tryz.prog 97 #[.pointer (some ⟨x, 0, none⟩), .string s] W fun e w' => e = .returned (.tuple #[.int .i64 wi, .int .i64 10]) ∧ Below W.heap.size W w')
    (hP : ∀ W, Below w.heap.size w W → Calls Tryz.prog 98 #[.pointer (some ⟨x, 0, none⟩), .string s] W fun e w' => e = .returned (.tuple #[.int .i64 d, .string n, .int .i64 0]) ∧ Below W.heap.size W w')
    (hM : ∀ W, Below w.heap.size w W → Calls Tryz.prog 99 #[.pointer (some ⟨x, 0, none⟩), .int .i64 d, .string n, inoV (newF.setO (cl - 1) 1), .int .i64 spare] W fun e w' => e = .returned (.tuple #[.int .i64 f, .int .i64 0]) ∧ R w') :
    Calls Tryz.prog 50 #[.pointer (some ⟨x, 0, none⟩), .int .i64 cl, .string s, .int .i64 1, .bool false, .int .i64 spare] w fun e w' => e = .returned (.tuple #[.int .i64 f, .int .i64 0]) ∧ R w' := by
  have HW := Lib.hid hW
  have HP := Lib.hid hP
  have HM := Lib.hid hM
  have HI := Lib.hid fun W => mis_any (cl : Int) W
  rw [show (decide ((1 : Int) ≤ cl) && decide ((cl : Int) ≤ 8)) = true by simp; omega] at HI
  obtain ⟨k, rfl⟩ : ∃ k, cl = k + 1 := ⟨cl - 1, by omega⟩
  rw [Nat.add_sub_cancel] at HM
  rw [show (((k + 1 : Nat) : Int)) = (k : Int) + 1 by omega] at HI ⊢
  have hk8 : (k : Int) < 8 := by omega
  have hk0 : (0 : Int) ≤ k := by omega
  have HK8 : Hid (k < 8) := Lib.hid (by omega)
  have HSn : Hid ((inoC newF).size = 15) := Lib.hid rfl
  have HSo := Lib.hid (inoC_size (Gd.Ino.setO_shape newF_shape k 1))
  have HC : Hid ((inoC newF).setIfInBounds (7 + k) (.int .i64 1) = inoC (newF.setO k 1)) := Lib.hid (inoC_set (inoL_setO newF_shape HK8.out 1))
  have hcl0 : (1 : Int) ≤ (k : Int) + 1 := by omega
  have hcl8 : (k : Int) + 1 ≤ 8 := by omega
  clear hW hP hM hc1 hc8
  unfold inoV at *
  go_enter Tryz.func50, Tryz.ntmps50
  go_upto_region 5 with (go_at_call 96; refine (HI.out _).mono ?_; rintro e wq ⟨rfl, rfl⟩)
  have HW0 := Lib.hid (HW.out wq (Below.refl _ _))
  go_upto_region 6 with (go_at_call 97; refine HW0.out.mono ?_; rintro e w2 ⟨rfl, hb2⟩; have HB2 := Lib.hid hb2; clear hb2)
  have HP2 := Lib.hid (HP.out w2 HB2.out)
  go_upto_region 7 with (go_at_call 98; refine HP2.out.mono ?_; rintro e w3 ⟨rfl, hb3⟩; have HB3 := Lib.hid (HB2.out.trans (hb3.mono HB2.out.size)); clear hb3)
  go_upto_region 15 with fail
  go_upto_region 16 with (rw [← zIno_lit]; refine wpList_store_mid rfl 40 _ _ rfl w3.heap.size 0 (inoC newF) rfl rfl (there_at (heap_alloc_new _ _) (by rw [zIno_size, HSn.out])) (by rw [HSn.out]; exact Tryz.sizeIno) (inoC_one _) ?_; obtain ⟨hbw, hbg⟩ := new_whole2 w3 zIno 40 (inoC newF).toList (by rw [zIno_size, Array.length_toList, HSn.out]); generalize (World.setCells _ _ _ _) = w4 at hbw hbg ⊢; have HB4 := Lib.hid (HB3.out.trans (hbw.mono HB3.out.size)); have HN4 : Hid (w4.heap[w3.heap.size]? = some (.cells (inoC newF) 40 (0, 0))) := Lib.hid hbg; clear hbw hbg)
  obtain ⟨ib, hib⟩ : ∃ ib, ib = w3.heap.size := ⟨_, rfl⟩
  rw [← hib] at HN4 ⊢
  have hI4 : InoAt w4 ib newF := ⟨HN4.out, newF_shape⟩
  obtain ⟨b0, b1⟩ := hI4.cO (k := k) (n := 0) (by
    exact zeros8 ⟨k, HK8.out⟩)
  obtain ⟨w5, hw5⟩ : ∃ u, u = w4.setCell ⟨ib, 7 + k, none⟩ (.int .i64 1) := ⟨_, rfl⟩
  have HB5 : Hid (Below wq.heap.size wq w5) := Lib.hid (by rw [hw5]; exact HB4.out.setCell (show wq.heap.size ≤ ib by rw [hib]; exact HB3.out.size) _)
  have HN5 : Hid (w5.heap[ib]? = some (.cells (inoC (newF.setO k 1)) 40 (0, 0))) := Lib.hid (by rw [hw5, ← HC.out]; exact Go.heap_setCell_same w4 ib _ _ _ _ HN4.out)
  have HW5 := Lib.hid hw5.symm
  clear hI4 hw5 hib
  have HMc := Lib.hid (HM.out w5 HB5.out)
  go_upto_region 17 with fail
  rw [HW5.out]
  go_wp2_with (first | (refine wpList_load_row rfl 40 _ rfl ib rfl 40 (inoC (newF.setO k 1)) (0, 0) _ HN5.out Tryz.underlying40 rfl (by rw [HSo.out]; exact Tryz.sizeIno) ?_) | (go_at_call 99; refine HMc.out.mono ?_; rintro e w6 ⟨rfl, hr6⟩))
  go_ret2
  exact ⟨rfl, hr6⟩

end Go.Proofs.YtccpdkjonepoiaaGreatDoor

/- A volume that was formatted, in plain words. -/
namespace Go.Proofs.YtccpdkjonepoiaaGreatDoor
namespace Gd
theorem view_append (S : List UInt8) (P Q : List Pa) : view S (P ++ Q) = view (view S P) Q := by
  unfold view
  rw [List.foldl_append]
theorem view_apart {k n : Nat} : ∀ {P : List Pa} {S : List UInt8}, Fit S.length P → k + n ≤ S.length → (∀ p ∈ P, k + n ≤ p.1 ∨ p.1 + p.2.length ≤ k) → part (view S P) k n = part S k n
  | [], _, _, _, _ => rfl
  | p :: r, S, hf, hk, h => by
    have h1 := hf p (List.mem_cons_self ..)
    have hl := splice_length h1
    show part (view (splice S p.1 p.2) r) k n = _
    rw [view_apart (by rw [hl]; exact fun q hq => hf q (List.mem_cons_of_mem _ hq)) (by rw [hl]; exact hk) fun q hq => h q (List.mem_cons_of_mem _ hq)]
    exact part_splice_apart hk h1 (h p (List.mem_cons_self ..))
theorem view_at {p : Pa} {P Q : List Pa} {S : List UInt8} (hf : Fit S.length (P ++ [p] ++ Q)) (h : ∀ q ∈ Q, p.1 + p.2.length ≤ q.1 ∨ q.1 + q.2.length ≤ p.1) : part (view S (P ++ [p] ++ Q)) p.1 p.2.length = p.2 := by
  have hp : Fit S.length P := fun q hq => hf q (List.mem_append_left _ (List.mem_append_left _ hq))
  have h1 := hf p (List.mem_append_left _ (List.mem_append_right _ (List.mem_singleton.2 rfl)))
  have hl := view_length hp
  have hl2 : (view S (P ++ [p])).length = S.length := by rw [view_snoc, splice_length (by rw [hl]; exact h1), hl]
  rw [view_append, view_apart (by rw [hl2]; exact fun q hq => hf q (List.mem_append_right _ hq)) (by rw [hl2]; exact h1) h, view_snoc]
  exact part_splice_same (by rw [hl]; exact h1)
theorem fmtS_mem {k : Nat} {p : Pa} (h : p ∈ fmtS k) : ∃ c, c < k ∧ ((p.1 = 64 + 64 * c ∧ p.2.length = 64) ∨ (p.1 = 6784 + 1024 * c ∧ p.2.length = 8)) := by
  unfold fmtS at h
  obtain ⟨c, hc, hp⟩ := List.mem_flatMap.1 h
  refine ⟨c, List.mem_range.1 hc, ?_⟩
  simp only [List.mem_cons, List.mem_nil_iff, or_false] at hp
  rcases hp with rfl | rfl
  · exact Or.inl ⟨rfl, slotB_length _⟩
  · exact Or.inr ⟨rfl, List.length_replicate⟩
theorem fmtN_mem {k : Nat} {p : Pa} (h : p ∈ fmtN k) : ∃ i, i < k ∧ p.1 = inoAt (i + 2) ∧ p.2.length = 64 := by
  unfold fmtN at h
  obtain ⟨i, hi, rfl⟩ := List.mem_map.1 h
  exact ⟨i, List.mem_range.1 hi, rfl, List.length_replicate⟩
theorem root_len : (inoB rootI).length = 64 := inoB_length root_shape
/-- where Format stores -/
theorem fmtP_mem {p : Pa} (h : p ∈ fmtP) : p.1 + p.2.length ≤ 14976 := by
  unfold fmtP at h
  simp only [List.mem_append, List.mem_singleton] at h
  rcases h with (((rfl | h) | rfl) | rfl) | h
  · rw [headB_length]
    omega
  · obtain ⟨c, hc, h | h⟩ := fmtS_mem h <;> omega
  · rw [List.length_replicate]
    omega
  · rw [root_len]
    unfold inoAt
    omega
  · obtain ⟨i, hi, h1, h2⟩ := fmtN_mem h
    rw [h1, h2]
    unfold inoAt
    omega
theorem fmtP_fit {n : Nat} (hn : 23168 ≤ n) : Fit n fmtP := fun p hp => by
  have := fmtP_mem hp
  omega
theorem fmtN_at {V : List UInt8} (hV : V.length = 23168) : ∀ k, k ≤ 31 → ∀ j, j < k → part (view V (fmtN k)) (inoAt (j + 2)) 64 = List.replicate 64 0
  | 0, _, j, hj => by omega
  | k + 1, hk, j, hj => by
    have hf : Fit V.length (fmtN k) := fun p hp => by
      obtain ⟨i, hi, h1, h2⟩ := fmtN_mem hp
      rw [h1, h2, hV]
      unfold inoAt
      omega
    have hl := view_length hf
    have hz : (List.replicate 64 (0 : UInt8)).length = 64 := List.length_replicate
    rw [fmtN_succ, view_snoc]
    by_cases e : j = k
    · subst e
      have := part_splice_same (S := view V (fmtN j)) (k := inoAt (j + 2)) (b := List.replicate 64 0) (by rw [hl, hV, hz]; unfold inoAt; omega)
      rw [hz] at this
      exact this
    · rw [part_splice_apart (by rw [hl, hV]; unfold inoAt; omega) (by rw [hl, hV, hz]; unfold inoAt; omega) (by rw [hz]; unfold inoAt; omega)]
      exact fmtN_at hV k (by omega) j (by omega)
/-- a volume that was formatted -/
def freshV (S : List UInt8) : Vol := ⟨fun i => if i = 1 then rootI else noIno, List.replicate 16 0, fun n => part S (blkAt n) 64, part (view S fmtP) 0 576, part (view S fmtP) 6784 8192⟩
theorem fresh_good {S : List UInt8} (hS : S.length = 23168) : Good (view S fmtP) (freshV S) := by
  have hfit : Fit S.length fmtP := fmtP_fit (by omega)
  have hl : (view S fmtP).length = 23168 := by rw [view_length hfit, hS]
  refine ⟨hl, fun i h1 h2 => ?_, fun i h1 h2 => ?_, fun i h1 h2 => ?_, List.length_replicate, ?_, fun n n1 n2 => ?_, fun n n1 n2 => ?_, by dsimp only [freshV], by dsimp only [freshV]⟩
  · show (if i = 1 then rootI else noIno).Shape
    split
    · exact root_shape
    · exact ⟨rfl, rfl⟩
  · show mayI (if i = 1 then rootI else noIno) = true
    split
    · exact root_may
    · decide
  · show part _ _ _ = inoB (if i = 1 then rootI else noIno)
    by_cases e : i = 1
    · subst e
      rw [if_pos rfl]
      have := view_at (p := (inoAt 1, inoB rootI)) (P := [(0, headB 0)] ++ fmtS 8 ++ [(576, List.replicate 16 0)]) (Q := fmtN 31) (S := S) hfit fun q hq => by
        obtain ⟨i, hi, h1, h2⟩ := fmtN_mem hq
        rw [h1, root_len]
        unfold inoAt
        omega
      rw [root_len] at this
      exact this
    · rw [if_neg e]
      have h3 : (view S ([(0, headB 0)] ++ fmtS 8 ++ [(576, List.replicate 16 0)] ++ [(inoAt 1, inoB rootI)])).length = 23168 := by
        rw [view_length fun p hp => hfit p (List.mem_append_left _ hp), hS]
      have := fmtN_at h3 31 (Nat.le_refl _) (i - 2) (by omega)
      rw [← view_append, show i - 2 + 2 = i by omega] at this
      exact this
  · have := view_at (p := (576, List.replicate 16 0)) (P := [(0, headB 0)] ++ fmtS 8) (Q := [(inoAt 1, inoB rootI)] ++ fmtN 31) (S := S) (by rw [← List.append_assoc]; exact hfit) fun q hq => by
      rw [List.length_replicate]
      rcases List.mem_append.1 hq with hq | hq
      · rw [List.mem_singleton.1 hq]
        unfold inoAt
        omega
      · obtain ⟨i, hi, h1, h2⟩ := fmtN_mem hq
        rw [h1]
        unfold inoAt
        omega
    rw [← List.append_assoc, List.length_replicate] at this
    exact this
  · exact part_length (by rw [hS]; unfold blkAt; omega)
  · exact view_apart hfit (by rw [hS]; unfold blkAt; omega) fun p hp => by
      have := fmtP_mem hp
      unfold blkAt
      omega
/-- the root is empty, and there is no other directory -/
theorem fresh_tree (S : List UInt8) : Tree (freshV S) fun _ => noTab := by
  have hd : ∀ d, ((freshV S).ino d).k = 2 → d = 1 := fun d h => by
    by_cases e : d = 1
    · exact e
    · exact absurd (show (if d = 1 then rootI else noIno).k = 2 from h) (by rw [if_neg e]; decide)
  refine ⟨rfl, fun d h1 h2 hk => ⟨h1, h2, hk, noTab_ok, fun k hk4 => ⟨0, ?_, Or.inl ⟨rfl, fun i _ => noTab_at _⟩⟩⟩, fun d _ _ _ e he hne => absurd (List.eq_of_mem_replicate he) hne⟩
  have := hd d hk
  subst this
  show rootI.B[k]? = some ((0 : Nat) : Int)
  match k, hk4 with
  | 0, _ => rfl
  | 1, _ => rfl
  | 2, _ => rfl
  | 3, _ => rfl
end Gd
end Go.Proofs.YtccpdkjonepoiaaGreatDoor

/- A directory of which an entry was told anew, in plain words. -/
namespace Go.Proofs.YtccpdkjonepoiaaGreatDoor
namespace Gd
theorem setT_other {T : Tab} {j k i : Nat} {e : Ent} (hT : T.length = 16) (hj : j < 16) (hk : k ≠ j / 4) (hi : i < 4) : entAt (setT T j e) (4 * k + i) = entAt T (4 * k + i) := by
  rw [setT_at hT hj, if_neg (by omega)]
theorem blkT_other {T : Tab} {j k : Nat} {e : Ent} (hT : T.length = 16) (hj : j < 16) (hk4 : k < 4) (hk : k ≠ j / 4) : blkT (setT T j e) k = blkT T k := by
  unfold blkT
  rw [blk_ext (by unfold setT; rw [List.length_set]; exact hT) hT hk4 fun i hi => setT_other hT hj hk hi]
/-- the table with an entry more, in the volume where its block was told anew -/
theorem DirOf.put {M N : Vol} {d j n : Nat} {T : Tab} {e : Ent} (h : DirOf M d T) (he : e.May) (hj : j < 16) (hk : (N.ino d).k = 2) (hB : (N.ino d).B = (M.ino d).B.set (j / 4) (n : Int)) (hn1 : 1 ≤ n) (hn2 : n ≤ 128) (hblk : N.blk n = blkT (setT T j e) (j / 4)) (hoth : ∀ q, q ≠ n → N.blk q = M.blk q)
    (hfree : ∀ k q : Nat, k ≠ j / 4 → (M.ino d).B[k]? = some (q : Int) → q ≠ 0 → q ≠ n) : DirOf N d (setT T j e) := by
  refine ⟨h.lo, h.hi, hk, h.ok.set he, fun k hk4 => ?_⟩
  obtain ⟨q, hq, hr⟩ := h.blk k hk4
  have hlen : k < (M.ino d).B.length := (List.getElem?_eq_some_iff.1 hq).1
  by_cases e1 : k = j / 4
  · refine ⟨n, ?_, Or.inr ⟨hn1, hn2, by rw [e1]; exact hblk⟩⟩
    rw [hB, ← e1, List.getElem?_set_self hlen]
  · refine ⟨q, ?_, ?_⟩
    · rw [hB, List.getElem?_set_ne (fun e => e1 e.symm)]
      exact hq
    · rcases hr with ⟨h0, hno⟩ | ⟨q1, q2, hb⟩
      · exact Or.inl ⟨h0, fun i hi => by rw [setT_other h.ok.len hj e1 hi]; exact hno i hi⟩
      · refine Or.inr ⟨q1, q2, ?_⟩
        rw [hoth q (hfree k q e1 hq (by omega)), hb, blkT_other h.ok.len hj hk4 e1]
/-- where no entry was, one that is there makes the block used -/
theorem usedT_set {T : Tab} {j : Nat} {e : Ent} (hT : T.length = 16) (hj : j < 16) (he : e ≠ noEnt) : usedT (setT T j e) (j / 4) = true := by
  unfold usedT
  rw [List.any_eq_true]
  refine ⟨e, ?_, by simpa using he⟩
  have hl : (setT T j e).length = 16 := by unfold setT; rw [List.length_set]; exact hT
  have hg := entAt_get hl hj
  rw [setT_at hT hj, if_pos rfl] at hg
  refine List.mem_of_getElem? (i := j % 4) ?_
  rw [List.getElem?_take, if_pos (Nat.mod_lt _ (by omega)), List.getElem?_drop, show 4 * (j / 4) + j % 4 = j by omega]
  exact hg
/-- blocks hang together: each is some inode's, once; and just they are used -/
structure Sound (M : Vol) : Prop where
  mapl : M.map.length = 16
  one : ∀ i i' k k' : Nat, ∀ n : Int, 1 ≤ i → i ≤ 32 → 1 ≤ i' → i' ≤ 32 → (M.ino i).B[k]? = some n → (M.ino i').B[k']? = some n → n ≠ 0 → i = i' ∧ k = k'
  used : ∀ n : Nat, 1 ≤ n → n ≤ 128 → (usedB M.map n = true ↔ ∃ i k : Nat, 1 ≤ i ∧ i ≤ 32 ∧ (M.ino i).B[k]? = some (n : Int))
theorem used_zero (n : Nat) : usedB (List.replicate 16 0) n = false := by
  unfold usedB byteAt
  have : ((List.replicate 16 (0 : UInt8)).getD ((n - 1) / 8) 0).toNat = 0 := by
    rw [List.getD_eq_getElem?_getD, List.getElem?_replicate]
    split <;> rfl
  rw [this]
  simp
theorem fresh_blocks (S : List UInt8) (i k : Nat) (n : Int) (h : ((freshV S).ino i).B[k]? = some n) : n = 0 := by
  have h2 : (if i = 1 then rootI else noIno).B[k]? = some n := h
  split at h2
  · have : n ∈ rootI.B := List.mem_of_getElem? h2
    simp [rootI] at this
    exact this
  · have : n ∈ noIno.B := List.mem_of_getElem? h2
    simp [noIno] at this
    exact this
theorem fresh_sound (S : List UInt8) : Sound (freshV S) := by
  refine ⟨List.length_replicate, fun i i' k k' n _ _ _ _ h _ hn => absurd (fresh_blocks S i k n h) hn, fun n n1 _ => ⟨fun h => ?_, fun ⟨i, k, _, _, h⟩ => ?_⟩⟩
  · rw [show (freshV S).map = List.replicate 16 0 from rfl, used_zero] at h
    cases h
  · have := fresh_blocks S i k _ h
    omega
end Gd
end Go.Proofs.YtccpdkjonepoiaaGreatDoor

/- Blocks that hang together: a block more, a block less. -/
namespace Go.Proofs.YtccpdkjonepoiaaGreatDoor
namespace Gd
theorem set_get {B : List Int} {k j : Nat} {m n : Int} (h : (B.set k m)[j]? = some n) : (j = k ∧ n = m) ∨ (j ≠ k ∧ B[j]? = some n) := by
  by_cases e : j = k
  · subst e
    have hl := (List.getElem?_eq_some_iff.1 h).1
    rw [List.length_set] at hl
    rw [List.getElem?_set_self hl] at h
    exact Or.inl ⟨rfl, (Option.some.inj h).symm⟩
  · rw [List.getElem?_set_ne (fun x => e x.symm)] at h
    exact Or.inr ⟨e, h⟩
theorem Sound.same {M N : Vol} (h : Sound M) (hm : N.map = M.map) (hB : ∀ i, 1 ≤ i → i ≤ 32 → (N.ino i).B = (M.ino i).B) : Sound N := by
  refine ⟨by rw [hm]; exact h.mapl, fun i i' k k' n h1 h2 h3 h4 a b hn => ?_, fun n n1 n2 => ?_⟩
  · rw [hB i h1 h2] at a
    rw [hB i' h3 h4] at b
    exact h.one i i' k k' n h1 h2 h3 h4 a b hn
  · rw [hm, h.used n n1 n2]
    constructor
    · rintro ⟨i, k, h1, h2, h3⟩
      exact ⟨i, k, h1, h2, by rw [hB i h1 h2]; exact h3⟩
    · rintro ⟨i, k, h1, h2, h3⟩
      exact ⟨i, k, h1, h2, by rw [hB i h1 h2] at h3; exact h3⟩
/-- a block more -/
theorem Sound.take {M N : Vol} (h : Sound M) {d k n : Nat} (d1 : 1 ≤ d) (d2 : d ≤ 32) (hk : (M.ino d).B[k]? = some 0) (n1 : 1 ≤ n) (n2 : n ≤ 128) (hf : usedB M.map n = false) (hm : N.map = takeB M.map n) (hd : (N.ino d).B = (M.ino d).B.set k (n : Int)) (hB : ∀ i, 1 ≤ i → i ≤ 32 → i ≠ d → (N.ino i).B = (M.ino i).B) : Sound N := by
  have hno : ∀ i k : Nat, 1 ≤ i → i ≤ 32 → (M.ino i).B[k]? ≠ some (n : Int) := fun i k i1 i2 e => by
    have := (h.used n n1 n2).2 ⟨i, k, i1, i2, e⟩
    rw [hf] at this
    cases this
  have hg : ∀ i j m, 1 ≤ i → i ≤ 32 → (N.ino i).B[j]? = some m → (i = d ∧ j = k ∧ m = (n : Int)) ∨ (¬ (i = d ∧ j = k) ∧ (M.ino i).B[j]? = some m) := fun i j m i1 i2 e => by
    by_cases ei : i = d
    · subst ei
      rw [hd] at e
      rcases set_get e with ⟨e1, e2⟩ | ⟨e1, e2⟩
      · exact Or.inl ⟨rfl, e1, e2⟩
      · exact Or.inr ⟨fun x => e1 x.2, e2⟩
    · rw [hB i i1 i2 ei] at e
      exact Or.inr ⟨fun x => ei x.1, e⟩
  have hl := (List.getElem?_eq_some_iff.1 hk).1
  refine ⟨by rw [hm, take_length]; exact h.mapl, fun i i' j j' m i1 i2 i3 i4 a b hn => ?_, fun m m1 m2 => ?_⟩
  · rcases hg i j m i1 i2 a with ⟨a1, a2, a3⟩ | ⟨a1, a2⟩ <;> rcases hg i' j' m i3 i4 b with ⟨b1, b2, b3⟩ | ⟨b1, b2⟩
    · exact ⟨a1.trans b1.symm, a2.trans b2.symm⟩
    · exact absurd (a3 ▸ b2) (hno i' j' i3 i4)
    · exact absurd (b3 ▸ a2) (hno i j i1 i2)
    · exact h.one i i' j j' m i1 i2 i3 i4 a2 b2 hn
  · rw [hm, used_take h.mapl n1 n2 m1 m2, Bool.or_eq_true, decide_eq_true_iff, h.used m m1 m2]
    constructor
    · rintro (rfl | ⟨i, j, i1, i2, e⟩)
      · exact ⟨d, k, d1, d2, by rw [hd, List.getElem?_set_self hl]⟩
      · by_cases ei : i = d
        · subst ei
          refine ⟨i, j, i1, i2, ?_⟩
          have hjk : j ≠ k := fun x => by
            rw [x, hk] at e
            have := Option.some.inj e
            omega
          rw [hd, List.getElem?_set_ne (fun x => hjk x.symm)]
          exact e
        · exact ⟨i, j, i1, i2, by rw [hB i i1 i2 ei]; exact e⟩
    · rintro ⟨i, j, i1, i2, e⟩
      rcases hg i j _ i1 i2 e with ⟨_, _, e3⟩ | ⟨_, e2⟩
      · exact Or.inl (by omega)
      · exact Or.inr ⟨i, j, i1, i2, e2⟩
/-- a block less -/
theorem Sound.give {M N : Vol} (h : Sound M) {d k n : Nat} (d1 : 1 ≤ d) (d2 : d ≤ 32) (hk : (M.ino d).B[k]? = some (n : Int)) (n1 : 1 ≤ n) (n2 : n ≤ 128) (hm : N.map = giveB M.map n) (hd : (N.ino d).B = (M.ino d).B.set k 0) (hB : ∀ i, 1 ≤ i → i ≤ 32 → i ≠ d → (N.ino i).B = (M.ino i).B) : Sound N := by
  have hn0 : (n : Int) ≠ 0 := by omega
  have hg : ∀ i j m, 1 ≤ i → i ≤ 32 → (N.ino i).B[j]? = some m → m ≠ 0 → ¬ (i = d ∧ j = k) ∧ (M.ino i).B[j]? = some m := fun i j m i1 i2 e hm0 => by
    by_cases ei : i = d
    · subst ei
      rw [hd] at e
      rcases set_get e with ⟨e1, e2⟩ | ⟨e1, e2⟩
      · exact absurd e2 hm0
      · exact ⟨fun x => e1 x.2, e2⟩
    · rw [hB i i1 i2 ei] at e
      exact ⟨fun x => ei x.1, e⟩
  refine ⟨by rw [hm, give_length]; exact h.mapl, fun i i' j j' m i1 i2 i3 i4 a b hm0 => ?_, fun m m1 m2 => ?_⟩
  · exact h.one i i' j j' m i1 i2 i3 i4 (hg i j m i1 i2 a hm0).2 (hg i' j' m i3 i4 b hm0).2 hm0
  · rw [hm, used_give h.mapl n1 n2 m1 m2, Bool.and_eq_true, Bool.not_eq_true', decide_eq_false_iff_not, h.used m m1 m2]
    constructor
    · rintro ⟨hne, i, j, i1, i2, e⟩
      by_cases ei : i = d
      · subst ei
        refine ⟨i, j, i1, i2, ?_⟩
        have hjk : j ≠ k := fun x => by
          rw [x, hk] at e
          have := Option.some.inj e
          omega
        rw [hd, List.getElem?_set_ne (fun x => hjk x.symm)]
        exact e
      · exact ⟨i, j, i1, i2, by rw [hB i i1 i2 ei]; exact e⟩
    · rintro ⟨i, j, i1, i2, e⟩
      obtain ⟨e1, e2⟩ := hg i j _ i1 i2 e (by omega)
      refine ⟨fun x => ?_, i, j, i1, i2, e2⟩
      subst x
      exact e1 (h.one i d j k _ i1 i2 d1 d2 e2 hk hn0)
end Gd
end Go.Proofs.YtccpdkjonepoiaaGreatDoor

/- A volume with some files, open, in its root: one file more. -/
namespace Go.Proofs.YtccpdkjonepoiaaGreatDoor
namespace Gd
/-- so many files, in the inodes from 2 on, all empty and open by the first client -/
structure Began (M : Vol) (T : Tab) (c : Nat) (B : List Int) (m : List UInt8) : Prop where
  tree : Tree M fun _ => T
  sound : Sound M
  root : M.ino 1 = ⟨2, 1, c, B, [0, 0, 0, 0, 0, 0, 0, 0]⟩
  files : ∀ i, 2 ≤ i → i ≤ c + 1 → M.ino i = newF.setO 0 1
  rest : ∀ i, c + 2 ≤ i → M.ino i = noIno
  map : M.map = m
theorem began_fresh (S : List UInt8) : Began (freshV S) noTab 0 [0, 0, 0, 0] (List.replicate 16 0) :=
  ⟨fresh_tree S, fresh_sound S, rfl, fun i h1 h2 => by omega, fun i h => by
    show (if i = 1 then rootI else noIno) = noIno
    rw [if_neg (by omega)], rfl⟩
/-- what the root is, with a file more -/
def rootN (c : Nat) (B : List Int) : Ino := ⟨2, 1, (c : Int) + 1, B, [0, 0, 0, 0, 0, 0, 0, 0]⟩
theorem began_step {M N : Vol} {T : Tab} {c : Nat} {B B2 : List Int} {m m2 : List UInt8} (h : Began M T c B m) (hc : c + 2 ≤ 32) {j n : Nat} {e : Ent} (hj : j < 16) (he : e.May) (hne : e ≠ noEnt) (hi : e.i = c + 2) (n1 : 1 ≤ n) (n2 : n ≤ 128)
    (hino : ∀ i, N.ino i = if i = 1 then rootN c B2 else if i = c + 2 then newF.setO 0 1 else M.ino i) (hB2 : B2 = B.set (j / 4) (n : Int)) (hm : N.map = m2) (hblk : ∀ q, N.blk q = if q = n then blkT (setT T j e) (j / 4) else M.blk q) (hfree : ∀ k q : Nat, k ≠ j / 4 → B[k]? = some (q : Int) → q ≠ 0 → q ≠ n) (hs : Sound N) :
    Began N (setT T j e) (c + 1) B2 m2 := by
  have hr : N.ino 1 = rootN c B2 := by rw [hino 1, if_pos rfl]
  have hf : N.ino (c + 2) = newF.setO 0 1 := by rw [hino (c + 2), if_neg (by omega), if_pos rfl]
  have ho : ∀ i, i ≠ 1 → i ≠ c + 2 → N.ino i = M.ino i := fun i h1 h2 => by rw [hino i, if_neg h1, if_neg h2]
  have hD1 := h.tree.dir 1 (by omega) (by omega) h.tree.root
  have hroot : (M.ino 1).B = B := by rw [h.root]
  have hD : DirOf N 1 (setT T j e) := hD1.put he hj (by rw [hr]; rfl) (by rw [hr, hroot]; exact hB2) n1 n2 (by rw [hblk n, if_pos rfl]) (fun q hq => by rw [hblk q, if_neg hq]) (fun k q hk hq => hfree k q hk (by rw [hroot] at hq; exact hq))
  have hk2 : ∀ d, 1 ≤ d → (N.ino d).k = 2 → d = 1 := fun d h1 hk => by
    by_cases e1 : d = 1
    · exact e1
    · by_cases e2 : d = c + 2
      · rw [e2, hf] at hk
        exact absurd hk (by decide)
      · rw [ho d e1 e2] at hk
        by_cases e3 : d ≤ c + 1
        · rw [h.files d (by omega) e3] at hk
          exact absurd hk (by decide)
        · rw [h.rest d (by omega)] at hk
          exact absurd hk (by decide)
  refine ⟨⟨by rw [hr]; rfl, fun d h1 h2 hk => ?_, fun d h1 h2 hk x hx hxn => ?_⟩, hs, hr.trans (by unfold rootN; congr 1), fun i h1 h2 => ?_, fun i h1 => ?_, hm⟩
  · obtain rfl := hk2 d h1 hk
    exact hD
  · have hx' : x = e ∨ x ∈ T := by
      rcases List.mem_or_eq_of_mem_set hx with a | a
      · exact Or.inr a
      · exact Or.inl a
    rcases hx' with rfl | hx
    · rw [hi, hf]
      decide
    · have hk0 := h.tree.ent 1 (by omega) (by omega) h.tree.root x hx hxn
      by_cases e1 : x.i = 1
      · rw [e1, hr]
        show (2 : Int) ≠ 0
        decide
      · by_cases e2 : x.i = c + 2
        · rw [e2, hf]
          decide
        · rw [ho _ e1 e2]
          exact hk0
  · by_cases e2 : i = c + 2
    · rw [e2, hf]
    · rw [ho i (by omega) e2]
      exact h.files i h1 (by omega)
  · rw [ho i (by omega) (by omega)]
    exact h.rest i (by omega)
/-- the inodes, and the blocks: a new block -/
theorem began_new {M : Vol} {T : Tab} {c : Nat} {B : List Int} {m : List UInt8} (h : Began M T c B m) (hc : c + 2 ≤ 32) {j : Nat} {e : Ent} (hj : j < 16) (he : e.May) (hne : e ≠ noEnt) (hi : e.i = c + 2) (hB : B[j / 4]? = some 0) (hfs : countB m < 128) :
    Began (((M.setIno (c + 2) (newF.setO 0 1)).take.setBlk (firstB m) (blkT (setT T j e) (j / 4))).setIno 1 (rootN c (B.set (j / 4) (firstB m : Int)))) (setT T j e) (c + 1) (B.set (j / 4) (firstB m : Int)) (takeB m (firstB m)) := by
  have hml : m.length = 16 := by rw [← h.map]; exact h.sound.mapl
  obtain ⟨n1, n2, hu⟩ := first_some hml hfs
  have hroot : (M.ino 1).B = B := by rw [h.root]
  have hmp : ((M.setIno (c + 2) (newF.setO 0 1)).take).map = takeB m (firstB m) := by
    show takeB M.map (firstB M.map) = _
    rw [h.map]
  have hino : ∀ i, (((M.setIno (c + 2) (newF.setO 0 1)).take.setBlk (firstB m) (blkT (setT T j e) (j / 4))).setIno 1 (rootN c (B.set (j / 4) (firstB m : Int)))).ino i = if i = 1 then rootN c (B.set (j / 4) (firstB m : Int)) else if i = c + 2 then newF.setO 0 1 else M.ino i := fun i => rfl
  refine began_step h hc hj he hne hi n1 n2 hino rfl hmp (fun q => ?_) (fun k q hk hq h0 hqn => ?_) ?_
  · show (if q = firstB m then _ else if q = firstB M.map then _ else M.blk q) = _
    by_cases e1 : q = firstB m
    · rw [if_pos e1, if_pos e1]
    · rw [if_neg e1, if_neg e1, if_neg (by rw [h.map]; exact e1)]
  · have := (h.sound.used (firstB m) n1 n2).2 ⟨1, k, by omega, by omega, by rw [hroot, hq, hqn]⟩
    rw [h.map, hu] at this
    cases this
  · refine h.sound.take (d := 1) (k := j / 4) (n := firstB m) (by omega) (by omega) (by rw [hroot]; exact hB) n1 n2 (by rw [h.map]; exact hu) (by rw [h.map]; exact hmp) (by rw [hino 1, if_pos rfl, hroot]; rfl) fun i i1 i2 hi1 => ?_
    rw [hino i, if_neg hi1]
    by_cases e2 : i = c + 2
    · rw [if_pos e2, e2, h.rest (c + 2) (Nat.le_refl _)]
      rfl
    · rw [if_neg e2]
/-- a block that is there already -/
theorem began_over {M : Vol} {T : Tab} {c : Nat} {B : List Int} {m : List UInt8} (h : Began M T c B m) (hc : c + 2 ≤ 32) {j n : Nat} {e : Ent} (hj : j < 16) (he : e.May) (hne : e ≠ noEnt) (hi : e.i = c + 2) (hB : B[j / 4]? = some (n : Int)) (n1 : 1 ≤ n) (n2 : n ≤ 128) :
    Began (((M.setIno (c + 2) (newF.setO 0 1)).setBlk n (blkT (setT T j e) (j / 4))).setIno 1 (rootN c B)) (setT T j e) (c + 1) B m := by
  have hroot : (M.ino 1).B = B := by rw [h.root]
  have hl := (List.getElem?_eq_some_iff.1 hB)
  have hset : B = B.set (j / 4) (n : Int) := by
    obtain ⟨h1, h2⟩ := hl
    rw [← h2, List.set_getElem_self]
  have hino : ∀ i, (((M.setIno (c + 2) (newF.setO 0 1)).setBlk n (blkT (setT T j e) (j / 4))).setIno 1 (rootN c B)).ino i = if i = 1 then rootN c B else if i = c + 2 then newF.setO 0 1 else M.ino i := fun i => rfl
  refine began_step h hc hj he hne hi n1 n2 hino hset h.map (fun q => rfl) (fun k q hk hq h0 hqn => ?_) ?_
  · have := (h.sound.one 1 1 k (j / 4) (n : Int) (by omega) (by omega) (by omega) (by omega) (by rw [hroot, hq, hqn]) (by rw [hroot]; exact hB) (by omega)).2
    exact hk this
  · refine h.sound.same rfl fun i i1 i2 => ?_
    rw [hino i]
    by_cases e1 : i = 1
    · rw [if_pos e1, e1, hroot]
      rfl
    · rw [if_neg e1]
      by_cases e2 : i = c + 2
      · rw [if_pos e2, e2, h.rest (c + 2) (Nat.le_refl _)]
        rfl
      · rw [if_neg e2]
end Gd
end Go.Proofs.YtccpdkjonepoiaaGreatDoor

/- Walks: a file is opened that is not there: in a volume that began. -/
namespace Go.Proofs.YtccpdkjonepoiaaGreatDoor
open Go.RowKit Go.Shelf

theorem Gd.DirOf.same {M N : Gd.Vol} {d : Nat} {T : Gd.Tab} (h : Gd.DirOf M d T) (hi : N.ino d = M.ino d) (hb : N.blk = M.blk) : Gd.DirOf N d T :=
  ⟨h.lo, h.hi, by rw [hi]; exact h.kind, h.ok, fun k hk => by rw [hi, hb]; exact h.blk k hk⟩

theorem bopen [MemNo] {x t cc dd K c : Nat} {S : List UInt8} {M N : Gd.Vol} {T : Gd.Tab} {B : List Int} {m : List UInt8} {F : Nat → Prop} (nm : List UInt8) (j : Fin 16) (mx : Int) (w : World) (h : MetaV x t S M cc K w F) (hBg : Gd.Began M T c B m) (hc : c + 2 ≤ 32) (hcc : cc < 64)
    (hmx : w.cell? ⟨0, 0, none⟩ = some (.int .i64 mx)) (hml : 0 < w.heap.size)
    (hn : Np.nameB nm = true) (hp : Np.pathL (47 :: nm) = some [nm]) (hf : Gd.findT T nm (Gd.hN nm) = none) (hj : Gd.placeT T (Gd.hN nm) = some j)
    (hC : ∀ W F1, MetaV x t S (M.setIno (c + 2) (newF.setO 0 1)) (cc + 1) K W F1 → Calls Tryz.prog 171 #[.pointer (some ⟨x, 0, none⟩), .int .i64 1, .int .i64 (j.val : Nat), tabV (Gd.setT T j.val ⟨nm, c + 2⟩), .int .i64 1, .int .i64 0] W fun e w' => e = .returned (.int .i64 0) ∧ Turns x t S N dd K F1 W w') :
    Calls Tryz.prog 50 #[.pointer (some ⟨x, 0, none⟩), .int .i64 1, .string ⟨(47 :: nm).toArray⟩, .int .i64 1, .bool false, .int .i64 0] w fun e w' => e = .returned (.tuple #[.int .i64 ((c + 2 : Nat) : Int), .int .i64 0]) ∧ Turns x t S N dd K F w w' := by
  have hln : nm.length ≤ 12 := nameB_len hn
  have hk2 : (M.ino 1).k = 2 := hBg.tree.root
  have hsz : (⟨(47 :: nm).toArray⟩ : ByteArray).size ≤ 100000 := by rw [Lib.size_eq]; show nm.length + 1 ≤ _; omega
  have hD : Gd.DirOf (M.setIno (c + 2) (newF.setO 0 1)) 1 T := (hBg.tree.dir 1 (by omega) (by omega) hk2).same (by
    show (if 1 = c + 2 then newF.setO 0 1 else M.ino 1) = M.ino 1
    exact if_neg (by omega)) rfl
  have hwk : Gd.walkT M (fun _ => T) [nm] 1 = (0, 10) := by
    unfold Gd.walkT
    rw [if_pos hk2, hf]
  have hpl : Gd.placeP M (fun _ => T) [] nm = (1, nm, 0) := by
    unfold Gd.placeP
    show (if (0 : Nat) ≠ 0 then ((0 : Nat), ([] : List UInt8), (0 : Nat)) else if (M.ino 1).k = 2 then (1, nm, 0) else (0, [], 12)) = (1, nm, 0)
    rw [if_neg (by omega), if_pos hk2]
  refine open_new (x := x) 1 ⟨(47 :: nm).toArray⟩ ⟨nm.toArray⟩ 0 1 (c + 2) 0 w (fun w' => Turns x t S N dd K F w w') (by omega) (by omega) (fun W hW => ?_) (fun W hW => ?_) (fun W hW => ?_)
  · have := mwalk_yes ⟨(47 :: nm).toArray⟩ [nm] mx W (h.below hW) hBg.tree hsz ((hW.cell (p := ⟨0, 0, none⟩) hml).trans hmx) hp
    rw [hwk] at this
    exact this
  · have := mplace_yes ⟨(47 :: nm).toArray⟩ [] nm mx W (h.below hW) hBg.tree hsz ((hW.cell (p := ⟨0, 0, none⟩) hml).trans hmx) hp
    rw [hpl] at this
    exact this
  · refine (make_ok (M2 := N) (c2 := dd) ⟨nm.toArray⟩ (c + 2) (newF.setO 0 1) 0 W (h.below hW) (Gd.Ino.setO_shape newF_shape 0 1) (by decide) (by omega) hc (by rw [hBg.rest (c + 2) (Nat.le_refl _)]; rfl) (fun i i1 i2 => ?_) hcc (fun W1 F1 h1 => ?_)).mono ?_
    · by_cases e : i = 1
      · rw [e, hk2]
        decide
      · rw [hBg.files i (by omega) (by omega)]
        decide
    · exact put_ok nm (c + 2) 0 0 j W1 (fun w' => Turns x t S N dd K F1 W1 w') h1 hD (by omega) hj fun W2 hW2 => (hC W2 F1 (h1.below hW2)).mono fun e w' ⟨he, ht⟩ => ⟨he, ht.behind hW2⟩
    · rintro e w' ⟨he, ht⟩
      exact ⟨he, ht.behind hW⟩

end Go.Proofs.YtccpdkjonepoiaaGreatDoor
