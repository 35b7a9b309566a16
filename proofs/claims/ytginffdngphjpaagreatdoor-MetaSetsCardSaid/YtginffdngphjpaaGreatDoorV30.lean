/- Walks: commonslaw14: MetaSets. -/
import Derived.Test.YtginffdngphjpaaGreatDoorV29
import Derived.Deep.RegionHeld3
set_option linter.unusedVariables false
set_option linter.unusedSimpArgs false
namespace Go.Proofs.YtginffdngphjpaaGreatDoor
open Go.RowKit Go.Shelf

attribute [local go_sem] Oper.semAt_some

/-- an operation on two values whose outcome is known, where it is wanted -/
theorem wpList_bin_guarded {P : Program} {ops : Array Oper} {rest : List Oper} {op : Oper} {a : Act} {w : World} {Q : Exit → Act → World → Prop} (i : Nat) (bo : Bool) (hgd : op.guard = some (i, bo)) (hw : Region.wanted op (yielded ops a.tmps) = true) (o : BinOp) (t ty : TypeId) (x y : Operand) (ho : op.op = .binOp o t x y ty) (u v r : Value) (hx : a.eval x = u) (hy : a.eval y = v)
    (hq : (eqGuard o t x y u v).run P w = .ok () w) (hr : (binOp o t u v).run P w = .ok r w) (h : wpList P ops Q rest (a.put op.dst r) w) : wpList P ops Q (op :: rest) a w :=
  wpList_step fun K hK => by
    rw [if_pos hw]
    unfold Oper.wp execOp
    simp only [ho, hx, hy, Sem.run_bind, Sem.run_pure, hq, hr, Result.andThen_ok]
    exact hK _ _ h
theorem ino_allI {y : Gd.Ino} (h : Gd.InoIn y) : AllI (inoL y) := fun n hn => by
  have hr : 0 ≤ n ∧ n ≤ 256 := by
    simp only [inoL, List.mem_cons, List.mem_append] at hn
    rcases hn with rfl | rfl | rfl | hn | hn
    · have := h.k; omega
    · have := h.l; omega
    · have := h.s; omega
    · have := h.B n hn; omega
    · have := h.O n hn; omega
  obtain ⟨k, rfl⟩ : ∃ k : Nat, n = k := ⟨n.toNat, by omega⟩
  exact nat_I64 (by omega)
/-- what is told of an inode of any number -/
def inoOf (M : Gd.Vol) (k : Int) : Gd.Ino := if 1 ≤ k ∧ k ≤ 32 then M.ino k.toNat else Gd.noIno
def errOf (k : Int) : Int := if 1 ≤ k ∧ k ≤ 32 then 0 else 1
def setOf (M : Gd.Vol) (i : Int) (X : Gd.Ino) : Gd.Vol := if Gd.mayI X = true ∧ 1 ≤ i ∧ i ≤ 32 then M.setIno i.toNat X else M
section
variable {x t c K : Nat} {S : List UInt8} {M : Gd.Vol} {F : Nat → Prop} {w a : World} {Ls : List (Nat × Obj)}
theorem Tl.fino2 (h : Tl x t S M c K F w a Ls) (k : Int) : Calls Tryz.prog 11 #[.pointer (some ⟨x, 0, none⟩), .int .i64 k] a fun e b => e = .returned (.tuple #[inoV (inoOf M k), .int .i64 (errOf k)]) ∧ Below a.heap.size a b := by
  unfold inoOf errOf
  by_cases hk : 1 ≤ k ∧ k ≤ 32
  · rw [if_pos hk, if_pos hk]
    exact h.fino k hk.1 hk.2
  · rw [if_neg hk, if_neg hk]
    obtain ⟨F1, h1, _⟩ := h
    exact inode_bad k a h1.inv hk
theorem Tl.inoOf (h : Tl x t S M c K F w a Ls) (k : Int) : (inoOf M k).Shape ∧ AllI (inoL (inoOf M k)) := by
  unfold Go.Proofs.YtginffdngphjpaaGreatDoor.inoOf
  by_cases hk : 1 ≤ k ∧ k ≤ 32
  · rw [if_pos hk]
    obtain ⟨F1, h1, _⟩ := h
    obtain ⟨P, _, hG⟩ := h1.inv
    exact ⟨hG.shape k.toNat (by omega) (by omega), ino_allI (Gd.mayI_in (hG.may k.toNat (by omega) (by omega)))⟩
  · rw [if_neg hk]
    exact ⟨noIno_shape, noIno_all⟩
theorem Tl.setino2 (h : Tl x t S M c K F w a Ls) (i : Int) (X : Gd.Ino) (hX : X.Shape) (hI : AllI (inoL X)) (hc : c < 64) : Calls Tryz.prog 12 #[.pointer (some ⟨x, 0, none⟩), .int .i64 i, inoV X] a fun e b => e = .returned (.int .i64 (if Gd.mayI X = true ∧ 1 ≤ i ∧ i ≤ 32 then 0 else 1)) ∧ Tl x t S (setOf M i X) (c + 1) K F w b Ls := by
  obtain ⟨F1, h1, h2⟩ := h
  unfold setOf
  by_cases hm : Gd.mayI X = true ∧ 1 ≤ i ∧ i ≤ 32
  · rw [if_pos hm, if_pos hm]
    refine (setino_ok i X hX hm.1 a h1.inv hm.2.1 hm.2.2 hc).mono ?_
    rintro e b ⟨he, ht⟩
    exact ⟨he, Tl.next h1 h2 ht⟩
  · rw [if_neg hm, if_neg hm]
    refine (setino_bad i X hX hI a h1.inv ?_).mono ?_
    · by_cases h3 : Gd.mayI X = true
      · exact Or.inr fun h4 => hm ⟨h3, h4⟩
      · exact Or.inl (by simpa using h3)
    · rintro e b ⟨he, hb⟩
      refine ⟨he, Tl.next h1 h2 ⟨F1, ⟨h1.inv.more (by omega) (Nat.le_refl _)|>.below hb, fun _ _ e => e, below_only hb F1⟩⟩⟩
end
/-- what is set is told; nothing else has turned -/
theorem setOf_ino {M : Gd.Vol} {i k : Int} {X : Gd.Ino} : (k = i → Gd.mayI X = true → 1 ≤ i → i ≤ 32 → inoOf (setOf M i X) k = X) ∧ (k ≠ i → inoOf (setOf M i X) k = inoOf M k) := by
  constructor
  · rintro rfl h1 h2 h3
    unfold inoOf setOf
    rw [if_pos ⟨h2, h3⟩, if_pos ⟨h1, h2, h3⟩]
    exact setIno_at _ _ _
  · intro hne
    unfold inoOf setOf
    split
    · rename_i hk
      split
      · rename_i hi
        show (if k.toNat = i.toNat then X else M.ino k.toNat) = _
        rw [if_neg (by omega)]
      · rfl
    · rfl

end Go.Proofs.YtginffdngphjpaaGreatDoor

/- Walks: commonslaw14: MetaSets, the law. -/
namespace Go.Proofs.YtginffdngphjpaaGreatDoor
open Go.RowKit Go.Shelf

attribute [local go_sem] Oper.semAt_some

set_option maxHeartbeats 16000000 in
set_option maxRecDepth 100000 in
theorem law_msets (i : Int) (X : Gd.Ino) (hX : X.Shape) (hI : AllI (inoL X)) (m : List UInt8) (hm : m.length = 16) (k : Int) (w : World) (hM : Mx w) :
    Calls Tryz.prog 3 #[.int .i64 i, inoV X, mapV m, .int .i64 k] w fun e w' => e = .returned (.bool true) ∧ Below w.heap.size w w' := by
  obtain ⟨wa, hwa⟩ : ∃ u, u = w.alloc (.cells (inoC X) 25) := ⟨_, rfl⟩
  obtain ⟨xb, hxb⟩ : ∃ xb, xb = w.heap.size := ⟨_, rfl⟩
  obtain ⟨hba, hra⟩ := below_new w (inoC X) 25
  rw [← hwa] at hba hra
  rw [← hxb] at hra
  obtain ⟨hb0, hr0⟩ := below_new wa (cellsB m) 27
  obtain ⟨mb, hmb⟩ : ∃ mb, mb = wa.heap.size := ⟨_, rfl⟩
  obtain ⟨w0, hw0⟩ : ∃ u, u = wa.alloc (.cells (cellsB m) 27) := ⟨_, rfl⟩
  rw [← hw0, ← hmb] at hr0
  rw [← hw0] at hb0
  have HRx : Hid (w0.heap[xb]? = some (.cells (inoC X) 25 (0, 0))) := Lib.hid ((hb0.block xb (lt_get hra)).trans hra)
  have HRm := Lib.hid hr0
  have HB0 : Hid (Below w.heap.size w w0) := Lib.hid (hba.trans (hb0.mono hba.size))
  have HS := Lib.hid (cellsB_len hm)
  have HSx := Lib.hid (inoC_size hX)
  have HX := Lib.hid (And.intro hX hI)
  have Hm := Lib.hid hm
  have HWa := Lib.hid hwa.symm
  have HW0 := Lib.hid hw0.symm
  have Hxb := Lib.hid hxb.symm
  have Hmb := Lib.hid hmb.symm
  have HMx := Lib.hid hM
  have HBg := Lib.hid (begin14_any w0)
  have HLi : Hid (∀ W, Below w.heap.size w W → Calls Tryz.prog 15 #[] W fun e w' => e = .returned (.bool true) ∧ Below W.heap.size W w') := Lib.hid fun W hW => by
    obtain ⟨mx, hmx⟩ := HMx.out
    exact lives14_any W ⟨mx, (hW.cell (p := ⟨0, 0, none⟩) (mx_lt hmx)).trans hmx⟩
  have HRM := Lib.hid fun W => rmay_call X hX hI W
  obtain ⟨R, hR⟩ : ∃ R, R = Gd.mayI X := ⟨_, rfl⟩
  rw [← hR] at HRM
  have HR := Lib.hid hR
  clear hwa hxb hba hra hb0 hr0 hmb hw0 hm hX hI hM hR
  unfold mapV inoV at *
  go_enter Tryz.func3, Tryz.ntmps3
  go_upto_region 1 with fail
  have hsz : w.heap.size + 1 = mb := by rw [← Hmb.out, ← HWa.out]; simp
  rw [HWa.out, HW0.out, hsz, Hxb.out]
  clear hsz
  go_upto_region 4 with (go_at_call 9; refine HBg.out.mono ?_; rintro e w1 ⟨p, x, t, S, Z, rfl, C, hC, hT1⟩)
  have HT1 := Lib.hid hT1
  have HCx : Hid (∀ {W : World}, W.heap[p]? = some (.cells C 39 (0, 0)) → W.cell? ⟨p, 2, none⟩ = some (.pointer (some ⟨x, 0, none⟩))) := Lib.hid fun h => (cell_of_row _ p 2 _ _ _ h).trans hC
  have HRo : Hid (∀ {a : World} {c K : Nat} {S : List UInt8} {N : Gd.Vol} {Ls : List (Nat × Obj)}, Tl x t S N c K Nof w0 a Ls → a.heap[xb]? = some (.cells (inoC X) 25 (0, 0)) ∧ a.heap[mb]? = some (.cells (cellsB m) 27 (0, 0)) ∧ Below w.heap.size w a) := Lib.hid fun h => ⟨(h.belowW.block xb (lt_get HRx.out)).trans HRx.out, (h.belowW.block mb (lt_get HRm.out)).trans HRm.out, HB0.out.trans (h.belowW.mono HB0.out.size)⟩
  have HRx1 := Lib.hid (HRo.out hT1).1
  clear hT1 hC HBg
  obtain ⟨B, hB⟩ : ∃ B : Bool, B = (R && decide (1 ≤ i ∧ i ≤ 32)) := ⟨_, rfl⟩
  have HBe := Lib.hid hB
  clear hB
  go_cut [10] from 21 to 30 (fun z wx => z = .bool B ∧ Hid (Tl x t S (Gd.freshV Z) 0 2000000 Nof w0 wx [(p, .cells C 39 (0, 0))]))
  case first =>
    have hB := HBe.out
    cases R
    · go_wp2_with (first | (refine wpList_load_row rfl 25 _ rfl xb rfl 25 (inoC X) (0, 0) _ HRx1.out Tryz.underlying25 rfl (by rw [HSx.out]; exact Tryz.sizeIno) ?_) | (go_at_call 10; refine (HRM.out _).mono ?_; rintro e w2 ⟨rfl, hb2⟩; have HT2 := Lib.hid (HT1.out.below hb2); clear hb2))
      go_meet
      exact ⟨by rw [hB]; rfl, HT2⟩
    · by_cases h1 : 1 ≤ i
      · by_cases h2 : i ≤ 32
        · go_wp2_with (first | (refine wpList_load_row rfl 25 _ rfl xb rfl 25 (inoC X) (0, 0) _ HRx1.out Tryz.underlying25 rfl (by rw [HSx.out]; exact Tryz.sizeIno) ?_) | (go_at_call 10; refine (HRM.out _).mono ?_; rintro e w2 ⟨rfl, hb2⟩; have HT2 := Lib.hid (HT1.out.below hb2); clear hb2))
          go_meet
          exact ⟨by rw [hB, decide_eq_true ⟨h1, h2⟩]; simp [h2], HT2⟩
        · go_wp2_with (first | (refine wpList_load_row rfl 25 _ rfl xb rfl 25 (inoC X) (0, 0) _ HRx1.out Tryz.underlying25 rfl (by rw [HSx.out]; exact Tryz.sizeIno) ?_) | (go_at_call 10; refine (HRM.out _).mono ?_; rintro e w2 ⟨rfl, hb2⟩; have HT2 := Lib.hid (HT1.out.below hb2); clear hb2))
          go_meet
          exact ⟨by rw [hB, decide_eq_false (by omega)]; simp [h2], HT2⟩
      · go_wp2_with (first | (refine wpList_load_row rfl 25 _ rfl xb rfl 25 (inoC X) (0, 0) _ HRx1.out Tryz.underlying25 rfl (by rw [HSx.out]; exact Tryz.sizeIno) ?_) | (go_at_call 10; refine (HRM.out _).mono ?_; rintro e w2 ⟨rfl, hb2⟩; have HT2 := Lib.hid (HT1.out.below hb2); clear hb2))
        go_meet
        exact ⟨by rw [hB, decide_eq_false (by omega)]; simp, HT2⟩
  case rest =>
  obtain ⟨rfl, HT2⟩ := hcut
  obtain ⟨w2, hw2⟩ : ∃ v, v = wc := ⟨_, rfl⟩
  rw [← hw2] at HT2 ⊢
  clear hw2
  have hU := HT2.out.inoOf k
  have HU := Lib.hid hU
  have HI2 := Lib.hid (HT2.out.fino2 k)
  obtain ⟨U, hUe⟩ : ∃ U, U = inoOf (Gd.freshV Z) k := ⟨_, rfl⟩
  have HUe := Lib.hid hUe
  rw [← hUe] at HI2 HU hU
  have HSu := Lib.hid (inoC_size hU.1)
  obtain ⟨ek, hek⟩ : ∃ ek, ek = errOf k := ⟨_, rfl⟩
  have Hek := Lib.hid hek
  rw [← hek] at HI2
  have c2 := HCx.out (HT2.out.get (k := p) (o := .cells C 39 (0, 0)) (by simp))
  unfold inoV at HI2
  clear hU hUe hek HT1 HRx1 HRM
  go_upto_region 6 with (first | (go_at_call 11; refine HI2.out.mono ?_; rintro e w3 ⟨rfl, hb3⟩; have HT3 := Lib.hid (HT2.out.below hb3); clear hb3) | (rw [← zIno_lit]; refine wpList_store_mid rfl 25 _ _ rfl w3.heap.size 0 (inoC U) rfl rfl (there_at (heap_alloc_new _ _) (by rw [zIno_size, HSu.out])) (by rw [HSu.out]; exact Tryz.sizeIno) (inoC_one _) ?_; obtain ⟨hbw, hbg⟩ := new_whole2 w3 zIno 25 (inoC U).toList (by rw [zIno_size, Array.length_toList, HSu.out]); generalize (World.setCells _ _ _ _) = w4 at hbw hbg ⊢; have HT4 := Lib.hid ((HT3.out.new hbw (Nat.le_refl _) (o := oIno U) hbg).below (Below.refl _ _).drew); clear hbw hbg))
  obtain ⟨ub, hub⟩ : ∃ ub, ub = w3.heap.size := ⟨_, rfl⟩
  rw [← hub] at HT4 ⊢
  clear hub c2 HI2
  have hs4 := HCx.out (HT4.out.get (k := p) (o := .cells C 39 (0, 0)) (by simp))
  have HRx4 := Lib.hid (HRo.out HT4.out).1
  have HSi := Lib.hid (HT4.out.setino2 i X HX.out.1 HX.out.2 (by omega))
  obtain ⟨ei, hei⟩ : ∃ ei : Int, ei = if Gd.mayI X = true ∧ 1 ≤ i ∧ i ≤ 32 then 0 else 1 := ⟨_, rfl⟩
  have Hei : Hid (ei = if B = true then 0 else 1) := Lib.hid (by
    rw [hei, HBe.out, HR.out]
    by_cases h : Gd.mayI X = true ∧ 1 ≤ i ∧ i ≤ 32
    · rw [if_pos h, if_pos (by simp [h])]
    · rw [if_neg h, if_neg (by simpa using h)])
  rw [← hei] at HSi
  unfold inoV at HSi
  clear hei
  refine wp_region_held_drew (S := (fun W => W.cell? ⟨p, 2, none⟩ = some (.pointer (some ⟨x, 0, none⟩)))) (by kernel_rfl) ?_ (fun hHeld => ?_)
  · exact hs4
  refine wpAnyH_take (i := 0) (oi := _) (v := ?_) rfl (by kernel_rfl) (by kernel_rfl) (by kernel_rfl) (fun _ _ _ h => h) (Or.inl ⟨by rfl, ?_⟩) (by assumption) ?_
  rotate_left
  · intro w hSw
    (try dsimp only at hSw)
    first | (go_simp; done) | (go_simp; with_reducible rfl)
  try simp only [List.getElem_toArray, List.getElem_cons_succ, List.getElem_cons_zero, Act.put, List.setIfInBounds_toArray, List.set_cons_zero, List.set_cons_succ]
  refine wpAnyH_take (i := 1) (oi := _) (v := ?_) rfl (by kernel_rfl) (by kernel_rfl) (by kernel_rfl) (fun _ _ _ h => h) (Or.inl ⟨by rfl, ?_⟩) (by assumption) ?_
  rotate_left
  · intro w hSw
    (try dsimp only at hSw)
    first | (go_simp; done) | (go_simp; with_reducible rfl)
  try simp only [List.getElem_toArray, List.getElem_cons_succ, List.getElem_cons_zero, Act.put, List.setIfInBounds_toArray, List.set_cons_zero, List.set_cons_succ]
  refine wpAnyH_take (i := 2) (oi := _) (v := ?_) rfl (by kernel_rfl) (by kernel_rfl) (by kernel_rfl) (fun _ _ _ h => h) (Or.inl ⟨by rfl, ?_⟩) (by assumption) ?_
  rotate_left
  · intro w hSw
    (try dsimp only at hSw)
    first | (go_simp; done) | (go_simp; with_reducible rfl)
  try simp only [List.getElem_toArray, List.getElem_cons_succ, List.getElem_cons_zero, Act.put, List.setIfInBounds_toArray, List.set_cons_zero, List.set_cons_succ]
  refine wpAnyH_take (i := 3) (oi := _) (v := ?_) rfl (by kernel_rfl) (by kernel_rfl) (by kernel_rfl) (fun _ _ _ h => h) (Or.inl ⟨by rfl, ?_⟩) (by assumption) ?_
  rotate_left
  · intro w hSw
    (try dsimp only at hSw)
    first | (go_simp; done) | (go_simp; with_reducible rfl)
  try simp only [List.getElem_toArray, List.getElem_cons_succ, List.getElem_cons_zero, Act.put, List.setIfInBounds_toArray, List.set_cons_zero, List.set_cons_succ]
  refine wpAnyH_take (i := 4) (oi := _) (v := ?_) rfl (by kernel_rfl) (by kernel_rfl) (by kernel_rfl) (fun _ _ _ h => h) (Or.inl ⟨by rfl, ?_⟩) (by assumption) ?_
  rotate_left
  · intro w hSw
    (try dsimp only at hSw)
    first | (go_simp; done) | (go_simp; with_reducible rfl)
  try simp only [List.getElem_toArray, List.getElem_cons_succ, List.getElem_cons_zero, Act.put, List.setIfInBounds_toArray, List.set_cons_zero, List.set_cons_succ]
  refine wpAnyH_ready (rs := [5]) (by kernel_rfl) (by simp) ?_
  refine AllReadyH.cons (o := _) rfl (fun K hK => ?_) AllReadyH.nil
  refine wp_load_row 25 _ rfl xb rfl 25 (inoC X) (0, 0) _ HRx4.out Tryz.underlying25 rfl (by rw [HSx.out]; exact Tryz.sizeIno) ?_
  try dsimp only
  refine hK.out _ _ hs4 (fun hHeld => ?_)
  clear hK K
  try simp only [List.getElem_toArray, List.getElem_cons_succ, List.getElem_cons_zero, Act.put, List.setIfInBounds_toArray, List.set_cons_zero, List.set_cons_succ]
  refine wpAnyH_ready (rs := [6]) (by kernel_rfl) (by simp) ?_
  refine AllReadyH.cons (o := _) rfl (fun K hK => ?_) AllReadyH.nil
  go_simp
  refine HSi.out.mono ?_
  rintro e w5 ⟨rfl, hT5⟩
  have HT5 := Lib.hid hT5
  have hs5 := HCx.out (hT5.get (k := p) (o := .cells C 39 (0, 0)) (by simp))
  clear hT5
  dsimp only
  refine hK.out _ _ hs5 (fun hHeld => ?_)
  clear hK K
  try simp only [List.getElem_toArray, List.getElem_cons_succ, List.getElem_cons_zero, Act.put, List.setIfInBounds_toArray, List.set_cons_zero, List.set_cons_succ]
  refine wpAnyH_take (i := 7) (oi := _) (v := ?_) rfl (by kernel_rfl) (by kernel_rfl) (by kernel_rfl) (fun _ _ _ h => h) (Or.inl ⟨by rfl, ?_⟩) (by assumption) ?_
  rotate_left
  · intro w hSw
    (try dsimp only at hSw)
    first | (go_simp; done) | (go_simp; with_reducible rfl)
  try simp only [List.getElem_toArray, List.getElem_cons_succ, List.getElem_cons_zero, Act.put, List.setIfInBounds_toArray, List.set_cons_zero, List.set_cons_succ]
  refine wpAnyH_done (by kernel_rfl) ?_ _
  (try simp only [Exit.then])
  clear hs4 hs5 HSi HRx4
  go_upto_region 7 with fail
  go_cut [69] from 47 to 69 (fun z wx => z = .bool false ∧ wx = w5)
  case first =>
    have he := Hei.out
    have hf := Hek.out
    unfold errOf at hf
    cases B
    · rw [if_neg (by decide)] at he
      subst he
      by_cases h1 : 1 ≤ k
      · by_cases h2 : k ≤ 32
        · rw [if_pos ⟨h1, h2⟩] at hf
          subst hf
          go_wp2_with fail
          go_meet
          exact ⟨by simp [h2], rfl⟩
        · rw [if_neg (fun h => h2 h.2)] at hf
          subst hf
          go_wp2_with fail
          go_meet
          exact ⟨by simp [h2], rfl⟩
      · rw [if_neg (fun h => h1 h.1)] at hf
        subst hf
        go_wp2_with fail
        go_meet
        exact ⟨by simp, rfl⟩
    · rw [if_pos rfl] at he
      subst he
      by_cases h1 : 1 ≤ k
      · by_cases h2 : k ≤ 32
        · rw [if_pos ⟨h1, h2⟩] at hf
          subst hf
          go_wp2_with fail
          go_meet
          exact ⟨by simp [h2], rfl⟩
        · rw [if_neg (fun h => h2 h.2)] at hf
          subst hf
          go_wp2_with fail
          go_meet
          exact ⟨by simp [h2], rfl⟩
      · rw [if_neg (fun h => h1 h.1)] at hf
        subst hf
        go_wp2_with fail
        go_meet
        exact ⟨by simp, rfl⟩
  case rest =>
  obtain ⟨rfl, hwc⟩ := hcut
  subst wc
  obtain ⟨M5, hM5⟩ : ∃ M5, M5 = setOf (Gd.freshV Z) i X := ⟨_, rfl⟩
  have HM5 := Lib.hid hM5
  rw [← hM5] at HT5
  clear hM5 HT4 HT3 HT2
  have hY := HT5.out.inoOf i
  have HY := Lib.hid hY
  have HI5 := Lib.hid (HT5.out.fino2 i)
  obtain ⟨Y, hYe⟩ : ∃ Y, Y = inoOf M5 i := ⟨_, rfl⟩
  have HYe := Lib.hid hYe
  rw [← hYe] at HI5 HY hY
  have HSy := Lib.hid (inoC_size hY.1)
  obtain ⟨gi, hgi⟩ : ∃ gi, gi = errOf i := ⟨_, rfl⟩
  have Hgi := Lib.hid hgi
  rw [← hgi] at HI5
  have c2 := HCx.out (HT5.out.get (k := p) (o := .cells C 39 (0, 0)) (by simp))
  unfold inoV at HI5
  clear hY hYe hgi
  go_upto_region 10 with (first | (go_at_call 11; refine HI5.out.mono ?_; rintro e w6 ⟨rfl, hb6⟩; have HT6 := Lib.hid (HT5.out.below hb6); clear hb6) | (rw [← zIno_lit]; refine wpList_store_mid rfl 25 _ _ rfl w6.heap.size 0 (inoC Y) rfl rfl (there_at (heap_alloc_new _ _) (by rw [zIno_size, HSy.out])) (by rw [HSy.out]; exact Tryz.sizeIno) (inoC_one _) ?_; obtain ⟨hbw, hbg⟩ := new_whole2 w6 zIno 25 (inoC Y).toList (by rw [zIno_size, Array.length_toList, HSy.out]); generalize (World.setCells _ _ _ _) = w7 at hbw hbg ⊢; have HT7 := Lib.hid (HT6.out.new hbw (Nat.le_refl _) (o := oIno Y) hbg); clear hbw hbg))
  obtain ⟨yb, hyb⟩ : ∃ yb, yb = w6.heap.size := ⟨_, rfl⟩
  rw [← hyb] at HT7 ⊢
  clear hyb c2 HI5
  go_cut [88] from 79 to 88 (fun z wx => z = .bool false ∧ wx = w7)
  case first =>
    cases B
    · go_wp2_with fail
      go_meet
      exact ⟨rfl, rfl⟩
    · have hB := HBe.out
      have hir : R = true ∧ 1 ≤ i ∧ i ≤ 32 := by
        have h2 := hB.symm
        rw [Bool.and_eq_true, decide_eq_true_iff] at h2
        exact h2
      have hYX : Y = X := by rw [HYe.out, HM5.out]; exact setOf_ino.1 rfl (HR.out.symm.trans hir.1) hir.2.1 hir.2.2
      have hg0 : gi = 0 := by
        rw [Hgi.out]
        exact if_pos ⟨hir.2.1, hir.2.2⟩
      subst hg0
      have l1 := run_loadAt_ino (HT7.out.get (k := yb) (o := oIno Y) (by simp)) HSy.out
      have l2 := run_loadAt_ino (HRo.out HT7.out).1 HSx.out
      have hq : (binOp .neq 25 (.agg (inoC Y)) (.agg (inoC X))).run Tryz.prog w7 = .ok (.bool false) w7 := by
        have := ino_neq HY.out.1 HX.out.1 HY.out.2 HX.out.2 w7
        rw [decide_eq_true hYX] at this
        exact this
      clear hB hir hYX
      go_wp2_with (first | (refine wpList_load_guarded _ _ rfl (by rfl) 25 _ rfl (.pointer (some ⟨yb, 0, none⟩)) (.agg (inoC Y)) rfl l1 ?_) | (refine wpList_load_guarded _ _ rfl (by rfl) 25 _ rfl (.pointer (some ⟨xb, 0, none⟩)) (.agg (inoC X)) rfl l2 ?_) | (refine wpList_bin_guarded _ _ rfl (by rfl) .neq 25 _ _ _ rfl (.agg (inoC Y)) (.agg (inoC X)) (.bool false) rfl rfl (ino_guard _ _ _ _ _ _) hq ?_))
      go_meet
      exact ⟨rfl, rfl⟩
  case rest =>
  obtain ⟨rfl, hwc⟩ := hcut
  subst wc
  have hV := HT7.out.inoOf k
  have HV := Lib.hid hV
  have HI7 := Lib.hid (HT7.out.fino2 k)
  rw [← Hek.out] at HI7
  obtain ⟨V, hVe⟩ : ∃ V, V = inoOf M5 k := ⟨_, rfl⟩
  have HVe := Lib.hid hVe
  rw [← hVe] at HI7 HV hV
  have HSv := Lib.hid (inoC_size hV.1)
  have c2 := HCx.out (HT7.out.get (k := p) (o := .cells C 39 (0, 0)) (by simp))
  unfold inoV at HI7
  clear hV hVe HT5 HT6
  go_upto_region 13 with (first | (go_at_call 11; refine HI7.out.mono ?_; rintro e w8 ⟨rfl, hb8⟩; have HT8 := Lib.hid (HT7.out.below hb8); clear hb8) | (rw [← zIno_lit]; refine wpList_store_mid rfl 25 _ _ rfl w8.heap.size 0 (inoC V) rfl rfl (there_at (heap_alloc_new _ _) (by rw [zIno_size, HSv.out])) (by rw [HSv.out]; exact Tryz.sizeIno) (inoC_one _) ?_; obtain ⟨hbw, hbg⟩ := new_whole2 w8 zIno 25 (inoC V).toList (by rw [zIno_size, Array.length_toList, HSv.out]); generalize (World.setCells _ _ _ _) = w9 at hbw hbg ⊢; have HT9 := Lib.hid (HT8.out.new hbw (Nat.le_refl _) (o := oIno V) hbg); clear hbw hbg))
  obtain ⟨nb, hnb⟩ : ∃ nb, nb = w8.heap.size := ⟨_, rfl⟩
  rw [← hnb] at HT9 ⊢
  clear hnb c2 HI7
  go_cut [110] from 98 to 110 (fun z wx => z = .bool false ∧ wx = w9)
  case first =>
    by_cases hki : k = i
    · have e1 : (k != i) = false := by simp [hki]
      clear hki
      go_wp2_with fail
      go_meet
      exact ⟨rfl, rfl⟩
    · have e1 : (k != i) = true := by simp [hki]
      have hVU : V = U := by rw [HVe.out, HM5.out, HUe.out]; exact setOf_ino.2 hki
      have l1 := run_loadAt_ino (HT9.out.get (k := nb) (o := oIno V) (by simp)) HSv.out
      have l2 := run_loadAt_ino (HT9.out.get (k := ub) (o := oIno U) (by simp)) HSu.out
      have hq : (binOp .neq 25 (.agg (inoC V)) (.agg (inoC U))).run Tryz.prog w9 = .ok (.bool false) w9 := by
        have := ino_neq HV.out.1 HU.out.1 HV.out.2 HU.out.2 w9
        rw [decide_eq_true hVU] at this
        exact this
      clear hki hVU
      go_wp2_with (first | (refine wpList_load_guarded _ _ rfl (by rfl) 25 _ rfl (.pointer (some ⟨nb, 0, none⟩)) (.agg (inoC V)) rfl l1 ?_) | (refine wpList_load_guarded _ _ rfl (by rfl) 25 _ rfl (.pointer (some ⟨ub, 0, none⟩)) (.agg (inoC U)) rfl l2 ?_) | (refine wpList_bin_guarded _ _ rfl (by rfl) .neq 25 _ _ _ rfl (.agg (inoC V)) (.agg (inoC U)) (.bool false) rfl rfl (ino_guard _ _ _ _ _ _) hq ?_))
      go_meet
      exact ⟨rfl, rfl⟩
  case rest =>
  obtain ⟨rfl, hwc⟩ := hcut
  subst wc
  have HT10 := Lib.hid ((HT9.out.less (Ls' := [(p, .cells C 39 (0, 0))]) (fun q hq => by
    obtain rfl := List.mem_singleton.1 hq
    simp)).below (Below.refl _ _).drew)
  have HPC : Hid (∀ {W : World} {c K : Nat} {S : List UInt8} {N : Gd.Vol}, Tl x t S N c K Nof w0 W [(p, .cells C 39 (0, 0))] → W.cell? ⟨p, 2, none⟩ = some (.pointer (some ⟨x, 0, none⟩)) ∧ W.heap[mb]? = some (.cells (cellsB m) 27 (0, 0))) := Lib.hid fun h => ⟨HCx.out (h.get (by simp)), (HRo.out h).2.1⟩
  have hs10 := HPC.out HT10.out
  have HR10 := Lib.hid hs10.2
  have HSm := Lib.hid (HT10.out.setmap m Hm.out (by omega))
  have hms : Hid (∀ W : World, (binOp .eql 27 (.agg (cellsB m)) (.agg (cellsB m))).run Tryz.prog W = .ok (.bool true) W) := Lib.hid fun W => map_same m Hm.out W
  unfold mapV at HSm
  clear HT9 HT8 HT7
  go_upto_region 15 with fail
  refine wp_region_held_drew (S := (fun W => W.cell? ⟨p, 2, none⟩ = some (.pointer (some ⟨x, 0, none⟩)) ∧ W.heap[mb]? = some (.cells (cellsB m) 27 (0, 0)))) (by kernel_rfl) ?_ (fun hHeld => ?_)
  · exact hs10
  refine wpAnyH_take (i := 0) (oi := _) (v := ?_) rfl (by kernel_rfl) (by kernel_rfl) (by kernel_rfl) (fun _ _ _ h => h) (Or.inl ⟨by rfl, ?_⟩) (by assumption) ?_
  rotate_left
  · intro w hSw
    (try dsimp only at hSw)
    first | (go_simp; done) | (go_simp; with_reducible rfl)
  try simp only [List.getElem_toArray, List.getElem_cons_succ, List.getElem_cons_zero, Act.put, List.setIfInBounds_toArray, List.set_cons_zero, List.set_cons_succ]
  refine wpAnyH_take (i := 1) (oi := _) (v := ?_) rfl (by kernel_rfl) (by kernel_rfl) (by kernel_rfl) (fun _ _ _ h => h) (Or.inl ⟨by rfl, ?_⟩) (by assumption) ?_
  rotate_left
  · intro w hSw
    (try dsimp only at hSw)
    first | (go_simp; done) | (go_simp; with_reducible rfl)
  try simp only [List.getElem_toArray, List.getElem_cons_succ, List.getElem_cons_zero, Act.put, List.setIfInBounds_toArray, List.set_cons_zero, List.set_cons_succ]
  refine wpAnyH_take (i := 2) (oi := _) (v := ?_) rfl (by kernel_rfl) (by kernel_rfl) (by kernel_rfl) (fun _ _ _ h => h) (Or.inl ⟨by rfl, ?_⟩) (by assumption) ?_
  rotate_left
  · intro w hSw
    (try dsimp only at hSw)
    first | (go_simp; done) | (go_simp; with_reducible rfl)
  try simp only [List.getElem_toArray, List.getElem_cons_succ, List.getElem_cons_zero, Act.put, List.setIfInBounds_toArray, List.set_cons_zero, List.set_cons_succ]
  refine wpAnyH_take (i := 3) (oi := _) (v := ?_) rfl (by kernel_rfl) (by kernel_rfl) (by kernel_rfl) (fun _ _ _ h => h) (Or.inl ⟨by rfl, ?_⟩) (by assumption) ?_
  rotate_left
  · intro w hSw
    (try dsimp only at hSw)
    first | (go_simp; done) | (go_simp; with_reducible rfl)
  try simp only [List.getElem_toArray, List.getElem_cons_succ, List.getElem_cons_zero, Act.put, List.setIfInBounds_toArray, List.set_cons_zero, List.set_cons_succ]
  refine wpAnyH_ready (rs := [4]) (by kernel_rfl) (by simp) ?_
  refine AllReadyH.cons (o := _) rfl (fun K hK => ?_) AllReadyH.nil
  refine wp_load_row 27 _ rfl mb rfl 27 (cellsB m) (0, 0) _ HR10.out Tryz.underlying27 rfl (by rw [HS.out]; exact Tryz.sizeMap) ?_
  try dsimp only
  refine hK.out _ _ hs10 (fun hHeld => ?_)
  clear hK K
  try simp only [List.getElem_toArray, List.getElem_cons_succ, List.getElem_cons_zero, Act.put, List.setIfInBounds_toArray, List.set_cons_zero, List.set_cons_succ]
  refine wpAnyH_ready (rs := [5]) (by kernel_rfl) (by simp) ?_
  refine AllReadyH.cons (o := _) rfl (fun K hK => ?_) AllReadyH.nil
  go_simp
  refine HSm.out.mono ?_
  rintro e w11 ⟨rfl, hT11⟩
  have HT11 := Lib.hid hT11
  have hs11 := HPC.out hT11
  clear hT11
  dsimp only
  refine hK.out _ _ hs11 (fun hHeld => ?_)
  clear hK K
  try simp only [List.getElem_toArray, List.getElem_cons_succ, List.getElem_cons_zero, Act.put, List.setIfInBounds_toArray, List.set_cons_zero, List.set_cons_succ]
  refine wpAnyH_take (i := 6) (oi := _) (v := ?_) rfl (by kernel_rfl) (by kernel_rfl) (by kernel_rfl) (fun _ _ _ h => h) (Or.inl ⟨by rfl, ?_⟩) (by assumption) ?_
  rotate_left
  · intro w hSw
    (try dsimp only at hSw)
    first | (go_simp; done) | (go_simp; with_reducible rfl)
  try simp only [List.getElem_toArray, List.getElem_cons_succ, List.getElem_cons_zero, Act.put, List.setIfInBounds_toArray, List.set_cons_zero, List.set_cons_succ]
  refine wpAnyH_take (i := 7) (oi := _) (v := ?_) rfl (by kernel_rfl) (by kernel_rfl) (by kernel_rfl) (fun _ _ _ h => h) (Or.inl ⟨by rfl, ?_⟩) (by assumption) ?_
  rotate_left
  · intro w hSw
    (try dsimp only at hSw)
    first | (go_simp; done) | (go_simp; with_reducible rfl)
  try simp only [List.getElem_toArray, List.getElem_cons_succ, List.getElem_cons_zero, Act.put, List.setIfInBounds_toArray, List.set_cons_zero, List.set_cons_succ]
  refine wpAnyH_take (i := 8) (oi := _) (v := ?_) rfl (by kernel_rfl) (by kernel_rfl) (by kernel_rfl) (fun _ _ _ h => h) (Or.inl ⟨by rfl, ?_⟩) (by assumption) ?_
  rotate_left
  · intro w hSw
    (try dsimp only at hSw)
    first | (go_simp; done) | (go_simp; with_reducible rfl)
  try simp only [List.getElem_toArray, List.getElem_cons_succ, List.getElem_cons_zero, Act.put, List.setIfInBounds_toArray, List.set_cons_zero, List.set_cons_succ]
  refine wpAnyH_take (i := 9) (oi := _) (v := ?_) rfl (by kernel_rfl) (by kernel_rfl) (by kernel_rfl) (fun _ _ _ h => h) (Or.inl ⟨by rfl, ?_⟩) (by assumption) ?_
  rotate_left
  · intro w hSw
    (try dsimp only at hSw)
    first | (go_simp; done) | (go_simp; with_reducible rfl)
  try simp only [List.getElem_toArray, List.getElem_cons_succ, List.getElem_cons_zero, Act.put, List.setIfInBounds_toArray, List.set_cons_zero, List.set_cons_succ]
  refine wpAnyH_take (i := 10) (oi := _) (v := ?_) rfl (by kernel_rfl) (by kernel_rfl) (by kernel_rfl) (fun _ _ _ h => h) (Or.inl ⟨by rfl, ?_⟩) (by assumption) ?_
  rotate_left
  · intro w hSw
    (try dsimp only at hSw)
    first | (go_simp; done) | (go_simp; with_reducible rfl)
  try simp only [List.getElem_toArray, List.getElem_cons_succ, List.getElem_cons_zero, Act.put, List.setIfInBounds_toArray, List.set_cons_zero, List.set_cons_succ]
  refine wpAnyH_take (i := 11) (oi := _) (v := ?_) rfl (by kernel_rfl) (by kernel_rfl) (by kernel_rfl) (fun _ _ _ h => h) (Or.inl ⟨by rfl, ?_⟩) (by assumption) ?_
  rotate_left
  · intro w hSw
    (try dsimp only at hSw)
    first | (go_simp; done) | (go_simp; with_reducible rfl)
  try simp only [List.getElem_toArray, List.getElem_cons_succ, List.getElem_cons_zero, Act.put, List.setIfInBounds_toArray, List.set_cons_zero, List.set_cons_succ]
  refine wpAnyH_take (i := 13) (oi := _) (v := ?_) rfl (by kernel_rfl) (by kernel_rfl) (by kernel_rfl) (fun _ _ _ h => h) (Or.inl ⟨by rfl, ?_⟩) (by assumption) ?_
  rotate_left
  · intro w hSw
    refine exec_load_row 27 (.tmp 6) ?_ mb ?_ 27 (cellsB m) (0, 0) _ hSw.2 Tryz.underlying27 ?_ (by rw [HS.out]; exact Tryz.sizeMap)
    all_goals rfl
  try simp only [List.getElem_toArray, List.getElem_cons_succ, List.getElem_cons_zero, Act.put, List.setIfInBounds_toArray, List.set_cons_zero, List.set_cons_succ]
  have HMp : Hid (Calls Tryz.prog 14 #[.pointer (some ⟨x, 0, none⟩)] w11 fun e W => e = .returned (.agg (cellsB m)) ∧ Below w11.heap.size w11 W) := Lib.hid HT11.out.fmap
  refine wpAnyH_ready (rs := [12]) (by kernel_rfl) (by simp) ?_
  refine AllReadyH.cons (o := _) rfl (fun K hK => ?_) AllReadyH.nil
  go_simp
  refine HMp.out.mono ?_
  rintro e w12 ⟨rfl, hb12⟩
  have HT12 := Lib.hid (HT11.out.below hb12)
  have hs12 := HPC.out HT12.out
  clear hb12
  dsimp only
  refine hK.out _ _ hs12 (fun hHeld => ?_)
  clear hK K
  try simp only [List.getElem_toArray, List.getElem_cons_succ, List.getElem_cons_zero, Act.put, List.setIfInBounds_toArray, List.set_cons_zero, List.set_cons_succ]
  refine wpAnyH_ready (rs := [14]) (by kernel_rfl) (by simp) ?_
  refine AllReadyH.cons (o := _) rfl (fun K hK => ?_) AllReadyH.nil
  rw [if_pos (by rfl)]
  refine wp_bin .eql 27 _ _ _ rfl (.agg (cellsB m)) (.agg (cellsB m)) (.bool true) rfl rfl (map_guard _ _ _ _ _ _) (hms.out _) ?_
  try dsimp only
  refine hK.out _ _ hs12 (fun hHeld => ?_)
  clear hK K
  try simp only [List.getElem_toArray, List.getElem_cons_succ, List.getElem_cons_zero, Act.put, List.setIfInBounds_toArray, List.set_cons_zero, List.set_cons_succ]
  refine wpAnyH_take (i := 15) (oi := _) (v := ?_) rfl (by kernel_rfl) (by kernel_rfl) (by kernel_rfl) (fun _ _ _ h => h) (Or.inl ⟨by rfl, ?_⟩) (by assumption) ?_
  rotate_left
  · intro w hSw
    (try dsimp only at hSw)
    first | (go_simp; done) | (go_simp; with_reducible rfl)
  try simp only [List.getElem_toArray, List.getElem_cons_succ, List.getElem_cons_zero, Act.put, List.setIfInBounds_toArray, List.set_cons_zero, List.set_cons_succ]
  refine wpAnyH_take (i := 16) (oi := _) (v := ?_) rfl (by kernel_rfl) (by kernel_rfl) (by kernel_rfl) (fun _ _ _ h => h) (Or.inl ⟨by rfl, ?_⟩) (by assumption) ?_
  rotate_left
  · intro w hSw
    (try dsimp only at hSw)
    first | (go_simp; done) | (go_simp; with_reducible rfl)
  try simp only [List.getElem_toArray, List.getElem_cons_succ, List.getElem_cons_zero, Act.put, List.setIfInBounds_toArray, List.set_cons_zero, List.set_cons_succ]
  have HLc := Lib.hid (HLi.out w12 (HRo.out HT12.out).2.2)
  refine wpAnyH_ready (rs := [17]) (by kernel_rfl) (by simp) ?_
  refine AllReadyH.cons (o := _) rfl (fun K hK => ?_) AllReadyH.nil
  go_simp
  refine HLc.out.mono ?_
  rintro e w13 ⟨rfl, hb13⟩
  have HT13 := Lib.hid (HT12.out.below hb13)
  have hs13 := HPC.out HT13.out
  clear hb13
  dsimp only
  refine hK.out _ _ hs13 (fun hHeld => ?_)
  clear hK K
  try simp only [List.getElem_toArray, List.getElem_cons_succ, List.getElem_cons_zero, Act.put, List.setIfInBounds_toArray, List.set_cons_zero, List.set_cons_succ]
  refine wpAnyH_take (i := 18) (oi := _) (v := ?_) rfl (by kernel_rfl) (by kernel_rfl) (by kernel_rfl) (fun _ _ _ h => h) (Or.inl ⟨by rfl, ?_⟩) (by assumption) ?_
  rotate_left
  · intro w hSw
    (try dsimp only at hSw)
    first | (go_simp; done) | (go_simp; with_reducible rfl)
  try simp only [List.getElem_toArray, List.getElem_cons_succ, List.getElem_cons_zero, Act.put, List.setIfInBounds_toArray, List.set_cons_zero, List.set_cons_succ]
  refine wpAnyH_take (i := 19) (oi := _) (v := ?_) rfl (by kernel_rfl) (by kernel_rfl) (by kernel_rfl) (fun _ _ _ h => h) (Or.inl ⟨by rfl, ?_⟩) (by assumption) ?_
  rotate_left
  · intro w hSw
    (try dsimp only at hSw)
    first | (go_simp; done) | (go_simp; with_reducible rfl)
  try simp only [List.getElem_toArray, List.getElem_cons_succ, List.getElem_cons_zero, Act.put, List.setIfInBounds_toArray, List.set_cons_zero, List.set_cons_succ]
  refine wpAnyH_done (by kernel_rfl) ?_ _
  (try simp only [Exit.then])
  go_wp2
  go_ret
  exact ⟨rfl, (HRo.out HT13.out).2.2⟩

end Go.Proofs.YtginffdngphjpaaGreatDoor
