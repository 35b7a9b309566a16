/- Walks: inodes that are compared; May. -/
import Derived.Test.YtginffdngphjpaaGreatDoorV10
import Derived.DeepKeys
set_option linter.unusedVariables false
set_option linter.unusedSimpArgs false
namespace Go.Proofs.YtginffdngphjpaaGreatDoor
open Go.RowKit

attribute [local go_sem] Oper.semAt_some

theorem Tryz.cells4 : Tryz.prog.cellsOf 22 = 4 := by kernel_rfl
theorem Tryz.cells8 : Tryz.prog.cellsOf 23 = 8 := by kernel_rfl
theorem Tryz.cells1 : Tryz.prog.cellsOf 3 = 1 := by kernel_rfl
theorem Tryz.cells15 : Tryz.prog.cellsOf 25 = 15 := by kernel_rfl
theorem Tryz.inoKey : Tryz.prog.keyTypeAt 3 25 = true := by kernel_rfl
theorem int_key {n : Int} (h : I64 n) : Tryz.prog.keyLits 1 3 [.int .i64 n] = some [.int .i64 n] := by
  unfold I64 at h
  unfold Program.keyLits
  simp [Tryz.underlying3, h]
theorem int_items {L : List Int} (h : AllI L) (n : Nat) (hn : L.length = n) : (List.range n).mapM (fun i => Tryz.prog.keyLits 1 3 (((intC L).drop (i * Tryz.prog.cellsOf 3)).take (Tryz.prog.cellsOf 3))) = some ((List.range n).map fun i => [Lit.int .i64 (L.getD i 0)]) := by
  refine mapM_all _ _ _ fun i hi => ?_
  have hi' : i < L.length := by rw [hn]; simpa using hi
  rw [Tryz.cells1, Nat.mul_one]
  have hb : (intC L)[i]? = some (.int .i64 L[i]) := intC_get (List.getElem?_eq_getElem hi')
  have hl : i < (intC L).length := (List.getElem?_eq_some_iff.1 hb).1
  rw [List.drop_eq_getElem_cons hl, List.take_succ_cons, List.take_zero, (List.getElem?_eq_some_iff.1 hb).2, List.getD_eq_getElem?_getD, List.getElem?_eq_getElem hi']
  exact int_key (h _ (List.getElem_mem hi'))
theorem range_getI (L : List Int) (n : Nat) (hn : L.length = n) : ((List.range n).map fun i => [Lit.int .i64 (L.getD i 0)]).flatten = L.map (Lit.int .i64) := by
  rw [flatten_one]
  subst hn
  apply List.ext_getElem?
  intro i
  rw [List.getElem?_map, List.getElem?_map]
  by_cases hi : i < L.length
  · rw [List.getElem?_range hi, List.getElem?_eq_getElem hi]
    simp [List.getD_eq_getElem?_getD, List.getElem?_eq_getElem hi]
  · rw [List.getElem?_eq_none (by simpa using hi), List.getElem?_eq_none (by omega)]
    rfl
theorem key4 {L : List Int} (h : AllI L) (hn : L.length = 4) : Tryz.prog.keyLits 2 22 (intC L) = some (L.map (Lit.int .i64)) := by
  unfold Program.keyLits
  rw [Tryz.underlying22]
  simp only [intC_len, hn, Tryz.cells4, if_true]
  rw [int_items h 4 hn, Option.map_some, range_getI L 4 hn]
theorem key8 {L : List Int} (h : AllI L) (hn : L.length = 8) : Tryz.prog.keyLits 2 23 (intC L) = some (L.map (Lit.int .i64)) := by
  unfold Program.keyLits
  rw [Tryz.underlying23]
  simp only [intC_len, hn, Tryz.cells8, if_true]
  rw [int_items h 8 hn, Option.map_some, range_getI L 8 hn]
theorem int_key2 {n : Int} (h : I64 n) : Tryz.prog.keyLits 2 3 [.int .i64 n] = some [.int .i64 n] := by
  unfold I64 at h
  unfold Program.keyLits
  simp [Tryz.underlying3, h]
deriving instance DecidableEq for Gd.Ino
theorem ino_lits {x : Gd.Ino} (hs : x.Shape) (hI : AllI (inoL x)) : Tryz.prog.keyLits 3 25 (intC (inoL x)) = some ((inoL x).map (Lit.int .i64)) := by
  unfold Program.keyLits
  rw [Tryz.underlying25]
  have hc : intC (inoL x) = .int .i64 x.k :: .int .i64 x.l :: .int .i64 x.s :: (intC x.B ++ intC x.O) := by simp [intC, inoL]
  have e3 : ((intC (inoL x)).drop 3).take 4 = intC x.B := by
    rw [hc]
    show (intC x.B ++ intC x.O).take 4 = _
    exact List.take_left' (by rw [intC_len]; exact hs.1)
  have e7 : ((intC (inoL x)).drop 7).take 8 = intC x.O := by
    rw [hc]
    show ((intC x.B ++ intC x.O).drop 4).take 8 = _
    rw [List.drop_left' (by rw [intC_len]; exact hs.1), List.take_of_length_le (by rw [intC_len, hs.2]; omega)]
  have e0 : ((intC (inoL x)).drop 0).take 1 = [.int .i64 x.k] := by rw [hc]; rfl
  have e1 : ((intC (inoL x)).drop 1).take 1 = [.int .i64 x.l] := by rw [hc]; rfl
  have e2 : ((intC (inoL x)).drop 2).take 1 = [.int .i64 x.s] := by rw [hc]; rfl
  have k0 := int_key2 (hI x.k (by simp [inoL]))
  have k1 := int_key2 (hI x.l (by simp [inoL]))
  have k2 := int_key2 (hI x.s (by simp [inoL]))
  have k3 := key4 (L := x.B) (fun n h => hI n (by simp [inoL, h])) hs.1
  have k4 := key8 (L := x.O) (fun n h => hI n (by simp [inoL, h])) hs.2
  simp only [intC_len, inoL_len hs, Tryz.cells15, true_and]
  rw [if_pos (by kernel_rfl)]
  simp only [List.mapM_cons, List.mapM_nil, Tryz.cells1, Tryz.cells4, Tryz.cells8, e0, e1, e2, e3, e7, k0, k1, k2, k3, k4]
  simp [inoL]
theorem ino_formed {x : Gd.Ino} (hs : x.Shape) : (inoV x).formed Tryz.prog 25 = true := by
  unfold inoV Value.formed
  rw [Tryz.underlying25]
  simp [inoC_size hs, Tryz.cells15]
set_option maxRecDepth 100000 in
/-- two inodes are the same just if their numbers are -/
theorem ino_eq {x y : Gd.Ino} (hx : x.Shape) (hy : y.Shape) (hxI : AllI (inoL x)) (hyI : AllI (inoL y)) (w : World) : (Op.equal 25 (inoV x) (inoV y)).run Tryz.prog w = .ok (decide (x = y)) w := by
  obtain ⟨r, hr, hiff⟩ := run_equalIn_deep (P := Tryz.prog) 9997 3 25 Tryz.inoKey w 3 3 (inoV x) (inoV y) _ _ (ino_formed hx) (ino_formed hy) (ino_lits hx hxI) (ino_lits hy hyI)
  refine hr.trans ?_
  congr 1
  rw [Bool.eq_iff_iff, hiff, decide_eq_true_iff]
  constructor
  · intro h
    have h2 := (List.map_inj_right (fun a b e => (Lit.int.inj e).2)).1 h
    obtain ⟨k, l, s, B, O⟩ := x
    obtain ⟨k', l', s', B', O'⟩ := y
    simp only [inoL, List.cons.injEq] at h2
    obtain ⟨rfl, rfl, rfl, h3⟩ := h2
    obtain ⟨rfl, rfl⟩ := List.append_inj h3 (by rw [hx.1, hy.1])
    rfl
  · intro h
    rw [h]
theorem ino_eql {x y : Gd.Ino} (hx : x.Shape) (hy : y.Shape) (hxI : AllI (inoL x)) (hyI : AllI (inoL y)) (w : World) : (binOp .eql 25 (inoV x) (inoV y)).run Tryz.prog w = .ok (.bool (decide (x = y))) w := by
  have h := ino_eq hx hy hxI hyI w
  unfold inoV at h ⊢
  simp [binOp, h]
theorem ino_neq {x y : Gd.Ino} (hx : x.Shape) (hy : y.Shape) (hxI : AllI (inoL x)) (hyI : AllI (inoL y)) (w : World) : (binOp .neq 25 (inoV x) (inoV y)).run Tryz.prog w = .ok (.bool (!decide (x = y))) w := by
  have h := ino_eq hx hy hxI hyI w
  unfold inoV at h ⊢
  simp [binOp, h]
theorem noIno_shape : Gd.noIno.Shape := ⟨rfl, rfl⟩
theorem noIno_all : AllI (inoL Gd.noIno) := fun n h => by
  have : n = 0 := by simp [inoL, Gd.noIno] at h; exact h
  rw [this]
  rfl
/-- which may be, without a kind: none but the empty one -/
theorem mayI_none {x : Gd.Ino} (hs : x.Shape) (hk : x.k = 0) : Gd.mayI x = decide (x = Gd.noIno) := by
  rw [Bool.eq_iff_iff, decide_eq_true_iff]
  constructor
  · intro h
    exact Gd.mayI_zero hs h hk
  · intro h
    rw [h]
    rfl

theorem Tryz.noGuard : Tryz.prog.eqGuardType Tryz.prog.depth 25 = false := by kernel_rfl
theorem ino_guard (o : BinOp) (x y : Operand) (cs ds : Array Value) (w : World) : (eqGuard o 25 x y (.agg cs) (.agg ds)).run Tryz.prog w = .ok () w := by
  have hp : ∀ w : World, (Sem.program Sem.pure : Sem Program).run Tryz.prog w = .ok Tryz.prog w := fun _ => rfl
  simp only [eqGuard]
  cases o <;> simp [program, hp, Tryz.noGuard]
theorem InoAt.load {w : World} {b : Nat} {x : Gd.Ino} (h : InoAt w b x) : (Instr.loadAt 25 (.pointer (some ⟨b, 0, none⟩))).run Tryz.prog w = .ok (.agg (inoC x)) w := by
  have := run_loadAt_mid (P := Tryz.prog) w b 0 25 (intC (inoL x)) _ h.range Tryz.underlying25 rfl (by rw [intC_len, inoL_len h.shape]; exact Tryz.sizeIno)
  exact this
/-- a guarded load that is wanted -/
theorem wpList_load_guarded {P : Program} {ops : Array Oper} {rest : List Oper} {op : Oper} {a : Act} {w : World} {Q : Exit → Act → World → Prop} (i : Nat) (b : Bool) (hgd : op.guard = some (i, b)) (hw : Region.wanted op (yielded ops a.tmps) = true) (ty : TypeId) (x : Operand) (ho : op.op = .load ty x) (p v : Value) (hx : a.eval x = p)
    (hr : (Instr.loadAt ty p).run P w = .ok v w) (h : wpList P ops Q rest (a.put op.dst v) w) : wpList P ops Q (op :: rest) a w :=
  wpList_step fun K hK => by
    rw [if_pos hw]
    unfold Oper.wp execOp
    simp only [ho, hx, Sem.run_bind, Sem.run_pure, hr, Result.andThen_ok]
    exact hK _ _ h
/-- an operation on two values whose outcome is known -/
theorem wpList_bin {P : Program} {ops : Array Oper} {rest : List Oper} {op : Oper} {a : Act} {w : World} {Q : Exit → Act → World → Prop} (hgd : op.guard = none) (o : BinOp) (t ty : TypeId) (x y : Operand) (ho : op.op = .binOp o t x y ty) (u v r : Value) (hx : a.eval x = u) (hy : a.eval y = v)
    (hq : (eqGuard o t x y u v).run P w = .ok () w) (hr : (binOp o t u v).run P w = .ok r w) (h : wpList P ops Q rest (a.put op.dst r) w) : wpList P ops Q (op :: rest) a w :=
  wpList_plain hgd fun _ hK => by
    unfold Oper.wp execOp
    simp only [ho, hx, hy, Sem.run_bind, Sem.run_pure, hq, hr, Result.andThen_ok]
    exact hK _ _ h

set_option maxHeartbeats 8000000 in
set_option maxRecDepth 100000 in
theorem may_ino (x : Gd.Ino) (hx : x.Shape) (hI : AllI (inoL x)) (w : World) : Calls Tryz.prog 72 #[inoV x] w fun e w' => e = .returned (.bool (Gd.mayI x)) ∧ Below w.heap.size w w' := by
  obtain ⟨hb0, hbb⟩ := ino_box w hx
  obtain ⟨b, hbe⟩ : ∃ b, b = w.heap.size := ⟨_, rfl⟩
  obtain ⟨wb, hwb⟩ : ∃ u, u = w.alloc (.cells (inoC x) 25) := ⟨_, rfl⟩
  rw [← hwb, ← hbe] at hb0
  rw [← hwb] at hbb
  have hBI : AllI x.B := fun n h => hI n (by simp [inoL, h])
  have Hbe := Lib.hid hbe.symm
  have HBb := Lib.hid hbb
  have HWb := Lib.hid hwb
  have HI := Lib.hid hb0
  have HS := Lib.hid (inoC_size hx)
  have k0 := hb0.c0
  have k1 := hb0.c1
  have k2 := hb0.c2
  obtain ⟨k, hk⟩ : ∃ k, k = x.k := ⟨_, rfl⟩
  obtain ⟨l, hl⟩ : ∃ l, l = x.l := ⟨_, rfl⟩
  obtain ⟨s, hs⟩ : ∃ s, s = x.s := ⟨_, rfl⟩
  rw [← hk] at k0
  rw [← hl] at k1
  rw [← hs] at k2
  have HEq := Lib.hid (ino_eql hx noIno_shape hI noIno_all wb)
  have HZ : Hid (k = 0 → Gd.mayI x = decide (x = Gd.noIno)) := Lib.hid fun h => mayI_none hx (hk ▸ h)
  have HF : Hid (k = 1 → Gd.mayI x = ((((decide (0 ≤ l) && decide (l ≤ ((20 : Nat) : Int))) && (decide (0 ≤ s) && decide (s ≤ ((256 : Nat) : Int)))) && Gd.opnB 8 x.O) && Gd.blkB 1 s 0 [] x.B)) := Lib.hid fun h => by
    unfold Gd.mayI
    rw [← hk, if_neg (by omega), if_pos h, hl, hs]
    simp only [Bool.and_assoc]
    rfl
  have HD : Hid (k = 2 → Gd.mayI x = (((decide (l = 1) && (decide (0 ≤ s) && decide (s ≤ ((16 : Nat) : Int)))) && Gd.opnB 0 x.O) && Gd.blkB 2 s 0 [] x.B)) := Lib.hid fun h => by
    unfold Gd.mayI
    rw [← hk, if_neg (by omega), if_neg (by omega), if_pos h, hl, hs]
    simp only [Bool.and_assoc]
    rfl
  have HE : Hid (k ≠ 0 → k ≠ 1 → k ≠ 2 → Gd.mayI x = false) := Lib.hid fun h0 h1 h2 => by
    unfold Gd.mayI
    rw [← hk, if_neg h0, if_neg h1, if_neg h2]
  have HBl := Lib.hid (fun W => blocks_any x hx hBI W)
  have HO8 : Hid (Calls Tryz.prog 105 #[inoV x, .int .i64 8] wb fun e w' => e = .returned (.bool (Gd.opnB 8 x.O)) ∧ Below wb.heap.size wb w') := Lib.hid (opens_any x hx 8 wb)
  have HO0 : Hid (Calls Tryz.prog 105 #[inoV x, .int .i64 0] wb fun e w' => e = .returned (.bool (Gd.opnB 0 x.O)) ∧ Below wb.heap.size wb w') := Lib.hid (opens_any x hx 0 wb)
  rw [← hk, ← hs] at HBl
  obtain ⟨R, hR⟩ : ∃ R, R = Gd.mayI x := ⟨_, rfl⟩
  rw [← hR] at HZ HF HD HE ⊢
  clear hbe hbb hwb hb0 hx hI hBI hk hl hs hR
  go_enter Tryz.func72, Tryz.ntmps72
  unfold inoV at *
  go_upto_region 1 with fail
  rw [← HWb.out, Hbe.out]
  by_cases h0 : k = 0
  · subst h0
    have HX := Lib.hid (HZ.out rfl)
    have hq := HEq.out
    obtain ⟨g, hg⟩ : ∃ g, g = decide (x = Gd.noIno) := ⟨_, rfl⟩
    rw [← hg] at hq HX
    clear hg HEq HZ HF HD HE HBl HO8 HO0
    go_wp2_with (first | (refine wpList_bin rfl .eql 25 _ _ _ rfl (inoV x) (inoV Gd.noIno) (.bool g) rfl rfl (ino_guard _ _ _ _ _ _) hq ?_) | (refine wpList_load_row rfl 25 _ rfl b rfl 25 (inoC x) (0, 0) _ (by first | exact HI3.out.row | exact HI.out.row) Tryz.underlying25 rfl (by rw [HS.out]; exact Tryz.sizeIno) ?_))
    go_ret
    exact ⟨ret_bool HX.out.symm, HBb.out⟩
  have HL2 := Lib.hid HI.out.load
  by_cases h1 : k = 1
  · subst h1
    have HX := Lib.hid (HF.out rfl)
    clear HZ HF HD HE h0
    have HR := HX
    clear HX HEq
    obtain ⟨b3, hb3⟩ : ∃ g, g = Gd.opnB 8 x.O := ⟨_, rfl⟩
    obtain ⟨b4, hb4⟩ : ∃ g, g = Gd.blkB 1 s 0 [] x.B := ⟨_, rfl⟩
    have HOp := HO8
    rw [← hb3] at HOp HR
    rw [← hb4] at HBl HR
    clear hb3 hb4 HO8 HO0
    have HN1 : Hid (Calls Tryz.prog 104 #[.int .i64 l, .int .i64 20] wb fun e w' => e = .returned (.bool (decide (0 ≤ l) && decide (l ≤ ((20 : Nat) : Int)))) ∧ w' = wb) := Lib.hid (inoin_any l 20 wb)
    have HN2 : Hid (Calls Tryz.prog 104 #[.int .i64 s, .int .i64 256] wb fun e w' => e = .returned (.bool (decide (0 ≤ s) && decide (s ≤ ((256 : Nat) : Int)))) ∧ w' = wb) := Lib.hid (inoin_any s 256 wb)
    obtain ⟨b1, hb1⟩ : ∃ g, g = (decide (0 ≤ l) && decide (l ≤ ((20 : Nat) : Int))) := ⟨_, rfl⟩
    obtain ⟨b2, hb2⟩ : ∃ g, g = (decide (0 ≤ s) && decide (s ≤ ((256 : Nat) : Int))) := ⟨_, rfl⟩
    rw [← hb1] at HN1 HR
    rw [← hb2] at HN2 HR
    clear hb1 hb2
    cases b1 with
    | false =>
      go_wp2_with (first | (go_at_call 104; with_reducible refine HN1.out.mono ?_; rintro e w2 ⟨rfl, rfl⟩))
      go_ret
      exact ⟨ret_bool (by rw [HR.out]; rfl), HBb.out⟩
    | true =>
      cases b2 with
      | false =>
        go_wp2_with (first | (go_at_call 104; with_reducible refine HN1.out.mono ?_; rintro e w2 ⟨rfl, rfl⟩) | (go_at_call 104; with_reducible refine HN2.out.mono ?_; rintro e w2 ⟨rfl, rfl⟩))
        go_ret
        exact ⟨ret_bool (by rw [HR.out]; rfl), HBb.out⟩
      | true =>
        cases b3 with
        | false =>
          go_wp2_with (first | (refine wpList_load_guarded _ _ rfl (by rfl) 25 _ rfl (.pointer (some ⟨b, 0, none⟩)) (.agg (inoC x)) rfl (by first | exact HL3.out | exact HL2.out) ?_) | (go_at_call 104; with_reducible refine HN1.out.mono ?_; rintro e w2 ⟨rfl, rfl⟩) | (go_at_call 104; with_reducible refine HN2.out.mono ?_; rintro e w2 ⟨rfl, rfl⟩) | (go_at_call 105; with_reducible refine HOp.out.mono ?_; rintro e w3 ⟨rfl, hb3⟩; have HB3 := Lib.hid (HBb.out.trans (hb3.mono HBb.out.size)); have HL3 := Lib.hid (HI.out.keep hb3).load; clear hb3))
          go_ret
          exact ⟨ret_bool (by rw [HR.out]; rfl), HB3.out⟩
        | true =>
          go_wp2_with (first | (refine wpList_load_guarded _ _ rfl (by rfl) 25 _ rfl (.pointer (some ⟨b, 0, none⟩)) (.agg (inoC x)) rfl (by first | exact HL3.out | exact HL2.out) ?_) | (go_at_call 104; with_reducible refine HN1.out.mono ?_; rintro e w2 ⟨rfl, rfl⟩) | (go_at_call 104; with_reducible refine HN2.out.mono ?_; rintro e w2 ⟨rfl, rfl⟩) | (go_at_call 105; with_reducible refine HOp.out.mono ?_; rintro e w3 ⟨rfl, hb3⟩; have HB3 := Lib.hid (HBb.out.trans (hb3.mono HBb.out.size)); have HL3 := Lib.hid (HI.out.keep hb3).load; clear hb3) | (go_at_call 106; with_reducible refine (HBl.out w3).mono ?_; rintro e w4 ⟨rfl, hb4⟩; have HB4 := Lib.hid (HB3.out.trans (hb4.mono HB3.out.size)); clear hb4))
          go_ret
          exact ⟨ret_bool (by rw [HR.out]; rfl), HB4.out⟩

  by_cases h2 : k = 2
  · subst h2
    have HX := Lib.hid (HD.out rfl)
    clear HZ HF HD HE h0 h1
    have HR := HX
    clear HX HEq
    obtain ⟨b3, hb3⟩ : ∃ g, g = Gd.opnB 0 x.O := ⟨_, rfl⟩
    obtain ⟨b4, hb4⟩ : ∃ g, g = Gd.blkB 2 s 0 [] x.B := ⟨_, rfl⟩
    have HOp := HO0
    rw [← hb3] at HOp HR
    rw [← hb4] at HBl HR
    clear hb3 hb4 HO8 HO0
    have HN2 : Hid (Calls Tryz.prog 104 #[.int .i64 s, .int .i64 16] wb fun e w' => e = .returned (.bool (decide (0 ≤ s) && decide (s ≤ ((16 : Nat) : Int)))) ∧ w' = wb) := Lib.hid (inoin_any s 16 wb)
    obtain ⟨b2, hb2⟩ : ∃ g, g = (decide (0 ≤ s) && decide (s ≤ ((16 : Nat) : Int))) := ⟨_, rfl⟩
    rw [← hb2] at HN2 HR
    clear hb2
    by_cases hl1 : l = 1
    · subst hl1
      cases b2 with
      | false =>
        go_wp2_with (first | (go_at_call 104; with_reducible refine HN2.out.mono ?_; rintro e w2 ⟨rfl, rfl⟩))
        go_ret
        exact ⟨ret_bool (by rw [HR.out]; rfl), HBb.out⟩
      | true =>
        cases b3 with
        | false =>
          go_wp2_with (first | (refine wpList_load_guarded _ _ rfl (by rfl) 25 _ rfl (.pointer (some ⟨b, 0, none⟩)) (.agg (inoC x)) rfl (by first | exact HL3.out | exact HL2.out) ?_) | (go_at_call 104; with_reducible refine HN2.out.mono ?_; rintro e w2 ⟨rfl, rfl⟩) | (go_at_call 105; with_reducible refine HOp.out.mono ?_; rintro e w3 ⟨rfl, hb3⟩; have HB3 := Lib.hid (HBb.out.trans (hb3.mono HBb.out.size)); have HL3 := Lib.hid (HI.out.keep hb3).load; clear hb3))
          go_ret
          exact ⟨ret_bool (by rw [HR.out]; rfl), HB3.out⟩
        | true =>
          go_wp2_with (first | (refine wpList_load_guarded _ _ rfl (by rfl) 25 _ rfl (.pointer (some ⟨b, 0, none⟩)) (.agg (inoC x)) rfl (by first | exact HL3.out | exact HL2.out) ?_) | (go_at_call 104; with_reducible refine HN2.out.mono ?_; rintro e w2 ⟨rfl, rfl⟩) | (go_at_call 105; with_reducible refine HOp.out.mono ?_; rintro e w3 ⟨rfl, hb3⟩; have HB3 := Lib.hid (HBb.out.trans (hb3.mono HBb.out.size)); have HL3 := Lib.hid (HI.out.keep hb3).load; clear hb3) | (go_at_call 106; with_reducible refine (HBl.out w3).mono ?_; rintro e w4 ⟨rfl, hb4⟩; have HB4 := Lib.hid (HB3.out.trans (hb4.mono HB3.out.size)); clear hb4))
          go_ret
          exact ⟨ret_bool (by rw [HR.out]; rfl), HB4.out⟩
    · have HR0 : Hid (R = false) := Lib.hid (by rw [HR.out, decide_eq_false hl1]; rfl)
      clear HR
      go_wp2_with (first | fail)
      go_ret
      exact ⟨ret_bool HR0.out.symm, HBb.out⟩

  have HX := Lib.hid (HE.out h0 h1 h2)
  clear HZ HF HD HE HEq HBl HO8 HO0
  go_wp2
  go_ret
  exact ⟨ret_bool HX.out.symm, HBb.out⟩

end Go.Proofs.YtginffdngphjpaaGreatDoor

/- Walks: an inode as bytes. -/
namespace Go.Proofs.YtginffdngphjpaaGreatDoor
open Go.RowKit

attribute [local go_sem] Oper.semAt_some

set_option maxRecDepth 100000 in
theorem made_bytes (n : Nat) (hn : n ≤ 100000) (W : World) : (Instr.makeSlice 80 (.int .i64 n) (.int .i64 n)).run Tryz.prog W = .ok (.slice (some ⟨W.heap.size, 0, none⟩) n n) (W.alloc (.cells (cellsB (List.replicate n 0)) 5)) := by
  obtain ⟨i0, hi, hz0, hz1, hz2⟩ := info_parts Tryz.infoU8
  have := run_makeSlice (P := Tryz.prog) (w := W) 80 5 i0 _ Tryz.underlying80 hi hz0 .i64 .i64 n n (by omega) (by omega) (by rw [hz1, Int.toNat_natCast]; omega) (by rw [hz2]; omega) (by omega)
  rw [hz1, Int.toNat_natCast, Nat.mul_one] at this
  rw [this]
  congr 3
  unfold madeCells cellsB Lib.byteCells
  apply Array.ext
  · simp
  · intro i h1 h2
    simp only [Array.getElem_map, Array.getElem_range, List.getElem_toArray, List.getElem_map, List.getElem_replicate]
    have hc : (Value.int .u8 0).cells = #[.int .u8 0] := rfl
    rw [hc, getElem!_pos _ _ (by simp; omega)]
    simp
theorem own_made (W : World) (n : Nat) (hn : n ≤ 100000) (B : Nat) (hB : B ≤ W.heap.size) : OwnB (W.alloc (.cells (cellsB (List.replicate n 0)) 5)) B (.slice (some ⟨W.heap.size, 0, none⟩) n n) (List.replicate n 0) := by
  refine ⟨by rw [byteCells_len, Nat.mul_one], Or.inr ⟨W.heap.size, n, cellsB (List.replicate n 0), by rw [List.length_replicate], hB, heap_alloc_new _ _, by rw [List.length_replicate]; exact Nat.le_refl _, by unfold maxLen; omega, ?_, ?_⟩⟩
  · unfold cellsB
    rw [List.size_toArray, byteCells_len, List.length_replicate, Nat.mul_one]
  · rw [List.length_replicate, Nat.mul_one]
    unfold cellsB
    exact List.take_of_length_le (by rw [byteCells_len, List.length_replicate]; exact Nat.le_refl _)
theorem le_one (n : Int) : Gd.le n.toNat 1 = [Gd.byteOf n] := rfl
theorem bytes_take {L : List Int} {i : Nat} {n : Int} (h : L[i]? = some n) : (L.take (i + 1)).map Gd.byteOf = (L.take i).map Gd.byteOf ++ [Gd.byteOf n] := by
  rw [List.take_add_one, h]
  simp

/-- an inode that may not be: an error -/
def Bad1 (w : World) (e : Ending) (w' : World) : Prop := e = .returned (.tuple #[.slice none 0 0, .int .i64 1]) ∧ Below w.heap.size w w'

set_option maxHeartbeats 8000000 in
set_option maxRecDepth 100000 in
theorem puti_bad (x : Gd.Ino) (hx : x.Shape) (hI : AllI (inoL x)) (hm : Gd.mayI x = false) (w : World) : Calls Tryz.prog 39 #[inoV x] w (Bad1 w) := by
  obtain ⟨hb0, hbb⟩ := ino_box w hx
  obtain ⟨b, hbe⟩ : ∃ b, b = w.heap.size := ⟨_, rfl⟩
  obtain ⟨wb, hwb⟩ : ∃ u, u = w.alloc (.cells (inoC x) 25) := ⟨_, rfl⟩
  rw [← hwb, ← hbe] at hb0
  rw [← hwb] at hbb
  have Hbe := Lib.hid hbe.symm
  have HBb := Lib.hid hbb
  have HWb := Lib.hid hwb
  have HI := Lib.hid hb0
  have HS := Lib.hid (inoC_size hx)
  have HSh := Lib.hid hx
  have HMay := Lib.hid (may_ino x hx hI wb)
  clear hbe hbb hwb hb0 hx hI
  rw [hm] at HMay
  clear hm
  go_enter Tryz.func39, Tryz.ntmps39
  unfold inoV at *
  go_upto_region 1 with fail
  rw [← HWb.out, Hbe.out]
  go_wp2_with (first | (refine wpList_load_row rfl 25 _ rfl b rfl 25 (inoC x) (0, 0) _ HI.out.row Tryz.underlying25 rfl (by rw [HS.out]; exact Tryz.sizeIno) ?_) | (go_at_call 72; refine HMay.out.mono ?_; rintro e w1 ⟨rfl, hb1⟩))
  go_ret2
  exact ⟨rfl, HBb.out.trans (hb1.mono HBb.out.size)⟩

set_option maxHeartbeats 8000000 in
set_option maxRecDepth 100000 in
theorem puti_any (x : Gd.Ino) (hx : x.Shape) (hI : AllI (inoL x)) (hm : Gd.mayI x = true) (w : World) : Calls Tryz.prog 39 #[inoV x] w (Loads w (Gd.inoB x)) := by
  obtain ⟨hb0, hbb⟩ := ino_box w hx
  obtain ⟨b, hbe⟩ : ∃ b, b = w.heap.size := ⟨_, rfl⟩
  obtain ⟨wb, hwb⟩ : ∃ u, u = w.alloc (.cells (inoC x) 25) := ⟨_, rfl⟩
  rw [← hwb, ← hbe] at hb0
  rw [← hwb] at hbb
  have Hbe := Lib.hid hbe.symm
  have HBb := Lib.hid hbb
  have HWb := Lib.hid hwb
  have HI := Lib.hid hb0
  have HS := Lib.hid (inoC_size hx)
  have HSh := Lib.hid hx
  have HMay := Lib.hid (may_ino x hx hI wb)
  clear hbe hbb hwb hb0 hx hI
  rw [hm] at HMay
  have hin := Gd.mayI_in hm
  obtain ⟨⟨ik1, ik2⟩, ⟨il1, il2⟩, ⟨is1, is2⟩, iB, iO⟩ := hin
  obtain ⟨kn, hk⟩ : ∃ n : Nat, x.k = n := ⟨x.k.toNat, by omega⟩
  obtain ⟨ln, hl⟩ : ∃ n : Nat, x.l = n := ⟨x.l.toNat, by omega⟩
  obtain ⟨sn, hs⟩ : ∃ n : Nat, x.s = n := ⟨x.s.toNat, by omega⟩
  have Hk := Lib.hid (And.intro hk (And.intro hl hs))
  have HIn := Lib.hid (And.intro iB iO)
  have hk2 : kn ≤ 2 := by omega
  have hl20 : ln ≤ 20 := by omega
  have hs256 : sn ≤ 256 := by omega
  have HL4 : Hid ((intC x.B).length = 4) := Lib.hid (by rw [intC_len]; exact HSh.out.1)
  have HL8 : Hid ((intC x.O).length = 8) := Lib.hid (by rw [intC_len]; exact HSh.out.2)
  clear hk hl hs iB iO ik1 ik2 il1 il2 is1 is2 hm
  go_enter Tryz.func39, Tryz.ntmps39
  unfold inoV at *
  go_upto_region 1 with fail
  rw [← HWb.out, Hbe.out]
  go_upto_region 3 with (first | (refine wpList_load_row rfl 25 _ rfl b rfl 25 (inoC x) (0, 0) _ HI.out.row Tryz.underlying25 rfl (by rw [HS.out]; exact Tryz.sizeIno) ?_) | (go_at_call 72; refine HMay.out.mono ?_; rintro e w1 ⟨rfl, hb1⟩))
  have HB1 := Lib.hid (HBb.out.trans (hb1.mono HBb.out.size))
  have HI1 := Lib.hid (HI.out.keep hb1)
  clear hb1 HMay
  have c0 := HI1.out.c0
  rw [Hk.out.1] at c0
  by_cases hz : kn = 0
  · subst hz
    have hmk : (Instr.makeSlice 80 (.int .i64 64) (.int .i64 64)).run Tryz.prog w1 = .ok (.slice (some ⟨w1.heap.size, 0, none⟩) 64 64) (w1.alloc (.cells (cellsB (List.replicate 64 0)) 5)) := made_bytes 64 (by omega) w1
    have HMk := Lib.hid (own_made w1 64 (by omega) w.heap.size HB1.out.size)
    have HBm := Lib.hid ((Below.refl w1.heap.size w1).alloc (Nat.le_refl _) (.cells (cellsB (List.replicate 64 0)) 5))
    have HE : Hid (Gd.inoB x = List.replicate 64 0) := Lib.hid (by unfold Gd.inoB; rw [if_pos (by rw [Hk.out.1]; rfl)])
    obtain ⟨wm, hwm⟩ : ∃ u, u = w1.alloc (.cells (cellsB (List.replicate 64 0)) 5) := ⟨_, rfl⟩
    rw [← hwm] at hmk HMk HBm
    clear hwm
    go_wp2
    go_ret2
    refine ⟨_, rfl, ?_, HB1.out.trans (HBm.out.mono HB1.out.size)⟩
    rw [HE.out]
    exact HMk.out
  have hz1 : ¬ (kn : Int) = 0 := by omega
  have HE : Hid (Gd.inoB x = Gd.sealB (Gd.inoBody x)) := Lib.hid (by unfold Gd.inoB; rw [if_neg (by rw [Hk.out.1]; omega)])
  clear hz
  -- kind
  have HP1 := Lib.hid (putn_any (.slice none 0 0) [] kn 1 (Or.inl rfl) (by omega) (by omega) w1 (OwnB.at_ (B := 0) (World.ownsRow_nil _ _ _ _)) (by simp))
  go_wp2_with fail
  refine HP1.out.mono ?_
  rintro e w2 ⟨v2, rfl, ho2, hb2⟩
  rw [List.nil_append] at ho2
  have HO2 := Lib.hid (ho2.mono HB1.out.size)
  have HB2 := Lib.hid (HB1.out.trans (hb2.mono HB1.out.size))
  have HI2 := Lib.hid (HI1.out.keep hb2)
  clear ho2 hb2 HP1 c0
  have c1 := HI2.out.c1
  rw [Hk.out.2.1] at c1
  have HP2 := Lib.hid (putn_any v2 _ ln 1 (Or.inl rfl) (by omega) (by omega) w2 HO2.out.at_ (by rw [Gd.le_length]; omega))
  go_wp2_with fail
  refine HP2.out.mono ?_
  rintro e w3 ⟨v3, rfl, ho3, hb3⟩
  have HO3 := Lib.hid (ho3.mono HB2.out.size)
  have HB3 := Lib.hid (HB2.out.trans (hb3.mono HB2.out.size))
  have HI3 := Lib.hid (HI2.out.keep hb3)
  clear ho3 hb3 HP2 c1 HO2
  have c2 := HI3.out.c2
  rw [Hk.out.2.2] at c2
  have HP3 := Lib.hid (putn_any v3 _ sn 2 (Or.inr (Or.inl rfl)) (by omega) (by omega) w3 HO3.out.at_ (by rw [List.length_append, Gd.le_length, Gd.le_length]; omega))
  go_wp2_with fail
  refine HP3.out.mono ?_
  rintro e w4 ⟨v4, rfl, ho4, hb4⟩
  have HO4 := Lib.hid (ho4.mono HB3.out.size)
  have HB4 := Lib.hid (HB3.out.trans (hb4.mono HB3.out.size))
  have HI4 := Lib.hid (HI3.out.keep hb4)
  clear ho4 hb4 HP3 c2 HO3
  obtain ⟨L0, hL0⟩ : ∃ L0, L0 = Gd.le kn 1 ++ Gd.le ln 1 ++ Gd.le sn 2 := ⟨_, rfl⟩
  rw [← hL0] at HO4
  have HL0 : Hid (L0.length = 4) := Lib.hid (by rw [hL0]; simp [Gd.le_length])
  have HLb : Hid (Gd.inoBody x = L0 ++ x.B.map Gd.byteOf ++ x.O.map Gd.byteOf ++ List.replicate 44 0) := Lib.hid (by
    unfold Gd.inoBody
    rw [hL0, Hk.out.1, Hk.out.2.1, Hk.out.2.2]
    rfl)
  clear hL0 hk2 hl20 hs256
  -- loop over B
  go_upto_region 9 with (refine wpList_load_mid rfl 22 _ rfl b 3 rfl (intC x.B) _ HI4.out.blocks Tryz.underlying22 rfl (by rw [HL4.out]; exact Tryz.size4) ?_)
  go_loopw [4, 29] (fun u z wr => ∃ i : Nat, z = .int .i64 i ∧ i ≤ 4 ∧ Hid (OwnB wr w.heap.size u (L0 ++ (x.B.take i).map Gd.byteOf)) ∧ Hid (Below w.heap.size w wr ∧ Below w4.heap.size w4 wr)) (fun _ z _ => 4 - (intOf z).toNat)
  case atStart => exact ⟨0, rfl, by omega, Lib.hid (by have := HO4.out; rw [List.take_zero, List.map_nil, List.append_nil]; exact this), Lib.hid ⟨HB4.out, Below.refl _ _⟩⟩
  case round =>
    obtain ⟨i, rfl, hi, HO, HB⟩ := hrel
    by_cases hlt : i < 4
    · obtain ⟨n, hn⟩ : ∃ n, x.B[i]? = some n := ⟨_, List.getElem?_eq_getElem (by have := HSh.out; have := this.1; omega)⟩
      have hc := run_index_one 22 3 4 (intC x.B).toArray .i64 .i64 i _ wr Tryz.underlying22 Tryz.underlying3 Tryz.infoInts hlt (by rw [List.getElem?_toArray]; exact intC_get hn)
      have h1 : (i : Int) < 4 := by omega
      have h0 : (0 : Int) ≤ i := by omega
      have hrng := HIn.out.1 n (List.mem_of_getElem? hn)
      have HT := Lib.hid (bytes_take hn)
      obtain ⟨m, rfl⟩ : ∃ m : Nat, n = m := ⟨n.toNat, by omega⟩
      have HLn : Hid ((L0 ++ (x.B.take i).map Gd.byteOf).length ≤ 100) := Lib.hid (by
        have h1 := HL0.out
        have h2 := HSh.out.1
        have h3 := HSh.out.2
        simp only [List.length_append, List.length_map, List.length_take]
        omega)
      have HPt := Lib.hid (putn_any u4 _ m 1 (Or.inl rfl) (by omega) (by omega) wr HO.out.at_ (by have := HLn.out; omega))
      clear hn hlt hrng
      go_wp2_with fail
      refine HPt.out.mono ?_
      rintro e w5 ⟨v5, rfl, ho5, hb5⟩
      have HO5 : Hid (OwnB w5 w.heap.size v5 (L0 ++ (x.B.take (i + 1)).map Gd.byteOf)) := Lib.hid (by
        rw [HT.out, ← List.append_assoc]
        exact ho5.mono HB.out.1.size)
      have HB5 : Hid (Below w.heap.size w w5 ∧ Below w4.heap.size w4 w5) := Lib.hid ⟨HB.out.1.trans (hb5.mono HB.out.1.size), HB.out.2.trans (hb5.mono HB.out.2.size)⟩
      clear ho5 hb5 HPt
      go_wp2
      go_roundw
      case rel => exact ⟨i + 1, by go_num, by omega, HO5, HB5⟩
      case measure => simp [intOf]; omega
    · obtain rfl : i = 4 := by omega
      clear hlt
      have HOa : Hid (OwnB wr w.heap.size u4 (L0 ++ x.B.map Gd.byteOf)) := Lib.hid (by
        have := HO.out
        rw [List.take_of_length_le (by have := HSh.out.1; omega)] at this
        exact this)
      obtain ⟨w6, rfl⟩ : ∃ v, v = wr := ⟨_, rfl⟩
      have HI6 := Lib.hid (HI4.out.keep HB.out.2)
      have HB6 := Lib.hid HB.out.1
      have HO6 := HOa
      obtain ⟨v6, rfl⟩ : ∃ v, v = u4 := ⟨_, rfl⟩
      clear HO HB HOa
      -- loop over O
      go_upto_region 14 with (refine wpList_load_mid rfl 23 _ rfl b 7 rfl (intC x.O) _ HI6.out.opens Tryz.underlying23 rfl (by rw [HL8.out]; exact Tryz.size8) ?_)
      go_loopw [4, 38] (fun u z wr => ∃ i : Nat, z = .int .i64 i ∧ i ≤ 8 ∧ Hid (OwnB wr w.heap.size u ((L0 ++ x.B.map Gd.byteOf) ++ (x.O.take i).map Gd.byteOf)) ∧ Hid (Below w.heap.size w wr ∧ Below w6.heap.size w6 wr)) (fun _ z _ => 8 - (intOf z).toNat)
      case atStart => exact ⟨0, rfl, by omega, Lib.hid (by have := HO6.out; rw [List.take_zero, List.map_nil, List.append_nil]; exact this), Lib.hid ⟨HB6.out, Below.refl _ _⟩⟩
      case round =>
        obtain ⟨i, rfl, hi, HO, HB⟩ := hrel
        by_cases hlt : i < 8
        · obtain ⟨n, hn⟩ : ∃ n, x.O[i]? = some n := ⟨_, List.getElem?_eq_getElem (by have := HSh.out; have := this.2; omega)⟩
          have hc := run_index_one 23 3 8 (intC x.O).toArray .i64 .i64 i _ wr Tryz.underlying23 Tryz.underlying3 Tryz.infoInts hlt (by rw [List.getElem?_toArray]; exact intC_get hn)
          have h1 : (i : Int) < 8 := by omega
          have h0 : (0 : Int) ≤ i := by omega
          have hrng := HIn.out.2 n (List.mem_of_getElem? hn)
          have HT := Lib.hid (bytes_take hn)
          obtain ⟨m, rfl⟩ : ∃ m : Nat, n = m := ⟨n.toNat, by omega⟩
          have HLn : Hid (((L0 ++ x.B.map Gd.byteOf) ++ (x.O.take i).map Gd.byteOf).length ≤ 100) := Lib.hid (by
            have h1 := HL0.out
            have h2 := HSh.out.1
            have h3 := HSh.out.2
            simp only [List.length_append, List.length_map, List.length_take]
            omega)
          have HPt := Lib.hid (putn_any u4 _ m 1 (Or.inl rfl) (by omega) (by omega) wr HO.out.at_ (by have := HLn.out; omega))
          clear hn hlt hrng
          go_wp2_with fail
          refine HPt.out.mono ?_
          rintro e w5 ⟨v5, rfl, ho5, hb5⟩
          have HO5 : Hid (OwnB w5 w.heap.size v5 ((L0 ++ x.B.map Gd.byteOf) ++ (x.O.take (i + 1)).map Gd.byteOf)) := Lib.hid (by
            rw [HT.out, ← List.append_assoc]
            exact ho5.mono HB.out.1.size)
          have HB5 : Hid (Below w.heap.size w w5 ∧ Below w6.heap.size w6 w5) := Lib.hid ⟨HB.out.1.trans (hb5.mono HB.out.1.size), HB.out.2.trans (hb5.mono HB.out.2.size)⟩
          clear ho5 hb5 HPt
          go_wp2
          go_roundw
          case rel => exact ⟨i + 1, by go_num, by omega, HO5, HB5⟩
          case measure => simp [intOf]; omega
        · obtain rfl : i = 8 := by omega
          clear hlt
          have HOa : Hid (OwnB wr w.heap.size u4 (L0 ++ x.B.map Gd.byteOf ++ x.O.map Gd.byteOf)) := Lib.hid (by
            have := HO.out
            rw [List.take_of_length_le (by have := HSh.out.2; omega)] at this
            exact this)
          have HBa := Lib.hid HB.out.1
          clear HO HB
          obtain ⟨L1, hL1⟩ : ∃ L1, L1 = L0 ++ x.B.map Gd.byteOf ++ x.O.map Gd.byteOf := ⟨_, rfl⟩
          rw [← hL1] at HOa HLb
          have HL1 : Hid (L1.length = 16) := Lib.hid (by
            rw [hL1]
            have h1 := HL0.out
            have h2 := HSh.out.1
            have h3 := HSh.out.2
            simp only [List.length_append, List.length_map]
            omega)
          clear hL1
          obtain ⟨A4, c4, hv4, -⟩ := HOa.out.at_
          rw [HL1.out] at hv4
          subst hv4
          go_upto_region 18 with fail
          go_wp2_with (at_builtin; refine app_zeros rfl _ _ rfl w.heap.size (.slice A4 16 c4) L1 wr rfl HOa.out 44 _ rfl (by rfl) (by have := HL1.out; omega) HBa.out.size ?_; intro v7 w7 ho7 hb7)
          rw [← HLb.out] at ho7
          have HO7 := Lib.hid ho7
          have HB7 := Lib.hid (HBa.out.trans hb7)
          obtain ⟨X, hX⟩ : ∃ X, X = Gd.inoBody x := ⟨_, rfl⟩
          have HXl : Hid (X.length = 60) := Lib.hid (by rw [hX]; exact Gd.inoBody_length HSh.out)
          rw [← hX] at HO7 HE
          have HCr := Lib.hid (crc_any v7 X w7 HO7.out.at_ (by have := HXl.out; omega))
          have hcl := Gd.crc_lt X
          have HSl : Hid (Gd.sealB X = X ++ Gd.le (Gd.crc X) 4) := Lib.hid rfl
          obtain ⟨cc, hcc⟩ : ∃ cc, cc = Gd.crc X := ⟨_, rfl⟩
          rw [← hcc] at HCr HSl hcl
          have hc2 : (cc : Int) < 4294967296 := by omega
          clear hX hcc ho7 hb7 HOa HLb
          go_wp2_with fail
          refine HCr.out.mono ?_
          rintro e w8 ⟨rfl, hb8⟩
          have HB8 := Lib.hid (HB7.out.trans (hb8.mono HB7.out.size))
          have HO8 := Lib.hid (HO7.out.keep hb8)
          have HP8 := Lib.hid (putn_any v7 X cc 4 (Or.inr (Or.inr (Or.inl rfl))) (by omega) (by omega) w8 HO8.out.at_ (by have := HXl.out; omega))
          clear hb8 HCr HO7
          go_wp2_with fail
          refine HP8.out.mono ?_
          rintro e w9 ⟨v9, rfl, ho9, hb9⟩
          have HO9 := Lib.hid (ho9.mono HB8.out.size)
          have HB9 := Lib.hid (HB8.out.trans (hb9.mono HB8.out.size))
          clear ho9 hb9 HP8
          go_wp2
          go_ret2
          refine ⟨v9, rfl, ?_, HB9.out⟩
          rw [HE.out, HSl.out]
          exact HO9.out

end Go.Proofs.YtginffdngphjpaaGreatDoor

/- Walks: bytes that are compared; an inode's bytes, piece by piece. -/
namespace Go.Proofs.YtginffdngphjpaaGreatDoor
open Go.RowKit

attribute [local go_sem] Oper.semAt_some

theorem ba_eq_list (L M : List UInt8) : (((⟨L.toArray⟩ : ByteArray).toList == (⟨M.toArray⟩ : ByteArray).toList) : Bool) = decide (L = M) := by
  rw [Bool.eq_iff_iff, decide_eq_true_iff, beq_iff_eq]
  constructor
  · intro h
    have h1 := Lib.toList_data (⟨L.toArray⟩ : ByteArray)
    have h2 := Lib.toList_data (⟨M.toArray⟩ : ByteArray)
    rw [h1, h2] at h
    simpa using h
  · intro h
    rw [h]

set_option maxHeartbeats 4000000 in
set_option maxRecDepth 100000 in
theorem bequal_any (u v : Value) (L M : List UInt8) (w : World) (hu : BytesAt w u L) (hv : BytesAt w v M) : Calls Tryz.prog 69 #[u, v] w fun e w' => e = .returned (.bool (decide (L = M))) ∧ w' = w := by
  have h1 := conv_any u L w hu
  have h2 := conv_any v M w hv
  have HE := Lib.hid (ba_eq_list L M)
  obtain ⟨a, ha⟩ : ∃ a : ByteArray, a = ⟨L.toArray⟩ := ⟨_, rfl⟩
  obtain ⟨b, hb⟩ : ∃ b : ByteArray, b = ⟨M.toArray⟩ := ⟨_, rfl⟩
  rw [← ha] at h1 HE
  rw [← hb] at h2 HE
  obtain ⟨A, c, rfl, -⟩ := hu
  obtain ⟨A', c', rfl, -⟩ := hv
  clear ha hb
  go_enter Tryz.func69, Tryz.ntmps69
  go_wp2
  go_ret
  exact ⟨ret_bool HE.out, rfl⟩

namespace Gd
theorem byteOf_nat {n : Int} (h0 : 0 ≤ n) (h1 : n < 256) : ((byteOf n).toNat : Int) = n := by
  unfold byteOf
  rw [UInt8.toNat_ofNat']
  omega
/-- an inode's bytes, read piece by piece -/
structure InoBytes (x : Ino) (L : List UInt8) : Prop where
  len : L.length = 64
  k : ∃ b : UInt8, L[0]? = some b ∧ (b.toNat : Int) = x.k
  l : ∃ b : UInt8, L[1]? = some b ∧ (b.toNat : Int) = x.l
  s : getN L 2 2 = x.s.toNat
  B : ∀ j n, x.B[j]? = some n → ∃ b : UInt8, L[4 + j]? = some b ∧ (b.toNat : Int) = n
  O : ∀ j n, x.O[j]? = some n → ∃ b : UInt8, L[8 + j]? = some b ∧ (b.toNat : Int) = n
  sum : getN L 60 4 = crc (L.take 60)
  ne : L ≠ List.replicate 64 0
theorem ino_bytes {x : Ino} (hs : x.Shape) (hm : mayI x = true) (hk : x.k ≠ 0) : InoBytes x (inoB x) := by
  have hin := mayI_in hm
  have hbl := inoBody_length hs
  have hB := hs.1
  have hO := hs.2
  have e : inoB x = inoBody x ++ le (crc (inoBody x)) 4 := by
    unfold inoB
    rw [if_neg hk]
    rfl
  have e2 : inoBody x = byteOf x.k :: byteOf x.l :: (le x.s.toNat 2 ++ (x.B.map byteOf ++ (x.O.map byteOf ++ List.replicate 44 0))) := by
    unfold inoBody
    rw [le_one, le_one]
    simp only [List.append_assoc, List.cons_append, List.nil_append]
  have ek : ((byteOf x.k).toNat : Int) = x.k := byteOf_nat hin.k.1 (by have := hin.k.2; omega)
  have el : ((byteOf x.l).toNat : Int) = x.l := byteOf_nat hin.l.1 (by have := hin.l.2; omega)
  have h0 : (inoB x)[0]? = some (byteOf x.k) := by rw [e, e2]; rfl
  refine ⟨inoB_length hs, ⟨_, h0, ek⟩, ⟨_, by rw [e, e2]; rfl, el⟩, ?_, ?_, ?_, ?_, ?_⟩
  · have h : inoB x = [byteOf x.k, byteOf x.l] ++ (le x.s.toNat 2 ++ ((x.B.map byteOf ++ (x.O.map byteOf ++ List.replicate 44 0)) ++ le (crc (inoBody x)) 4)) := by
      rw [e, e2]
      simp only [List.append_assoc, List.cons_append, List.nil_append]
    rw [h]
    exact getN_mid [byteOf x.k, byteOf x.l] _ x.s.toNat 2 (by have := hin.s; omega)
  · intro j n hj
    have hjl := (List.getElem?_eq_some_iff.1 hj).1
    have hn := hin.B n (List.mem_of_getElem? hj)
    refine ⟨byteOf n, ?_, byteOf_nat hn.1 (by omega)⟩
    rw [e, e2, show 4 + j = (2 + j) + 1 + 1 by omega, List.getElem?_append_left (by simp [le_length]; omega), List.getElem?_cons_succ, List.getElem?_cons_succ, List.getElem?_append_right (by rw [le_length]; omega), le_length, show 2 + j - 2 = j by omega, List.getElem?_append_left (by rw [List.length_map]; exact hjl), List.getElem?_map, hj]
    rfl
  · intro j n hj
    have hjl := (List.getElem?_eq_some_iff.1 hj).1
    have hn := hin.O n (List.mem_of_getElem? hj)
    refine ⟨byteOf n, ?_, byteOf_nat hn.1 (by omega)⟩
    rw [e, e2, show 8 + j = (6 + j) + 1 + 1 by omega, List.getElem?_append_left (by simp [le_length]; omega), List.getElem?_cons_succ, List.getElem?_cons_succ, List.getElem?_append_right (by rw [le_length]; omega), le_length, show 6 + j - 2 = 4 + j by omega, List.getElem?_append_right (by rw [List.length_map]; omega), List.length_map, hB, show 4 + j - 4 = j by omega, List.getElem?_append_left (by rw [List.length_map]; exact hjl), List.getElem?_map, hj]
    rfl
  · have ht : (inoB x).take 60 = inoBody x := by rw [e, List.take_left' hbl]
    rw [ht, e]
    have := getN_mid (inoBody x) [] (crc (inoBody x)) 4 (by have := crc_lt (inoBody x); omega)
    rw [List.append_nil, hbl] at this
    exact this
  · intro h
    rw [h, List.getElem?_replicate] at h0
    simp at h0
    rw [← h0] at ek
    exact hk ek.symm
end Gd
theorem ino_all {x : Gd.Ino} (hm : Gd.mayI x = true) : AllI (inoL x) := by
  have h := Gd.mayI_in hm
  intro n hn
  have hI : -9223372036854775808 ≤ n ∧ n ≤ 9223372036854775807 := by
    simp only [inoL, List.mem_cons, List.mem_append] at hn
    have hk := h.k
    have hl := h.l
    have hs := h.s
    rcases hn with rfl | rfl | rfl | hn | hn
    · omega
    · omega
    · omega
    · have := h.B n hn; omega
    · have := h.O n hn; omega
  unfold I64
  simp [Lit.wf, show IntKind.i64.min = -9223372036854775808 from rfl, show IntKind.i64.max = 9223372036854775807 from rfl]
  omega

end Go.Proofs.YtginffdngphjpaaGreatDoor
