/- Walks: commonslaw14: MetaBlocks. -/
import Derived.Test.YtginffdngphjpaaGreatDoorV28
import Derived.Deep.RegionHeld3
import Derived.Deep.Slices
import Derived.Deep.Fields
import Derived.ChangeSame
import Derived.OpenShut
set_option linter.unusedVariables false
set_option linter.unusedSimpArgs false
namespace Go.Proofs.YtginffdngphjpaaGreatDoor
open Go.RowKit Go.Shelf

attribute [local go_sem] Oper.semAt_some

theorem exec_load_row {P : Program} {o : Oper} {ev : Operand → Value} {w : World} (ty : TypeId) (x : Operand) (ho : o.op = .load ty x)
    (g : Nat) (hx : ev x = .pointer (some ⟨g, 0, none⟩)) (t : TypeId) (cs : Array Value) (fr : Nat × Nat) (d : TypeDesc) (hg : w.heap[g]? = some (.cells cs t fr))
    (hu : P.underlying ty = some d) (hd : (match d with | .struct _ | .array _ _ => true | _ => false) = true) (hi : (P.info? ty).map (·.size) = some cs.size) : (execOp ev o).run P w = .ok (.value (.agg cs)) w := by
  unfold execOp
  simp only [ho, hx, Instr.loadAt, Instr.sureAddr, Sem.run_bind, Sem.run_pure, Result.andThen_ok, run_loadVar_row w g t ty cs fr d hg hu hd hi]
theorem wp_bin {P : Program} {o : Oper} {a : Act} {w : World} {K : Act → World → Prop} {Q : Exit → Act → World → Prop} (b : BinOp) (t ty : TypeId) (x y : Operand) (ho : o.op = .binOp b t x y ty) (u v r : Value) (hx : a.eval x = u) (hy : a.eval y = v)
    (hq : (eqGuard b t x y u v).run P w = .ok () w) (hr : (binOp b t u v).run P w = .ok r w) (h : K (a.put o.dst r) w) : o.wp P a w K Q := by
  unfold Oper.wp execOp
  simp only [ho, hx, hy, Sem.run_bind, Sem.run_pure, hq, hr, Result.andThen_ok]
  exact h
theorem Tryz.noGuardM : Tryz.prog.eqGuardType Tryz.prog.depth 27 = false := by kernel_rfl
theorem map_guard (o : BinOp) (x y : Operand) (cs ds : Array Value) (w : World) : (eqGuard o 27 x y (.agg cs) (.agg ds)).run Tryz.prog w = .ok () w := by
  have hp : ∀ w : World, (Sem.program Sem.pure : Sem Program).run Tryz.prog w = .ok Tryz.prog w := fun _ => rfl
  simp only [eqGuard]
  cases o <;> simp [program, hp, Tryz.noGuardM]
theorem map_same (m : List UInt8) (hm : m.length = 16) (w : World) : (binOp .eql 27 (mapV m) (mapV m)).run Tryz.prog w = .ok (.bool true) w := by
  have := arr_eql (t := 27) m m rfl (by rw [hm]; exact Tryz.underlying27) w
  rw [decide_eq_true rfl] at this
  exact this
section
variable {x t c K : Nat} {S : List UInt8} {M : Gd.Vol} {F : Nat → Prop} {w a : World} {Ls : List (Nat × Obj)}
theorem Tl.setmap (h : Tl x t S M c K F w a Ls) (m : List UInt8) (hm : m.length = 16) (hc : c < 64) : Calls Tryz.prog 13 #[.pointer (some ⟨x, 0, none⟩), mapV m] a fun e b => e = .returned (.int .i64 0) ∧ Tl x t S (M.setMap m) (c + 1) K F w b Ls := by
  obtain ⟨F1, h1, h2⟩ := h
  refine (setmap_any m hm a h1.inv hc).mono ?_
  rintro e b ⟨he, ht⟩
  exact ⟨he, Tl.next h1 h2 ht⟩
theorem Tl.block_ok (h : Tl x t S M c K F w a Ls) (sp : Int) (hsp : max 0 sp < 128 - (Gd.countB M.map : Int)) (hc : c + 2 < 64) : Calls Tryz.prog 16 #[.pointer (some ⟨x, 0, none⟩), .int .i64 sp] a fun e b => e = .returned (.tuple #[.int .i64 (Gd.firstB M.map), .int .i64 0]) ∧ Tl x t S M.take (c + 2) K F w b Ls := by
  obtain ⟨F1, h1, h2⟩ := h
  refine (Go.Proofs.YtginffdngphjpaaGreatDoor.block_ok sp a h1.inv hsp hc).mono ?_
  rintro e b ⟨he, ht⟩
  exact ⟨he, Tl.next h1 h2 ht⟩
theorem Tl.block_none (h : Tl x t S M c K F w a Ls) (sp : Int) (hsp : 128 - (Gd.countB M.map : Int) ≤ max 0 sp) : Calls Tryz.prog 16 #[.pointer (some ⟨x, 0, none⟩), .int .i64 sp] a fun e b => e = .returned (.tuple #[.int .i64 0, .int .i64 18]) ∧ Below a.heap.size a b := by
  obtain ⟨F1, h1, h2⟩ := h
  exact Go.Proofs.YtginffdngphjpaaGreatDoor.block_none sp a h1.inv hsp
end

set_option maxHeartbeats 8000000 in
set_option maxRecDepth 100000 in
theorem law_mblocks (m : List UInt8) (hm : m.length = 16) (sp : Int) (w : World) (hsp : sp ≤ 9223372036854775807) (hM : Mx w) :
    Calls Tryz.prog 4 #[mapV m, .int .i64 sp] w fun e w' => e = .returned (.bool true) ∧ Below w.heap.size w w' := by
  obtain ⟨hb0, hr0⟩ := below_new w (cellsB m) 27
  obtain ⟨mb, hmb⟩ : ∃ mb, mb = w.heap.size := ⟨_, rfl⟩
  obtain ⟨w0, hw0⟩ : ∃ u, u = w.alloc (.cells (cellsB m) 27) := ⟨_, rfl⟩
  rw [← hw0, ← hmb] at hr0
  rw [← hw0] at hb0
  have HR0 := Lib.hid hr0
  have HB0 := Lib.hid hb0
  have HS := Lib.hid (cellsB_len hm)
  have Hm := Lib.hid hm
  have HW0 := Lib.hid hw0.symm
  have Hmb := Lib.hid hmb.symm
  have HMx := Lib.hid hM
  have HBg := Lib.hid (begin14_any w0)
  have HSp := Lib.hid hsp
  have HLi : Hid (∀ W, Below w.heap.size w W → Calls Tryz.prog 15 #[] W fun e w' => e = .returned (.bool true) ∧ Below W.heap.size W w') := Lib.hid fun W hW => by
    obtain ⟨mx, hmx⟩ := HMx.out
    exact lives14_any W ⟨mx, (hW.cell (p := ⟨0, 0, none⟩) (mx_lt hmx)).trans hmx⟩
  clear hm hb0 hr0 hmb hw0 hM hsp
  unfold mapV at *
  go_enter Tryz.func4, Tryz.ntmps4
  go_upto_region 1 with fail
  rw [HW0.out, Hmb.out]
  go_upto_region 2 with (go_at_call 9; refine HBg.out.mono ?_; rintro e w1 ⟨p, x, t, S, Z, rfl, C, hC, hT1⟩)
  have HT1 := Lib.hid (hT1.below (Below.refl _ _).drew)
  have HCx : Hid (∀ {W : World}, W.heap[p]? = some (.cells C 39 (0, 0)) → W.cell? ⟨p, 2, none⟩ = some (.pointer (some ⟨x, 0, none⟩))) := Lib.hid fun h => (cell_of_row _ p 2 _ _ _ h).trans hC
  have HRo : Hid (∀ {a : World} {c K : Nat} {S : List UInt8} {N : Gd.Vol} {Ls : List (Nat × Obj)}, Tl x t S N c K Nof w0 a Ls → a.heap[mb]? = some (.cells (cellsB m) 27 (0, 0)) ∧ Below w.heap.size w a) := Lib.hid fun h => ⟨(h.belowW.block mb (lt_get HR0.out)).trans HR0.out, HB0.out.trans (h.belowW.mono HB0.out.size)⟩
  have hs0 := HCx.out (HT1.out.get (k := p) (o := .cells C 39 (0, 0)) (by simp))
  have HR1 := Lib.hid (HRo.out HT1.out).1
  have HSm := Lib.hid (HT1.out.setmap m Hm.out (by omega))
  unfold mapV at HSm
  clear hT1 hC
  refine wp_region_held_drew (S := (fun W => W.cell? ⟨p, 2, none⟩ = some (.pointer (some ⟨x, 0, none⟩)))) (by kernel_rfl) ?_ (fun hHeld => ?_)
  · exact hs0
  refine wpAnyH_take (i := 0) (oi := _) (v := ?_) rfl (by kernel_rfl) (by kernel_rfl) (by kernel_rfl) (fun _ _ _ h => h) (Or.inl ⟨by rfl, ?_⟩) (by assumption) ?_
  rotate_left
  · intro w hSw
    (try dsimp only at hSw)
    first | (go_simp; done) | (go_simp; with_reducible rfl)
  try simp only [List.getElem_toArray, List.getElem_cons_succ, List.getElem_cons_zero, Act.put, List.setIfInBounds_toArray, List.set_cons_zero, List.set_cons_succ]
  refine wpAnyH_take (i := 1) (oi := _) (v := ?_) rfl (by kernel_rfl) (by kernel_rfl) (by kernel_rfl) (fun _ _ _ h => h) (Or.inl ⟨by rfl, ?_⟩) (by assumption) ?_
  rotate_left
  · intro w hSw
    (try dsimp only at hSw)
    first | (go_simp; done) | (go_simp; with_reducible rfl)
  try simp only [List.getElem_toArray, List.getElem_cons_succ, List.getElem_cons_zero, Act.put, List.setIfInBounds_toArray, List.set_cons_zero, List.set_cons_succ]
  refine wpAnyH_take (i := 2) (oi := _) (v := ?_) rfl (by kernel_rfl) (by kernel_rfl) (by kernel_rfl) (fun _ _ _ h => h) (Or.inl ⟨by rfl, ?_⟩) (by assumption) ?_
  rotate_left
  · intro w hSw
    (try dsimp only at hSw)
    first | (go_simp; done) | (go_simp; with_reducible rfl)
  try simp only [List.getElem_toArray, List.getElem_cons_succ, List.getElem_cons_zero, Act.put, List.setIfInBounds_toArray, List.set_cons_zero, List.set_cons_succ]
  refine wpAnyH_take (i := 3) (oi := _) (v := ?_) rfl (by kernel_rfl) (by kernel_rfl) (by kernel_rfl) (fun _ _ _ h => h) (Or.inl ⟨by rfl, ?_⟩) (by assumption) ?_
  rotate_left
  · intro w hSw
    (try dsimp only at hSw)
    first | (go_simp; done) | (go_simp; with_reducible rfl)
  try simp only [List.getElem_toArray, List.getElem_cons_succ, List.getElem_cons_zero, Act.put, List.setIfInBounds_toArray, List.set_cons_zero, List.set_cons_succ]
  refine wpAnyH_take (i := 4) (oi := _) (v := ?_) rfl (by kernel_rfl) (by kernel_rfl) (by kernel_rfl) (fun _ _ _ h => h) (Or.inl ⟨by rfl, ?_⟩) (by assumption) ?_
  rotate_left
  · intro w hSw
    (try dsimp only at hSw)
    first | (go_simp; done) | (go_simp; with_reducible rfl)
  try simp only [List.getElem_toArray, List.getElem_cons_succ, List.getElem_cons_zero, Act.put, List.setIfInBounds_toArray, List.set_cons_zero, List.set_cons_succ]
  refine wpAnyH_take (i := 5) (oi := _) (v := ?_) rfl (by kernel_rfl) (by kernel_rfl) (by kernel_rfl) (fun _ _ _ h => h) (Or.inl ⟨by rfl, ?_⟩) (by assumption) ?_
  rotate_left
  · intro w hSw
    (try dsimp only at hSw)
    first | (go_simp; done) | (go_simp; with_reducible rfl)
  try simp only [List.getElem_toArray, List.getElem_cons_succ, List.getElem_cons_zero, Act.put, List.setIfInBounds_toArray, List.set_cons_zero, List.set_cons_succ]
  refine wpAnyH_take (i := 6) (oi := _) (v := ?_) rfl (by kernel_rfl) (by kernel_rfl) (by kernel_rfl) (fun _ _ _ h => h) (Or.inl ⟨by rfl, ?_⟩) (by assumption) ?_
  rotate_left
  · intro w hSw
    (try dsimp only at hSw)
    first | (go_simp; done) | (go_simp; with_reducible rfl)
  try simp only [List.getElem_toArray, List.getElem_cons_succ, List.getElem_cons_zero, Act.put, List.setIfInBounds_toArray, List.set_cons_zero, List.set_cons_succ]
  refine wpAnyH_ready (rs := [7]) (by kernel_rfl) (by simp) ?_
  refine AllReadyH.cons (o := _) rfl (fun K hK => ?_) AllReadyH.nil
  rw [if_pos (by rfl)]
  refine wp_load_row 27 _ rfl mb rfl 27 (cellsB m) (0, 0) _ HR1.out Tryz.underlying27 rfl (by rw [HS.out]; exact Tryz.sizeMap) ?_
  try dsimp only
  refine hK.out _ _ hs0 (fun hHeld => ?_)
  clear hK K
  try simp only [List.getElem_toArray, List.getElem_cons_succ, List.getElem_cons_zero, Act.put, List.setIfInBounds_toArray, List.set_cons_zero, List.set_cons_succ]
  refine wpAnyH_ready (rs := [8]) (by kernel_rfl) (by simp) ?_
  refine AllReadyH.cons (o := _) rfl (fun K hK => ?_) AllReadyH.nil
  go_simp
  refine HSm.out.mono ?_
  rintro e w2 ⟨rfl, hT2⟩
  have HT2 := Lib.hid hT2
  have hs2 := HCx.out (hT2.get (k := p) (o := .cells C 39 (0, 0)) (by simp))
  clear hT2
  dsimp only
  refine hK.out _ _ hs2 (fun hHeld => ?_)
  clear hK K
  try simp only [List.getElem_toArray, List.getElem_cons_succ, List.getElem_cons_zero, Act.put, List.setIfInBounds_toArray, List.set_cons_zero, List.set_cons_succ]
  refine wpAnyH_take (i := 9) (oi := _) (v := ?_) rfl (by kernel_rfl) (by kernel_rfl) (by kernel_rfl) (fun _ _ _ h => h) (Or.inl ⟨by rfl, ?_⟩) (by assumption) ?_
  rotate_left
  · intro w hSw
    (try dsimp only at hSw)
    first | (go_simp; done) | (go_simp; with_reducible rfl)
  try simp only [List.getElem_toArray, List.getElem_cons_succ, List.getElem_cons_zero, Act.put, List.setIfInBounds_toArray, List.set_cons_zero, List.set_cons_succ]
  refine wpAnyH_take (i := 10) (oi := _) (v := ?_) rfl (by kernel_rfl) (by kernel_rfl) (by kernel_rfl) (fun _ _ _ h => h) (Or.inl ⟨by rfl, ?_⟩) (by assumption) ?_
  rotate_left
  · intro w hSw
    (try dsimp only at hSw)
    first | (go_simp; done) | (go_simp; with_reducible rfl)
  try simp only [List.getElem_toArray, List.getElem_cons_succ, List.getElem_cons_zero, Act.put, List.setIfInBounds_toArray, List.set_cons_zero, List.set_cons_succ]
  refine wpAnyH_done (by kernel_rfl) ?_ _
  (try simp only [Exit.then])
  clear hs0 HSm HR1 HBg
  obtain ⟨_, p2⟩ : True ∧ w2.cell? ⟨p, 2, none⟩ = some (.pointer (some ⟨x, 0, none⟩)) := ⟨trivial, hs2⟩
  clear hs2
  have HCo := Lib.hid fun W => count_any m Hm.out W
  have hcl : Gd.countB m ≤ 128 := Gd.count_le Hm.out
  obtain ⟨cn, hcn⟩ : ∃ cn, cn = Gd.countB m := ⟨_, rfl⟩
  rw [← hcn] at HCo hcl
  have hcw : IntKind.i64.wrap (128 - (cn : Int)) = 128 - (cn : Int) := by rw [IntKind.wrap_i64]; omega
  unfold mapV at HCo
  by_cases hfull : 128 - (cn : Int) ≤ max 0 sp
  · have HBl := Lib.hid (HT2.out.block_none sp (by show 128 - (Gd.countB m : Int) ≤ _; rw [← hcn]; exact hfull))
    clear hcn
    go_wp2_with fail
    refine HBl.out.mono ?_
    rintro e w3 ⟨rfl, hb3⟩
    have HT3 := Lib.hid (HT2.out.below hb3)
    have HR3 := Lib.hid (HRo.out HT3.out).1
    clear hb3 HBl p2
    go_upto_if 30 with fail
    go_cut [1] from 29 to 30 (fun z wx => z = .int .i64 (max 0 sp) ∧ wx = w3)
    case first =>
      by_cases h1 : sp < 0
      · go_wp2_with fail
        go_meet
        exact ⟨by rw [show max 0 sp = 0 by omega], rfl⟩
      · go_wp2_with fail
        go_meet
        exact ⟨by rw [show max 0 sp = sp by omega], rfl⟩
    case rest =>
    obtain ⟨rfl, hwc⟩ := hcut
    subst wc
    obtain ⟨q, hq⟩ : ∃ q, q = max 0 sp := ⟨_, rfl⟩
    rw [← hq] at hfull ⊢
    clear hq
    go_upto_region 8 with (first | (refine wpList_load_row rfl 27 _ rfl mb rfl 27 (cellsB m) (0, 0) _ HR3.out Tryz.underlying27 rfl (by rw [HS.out]; exact Tryz.sizeMap) ?_) | (go_at_call 17; refine (HCo.out _).mono ?_; rintro e w4 ⟨rfl, hb4⟩; have HT4 := Lib.hid ((HT3.out.below hb4).below (Below.refl _ _).drew); clear hb4))
    have HPC : Hid (∀ {W : World} {c K : Nat} {S : List UInt8} {N : Gd.Vol}, Tl x t S N c K Nof w0 W [(p, .cells C 39 (0, 0))] → W.cell? ⟨p, 2, none⟩ = some (.pointer (some ⟨x, 0, none⟩)) ∧ W.heap[mb]? = some (.cells (cellsB m) 27 (0, 0))) := Lib.hid fun h => ⟨HCx.out (h.get (by simp)), (HRo.out h).1⟩
    have hs4 := HPC.out HT4.out
    have HMp := Lib.hid HT4.out.fmap
    have hms : Hid (∀ W : World, (binOp .eql 27 (.agg (cellsB m)) (.agg (cellsB m))).run Tryz.prog W = .ok (.bool true) W) := Lib.hid fun W => map_same m Hm.out W
    unfold mapV at HMp
    clear HT1 HT2 HT3 HR3 HCo
    refine wp_region_held_drew (S := (fun W => W.cell? ⟨p, 2, none⟩ = some (.pointer (some ⟨x, 0, none⟩)) ∧ W.heap[mb]? = some (.cells (cellsB m) 27 (0, 0)))) (by kernel_rfl) ?_ (fun hHeld => ?_)
    · exact hs4
    refine wpAnyH_take (i := 0) (oi := _) (v := ?_) rfl (by kernel_rfl) (by kernel_rfl) (by kernel_rfl) (fun _ _ _ h => h) (Or.inl ⟨by rfl, ?_⟩) (by assumption) ?_
    rotate_left
    · intro w hSw
      (try dsimp only at hSw)
      first | (go_simp; done) | (go_simp; with_reducible rfl)
    try simp only [List.getElem_toArray, List.getElem_cons_succ, List.getElem_cons_zero, Act.put, List.setIfInBounds_toArray, List.set_cons_zero, List.set_cons_succ]
    refine wpAnyH_take (i := 1) (oi := _) (v := ?_) rfl (by kernel_rfl) (by kernel_rfl) (by kernel_rfl) (fun _ _ _ h => h) (Or.inl ⟨by rfl, ?_⟩) (by assumption) ?_
    rotate_left
    · intro w hSw
      (try dsimp only at hSw)
      first | (go_simp; done) | (go_simp; with_reducible rfl)
    try simp only [List.getElem_toArray, List.getElem_cons_succ, List.getElem_cons_zero, Act.put, List.setIfInBounds_toArray, List.set_cons_zero, List.set_cons_succ]
    refine wpAnyH_take (i := 2) (oi := _) (v := ?_) rfl (by kernel_rfl) (by kernel_rfl) (by kernel_rfl) (fun _ _ _ h => h) (Or.inl ⟨by rfl, ?_⟩) (by assumption) ?_
    rotate_left
    · intro w hSw
      (try dsimp only at hSw)
      first | (go_simp; done) | (go_simp; with_reducible rfl)
    try simp only [List.getElem_toArray, List.getElem_cons_succ, List.getElem_cons_zero, Act.put, List.setIfInBounds_toArray, List.set_cons_zero, List.set_cons_succ]
    refine wpAnyH_take (i := 3) (oi := _) (v := ?_) rfl (by kernel_rfl) (by kernel_rfl) (by kernel_rfl) (fun _ _ _ h => h) (Or.inl ⟨by rfl, ?_⟩) (by assumption) ?_
    rotate_left
    · intro w hSw
      (try dsimp only at hSw)
      first | (go_simp; done) | (go_simp; with_reducible rfl)
    try simp only [List.getElem_toArray, List.getElem_cons_succ, List.getElem_cons_zero, Act.put, List.setIfInBounds_toArray, List.set_cons_zero, List.set_cons_succ]
    refine wpAnyH_take (i := 4) (oi := _) (v := ?_) rfl (by kernel_rfl) (by kernel_rfl) (by kernel_rfl) (fun _ _ _ h => h) (Or.inl ⟨by rfl, ?_⟩) (by assumption) ?_
    rotate_left
    · intro w hSw
      (try dsimp only at hSw)
      first | (go_simp; done) | (go_simp; with_reducible rfl)
    try simp only [List.getElem_toArray, List.getElem_cons_succ, List.getElem_cons_zero, Act.put, List.setIfInBounds_toArray, List.set_cons_zero, List.set_cons_succ]
    refine wpAnyH_take (i := 5) (oi := _) (v := ?_) rfl (by kernel_rfl) (by kernel_rfl) (by kernel_rfl) (fun _ _ _ h => h) (Or.inl ⟨by rfl, ?_⟩) (by assumption) ?_
    rotate_left
    · intro w hSw
      (try dsimp only at hSw)
      first | (go_simp; done) | (go_simp; with_reducible rfl)
    try simp only [List.getElem_toArray, List.getElem_cons_succ, List.getElem_cons_zero, Act.put, List.setIfInBounds_toArray, List.set_cons_zero, List.set_cons_succ]
    refine wpAnyH_take (i := 6) (oi := _) (v := ?_) rfl (by kernel_rfl) (by kernel_rfl) (by kernel_rfl) (fun _ _ _ h => h) (Or.inl ⟨by rfl, ?_⟩) (by assumption) ?_
    rotate_left
    · intro w hSw
      (try dsimp only at hSw)
      first | (go_simp; done) | (go_simp; with_reducible rfl)
    try simp only [List.getElem_toArray, List.getElem_cons_succ, List.getElem_cons_zero, Act.put, List.setIfInBounds_toArray, List.set_cons_zero, List.set_cons_succ]
    refine wpAnyH_take (i := 7) (oi := _) (v := ?_) rfl (by kernel_rfl) (by kernel_rfl) (by kernel_rfl) (fun _ _ _ h => h) (Or.inl ⟨by rfl, ?_⟩) (by assumption) ?_
    rotate_left
    · intro w hSw
      (try dsimp only at hSw)
      first | (go_simp; done) | (go_simp; with_reducible rfl)
    try simp only [List.getElem_toArray, List.getElem_cons_succ, List.getElem_cons_zero, Act.put, List.setIfInBounds_toArray, List.set_cons_zero, List.set_cons_succ]
    refine wpAnyH_take (i := 8) (oi := _) (v := ?_) rfl (by kernel_rfl) (by kernel_rfl) (by kernel_rfl) (fun _ _ _ h => h) (Or.inl ⟨by rfl, ?_⟩) (by assumption) ?_
    rotate_left
    · intro w hSw
      (try dsimp only at hSw)
      first | (go_simp; done) | (go_simp; with_reducible rfl)
    try simp only [List.getElem_toArray, List.getElem_cons_succ, List.getElem_cons_zero, Act.put, List.setIfInBounds_toArray, List.set_cons_zero, List.set_cons_succ]
    refine wpAnyH_take (i := 9) (oi := _) (v := ?_) rfl (by kernel_rfl) (by kernel_rfl) (by kernel_rfl) (fun _ _ _ h => h) (Or.inl ⟨by rfl, ?_⟩) (by assumption) ?_
    rotate_left
    · intro w hSw
      (try dsimp only at hSw)
      first | (go_simp; done) | (go_simp; with_reducible rfl)
    try simp only [List.getElem_toArray, List.getElem_cons_succ, List.getElem_cons_zero, Act.put, List.setIfInBounds_toArray, List.set_cons_zero, List.set_cons_succ]
    refine wpAnyH_take (i := 10) (oi := _) (v := ?_) rfl (by kernel_rfl) (by kernel_rfl) (by kernel_rfl) (fun _ _ _ h => h) (Or.inl ⟨by rfl, ?_⟩) (by assumption) ?_
    rotate_left
    · intro w hSw
      (try dsimp only at hSw)
      first | (go_simp; done) | (go_simp; with_reducible rfl)
    try simp only [List.getElem_toArray, List.getElem_cons_succ, List.getElem_cons_zero, Act.put, List.setIfInBounds_toArray, List.set_cons_zero, List.set_cons_succ]
    refine wpAnyH_take (i := 12) (oi := _) (v := ?_) rfl (by kernel_rfl) (by kernel_rfl) (by kernel_rfl) (fun _ _ _ h => h) (Or.inl ⟨by rfl, ?_⟩) (by assumption) ?_
    rotate_left
    · intro w hSw
      refine exec_load_row 27 (.tmp 2) ?_ mb ?_ 27 (cellsB m) (0, 0) _ hSw.2 Tryz.underlying27 ?_ (by rw [HS.out]; exact Tryz.sizeMap)
      all_goals rfl
    try simp only [List.getElem_toArray, List.getElem_cons_succ, List.getElem_cons_zero, Act.put, List.setIfInBounds_toArray, List.set_cons_zero, List.set_cons_succ]
    refine wpAnyH_ready (rs := [11]) (by kernel_rfl) (by simp) ?_
    refine AllReadyH.cons (o := _) rfl (fun K hK => ?_) AllReadyH.nil
    go_simp
    refine HMp.out.mono ?_
    rintro e w5 ⟨rfl, hb5⟩
    have HT5 := Lib.hid (HT4.out.below hb5)
    have hs5 := HPC.out HT5.out
    clear hb5
    dsimp only
    refine hK.out _ _ hs5 (fun hHeld => ?_)
    clear hK K
    try simp only [List.getElem_toArray, List.getElem_cons_succ, List.getElem_cons_zero, Act.put, List.setIfInBounds_toArray, List.set_cons_zero, List.set_cons_succ]
    refine wpAnyH_ready (rs := [13]) (by kernel_rfl) (by simp) ?_
    refine AllReadyH.cons (o := _) rfl (fun K hK => ?_) AllReadyH.nil
    rw [if_pos (by rfl)]
    refine wp_bin .eql 27 _ _ _ rfl (.agg (cellsB m)) (.agg (cellsB m)) (.bool true) rfl rfl (map_guard _ _ _ _ _ _) (hms.out _) ?_
    try dsimp only
    refine hK.out _ _ hs5 (fun hHeld => ?_)
    clear hK K
    try simp only [List.getElem_toArray, List.getElem_cons_succ, List.getElem_cons_zero, Act.put, List.setIfInBounds_toArray, List.set_cons_zero, List.set_cons_succ]
    refine wpAnyH_take (i := 14) (oi := _) (v := ?_) rfl (by kernel_rfl) (by kernel_rfl) (by kernel_rfl) (fun _ _ _ h => h) (Or.inl ⟨by rfl, ?_⟩) (by assumption) ?_
    rotate_left
    · intro w hSw
      (try dsimp only at hSw)
      first | (go_simp; done) | (go_simp; with_reducible rfl)
    try simp only [List.getElem_toArray, List.getElem_cons_succ, List.getElem_cons_zero, Act.put, List.setIfInBounds_toArray, List.set_cons_zero, List.set_cons_succ]
    refine wpAnyH_take (i := 15) (oi := _) (v := ?_) rfl (by kernel_rfl) (by kernel_rfl) (by kernel_rfl) (fun _ _ _ h => h) (Or.inl ⟨by rfl, ?_⟩) (by assumption) ?_
    rotate_left
    · intro w hSw
      (try dsimp only at hSw)
      first | (go_simp; done) | (go_simp; with_reducible rfl)
    try simp only [List.getElem_toArray, List.getElem_cons_succ, List.getElem_cons_zero, Act.put, List.setIfInBounds_toArray, List.set_cons_zero, List.set_cons_succ]
    have HLc := Lib.hid (HLi.out w5 (HRo.out HT5.out).2)
    refine wpAnyH_ready (rs := [16]) (by kernel_rfl) (by simp) ?_
    refine AllReadyH.cons (o := _) rfl (fun K hK => ?_) AllReadyH.nil
    go_simp
    refine HLc.out.mono ?_
    rintro e w6 ⟨rfl, hb6⟩
    have HT6 := Lib.hid (HT5.out.below hb6)
    have hs6 := HPC.out HT6.out
    clear hb6
    dsimp only
    refine hK.out _ _ hs6 (fun hHeld => ?_)
    clear hK K
    try simp only [List.getElem_toArray, List.getElem_cons_succ, List.getElem_cons_zero, Act.put, List.setIfInBounds_toArray, List.set_cons_zero, List.set_cons_succ]
    refine wpAnyH_take (i := 17) (oi := _) (v := ?_) rfl (by kernel_rfl) (by kernel_rfl) (by kernel_rfl) (fun _ _ _ h => h) (Or.inl ⟨by rfl, ?_⟩) (by assumption) ?_
    rotate_left
    · intro w hSw
      (try dsimp only at hSw)
      first | (go_simp; done) | (go_simp; with_reducible rfl)
    try simp only [List.getElem_toArray, List.getElem_cons_succ, List.getElem_cons_zero, Act.put, List.setIfInBounds_toArray, List.set_cons_zero, List.set_cons_succ]
    refine wpAnyH_take (i := 18) (oi := _) (v := ?_) rfl (by kernel_rfl) (by kernel_rfl) (by kernel_rfl) (fun _ _ _ h => h) (Or.inl ⟨by rfl, ?_⟩) (by assumption) ?_
    rotate_left
    · intro w hSw
      (try dsimp only at hSw)
      first | (go_simp; done) | (go_simp; with_reducible rfl)
    try simp only [List.getElem_toArray, List.getElem_cons_succ, List.getElem_cons_zero, Act.put, List.setIfInBounds_toArray, List.set_cons_zero, List.set_cons_succ]
    refine wpAnyH_done (by kernel_rfl) ?_ _
    (try simp only [Exit.then])
    go_wp2
    go_ret
    exact ⟨rfl, (HRo.out HT6.out).2⟩
  · have HBl := Lib.hid (HT2.out.block_ok sp (by show max 0 sp < 128 - (Gd.countB m : Int); rw [← hcn]; omega) (by omega))
    obtain ⟨f, hf⟩ : ∃ f, f = Gd.firstB m := ⟨_, rfl⟩
    have hfs := Gd.first_some Hm.out (by rw [← hcn]; omega)
    rw [← hf] at hfs
    have HFi := Lib.hid fun W => first_any m Hm.out W
    have HTk := Lib.hid fun W => take_any m Hm.out (f : Int) W
    have htk : Gd.takeI m (f : Int) = Gd.takeB m f := by
      unfold Gd.takeI Gd.isBlk
      rw [Int.toNat_natCast, decide_eq_true (by omega), decide_eq_true (by omega)]
      rfl
    rw [htk] at HTk
    rw [← hf] at HFi
    have HBl2 : Hid (Calls Tryz.prog 16 #[.pointer (some ⟨x, 0, none⟩), .int .i64 sp] w2 fun e b => e = .returned (.tuple #[.int .i64 f, .int .i64 0]) ∧ Tl x t S ((Gd.freshV Z).setMap m).take 3 2000000 Nof w0 b [(p, .cells C 39 (0, 0))]) := Lib.hid (by rw [hf]; exact HBl.out)
    have HMt : Hid (((Gd.freshV Z).setMap m).take.map = Gd.takeB m f) := Lib.hid (by rw [hf]; rfl)
    obtain ⟨m2, hm2⟩ : ∃ m2, m2 = Gd.takeB m f := ⟨_, rfl⟩
    rw [← hm2] at HTk HMt
    have hms : Hid (∀ W : World, (binOp .eql 27 (.agg (cellsB m2)) (.agg (cellsB m2))).run Tryz.prog W = .ok (.bool true) W) := Lib.hid fun W => map_same m2 (by rw [hm2, Gd.take_length]; exact Hm.out) W
    obtain ⟨M3, hM3⟩ : ∃ M3, M3 = ((Gd.freshV Z).setMap m).take := ⟨_, rfl⟩
    rw [← hM3] at HBl2 HMt
    unfold mapV at HFi HTk
    clear hcn HBl hf hfs htk hm2 hM3
    go_wp2_with fail
    refine HBl2.out.mono ?_
    rintro e w3 ⟨rfl, hT3⟩
    have HT3 := Lib.hid hT3
    have HR3 := Lib.hid (HRo.out hT3).1
    clear hT3 HBl2 p2
    go_upto_if 30 with fail
    go_cut [1] from 29 to 30 (fun z wx => z = .int .i64 (max 0 sp) ∧ wx = w3)
    case first =>
      by_cases h1 : sp < 0
      · go_wp2_with fail
        go_meet
        exact ⟨by rw [show max 0 sp = 0 by omega], rfl⟩
      · go_wp2_with fail
        go_meet
        exact ⟨by rw [show max 0 sp = sp by omega], rfl⟩
    case rest =>
    obtain ⟨rfl, hwc⟩ := hcut
    subst wc
    obtain ⟨q, hq⟩ : ∃ q, q = max 0 sp := ⟨_, rfl⟩
    rw [← hq] at hfull ⊢
    clear hq
    go_upto_region 9 with (first | (refine wpList_load_row rfl 27 _ rfl mb rfl 27 (cellsB m) (0, 0) _ HR3.out Tryz.underlying27 rfl (by rw [HS.out]; exact Tryz.sizeMap) ?_) | (go_at_call 17; refine (HCo.out _).mono ?_; rintro e w4 ⟨rfl, hb4⟩; have HT4 := Lib.hid ((HT3.out.below hb4).below (Below.refl _ _).drew); clear hb4))
    have HPC : Hid (∀ {W : World} {c K : Nat} {S : List UInt8} {N : Gd.Vol}, Tl x t S N c K Nof w0 W [(p, .cells C 39 (0, 0))] → W.cell? ⟨p, 2, none⟩ = some (.pointer (some ⟨x, 0, none⟩)) ∧ W.heap[mb]? = some (.cells (cellsB m) 27 (0, 0))) := Lib.hid fun h => ⟨HCx.out (h.get (by simp)), (HRo.out h).1⟩
    have hs4 := HPC.out HT4.out
    clear HT1 HT2 HT3 HR3 HCo
    refine wp_region_held_drew (S := (fun W => W.cell? ⟨p, 2, none⟩ = some (.pointer (some ⟨x, 0, none⟩)) ∧ W.heap[mb]? = some (.cells (cellsB m) 27 (0, 0)))) (by kernel_rfl) ?_ (fun hHeld => ?_)
    · exact hs4
    refine wpAnyH_take (i := 0) (oi := _) (v := ?_) rfl (by kernel_rfl) (by kernel_rfl) (by kernel_rfl) (fun _ _ _ h => h) (Or.inl ⟨by rfl, ?_⟩) (by assumption) ?_
    rotate_left
    · intro w hSw
      (try dsimp only at hSw)
      first | (go_simp; done) | (go_simp; with_reducible rfl)
    try simp only [List.getElem_toArray, List.getElem_cons_succ, List.getElem_cons_zero, Act.put, List.setIfInBounds_toArray, List.set_cons_zero, List.set_cons_succ]
    refine wpAnyH_take (i := 1) (oi := _) (v := ?_) rfl (by kernel_rfl) (by kernel_rfl) (by kernel_rfl) (fun _ _ _ h => h) (Or.inl ⟨by rfl, ?_⟩) (by assumption) ?_
    rotate_left
    · intro w hSw
      refine exec_load_row 27 (.tmp 2) ?_ mb ?_ 27 (cellsB m) (0, 0) _ hSw.2 Tryz.underlying27 ?_ (by rw [HS.out]; exact Tryz.sizeMap)
      all_goals rfl
    try simp only [List.getElem_toArray, List.getElem_cons_succ, List.getElem_cons_zero, Act.put, List.setIfInBounds_toArray, List.set_cons_zero, List.set_cons_succ]
    refine wpAnyH_ready (rs := [2]) (by kernel_rfl) (by simp) ?_
    refine AllReadyH.cons (o := _) rfl (fun K hK => ?_) AllReadyH.nil
    go_simp
    refine (HFi.out _).mono ?_
    rintro e w5 ⟨rfl, hb5⟩
    have HT5 := Lib.hid (HT4.out.below hb5)
    have hs5 := HPC.out HT5.out
    clear hb5
    dsimp only
    refine hK.out _ _ hs5 (fun hHeld => ?_)
    clear hK K
    try simp only [List.getElem_toArray, List.getElem_cons_succ, List.getElem_cons_zero, Act.put, List.setIfInBounds_toArray, List.set_cons_zero, List.set_cons_succ]
    refine wpAnyH_take (i := 3) (oi := _) (v := ?_) rfl (by kernel_rfl) (by kernel_rfl) (by kernel_rfl) (fun _ _ _ h => h) (Or.inl ⟨by rfl, ?_⟩) (by assumption) ?_
    rotate_left
    · intro w hSw
      (try dsimp only at hSw)
      first | (go_simp; done) | (go_simp; with_reducible rfl)
    try simp only [List.getElem_toArray, List.getElem_cons_succ, List.getElem_cons_zero, Act.put, List.setIfInBounds_toArray, List.set_cons_zero, List.set_cons_succ]
    refine wpAnyH_take (i := 4) (oi := _) (v := ?_) rfl (by kernel_rfl) (by kernel_rfl) (by kernel_rfl) (fun _ _ _ h => h) (Or.inl ⟨by rfl, ?_⟩) (by assumption) ?_
    rotate_left
    · intro w hSw
      (try dsimp only at hSw)
      first | (go_simp; done) | (go_simp; with_reducible rfl)
    try simp only [List.getElem_toArray, List.getElem_cons_succ, List.getElem_cons_zero, Act.put, List.setIfInBounds_toArray, List.set_cons_zero, List.set_cons_succ]
    refine wpAnyH_take (i := 5) (oi := _) (v := ?_) rfl (by kernel_rfl) (by kernel_rfl) (by kernel_rfl) (fun _ _ _ h => h) (Or.inl ⟨by rfl, ?_⟩) (by assumption) ?_
    rotate_left
    · intro w hSw
      (try dsimp only at hSw)
      first | (go_simp; done) | (go_simp; with_reducible rfl)
    try simp only [List.getElem_toArray, List.getElem_cons_succ, List.getElem_cons_zero, Act.put, List.setIfInBounds_toArray, List.set_cons_zero, List.set_cons_succ]
    refine wpAnyH_take (i := 6) (oi := _) (v := ?_) rfl (by kernel_rfl) (by kernel_rfl) (by kernel_rfl) (fun _ _ _ h => h) (Or.inl ⟨by rfl, ?_⟩) (by assumption) ?_
    rotate_left
    · intro w hSw
      (try dsimp only at hSw)
      first | (go_simp; done) | (go_simp; with_reducible rfl)
    try simp only [List.getElem_toArray, List.getElem_cons_succ, List.getElem_cons_zero, Act.put, List.setIfInBounds_toArray, List.set_cons_zero, List.set_cons_succ]
    refine wpAnyH_take (i := 7) (oi := _) (v := ?_) rfl (by kernel_rfl) (by kernel_rfl) (by kernel_rfl) (fun _ _ _ h => h) (Or.inl ⟨by rfl, ?_⟩) (by assumption) ?_
    rotate_left
    · intro w hSw
      (try dsimp only at hSw)
      first | (go_simp; done) | (go_simp; with_reducible rfl)
    try simp only [List.getElem_toArray, List.getElem_cons_succ, List.getElem_cons_zero, Act.put, List.setIfInBounds_toArray, List.set_cons_zero, List.set_cons_succ]
    refine wpAnyH_take (i := 8) (oi := _) (v := ?_) rfl (by kernel_rfl) (by kernel_rfl) (by kernel_rfl) (fun _ _ _ h => h) (Or.inl ⟨by rfl, ?_⟩) (by assumption) ?_
    rotate_left
    · intro w hSw
      (try dsimp only at hSw)
      first | (go_simp; done) | (go_simp; with_reducible rfl)
    try simp only [List.getElem_toArray, List.getElem_cons_succ, List.getElem_cons_zero, Act.put, List.setIfInBounds_toArray, List.set_cons_zero, List.set_cons_succ]
    refine wpAnyH_take (i := 9) (oi := _) (v := ?_) rfl (by kernel_rfl) (by kernel_rfl) (by kernel_rfl) (fun _ _ _ h => h) (Or.inl ⟨by rfl, ?_⟩) (by assumption) ?_
    rotate_left
    · intro w hSw
      (try dsimp only at hSw)
      first | (go_simp; done) | (go_simp; with_reducible rfl)
    try simp only [List.getElem_toArray, List.getElem_cons_succ, List.getElem_cons_zero, Act.put, List.setIfInBounds_toArray, List.set_cons_zero, List.set_cons_succ]
    refine wpAnyH_take (i := 10) (oi := _) (v := ?_) rfl (by kernel_rfl) (by kernel_rfl) (by kernel_rfl) (fun _ _ _ h => h) (Or.inl ⟨by rfl, ?_⟩) (by assumption) ?_
    rotate_left
    · intro w hSw
      (try dsimp only at hSw)
      first | (go_simp; done) | (go_simp; with_reducible rfl)
    try simp only [List.getElem_toArray, List.getElem_cons_succ, List.getElem_cons_zero, Act.put, List.setIfInBounds_toArray, List.set_cons_zero, List.set_cons_succ]
    refine wpAnyH_take (i := 11) (oi := _) (v := ?_) rfl (by kernel_rfl) (by kernel_rfl) (by kernel_rfl) (fun _ _ _ h => h) (Or.inl ⟨by rfl, ?_⟩) (by assumption) ?_
    rotate_left
    · intro w hSw
      (try dsimp only at hSw)
      first | (go_simp; done) | (go_simp; with_reducible rfl)
    try simp only [List.getElem_toArray, List.getElem_cons_succ, List.getElem_cons_zero, Act.put, List.setIfInBounds_toArray, List.set_cons_zero, List.set_cons_succ]
    refine wpAnyH_take (i := 12) (oi := _) (v := ?_) rfl (by kernel_rfl) (by kernel_rfl) (by kernel_rfl) (fun _ _ _ h => h) (Or.inl ⟨by rfl, ?_⟩) (by assumption) ?_
    rotate_left
    · intro w hSw
      (try dsimp only at hSw)
      first | (go_simp; done) | (go_simp; with_reducible rfl)
    try simp only [List.getElem_toArray, List.getElem_cons_succ, List.getElem_cons_zero, Act.put, List.setIfInBounds_toArray, List.set_cons_zero, List.set_cons_succ]
    refine wpAnyH_take (i := 14) (oi := _) (v := ?_) rfl (by kernel_rfl) (by kernel_rfl) (by kernel_rfl) (fun _ _ _ h => h) (Or.inl ⟨by rfl, ?_⟩) (by assumption) ?_
    rotate_left
    · intro w hSw
      refine exec_load_row 27 (.tmp 2) ?_ mb ?_ 27 (cellsB m) (0, 0) _ hSw.2 Tryz.underlying27 ?_ (by rw [HS.out]; exact Tryz.sizeMap)
      all_goals rfl
    try simp only [List.getElem_toArray, List.getElem_cons_succ, List.getElem_cons_zero, Act.put, List.setIfInBounds_toArray, List.set_cons_zero, List.set_cons_succ]
    refine wpAnyH_take (i := 15) (oi := _) (v := ?_) rfl (by kernel_rfl) (by kernel_rfl) (by kernel_rfl) (fun _ _ _ h => h) (Or.inl ⟨by rfl, ?_⟩) (by assumption) ?_
    rotate_left
    · intro w hSw
      (try dsimp only at hSw)
      first | (go_simp; done) | (go_simp; with_reducible rfl)
    try simp only [List.getElem_toArray, List.getElem_cons_succ, List.getElem_cons_zero, Act.put, List.setIfInBounds_toArray, List.set_cons_zero, List.set_cons_succ]
    have HMp := Lib.hid HT5.out.fmap
    rw [HMt.out] at HMp
    unfold mapV at HMp
    refine wpAnyH_ready (rs := [13]) (by kernel_rfl) (by simp) ?_
    refine AllReadyH.cons (o := _) rfl (fun K hK => ?_) AllReadyH.nil
    go_simp
    refine HMp.out.mono ?_
    rintro e w6 ⟨rfl, hb6⟩
    have HT6 := Lib.hid (HT5.out.below hb6)
    have hs6 := HPC.out HT6.out
    clear hb6
    dsimp only
    refine hK.out _ _ hs6 (fun hHeld => ?_)
    clear hK K
    try simp only [List.getElem_toArray, List.getElem_cons_succ, List.getElem_cons_zero, Act.put, List.setIfInBounds_toArray, List.set_cons_zero, List.set_cons_succ]
    refine wpAnyH_ready (rs := [16]) (by kernel_rfl) (by simp) ?_
    refine AllReadyH.cons (o := _) rfl (fun K hK => ?_) AllReadyH.nil
    go_simp
    refine (HTk.out _).mono ?_
    rintro e w7 ⟨rfl, hb7⟩
    have HT7 := Lib.hid (HT6.out.below hb7)
    have hs7 := HPC.out HT7.out
    clear hb7
    dsimp only
    refine hK.out _ _ hs7 (fun hHeld => ?_)
    clear hK K
    try simp only [List.getElem_toArray, List.getElem_cons_succ, List.getElem_cons_zero, Act.put, List.setIfInBounds_toArray, List.set_cons_zero, List.set_cons_succ]
    refine wpAnyH_ready (rs := [17]) (by kernel_rfl) (by simp) ?_
    refine AllReadyH.cons (o := _) rfl (fun K hK => ?_) AllReadyH.nil
    rw [if_pos (by rfl)]
    refine wp_bin .eql 27 _ _ _ rfl (.agg (cellsB m2)) (.agg (cellsB m2)) (.bool true) rfl rfl (map_guard _ _ _ _ _ _) (hms.out _) ?_
    try dsimp only
    refine hK.out _ _ hs7 (fun hHeld => ?_)
    clear hK K
    try simp only [List.getElem_toArray, List.getElem_cons_succ, List.getElem_cons_zero, Act.put, List.setIfInBounds_toArray, List.set_cons_zero, List.set_cons_succ]
    refine wpAnyH_take (i := 18) (oi := _) (v := ?_) rfl (by kernel_rfl) (by kernel_rfl) (by kernel_rfl) (fun _ _ _ h => h) (Or.inl ⟨by rfl, ?_⟩) (by assumption) ?_
    rotate_left
    · intro w hSw
      (try dsimp only at hSw)
      first | (go_simp; done) | (go_simp; with_reducible rfl)
    try simp only [List.getElem_toArray, List.getElem_cons_succ, List.getElem_cons_zero, Act.put, List.setIfInBounds_toArray, List.set_cons_zero, List.set_cons_succ]
    refine wpAnyH_take (i := 19) (oi := _) (v := ?_) rfl (by kernel_rfl) (by kernel_rfl) (by kernel_rfl) (fun _ _ _ h => h) (Or.inl ⟨by rfl, ?_⟩) (by assumption) ?_
    rotate_left
    · intro w hSw
      (try dsimp only at hSw)
      first | (go_simp; done) | (go_simp; with_reducible rfl)
    try simp only [List.getElem_toArray, List.getElem_cons_succ, List.getElem_cons_zero, Act.put, List.setIfInBounds_toArray, List.set_cons_zero, List.set_cons_succ]
    have HLc := Lib.hid (HLi.out w7 (HRo.out HT7.out).2)
    refine wpAnyH_ready (rs := [20]) (by kernel_rfl) (by simp) ?_
    refine AllReadyH.cons (o := _) rfl (fun K hK => ?_) AllReadyH.nil
    go_simp
    refine HLc.out.mono ?_
    rintro e w8 ⟨rfl, hb8⟩
    have HT8 := Lib.hid (HT7.out.below hb8)
    have hs8 := HPC.out HT8.out
    clear hb8
    dsimp only
    refine hK.out _ _ hs8 (fun hHeld => ?_)
    clear hK K
    try simp only [List.getElem_toArray, List.getElem_cons_succ, List.getElem_cons_zero, Act.put, List.setIfInBounds_toArray, List.set_cons_zero, List.set_cons_succ]
    refine wpAnyH_take (i := 21) (oi := _) (v := ?_) rfl (by kernel_rfl) (by kernel_rfl) (by kernel_rfl) (fun _ _ _ h => h) (Or.inl ⟨by rfl, ?_⟩) (by assumption) ?_
    rotate_left
    · intro w hSw
      (try dsimp only at hSw)
      first | (go_simp; done) | (go_simp; with_reducible rfl)
    try simp only [List.getElem_toArray, List.getElem_cons_succ, List.getElem_cons_zero, Act.put, List.setIfInBounds_toArray, List.set_cons_zero, List.set_cons_succ]
    refine wpAnyH_take (i := 22) (oi := _) (v := ?_) rfl (by kernel_rfl) (by kernel_rfl) (by kernel_rfl) (fun _ _ _ h => h) (Or.inl ⟨by rfl, ?_⟩) (by assumption) ?_
    rotate_left
    · intro w hSw
      (try dsimp only at hSw)
      first | (go_simp; done) | (go_simp; with_reducible rfl)
    try simp only [List.getElem_toArray, List.getElem_cons_succ, List.getElem_cons_zero, Act.put, List.setIfInBounds_toArray, List.set_cons_zero, List.set_cons_succ]
    refine wpAnyH_done (by kernel_rfl) ?_ _
    (try simp only [Exit.then])
    go_wp2
    go_ret
    exact ⟨rfl, (HRo.out HT8.out).2⟩

end Go.Proofs.YtginffdngphjpaaGreatDoor

/- Arguments of the statements of chapter 14: an inode, a map. -/
namespace Go.Proofs.YtginffdngphjpaaGreatDoor
open Go.ChangeShapes Go.WideShapes Go.RowKit

section
variable {H : Type} {enc : TypeId × Value → H} {W : World} {base : Nat} {spare : Nat → Bool} {held : Bool} {fuel : Nat} {x : DataW H × List MemPlace}
theorem open_u8s {n : Nat} {t : TypeId} {cs : List Value} (ht : Tryz.prog.underlying t = some (.array n 5)) (hl : cs.length = n) (h : DataW.trod enc Tryz.prog W base spare held fuel t cs = some x) :
    ∃ m : List UInt8, m.length = n ∧ cs = Lib.byteCells m := by
  obtain ⟨xs, k, _, _, _, hxl, hg⟩ := DataW.trod_array ht h
  have pick : ∀ i, i < n → ∃ b : UInt8, cs[i]? = some (.int .u8 b.toNat) := fun i hi => by
    have h1 := hg i hi
    rw [u8_cells, Nat.mul_one, List.getElem?_eq_getElem (by rw [hxl]; exact hi)] at h1
    obtain ⟨z, hc, _, hw⟩ := DataW.trod_int Tryz.underlying5 h1
    have hi2 : i < cs.length := by rw [hl]; exact hi
    rw [List.drop_eq_getElem_cons hi2, List.take_succ_cons, List.take_zero] at hc
    have hc2 : cs[i] = .int .u8 z := (List.cons.inj hc).1
    have hz : 0 ≤ z ∧ z ≤ 255 := by
      simp [Lit.wf, show IntKind.u8.min = 0 from rfl, show IntKind.u8.max = 255 from rfl] at hw
      omega
    refine ⟨UInt8.ofNat z.toNat, ?_⟩
    rw [List.getElem?_eq_getElem hi2, hc2]
    have : ((UInt8.ofNat z.toNat).toNat : Int) = z := by
      rw [UInt8.toNat_ofNat_of_lt' (by show z.toNat < 256; omega)]
      omega
    rw [this]
  obtain ⟨f, hf⟩ := Go.Deep.choose_lt (α := UInt8) pick
  refine ⟨(List.range n).map f, by simp, ?_⟩
  apply List.ext_getElem?
  intro i
  unfold Lib.byteCells
  by_cases hi : i < n
  · rw [hf i hi, List.getElem?_map, List.getElem?_map, List.getElem?_range hi]
    rfl
  · rw [List.getElem?_eq_none (by omega), List.getElem?_eq_none (by simp; omega)]
theorem open_i64s {n : Nat} {t : TypeId} {cs : List Value} (ht : Tryz.prog.underlying t = some (.array n 3)) (hl : cs.length = n) (h : DataW.trod enc Tryz.prog W base spare held fuel t cs = some x) :
    ∃ L : List Int, L.length = n ∧ cs = intC L ∧ AllI L := by
  obtain ⟨xs, k, _, _, _, hxl, hg⟩ := DataW.trod_array ht h
  have pick : ∀ i, i < n → ∃ z : Int, cs[i]? = some (.int .i64 z) ∧ I64 z := fun i hi => by
    have h1 := hg i hi
    rw [Tryz.cells1, Nat.mul_one, List.getElem?_eq_getElem (by rw [hxl]; exact hi)] at h1
    obtain ⟨z, hc, _, hw⟩ := DataW.trod_int Tryz.underlying3 h1
    have hi2 : i < cs.length := by rw [hl]; exact hi
    rw [List.drop_eq_getElem_cons hi2, List.take_succ_cons, List.take_zero] at hc
    have hc2 : cs[i] = .int .i64 z := (List.cons.inj hc).1
    exact ⟨z, by rw [List.getElem?_eq_getElem hi2, hc2], hw⟩
  obtain ⟨f, hf⟩ := Go.Deep.choose_lt (α := Int) pick
  refine ⟨(List.range n).map f, by simp, ?_, fun z hz => ?_⟩
  · apply List.ext_getElem?
    intro i
    unfold intC
    by_cases hi : i < n
    · rw [(hf i hi).1, List.getElem?_map, List.getElem?_map, List.getElem?_range hi]
      rfl
    · rw [List.getElem?_eq_none (by omega), List.getElem?_eq_none (by simp; omega)]
  · obtain ⟨i, hi, rfl⟩ := List.mem_map.1 hz
    exact (hf i (List.mem_range.1 hi)).2
theorem cells_map : Tryz.prog.cellsOf 27 = 16 := by kernel_rfl
end
set_option maxRecDepth 100000 in
theorem open_map {H : Type} {enc : TypeId × Value → H} {W : World} {base : Nat} {v : Value} {d : DataW H} {p : List MemPlace} (hv : Value.okWide Tryz.prog W .any base 27 v) (hd : DataW.Trod enc Tryz.prog W 0 (fun _ => true) true 27 v d p) : ∃ m : List UInt8, m.length = 16 ∧ v = mapV m := by
  simp only [Value.okWide, Tryz.underlying27] at hv
  obtain ⟨cs, rfl, hsz, _⟩ := hv
  obtain ⟨fuel, hf⟩ := hd
  obtain ⟨l⟩ := cs
  have hl : l.length = 16 := hsz.trans cells_map
  obtain ⟨m, hm, hc⟩ := open_u8s (cs := l) Tryz.underlying27 hl hf
  refine ⟨m, hm, ?_⟩
  unfold mapV cellsB
  rw [← hc]
set_option maxRecDepth 100000 in
theorem open_ino {H : Type} {enc : TypeId × Value → H} {W : World} {base : Nat} {v : Value} {d : DataW H} {p : List MemPlace} (hv : Value.okWide Tryz.prog W .any base 25 v) (hd : DataW.Trod enc Tryz.prog W 0 (fun _ => true) true 25 v d p) : ∃ X : Gd.Ino, X.Shape ∧ AllI (inoL X) ∧ v = inoV X := by
  obtain ⟨cs, rfl, _⟩ := okWide_struct Tryz.underlying25 hv
  obtain ⟨fuel, hf⟩ := hd
  obtain ⟨l⟩ := cs
  obtain ⟨xs, m, _, _, hl, hxl, hg⟩ := DataW.trod_struct Tryz.underlying25 hf
  have hl15 : l.length = 15 := hl.trans Tryz.cells15
  clear hl
  match l, hl15, xs, hxl with
  | [c0, c1, c2, c3, c4, c5, c6, c7, c8, c9, c10, c11, c12, c13, c14], _, [y0, y1, y2, y3, y4], _ =>
    have g0 : DataW.trod enc Tryz.prog W 0 (fun _ => true) true m 3 ((List.drop 0 [c0, c1, c2, c3, c4, c5, c6, c7, c8, c9, c10, c11, c12, c13, c14]).take (Tryz.prog.cellsOf 3)) = some y0 := hg 0 _ rfl
    rw [Tryz.cells1] at g0
    have g1 : DataW.trod enc Tryz.prog W 0 (fun _ => true) true m 3 ((List.drop 1 [c0, c1, c2, c3, c4, c5, c6, c7, c8, c9, c10, c11, c12, c13, c14]).take (Tryz.prog.cellsOf 3)) = some y1 := hg 1 _ rfl
    rw [Tryz.cells1] at g1
    have g2 : DataW.trod enc Tryz.prog W 0 (fun _ => true) true m 3 ((List.drop 2 [c0, c1, c2, c3, c4, c5, c6, c7, c8, c9, c10, c11, c12, c13, c14]).take (Tryz.prog.cellsOf 3)) = some y2 := hg 2 _ rfl
    rw [Tryz.cells1] at g2
    have g3 : DataW.trod enc Tryz.prog W 0 (fun _ => true) true m 22 ((List.drop 3 [c0, c1, c2, c3, c4, c5, c6, c7, c8, c9, c10, c11, c12, c13, c14]).take (Tryz.prog.cellsOf 22)) = some y3 := hg 3 _ rfl
    rw [Tryz.cells4] at g3
    have g4 : DataW.trod enc Tryz.prog W 0 (fun _ => true) true m 23 ((List.drop 7 [c0, c1, c2, c3, c4, c5, c6, c7, c8, c9, c10, c11, c12, c13, c14]).take (Tryz.prog.cellsOf 23)) = some y4 := hg 4 _ rfl
    rw [Tryz.cells8] at g4
    obtain ⟨n0, hc0, _, w0⟩ := DataW.trod_int Tryz.underlying3 g0
    obtain ⟨n1, hc1, _, w1⟩ := DataW.trod_int Tryz.underlying3 g1
    obtain ⟨n2, hc2, _, w2⟩ := DataW.trod_int Tryz.underlying3 g2
    obtain ⟨B, hB, hBc, hBI⟩ := open_i64s (cs := [c3, c4, c5, c6]) Tryz.underlying22 rfl g3
    obtain ⟨O, hO, hOc, hOI⟩ := open_i64s (cs := [c7, c8, c9, c10, c11, c12, c13, c14]) Tryz.underlying23 rfl g4
    have e0 : c0 = .int .i64 n0 := (List.cons.inj hc0).1
    have e1 : c1 = .int .i64 n1 := (List.cons.inj hc1).1
    have e2 : c2 = .int .i64 n2 := (List.cons.inj hc2).1
    refine ⟨⟨n0, n1, n2, B, O⟩, ⟨hB, hO⟩, fun z hz => ?_, ?_⟩
    · simp only [inoL, List.mem_cons, List.mem_append] at hz
      rcases hz with rfl | rfl | rfl | hz | hz
      · exact w0
      · exact w1
      · exact w2
      · exact hBI z hz
      · exact hOI z hz
    · have : [c0, c1, c2, c3, c4, c5, c6, c7, c8, c9, c10, c11, c12, c13, c14] = intC (inoL ⟨n0, n1, n2, B, O⟩) := by
        show [c0, c1, c2] ++ ([c3, c4, c5, c6] ++ [c7, c8, c9, c10, c11, c12, c13, c14]) = _
        rw [hBc, hOc, e0, e1, e2]
        simp [intC, inoL]
      unfold inoV inoC
      rw [this]

end Go.Proofs.YtginffdngphjpaaGreatDoor
