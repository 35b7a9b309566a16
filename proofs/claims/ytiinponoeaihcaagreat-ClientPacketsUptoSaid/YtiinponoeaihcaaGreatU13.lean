/- A client: grants. -/
import Derived.Test.YtiinponoeaihcaaGreatU12
import Derived.Maps.AppendAt
set_option linter.unusedVariables false
set_option linter.unusedSimpArgs false
set_option linter.unusedSectionVars false
namespace Go.Proofs.YtiinponoeaihcaaGreat
open Go.RowKit Go.Shelf

attribute [local go_sem] Oper.semAt_some
/-- the lease that an answer grants -/
def newH (S : Cs) (p : Pk) (b : Nat) : Hd := { b := b, own := S.out.fl == 1, til := IntKind.i64.wrap (S.asked + 46), nk := p.nk, nl := p.nl, ns := p.ns, b0 := p.b0, b1 := p.b1, b2 := p.b2, b3 := p.b3, o0 := p.o0, o1 := p.o1, o2 := p.o2, o3 := p.o3, o4 := p.o4, o5 := p.o5, o6 := p.o6, o7 := p.o7, rv := .slice none 0 0, ov := [] }
def nodeL (p : Pk) : List Value := [.int .i64 p.nk, .int .i64 p.nl, .int .i64 p.ns, .int .i64 p.b0, .int .i64 p.b1, .int .i64 p.b2, .int .i64 p.b3, .int .i64 p.o0, .int .i64 p.o1, .int .i64 p.o2, .int .i64 p.o3, .int .i64 p.o4, .int .i64 p.o5, .int .i64 p.o6, .int .i64 p.o7]
theorem Tryz.sizeInoK : (Tryz.prog.info? 39).map (fun i => i.size) = some 15 := by kernel_rfl
theorem exec_load_midK {P : Program} {o : Oper} {ev : Operand → Value} {w : World} (ty : TypeId) (x : Operand) (ho : o.op = .load ty x)
    (b k : Nat) (hx : ev x = .pointer (some ⟨b, k, none⟩)) (cs : List Value) (d : TypeDesc) (hc : w.rangeAt b k cs) (hu : P.underlying ty = some d) (hd : d.isRow = true) (hi : (P.info? ty).map (·.size) = some cs.length) : (execOp ev o).run P w = .ok (.value (.agg cs.toArray)) w := by
  unfold execOp
  simp only [ho, hx, Instr.loadAt, Instr.sureAddr, Sem.run_bind, Sem.run_pure, Result.andThen_ok, run_loadVar_mid w b k ty cs d hc hu hd hi]
theorem wp_mapUpd {P : Program} {o : Oper} {a : Act} {w : World} {K : Act → World → Prop} {Q : Exit → Act → World → Prop} {H : Type} (m x v : Operand) (t : TypeId) (hop : o.op = Op.mapUpdate t m x v)
    (k e : TypeId) (Ky : Go.Maps.Keyed P k) (ht : P.underlying t = some (.map k e)) (R : Value → Option (DataW H × List MemPlace)) (b n : Nat) (D : DataW H)
    (hm : a.eval m = .map (some b)) (hown : w.ownsMap P k R b n D) (hn : n < maxLen) (key val : Value) (kl : Lit) (hx : a.eval x = key) (hv : a.eval v = val) (hkey : keyOf P k key = some kl)
    (d : DataW H) (ps : List MemPlace) (hval : R val = some (d, ps))
    (hK : ∀ w', w'.ownsMap P k R b (n + 1) (D.put kl d) → w.mapTurned w' b → K (a.put o.dst undef) w') : o.wp P a w K Q := by
  obtain ⟨w', hrun, r1, r2⟩ := hown.store Ky ht hn hkey hval
  unfold Oper.wp
  simp [execOp, hop, hm, hx, hv, hrun, Result.andThen]
  exact hK w' r1 r2
section
variable {cb : Nat} {S : Cs} {w0 : World} {Ls : List (Nat × Obj)}
set_option maxHeartbeats 8000000 in
set_option maxRecDepth 100000 in
theorem cgrants_any {m : Nat} (hm : S.hm = some m) (hn : S.hn ≤ 1000000) (p : Pk) (hi : I64 p.ino) (now : Int) (w : World) (h : Ck cb S w0 Ls w) :
    Calls Tryz.prog 45 #[pC cb, .agg (pkC p), .int .i64 now] w fun e w' => e = .returned (.tuple #[]) ∧ ∃ T, Ck cb T w0 Ls w' ∧ ((∃ b, T = { S with hold := updH S.hold p.ino (some (newH S p b)), hn := S.hn + 1 }) ∨ (∃ q, T = { S with pause := q }) ∨ T = failS S p.er) := by
  have H := Lib.hid h
  have Hm := Lib.hid hm
  have Hn := Lib.hid hn
  have Hi := Lib.hid hi
  clear h hm hn hi
  go_enter Tryz.func45, Tryz.ntmps45
  go_upto_region 1 with fail
  obtain ⟨w1, hw⟩ : ∃ u, u = w.alloc (.cells (pkC p) 41) := ⟨_, rfl⟩
  obtain ⟨n0, hn⟩ : ∃ u, u = w.heap.size := ⟨_, rfl⟩
  rw [← hw, ← hn]
  have H1 : Hid (Ck cb S w0 ((n0, .cells (pkC p) 41 (0, 0)) :: Ls) w1) := Lib.hid (by rw [hw, hn]; exact H.out.box _ _)
  have d19 : w1.cell? ⟨n0, 19, none⟩ = some (.int .i64 p.er) := cell_of_row w1 n0 19 _ _ _ (H1.out.get (k := n0) List.mem_cons_self)
  clear hw hn H
  by_cases e0 : p.er = 0
  · have q0 : (p.er == 0) = true := by rw [beq_iff_eq]; exact e0
    clear e0
    go_upto_region 4 with fail
    have HSS : Hid (∀ {T : Cs} {W : World} {L : List (Nat × Obj)}, Ck cb T w0 L W → (n0, Obj.cells (pkC p) 41 (0, 0)) ∈ L → T.hm = S.hm → T.out = S.out → T.asked = S.asked → W.cell? ⟨cb, 16, none⟩ = some (.map (some m)) ∧ W.cell? ⟨n0, 18, none⟩ = some (.int .i64 p.ino) ∧ W.cell? ⟨cb, 33, none⟩ = some (.int .i64 S.out.fl) ∧ W.cell? ⟨cb, 65, none⟩ = some (.int .i64 S.asked) ∧ W.rangeAt n0 28 (nodeL p))   := Lib.hid fun hW hL h1 h2 h3 =>
      ⟨by rw [hW.cell 16, ← Hm.out, ← h1]; rfl, cell_of_row _ n0 18 _ _ _ (hW.get hL), by rw [hW.cell 33, ← h2]; rfl, by rw [hW.cell 65, ← h3]; rfl, World.rangeAt_of_block (hW.get hL) 28 15⟩
    have hs0 := HSS.out H1.out.drew (by simp) rfl rfl rfl
    refine wp_region_held_drew (S := (fun W => W.cell? ⟨cb, 16, none⟩ = some (.map (some m)) ∧ W.cell? ⟨n0, 18, none⟩ = some (.int .i64 p.ino) ∧ W.cell? ⟨cb, 33, none⟩ = some (.int .i64 S.out.fl) ∧ W.cell? ⟨cb, 65, none⟩ = some (.int .i64 S.asked) ∧ W.rangeAt n0 28 (nodeL p))) (by kernel_rfl) ?_ (fun hHeld => ?_)
    · exact hs0
    refine wpAnyH_take (i := 0) (oi := _) (v := ?_) rfl (by kernel_rfl) (by kernel_rfl) (by kernel_rfl) (fun _ _ _ h => h) (Or.inl ⟨by rfl, ?_⟩) (by assumption) ?_
    rotate_left
    · intro w hSw
      (try dsimp only at hSw)
      first | (go_simp; done) | (go_simp; with_reducible rfl)
    try simp only [List.getElem_toArray, List.getElem_cons_succ, List.getElem_cons_zero, Act.put, List.setIfInBounds_toArray, List.set_cons_zero, List.set_cons_succ]
    refine wpAnyH_take (i := 1) (oi := _) (v := ?_) rfl (by kernel_rfl) (by kernel_rfl) (by kernel_rfl) (fun _ _ _ h => h) (Or.inl ⟨by rfl, ?_⟩) (by assumption) ?_
    rotate_left
    · intro w hSw
      (try dsimp only at hSw)
      first | (go_simp; done) | (go_simp; with_reducible rfl)
    try simp only [List.getElem_toArray, List.getElem_cons_succ, List.getElem_cons_zero, Act.put, List.setIfInBounds_toArray, List.set_cons_zero, List.set_cons_succ]
    refine wpAnyH_take (i := 2) (oi := _) (v := ?_) rfl (by kernel_rfl) (by kernel_rfl) (by kernel_rfl) (fun _ _ _ h => h) (Or.inl ⟨by rfl, ?_⟩) (by assumption) ?_
    rotate_left
    · intro w hSw
      (try dsimp only at hSw)
      first | (go_simp; done) | (go_simp; with_reducible rfl)
    try simp only [List.getElem_toArray, List.getElem_cons_succ, List.getElem_cons_zero, Act.put, List.setIfInBounds_toArray, List.set_cons_zero, List.set_cons_succ]
    refine wpAnyH_take (i := 3) (oi := _) (v := ?_) rfl (by kernel_rfl) (by kernel_rfl) (by kernel_rfl) (fun _ _ _ h => h) (Or.inl ⟨by rfl, ?_⟩) (by assumption) ?_
    rotate_left
    · intro w hSw
      (try dsimp only at hSw)
      first | (go_simp; done) | (go_simp; with_reducible rfl)
    try simp only [List.getElem_toArray, List.getElem_cons_succ, List.getElem_cons_zero, Act.put, List.setIfInBounds_toArray, List.set_cons_zero, List.set_cons_succ]
    refine wpAnyH_take (i := 4) (oi := _) (v := ?_) rfl (by kernel_rfl) (by kernel_rfl) (by kernel_rfl) (fun _ _ _ h => h) (Or.inl ⟨by rfl, ?_⟩) (by assumption) ?_
    rotate_left
    · intro w hSw
      (try dsimp only at hSw)
      first | (go_simp; done) | (go_simp; with_reducible rfl)
    try simp only [List.getElem_toArray, List.getElem_cons_succ, List.getElem_cons_zero, Act.put, List.setIfInBounds_toArray, List.set_cons_zero, List.set_cons_succ]
    refine wpAnyH_take (i := 5) (oi := _) (v := ?_) rfl (by kernel_rfl) (by kernel_rfl) (by kernel_rfl) (fun _ _ _ h => h) (Or.inl ⟨by rfl, ?_⟩) (by assumption) ?_
    rotate_left
    · intro w hSw
      (try dsimp only at hSw)
      first | (go_simp; done) | (go_simp; with_reducible rfl)
    try simp only [List.getElem_toArray, List.getElem_cons_succ, List.getElem_cons_zero, Act.put, List.setIfInBounds_toArray, List.set_cons_zero, List.set_cons_succ]
    refine wpAnyH_take (i := 6) (oi := _) (v := ?_) rfl (by kernel_rfl) (by kernel_rfl) (by kernel_rfl) (fun _ _ _ h => h) (Or.inl ⟨by rfl, ?_⟩) (by assumption) ?_
    rotate_left
    · intro w hSw
      (try dsimp only at hSw)
      first | (go_simp; done) | (go_simp; with_reducible rfl)
    try simp only [List.getElem_toArray, List.getElem_cons_succ, List.getElem_cons_zero, Act.put, List.setIfInBounds_toArray, List.set_cons_zero, List.set_cons_succ]
    refine wpAnyH_take (i := 7) (oi := _) (v := ?_) rfl (by kernel_rfl) (by kernel_rfl) (by kernel_rfl) (fun _ _ _ h => h) (Or.inl ⟨by rfl, ?_⟩) (by assumption) ?_
    rotate_left
    · intro w hSw
      (try dsimp only at hSw)
      first | (go_simp; done) | (go_simp; with_reducible rfl)
    try simp only [List.getElem_toArray, List.getElem_cons_succ, List.getElem_cons_zero, Act.put, List.setIfInBounds_toArray, List.set_cons_zero, List.set_cons_succ]
    refine wpAnyH_take (i := 8) (oi := _) (v := ?_) rfl (by kernel_rfl) (by kernel_rfl) (by kernel_rfl) (fun _ _ _ h => h) (Or.inl ⟨by rfl, ?_⟩) (by assumption) ?_
    rotate_left
    · intro w hSw
      (try dsimp only at hSw)
      first | (go_simp; done) | (go_simp; with_reducible rfl)
    try simp only [List.getElem_toArray, List.getElem_cons_succ, List.getElem_cons_zero, Act.put, List.setIfInBounds_toArray, List.set_cons_zero, List.set_cons_succ]
    refine wpAnyH_take (i := 9) (oi := _) (v := ?_) rfl (by kernel_rfl) (by kernel_rfl) (by kernel_rfl) (fun _ _ _ h => h) (Or.inl ⟨by rfl, ?_⟩) (by assumption) ?_
    rotate_left
    · intro w hSw
      (try dsimp only at hSw)
      first | (go_simp; done) | (go_simp; with_reducible rfl)
    try simp only [List.getElem_toArray, List.getElem_cons_succ, List.getElem_cons_zero, Act.put, List.setIfInBounds_toArray, List.set_cons_zero, List.set_cons_succ]
    refine wpAnyH_take (i := 10) (oi := _) (v := ?_) rfl (by kernel_rfl) (by kernel_rfl) (by kernel_rfl) (fun _ _ _ h => h) (Or.inl ⟨by rfl, ?_⟩) (by assumption) ?_
    rotate_left
    · intro w hSw
      (try dsimp only at hSw)
      first | (go_simp; done) | (go_simp; with_reducible rfl)
    try simp only [List.getElem_toArray, List.getElem_cons_succ, List.getElem_cons_zero, Act.put, List.setIfInBounds_toArray, List.set_cons_zero, List.set_cons_succ]
    refine wpAnyH_take (i := 11) (oi := _) (v := ?_) rfl (by kernel_rfl) (by kernel_rfl) (by kernel_rfl) (fun _ _ _ h => h) (Or.inl ⟨by rfl, ?_⟩) (by assumption) ?_
    rotate_left
    · intro w hSw
      (try dsimp only at hSw)
      first | (go_simp; done) | (go_simp; with_reducible rfl)
    try simp only [List.getElem_toArray, List.getElem_cons_succ, List.getElem_cons_zero, Act.put, List.setIfInBounds_toArray, List.set_cons_zero, List.set_cons_succ]
    refine wpAnyH_take (i := 12) (oi := _) (v := ?_) rfl (by kernel_rfl) (by kernel_rfl) (by kernel_rfl) (fun _ _ _ h => h) (Or.inl ⟨by rfl, ?_⟩) (by assumption) ?_
    rotate_left
    · intro w hSw
      (try dsimp only at hSw)
      first | (go_simp; done) | (go_simp; with_reducible rfl)
    try simp only [List.getElem_toArray, List.getElem_cons_succ, List.getElem_cons_zero, Act.put, List.setIfInBounds_toArray, List.set_cons_zero, List.set_cons_succ]
    refine wpAnyH_take (i := 13) (oi := _) (v := ?_) rfl (by kernel_rfl) (by kernel_rfl) (by kernel_rfl) (fun _ _ _ h => h) (Or.inl ⟨by rfl, ?_⟩) (by assumption) ?_
    rotate_left
    · intro w hSw
      (try dsimp only at hSw)
      first | (go_simp; done) | (go_simp; with_reducible rfl)
    try simp only [List.getElem_toArray, List.getElem_cons_succ, List.getElem_cons_zero, Act.put, List.setIfInBounds_toArray, List.set_cons_zero, List.set_cons_succ]
    refine wpAnyH_take (i := 14) (oi := _) (v := ?_) rfl (by kernel_rfl) (by kernel_rfl) (by kernel_rfl) (fun _ _ _ h => h) (Or.inl ⟨by rfl, ?_⟩) (by assumption) ?_
    rotate_left
    · intro w hSw
      (try dsimp only at hSw)
      first | (go_simp; done) | (go_simp; with_reducible rfl)
    try simp only [List.getElem_toArray, List.getElem_cons_succ, List.getElem_cons_zero, Act.put, List.setIfInBounds_toArray, List.set_cons_zero, List.set_cons_succ]
    refine wpAnyH_take (i := 15) (oi := _) (v := ?_) rfl (by kernel_rfl) (by kernel_rfl) (by kernel_rfl) (fun _ _ _ h => h) (Or.inl ⟨by rfl, ?_⟩) (by assumption) ?_
    rotate_left
    · intro w hSw
      (try dsimp only at hSw)
      first | (go_simp; done) | (go_simp; with_reducible rfl)
    try simp only [List.getElem_toArray, List.getElem_cons_succ, List.getElem_cons_zero, Act.put, List.setIfInBounds_toArray, List.set_cons_zero, List.set_cons_succ]
    refine wpAnyH_take (i := 16) (oi := _) (v := ?_) rfl (by kernel_rfl) (by kernel_rfl) (by kernel_rfl) (fun _ _ _ h => h) (Or.inl ⟨by rfl, ?_⟩) (by assumption) ?_
    rotate_left
    · intro w hSw
      (try dsimp only at hSw)
      first | (go_simp; done) | (go_simp; with_reducible rfl)
    try simp only [List.getElem_toArray, List.getElem_cons_succ, List.getElem_cons_zero, Act.put, List.setIfInBounds_toArray, List.set_cons_zero, List.set_cons_succ]
    refine wpAnyH_take (i := 17) (oi := _) (v := ?_) rfl (by kernel_rfl) (by kernel_rfl) (by kernel_rfl) (fun _ _ _ h => h) (Or.inl ⟨by rfl, ?_⟩) (by assumption) ?_
    rotate_left
    · intro w hSw
      (try dsimp only at hSw)
      first | (go_simp; done) | (go_simp; with_reducible rfl)
    try simp only [List.getElem_toArray, List.getElem_cons_succ, List.getElem_cons_zero, Act.put, List.setIfInBounds_toArray, List.set_cons_zero, List.set_cons_succ]
    refine wpAnyH_take (i := 18) (oi := _) (v := ?_) rfl (by kernel_rfl) (by kernel_rfl) (by kernel_rfl) (fun _ _ _ h => h) (Or.inl ⟨by rfl, ?_⟩) (by assumption) ?_
    rotate_left
    · intro w hSw
      (try dsimp only at hSw)
      first | (go_simp; done) | (go_simp; with_reducible rfl)
    try simp only [List.getElem_toArray, List.getElem_cons_succ, List.getElem_cons_zero, Act.put, List.setIfInBounds_toArray, List.set_cons_zero, List.set_cons_succ]
    refine wpAnyH_take (i := 19) (oi := _) (v := ?_) rfl (by kernel_rfl) (by kernel_rfl) (by kernel_rfl) (fun _ _ _ h => h) (Or.inl ⟨by rfl, ?_⟩) (by assumption) ?_
    rotate_left
    · intro w hSw
      (try dsimp only at hSw)
      first | (go_simp; done) | (go_simp; with_reducible rfl)
    try simp only [List.getElem_toArray, List.getElem_cons_succ, List.getElem_cons_zero, Act.put, List.setIfInBounds_toArray, List.set_cons_zero, List.set_cons_succ]
    refine wpAnyH_take (i := 20) (oi := _) (v := ?_) rfl (by kernel_rfl) (by kernel_rfl) (by kernel_rfl) (fun _ _ _ h => h) (Or.inl ⟨by rfl, ?_⟩) (by assumption) ?_
    rotate_left
    · intro w hSw
      (try dsimp only at hSw)
      first | (go_simp; done) | (go_simp; with_reducible rfl)
    try simp only [List.getElem_toArray, List.getElem_cons_succ, List.getElem_cons_zero, Act.put, List.setIfInBounds_toArray, List.set_cons_zero, List.set_cons_succ]
    refine wpAnyH_take (i := 21) (oi := _) (v := ?_) rfl (by kernel_rfl) (by kernel_rfl) (by kernel_rfl) (fun _ _ _ h => h) (Or.inl ⟨by rfl, ?_⟩) (by assumption) ?_
    rotate_left
    · intro w hSw
      (try dsimp only at hSw)
      first | (go_simp; done) | (go_simp; with_reducible rfl)
    try simp only [List.getElem_toArray, List.getElem_cons_succ, List.getElem_cons_zero, Act.put, List.setIfInBounds_toArray, List.set_cons_zero, List.set_cons_succ]
    refine wpAnyH_take (i := 22) (oi := _) (v := ?_) rfl (by kernel_rfl) (by kernel_rfl) (by kernel_rfl) (fun _ _ _ h => h) (Or.inl ⟨by rfl, ?_⟩) (by assumption) ?_
    rotate_left
    · intro w hSw
      refine exec_load_midK 39 (.tmp 35) ?_ n0 28 ?_ [.int .i64 p.nk, .int .i64 p.nl, .int .i64 p.ns, .int .i64 p.b0, .int .i64 p.b1, .int .i64 p.b2, .int .i64 p.b3, .int .i64 p.o0, .int .i64 p.o1, .int .i64 p.o2, .int .i64 p.o3, .int .i64 p.o4, .int .i64 p.o5, .int .i64 p.o6, .int .i64 p.o7] _ hSw.2.2.2.2 Tryz.underlying39 ?_ Tryz.sizeInoK
      all_goals rfl
    try simp only [List.getElem_toArray, List.getElem_cons_succ, List.getElem_cons_zero, Act.put, List.setIfInBounds_toArray, List.set_cons_zero, List.set_cons_succ]
    refine wpAnyH_take (i := 23) (oi := _) (v := ?_) rfl (by kernel_rfl) (by kernel_rfl) (by kernel_rfl) (fun _ _ _ h => h) (Or.inl ⟨by rfl, ?_⟩) (by assumption) ?_
    rotate_left
    · intro w hSw
      (try dsimp only at hSw)
      first | (go_simp; done) | (go_simp; with_reducible rfl)
    try simp only [List.getElem_toArray, List.getElem_cons_succ, List.getElem_cons_zero, Act.put, List.setIfInBounds_toArray, List.set_cons_zero, List.set_cons_succ]
    have HB := Lib.hid (H1.out.drew.box (hdC (newH S p w1.heap.size)) 105)
    have hs1 := HSS.out HB.out (by simp) rfl rfl rfl
    refine wpAnyH_ready (rs := [24]) (by kernel_rfl) (by simp) ?_
    refine AllReadyH.cons (o := _) rfl (fun K hK => ?_) AllReadyH.nil
    go_simp
    try dsimp only
    refine hK.out _ _ hs1 (fun hHeld => ?_)
    clear hK K
    try simp only [List.getElem_toArray, List.getElem_cons_succ, List.getElem_cons_zero, Act.put, List.setIfInBounds_toArray, List.set_cons_zero, List.set_cons_succ]
    obtain ⟨D, hD, hA⟩ := HB.out.map Hm.out
    have HD := Lib.hid hD
    have HA := Lib.hid hA
    have HKey := Lib.hid (Go.Maps.keyOf_int_mk (P := Tryz.prog) Tryz.underlying3 Hi.out)
    have HMx : Hid (S.hn < maxLen) := Lib.hid (by have := Hn.out; unfold maxLen; omega)
    have HNw : Hid (∀ j J, S.hold j = some J → J.b ≠ w1.heap.size) := Lib.hid (HB.out.holdNe Hm.out (p := (w1.heap.size, Obj.cells (hdC (newH S p w1.heap.size)) 105 (0, 0))) List.mem_cons_self)
    have HFr : Hid (∀ q ∈ ((n0, Obj.cells (pkC p) 41 (0, 0)) :: Ls), q.1 ≠ w1.heap.size) := Lib.hid H1.out.fresh
    have HGr : Hid (∀ (W : World) (D' : DataW Unit), W.ownsMap Tryz.prog 3 ptrE m (S.hn + 1) D' → HoldsD (updH S.hold p.ino (some (newH S p w1.heap.size))) D' → (w1.drew.alloc (.cells (hdC (newH S p w1.heap.size)) 105)).mapTurned W m → Ck cb { S with hold := updH S.hold p.ino (some (newH S p w1.heap.size)), hn := S.hn + 1 } w0 ((n0, .cells (pkC p) 41 (0, 0)) :: Ls) W) := Lib.hid fun W D' h1 h2 h3 => HB.out.grant HFr.out Hm.out Hi.out rfl rfl h1 h2 h3 HNw.out
    clear hD hA
    refine wpAnyH_ready (rs := [25]) (by kernel_rfl) (by simp) ?_
    refine AllReadyH.cons (o := _) rfl (fun K hK => ?_) AllReadyH.nil
    refine wp_mapUpd (.tmp 18) (.tmp 20) (.tmp 38) 56 rfl 3 96 Tryz.intLaw Tryz.underlying56 ptrE m S.hn D rfl HD.out HMx.out (.int .i64 p.ino) (.pointer (some ⟨w1.heap.size, 0, none⟩)) _ rfl rfl HKey.out (.lit (.int .i64 w1.heap.size)) [] rfl ?_
    intro w5 hown5 hturn5
    have HG := Lib.hid (HGr.out w5 _ hown5 (HA.out.put HD.out.isMap p.ino (newH S p w1.heap.size)) hturn5)
    clear hown5 hturn5
    have hs2 := HSS.out HG.out (by simp) rfl rfl rfl
    try dsimp only
    refine hK.out _ _ hs2 (fun hHeld => ?_)
    clear hK K
    try simp only [List.getElem_toArray, List.getElem_cons_succ, List.getElem_cons_zero, Act.put, List.setIfInBounds_toArray, List.set_cons_zero, List.set_cons_succ]
    refine wpAnyH_done (by kernel_rfl) ?_ _
    (try simp only [Exit.then])
    clear hs0 hs1 hs2 HD HA HNw HFr HGr HB H1 d19
    go_wp2
    go_end0
    exact ⟨rfl, _, HG.out.tl rfl, Or.inl ⟨_, rfl⟩⟩
  · by_cases e1 : p.er = 32 ∨ p.er = 33
    · have c66 : w1.cell? ⟨cb, 66, none⟩ = some (.int .i64 S.pause) := H1.out.cell 66
      have g66 := H1.out.fz 66
      by_cases e2 : p.er = 32
      · rw [e2] at d19
        clear e0 e1 e2
        go_wp2_with fail
        go_end0
        exact ⟨rfl, _, (H1.out.st (T := { S with pause := wrap64 (now + 8) }) (i := 66) (v := .int .i64 (wrap64 (now + 8))) rfl ⟨rfl, rfl, .inl rfl, rfl, rfl, rfl⟩).tl rfl, Or.inr (Or.inl ⟨_, rfl⟩)⟩
      · rw [e1.resolve_left e2] at d19
        clear e0 e1 e2
        go_wp2_with fail
        go_end0
        exact ⟨rfl, _, (H1.out.st (T := { S with pause := wrap64 (now + 8) }) (i := 66) (v := .int .i64 (wrap64 (now + 8))) rfl ⟨rfl, rfl, .inl rfl, rfl, rfl, rfl⟩).tl rfl, Or.inr (Or.inl ⟨_, rfl⟩)⟩
    · have q0 : (p.er == 0) = false := by rw [beq_eq_false_iff_ne]; exact e0
      have q1 : (p.er == 32) = false := by rw [beq_eq_false_iff_ne]; omega
      have q2 : (p.er == 33) = false := by rw [beq_eq_false_iff_ne]; omega
      have HF := Lib.hid (cfails_any p.er w1 H1.out)
      clear e0 e1 H1
      go_wp2_with ((with_reducible refine HF.out.mono ?_); rintro e w2 ⟨rfl, h2⟩; have H2 := Lib.hid h2; clear h2)
      go_end0
      exact ⟨rfl, _, H2.out.tl rfl, Or.inr (Or.inr rfl)⟩
end
end Go.Proofs.YtiinponoeaihcaaGreat

/- A client: cleans. -/
namespace Go.Proofs.YtiinponoeaihcaaGreat
open Go.RowKit Go.Shelf

attribute [local go_sem] Oper.semAt_some
theorem ranges_obj {P : Program} {k : TypeId} {R : Value → Option (DataW Unit × List MemPlace)} {w : World} {b r n : Nat} {D : DataW Unit} {left : Lit → Bool} {cnt : Nat} (h : w.ranges P k R b r n D left cnt) : ∃ o, w.heap[r]? = some o := by
  obtain ⟨es, ck, since, seen, c0, _, _, _, _, hr, _⟩ := h
  exact ⟨_, hr⟩
/-- what comes of the map of leases is one -/
theorem holdsD_at {hold : Int → Option Hd} {D : DataW Unit} (h : HoldsD hold D) {x : Int} (hx : I64 x) {c : Value} {y : DataW Unit × List MemPlace} (hc : ptrE c = some y) (ha : ∀ zd, D.atKey (.int .i64 x) zd = y.1) : ∃ H, hold x = some H ∧ c = .pointer (some ⟨H.b, 0, none⟩) := by
  cases hh : hold x with
  | none =>
    have h1 := h x (.lit (.int .i64 5)) hx
    have h2 := h x (.lit (.int .i64 6)) hx
    rw [hh, ha] at h1 h2
    have := h1.symm.trans h2
    cases this
  | some H =>
    have h1 := h x (.lit (.int .i64 5)) hx
    rw [hh, ha] at h1
    rcases ptrE_inv hc with ⟨_, e⟩ | ⟨b, rfl, e⟩
    · rw [e] at h1
      have h1 : DataW.lit (Lit.int .i64 (-1)) = DataW.lit (Lit.int .i64 H.b) := h1
      simp at h1
    · rw [e] at h1
      have h1 : DataW.lit (Lit.int .i64 b) = DataW.lit (Lit.int .i64 H.b) := h1
      have h1 : (b : Int) = H.b := by simpa using h1
      have : b = H.b := by omega
      subst this
      exact ⟨H, rfl, rfl⟩
theorem rv_slice {w : World} {B e s n : Nat} {v : Value} {xs : List Value} (h : w.ownsRow B e s v n xs) : ∃ A c, v = .slice A n c := by
  rcases h.2 with ⟨rfl, rfl⟩ | ⟨g, cap, cur, rfl, _⟩
  · exact ⟨none, 0, rfl⟩
  · exact ⟨_, _, rfl⟩
section
variable {cb : Nat} {S : Cs} {w0 : World} {Ls : List (Nat × Obj)}
def setHold (S : Cs) (hold : Int → Option Hd) : Cs := { S with hold := hold }
theorem Fewer.del {S : Cs} {hold : Int → Option Hd} (h : Fewer S hold) (i : Int) : Fewer S (updH hold i none) := fun j J hj => by
  unfold updH at hj
  split at hj
  · cases hj
  · exact h j J hj
set_option maxHeartbeats 8000000 in
set_option maxRecDepth 100000 in
theorem ccleans_any {m : Nat} (hm : S.hm = some m) (p : Pk) (w : World) (h : Ck cb S w0 Ls w) :
    Calls Tryz.prog 46 #[pC cb, .agg (pkC p)] w fun e w' => e = .returned (.tuple #[]) ∧ ∃ T, Ck cb T w0 Ls w' ∧ ((∃ hold, Fewer S hold ∧ T = setHold (anewS S p.at_) hold) ∨ T = failS S p.er) := by
  have H := Lib.hid h
  have Hm := Lib.hid hm
  clear h hm
  go_enter Tryz.func46, Tryz.ntmps46
  go_upto_region 1 with fail
  obtain ⟨w1, hw⟩ : ∃ u, u = w.alloc (.cells (pkC p) 41) := ⟨_, rfl⟩
  obtain ⟨n0, hn⟩ : ∃ u, u = w.heap.size := ⟨_, rfl⟩
  rw [← hw, ← hn]
  have H1 : Hid (Ck cb S w0 ((n0, .cells (pkC p) 41 (0, 0)) :: Ls) w1) := Lib.hid (by rw [hw, hn]; exact H.out.box _ _)
  have d19 : w1.cell? ⟨n0, 19, none⟩ = some (.int .i64 p.er) := cell_of_row w1 n0 19 _ _ _ (H1.out.get (k := n0) List.mem_cons_self)
  clear hw hn H
  by_cases e0 : p.er = 0
  · have q0 : (p.er != 0) = false := by rw [e0]; rfl
    have d5 : w1.cell? ⟨n0, 5, none⟩ = some (.int .i64 p.at_) := cell_of_row w1 n0 5 _ _ _ (H1.out.get (k := n0) List.mem_cons_self)
    have HAn := Lib.hid (canew_any p.at_ w1 H1.out)
    clear e0 H1
    go_upto_region 4 with ((with_reducible refine HAn.out.mono ?_); rintro e w2 ⟨rfl, h2⟩; have H2 := Lib.hid h2; clear h2)
    obtain ⟨T, hT⟩ : ∃ T : Cs, T = anewS S p.at_ := ⟨_, rfl⟩
    have H3 : Hid (Ck cb T w0 Ls w2) := Lib.hid (by rw [hT]; exact H2.out.tl rfl)
    have HTm : Hid (T.hm = some m) := Lib.hid (by rw [hT]; exact Hm.out)
    have HTh : Hid (T.hold = S.hold) := Lib.hid (by rw [hT]; rfl)
    have HT := Lib.hid hT
    clear hT H2 HAn d5 d19 q0 Hm
    have c16 : w2.cell? ⟨cb, 16, none⟩ = some (.map T.hm) := H3.out.cell 16
    rw [HTm.out] at c16
    obtain ⟨D, hD, hA⟩ := H3.out.map HTm.out
    have HD := Lib.hid hD
    have HA := Lib.hid hA
    clear hD hA
    go_wp2_with (at_range; refine wpList_range_own _ rfl _ 56 rfl 3 96 Tryz.intLaw Tryz.underlying56 ptrE m _ D rfl HD.out ?_)
    intro w3 hrg hg3 hs3
    have hB : Below w2.heap.size w2 w3 := ⟨hg3.os, hg3.tape, hg3.output, hg3.size, fun k hk => hg3.block k hk (by simp)⟩
    obtain ⟨o, ho⟩ := ranges_obj hrg
    have H4 := Lib.hid (H3.out.new hB (Nat.le_refl _) ho)
    obtain ⟨r, hr⟩ : ∃ r, r = w2.heap.size := ⟨_, rfl⟩
    rw [← hr] at hrg H4 ⊢
    have HFr : Hid (∀ q ∈ Ls, q.1 ≠ r) := Lib.hid (by rw [hr]; exact H3.out.fresh)
    have HRg := Lib.hid hrg
    clear hrg hg3 hs3 hB ho hr c16 H3 HD
    go_wp2
    go_loopw [] (fun wr => ∃ (hold : Int → Option Hd) (D' : DataW Unit) (left : Lit → Bool) (cnt : Nat) (o : Obj), wr.ranges Tryz.prog 3 ptrE m r T.hn D' left cnt ∧ Hid (HoldsD hold D' ∧ Fewer T hold ∧ Ck cb (setHold T hold) w0 ((r, o) :: Ls) wr)) (fun wr => wr.rangeLeft m r)
    case atStart => exact ⟨T.hold, D, _, _, o, HRg.out, Lib.hid ⟨HA.out, fun _ _ e => e, H4.out⟩⟩
    case round =>
      obtain ⟨hold, D', left, cnt, o2, hrg, HH⟩ := hrel
      go_wp2_with (at_next; refine wpList_next_ranges _ rfl _ rfl 3 Tryz.intLaw ptrE (Value.int .i64) (fun v : Value => v) (fun key kl hk => by obtain ⟨x, rfl, _⟩ := Maps.keyOf_int_inv Tryz.underlying3 hk; exact ⟨x, rfl⟩) (fun v y hv => ⟨v, rfl⟩) m r T.hn _ _ _ rfl hrg ?_ ?_)
      · intro _ _
        go_wp2
        go_end0
        refine ⟨rfl, _, HH.out.2.2.tl rfl, Or.inl ⟨hold, fun i J hi => ?_, by rw [← HT.out]⟩⟩
        rw [← HTh.out]
        exact HH.out.2.1 i J hi
      · intro x c kl y1 y2 w5 cnt2 hkey hlk hv hat hrg2 hlt hg5 hs5 hen
        obtain ⟨x', ex, rfl, hwx⟩ := Maps.keyOf_int_inv Tryz.underlying3 hkey
        cases ex
        obtain ⟨J, hJ, rfl⟩ := holdsD_at HH.out.1 hwx hv hat
        obtain ⟨o5, ho5⟩ := ranges_obj hrg2
        have hO5 : Only (fun k => k = r) wr w5 := grown_only hg5 (fun k e => (Option.some.inj e).symm)
        have H5 : Hid (Ck cb (setHold T hold) w0 ((r, o5) :: Ls) w5) := Lib.hid (HH.out.2.2.put (k := r) (o := o2) List.mem_cons_self hO5 _ fun q hq => by
          rcases List.mem_cons.1 hq with rfl | hq
          · exact Or.inl ⟨rfl, ho5⟩
          · exact Or.inr ⟨List.mem_cons_of_mem _ hq, HFr.out q hq⟩)
        obtain ⟨hb, hrow, _⟩ := H5.out.holdAt (m := m) HTm.out hJ
        obtain ⟨A, c, hrv⟩ := rv_slice hrow
        have e17 : w5.cell? ⟨J.b, 17, none⟩ = some (.slice A J.ov.length c) := by rw [← hrv]; exact cell_of_row w5 J.b 17 _ _ _ hb
        have HRg5 := Lib.hid hrg2
        have HLeft : Hid (wr.rangeLeft m r = cnt) := hrg.left_eq
        have HLt := Lib.hid hlt
        have HX := Lib.hid hwx
        obtain ⟨n, hn⟩ : ∃ n, n = J.ov.length := ⟨_, rfl⟩
        rw [← hn] at e17
        clear hkey hlk hv hat hrg2 hlt hg5 hs5 ho5 hO5 hb hrow hrv hrg hwx hn
        by_cases hpos : 0 < n
        · have hpi : (0 : Int) < n := by omega
          have c16 : w5.cell? ⟨cb, 16, none⟩ = some (.map T.hm) := H5.out.cell 16
          rw [HTm.out] at c16
          have HKey := Lib.hid (Go.Maps.keyOf_int_mk (P := Tryz.prog) Tryz.underlying3 HX.out)
          clear hpos
          go_wp2_with (at_delete; refine wpList_delete_ranges _ rfl _ _ 56 3 rfl 96 Tryz.intLaw Tryz.underlying56 ptrE m r T.hn D' _ cnt2 rfl HRg5.out (.int .i64 x) _ rfl HKey.out ?_; intro w6 cnt3 hrg6 hle6 hturn6)
          have H6 : Hid (Ck cb (setHold T (updH hold x none)) w0 ((r, o5) :: Ls) w6) := Lib.hid (H5.out.strike (n := T.hn) HTm.out hrg6.owns (HH.out.1.del x) hturn6 (fun i' J' hi => Fewer.del (S := setHold T hold) (fun _ _ e => e) x i' J' hi) rfl)
          have hF6 : Fewer T (updH hold x none) := HH.out.2.1.del x
          have HHD := Lib.hid (HH.out.1.del x)
          go_roundw
          case rel => exact ⟨_, _, _, _, _, _, _, _, _, _, _, _, _, _, _, _, _, _, _, ⟨_, _, _, cnt3, o5, hrg6, Lib.hid ⟨HHD.out, hF6, H6.out⟩⟩, rfl⟩
          case measure => rw [hrg6.left_eq, HLeft.out]; exact Nat.lt_of_le_of_lt hle6 HLt.out
        · have hpi : ¬ (0 : Int) < n := by omega
          clear hpos
          go_wp2_with fail
          go_roundw
          case rel => exact ⟨hold, D', _, cnt2, o5, HRg5.out, Lib.hid ⟨HH.out.1, HH.out.2.1, H5.out⟩⟩
          case measure => rw [HRg5.out.left_eq, HLeft.out]; exact HLt.out
  · have q0 : (p.er != 0) = true := by simpa using e0
    have HF := Lib.hid (cfails_any p.er w1 H1.out)
    clear e0 H1
    go_wp2_with ((with_reducible refine HF.out.mono ?_); rintro e w2 ⟨rfl, h2⟩; have H2 := Lib.hid h2; clear h2)
    first
      | (refine bodyPost_ret (results_none rfl _ _ _) rfl ?_; exact ⟨rfl, _, H2.out.tl rfl, Or.inr rfl⟩)
      | (go_end0; exact ⟨rfl, _, H2.out.tl rfl, Or.inr rfl⟩)
end
end Go.Proofs.YtiinponoeaihcaaGreat

/- A client: answers. -/
namespace Go.Proofs.YtiinponoeaihcaaGreat
open Go.RowKit Go.Shelf

attribute [local go_sem] Oper.semAt_some
def updF (f : Nat → Int) (k : Nat) (v : Int) (j : Nat) : Int := if j = k then v else f j
def setF (S : Cs) (f : Nat → Int) : Cs := { S with f := f }
theorem setF_cells (S : Cs) {k : Nat} (hk : k < 8) (v : Int) : clC (setF S (updF S.f k v)) = (clC S).setIfInBounds (8 + k) (.int .i64 v) := by
  rcases (by omega : k = 0 ∨ k = 1 ∨ k = 2 ∨ k = 3 ∨ k = 4 ∨ k = 5 ∨ k = 6 ∨ k = 7) with rfl | rfl | rfl | rfl | rfl | rfl | rfl | rfl <;> rfl
/-- what an answer comes to -/
def AnsP (S : Cs) (p : Pk) (T : Cs) : Prop :=
  (T = S ∧ S.wk = none) ∨ T = failS S p.er ∨ ∃ f tf A n c, (f = S.f ∨ ∃ k, k < 8 ∧ (f = updF S.f k p.ino ∨ f = updF S.f k 0)) ∧ T = finS (setF S f) p.er tf ⟨#[]⟩ (.slice A n c) p.ik p.il p.isz
theorem Ck.fdAt {cb : Nat} {S : Cs} {w0 w : World} {Ls : List (Nat × Obj)} (h : Ck cb S w0 Ls w) {k : Nat} (hk : k < 8) : w.cell? ⟨cb, 8 + k, none⟩ = some (.int .i64 (S.f k)) :=
  h.fds k (S.f k) (by rcases (by omega : k = 0 ∨ k = 1 ∨ k = 2 ∨ k = 3 ∨ k = 4 ∨ k = 5 ∨ k = 6 ∨ k = 7) with rfl | rfl | rfl | rfl | rfl | rfl | rfl | rfl <;> rfl)
section
variable {cb : Nat} {S : Cs} {w0 : World} {Ls : List (Nat × Obj)}
set_option maxHeartbeats 8000000 in
set_option maxRecDepth 100000 in
theorem canswers_any (p : Pk) (A : Option Addr) (n c : Nat) (hnv : p.nv = .slice A n c) (hcl : p.op = 2 → S.wk ≠ none → ∃ k : Nat, S.K.fd = k ∧ k < 8) (w : World) (h : Ck cb S w0 Ls w) :
    Calls Tryz.prog 47 #[pC cb, .agg (pkC p)] w fun e w' => e = .returned (.tuple #[]) ∧ ∃ T, Ck cb T w0 Ls w' ∧ AnsP S p T := by
  have H := Lib.hid h
  have Hnv := Lib.hid hnv
  have Hcl := Lib.hid hcl
  clear h hnv hcl
  go_enter Tryz.func47, Tryz.ntmps47
  go_upto_region 1 with fail
  obtain ⟨w1, hw⟩ : ∃ u, u = w.alloc (.cells (pkC p) 41) := ⟨_, rfl⟩
  obtain ⟨n0, hn⟩ : ∃ u, u = w.heap.size := ⟨_, rfl⟩
  rw [← hw, ← hn]
  have H1 : Hid (Ck cb S w0 ((n0, .cells (pkC p) 41 (0, 0)) :: Ls) w1) := Lib.hid (by rw [hw, hn]; exact H.out.box _ _)
  have c18 : w1.cell? ⟨cb, 18, none⟩ = some (ptrV S.wk) := H1.out.cell 18
  unfold ptrV at c18
  clear hw hn H
  cases hk : S.wk with
  | none =>
    rw [hk] at c18
    dsimp only [Option.map_none] at c18
    have HK := Lib.hid hk
    clear hk
    go_wp2_with fail
    refine bodyPost_ret (results_none rfl _ _ _) rfl ?_
    exact ⟨rfl, S, H1.out.tl rfl, Or.inl ⟨rfl, HK.out⟩⟩
  | some wb =>
    rw [hk] at c18
    dsimp only [Option.map_some] at c18
    have Hk := Lib.hid hk
    clear hk
    have hp := H1.out.get (k := n0) List.mem_cons_self
    have d19 : w1.cell? ⟨n0, 19, none⟩ = some (.int .i64 p.er) := cell_of_row w1 n0 19 _ _ _ hp
    have d23 : w1.cell? ⟨n0, 23, none⟩ = some (.slice A n c) := by rw [← Hnv.out]; exact cell_of_row w1 n0 23 _ _ _ hp
    have d24 : w1.cell? ⟨n0, 24, none⟩ = some (.int .i64 p.ik) := cell_of_row w1 n0 24 _ _ _ hp
    have d25 : w1.cell? ⟨n0, 25, none⟩ = some (.int .i64 p.il) := cell_of_row w1 n0 25 _ _ _ hp
    have d26 : w1.cell? ⟨n0, 26, none⟩ = some (.int .i64 p.isz) := cell_of_row w1 n0 26 _ _ _ hp
    clear hp
    go_upto_region 3 with fail
    obtain ⟨w2, hw⟩ : ∃ u, u = w1.alloc (.cells #[.int .i64 p.er, .int .i64 0, .string ⟨#[]⟩, .slice A n c, .int .i64 p.ik, .int .i64 p.il, .int .i64 p.isz] 35) := ⟨_, rfl⟩
    obtain ⟨n1, hn⟩ : ∃ u, u = w1.heap.size := ⟨_, rfl⟩
    rw [← hw, ← hn]
    have H2 : Hid (Ck cb S w0 ((n1, .cells #[.int .i64 p.er, .int .i64 0, .string ⟨#[]⟩, .slice A n c, .int .i64 p.ik, .int .i64 p.il, .int .i64 p.isz] 35 (0, 0)) :: (n0, .cells (pkC p) 41 (0, 0)) :: Ls) w2) := Lib.hid (by rw [hw, hn]; exact H1.out.box _ _)
    have HNe : Hid (∀ q ∈ (((n0, Obj.cells (pkC p) 41 (0, 0)) :: Ls) : List (Nat × Obj)), q.1 ≠ n1) := Lib.hid (by rw [hn]; exact H1.out.fresh)
    clear hw hn c18 d19 d23 d24 d25 d26 H1
    have hp := H2.out.get (k := n0) (List.mem_cons_of_mem _ List.mem_cons_self)
    have d19 : w2.cell? ⟨n0, 19, none⟩ = some (.int .i64 p.er) := cell_of_row w2 n0 19 _ _ _ hp
    have d4 : w2.cell? ⟨n0, 4, none⟩ = some (.int .i64 p.op) := cell_of_row w2 n0 4 _ _ _ hp
    have d18 : w2.cell? ⟨n0, 18, none⟩ = some (.int .i64 p.ino) := cell_of_row w2 n0 18 _ _ _ hp
    clear hp
    by_cases e0 : p.er = 0
    · have q0 : (p.er != 0) = false := by rw [e0]; rfl
      clear e0
      by_cases o1 : p.op = 1
      · have q1 : (p.op == 1) = true := by rw [beq_iff_eq]; exact o1
        clear o1
        have HFr := Lib.hid (cfree_any w2 H2.out)
        go_upto_region 7 with ((with_reducible refine HFr.out.mono ?_); rintro e w3 ⟨r, q, rfl, hq, hb⟩; have HQ := Lib.hid hq; have HB := Lib.hid hb; clear hq hb)
        have H3 := Lib.hid (H2.out.below HB.out)
        clear H2 HB HFr d4 d18 d19
        cases q with
        | false =>
          have hq := H3.out.get (k := n1) List.mem_cons_self
          have e0 : w3.cell? ⟨n1, 0, none⟩ = some (.int .i64 p.er) := cell_of_row w3 n1 0 _ _ _ hq
          have e1 : w3.cell? ⟨n1, 1, none⟩ = some (.int .i64 0) := cell_of_row w3 n1 1 _ _ _ hq
          have e2 : w3.cell? ⟨n1, 2, none⟩ = some (.string ⟨#[]⟩) := cell_of_row w3 n1 2 _ _ _ hq
          have e3 : w3.cell? ⟨n1, 3, none⟩ = some (.slice A n c) := cell_of_row w3 n1 3 _ _ _ hq
          have e4 : w3.cell? ⟨n1, 4, none⟩ = some (.int .i64 p.ik) := cell_of_row w3 n1 4 _ _ _ hq
          have e5 : w3.cell? ⟨n1, 5, none⟩ = some (.int .i64 p.il) := cell_of_row w3 n1 5 _ _ _ hq
          have e6 : w3.cell? ⟨n1, 6, none⟩ = some (.int .i64 p.isz) := cell_of_row w3 n1 6 _ _ _ hq
          have ge := fun i => frozen_of_row w3 n1 i _ _ hq
          clear hq
          have HFi := Lib.hid (cfinish_any (S := S) p.er 0 ⟨#[]⟩ A n c p.ik p.il p.isz w3 H3.out)
          clear H3
          go_wp2_with ((with_reducible refine HFi.out.mono ?_); rintro e w9 ⟨rfl, h9⟩; have H9 := Lib.hid h9; clear h9)
          go_end0
          exact ⟨rfl, _, H9.out.less (fun q hq => List.mem_cons_of_mem _ (List.mem_cons_of_mem _ hq)), Or.inr (Or.inr ⟨S.f, 0, A, n, c, Or.inl rfl, rfl⟩)⟩
        | true =>
          obtain ⟨hr0, hr8⟩ := HQ.out rfl
          obtain ⟨k, rfl⟩ : ∃ k : Nat, r = k := ⟨r.toNat, by omega⟩
          have hk8 : k < 8 := by omega
          go_upto_region 8 with fail
          have d18 : w3.cell? ⟨n0, 18, none⟩ = some (.int .i64 p.ino) := cell_of_row w3 n0 18 _ _ _ (H3.out.get (k := n0) (List.mem_cons_of_mem _ List.mem_cons_self))
          have cf : w3.cell? ⟨cb, 8 + k, none⟩ = some (.int .i64 (S.f k)) := H3.out.fdAt hk8
          have gf := H3.out.fz (8 + k)
          have hnecb : cb ≠ n1 := lc_ne H3.out.obj (H3.out.get (k := n1) List.mem_cons_self) (by decide)
          have e1 : w3.cell? ⟨n1, 1, none⟩ = some (.int .i64 0) := cell_of_row w3 n1 1 _ _ _ (H3.out.get (k := n1) List.mem_cons_self)
          have ge := frozen_of_row w3 n1 1 _ _ (H3.out.get (k := n1) List.mem_cons_self)
          go_region
          obtain ⟨w4, hw⟩ : ∃ u, u = ((w3.setCell ⟨cb, 8 + k, none⟩ (.int .i64 p.ino)).setCell ⟨n1, 1, none⟩ (.int .i64 k)).drew := ⟨_, rfl⟩
          rw [← hw]
          have H4 : Hid (Ck cb (setF S (updF S.f k p.ino)) w0 ((n1, .cells #[.int .i64 p.er, .int .i64 k, .string ⟨#[]⟩, .slice A n c, .int .i64 p.ik, .int .i64 p.il, .int .i64 p.isz] 35 (0, 0)) :: (n0, .cells (pkC p) 41 (0, 0)) :: Ls) w4) := Lib.hid (by
            rw [hw]
            have a1 := H3.out.st (T := setF S (updF S.f k p.ino)) (setF_cells S hk8 p.ino) ⟨rfl, rfl, .inl rfl, rfl, rfl, rfl⟩
            exact (a1.set rfl HNe.out).drew)
          clear hw d18 cf gf hnecb e1 ge H3
          have hq := H4.out.get (k := n1) List.mem_cons_self
          have e0 : w4.cell? ⟨n1, 0, none⟩ = some (.int .i64 p.er) := cell_of_row w4 n1 0 _ _ _ hq
          have e1 : w4.cell? ⟨n1, 1, none⟩ = some (.int .i64 k) := cell_of_row w4 n1 1 _ _ _ hq
          have e2 : w4.cell? ⟨n1, 2, none⟩ = some (.string ⟨#[]⟩) := cell_of_row w4 n1 2 _ _ _ hq
          have e3 : w4.cell? ⟨n1, 3, none⟩ = some (.slice A n c) := cell_of_row w4 n1 3 _ _ _ hq
          have e4 : w4.cell? ⟨n1, 4, none⟩ = some (.int .i64 p.ik) := cell_of_row w4 n1 4 _ _ _ hq
          have e5 : w4.cell? ⟨n1, 5, none⟩ = some (.int .i64 p.il) := cell_of_row w4 n1 5 _ _ _ hq
          have e6 : w4.cell? ⟨n1, 6, none⟩ = some (.int .i64 p.isz) := cell_of_row w4 n1 6 _ _ _ hq
          have ge := fun i => frozen_of_row w4 n1 i _ _ hq
          clear hq
          have HFi := Lib.hid (cfinish_any (S := setF S (updF S.f k p.ino)) p.er k ⟨#[]⟩ A n c p.ik p.il p.isz w4 H4.out)
          clear H4
          go_wp2_with ((with_reducible refine HFi.out.mono ?_); rintro e w9 ⟨rfl, h9⟩; have H9 := Lib.hid h9; clear h9)
          go_end0
          exact ⟨rfl, _, H9.out.less (fun q hq => List.mem_cons_of_mem _ (List.mem_cons_of_mem _ hq)), Or.inr (Or.inr ⟨_, k, A, n, c, Or.inr ⟨k, hk8, Or.inl rfl⟩, rfl⟩)⟩
      · have q1 : (p.op == 1) = false := by rw [beq_eq_false_iff_ne]; exact o1
        clear o1
        by_cases o2 : p.op = 2
        · have q2 : (p.op == 2) = true := by rw [beq_iff_eq]; exact o2
          obtain ⟨k, hfd, hk8⟩ := Hcl.out o2 (by rw [Hk.out]; simp)
          clear o2
          go_upto_region 10 with fail
          have c18 : w2.cell? ⟨cb, 18, none⟩ = some (ptrV S.wk) := H2.out.cell 18
          unfold ptrV at c18
          rw [Hk.out] at c18
          dsimp only [Option.map_some] at c18
          have f4 : w2.cell? ⟨wb, 4, none⟩ = some (.int .i64 (k : Int)) := by rw [← hfd]; exact cell_of_row w2 wb 4 _ _ _ (H2.out.work (wb := wb) Hk.out)
          have cf : w2.cell? ⟨cb, 8 + k, none⟩ = some (.int .i64 (S.f k)) := H2.out.fdAt hk8
          have gf := H2.out.fz (8 + k)
          have hk1 : (k : Int) < 8 := by omega
          have hk0 : (0 : Int) ≤ k := by omega
          clear hfd
          go_region
          obtain ⟨w4, hw⟩ : ∃ u, u = (w2.setCell ⟨cb, 8 + k, none⟩ (.int .i64 0)).drew := ⟨_, rfl⟩
          rw [← hw]
          have H4 : Hid (Ck cb (setF S (updF S.f k 0)) w0 ((n1, .cells #[.int .i64 p.er, .int .i64 0, .string ⟨#[]⟩, .slice A n c, .int .i64 p.ik, .int .i64 p.il, .int .i64 p.isz] 35 (0, 0)) :: (n0, .cells (pkC p) 41 (0, 0)) :: Ls) w4) := Lib.hid (by
            rw [hw]
            exact (H2.out.st (T := setF S (updF S.f k 0)) (setF_cells S hk8 0) ⟨rfl, rfl, .inl rfl, rfl, rfl, rfl⟩).drew)
          clear hw c18 f4 cf gf d4 d18 d19 H2
          have hq := H4.out.get (k := n1) List.mem_cons_self
          have e0 : w4.cell? ⟨n1, 0, none⟩ = some (.int .i64 p.er) := cell_of_row w4 n1 0 _ _ _ hq
          have e1 : w4.cell? ⟨n1, 1, none⟩ = some (.int .i64 0) := cell_of_row w4 n1 1 _ _ _ hq
          have e2 : w4.cell? ⟨n1, 2, none⟩ = some (.string ⟨#[]⟩) := cell_of_row w4 n1 2 _ _ _ hq
          have e3 : w4.cell? ⟨n1, 3, none⟩ = some (.slice A n c) := cell_of_row w4 n1 3 _ _ _ hq
          have e4 : w4.cell? ⟨n1, 4, none⟩ = some (.int .i64 p.ik) := cell_of_row w4 n1 4 _ _ _ hq
          have e5 : w4.cell? ⟨n1, 5, none⟩ = some (.int .i64 p.il) := cell_of_row w4 n1 5 _ _ _ hq
          have e6 : w4.cell? ⟨n1, 6, none⟩ = some (.int .i64 p.isz) := cell_of_row w4 n1 6 _ _ _ hq
          have ge := fun i => frozen_of_row w4 n1 i _ _ hq
          clear hq
          have HFi := Lib.hid (cfinish_any (S := setF S (updF S.f k 0)) p.er 0 ⟨#[]⟩ A n c p.ik p.il p.isz w4 H4.out)
          clear H4
          go_wp2_with ((with_reducible refine HFi.out.mono ?_); rintro e w9 ⟨rfl, h9⟩; have H9 := Lib.hid h9; clear h9)
          go_end0
          exact ⟨rfl, _, H9.out.less (fun q hq => List.mem_cons_of_mem _ (List.mem_cons_of_mem _ hq)), Or.inr (Or.inr ⟨_, 0, A, n, c, Or.inr ⟨k, hk8, Or.inr rfl⟩, rfl⟩)⟩
        · have q2 : (p.op == 2) = false := by rw [beq_eq_false_iff_ne]; exact o2
          clear o2
          go_upto_region 11 with fail
          clear d4 d18 d19
          have hq := H2.out.get (k := n1) List.mem_cons_self
          have e0 : w2.cell? ⟨n1, 0, none⟩ = some (.int .i64 p.er) := cell_of_row w2 n1 0 _ _ _ hq
          have e1 : w2.cell? ⟨n1, 1, none⟩ = some (.int .i64 0) := cell_of_row w2 n1 1 _ _ _ hq
          have e2 : w2.cell? ⟨n1, 2, none⟩ = some (.string ⟨#[]⟩) := cell_of_row w2 n1 2 _ _ _ hq
          have e3 : w2.cell? ⟨n1, 3, none⟩ = some (.slice A n c) := cell_of_row w2 n1 3 _ _ _ hq
          have e4 : w2.cell? ⟨n1, 4, none⟩ = some (.int .i64 p.ik) := cell_of_row w2 n1 4 _ _ _ hq
          have e5 : w2.cell? ⟨n1, 5, none⟩ = some (.int .i64 p.il) := cell_of_row w2 n1 5 _ _ _ hq
          have e6 : w2.cell? ⟨n1, 6, none⟩ = some (.int .i64 p.isz) := cell_of_row w2 n1 6 _ _ _ hq
          have ge := fun i => frozen_of_row w2 n1 i _ _ hq
          clear hq
          have HFi := Lib.hid (cfinish_any (S := S) p.er 0 ⟨#[]⟩ A n c p.ik p.il p.isz w2 H2.out)
          clear H2
          go_wp2_with ((with_reducible refine HFi.out.mono ?_); rintro e w9 ⟨rfl, h9⟩; have H9 := Lib.hid h9; clear h9)
          go_end0
          exact ⟨rfl, _, H9.out.less (fun q hq => List.mem_cons_of_mem _ (List.mem_cons_of_mem _ hq)), Or.inr (Or.inr ⟨S.f, 0, A, n, c, Or.inl rfl, rfl⟩)⟩
    · have q0 : (p.er != 0) = true := by simpa using e0
      clear e0
      have hq := H2.out.get (k := n1) List.mem_cons_self
      have e0 : w2.cell? ⟨n1, 0, none⟩ = some (.int .i64 p.er) := cell_of_row w2 n1 0 _ _ _ hq
      have e1 : w2.cell? ⟨n1, 1, none⟩ = some (.int .i64 0) := cell_of_row w2 n1 1 _ _ _ hq
      have e2 : w2.cell? ⟨n1, 2, none⟩ = some (.string ⟨#[]⟩) := cell_of_row w2 n1 2 _ _ _ hq
      have e3 : w2.cell? ⟨n1, 3, none⟩ = some (.slice A n c) := cell_of_row w2 n1 3 _ _ _ hq
      have e4 : w2.cell? ⟨n1, 4, none⟩ = some (.int .i64 p.ik) := cell_of_row w2 n1 4 _ _ _ hq
      have e5 : w2.cell? ⟨n1, 5, none⟩ = some (.int .i64 p.il) := cell_of_row w2 n1 5 _ _ _ hq
      have e6 : w2.cell? ⟨n1, 6, none⟩ = some (.int .i64 p.isz) := cell_of_row w2 n1 6 _ _ _ hq
      have ge := fun i => frozen_of_row w2 n1 i _ _ hq
      clear hq
      go_upto_region 11 with fail
      obtain ⟨w3, hw⟩ : ∃ u, u = w2.setCells n1 0 [.int .i64 p.er, .int .i64 0, .string ⟨#[]⟩, .slice none 0 0, .int .i64 0, .int .i64 0, .int .i64 0] := ⟨_, rfl⟩
      have H3 : Hid (Ck cb S w0 ((n1, .cells #[.int .i64 p.er, .int .i64 0, .string ⟨#[]⟩, .slice none 0 0, .int .i64 0, .int .i64 0, .int .i64 0] 35 (0, 0)) :: (n0, .cells (pkC p) 41 (0, 0)) :: Ls) w3) := Lib.hid (by rw [hw]; exact H2.out.setAll HNe.out rfl)
      dsimp only [World.setCells] at hw
      rw [← hw]
      clear hw e0 e1 e2 e3 e4 e5 e6 ge d4 d18 d19 H2
      have hq := H3.out.get (k := n1) List.mem_cons_self
      have e0 : w3.cell? ⟨n1, 0, none⟩ = some (.int .i64 p.er) := cell_of_row w3 n1 0 _ _ _ hq
      have e1 : w3.cell? ⟨n1, 1, none⟩ = some (.int .i64 0) := cell_of_row w3 n1 1 _ _ _ hq
      have e2 : w3.cell? ⟨n1, 2, none⟩ = some (.string ⟨#[]⟩) := cell_of_row w3 n1 2 _ _ _ hq
      have e3 : w3.cell? ⟨n1, 3, none⟩ = some (.slice none 0 0) := cell_of_row w3 n1 3 _ _ _ hq
      have e4 : w3.cell? ⟨n1, 4, none⟩ = some (.int .i64 0) := cell_of_row w3 n1 4 _ _ _ hq
      have e5 : w3.cell? ⟨n1, 5, none⟩ = some (.int .i64 0) := cell_of_row w3 n1 5 _ _ _ hq
      have e6 : w3.cell? ⟨n1, 6, none⟩ = some (.int .i64 0) := cell_of_row w3 n1 6 _ _ _ hq
      have ge := fun i => frozen_of_row w3 n1 i _ _ hq
      clear hq
      have HFi := Lib.hid (cfinish_any (S := S) p.er 0 ⟨#[]⟩ none 0 0 0 0 0 w3 H3.out)
      clear H3
      go_wp2_with ((with_reducible refine HFi.out.mono ?_); rintro e w9 ⟨rfl, h9⟩; have H9 := Lib.hid h9; clear h9)
      go_end0
      exact ⟨rfl, _, H9.out.less (fun q hq => List.mem_cons_of_mem _ (List.mem_cons_of_mem _ hq)), Or.inr (Or.inl rfl)⟩
end
end Go.Proofs.YtiinponoeaihcaaGreat

/- A client: what was got grows; the records of a lease grow. -/
namespace Go.Proofs.YtiinponoeaihcaaGreat
open Go.RowKit Go.Shelf

theorem row_blk {w : World} {B e s n : Nat} {v : Value} {xs : List Value} (h : w.ownsRow B e s v n xs) {r : Nat} (hr : v.ownBlock = some r) : ∃ C, w.heap[r]? = some (.cells C e (0, 0)) := by
  rcases h.2 with ⟨rfl, _⟩ | ⟨g, cap, cur, rfl, _, hg, _⟩
  · cases hr
  · cases hr
    exact ⟨_, hg⟩
theorem wp_append_atK {P : Program} {o : Oper} {a : Act} {w : World} {K : Act → World → Prop} {Q : Exit → Act → World → Prop} (s x : Operand) (t : TypeId)
    (ho : o.op = .call { callee := .builtin .append, args := #[s, x], argTypes := #[t, t] })
    (base : Nat) (e : TypeId) (i : TypeInfo) (z : Value) (size bytes : Nat) (ht : P.underlying t = some (.slice e)) (hi : P.info? e = some i) (hz : i.zero = some z)
    (hsize : i.size = size) (hby : i.bytes = bytes) (hzs : z.cells.size = size) (hsz : 0 < size)
    (v : Value) (n : Nat) (xs : List Value) (hs : a.eval s = v) (hown : w.ownsRow base e size v n xs)
    (ad : Addr) (m c : Nat) (news : List Value) (hx : a.eval x = .slice (some ad) m c) (hl : news.length = m * size) (hnews : ∀ j u, news[j]? = some u → w.cell? (ad.add j) = some u) (h1 : ∀ u ∈ news, u.oneCell' = true)
    (h63 : n + m ≤ maxLen) (hbytes : (n + m) * bytes ≤ 140737488355328) (hbase : base ≤ w.heap.size)
    (h : ∀ v' w', w'.ownsRow base e size v' (n + m) (xs ++ news) → w.grownBy w' v.ownBlock → (v'.ownBlock = v.ownBlock ∨ v'.ownBlock = some w.heap.size) → K (a.put o.dst v') w') : o.wp P a w K Q := by
  obtain ⟨v', w', hr, h2, h3, h4, h5⟩ := run_append_own_at (P := P) w base t o.type e i z size bytes ht hi hz hsize hby hzs hsz v n xs hown ad m c news hl hnews h1 h63 hbytes hbase
  unfold Oper.wp execOp
  simp only [ho, resolve, invoke, builtin, Sem.run_bind, Sem.run_pure, Result.andThen_ok, List.map_toArray, List.map_cons, List.map_nil, hs, hx, hr]
  exact h v' w' h2 h3 h5
section
variable {cb : Nat} {S : Cs} {w0 : World} {Ls : List (Nat × Obj)}
theorem Ck.gotApp {w w1 : World} {wb : Nat} {d : ByteArray} {v : Value} (h : Ck cb S w0 Ls w) (hk : S.wk = some wb) (hrow : w1.ownsRow 0 9 1 v (S.K.got.length + 1) (S.K.got.map .string ++ [.string d])) (hg : w.grownBy w1 S.K.gv.ownBlock)
    (hloc : v.ownBlock = S.K.gv.ownBlock ∨ v.ownBlock = some w.heap.size) : Ck cb { S with K := { S.K with gv := v, got := S.K.got ++ [d] } } w0 Ls (w1.setCell ⟨wb, 8, none⟩ v) := by
  refine h.turn fun F hF => ?_
  obtain ⟨a1, a2, a3, a4⟩ := hF.work wb hk
  have hO1 : Only F w w1 := grown_only hg fun k e => a4 k e
  have hO : Only F w (w1.setCell ⟨wb, 8, none⟩ v) := hO1.trans (only_setCell _ _ _ a2) fun _ _ e => e
  have hoth : ∀ k, k < w.heap.size → k ≠ wb → S.K.gv.ownBlock ≠ some k → (w1.setCell ⟨wb, 8, none⟩ v).heap[k]? = w.heap[k]? := fun k hk h1 h2 => (Go.heap_setCell_other w1 ⟨wb, 8, none⟩ k v h1).trans (hg.block k hk (fun e => h2 e.symm))
  have hty : ∀ {k : Nat} {C : Array Value} {t : TypeId} {f : Nat × Nat}, w.heap[k]? = some (.cells C t f) → t ≠ 70 → t ≠ 9 → (w1.setCell ⟨wb, 8, none⟩ v).heap[k]? = w.heap[k]? := fun {k C t f} hk h1 h2 => hoth k (lt_get hk) (lc_ne hk a1 h1) fun e => by
    obtain ⟨C', hC'⟩ := row_blk a3 e
    exact lc_ne hC' hk (fun e => h2 e.symm) rfl
  have hmp : ∀ {k : Nat} {es : Array MapEntry} {c : Nat}, w.heap[k]? = some (.map es c) → (w1.setCell ⟨wb, 8, none⟩ v).heap[k]? = w.heap[k]? := fun {k es c} hk => hoth k (lt_get hk) (map_ne a1 hk) fun e => by
    obtain ⟨C', hC'⟩ := row_blk a3 e
    exact map_ne hC' hk rfl
  have hwb : S.K.gv.ownBlock ≠ some wb := fun e => row_ne a3 a1 (by decide) wb e rfl
  have hw1 : w1.heap[wb]? = some (.cells (wkC S.K) 70 (0, 0)) := (hg.block wb (lt_get a1) (fun e => hwb e.symm)).trans a1
  refine ⟨fun k => F k ∨ v.ownBlock = some k, ⟨(hty hF.obj (by decide) (by decide)).trans hF.obj, Or.inl hF.f, fun k hk => ?_, fun m hm => ?_, fun m hm => ?_, fun b hb => ?_, hF.mne⟩, hO, fun k hk => hk.elim Or.inl fun e => ?_⟩
  · rcases hk with hk | e
    · exact Nat.lt_of_lt_of_le (hF.tight k hk) hO.size
    · obtain ⟨C, hC⟩ := row_blk hrow e
      have := lt_get hC
      simpa using this
  · have hH := hF.hold m hm
    obtain ⟨D, hD, hDa⟩ := hH.own
    refine ⟨Or.inl hH.f, ⟨D, ?_, hDa⟩, fun i H hi => ⟨?_, (hH.at_ i H hi).2⟩, hH.ne⟩
    · have hD2 := hD
      obtain ⟨es, ck, he, _⟩ := hD
      exact map_keep hD2 (hmp he)
    · obtain ⟨⟨b1, b2, b3, b4⟩, -⟩ := hH.at_ i H hi
      refine ⟨(hty b1 (by decide) (by decide)).trans b1, Or.inl b2, row_keep b3 fun k hk => ?_, fun r hr => Or.inl (b4 r hr)⟩
      obtain ⟨C, hC⟩ := row_blk b3 hk
      exact hty hC (by decide) (by decide)
  · obtain ⟨b1, b2⟩ := hF.want m hm
    refine ⟨Or.inl b1, ?_⟩
    have hD2 := b2
    obtain ⟨es, ck, he, _⟩ := b2
    exact map_keep hD2 (hmp he)
  · obtain rfl : wb = b := Option.some.inj (hk.symm.trans hb)
    refine ⟨?_, Or.inl a2, ?_, fun r hr => Or.inr hr⟩
    · exact Go.heap_setCell_same w1 wb 8 _ _ _ hw1
    · refine row_set ?_ _ _ fun k hk => row_ne hrow hw1 (by decide) k hk
      show w1.ownsRow 0 _ 1 v (S.K.got ++ [d]).length ((S.K.got ++ [d]).map .string)
      rw [List.length_append, List.map_append]
      exact hrow
  · rcases hloc with h1 | h1
    · exact Or.inl (a4 k (by rw [← h1]; exact e))
    · rw [h1] at e
      cases e
      exact Or.inr (Nat.le_refl _)
/-- a lease with one record more -/
def moreH (H : Hd) (v : Value) (r : Gd.Rec) : Hd := { H with rv := v, ov := H.ov ++ [r] }
theorem Ck.ovApp {w w1 : World} {m : Nat} {i : Int} {H : Hd} {r : Gd.Rec} {v : Value} (h : Ck cb S w0 Ls w) (hm : S.hm = some m) (hH : S.hold i = some H) (hrow : w1.ownsRow 0 112 5 v (H.ov.length + 1) (recsC (H.ov ++ [r]))) (hg : w.grownBy w1 H.rv.ownBlock)
    (hloc : v.ownBlock = H.rv.ownBlock ∨ v.ownBlock = some w.heap.size) : Ck cb (setHold S (updH S.hold i (some (moreH H v r)))) w0 Ls (w1.setCell ⟨H.b, 17, none⟩ v) := by
  refine h.turn fun F hF => ?_
  have hHo := hF.hold m hm
  obtain ⟨⟨a1, a2, a3, a4⟩, a5⟩ := hHo.at_ i H hH
  have hO1 : Only F w w1 := grown_only hg fun k e => a4 k e
  have hO : Only F w (w1.setCell ⟨H.b, 17, none⟩ v) := hO1.trans (only_setCell _ _ _ a2) fun _ _ e => e
  have hoth : ∀ k, k < w.heap.size → k ≠ H.b → H.rv.ownBlock ≠ some k → (w1.setCell ⟨H.b, 17, none⟩ v).heap[k]? = w.heap[k]? := fun k hk h1 h2 => (Go.heap_setCell_other w1 ⟨H.b, 17, none⟩ k v h1).trans (hg.block k hk (fun e => h2 e.symm))
  have hty : ∀ {k : Nat} {C : Array Value} {t : TypeId} {f : Nat × Nat}, w.heap[k]? = some (.cells C t f) → t ≠ 105 → t ≠ 112 → (w1.setCell ⟨H.b, 17, none⟩ v).heap[k]? = w.heap[k]? := fun {k C t f} hk h1 h2 => hoth k (lt_get hk) (lc_ne hk a1 h1) fun e => by
    obtain ⟨C', hC'⟩ := row_blk a3 e
    exact lc_ne hC' hk (fun e => h2 e.symm) rfl
  have hmp : ∀ {k : Nat} {es : Array MapEntry} {c : Nat}, w.heap[k]? = some (.map es c) → (w1.setCell ⟨H.b, 17, none⟩ v).heap[k]? = w.heap[k]? := fun {k es c} hk => hoth k (lt_get hk) (map_ne a1 hk) fun e => by
    obtain ⟨C', hC'⟩ := row_blk a3 e
    exact map_ne hC' hk rfl
  have hwb : H.rv.ownBlock ≠ some H.b := fun e => row_ne a3 a1 (by decide) H.b e rfl
  have hw1 : w1.heap[H.b]? = some (.cells (hdC H) 105 (0, 0)) := (hg.block H.b (lt_get a1) (fun e => hwb e.symm)).trans a1
  have hnew : HdAt (w1.setCell ⟨H.b, 17, none⟩ v) (fun k => F k ∨ v.ownBlock = some k) (moreH H v r) := by
    refine ⟨Go.heap_setCell_same w1 H.b 17 _ _ _ hw1, Or.inl a2, ?_, fun r hr => Or.inr hr⟩
    refine row_set ?_ _ _ fun k hk => row_ne hrow hw1 (by decide) k hk
    show w1.ownsRow 0 _ 5 v (H.ov ++ [r]).length _
    rw [List.length_append]
    exact hrow
  refine ⟨fun k => F k ∨ v.ownBlock = some k, ⟨(hty hF.obj (by decide) (by decide)).trans hF.obj, Or.inl hF.f, fun k hk => ?_, fun m2 hm2 => ?_, fun m2 hm2 => ?_, fun b hb => ?_, hF.mne⟩, hO, fun k hk => hk.elim Or.inl fun e => ?_⟩
  · rcases hk with hk | e
    · exact Nat.lt_of_lt_of_le (hF.tight k hk) hO.size
    · obtain ⟨C, hC⟩ := row_blk hrow e
      have := lt_get hC
      simpa using this
  · obtain rfl : m = m2 := Option.some.inj (hm.symm.trans hm2)
    obtain ⟨D, hD, hDa⟩ := hHo.own
    have hold : ∀ j J, j ≠ i → S.hold j = some J → HdAt (w1.setCell ⟨H.b, 17, none⟩ v) (fun k => F k ∨ v.ownBlock = some k) J ∧ I64 j := fun j J hne hj => by
      obtain ⟨⟨b1, b2, b3, b4⟩, b5⟩ := hHo.at_ j J hj
      obtain ⟨n1, n2⟩ := hHo.ne j i J H hj hH hne
      have hr : ∀ k, J.rv.ownBlock = some k → H.rv.ownBlock ≠ some k := n2
      refine ⟨⟨(hoth _ (lt_get b1) n1 fun e => ?_).trans b1, Or.inl b2, row_keep b3 fun k hk => ?_, fun r hr => Or.inl (b4 r hr)⟩, b5⟩
      · obtain ⟨C', hC'⟩ := row_blk a3 e
        exact lc_ne hC' b1 (by decide) rfl
      · obtain ⟨C, hC⟩ := row_blk b3 hk
        exact hoth k (lt_get hC) (lc_ne hC a1 (by decide)) (hr k hk)
    refine ⟨Or.inl hHo.f, ⟨D, ?_, fun j zd hj => ?_⟩, fun j J hj => ?_, fun j k J K hj hk hne => ?_⟩
    · have hD2 := hD
      obtain ⟨es, ck, he, _⟩ := hD
      exact map_keep hD2 (hmp he)
    · rw [hDa j zd hj]
      show _ = match (if j = i then some (moreH H v r) else S.hold j) with | none => zd | some H => .lit (.int .i64 H.b)
      by_cases e : j = i
      · subst e
        rw [hH, if_pos rfl]
        rfl
      · rw [if_neg e]
        cases S.hold j <;> rfl
    · change updH S.hold i (some (moreH H v r)) j = some J at hj
      unfold updH at hj
      split at hj
      · rename_i e
        subst e
        cases hj
        exact ⟨hnew, a5⟩
      · rename_i e
        exact hold j J e hj
    · change updH S.hold i (some (moreH H v r)) j = some J at hj
      change updH S.hold i (some (moreH H v r)) k = some K at hk
      have hfresh : ∀ j J, j ≠ i → S.hold j = some J → ∀ q, J.rv.ownBlock = some q → v.ownBlock ≠ some q := fun j J hne hj q hq e => by
        rcases hloc with h1 | h1
        · rw [h1] at e
          exact (hHo.ne j i J H hj hH hne).2 q hq e
        · rw [h1] at e
          cases e
          have := lt_get (row_blk (hHo.at_ j J hj).1.2.2.1 hq).choose_spec
          omega
      unfold updH at hj hk
      split at hj
      · rename_i e
        subst e
        cases hj
        rw [if_neg (fun e => hne e.symm)] at hk
        exact ⟨(hHo.ne _ _ H K hH hk hne).1, fun q hq e => hfresh k K (fun e => hne e.symm) hk q e hq⟩
      · rename_i e
        split at hk
        · rename_i e2
          subst e2
          cases hk
          exact ⟨(hHo.ne _ _ J H hj hH e).1, fun q hq e2 => hfresh j J e hj q hq e2⟩
        · exact hHo.ne j k J K hj hk hne
  · obtain ⟨b1, b2⟩ := hF.want m2 hm2
    refine ⟨Or.inl b1, ?_⟩
    have hD2 := b2
    obtain ⟨es, ck, he, _⟩ := b2
    exact map_keep hD2 (hmp he)
  · obtain ⟨b1, b2, b3, b4⟩ := hF.work b hb
    refine ⟨(hty b1 (by decide) (by decide)).trans b1, Or.inl b2, row_keep b3 fun k hk => ?_, fun r hr => Or.inl (b4 r hr)⟩
    obtain ⟨C, hC⟩ := row_blk b3 hk
    exact hty hC (by decide) (by decide)
  · rcases hloc with h1 | h1
    · exact Or.inl (a4 k (by rw [← h1]; exact e))
    · rw [h1] at e
      cases e
      exact Or.inr (Nat.le_refl _)
end
end Go.Proofs.YtiinponoeaihcaaGreat
