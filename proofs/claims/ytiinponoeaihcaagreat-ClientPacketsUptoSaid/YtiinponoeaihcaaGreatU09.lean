/- A client: look. -/
import Derived.Test.YtiinponoeaihcaaGreatU08
import Derived.Deep.RegionHeld3
set_option linter.unusedVariables false
set_option linter.unusedSimpArgs false
set_option linter.unusedSectionVars false
namespace Go.Proofs.YtiinponoeaihcaaGreat
open Go.RowKit Go.Shelf

attribute [local go_sem] Oper.semAt_some
/-- a call that is not answered at once -/
def OkW (f : Nat → Int) (K : Wk) : Prop :=
  (K.kd = 1 ∧ 0 ≤ K.fl ∧ K.fl ≤ 3 ∧ K.p1.size ≤ 100) ∨ ((K.kd = 9 ∨ K.kd = 11) ∧ K.p1.size ≤ 100 ∧ K.p2.size ≤ 100) ∨ ((K.kd = 7 ∨ K.kd = 8 ∨ K.kd = 10 ∨ K.kd = 12 ∨ K.kd = 13) ∧ K.p1.size ≤ 100) ∨
  (inoF f K.fd ≠ 0 ∧ (K.kd = 2 ∨ (K.kd = 3 ∧ 0 ≤ K.off ∧ 0 ≤ K.n ∧ K.n ≤ 64) ∨ (K.kd = 4 ∧ 0 ≤ K.off ∧ K.off + K.d.size ≤ 256 ∧ K.d.size ≤ 64) ∨ (K.kd = 5 ∧ 0 ≤ K.n ∧ K.n ≤ 256)))
section
variable {cb : Nat} {S : Cs} {w0 : World} {Ls : List (Nat × Obj)}
theorem once_any (K : Wk) (hf : I64 K.fd) (w : World) (h : Ck cb S w0 Ls w) :
    Calls Tryz.prog 48 #[pC cb, .agg #[.int .i64 K.kd, .string K.p1, .string K.p2, .int .i64 K.fl, .int .i64 K.fd, .int .i64 K.off, .int .i64 K.n, .string K.d]] w fun e w' => ∃ (er : Int) (is : Bool), e = .returned (.tuple #[.int .i64 er, .bool is]) ∧ (is = false → OkW S.f K) ∧ Below w.heap.size w w' := by
  obtain ⟨kd, p1, p2, fl, fd, off, n, d, _, _, _, _⟩ := K
  dsimp only at hf ⊢
  have go : ∀ {er : Int} {is : Bool} (_ : Calls Tryz.prog 48 #[pC cb, .agg #[.int .i64 kd, .string p1, .string p2, .int .i64 fl, .int .i64 fd, .int .i64 off, .int .i64 n, .string d]] w fun e w' => e = .returned (.tuple #[.int .i64 er, .bool is]) ∧ Below w.heap.size w w') (_ : is = false → OkW S.f ⟨kd, p1, p2, fl, fd, off, n, d, .slice none 0 0, [], false, 0⟩),
      Calls Tryz.prog 48 #[pC cb, .agg #[.int .i64 kd, .string p1, .string p2, .int .i64 fl, .int .i64 fd, .int .i64 off, .int .i64 n, .string d]] w fun e w' => ∃ (er : Int) (is : Bool), e = .returned (.tuple #[.int .i64 er, .bool is]) ∧ (is = false → OkW S.f ⟨kd, p1, p2, fl, fd, off, n, d, .slice none 0 0, [], false, 0⟩) ∧ Below w.heap.size w w' := fun hC hi => hC.mono fun e w' he => ⟨_, _, he.1, hi, he.2⟩
  change Calls _ _ _ _ fun e w' => ∃ (er : Int) (is : Bool), e = .returned (.tuple #[.int .i64 er, .bool is]) ∧ (is = false → OkW S.f ⟨kd, p1, p2, fl, fd, off, n, d, .slice none 0 0, [], false, 0⟩) ∧ Below w.heap.size w w'
  by_cases hk : kd < 1 ∨ 13 < kd
  · exact go (once_else kd p1 p2 fl fd off n d hf hk w h) (by simp)
  rcases (by omega : kd = 1 ∨ kd = 2 ∨ kd = 3 ∨ kd = 4 ∨ kd = 5 ∨ kd = 6 ∨ kd = 7 ∨ kd = 8 ∨ kd = 9 ∨ kd = 10 ∨ kd = 11 ∨ kd = 12 ∨ kd = 13) with rfl | rfl | rfl | rfl | rfl | rfl | rfl | rfl | rfl | rfl | rfl | rfl | rfl
  · by_cases h1 : fl < 0
    · exact go (once_open_neg p1 p2 fl fd off n d hf h1 w h) (by simp)
    by_cases h2 : 3 < fl
    · exact go (once_open_big p1 p2 fl fd off n d hf h2 w h) (by simp)
    by_cases h3 : fl = 2
    · exact go (once_open_only p1 p2 fl fd off n d hf h3 w h) (by simp)
    exact go (once_open_ok p1 p2 fl fd off n d hf ⟨by omega, by omega, h3⟩ w h) (fun hi => by
      have := of_decide_eq_false hi
      exact Or.inl ⟨rfl, show 0 ≤ fl by omega, show fl ≤ 3 by omega, show p1.size ≤ 100 by omega⟩)
  · by_cases h1 : inoF S.f fd = 0
    · exact go (once_close_none p1 p2 fl fd off n d hf h1 w h) (by simp)
    exact go (once_close_ok p1 p2 fl fd off n d hf h1 w h) (fun _ => Or.inr (Or.inr (Or.inr ⟨h1, Or.inl rfl⟩)))
  · by_cases h1 : inoF S.f fd = 0
    · exact go (once_read_none p1 p2 fl fd off n d hf h1 w h) (by simp)
    by_cases h2 : off < 0
    · exact go (once_read_off p1 p2 fl fd off n d hf h1 h2 w h) (by simp)
    by_cases h3 : n < 0
    · exact go (once_read_neg p1 p2 fl fd off n d hf h1 h2 h3 w h) (by simp)
    exact go (once_read_ok p1 p2 fl fd off n d hf h1 h2 h3 w h) (fun hi => by
      have := of_decide_eq_false hi
      exact Or.inr (Or.inr (Or.inr ⟨h1, Or.inr (Or.inl ⟨rfl, show 0 ≤ off by omega, show 0 ≤ n by omega, show n ≤ 64 by omega⟩)⟩)))
  · by_cases h1 : inoF S.f fd = 0
    · exact go (once_write_none p1 p2 fl fd off n d hf h1 w h) (by simp)
    by_cases h2 : off < 0
    · exact go (once_write_off p1 p2 fl fd off n d hf h1 h2 w h) (by simp)
    by_cases h3 : (64 : Int) < d.size
    · exact go (once_write_big p1 p2 fl fd off n d hf h1 h2 h3 w h) (by simp)
    cases h4 : d.toList.isEmpty with
    | true => exact go (once_write_nil p1 p2 fl fd off n d hf h1 h2 h3 h4 w h) (by simp)
    | false =>
      exact go (once_write_ok p1 p2 fl fd off n d hf h1 h2 h3 h4 w h) (fun hi => by
        have := of_decide_eq_false hi
        exact Or.inr (Or.inr (Or.inr ⟨h1, Or.inr (Or.inr (Or.inl ⟨rfl, show 0 ≤ off by omega, show off + d.size ≤ 256 by omega, show d.size ≤ 64 by omega⟩))⟩)))
  · by_cases h1 : inoF S.f fd = 0
    · exact go (once_trunc_none p1 p2 fl fd off n d hf h1 w h) (by simp)
    by_cases h3 : n < 0
    · exact go (once_trunc_neg p1 p2 fl fd off n d hf h1 h3 w h) (by simp)
    exact go (once_trunc_ok p1 p2 fl fd off n d hf h1 h3 w h) (fun hi => by
      have := of_decide_eq_false hi
      exact Or.inr (Or.inr (Or.inr ⟨h1, Or.inr (Or.inr (Or.inr ⟨rfl, show 0 ≤ n by omega, show n ≤ 256 by omega⟩))⟩)))
  · by_cases h1 : inoF S.f fd = 0
    · exact go (once_sync_none p1 p2 fl fd off n d hf h1 w h) (by simp)
    exact go (once_sync_ok p1 p2 fl fd off n d hf h1 w h) (by simp)
  · exact go (once_mkdir p1 p2 fl fd off n d hf w h) (fun hi => by have := of_decide_eq_false hi; exact Or.inr (Or.inr (Or.inl ⟨Or.inl rfl, show p1.size ≤ 100 by omega⟩)))
  · exact go (once_rmdir p1 p2 fl fd off n d hf w h) (fun hi => by have := of_decide_eq_false hi; exact Or.inr (Or.inr (Or.inl ⟨Or.inr (Or.inl rfl), show p1.size ≤ 100 by omega⟩)))
  · by_cases h1 : (100 : Int) < p1.size
    · exact go (once_link_big p1 p2 fl fd off n d hf h1 w h) (by simp)
    exact go (once_link_ok p1 p2 fl fd off n d hf h1 w h) (fun hi => by have := of_decide_eq_false hi; exact Or.inr (Or.inl ⟨Or.inl rfl, show p1.size ≤ 100 by omega, show p2.size ≤ 100 by omega⟩))
  · exact go (once_unlink p1 p2 fl fd off n d hf w h) (fun hi => by have := of_decide_eq_false hi; exact Or.inr (Or.inr (Or.inl ⟨Or.inr (Or.inr (Or.inl rfl)), show p1.size ≤ 100 by omega⟩)))
  · by_cases h1 : (100 : Int) < p1.size
    · exact go (once_rename_big p1 p2 fl fd off n d hf h1 w h) (by simp)
    exact go (once_rename_ok p1 p2 fl fd off n d hf h1 w h) (fun hi => by have := of_decide_eq_false hi; exact Or.inr (Or.inl ⟨Or.inr rfl, show p1.size ≤ 100 by omega, show p2.size ≤ 100 by omega⟩))
  · exact go (once_list p1 p2 fl fd off n d hf w h) (fun hi => by have := of_decide_eq_false hi; exact Or.inr (Or.inr (Or.inl ⟨Or.inr (Or.inr (Or.inr (Or.inl rfl))), show p1.size ≤ 100 by omega⟩)))
  · exact go (once_stat p1 p2 fl fd off n d hf w h) (fun hi => by have := of_decide_eq_false hi; exact Or.inr (Or.inr (Or.inl ⟨Or.inr (Or.inr (Or.inr (Or.inr rfl))), show p1.size ≤ 100 by omega⟩)))
theorem Ck.work {w : World} {wb : Nat} (h : Ck cb S w0 Ls w) (hk : S.wk = some wb) : w.heap[wb]? = some (.cells (wkC S.K) 70 (0, 0)) := by
  obtain ⟨F, h1, _⟩ := h
  exact (h1.work wb hk).1
/-- an answer that is an error alone -/
abbrev failS (S : Cs) (er : Int) : Cs := finS S er 0 ⟨#[]⟩ (.slice none 0 0) 0 0 0
set_option maxHeartbeats 4000000 in
set_option maxRecDepth 100000 in
theorem clook_no (hn : S.wk = none ∨ S.ep = 0) (w : World) (h : Ck cb S w0 Ls w) :
    Calls Tryz.prog 20 #[pC cb] w fun e w' => e = .returned (.tuple #[]) ∧ w' = w := by
  have c18 : w.cell? ⟨cb, 18, none⟩ = some (ptrV S.wk) := h.cell 18
  have c4 : w.cell? ⟨cb, 4, none⟩ = some (.int .i64 S.ep) := h.cell 4
  unfold ptrV at c18
  clear h
  cases hk : S.wk with
  | none =>
    rw [hk] at c18
    dsimp only [Option.map_none] at c18
    clear hn
    go_enter Tryz.func20, Tryz.ntmps20
    go_wp2_with fail
    refine bodyPost_ret (results_none rfl _ _ _) rfl ?_
    exact ⟨rfl, rfl⟩
  | some b =>
    rw [hk] at c18 hn
    have he : S.ep = 0 := hn.resolve_left (by simp)
    rw [he] at c4
    dsimp only [Option.map_some] at c18
    clear hn he
    go_enter Tryz.func20, Tryz.ntmps20
    go_wp2_with fail
    refine bodyPost_ret (results_none rfl _ _ _) rfl ?_
    exact ⟨rfl, rfl⟩
set_option maxHeartbeats 4000000 in
set_option maxRecDepth 100000 in
theorem clook_yes (P : Int → Bool → Prop) {wb : Nat} (hk : S.wk = some wb) (he : S.ep ≠ 0) (w : World) (h : Ck cb S w0 Ls w)
    (hC : Calls Tryz.prog 48 #[pC cb, .agg #[.int .i64 S.K.kd, .string S.K.p1, .string S.K.p2, .int .i64 S.K.fl, .int .i64 S.K.fd, .int .i64 S.K.off, .int .i64 S.K.n, .string S.K.d]] w fun e w' => ∃ (er : Int) (is : Bool), e = .returned (.tuple #[.int .i64 er, .bool is]) ∧ P er is ∧ Below w.heap.size w w') :
    Calls Tryz.prog 20 #[pC cb] w fun e w' => e = .returned (.tuple #[]) ∧ ∃ (er : Int) (is : Bool), P er is ∧ Ck cb (if is then failS S er else S) w0 Ls w' := by
  have c18 : w.cell? ⟨cb, 18, none⟩ = some (ptrV S.wk) := h.cell 18
  have c4 : w.cell? ⟨cb, 4, none⟩ = some (.int .i64 S.ep) := h.cell 4
  unfold ptrV at c18
  rw [hk] at c18
  dsimp only [Option.map_some] at c18
  have he2 : (S.ep == 0) = false := by simpa using he
  have hb := h.work hk
  have d0 : w.cell? ⟨wb, 0, none⟩ = some (.int .i64 S.K.kd) := cell_of_row w wb 0 _ _ _ hb
  have d1 : w.cell? ⟨wb, 1, none⟩ = some (.string S.K.p1) := cell_of_row w wb 1 _ _ _ hb
  have d2 : w.cell? ⟨wb, 2, none⟩ = some (.string S.K.p2) := cell_of_row w wb 2 _ _ _ hb
  have d3 : w.cell? ⟨wb, 3, none⟩ = some (.int .i64 S.K.fl) := cell_of_row w wb 3 _ _ _ hb
  have d4 : w.cell? ⟨wb, 4, none⟩ = some (.int .i64 S.K.fd) := cell_of_row w wb 4 _ _ _ hb
  have d5 : w.cell? ⟨wb, 5, none⟩ = some (.int .i64 S.K.off) := cell_of_row w wb 5 _ _ _ hb
  have d6 : w.cell? ⟨wb, 6, none⟩ = some (.int .i64 S.K.n) := cell_of_row w wb 6 _ _ _ hb
  have d7 : w.cell? ⟨wb, 7, none⟩ = some (.string S.K.d) := cell_of_row w wb 7 _ _ _ hb
  have H := Lib.hid h
  have HC := Lib.hid hC
  clear h hC hb hk he
  go_enter Tryz.func20, Tryz.ntmps20
  go_upto_region 2 with ((with_reducible refine HC.out.mono ?_); rintro e w1 ⟨er, is, rfl, hP, hb⟩; have HP := Lib.hid hP; have HB := Lib.hid hb; clear hP hb)
  have H1 := Lib.hid (H.out.below HB.out)
  clear c18 c4 d0 d1 d2 d3 d4 d5 d6 d7 HC HB H
  cases is with
  | false =>
    go_wp2_with fail
    go_end0
    exact ⟨rfl, er, false, HP.out, H1.out⟩
  | true =>
    have HF := Lib.hid (cfails_any er w1 H1.out)
    clear H1
    go_wp2_with ((with_reducible refine HF.out.mono ?_); rintro e w2 ⟨rfl, hk2⟩; have HK := Lib.hid hk2; clear hk2)
    go_end0
    exact ⟨rfl, er, true, HP.out, HK.out⟩
end
end Go.Proofs.YtiinponoeaihcaaGreat

/- A client: names. -/
namespace Go.Proofs.YtiinponoeaihcaaGreat
open Go.RowKit Go.Shelf

attribute [local go_sem] Oper.semAt_some
/-- what a question on paths bears beside its first path -/
def NamesP (K : Wk) (p2 : ByteArray) (fl : Int) : Prop :=
  (p2 = K.p2 ∧ (K.kd = 9 ∨ K.kd = 11) ∧ fl = 0) ∨ (p2 = ⟨#[]⟩ ∧ ((K.kd = 1 ∧ (fl = K.fl ∨ fl = K.fl + 4)) ∨ fl = 0))
section
variable {cb : Nat} {S : Cs} {w0 : World} {Ls : List (Nat × Obj)}
theorem exec_load_rowK {P : Program} {o : Oper} {ev : Operand → Value} {w : World} (ty : TypeId) (x : Operand) (ho : o.op = .load ty x)
    (g : Nat) (hx : ev x = .pointer (some ⟨g, 0, none⟩)) (t : TypeId) (cs : Array Value) (fr : Nat × Nat) (d : TypeDesc) (hg : w.heap[g]? = some (.cells cs t fr))
    (hu : P.underlying ty = some d) (hd : (match d with | .struct _ | .array _ _ => true | _ => false) = true) (hi : (P.info? ty).map (·.size) = some cs.size) : (execOp ev o).run P w = .ok (.value (.agg cs)) w := by
  unfold execOp
  simp only [ho, hx, Instr.loadAt, Instr.sureAddr, Sem.run_bind, Sem.run_pure, Result.andThen_ok, run_loadVar_row w g t ty cs fr d hg hu hd hi]
theorem Tryz.sizeCall : (Tryz.prog.info? 30).map (fun i => i.size) = some 8 := by kernel_rfl
set_option maxHeartbeats 8000000 in
set_option maxRecDepth 100000 in
theorem cnames_any {wb : Nat} (hk : S.wk = some wb) (h0 : 0 ≤ S.life ∧ S.life < 1048576) (h1 : 0 ≤ S.cnt ∧ S.cnt ≤ 1000000) (hfl : S.K.kd = 1 → 0 ≤ S.K.fl ∧ S.K.fl ≤ 3) (now : Int) (w : World) (h : Ck cb S w0 Ls w) :
    Calls Tryz.prog 24 #[pC cb, .int .i64 now] w fun e w' => ∃ p2 fl, NamesP S.K p2 fl ∧ Sends cb (ownS S) (callP S.K.kd (ownS S).id 0 0 S.K.p1 p2 fl 0 0 0 ⟨#[]⟩) now w0 Ls e w' := by
  have c18 : w.cell? ⟨cb, 18, none⟩ = some (ptrV S.wk) := h.cell 18
  unfold ptrV at c18
  rw [hk] at c18
  dsimp only [Option.map_some] at c18
  have hb := h.work hk
  have d0 : w.cell? ⟨wb, 0, none⟩ = some (.int .i64 S.K.kd) := cell_of_row w wb 0 _ _ _ hb
  have d1 : w.cell? ⟨wb, 1, none⟩ = some (.string S.K.p1) := cell_of_row w wb 1 _ _ _ hb
  have d2 : w.cell? ⟨wb, 2, none⟩ = some (.string S.K.p2) := cell_of_row w wb 2 _ _ _ hb
  have d3 : w.cell? ⟨wb, 3, none⟩ = some (.int .i64 S.K.fl) := cell_of_row w wb 3 _ _ _ hb
  have d4 : w.cell? ⟨wb, 4, none⟩ = some (.int .i64 S.K.fd) := cell_of_row w wb 4 _ _ _ hb
  have d5 : w.cell? ⟨wb, 5, none⟩ = some (.int .i64 S.K.off) := cell_of_row w wb 5 _ _ _ hb
  have d6 : w.cell? ⟨wb, 6, none⟩ = some (.int .i64 S.K.n) := cell_of_row w wb 6 _ _ _ hb
  have d7 : w.cell? ⟨wb, 7, none⟩ = some (.string S.K.d) := cell_of_row w wb 7 _ _ _ hb
  have H := Lib.hid h
  have Hfl := Lib.hid hfl
  have H0 := Lib.hid h0
  have H1' := Lib.hid h1
  clear h hb hk hfl h0 h1
  go_enter Tryz.func24, Tryz.ntmps24
  go_upto_region 2 with fail
  obtain ⟨w1, hw⟩ : ∃ u, u = w.alloc (.cells #[.int .i64 S.K.kd, .string S.K.p1, .string S.K.p2, .int .i64 S.K.fl, .int .i64 S.K.fd, .int .i64 S.K.off, .int .i64 S.K.n, .string S.K.d] 30) := ⟨_, rfl⟩
  obtain ⟨n0, hn0⟩ : ∃ u, u = w.heap.size := ⟨_, rfl⟩
  rw [← hw, ← hn0]
  have H1 : Hid (Ck cb S w0 ((n0, .cells #[.int .i64 S.K.kd, .string S.K.p1, .string S.K.p2, .int .i64 S.K.fl, .int .i64 S.K.fd, .int .i64 S.K.off, .int .i64 S.K.n, .string S.K.d] 30 (0, 0)) :: Ls) w1) := Lib.hid (by rw [hw, hn0]; exact H.out.box _ _)
  have HNe : Hid (∀ p ∈ Ls, p.1 ≠ n0) := Lib.hid (by rw [hn0]; exact H.out.fresh)
  clear hw hn0 c18 d0 d1 d2 d3 d4 d5 d6 d7 H
  have hb := H1.out.get (k := n0) List.mem_cons_self
  have d0 : w1.cell? ⟨n0, 0, none⟩ = some (.int .i64 S.K.kd) := cell_of_row w1 n0 0 _ _ _ hb
  have d1 : w1.cell? ⟨n0, 1, none⟩ = some (.string S.K.p1) := cell_of_row w1 n0 1 _ _ _ hb
  clear hb
  go_upto_region 3 with fail
  obtain ⟨w2, hw⟩ : ∃ u, u = w1.alloc (.cells #[.int .i64 0, .string S.K.p1, .string ⟨#[]⟩, .int .i64 0, .int .i64 0, .int .i64 0, .int .i64 0, .string ⟨#[]⟩] 30) := ⟨_, rfl⟩
  obtain ⟨n1, hn1⟩ : ∃ u, u = w1.heap.size := ⟨_, rfl⟩
  rw [← hw, ← hn1]
  have H2 : Hid (Ck cb S w0 ((n1, .cells #[.int .i64 0, .string S.K.p1, .string ⟨#[]⟩, .int .i64 0, .int .i64 0, .int .i64 0, .int .i64 0, .string ⟨#[]⟩] 30 (0, 0)) :: (n0, .cells #[.int .i64 S.K.kd, .string S.K.p1, .string S.K.p2, .int .i64 S.K.fl, .int .i64 S.K.fd, .int .i64 S.K.off, .int .i64 S.K.n, .string S.K.d] 30 (0, 0)) :: Ls) w2) := Lib.hid (by rw [hw, hn1]; exact H1.out.box _ _)
  have HN1 : Hid (∀ p ∈ ((n0, Obj.cells #[.int .i64 S.K.kd, .string S.K.p1, .string S.K.p2, .int .i64 S.K.fl, .int .i64 S.K.fd, .int .i64 S.K.off, .int .i64 S.K.n, .string S.K.d] 30 (0, 0)) :: Ls), p.1 ≠ n1) := Lib.hid (by rw [hn1]; exact H1.out.fresh)
  clear hw hn1 d0 d1 H1
  have hb := H2.out.get (k := n0) (List.mem_cons_of_mem _ List.mem_cons_self)
  have hb1 := H2.out.get (k := n1) List.mem_cons_self
  have d0 : w2.cell? ⟨n0, 0, none⟩ = some (.int .i64 S.K.kd) := cell_of_row w2 n0 0 _ _ _ hb
  have d2 : w2.cell? ⟨n0, 2, none⟩ = some (.string S.K.p2) := cell_of_row w2 n0 2 _ _ _ hb
  have d3 : w2.cell? ⟨n0, 3, none⟩ = some (.int .i64 S.K.fl) := cell_of_row w2 n0 3 _ _ _ hb
  have d5 : w2.cell? ⟨n1, 2, none⟩ = some (.string ⟨#[]⟩) := cell_of_row w2 n1 2 _ _ _ hb1
  have d6 : w2.cell? ⟨n1, 3, none⟩ = some (.int .i64 0) := cell_of_row w2 n1 3 _ _ _ hb1
  have d7 := fun i => frozen_of_row w2 n1 i _ _ hb1
  clear hb hb1
  have h0 := H0
  have h1 := H1'
  by_cases k9 : S.K.kd = 9 ∨ S.K.kd = 11
  · have NP : NamesP S.K S.K.p2 0 := Or.inl ⟨rfl, k9, rfl⟩
    have NP := Lib.hid NP
    have k1 : (S.K.kd == 1) = false := by rw [beq_eq_false_iff_ne]; omega
    have hW3 : Hid (Ck cb S w0 ((n1, .cells #[.int .i64 0, .string S.K.p1, .string S.K.p2, .int .i64 0, .int .i64 0, .int .i64 0, .int .i64 0, .string ⟨#[]⟩] 30 (0, 0)) :: (n0, .cells #[.int .i64 S.K.kd, .string S.K.p1, .string S.K.p2, .int .i64 S.K.fl, .int .i64 S.K.fd, .int .i64 S.K.off, .int .i64 S.K.n, .string S.K.d] 30 (0, 0)) :: Ls) (w2.setCell ⟨n1, 2, none⟩ (.string S.K.p2))) := Lib.hid (H2.out.set rfl HN1.out)
    by_cases k90 : S.K.kd = 9
    · have k91 : (S.K.kd == 9) = true := by rw [beq_iff_eq]; exact k90
      clear k9 k90
      go_upto_region 12 with fail
      obtain ⟨w3, hw⟩ : ∃ u, u = w2.setCell ⟨n1, 2, none⟩ (.string S.K.p2) := ⟨_, rfl⟩
      rw [← hw] at hW3 ⊢
      have H3 := hW3
      clear hW3 hw
      have HSS : Hid (∀ {T : Cs} {W : World}, Ck cb T w0 ((n1, .cells #[.int .i64 0, .string S.K.p1, .string S.K.p2, .int .i64 0, .int .i64 0, .int .i64 0, .int .i64 0, .string ⟨#[]⟩] 30 (0, 0)) :: (n0, .cells #[.int .i64 S.K.kd, .string S.K.p1, .string S.K.p2, .int .i64 S.K.fl, .int .i64 S.K.fd, .int .i64 S.K.off, .int .i64 S.K.n, .string S.K.d] 30 (0, 0)) :: Ls) W → W.cell? ⟨n0, 0, none⟩ = some (.int .i64 S.K.kd) ∧ W.heap[n1]? = some (.cells #[.int .i64 0, .string S.K.p1, .string S.K.p2, .int .i64 0, .int .i64 0, .int .i64 0, .int .i64 0, .string ⟨#[]⟩] 30 (0, 0))) := Lib.hid fun hW => ⟨cell_of_row _ n0 0 _ _ _ (hW.get (List.mem_cons_of_mem _ List.mem_cons_self)), hW.get List.mem_cons_self⟩
      have HOw := Lib.hid (cown_any h0 h1 w3.drew H3.out.drew)
      have hs0 := HSS.out H3.out.drew
      refine wp_region_held_drew (S := (fun W => W.cell? ⟨n0, 0, none⟩ = some (.int .i64 S.K.kd) ∧ W.heap[n1]? = some (.cells #[.int .i64 0, .string S.K.p1, .string S.K.p2, .int .i64 0, .int .i64 0, .int .i64 0, .int .i64 0, .string ⟨#[]⟩] 30 (0, 0)))) (by kernel_rfl) ?_ (fun hHeld => ?_)
      · exact hs0
      refine wpAnyH_take (i := 0) (oi := _) (v := ?_) rfl (by kernel_rfl) (by kernel_rfl) (by kernel_rfl) (fun _ _ _ h => h) (Or.inl ⟨by rfl, ?_⟩) (by assumption) ?_
      rotate_left
      · intro w hSw
        (try dsimp only at hSw)
        first | (go_simp; done) | (go_simp; with_reducible rfl)
      try simp only [List.getElem_toArray, List.getElem_cons_succ, List.getElem_cons_zero, Act.put, List.setIfInBounds_toArray, List.set_cons_zero, List.set_cons_succ]
      refine wpAnyH_take (i := 1) (oi := _) (v := ?_) rfl (by kernel_rfl) (by kernel_rfl) (by kernel_rfl) (fun _ _ _ h => h) (Or.inl ⟨by rfl, ?_⟩) (by assumption) ?_
      rotate_left
      · intro w hSw
        (try dsimp only at hSw)
        first | (go_simp; done) | (go_simp; with_reducible rfl)
      try simp only [List.getElem_toArray, List.getElem_cons_succ, List.getElem_cons_zero, Act.put, List.setIfInBounds_toArray, List.set_cons_zero, List.set_cons_succ]
      refine wpAnyH_take (i := 2) (oi := _) (v := ?_) rfl (by kernel_rfl) (by kernel_rfl) (by kernel_rfl) (fun _ _ _ h => h) (Or.inl ⟨by rfl, ?_⟩) (by assumption) ?_
      rotate_left
      · intro w hSw
        (try dsimp only at hSw)
        first | (go_simp; done) | (go_simp; with_reducible rfl)
      try simp only [List.getElem_toArray, List.getElem_cons_succ, List.getElem_cons_zero, Act.put, List.setIfInBounds_toArray, List.set_cons_zero, List.set_cons_succ]
      refine wpAnyH_take (i := 3) (oi := _) (v := ?_) rfl (by kernel_rfl) (by kernel_rfl) (by kernel_rfl) (fun _ _ _ h => h) (Or.inl ⟨by rfl, ?_⟩) (by assumption) ?_
      rotate_left
      · intro w hSw
        (try dsimp only at hSw)
        first | (go_simp; done) | (go_simp; with_reducible rfl)
      try simp only [List.getElem_toArray, List.getElem_cons_succ, List.getElem_cons_zero, Act.put, List.setIfInBounds_toArray, List.set_cons_zero, List.set_cons_succ]
      refine wpAnyH_take (i := 6) (oi := _) (v := ?_) rfl (by kernel_rfl) (by kernel_rfl) (by kernel_rfl) (fun _ _ _ h => h) (Or.inl ⟨by rfl, ?_⟩) (by assumption) ?_
      rotate_left
      · intro w hSw
        (try dsimp only at hSw)
        first | (go_simp; done) | (go_simp; with_reducible rfl)
      try simp only [List.getElem_toArray, List.getElem_cons_succ, List.getElem_cons_zero, Act.put, List.setIfInBounds_toArray, List.set_cons_zero, List.set_cons_succ]
      refine wpAnyH_take (i := 5) (oi := _) (v := ?_) rfl (by kernel_rfl) (by kernel_rfl) (by kernel_rfl) (fun _ _ _ h => h) (Or.inl ⟨by rfl, ?_⟩) (by assumption) ?_
      rotate_left
      · intro w hSw
        refine exec_load_rowK 30 (.tmp 6) ?_ n1 ?_ 30 #[.int .i64 0, .string S.K.p1, .string S.K.p2, .int .i64 0, .int .i64 0, .int .i64 0, .int .i64 0, .string ⟨#[]⟩] (0, 0) _ hSw.2 Tryz.underlying30 ?_ Tryz.sizeCall
        all_goals rfl
      try simp only [List.getElem_toArray, List.getElem_cons_succ, List.getElem_cons_zero, Act.put, List.setIfInBounds_toArray, List.set_cons_zero, List.set_cons_succ]
      refine wpAnyH_ready (rs := [4]) (by kernel_rfl) (by simp) ?_
      refine AllReadyH.cons (o := _) rfl (fun K hK => ?_) AllReadyH.nil
      go_simp
      refine HOw.out.mono ?_
      rintro e wx ⟨rfl, hx⟩
      have HX := Lib.hid hx
      have hs1 := HSS.out hx
      clear hx
      try dsimp only
      refine hK.out _ _ hs1 (fun hHeld => ?_)
      clear hK K
      try simp only [List.getElem_toArray, List.getElem_cons_succ, List.getElem_cons_zero, Act.put, List.setIfInBounds_toArray, List.set_cons_zero, List.set_cons_succ]
      have HAs := Lib.hid (cask_any S.K.kd (ownS S).id 0 0 S.K.p1 S.K.p2 0 0 0 0 ⟨#[]⟩ now wx HX.out)
      refine wpAnyH_ready (rs := [7]) (by kernel_rfl) (by simp) ?_
      refine AllReadyH.cons (o := _) rfl (fun K hK => ?_) AllReadyH.nil
      go_simp
      refine HAs.out.mono ?_
      rintro e wy ⟨b, rfl, hy2, hy3⟩
      have HY := Lib.hid (And.intro hy2 hy3)
      clear hy2 hy3
      have hs2 := HSS.out HY.out.2
      try dsimp only
      refine hK.out _ _ hs2 (fun hHeld => ?_)
      clear hK K
      try simp only [List.getElem_toArray, List.getElem_cons_succ, List.getElem_cons_zero, Act.put, List.setIfInBounds_toArray, List.set_cons_zero, List.set_cons_succ]
      refine wpAnyH_take (i := 8) (oi := _) (v := ?_) rfl (by kernel_rfl) (by kernel_rfl) (by kernel_rfl) (fun _ _ _ h => h) (Or.inl ⟨by rfl, ?_⟩) (by assumption) ?_
      rotate_left
      · intro w hSw
        (try dsimp only at hSw)
        first | (go_simp; done) | (go_simp; with_reducible rfl)
      try simp only [List.getElem_toArray, List.getElem_cons_succ, List.getElem_cons_zero, Act.put, List.setIfInBounds_toArray, List.set_cons_zero, List.set_cons_succ]
      refine wpAnyH_done (by kernel_rfl) ?_ _
      (try simp only [Exit.then])
      go_wp2
      go_ret
      exact ⟨_, _, NP.out, b, rfl, HY.out.1, HY.out.2.less fun q hq => List.mem_cons_of_mem _ (List.mem_cons_of_mem _ hq)⟩
    · have k91 : (S.K.kd == 9) = false := by rw [beq_eq_false_iff_ne]; exact k90
      have k92 : (S.K.kd == 11) = true := by rw [beq_iff_eq]; omega
      clear k9 k90
      go_upto_region 12 with fail
      obtain ⟨w3, hw⟩ : ∃ u, u = w2.setCell ⟨n1, 2, none⟩ (.string S.K.p2) := ⟨_, rfl⟩
      rw [← hw] at hW3 ⊢
      have H3 := hW3
      clear hW3 hw
      have HSS : Hid (∀ {T : Cs} {W : World}, Ck cb T w0 ((n1, .cells #[.int .i64 0, .string S.K.p1, .string S.K.p2, .int .i64 0, .int .i64 0, .int .i64 0, .int .i64 0, .string ⟨#[]⟩] 30 (0, 0)) :: (n0, .cells #[.int .i64 S.K.kd, .string S.K.p1, .string S.K.p2, .int .i64 S.K.fl, .int .i64 S.K.fd, .int .i64 S.K.off, .int .i64 S.K.n, .string S.K.d] 30 (0, 0)) :: Ls) W → W.cell? ⟨n0, 0, none⟩ = some (.int .i64 S.K.kd) ∧ W.heap[n1]? = some (.cells #[.int .i64 0, .string S.K.p1, .string S.K.p2, .int .i64 0, .int .i64 0, .int .i64 0, .int .i64 0, .string ⟨#[]⟩] 30 (0, 0))) := Lib.hid fun hW => ⟨cell_of_row _ n0 0 _ _ _ (hW.get (List.mem_cons_of_mem _ List.mem_cons_self)), hW.get List.mem_cons_self⟩
      have HOw := Lib.hid (cown_any h0 h1 w3.drew H3.out.drew)
      have hs0 := HSS.out H3.out.drew
      refine wp_region_held_drew (S := (fun W => W.cell? ⟨n0, 0, none⟩ = some (.int .i64 S.K.kd) ∧ W.heap[n1]? = some (.cells #[.int .i64 0, .string S.K.p1, .string S.K.p2, .int .i64 0, .int .i64 0, .int .i64 0, .int .i64 0, .string ⟨#[]⟩] 30 (0, 0)))) (by kernel_rfl) ?_ (fun hHeld => ?_)
      · exact hs0
      refine wpAnyH_take (i := 0) (oi := _) (v := ?_) rfl (by kernel_rfl) (by kernel_rfl) (by kernel_rfl) (fun _ _ _ h => h) (Or.inl ⟨by rfl, ?_⟩) (by assumption) ?_
      rotate_left
      · intro w hSw
        (try dsimp only at hSw)
        first | (go_simp; done) | (go_simp; with_reducible rfl)
      try simp only [List.getElem_toArray, List.getElem_cons_succ, List.getElem_cons_zero, Act.put, List.setIfInBounds_toArray, List.set_cons_zero, List.set_cons_succ]
      refine wpAnyH_take (i := 1) (oi := _) (v := ?_) rfl (by kernel_rfl) (by kernel_rfl) (by kernel_rfl) (fun _ _ _ h => h) (Or.inl ⟨by rfl, ?_⟩) (by assumption) ?_
      rotate_left
      · intro w hSw
        (try dsimp only at hSw)
        first | (go_simp; done) | (go_simp; with_reducible rfl)
      try simp only [List.getElem_toArray, List.getElem_cons_succ, List.getElem_cons_zero, Act.put, List.setIfInBounds_toArray, List.set_cons_zero, List.set_cons_succ]
      refine wpAnyH_take (i := 2) (oi := _) (v := ?_) rfl (by kernel_rfl) (by kernel_rfl) (by kernel_rfl) (fun _ _ _ h => h) (Or.inl ⟨by rfl, ?_⟩) (by assumption) ?_
      rotate_left
      · intro w hSw
        (try dsimp only at hSw)
        first | (go_simp; done) | (go_simp; with_reducible rfl)
      try simp only [List.getElem_toArray, List.getElem_cons_succ, List.getElem_cons_zero, Act.put, List.setIfInBounds_toArray, List.set_cons_zero, List.set_cons_succ]
      refine wpAnyH_take (i := 3) (oi := _) (v := ?_) rfl (by kernel_rfl) (by kernel_rfl) (by kernel_rfl) (fun _ _ _ h => h) (Or.inl ⟨by rfl, ?_⟩) (by assumption) ?_
      rotate_left
      · intro w hSw
        (try dsimp only at hSw)
        first | (go_simp; done) | (go_simp; with_reducible rfl)
      try simp only [List.getElem_toArray, List.getElem_cons_succ, List.getElem_cons_zero, Act.put, List.setIfInBounds_toArray, List.set_cons_zero, List.set_cons_succ]
      refine wpAnyH_take (i := 6) (oi := _) (v := ?_) rfl (by kernel_rfl) (by kernel_rfl) (by kernel_rfl) (fun _ _ _ h => h) (Or.inl ⟨by rfl, ?_⟩) (by assumption) ?_
      rotate_left
      · intro w hSw
        (try dsimp only at hSw)
        first | (go_simp; done) | (go_simp; with_reducible rfl)
      try simp only [List.getElem_toArray, List.getElem_cons_succ, List.getElem_cons_zero, Act.put, List.setIfInBounds_toArray, List.set_cons_zero, List.set_cons_succ]
      refine wpAnyH_take (i := 5) (oi := _) (v := ?_) rfl (by kernel_rfl) (by kernel_rfl) (by kernel_rfl) (fun _ _ _ h => h) (Or.inl ⟨by rfl, ?_⟩) (by assumption) ?_
      rotate_left
      · intro w hSw
        refine exec_load_rowK 30 (.tmp 6) ?_ n1 ?_ 30 #[.int .i64 0, .string S.K.p1, .string S.K.p2, .int .i64 0, .int .i64 0, .int .i64 0, .int .i64 0, .string ⟨#[]⟩] (0, 0) _ hSw.2 Tryz.underlying30 ?_ Tryz.sizeCall
        all_goals rfl
      try simp only [List.getElem_toArray, List.getElem_cons_succ, List.getElem_cons_zero, Act.put, List.setIfInBounds_toArray, List.set_cons_zero, List.set_cons_succ]
      refine wpAnyH_ready (rs := [4]) (by kernel_rfl) (by simp) ?_
      refine AllReadyH.cons (o := _) rfl (fun K hK => ?_) AllReadyH.nil
      go_simp
      refine HOw.out.mono ?_
      rintro e wx ⟨rfl, hx⟩
      have HX := Lib.hid hx
      have hs1 := HSS.out hx
      clear hx
      try dsimp only
      refine hK.out _ _ hs1 (fun hHeld => ?_)
      clear hK K
      try simp only [List.getElem_toArray, List.getElem_cons_succ, List.getElem_cons_zero, Act.put, List.setIfInBounds_toArray, List.set_cons_zero, List.set_cons_succ]
      have HAs := Lib.hid (cask_any S.K.kd (ownS S).id 0 0 S.K.p1 S.K.p2 0 0 0 0 ⟨#[]⟩ now wx HX.out)
      refine wpAnyH_ready (rs := [7]) (by kernel_rfl) (by simp) ?_
      refine AllReadyH.cons (o := _) rfl (fun K hK => ?_) AllReadyH.nil
      go_simp
      refine HAs.out.mono ?_
      rintro e wy ⟨b, rfl, hy2, hy3⟩
      have HY := Lib.hid (And.intro hy2 hy3)
      clear hy2 hy3
      have hs2 := HSS.out HY.out.2
      try dsimp only
      refine hK.out _ _ hs2 (fun hHeld => ?_)
      clear hK K
      try simp only [List.getElem_toArray, List.getElem_cons_succ, List.getElem_cons_zero, Act.put, List.setIfInBounds_toArray, List.set_cons_zero, List.set_cons_succ]
      refine wpAnyH_take (i := 8) (oi := _) (v := ?_) rfl (by kernel_rfl) (by kernel_rfl) (by kernel_rfl) (fun _ _ _ h => h) (Or.inl ⟨by rfl, ?_⟩) (by assumption) ?_
      rotate_left
      · intro w hSw
        (try dsimp only at hSw)
        first | (go_simp; done) | (go_simp; with_reducible rfl)
      try simp only [List.getElem_toArray, List.getElem_cons_succ, List.getElem_cons_zero, Act.put, List.setIfInBounds_toArray, List.set_cons_zero, List.set_cons_succ]
      refine wpAnyH_done (by kernel_rfl) ?_ _
      (try simp only [Exit.then])
      go_wp2
      go_ret
      exact ⟨_, _, NP.out, b, rfl, HY.out.1, HY.out.2.less fun q hq => List.mem_cons_of_mem _ (List.mem_cons_of_mem _ hq)⟩
  · have k91 : (S.K.kd == 9) = false := by rw [beq_eq_false_iff_ne]; omega
    have k92 : (S.K.kd == 11) = false := by rw [beq_eq_false_iff_ne]; omega
    clear k9
    by_cases k10 : S.K.kd = 1
    · have k1 : (S.K.kd == 1) = true := by rw [beq_iff_eq]; exact k10
      have NP1 : NamesP S.K ⟨#[]⟩ S.K.fl := Or.inr ⟨rfl, Or.inl ⟨k10, Or.inl rfl⟩⟩
      have NP2 : NamesP S.K ⟨#[]⟩ (S.K.fl + 4) := Or.inr ⟨rfl, Or.inl ⟨k10, Or.inr rfl⟩⟩

      have NP1 := Lib.hid NP1
      have NP2 := Lib.hid NP2
      have hf2 := Hfl.out k10
      have hw4 : IntKind.i64.wrap (S.K.fl + 4) = S.K.fl + 4 := IntWalk.i64_in _ (by omega)
      clear k10 hf2
      go_upto_region 9 with fail
      obtain ⟨w3, hw⟩ : ∃ u, u = w2.setCell ⟨n1, 3, none⟩ (.int .i64 S.K.fl) := ⟨_, rfl⟩
      rw [← hw]
      have H3 : Hid (Ck cb S w0 ((n1, .cells #[.int .i64 0, .string S.K.p1, .string ⟨#[]⟩, .int .i64 S.K.fl, .int .i64 0, .int .i64 0, .int .i64 0, .string ⟨#[]⟩] 30 (0, 0)) :: (n0, .cells #[.int .i64 S.K.kd, .string S.K.p1, .string S.K.p2, .int .i64 S.K.fl, .int .i64 S.K.fd, .int .i64 S.K.off, .int .i64 S.K.n, .string S.K.d] 30 (0, 0)) :: Ls) w3) := Lib.hid (by rw [hw]; exact H2.out.set rfl HN1.out)
      clear hw d0 d2 d3 d5 d6 d7 H2
      have HFr := Lib.hid (cfree_any w3 H3.out)
      go_upto_region 10 with ((with_reducible refine HFr.out.mono ?_); rintro e w4 ⟨r, q, rfl, -, hb⟩; have HB := Lib.hid hb; clear hb)
      have H4 := Lib.hid (H3.out.below HB.out)
      clear H3 HB HFr
      have hb1 := H4.out.get (k := n1) List.mem_cons_self
      have d6 : w4.cell? ⟨n1, 3, none⟩ = some (.int .i64 S.K.fl) := cell_of_row w4 n1 3 _ _ _ hb1
      have d7 := fun i => frozen_of_row w4 n1 i _ _ hb1
      clear hb1
      cases q with
      | true =>
        have NP := NP1
        clear NP1 NP2
        go_upto_region 12 with fail
        have HSS : Hid (∀ {T : Cs} {W : World}, Ck cb T w0 ((n1, .cells #[.int .i64 0, .string S.K.p1, .string ⟨#[]⟩, .int .i64 S.K.fl, .int .i64 0, .int .i64 0, .int .i64 0, .string ⟨#[]⟩] 30 (0, 0)) :: (n0, .cells #[.int .i64 S.K.kd, .string S.K.p1, .string S.K.p2, .int .i64 S.K.fl, .int .i64 S.K.fd, .int .i64 S.K.off, .int .i64 S.K.n, .string S.K.d] 30 (0, 0)) :: Ls) W → W.cell? ⟨n0, 0, none⟩ = some (.int .i64 S.K.kd) ∧ W.heap[n1]? = some (.cells #[.int .i64 0, .string S.K.p1, .string ⟨#[]⟩, .int .i64 S.K.fl, .int .i64 0, .int .i64 0, .int .i64 0, .string ⟨#[]⟩] 30 (0, 0))) := Lib.hid fun hW => ⟨cell_of_row _ n0 0 _ _ _ (hW.get (List.mem_cons_of_mem _ List.mem_cons_self)), hW.get List.mem_cons_self⟩
        have HOw := Lib.hid (cown_any h0 h1 w4.drew H4.out.drew)
        have hs0 := HSS.out H4.out.drew
        refine wp_region_held_drew (S := (fun W => W.cell? ⟨n0, 0, none⟩ = some (.int .i64 S.K.kd) ∧ W.heap[n1]? = some (.cells #[.int .i64 0, .string S.K.p1, .string ⟨#[]⟩, .int .i64 S.K.fl, .int .i64 0, .int .i64 0, .int .i64 0, .string ⟨#[]⟩] 30 (0, 0)))) (by kernel_rfl) ?_ (fun hHeld => ?_)
        · exact hs0
        refine wpAnyH_take (i := 0) (oi := _) (v := ?_) rfl (by kernel_rfl) (by kernel_rfl) (by kernel_rfl) (fun _ _ _ h => h) (Or.inl ⟨by rfl, ?_⟩) (by assumption) ?_
        rotate_left
        · intro w hSw
          (try dsimp only at hSw)
          first | (go_simp; done) | (go_simp; with_reducible rfl)
        try simp only [List.getElem_toArray, List.getElem_cons_succ, List.getElem_cons_zero, Act.put, List.setIfInBounds_toArray, List.set_cons_zero, List.set_cons_succ]
        refine wpAnyH_take (i := 1) (oi := _) (v := ?_) rfl (by kernel_rfl) (by kernel_rfl) (by kernel_rfl) (fun _ _ _ h => h) (Or.inl ⟨by rfl, ?_⟩) (by assumption) ?_
        rotate_left
        · intro w hSw
          (try dsimp only at hSw)
          first | (go_simp; done) | (go_simp; with_reducible rfl)
        try simp only [List.getElem_toArray, List.getElem_cons_succ, List.getElem_cons_zero, Act.put, List.setIfInBounds_toArray, List.set_cons_zero, List.set_cons_succ]
        refine wpAnyH_take (i := 2) (oi := _) (v := ?_) rfl (by kernel_rfl) (by kernel_rfl) (by kernel_rfl) (fun _ _ _ h => h) (Or.inl ⟨by rfl, ?_⟩) (by assumption) ?_
        rotate_left
        · intro w hSw
          (try dsimp only at hSw)
          first | (go_simp; done) | (go_simp; with_reducible rfl)
        try simp only [List.getElem_toArray, List.getElem_cons_succ, List.getElem_cons_zero, Act.put, List.setIfInBounds_toArray, List.set_cons_zero, List.set_cons_succ]
        refine wpAnyH_take (i := 3) (oi := _) (v := ?_) rfl (by kernel_rfl) (by kernel_rfl) (by kernel_rfl) (fun _ _ _ h => h) (Or.inl ⟨by rfl, ?_⟩) (by assumption) ?_
        rotate_left
        · intro w hSw
          (try dsimp only at hSw)
          first | (go_simp; done) | (go_simp; with_reducible rfl)
        try simp only [List.getElem_toArray, List.getElem_cons_succ, List.getElem_cons_zero, Act.put, List.setIfInBounds_toArray, List.set_cons_zero, List.set_cons_succ]
        refine wpAnyH_take (i := 6) (oi := _) (v := ?_) rfl (by kernel_rfl) (by kernel_rfl) (by kernel_rfl) (fun _ _ _ h => h) (Or.inl ⟨by rfl, ?_⟩) (by assumption) ?_
        rotate_left
        · intro w hSw
          (try dsimp only at hSw)
          first | (go_simp; done) | (go_simp; with_reducible rfl)
        try simp only [List.getElem_toArray, List.getElem_cons_succ, List.getElem_cons_zero, Act.put, List.setIfInBounds_toArray, List.set_cons_zero, List.set_cons_succ]
        refine wpAnyH_take (i := 5) (oi := _) (v := ?_) rfl (by kernel_rfl) (by kernel_rfl) (by kernel_rfl) (fun _ _ _ h => h) (Or.inl ⟨by rfl, ?_⟩) (by assumption) ?_
        rotate_left
        · intro w hSw
          refine exec_load_rowK 30 (.tmp 6) ?_ n1 ?_ 30 #[.int .i64 0, .string S.K.p1, .string ⟨#[]⟩, .int .i64 S.K.fl, .int .i64 0, .int .i64 0, .int .i64 0, .string ⟨#[]⟩] (0, 0) _ hSw.2 Tryz.underlying30 ?_ Tryz.sizeCall
          all_goals rfl
        try simp only [List.getElem_toArray, List.getElem_cons_succ, List.getElem_cons_zero, Act.put, List.setIfInBounds_toArray, List.set_cons_zero, List.set_cons_succ]
        refine wpAnyH_ready (rs := [4]) (by kernel_rfl) (by simp) ?_
        refine AllReadyH.cons (o := _) rfl (fun K hK => ?_) AllReadyH.nil
        go_simp
        refine HOw.out.mono ?_
        rintro e wx ⟨rfl, hx⟩
        have HX := Lib.hid hx
        have hs1 := HSS.out hx
        clear hx
        try dsimp only
        refine hK.out _ _ hs1 (fun hHeld => ?_)
        clear hK K
        try simp only [List.getElem_toArray, List.getElem_cons_succ, List.getElem_cons_zero, Act.put, List.setIfInBounds_toArray, List.set_cons_zero, List.set_cons_succ]
        have HAs := Lib.hid (cask_any S.K.kd (ownS S).id 0 0 S.K.p1 ⟨#[]⟩ S.K.fl 0 0 0 ⟨#[]⟩ now wx HX.out)
        refine wpAnyH_ready (rs := [7]) (by kernel_rfl) (by simp) ?_
        refine AllReadyH.cons (o := _) rfl (fun K hK => ?_) AllReadyH.nil
        go_simp
        refine HAs.out.mono ?_
        rintro e wy ⟨b, rfl, hy2, hy3⟩
        have HY := Lib.hid (And.intro hy2 hy3)
        clear hy2 hy3
        have hs2 := HSS.out HY.out.2
        try dsimp only
        refine hK.out _ _ hs2 (fun hHeld => ?_)
        clear hK K
        try simp only [List.getElem_toArray, List.getElem_cons_succ, List.getElem_cons_zero, Act.put, List.setIfInBounds_toArray, List.set_cons_zero, List.set_cons_succ]
        refine wpAnyH_take (i := 8) (oi := _) (v := ?_) rfl (by kernel_rfl) (by kernel_rfl) (by kernel_rfl) (fun _ _ _ h => h) (Or.inl ⟨by rfl, ?_⟩) (by assumption) ?_
        rotate_left
        · intro w hSw
          (try dsimp only at hSw)
          first | (go_simp; done) | (go_simp; with_reducible rfl)
        try simp only [List.getElem_toArray, List.getElem_cons_succ, List.getElem_cons_zero, Act.put, List.setIfInBounds_toArray, List.set_cons_zero, List.set_cons_succ]
        refine wpAnyH_done (by kernel_rfl) ?_ _
        (try simp only [Exit.then])
        go_wp2
        go_ret
        exact ⟨_, _, NP.out, b, rfl, HY.out.1, HY.out.2.less fun q hq => List.mem_cons_of_mem _ (List.mem_cons_of_mem _ hq)⟩
      | false =>
        have NP := NP2
        clear NP1 NP2
        go_upto_region 12 with fail
        obtain ⟨w5, hw⟩ : ∃ u, u = w4.setCell ⟨n1, 3, none⟩ (.int .i64 (S.K.fl + 4)) := ⟨_, rfl⟩
        rw [← hw]
        have H5 : Hid (Ck cb S w0 ((n1, .cells #[.int .i64 0, .string S.K.p1, .string ⟨#[]⟩, .int .i64 (S.K.fl + 4), .int .i64 0, .int .i64 0, .int .i64 0, .string ⟨#[]⟩] 30 (0, 0)) :: (n0, .cells #[.int .i64 S.K.kd, .string S.K.p1, .string S.K.p2, .int .i64 S.K.fl, .int .i64 S.K.fd, .int .i64 S.K.off, .int .i64 S.K.n, .string S.K.d] 30 (0, 0)) :: Ls) w5) := Lib.hid (by rw [hw]; exact H4.out.set rfl HN1.out)
        clear hw H4
        have HSS : Hid (∀ {T : Cs} {W : World}, Ck cb T w0 ((n1, .cells #[.int .i64 0, .string S.K.p1, .string ⟨#[]⟩, .int .i64 (S.K.fl + 4), .int .i64 0, .int .i64 0, .int .i64 0, .string ⟨#[]⟩] 30 (0, 0)) :: (n0, .cells #[.int .i64 S.K.kd, .string S.K.p1, .string S.K.p2, .int .i64 S.K.fl, .int .i64 S.K.fd, .int .i64 S.K.off, .int .i64 S.K.n, .string S.K.d] 30 (0, 0)) :: Ls) W → W.cell? ⟨n0, 0, none⟩ = some (.int .i64 S.K.kd) ∧ W.heap[n1]? = some (.cells #[.int .i64 0, .string S.K.p1, .string ⟨#[]⟩, .int .i64 (S.K.fl + 4), .int .i64 0, .int .i64 0, .int .i64 0, .string ⟨#[]⟩] 30 (0, 0))) := Lib.hid fun hW => ⟨cell_of_row _ n0 0 _ _ _ (hW.get (List.mem_cons_of_mem _ List.mem_cons_self)), hW.get List.mem_cons_self⟩
        have HOw := Lib.hid (cown_any h0 h1 w5.drew H5.out.drew)
        have hs0 := HSS.out H5.out.drew
        refine wp_region_held_drew (S := (fun W => W.cell? ⟨n0, 0, none⟩ = some (.int .i64 S.K.kd) ∧ W.heap[n1]? = some (.cells #[.int .i64 0, .string S.K.p1, .string ⟨#[]⟩, .int .i64 (S.K.fl + 4), .int .i64 0, .int .i64 0, .int .i64 0, .string ⟨#[]⟩] 30 (0, 0)))) (by kernel_rfl) ?_ (fun hHeld => ?_)
        · exact hs0
        refine wpAnyH_take (i := 0) (oi := _) (v := ?_) rfl (by kernel_rfl) (by kernel_rfl) (by kernel_rfl) (fun _ _ _ h => h) (Or.inl ⟨by rfl, ?_⟩) (by assumption) ?_
        rotate_left
        · intro w hSw
          (try dsimp only at hSw)
          first | (go_simp; done) | (go_simp; with_reducible rfl)
        try simp only [List.getElem_toArray, List.getElem_cons_succ, List.getElem_cons_zero, Act.put, List.setIfInBounds_toArray, List.set_cons_zero, List.set_cons_succ]
        refine wpAnyH_take (i := 1) (oi := _) (v := ?_) rfl (by kernel_rfl) (by kernel_rfl) (by kernel_rfl) (fun _ _ _ h => h) (Or.inl ⟨by rfl, ?_⟩) (by assumption) ?_
        rotate_left
        · intro w hSw
          (try dsimp only at hSw)
          first | (go_simp; done) | (go_simp; with_reducible rfl)
        try simp only [List.getElem_toArray, List.getElem_cons_succ, List.getElem_cons_zero, Act.put, List.setIfInBounds_toArray, List.set_cons_zero, List.set_cons_succ]
        refine wpAnyH_take (i := 2) (oi := _) (v := ?_) rfl (by kernel_rfl) (by kernel_rfl) (by kernel_rfl) (fun _ _ _ h => h) (Or.inl ⟨by rfl, ?_⟩) (by assumption) ?_
        rotate_left
        · intro w hSw
          (try dsimp only at hSw)
          first | (go_simp; done) | (go_simp; with_reducible rfl)
        try simp only [List.getElem_toArray, List.getElem_cons_succ, List.getElem_cons_zero, Act.put, List.setIfInBounds_toArray, List.set_cons_zero, List.set_cons_succ]
        refine wpAnyH_take (i := 3) (oi := _) (v := ?_) rfl (by kernel_rfl) (by kernel_rfl) (by kernel_rfl) (fun _ _ _ h => h) (Or.inl ⟨by rfl, ?_⟩) (by assumption) ?_
        rotate_left
        · intro w hSw
          (try dsimp only at hSw)
          first | (go_simp; done) | (go_simp; with_reducible rfl)
        try simp only [List.getElem_toArray, List.getElem_cons_succ, List.getElem_cons_zero, Act.put, List.setIfInBounds_toArray, List.set_cons_zero, List.set_cons_succ]
        refine wpAnyH_take (i := 6) (oi := _) (v := ?_) rfl (by kernel_rfl) (by kernel_rfl) (by kernel_rfl) (fun _ _ _ h => h) (Or.inl ⟨by rfl, ?_⟩) (by assumption) ?_
        rotate_left
        · intro w hSw
          (try dsimp only at hSw)
          first | (go_simp; done) | (go_simp; with_reducible rfl)
        try simp only [List.getElem_toArray, List.getElem_cons_succ, List.getElem_cons_zero, Act.put, List.setIfInBounds_toArray, List.set_cons_zero, List.set_cons_succ]
        refine wpAnyH_take (i := 5) (oi := _) (v := ?_) rfl (by kernel_rfl) (by kernel_rfl) (by kernel_rfl) (fun _ _ _ h => h) (Or.inl ⟨by rfl, ?_⟩) (by assumption) ?_
        rotate_left
        · intro w hSw
          refine exec_load_rowK 30 (.tmp 6) ?_ n1 ?_ 30 #[.int .i64 0, .string S.K.p1, .string ⟨#[]⟩, .int .i64 (S.K.fl + 4), .int .i64 0, .int .i64 0, .int .i64 0, .string ⟨#[]⟩] (0, 0) _ hSw.2 Tryz.underlying30 ?_ Tryz.sizeCall
          all_goals rfl
        try simp only [List.getElem_toArray, List.getElem_cons_succ, List.getElem_cons_zero, Act.put, List.setIfInBounds_toArray, List.set_cons_zero, List.set_cons_succ]
        refine wpAnyH_ready (rs := [4]) (by kernel_rfl) (by simp) ?_
        refine AllReadyH.cons (o := _) rfl (fun K hK => ?_) AllReadyH.nil
        go_simp
        refine HOw.out.mono ?_
        rintro e wx ⟨rfl, hx⟩
        have HX := Lib.hid hx
        have hs1 := HSS.out hx
        clear hx
        try dsimp only
        refine hK.out _ _ hs1 (fun hHeld => ?_)
        clear hK K
        try simp only [List.getElem_toArray, List.getElem_cons_succ, List.getElem_cons_zero, Act.put, List.setIfInBounds_toArray, List.set_cons_zero, List.set_cons_succ]
        have HAs := Lib.hid (cask_any S.K.kd (ownS S).id 0 0 S.K.p1 ⟨#[]⟩ (S.K.fl + 4) 0 0 0 ⟨#[]⟩ now wx HX.out)
        refine wpAnyH_ready (rs := [7]) (by kernel_rfl) (by simp) ?_
        refine AllReadyH.cons (o := _) rfl (fun K hK => ?_) AllReadyH.nil
        go_simp
        refine HAs.out.mono ?_
        rintro e wy ⟨b, rfl, hy2, hy3⟩
        have HY := Lib.hid (And.intro hy2 hy3)
        clear hy2 hy3
        have hs2 := HSS.out HY.out.2
        try dsimp only
        refine hK.out _ _ hs2 (fun hHeld => ?_)
        clear hK K
        try simp only [List.getElem_toArray, List.getElem_cons_succ, List.getElem_cons_zero, Act.put, List.setIfInBounds_toArray, List.set_cons_zero, List.set_cons_succ]
        refine wpAnyH_take (i := 8) (oi := _) (v := ?_) rfl (by kernel_rfl) (by kernel_rfl) (by kernel_rfl) (fun _ _ _ h => h) (Or.inl ⟨by rfl, ?_⟩) (by assumption) ?_
        rotate_left
        · intro w hSw
          (try dsimp only at hSw)
          first | (go_simp; done) | (go_simp; with_reducible rfl)
        try simp only [List.getElem_toArray, List.getElem_cons_succ, List.getElem_cons_zero, Act.put, List.setIfInBounds_toArray, List.set_cons_zero, List.set_cons_succ]
        refine wpAnyH_done (by kernel_rfl) ?_ _
        (try simp only [Exit.then])
        go_wp2
        go_ret
        exact ⟨_, _, NP.out, b, rfl, HY.out.1, HY.out.2.less fun q hq => List.mem_cons_of_mem _ (List.mem_cons_of_mem _ hq)⟩
    · have k1 : (S.K.kd == 1) = false := by rw [beq_eq_false_iff_ne]; exact k10
      have NP : NamesP S.K ⟨#[]⟩ 0 := Or.inr ⟨rfl, Or.inr rfl⟩
      have NP := Lib.hid NP
      clear k10
      go_upto_region 12 with fail
      have HSS : Hid (∀ {T : Cs} {W : World}, Ck cb T w0 ((n1, .cells #[.int .i64 0, .string S.K.p1, .string ⟨#[]⟩, .int .i64 0, .int .i64 0, .int .i64 0, .int .i64 0, .string ⟨#[]⟩] 30 (0, 0)) :: (n0, .cells #[.int .i64 S.K.kd, .string S.K.p1, .string S.K.p2, .int .i64 S.K.fl, .int .i64 S.K.fd, .int .i64 S.K.off, .int .i64 S.K.n, .string S.K.d] 30 (0, 0)) :: Ls) W → W.cell? ⟨n0, 0, none⟩ = some (.int .i64 S.K.kd) ∧ W.heap[n1]? = some (.cells #[.int .i64 0, .string S.K.p1, .string ⟨#[]⟩, .int .i64 0, .int .i64 0, .int .i64 0, .int .i64 0, .string ⟨#[]⟩] 30 (0, 0))) := Lib.hid fun hW => ⟨cell_of_row _ n0 0 _ _ _ (hW.get (List.mem_cons_of_mem _ List.mem_cons_self)), hW.get List.mem_cons_self⟩
      have HOw := Lib.hid (cown_any h0 h1 w2.drew H2.out.drew)
      have hs0 := HSS.out H2.out.drew
      refine wp_region_held_drew (S := (fun W => W.cell? ⟨n0, 0, none⟩ = some (.int .i64 S.K.kd) ∧ W.heap[n1]? = some (.cells #[.int .i64 0, .string S.K.p1, .string ⟨#[]⟩, .int .i64 0, .int .i64 0, .int .i64 0, .int .i64 0, .string ⟨#[]⟩] 30 (0, 0)))) (by kernel_rfl) ?_ (fun hHeld => ?_)
      · exact hs0
      refine wpAnyH_take (i := 0) (oi := _) (v := ?_) rfl (by kernel_rfl) (by kernel_rfl) (by kernel_rfl) (fun _ _ _ h => h) (Or.inl ⟨by rfl, ?_⟩) (by assumption) ?_
      rotate_left
      · intro w hSw
        (try dsimp only at hSw)
        first | (go_simp; done) | (go_simp; with_reducible rfl)
      try simp only [List.getElem_toArray, List.getElem_cons_succ, List.getElem_cons_zero, Act.put, List.setIfInBounds_toArray, List.set_cons_zero, List.set_cons_succ]
      refine wpAnyH_take (i := 1) (oi := _) (v := ?_) rfl (by kernel_rfl) (by kernel_rfl) (by kernel_rfl) (fun _ _ _ h => h) (Or.inl ⟨by rfl, ?_⟩) (by assumption) ?_
      rotate_left
      · intro w hSw
        (try dsimp only at hSw)
        first | (go_simp; done) | (go_simp; with_reducible rfl)
      try simp only [List.getElem_toArray, List.getElem_cons_succ, List.getElem_cons_zero, Act.put, List.setIfInBounds_toArray, List.set_cons_zero, List.set_cons_succ]
      refine wpAnyH_take (i := 2) (oi := _) (v := ?_) rfl (by kernel_rfl) (by kernel_rfl) (by kernel_rfl) (fun _ _ _ h => h) (Or.inl ⟨by rfl, ?_⟩) (by assumption) ?_
      rotate_left
      · intro w hSw
        (try dsimp only at hSw)
        first | (go_simp; done) | (go_simp; with_reducible rfl)
      try simp only [List.getElem_toArray, List.getElem_cons_succ, List.getElem_cons_zero, Act.put, List.setIfInBounds_toArray, List.set_cons_zero, List.set_cons_succ]
      refine wpAnyH_take (i := 3) (oi := _) (v := ?_) rfl (by kernel_rfl) (by kernel_rfl) (by kernel_rfl) (fun _ _ _ h => h) (Or.inl ⟨by rfl, ?_⟩) (by assumption) ?_
      rotate_left
      · intro w hSw
        (try dsimp only at hSw)
        first | (go_simp; done) | (go_simp; with_reducible rfl)
      try simp only [List.getElem_toArray, List.getElem_cons_succ, List.getElem_cons_zero, Act.put, List.setIfInBounds_toArray, List.set_cons_zero, List.set_cons_succ]
      refine wpAnyH_take (i := 6) (oi := _) (v := ?_) rfl (by kernel_rfl) (by kernel_rfl) (by kernel_rfl) (fun _ _ _ h => h) (Or.inl ⟨by rfl, ?_⟩) (by assumption) ?_
      rotate_left
      · intro w hSw
        (try dsimp only at hSw)
        first | (go_simp; done) | (go_simp; with_reducible rfl)
      try simp only [List.getElem_toArray, List.getElem_cons_succ, List.getElem_cons_zero, Act.put, List.setIfInBounds_toArray, List.set_cons_zero, List.set_cons_succ]
      refine wpAnyH_take (i := 5) (oi := _) (v := ?_) rfl (by kernel_rfl) (by kernel_rfl) (by kernel_rfl) (fun _ _ _ h => h) (Or.inl ⟨by rfl, ?_⟩) (by assumption) ?_
      rotate_left
      · intro w hSw
        refine exec_load_rowK 30 (.tmp 6) ?_ n1 ?_ 30 #[.int .i64 0, .string S.K.p1, .string ⟨#[]⟩, .int .i64 0, .int .i64 0, .int .i64 0, .int .i64 0, .string ⟨#[]⟩] (0, 0) _ hSw.2 Tryz.underlying30 ?_ Tryz.sizeCall
        all_goals rfl
      try simp only [List.getElem_toArray, List.getElem_cons_succ, List.getElem_cons_zero, Act.put, List.setIfInBounds_toArray, List.set_cons_zero, List.set_cons_succ]
      refine wpAnyH_ready (rs := [4]) (by kernel_rfl) (by simp) ?_
      refine AllReadyH.cons (o := _) rfl (fun K hK => ?_) AllReadyH.nil
      go_simp
      refine HOw.out.mono ?_
      rintro e wx ⟨rfl, hx⟩
      have HX := Lib.hid hx
      have hs1 := HSS.out hx
      clear hx
      try dsimp only
      refine hK.out _ _ hs1 (fun hHeld => ?_)
      clear hK K
      try simp only [List.getElem_toArray, List.getElem_cons_succ, List.getElem_cons_zero, Act.put, List.setIfInBounds_toArray, List.set_cons_zero, List.set_cons_succ]
      have HAs := Lib.hid (cask_any S.K.kd (ownS S).id 0 0 S.K.p1 ⟨#[]⟩ 0 0 0 0 ⟨#[]⟩ now wx HX.out)
      refine wpAnyH_ready (rs := [7]) (by kernel_rfl) (by simp) ?_
      refine AllReadyH.cons (o := _) rfl (fun K hK => ?_) AllReadyH.nil
      go_simp
      refine HAs.out.mono ?_
      rintro e wy ⟨b, rfl, hy2, hy3⟩
      have HY := Lib.hid (And.intro hy2 hy3)
      clear hy2 hy3
      have hs2 := HSS.out HY.out.2
      try dsimp only
      refine hK.out _ _ hs2 (fun hHeld => ?_)
      clear hK K
      try simp only [List.getElem_toArray, List.getElem_cons_succ, List.getElem_cons_zero, Act.put, List.setIfInBounds_toArray, List.set_cons_zero, List.set_cons_succ]
      refine wpAnyH_take (i := 8) (oi := _) (v := ?_) rfl (by kernel_rfl) (by kernel_rfl) (by kernel_rfl) (fun _ _ _ h => h) (Or.inl ⟨by rfl, ?_⟩) (by assumption) ?_
      rotate_left
      · intro w hSw
        (try dsimp only at hSw)
        first | (go_simp; done) | (go_simp; with_reducible rfl)
      try simp only [List.getElem_toArray, List.getElem_cons_succ, List.getElem_cons_zero, Act.put, List.setIfInBounds_toArray, List.set_cons_zero, List.set_cons_succ]
      refine wpAnyH_done (by kernel_rfl) ?_ _
      (try simp only [Exit.then])
      go_wp2
      go_ret
      exact ⟨_, _, NP.out, b, rfl, HY.out.1, HY.out.2.less fun q hq => List.mem_cons_of_mem _ (List.mem_cons_of_mem _ hq)⟩
end
end Go.Proofs.YtiinponoeaihcaaGreat
