/- A client: record. -/
import Derived.Test.YtiinponoeaihcaaGreatU10
set_option linter.unusedVariables false
set_option linter.unusedSimpArgs false
set_option linter.unusedSectionVars false
namespace Go.Proofs.YtiinponoeaihcaaGreat
open Go.RowKit Go.Shelf

attribute [local go_sem] Oper.semAt_some
/-- the record of a write -/
def recW (S : Cs) : Gd.Rec := if S.K.kd = 5 then { call := (ownS S).id, inode := inoF S.f S.K.fd, tr := true, off := S.K.n, d := [] } else { call := (ownS S).id, inode := inoF S.f S.K.fd, tr := false, off := S.K.off, d := S.K.d.data.toList }
theorem ownS_f (S : Cs) : (ownS S).f = S.f := by
  unfold ownS
  split <;> rfl
theorem Tryz.sizeRecK : (Tryz.prog.info? 112).map (fun i => i.size) = some 5 := by kernel_rfl
theorem rec5_one (a b : Int) (t : Bool) (o : Int) (s : ByteArray) : (#[.int .i64 a, .int .i64 b, .bool t, .int .i64 o, .string s] : Array Value).all (·.oneCell') = true := by simp [Value.oneCell']
section
variable {cb : Nat} {S : Cs} {w0 : World} {Ls : List (Nat × Obj)}
/-- the head of one's own variables is laid anew -/
theorem Ck.setAll {w : World} {k : Nat} {C : Array Value} {ty : TypeId} {vs : List Value} {Lr : List (Nat × Obj)} (h : Ck cb S w0 ((k, .cells C ty (0, 0)) :: Lr) w) (hne : ∀ p ∈ Lr, p.1 ≠ k) (hs : C.size = vs.length) : Ck cb S w0 ((k, .cells vs.toArray ty (0, 0)) :: Lr) (w.setCells k 0 vs) :=
  h.put (k := k) List.mem_cons_self (only_setCells _ _ _ _) _ fun p hp => by
    rcases List.mem_cons.1 hp with rfl | hp
    · refine Or.inl ⟨rfl, ?_⟩
      rw [setCells_heap2 k _ vs 0 w C (h.get List.mem_cons_self), putCells2_all hs]
    · exact Or.inr ⟨List.mem_cons_of_mem _ hp, hne p hp⟩
set_option maxHeartbeats 8000000 in
set_option maxRecDepth 100000 in
theorem crecord_any {wb : Nat} (hk : S.wk = some wb) (hf : I64 S.K.fd) (h0 : 0 ≤ S.life ∧ S.life < 1048576) (h1 : 0 ≤ S.cnt ∧ S.cnt ≤ 1000000) (w : World) (h : Ck cb S w0 Ls w) :
    Calls Tryz.prog 61 #[pC cb] w fun e w' => e = .returned (recR (recW S)) ∧ Ck cb (ownS S) w0 Ls w' := by
  have H := Lib.hid h
  have Hk := Lib.hid hk
  have H0 := Lib.hid h0
  have H1 := Lib.hid h1
  have Hf := Lib.hid hf
  clear h hk h0 h1 hf
  go_enter Tryz.func61, Tryz.ntmps61
  go_upto_region 1 with fail
  obtain ⟨w1, hw⟩ : ∃ u, u = w.alloc (.cells #[.int .i64 0, .int .i64 0, .bool false, .int .i64 0, .string ⟨#[]⟩] 112) := ⟨_, rfl⟩
  obtain ⟨n0, hn⟩ : ∃ u, u = w.heap.size := ⟨_, rfl⟩
  rw [← hw, ← hn]
  have H2 : Hid (Ck cb S w0 ((n0, .cells #[.int .i64 0, .int .i64 0, .bool false, .int .i64 0, .string ⟨#[]⟩] 112 (0, 0)) :: Ls) w1) := Lib.hid (by rw [hw, hn]; exact H.out.box _ _)
  have HNe : Hid (∀ p ∈ Ls, p.1 ≠ n0) := Lib.hid (by rw [hn]; exact H.out.fresh)
  clear hw hn H
  have c18 : w1.cell? ⟨cb, 18, none⟩ = some (ptrV S.wk) := H2.out.cell 18
  unfold ptrV at c18
  rw [Hk.out] at c18
  dsimp only [Option.map_some] at c18
  have hb := H2.out.work (wb := wb) Hk.out
  have d0 : w1.cell? ⟨wb, 0, none⟩ = some (.int .i64 S.K.kd) := cell_of_row w1 wb 0 _ _ _ hb
  have d1 : w1.cell? ⟨wb, 1, none⟩ = some (.string S.K.p1) := cell_of_row w1 wb 1 _ _ _ hb
  have d2 : w1.cell? ⟨wb, 2, none⟩ = some (.string S.K.p2) := cell_of_row w1 wb 2 _ _ _ hb
  have d3 : w1.cell? ⟨wb, 3, none⟩ = some (.int .i64 S.K.fl) := cell_of_row w1 wb 3 _ _ _ hb
  have d4 : w1.cell? ⟨wb, 4, none⟩ = some (.int .i64 S.K.fd) := cell_of_row w1 wb 4 _ _ _ hb
  have d5 : w1.cell? ⟨wb, 5, none⟩ = some (.int .i64 S.K.off) := cell_of_row w1 wb 5 _ _ _ hb
  have d6 : w1.cell? ⟨wb, 6, none⟩ = some (.int .i64 S.K.n) := cell_of_row w1 wb 6 _ _ _ hb
  have d7 : w1.cell? ⟨wb, 7, none⟩ = some (.string S.K.d) := cell_of_row w1 wb 7 _ _ _ hb
  clear hb
  go_upto_region 2 with fail
  obtain ⟨w3, hw⟩ : ∃ u, u = w1.alloc (.cells #[.int .i64 S.K.kd, .string S.K.p1, .string S.K.p2, .int .i64 S.K.fl, .int .i64 S.K.fd, .int .i64 S.K.off, .int .i64 S.K.n, .string S.K.d] 30) := ⟨_, rfl⟩
  obtain ⟨n1, hn⟩ : ∃ u, u = w1.heap.size := ⟨_, rfl⟩
  rw [← hw, ← hn]
  have H4 : Hid (Ck cb S w0 ((n1, .cells #[.int .i64 S.K.kd, .string S.K.p1, .string S.K.p2, .int .i64 S.K.fl, .int .i64 S.K.fd, .int .i64 S.K.off, .int .i64 S.K.n, .string S.K.d] 30 (0, 0)) :: (n0, .cells #[.int .i64 0, .int .i64 0, .bool false, .int .i64 0, .string ⟨#[]⟩] 112 (0, 0)) :: Ls) w3) := Lib.hid (by rw [hw, hn]; exact H2.out.box _ _)
  have H4d := Lib.hid H4.out.drew
  have HSS : Hid (∀ (T : Cs) (W : World), Ck cb T w0 ((n1, .cells #[.int .i64 S.K.kd, .string S.K.p1, .string S.K.p2, .int .i64 S.K.fl, .int .i64 S.K.fd, .int .i64 S.K.off, .int .i64 S.K.n, .string S.K.d] 30 (0, 0)) :: (n0, .cells #[.int .i64 0, .int .i64 0, .bool false, .int .i64 0, .string ⟨#[]⟩] 112 (0, 0)) :: Ls) W → W.cell? ⟨n1, 4, none⟩ = some (.int .i64 S.K.fd) ∧ W.cell? ⟨n1, 5, none⟩ = some (.int .i64 S.K.off) ∧ W.cell? ⟨n1, 7, none⟩ = some (.string S.K.d)) := Lib.hid fun T W hW => ⟨cell_of_row W n1 4 _ _ _ (hW.get List.mem_cons_self), cell_of_row W n1 5 _ _ _ (hW.get List.mem_cons_self), cell_of_row W n1 7 _ _ _ (hW.get List.mem_cons_self)⟩
  have HOw : Hid (∀ (L : List (Nat × Obj)) (W : World), Ck cb S w0 L W → Calls Tryz.prog 52 #[pC cb] W fun e w' => e = .returned (.int .i64 (ownS S).id) ∧ Ck cb (ownS S) w0 L w') := Lib.hid fun L W hW => cown_any H0.out H1.out W hW
  have HIn : Hid (∀ (L : List (Nat × Obj)) (W : World), Ck cb (ownS S) w0 L W → Calls Tryz.prog 53 #[pC cb, .int .i64 S.K.fd] W fun e w' => e = .returned (.int .i64 (inoF S.f S.K.fd)) ∧ w' = W) := Lib.hid fun L W hW => by
    have := cinode_any S.K.fd Hf.out W hW
    rw [ownS_f] at this
    exact this
  have hs0 := HSS.out _ _ H4.out.drew
  clear hw hn H2 c18 d0 d1 d2 d3 d4 d5 d6 d7
  go_cut [4] from 13 to 23 (fun z wx => ∃ r2 : Nat, z = .pointer (some ⟨r2, 0, none⟩) ∧ Hid (Ck cb (ownS S) w0 ((r2, .cells #[.int .i64 (ownS S).id, .int .i64 (inoF S.f S.K.fd), .bool false, .int .i64 S.K.off, .string S.K.d] 112 (0, 0)) :: ((n1, .cells #[.int .i64 S.K.kd, .string S.K.p1, .string S.K.p2, .int .i64 S.K.fl, .int .i64 S.K.fd, .int .i64 S.K.off, .int .i64 S.K.n, .string S.K.d] 30 (0, 0)) :: (n0, .cells #[.int .i64 0, .int .i64 0, .bool false, .int .i64 0, .string ⟨#[]⟩] 112 (0, 0)) :: Ls)) wx) ∧ Hid (∀ p ∈ ((n1, .cells #[.int .i64 S.K.kd, .string S.K.p1, .string S.K.p2, .int .i64 S.K.fl, .int .i64 S.K.fd, .int .i64 S.K.off, .int .i64 S.K.n, .string S.K.d] 30 (0, 0)) :: (n0, .cells #[.int .i64 0, .int .i64 0, .bool false, .int .i64 0, .string ⟨#[]⟩] 112 (0, 0)) :: Ls), p.1 ≠ r2))
  case first =>
    refine wp_region_held_drew (S := fun W => W.cell? ⟨n1, 4, none⟩ = some (.int .i64 S.K.fd) ∧ W.cell? ⟨n1, 5, none⟩ = some (.int .i64 S.K.off) ∧ W.cell? ⟨n1, 7, none⟩ = some (.string S.K.d)) (by kernel_rfl) ?_ (fun hHeld => ?_)
    · exact hs0
    refine wpAnyH_take (i := 0) (oi := _) (v := ?_) rfl (by kernel_rfl) (by kernel_rfl) (by kernel_rfl) (fun _ _ _ h => h) (Or.inl ⟨by rfl, ?_⟩) (by assumption) ?_
    rotate_left
    · intro w hSw
      (try dsimp only at hSw)
      first | (go_simp; done) | (go_simp; with_reducible rfl)
    try simp only [List.getElem_toArray, List.getElem_cons_succ, List.getElem_cons_zero, Act.put, List.setIfInBounds_toArray, List.set_cons_zero, List.set_cons_succ]
    refine wpAnyH_take (i := 2) (oi := _) (v := ?_) rfl (by kernel_rfl) (by kernel_rfl) (by kernel_rfl) (fun _ _ _ h => h) (Or.inl ⟨by rfl, ?_⟩) (by assumption) ?_
    rotate_left
    · intro w hSw
      (try dsimp only at hSw)
      first | (go_simp; done) | (go_simp; with_reducible rfl)
    try simp only [List.getElem_toArray, List.getElem_cons_succ, List.getElem_cons_zero, Act.put, List.setIfInBounds_toArray, List.set_cons_zero, List.set_cons_succ]
    refine wpAnyH_take (i := 3) (oi := _) (v := ?_) rfl (by kernel_rfl) (by kernel_rfl) (by kernel_rfl) (fun _ _ _ h => h) (Or.inl ⟨by rfl, ?_⟩) (by assumption) ?_
    rotate_left
    · intro w hSw
      (try dsimp only at hSw)
      first | (go_simp; done) | (go_simp; with_reducible rfl)
    try simp only [List.getElem_toArray, List.getElem_cons_succ, List.getElem_cons_zero, Act.put, List.setIfInBounds_toArray, List.set_cons_zero, List.set_cons_succ]
    refine wpAnyH_take (i := 4) (oi := _) (v := ?_) rfl (by kernel_rfl) (by kernel_rfl) (by kernel_rfl) (fun _ _ _ h => h) (Or.inl ⟨by rfl, ?_⟩) (by assumption) ?_
    rotate_left
    · intro w hSw
      (try dsimp only at hSw)
      first | (go_simp; done) | (go_simp; with_reducible rfl)
    try simp only [List.getElem_toArray, List.getElem_cons_succ, List.getElem_cons_zero, Act.put, List.setIfInBounds_toArray, List.set_cons_zero, List.set_cons_succ]
    refine wpAnyH_take (i := 6) (oi := _) (v := ?_) rfl (by kernel_rfl) (by kernel_rfl) (by kernel_rfl) (fun _ _ _ h => h) (Or.inl ⟨by rfl, ?_⟩) (by assumption) ?_
    rotate_left
    · intro w hSw
      (try dsimp only at hSw)
      first | (go_simp; done) | (go_simp; with_reducible rfl)
    try simp only [List.getElem_toArray, List.getElem_cons_succ, List.getElem_cons_zero, Act.put, List.setIfInBounds_toArray, List.set_cons_zero, List.set_cons_succ]
    refine wpAnyH_take (i := 7) (oi := _) (v := ?_) rfl (by kernel_rfl) (by kernel_rfl) (by kernel_rfl) (fun _ _ _ h => h) (Or.inl ⟨by rfl, ?_⟩) (by assumption) ?_
    rotate_left
    · intro w hSw
      (try dsimp only at hSw)
      first | (go_simp; done) | (go_simp; with_reducible rfl)
    try simp only [List.getElem_toArray, List.getElem_cons_succ, List.getElem_cons_zero, Act.put, List.setIfInBounds_toArray, List.set_cons_zero, List.set_cons_succ]
    refine wpAnyH_take (i := 8) (oi := _) (v := ?_) rfl (by kernel_rfl) (by kernel_rfl) (by kernel_rfl) (fun _ _ _ h => h) (Or.inl ⟨by rfl, ?_⟩) (by assumption) ?_
    rotate_left
    · intro w hSw
      (try dsimp only at hSw)
      first | (go_simp; done) | (go_simp; with_reducible rfl)
    try simp only [List.getElem_toArray, List.getElem_cons_succ, List.getElem_cons_zero, Act.put, List.setIfInBounds_toArray, List.set_cons_zero, List.set_cons_succ]
    refine wpAnyH_take (i := 9) (oi := _) (v := ?_) rfl (by kernel_rfl) (by kernel_rfl) (by kernel_rfl) (fun _ _ _ h => h) (Or.inl ⟨by rfl, ?_⟩) (by assumption) ?_
    rotate_left
    · intro w hSw
      (try dsimp only at hSw)
      first | (go_simp; done) | (go_simp; with_reducible rfl)
    try simp only [List.getElem_toArray, List.getElem_cons_succ, List.getElem_cons_zero, Act.put, List.setIfInBounds_toArray, List.set_cons_zero, List.set_cons_succ]
    refine wpAnyH_ready (rs := [1, 11]) (by kernel_rfl) (by simp) ?_
    refine AllReadyH.cons (o := _) rfl (fun K hK => ?_) (AllReadyH.cons (o := _) rfl (fun K hK => ?_) AllReadyH.nil)
    · go_simp
      refine (HOw.out _ _ H4d.out).mono ?_
      rintro e wx ⟨rfl, hx⟩
      have HXwx := Lib.hid hx
      have hswx := HSS.out _ _ hx
      clear hx
      try dsimp only
      refine hK.out _ _ hswx (fun hHeld => ?_)
      clear hK K
      try simp only [List.getElem_toArray, List.getElem_cons_succ, List.getElem_cons_zero, Act.put, List.setIfInBounds_toArray, List.set_cons_zero, List.set_cons_succ]
      refine wpAnyH_ready (rs := [5, 11]) (by kernel_rfl) (by simp) ?_
      refine AllReadyH.cons (o := _) rfl (fun K hK => ?_) (AllReadyH.cons (o := _) rfl (fun K hK => ?_) AllReadyH.nil)
      · go_simp
        refine (HIn.out _ _ HXwx.out).mono ?_
        rintro e wy ⟨rfl, rfl⟩
        try dsimp only
        refine hK.out _ _ hswx (fun hHeld => ?_)
        clear hK K
        try simp only [List.getElem_toArray, List.getElem_cons_succ, List.getElem_cons_zero, Act.put, List.setIfInBounds_toArray, List.set_cons_zero, List.set_cons_succ]
        refine wpAnyH_take (i := 10) (oi := _) (v := ?_) rfl (by kernel_rfl) (by kernel_rfl) (by kernel_rfl) (fun _ _ _ h => h) (Or.inl ⟨by rfl, ?_⟩) (by assumption) ?_
        rotate_left
        · intro w hSw
          (try dsimp only at hSw)
          first | (go_simp; done) | (go_simp; with_reducible rfl)
        try simp only [List.getElem_toArray, List.getElem_cons_succ, List.getElem_cons_zero, Act.put, List.setIfInBounds_toArray, List.set_cons_zero, List.set_cons_succ]
        refine wpAnyH_ready (rs := [11]) (by kernel_rfl) (by simp) ?_
        refine AllReadyH.cons (o := _) rfl (fun K hK => ?_) AllReadyH.nil
        go_simp
        have HF := Lib.hid (HXwx.out.box #[.int .i64 0, .int .i64 0, .bool false, .int .i64 0, .string ⟨#[]⟩] 112)
        have HNr : Hid (∀ p ∈ ((n1, .cells #[.int .i64 S.K.kd, .string S.K.p1, .string S.K.p2, .int .i64 S.K.fl, .int .i64 S.K.fd, .int .i64 S.K.off, .int .i64 S.K.n, .string S.K.d] 30 (0, 0)) :: (n0, .cells #[.int .i64 0, .int .i64 0, .bool false, .int .i64 0, .string ⟨#[]⟩] 112 (0, 0)) :: Ls), p.1 ≠ wy.heap.size) := Lib.hid HXwx.out.fresh
        have hsb := HSS.out _ _ (HF.out.tl rfl)
        try dsimp only
        refine hK.out _ _ hsb (fun hHeld => ?_)
        clear hK K
        try simp only [List.getElem_toArray, List.getElem_cons_succ, List.getElem_cons_zero, Act.put, List.setIfInBounds_toArray, List.set_cons_zero, List.set_cons_succ]
        refine wpAnyH_ready (rs := [12]) (by kernel_rfl) (by simp) ?_
        refine AllReadyH.cons (o := _) rfl (fun K hK => ?_) AllReadyH.nil
        refine wp_store_mid 112 _ _ rfl wy.heap.size 0 #[.int .i64 (ownS S).id, .int .i64 (inoF S.f S.K.fd), .bool false, .int .i64 S.K.off, .string S.K.d] rfl rfl (there_at (HF.out.get (k := wy.heap.size) List.mem_cons_self) rfl) Tryz.sizeRecK (rec5_one _ _ _ _ _) ?_
        have HE : Hid (Ck cb (ownS S) w0 ((wy.heap.size, .cells #[.int .i64 (ownS S).id, .int .i64 (inoF S.f S.K.fd), .bool false, .int .i64 S.K.off, .string S.K.d] 112 (0, 0)) :: ((n1, .cells #[.int .i64 S.K.kd, .string S.K.p1, .string S.K.p2, .int .i64 S.K.fl, .int .i64 S.K.fd, .int .i64 S.K.off, .int .i64 S.K.n, .string S.K.d] 30 (0, 0)) :: (n0, .cells #[.int .i64 0, .int .i64 0, .bool false, .int .i64 0, .string ⟨#[]⟩] 112 (0, 0)) :: Ls)) (World.setCells _ wy.heap.size 0 [.int .i64 (ownS S).id, .int .i64 (inoF S.f S.K.fd), .bool false, .int .i64 S.K.off, .string S.K.d])) := Lib.hid (HF.out.setAll HNr.out rfl)
        have hsE := HSS.out _ _ (HE.out.tl rfl)
        try dsimp only
        refine hK.out _ _ hsE (fun hHeld => ?_)
        clear hK K
        try simp only [List.getElem_toArray, List.getElem_cons_succ, List.getElem_cons_zero, Act.put, List.setIfInBounds_toArray, List.set_cons_zero, List.set_cons_succ]
        refine wpAnyH_done (by kernel_rfl) ?_ _
        (try simp only [Exit.then])
        go_wp2
        go_meet
        exact ⟨wy.heap.size, rfl, HE, HNr⟩
      · go_simp
        have HF := Lib.hid (HXwx.out.box #[.int .i64 0, .int .i64 0, .bool false, .int .i64 0, .string ⟨#[]⟩] 112)
        have HNr : Hid (∀ p ∈ ((n1, .cells #[.int .i64 S.K.kd, .string S.K.p1, .string S.K.p2, .int .i64 S.K.fl, .int .i64 S.K.fd, .int .i64 S.K.off, .int .i64 S.K.n, .string S.K.d] 30 (0, 0)) :: (n0, .cells #[.int .i64 0, .int .i64 0, .bool false, .int .i64 0, .string ⟨#[]⟩] 112 (0, 0)) :: Ls), p.1 ≠ wx.heap.size) := Lib.hid HXwx.out.fresh
        have hsb := HSS.out _ _ (HF.out.tl rfl)
        try dsimp only
        refine hK.out _ _ hsb (fun hHeld => ?_)
        clear hK K
        try simp only [List.getElem_toArray, List.getElem_cons_succ, List.getElem_cons_zero, Act.put, List.setIfInBounds_toArray, List.set_cons_zero, List.set_cons_succ]
        refine wpAnyH_ready (rs := [5]) (by kernel_rfl) (by simp) ?_
        refine AllReadyH.cons (o := _) rfl (fun K hK => ?_) AllReadyH.nil
        go_simp
        refine (HIn.out _ _ HF.out).mono ?_
        rintro e wy ⟨rfl, rfl⟩
        try dsimp only
        refine hK.out _ _ hsb (fun hHeld => ?_)
        clear hK K
        try simp only [List.getElem_toArray, List.getElem_cons_succ, List.getElem_cons_zero, Act.put, List.setIfInBounds_toArray, List.set_cons_zero, List.set_cons_succ]
        refine wpAnyH_take (i := 10) (oi := _) (v := ?_) rfl (by kernel_rfl) (by kernel_rfl) (by kernel_rfl) (fun _ _ _ h => h) (Or.inl ⟨by rfl, ?_⟩) (by assumption) ?_
        rotate_left
        · intro w hSw
          (try dsimp only at hSw)
          first | (go_simp; done) | (go_simp; with_reducible rfl)
        try simp only [List.getElem_toArray, List.getElem_cons_succ, List.getElem_cons_zero, Act.put, List.setIfInBounds_toArray, List.set_cons_zero, List.set_cons_succ]
        refine wpAnyH_ready (rs := [12]) (by kernel_rfl) (by simp) ?_
        refine AllReadyH.cons (o := _) rfl (fun K hK => ?_) AllReadyH.nil
        refine wp_store_mid 112 _ _ rfl wx.heap.size 0 #[.int .i64 (ownS S).id, .int .i64 (inoF S.f S.K.fd), .bool false, .int .i64 S.K.off, .string S.K.d] rfl rfl (there_at (HF.out.get (k := wx.heap.size) List.mem_cons_self) rfl) Tryz.sizeRecK (rec5_one _ _ _ _ _) ?_
        have HE : Hid (Ck cb (ownS S) w0 ((wx.heap.size, .cells #[.int .i64 (ownS S).id, .int .i64 (inoF S.f S.K.fd), .bool false, .int .i64 S.K.off, .string S.K.d] 112 (0, 0)) :: ((n1, .cells #[.int .i64 S.K.kd, .string S.K.p1, .string S.K.p2, .int .i64 S.K.fl, .int .i64 S.K.fd, .int .i64 S.K.off, .int .i64 S.K.n, .string S.K.d] 30 (0, 0)) :: (n0, .cells #[.int .i64 0, .int .i64 0, .bool false, .int .i64 0, .string ⟨#[]⟩] 112 (0, 0)) :: Ls)) (World.setCells _ wx.heap.size 0 [.int .i64 (ownS S).id, .int .i64 (inoF S.f S.K.fd), .bool false, .int .i64 S.K.off, .string S.K.d])) := Lib.hid (HF.out.setAll HNr.out rfl)
        have hsE := HSS.out _ _ (HE.out.tl rfl)
        try dsimp only
        refine hK.out _ _ hsE (fun hHeld => ?_)
        clear hK K
        try simp only [List.getElem_toArray, List.getElem_cons_succ, List.getElem_cons_zero, Act.put, List.setIfInBounds_toArray, List.set_cons_zero, List.set_cons_succ]
        refine wpAnyH_done (by kernel_rfl) ?_ _
        (try simp only [Exit.then])
        go_wp2
        go_meet
        exact ⟨wx.heap.size, rfl, HE, HNr⟩
    · go_simp
      have HXa := Lib.hid (H4.out.drew.box #[.int .i64 0, .int .i64 0, .bool false, .int .i64 0, .string ⟨#[]⟩] 112)
      have HNr : Hid (∀ p ∈ ((n1, .cells #[.int .i64 S.K.kd, .string S.K.p1, .string S.K.p2, .int .i64 S.K.fl, .int .i64 S.K.fd, .int .i64 S.K.off, .int .i64 S.K.n, .string S.K.d] 30 (0, 0)) :: (n0, .cells #[.int .i64 0, .int .i64 0, .bool false, .int .i64 0, .string ⟨#[]⟩] 112 (0, 0)) :: Ls), p.1 ≠ w3.heap.size) := Lib.hid H4.out.fresh
      have hsa := HSS.out _ _ (HXa.out.tl rfl)
      try dsimp only
      refine hK.out _ _ hsa (fun hHeld => ?_)
      clear hK K
      try simp only [List.getElem_toArray, List.getElem_cons_succ, List.getElem_cons_zero, Act.put, List.setIfInBounds_toArray, List.set_cons_zero, List.set_cons_succ]
      refine wpAnyH_ready (rs := [1]) (by kernel_rfl) (by simp) ?_
      refine AllReadyH.cons (o := _) rfl (fun K hK => ?_) AllReadyH.nil
      go_simp
      refine (HOw.out _ _ HXa.out).mono ?_
      rintro e wx ⟨rfl, hx⟩
      have HXwx := Lib.hid hx
      have hswx := HSS.out _ _ (hx.tl rfl)
      clear hx
      try dsimp only
      refine hK.out _ _ hswx (fun hHeld => ?_)
      clear hK K
      try simp only [List.getElem_toArray, List.getElem_cons_succ, List.getElem_cons_zero, Act.put, List.setIfInBounds_toArray, List.set_cons_zero, List.set_cons_succ]
      refine wpAnyH_ready (rs := [5]) (by kernel_rfl) (by simp) ?_
      refine AllReadyH.cons (o := _) rfl (fun K hK => ?_) AllReadyH.nil
      go_simp
      refine (HIn.out _ _ HXwx.out).mono ?_
      rintro e wy ⟨rfl, rfl⟩
      try dsimp only
      refine hK.out _ _ hswx (fun hHeld => ?_)
      clear hK K
      try simp only [List.getElem_toArray, List.getElem_cons_succ, List.getElem_cons_zero, Act.put, List.setIfInBounds_toArray, List.set_cons_zero, List.set_cons_succ]
      have HF := HXwx
      refine wpAnyH_take (i := 10) (oi := _) (v := ?_) rfl (by kernel_rfl) (by kernel_rfl) (by kernel_rfl) (fun _ _ _ h => h) (Or.inl ⟨by rfl, ?_⟩) (by assumption) ?_
      rotate_left
      · intro w hSw
        (try dsimp only at hSw)
        first | (go_simp; done) | (go_simp; with_reducible rfl)
      try simp only [List.getElem_toArray, List.getElem_cons_succ, List.getElem_cons_zero, Act.put, List.setIfInBounds_toArray, List.set_cons_zero, List.set_cons_succ]
      refine wpAnyH_ready (rs := [12]) (by kernel_rfl) (by simp) ?_
      refine AllReadyH.cons (o := _) rfl (fun K hK => ?_) AllReadyH.nil
      refine wp_store_mid 112 _ _ rfl w3.heap.size 0 #[.int .i64 (ownS S).id, .int .i64 (inoF S.f S.K.fd), .bool false, .int .i64 S.K.off, .string S.K.d] rfl rfl (there_at (HF.out.get (k := w3.heap.size) List.mem_cons_self) rfl) Tryz.sizeRecK (rec5_one _ _ _ _ _) ?_
      have HE : Hid (Ck cb (ownS S) w0 ((w3.heap.size, .cells #[.int .i64 (ownS S).id, .int .i64 (inoF S.f S.K.fd), .bool false, .int .i64 S.K.off, .string S.K.d] 112 (0, 0)) :: ((n1, .cells #[.int .i64 S.K.kd, .string S.K.p1, .string S.K.p2, .int .i64 S.K.fl, .int .i64 S.K.fd, .int .i64 S.K.off, .int .i64 S.K.n, .string S.K.d] 30 (0, 0)) :: (n0, .cells #[.int .i64 0, .int .i64 0, .bool false, .int .i64 0, .string ⟨#[]⟩] 112 (0, 0)) :: Ls)) (World.setCells wy w3.heap.size 0 [.int .i64 (ownS S).id, .int .i64 (inoF S.f S.K.fd), .bool false, .int .i64 S.K.off, .string S.K.d])) := Lib.hid (HF.out.setAll HNr.out rfl)
      have hsE := HSS.out _ _ (HE.out.tl rfl)
      try dsimp only
      refine hK.out _ _ hsE (fun hHeld => ?_)
      clear hK K
      try simp only [List.getElem_toArray, List.getElem_cons_succ, List.getElem_cons_zero, Act.put, List.setIfInBounds_toArray, List.set_cons_zero, List.set_cons_succ]
      refine wpAnyH_done (by kernel_rfl) ?_ _
      (try simp only [Exit.then])
      go_wp2
      go_meet
      exact ⟨w3.heap.size, rfl, HE, HNr⟩
  case rest =>
  obtain ⟨r2, rfl, H5, HNr⟩ := hcut
  have d0 : wc.cell? ⟨n1, 0, none⟩ = some (.int .i64 S.K.kd) := cell_of_row wc n1 0 _ _ _ (H5.out.get (k := n1) (List.mem_cons_of_mem _ List.mem_cons_self))
  by_cases hkd : S.K.kd = 5
  · have hkb : (S.K.kd == 5) = true := by rw [beq_iff_eq]; exact hkd
    have HV : Hid (Ending.returned (.agg #[.int .i64 (ownS S).id, .int .i64 (inoF S.f S.K.fd), .bool true, .int .i64 S.K.n, .string ⟨#[]⟩]) = .returned (recR (recW S))) := Lib.hid (by unfold recW; rw [if_pos hkd]; rfl)
    clear hkd
    go_upto_region 4 with fail
    have d6 : wc.cell? ⟨n1, 6, none⟩ = some (.int .i64 S.K.n) := cell_of_row wc n1 6 _ _ _ (H5.out.get (k := n1) (List.mem_cons_of_mem _ List.mem_cons_self))
    have hb := H5.out.get (k := r2) List.mem_cons_self
    have e2 : wc.cell? ⟨r2, 2, none⟩ = some (.bool false) := cell_of_row wc r2 2 _ _ _ hb
    have e3 : wc.cell? ⟨r2, 3, none⟩ = some (.int .i64 S.K.off) := cell_of_row wc r2 3 _ _ _ hb
    have e4 : wc.cell? ⟨r2, 4, none⟩ = some (.string S.K.d) := cell_of_row wc r2 4 _ _ _ hb
    have ge := fun i => frozen_of_row wc r2 i _ _ hb
    clear hb d0
    go_region
    obtain ⟨w6, hw⟩ : ∃ u, u = (((wc.setCell ⟨r2, 2, none⟩ (.bool true)).setCell ⟨r2, 3, none⟩ (.int .i64 S.K.n)).setCell ⟨r2, 4, none⟩ (.string ⟨#[]⟩)).drew := ⟨_, rfl⟩
    rw [← hw]
    have H6 : Hid (Ck cb (ownS S) w0 ((r2, .cells #[.int .i64 (ownS S).id, .int .i64 (inoF S.f S.K.fd), .bool true, .int .i64 S.K.n, .string ⟨#[]⟩] 112 (0, 0)) :: ((n1, .cells #[.int .i64 S.K.kd, .string S.K.p1, .string S.K.p2, .int .i64 S.K.fl, .int .i64 S.K.fd, .int .i64 S.K.off, .int .i64 S.K.n, .string S.K.d] 30 (0, 0)) :: (n0, .cells #[.int .i64 0, .int .i64 0, .bool false, .int .i64 0, .string ⟨#[]⟩] 112 (0, 0)) :: Ls)) w6) := Lib.hid (by rw [hw]; exact (((H5.out.set rfl HNr.out).set rfl HNr.out).set rfl HNr.out).drew)
    clear hw d6 e2 e3 e4 ge H5
    have hb := H6.out.get (k := r2) List.mem_cons_self
    have hz := H6.out.get (k := n0) (List.mem_cons_of_mem _ (List.mem_cons_of_mem _ List.mem_cons_self))
    have e0 : w6.cell? ⟨r2, 0, none⟩ = some (.int .i64 (ownS S).id) := cell_of_row w6 r2 0 _ _ _ hb
    have e1 : w6.cell? ⟨r2, 1, none⟩ = some (.int .i64 (inoF S.f S.K.fd)) := cell_of_row w6 r2 1 _ _ _ hb
    have e2 : w6.cell? ⟨r2, 2, none⟩ = some (.bool true) := cell_of_row w6 r2 2 _ _ _ hb
    have e3 : w6.cell? ⟨r2, 3, none⟩ = some (.int .i64 S.K.n) := cell_of_row w6 r2 3 _ _ _ hb
    have e4 : w6.cell? ⟨r2, 4, none⟩ = some (.string ⟨#[]⟩) := cell_of_row w6 r2 4 _ _ _ hb
    have HZ := Lib.hid hz
    clear hb hz
    go_wp2_with (first | (refine wpList_load_mid rfl 112 _ rfl r2 0 rfl [.int .i64 (ownS S).id, .int .i64 (inoF S.f S.K.fd), .bool true, .int .i64 S.K.n, .string ⟨#[]⟩] _ (row_rangeK (H6.out.get (k := r2) List.mem_cons_self)) Tryz.underlying112 rfl Tryz.sizeRecK ?_) | (refine wpList_store_mid rfl 112 _ _ rfl n0 0 #[.int .i64 (ownS S).id, .int .i64 (inoF S.f S.K.fd), .bool true, .int .i64 S.K.n, .string ⟨#[]⟩] rfl rfl (there_at HZ.out rfl) Tryz.sizeRecK (rec5_one _ _ _ _ _) ?_))
    have HQ : Hid (Ck cb (ownS S) w0 Ls (w6.setCells n0 0 [.int .i64 (ownS S).id, .int .i64 (inoF S.f S.K.fd), .bool true, .int .i64 S.K.n, .string ⟨#[]⟩])) := Lib.hid (H6.out.put (k := n0) (List.mem_cons_of_mem _ (List.mem_cons_of_mem _ List.mem_cons_self)) (only_setCells _ _ _ _) Ls fun p hp => Or.inr ⟨List.mem_cons_of_mem _ (List.mem_cons_of_mem _ (List.mem_cons_of_mem _ hp)), HNe.out p hp⟩)
    have hR : (w6.setCells n0 0 [.int .i64 (ownS S).id, .int .i64 (inoF S.f S.K.fd), .bool true, .int .i64 S.K.n, .string ⟨#[]⟩]).heap[n0]? = some (.cells #[.int .i64 (ownS S).id, .int .i64 (inoF S.f S.K.fd), .bool true, .int .i64 S.K.n, .string ⟨#[]⟩] 112 (0, 0)) := by
      rw [setCells_heap2 n0 _ _ 0 w6 _ HZ.out]
      rfl
    refine bodyPost_ret (results_cell_row rfl _ _ n0 112 #[.int .i64 (ownS S).id, .int .i64 (inoF S.f S.K.fd), .bool true, .int .i64 S.K.n, .string ⟨#[]⟩] (0, 0) _ rfl hR Tryz.underlying112 rfl Tryz.sizeRecK) rfl ?_
    exact ⟨HV.out, HQ.out⟩
  · have hkb : (S.K.kd == 5) = false := by rw [beq_eq_false_iff_ne]; exact hkd
    have HV : Hid (Ending.returned (.agg #[.int .i64 (ownS S).id, .int .i64 (inoF S.f S.K.fd), .bool false, .int .i64 S.K.off, .string S.K.d]) = .returned (recR (recW S))) := Lib.hid (by unfold recW; rw [if_neg hkd]; rfl)
    clear hkd
    have hb := H5.out.get (k := r2) List.mem_cons_self
    have hz := H5.out.get (k := n0) (List.mem_cons_of_mem _ (List.mem_cons_of_mem _ List.mem_cons_self))
    have e0 : wc.cell? ⟨r2, 0, none⟩ = some (.int .i64 (ownS S).id) := cell_of_row wc r2 0 _ _ _ hb
    have e1 : wc.cell? ⟨r2, 1, none⟩ = some (.int .i64 (inoF S.f S.K.fd)) := cell_of_row wc r2 1 _ _ _ hb
    have e2 : wc.cell? ⟨r2, 2, none⟩ = some (.bool false) := cell_of_row wc r2 2 _ _ _ hb
    have e3 : wc.cell? ⟨r2, 3, none⟩ = some (.int .i64 S.K.off) := cell_of_row wc r2 3 _ _ _ hb
    have e4 : wc.cell? ⟨r2, 4, none⟩ = some (.string S.K.d) := cell_of_row wc r2 4 _ _ _ hb
    have HZ := Lib.hid hz
    clear hb hz
    go_wp2_with (first | (refine wpList_load_mid rfl 112 _ rfl r2 0 rfl [.int .i64 (ownS S).id, .int .i64 (inoF S.f S.K.fd), .bool false, .int .i64 S.K.off, .string S.K.d] _ (row_rangeK (H5.out.get (k := r2) List.mem_cons_self)) Tryz.underlying112 rfl Tryz.sizeRecK ?_) | (refine wpList_store_mid rfl 112 _ _ rfl n0 0 #[.int .i64 (ownS S).id, .int .i64 (inoF S.f S.K.fd), .bool false, .int .i64 S.K.off, .string S.K.d] rfl rfl (there_at HZ.out rfl) Tryz.sizeRecK (rec5_one _ _ _ _ _) ?_))
    have HQ : Hid (Ck cb (ownS S) w0 Ls (wc.setCells n0 0 [.int .i64 (ownS S).id, .int .i64 (inoF S.f S.K.fd), .bool false, .int .i64 S.K.off, .string S.K.d])) := Lib.hid (H5.out.put (k := n0) (List.mem_cons_of_mem _ (List.mem_cons_of_mem _ List.mem_cons_self)) (only_setCells _ _ _ _) Ls fun p hp => Or.inr ⟨List.mem_cons_of_mem _ (List.mem_cons_of_mem _ (List.mem_cons_of_mem _ hp)), HNe.out p hp⟩)
    have hR : (wc.setCells n0 0 [.int .i64 (ownS S).id, .int .i64 (inoF S.f S.K.fd), .bool false, .int .i64 S.K.off, .string S.K.d]).heap[n0]? = some (.cells #[.int .i64 (ownS S).id, .int .i64 (inoF S.f S.K.fd), .bool false, .int .i64 S.K.off, .string S.K.d] 112 (0, 0)) := by
      rw [setCells_heap2 n0 _ _ 0 wc _ HZ.out]
      rfl
    refine bodyPost_ret (results_cell_row rfl _ _ n0 112 #[.int .i64 (ownS S).id, .int .i64 (inoF S.f S.K.fd), .bool false, .int .i64 S.K.off, .string S.K.d] (0, 0) _ rfl hR Tryz.underlying112 rfl Tryz.sizeRecK) rfl ?_
    exact ⟨HV.out, HQ.out⟩
end
end Go.Proofs.YtiinponoeaihcaaGreat
