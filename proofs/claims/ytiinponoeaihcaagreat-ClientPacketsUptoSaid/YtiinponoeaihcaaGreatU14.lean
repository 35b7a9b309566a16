/- A client: gets. -/
import Derived.Test.YtiinponoeaihcaaGreatU13
import Derived.Test.YtiinponoeaihcaaGreatU04
set_option linter.unusedVariables false
set_option linter.unusedSimpArgs false
set_option linter.unusedSectionVars false
namespace Go.Proofs.YtiinponoeaihcaaGreat
open Go.RowKit Go.Shelf

attribute [local go_sem] Oper.semAt_some
def setK (S : Cs) (K : Wk) : Cs := { S with K := K }
/-- what was got may be read -/
def GotOk (K : Wk) : Prop := K.got.length ≤ 4 ∧ ∀ s ∈ K.got, s.size ≤ 128
/-- the same call -/
def SameC (K L : Wk) : Prop := L.kd = K.kd ∧ L.p1 = K.p1 ∧ L.p2 = K.p2 ∧ L.fl = K.fl ∧ L.fd = K.fd ∧ L.off = K.off ∧ L.n = K.n ∧ L.d = K.d
theorem Tryz.infoStrK : (Tryz.prog.info? 9).map (fun i => (i.zero, i.size, i.bytes)) = some (some (.string ⟨#[]⟩), 1, 16) := by kernel_rfl
theorem ext_size (s : ByteArray) (a b : Nat) : (s.extract a b).size ≤ s.size := by
  rw [ByteArray.size_extract]
  omega
theorem recsK_get : ∀ {P : List Gd.Rec} {k : Nat} {p : Gd.Rec} (i : Nat), P[k]? = some p → i < 5 → (recsC P)[k * 5 + i]? = (recC p).toList[i]?
  | [], k, p, i, h, _ => by simp at h
  | q :: r, 0, p, i, h, hi => by
    cases (by simpa using h : q = p)
    unfold recsC
    rw [List.flatMap_cons, Nat.zero_mul, Nat.zero_add, List.getElem?_append_left (by show i < 5; exact hi)]
  | q :: r, k + 1, p, i, h, hi => by
    have := recsK_get (P := r) (k := k) (p := p) i (by simpa using h) hi
    unfold recsC at this ⊢
    rw [List.flatMap_cons, List.getElem?_append_right (by show 5 ≤ (k + 1) * 5 + i; omega)]
    show (List.flatMap _ r)[(k + 1) * 5 + i - 5]? = _
    rw [show (k + 1) * 5 + i - 5 = k * 5 + i by omega]
    exact this
section
variable {cb : Nat} {S : Cs} {w0 : World} {Ls : List (Nat × Obj)}
set_option maxHeartbeats 8000000 in
set_option maxRecDepth 100000 in
theorem cgets_any {wb m : Nat} (hk : S.wk = some wb) (hm : S.hm = some m) (i : Int) (H : Hd) (hH : S.hold i = some H) (p : Pk) (hp : p.d.size ≤ 128) (hG : GotOk S.K) (hns : 0 ≤ H.ns ∧ H.ns < 65536) (hov : ∀ r ∈ H.ov, r.d.length ≤ 80) (hol : H.ov.length ≤ 1000000) (hoff : 0 ≤ S.K.off) (hn : 0 ≤ S.K.n ∧ S.K.n ≤ 1000) (w : World) (h : Ck cb S w0 Ls w) :
    Calls Tryz.prog 73 #[pC cb, .agg (pkC p), .pointer (some ⟨H.b, 0, none⟩)] w fun e w' => e = .returned (.tuple #[]) ∧ ∃ K, SameC S.K K ∧ GotOk K ∧ (Ck cb (setK S K) w0 Ls w' ∨ ∃ D, Ck cb (finS (setK S K) 0 0 D (.slice none 0 0) 0 0 0) w0 Ls w') := by
  obtain ⟨i0, hi, hz0, hz1, hz2⟩ := info_parts Tryz.infoStrK
  have Hc := Lib.hid h
  have Hk := Lib.hid hk
  have Hm := Lib.hid hm
  have HH := Lib.hid hH
  have HP := Lib.hid hp
  have HG := Lib.hid hG
  have HNs := Lib.hid hns
  have HOv := Lib.hid hov
  have HOl := Lib.hid hol
  have HOff := Lib.hid hoff
  have HN := Lib.hid hn
  clear h hk hm hH hp hG hns hov hol hoff hn
  go_enter Tryz.func73, Tryz.ntmps73
  go_upto_region 1 with fail
  obtain ⟨w1, hw⟩ : ∃ u, u = w.alloc (.cells (pkC p) 41) := ⟨_, rfl⟩
  obtain ⟨n0, hn⟩ : ∃ u, u = w.heap.size := ⟨_, rfl⟩
  rw [← hw, ← hn]
  have H1 : Hid (Ck cb S w0 ((n0, .cells (pkC p) 41 (0, 0)) :: Ls) w1) := Lib.hid (by rw [hw, hn]; exact Hc.out.box _ _)
  clear hw hn Hc
  have c18 : w1.cell? ⟨cb, 18, none⟩ = some (ptrV S.wk) := H1.out.cell 18
  unfold ptrV at c18
  rw [Hk.out] at c18
  dsimp only [Option.map_some] at c18
  obtain ⟨A, c, hg⟩ := H1.out.gv Hk.out
  have d8 : w1.cell? ⟨wb, 8, none⟩ = some (.slice A S.K.got.length c) := by rw [← hg]; exact cell_of_row w1 wb 8 _ _ _ (H1.out.work Hk.out)
  obtain ⟨k, hkk⟩ : ∃ k, k = S.K.got.length := ⟨_, rfl⟩
  rw [← hkk] at d8 hg
  have Hkk := Lib.hid hkk
  have Hgv := Lib.hid hg
  clear hkk hg
  go_upto_region 3 with fail
  clear c18
  go_cut [37] from 26 to 37 (fun z wx => (∃ q : Bool, z = .bool q ∧ Hid (q = true → k < 4)) ∧ wx = w1)
  case first =>
    by_cases hk4 : k < 4
    · have e5 := hd_blk (H1.out.holdAt Hm.out HH.out).1 hk4
      have k4 : (k : Int) < 4 := by omega
      have k0 : (0 : Int) ≤ k := by omega
      have Hk4 := Lib.hid hk4
      clear hk4
      go_wp2_with fail
      go_meet
      exact ⟨⟨_, rfl, Lib.hid fun _ => Hk4.out⟩, rfl⟩
    · have hk4f : decide ((k : Int) < 4) = false := by simp; omega
      go_wp2_with fail
      go_meet
      exact ⟨⟨false, rfl, Lib.hid (by simp)⟩, rfl⟩
  case rest =>
  obtain ⟨⟨q, rfl, hq⟩, hwc⟩ := hcut
  subst wc
  go_upto_if 37 with fail
  go_cut [] from 38 to 62 (fun wx => ∃ K, Hid (SameC S.K K ∧ GotOk K) ∧ Hid (Ck cb (setK S K) w0 ((n0, .cells (pkC p) 41 (0, 0)) :: Ls) wx))
  case first =>
    have HS0 : Hid (SameC S.K S.K ∧ GotOk S.K) := Lib.hid ⟨⟨rfl, rfl, rfl, rfl, rfl, rfl, rfl, rfl⟩, HG.out⟩
    cases q with
    | true =>
      have hk4 := hq.out rfl
      have k4 : (k : Int) < 4 := by omega
      have k0 : (0 : Int) ≤ k := by omega
      have p7 : w1.cell? ⟨n0, 7, none⟩ = some (.string p.d) := cell_of_row w1 n0 7 _ _ _ (H1.out.get (k := n0) List.mem_cons_self)
      clear hq
      go_upto_region 4 with fail
      have HB := Lib.hid (H1.out.box #[.string p.d] 9).drew
      have HRow : Hid ((w1.alloc (.cells #[.string p.d] 9)).drew.ownsRow 0 9 1 S.K.gv k (S.K.got.map .string)) := Lib.hid (by
        obtain ⟨F, h1, _⟩ := HB.out
        rw [Hkk.out]
        exact (h1.work wb Hk.out).2.2.1)
      have HNews : Hid (∀ j u, [Value.string p.d][j]? = some u → (w1.alloc (.cells #[.string p.d] 9)).drew.cell? ((⟨w1.heap.size, 0, none⟩ : Addr).add j) = some u) := Lib.hid (cell_one_new w1 _ _)
      have hwk := HB.out.work (wb := wb) Hk.out
      have HWl : Hid (wb < (w1.alloc (.cells #[.string p.d] 9)).drew.heap.size ∧ some wb ≠ S.K.gv.ownBlock) := Lib.hid ⟨lt_get hwk, fun e => row_ne HRow.out hwk (by decide) wb e.symm rfl⟩
      have HWl2 : Hid ((w1.alloc (.cells #[.string p.d] 9)).drew.cell? ⟨wb, 8, none⟩ = some (.slice A k c)) := Lib.hid (by rw [← Hgv.out]; exact cell_of_row _ wb 8 _ _ _ hwk)
      have HWl3 : Hid ((w1.alloc (.cells #[.string p.d] 9)).drew.frozen? ⟨wb, 8, none⟩ = false) := Lib.hid (frozen_of_row _ wb 8 _ _ hwk)
      have hn0 := HB.out.get (k := n0) (List.mem_cons_of_mem _ List.mem_cons_self)
      have HNl : Hid (n0 < (w1.alloc (.cells #[.string p.d] 9)).drew.heap.size ∧ some n0 ≠ S.K.gv.ownBlock) := Lib.hid ⟨lt_get hn0, fun e => row_ne HRow.out hn0 (by decide) n0 e.symm rfl⟩
      have hs0 : w1.drew.cell? ⟨n0, 7, none⟩ = some (.string p.d) := p7
      have hs2 : (w1.alloc (.cells #[.string p.d] 9)).drew.cell? ⟨n0, 7, none⟩ = some (.string p.d) := cell_of_row _ n0 7 _ _ _ hn0
      have d8a : (w1.alloc (.cells #[.string p.d] 9)).cell? ⟨wb, 8, none⟩ = some (.slice A k c) := HWl2.out
      have hs1 := hs0
      clear hwk hn0
      refine wp_region_held_drew (S := fun W => W.cell? ⟨n0, 7, none⟩ = some (.string p.d)) (by kernel_rfl) ?_ (fun hHeld => ?_)
      · exact hs0
      refine wpAnyH_take (i := 0) (oi := _) (v := ?_) rfl (by kernel_rfl) (by kernel_rfl) (by kernel_rfl) (fun _ _ _ h => h) (Or.inl ⟨by rfl, ?_⟩) (by assumption) ?_
      rotate_left
      · intro w hSw
        (try dsimp only at hSw)
        first | (go_simp; done) | (go_simp; with_reducible rfl)
      try simp only [List.getElem_toArray, List.getElem_cons_succ, List.getElem_cons_zero, Act.put, List.setIfInBounds_toArray, List.set_cons_zero, List.set_cons_succ]
      refine wpAnyH_take (i := 1) (oi := _) (v := ?_) rfl (by kernel_rfl) (by kernel_rfl) (by kernel_rfl) (fun _ _ _ h => h) (Or.inl ⟨by rfl, ?_⟩) (by assumption) ?_
      rotate_left
      · intro w hSw
        (try dsimp only at hSw)
        first | (go_simp; done) | (go_simp; with_reducible rfl)
      try simp only [List.getElem_toArray, List.getElem_cons_succ, List.getElem_cons_zero, Act.put, List.setIfInBounds_toArray, List.set_cons_zero, List.set_cons_succ]
      refine wpAnyH_take (i := 2) (oi := _) (v := ?_) rfl (by kernel_rfl) (by kernel_rfl) (by kernel_rfl) (fun _ _ _ h => h) (Or.inl ⟨by rfl, ?_⟩) (by assumption) ?_
      rotate_left
      · intro w hSw
        (try dsimp only at hSw)
        first | (go_simp; done) | (go_simp; with_reducible rfl)
      try simp only [List.getElem_toArray, List.getElem_cons_succ, List.getElem_cons_zero, Act.put, List.setIfInBounds_toArray, List.set_cons_zero, List.set_cons_succ]
      refine wpAnyH_take (i := 3) (oi := _) (v := ?_) rfl (by kernel_rfl) (by kernel_rfl) (by kernel_rfl) (fun _ _ _ h => h) (Or.inl ⟨by rfl, ?_⟩) (by assumption) ?_
      rotate_left
      · intro w hSw
        (try dsimp only at hSw)
        first | (go_simp; done) | (go_simp; with_reducible rfl)
      try simp only [List.getElem_toArray, List.getElem_cons_succ, List.getElem_cons_zero, Act.put, List.setIfInBounds_toArray, List.set_cons_zero, List.set_cons_succ]
      refine wpAnyH_take (i := 5) (oi := _) (v := ?_) rfl (by kernel_rfl) (by kernel_rfl) (by kernel_rfl) (fun _ _ _ h => h) (Or.inl ⟨by rfl, ?_⟩) (by assumption) ?_
      rotate_left
      · intro w hSw
        (try dsimp only at hSw)
        first | (go_simp; done) | (go_simp; with_reducible rfl)
      try simp only [List.getElem_toArray, List.getElem_cons_succ, List.getElem_cons_zero, Act.put, List.setIfInBounds_toArray, List.set_cons_zero, List.set_cons_succ]
      refine wpAnyH_take (i := 6) (oi := _) (v := ?_) rfl (by kernel_rfl) (by kernel_rfl) (by kernel_rfl) (fun _ _ _ h => h) (Or.inl ⟨by rfl, ?_⟩) (by assumption) ?_
      rotate_left
      · intro w hSw
        (try dsimp only at hSw)
        first | (go_simp; done) | (go_simp; with_reducible rfl)
      try simp only [List.getElem_toArray, List.getElem_cons_succ, List.getElem_cons_zero, Act.put, List.setIfInBounds_toArray, List.set_cons_zero, List.set_cons_succ]
      refine wpAnyH_ready (rs := [4, 7]) (by kernel_rfl) (by simp) ?_
      refine AllReadyH.cons (o := _) rfl (fun K hK => ?_) (AllReadyH.cons (o := _) rfl (fun K hK => ?_) AllReadyH.nil)
      · go_simp
        try dsimp only
        refine hK.out _ _ hs0 (fun hHeld => ?_)
        clear hK K
        try simp only [List.getElem_toArray, List.getElem_cons_succ, List.getElem_cons_zero, Act.put, List.setIfInBounds_toArray, List.set_cons_zero, List.set_cons_succ]
        refine wpAnyH_ready (rs := [7]) (by kernel_rfl) (by simp) ?_
        refine AllReadyH.cons (o := _) rfl (fun K hK => ?_) AllReadyH.nil
        go_simp
        try dsimp only
        refine hK.out _ _ hs2 (fun hHeld => ?_)
        clear hK K
        try simp only [List.getElem_toArray, List.getElem_cons_succ, List.getElem_cons_zero, Act.put, List.setIfInBounds_toArray, List.set_cons_zero, List.set_cons_succ]
        refine wpAnyH_ready (rs := [8]) (by kernel_rfl) (by simp) ?_
        refine AllReadyH.cons (o := _) rfl (fun K hK => ?_) AllReadyH.nil
        refine wp_append_atK (.tmp 42) (.tmp 45) 31 rfl 0 9 i0 _ 1 16 Tryz.underlying31 hi hz0 hz1 hz2 rfl (by decide) S.K.gv k (S.K.got.map .string) (by rw [Hgv.out]; rfl) HRow.out ⟨w1.heap.size, 0, none⟩ 1 1 [.string p.d] rfl rfl HNews.out (by intro u hu; simp only [List.mem_singleton] at hu; subst hu; rfl) (by unfold maxLen; omega) (by omega) (Nat.zero_le _) ?_
        intro v w3 hown3 hgrow3 hloc3
        obtain ⟨A3, c3, hv3⟩ := rv_slice hown3
        subst hv3
        have HAp : Hid (Ck cb (setK S { S.K with gv := .slice A3 (k + 1) c3, got := S.K.got ++ [p.d] }) w0 ((n0, .cells (pkC p) 41 (0, 0)) :: Ls) (w3.setCell ⟨wb, 8, none⟩ (.slice A3 (k + 1) c3))) := Lib.hid ((HB.out.tl rfl).gotApp Hk.out (by rw [← Hkk.out]; exact hown3) hgrow3 hloc3)
        have f8 : w3.cell? ⟨wb, 8, none⟩ = some (.slice A k c) := (World.cell?_of_block (w := (w1.alloc (.cells #[.string p.d] 9)).drew) (a := ⟨wb, 8, none⟩) (hgrow3.block wb HWl.out.1 HWl.out.2)).trans HWl2.out
        have g8 : w3.frozen? ⟨wb, 8, none⟩ = false := (World.frozen?_of_block (w := (w1.alloc (.cells #[.string p.d] 9)).drew) (a := ⟨wb, 8, none⟩) (hgrow3.block wb HWl.out.1 HWl.out.2)).trans HWl3.out
        have hs3 : w3.cell? ⟨n0, 7, none⟩ = some (.string p.d) := (World.cell?_of_block (w := (w1.alloc (.cells #[.string p.d] 9)).drew) (a := ⟨n0, 7, none⟩) (hgrow3.block n0 HNl.out.1 HNl.out.2)).trans hs2
        clear hown3 hgrow3 hloc3
        try dsimp only
        refine hK.out _ _ hs3 (fun hHeld => ?_)
        clear hK K
        try simp only [List.getElem_toArray, List.getElem_cons_succ, List.getElem_cons_zero, Act.put, List.setIfInBounds_toArray, List.set_cons_zero, List.set_cons_succ]
        refine wpAnyH_take (i := 9) (oi := _) (v := ?_) rfl (by kernel_rfl) (by kernel_rfl) (by kernel_rfl) (fun _ _ _ h => h) (Or.inl ⟨by rfl, ?_⟩) (by assumption) ?_
        rotate_left
        · intro w hSw
          (try dsimp only at hSw)
          first | (go_simp; done) | (go_simp; with_reducible rfl)
        try simp only [List.getElem_toArray, List.getElem_cons_succ, List.getElem_cons_zero, Act.put, List.setIfInBounds_toArray, List.set_cons_zero, List.set_cons_succ]
        refine wpAnyH_take (i := 10) (oi := _) (v := ?_) rfl (by kernel_rfl) (by kernel_rfl) (by kernel_rfl) (fun _ _ _ h => h) (Or.inl ⟨by rfl, ?_⟩) (by assumption) ?_
        rotate_left
        · intro w hSw
          (try dsimp only at hSw)
          first | (go_simp; done) | (go_simp; with_reducible rfl)
        try simp only [List.getElem_toArray, List.getElem_cons_succ, List.getElem_cons_zero, Act.put, List.setIfInBounds_toArray, List.set_cons_zero, List.set_cons_succ]
        refine wpAnyH_ready (rs := [11]) (by kernel_rfl) (by simp) ?_
        refine AllReadyH.cons (o := _) rfl (fun K hK => ?_) AllReadyH.nil
        go_simp
        have hs4 : (w3.setCell ⟨wb, 8, none⟩ (.slice A3 (k + 1) c3)).cell? ⟨n0, 7, none⟩ = some (.string p.d) := cell_of_row _ n0 7 _ _ _ (HAp.out.get (k := n0) List.mem_cons_self)
        try dsimp only
        refine hK.out _ _ hs4 (fun hHeld => ?_)
        clear hK K
        try simp only [List.getElem_toArray, List.getElem_cons_succ, List.getElem_cons_zero, Act.put, List.setIfInBounds_toArray, List.set_cons_zero, List.set_cons_succ]
        refine wpAnyH_done (by kernel_rfl) ?_ _
        (try simp only [Exit.then])
        clear hs0 hs1 hs2 hs3 hs4 f8 g8 d8 d8a p7
        have HG2 : Hid (SameC S.K { S.K with gv := .slice A3 (k + 1) c3, got := S.K.got ++ [p.d] } ∧ GotOk { S.K with gv := .slice A3 (k + 1) c3, got := S.K.got ++ [p.d] }) := Lib.hid ⟨⟨rfl, rfl, rfl, rfl, rfl, rfl, rfl, rfl⟩, by
          constructor
          · show (S.K.got ++ [p.d]).length ≤ 4
            rw [List.length_append, ← Hkk.out]
            simp
            omega
          · intro s hs
            rcases List.mem_append.1 hs with h | h
            · exact HG.out.2 s h
            · rw [List.mem_singleton.1 h]
              exact HP.out⟩
        by_cases hk3 : k + 1 < 4
        · have e6 := hd_blk (HAp.out.holdAt Hm.out HH.out).1 hk3
          have k3 : ((k : Int) + 1) < 4 := by omega
          have k30 : (0 : Int) ≤ (k : Int) + 1 := by omega
          have hw3 : IntKind.i64.wrap ((k : Int) + 1) = ((k + 1 : Nat) : Int) := by rw [IntKind.wrap_i64]; omega
          obtain ⟨w5, hw5⟩ : ∃ u, u = w3.setCell ⟨wb, 8, none⟩ (.slice A3 (k + 1) c3) := ⟨_, rfl⟩
          rw [← hw5] at HAp e6 ⊢
          clear hw5
          by_cases hpos : 0 < H.blk (k + 1)
          · go_wp2_with fail
            refine bodyPost_ret (results_none rfl _ _ _) rfl ?_
            exact ⟨rfl, _, HG2.out.1, HG2.out.2, Or.inl (HAp.out.tl rfl)⟩
          · have hposf : decide (0 < H.blk (k + 1)) = false := by simpa using hpos
            go_wp2_with fail
            go_meet
            exact ⟨_, HG2, HAp⟩
        · have k3f : decide ((k : Int) + 1 < 4) = false := by simp; omega
          have hw3 : IntKind.i64.wrap ((k : Int) + 1) = (k : Int) + 1 := by rw [IntKind.wrap_i64]; omega
          go_wp2_with fail
          go_meet
          exact ⟨_, HG2, HAp⟩
      · go_simp
        try dsimp only
        refine hK.out _ _ hs2 (fun hHeld => ?_)
        clear hK K
        try simp only [List.getElem_toArray, List.getElem_cons_succ, List.getElem_cons_zero, Act.put, List.setIfInBounds_toArray, List.set_cons_zero, List.set_cons_succ]
        refine wpAnyH_ready (rs := [4]) (by kernel_rfl) (by simp) ?_
        refine AllReadyH.cons (o := _) rfl (fun K hK => ?_) AllReadyH.nil
        go_simp
        try dsimp only
        refine hK.out _ _ hs2 (fun hHeld => ?_)
        clear hK K
        try simp only [List.getElem_toArray, List.getElem_cons_succ, List.getElem_cons_zero, Act.put, List.setIfInBounds_toArray, List.set_cons_zero, List.set_cons_succ]
        refine wpAnyH_ready (rs := [8]) (by kernel_rfl) (by simp) ?_
        refine AllReadyH.cons (o := _) rfl (fun K hK => ?_) AllReadyH.nil
        refine wp_append_atK (.tmp 42) (.tmp 45) 31 rfl 0 9 i0 _ 1 16 Tryz.underlying31 hi hz0 hz1 hz2 rfl (by decide) S.K.gv k (S.K.got.map .string) (by rw [Hgv.out]; rfl) HRow.out ⟨w1.heap.size, 0, none⟩ 1 1 [.string p.d] rfl rfl HNews.out (by intro u hu; simp only [List.mem_singleton] at hu; subst hu; rfl) (by unfold maxLen; omega) (by omega) (Nat.zero_le _) ?_
        intro v w3 hown3 hgrow3 hloc3
        obtain ⟨A3, c3, hv3⟩ := rv_slice hown3
        subst hv3
        have HAp : Hid (Ck cb (setK S { S.K with gv := .slice A3 (k + 1) c3, got := S.K.got ++ [p.d] }) w0 ((n0, .cells (pkC p) 41 (0, 0)) :: Ls) (w3.setCell ⟨wb, 8, none⟩ (.slice A3 (k + 1) c3))) := Lib.hid ((HB.out.tl rfl).gotApp Hk.out (by rw [← Hkk.out]; exact hown3) hgrow3 hloc3)
        have f8 : w3.cell? ⟨wb, 8, none⟩ = some (.slice A k c) := (World.cell?_of_block (w := (w1.alloc (.cells #[.string p.d] 9)).drew) (a := ⟨wb, 8, none⟩) (hgrow3.block wb HWl.out.1 HWl.out.2)).trans HWl2.out
        have g8 : w3.frozen? ⟨wb, 8, none⟩ = false := (World.frozen?_of_block (w := (w1.alloc (.cells #[.string p.d] 9)).drew) (a := ⟨wb, 8, none⟩) (hgrow3.block wb HWl.out.1 HWl.out.2)).trans HWl3.out
        have hs3 : w3.cell? ⟨n0, 7, none⟩ = some (.string p.d) := (World.cell?_of_block (w := (w1.alloc (.cells #[.string p.d] 9)).drew) (a := ⟨n0, 7, none⟩) (hgrow3.block n0 HNl.out.1 HNl.out.2)).trans hs2
        clear hown3 hgrow3 hloc3
        try dsimp only
        refine hK.out _ _ hs3 (fun hHeld => ?_)
        clear hK K
        try simp only [List.getElem_toArray, List.getElem_cons_succ, List.getElem_cons_zero, Act.put, List.setIfInBounds_toArray, List.set_cons_zero, List.set_cons_succ]
        refine wpAnyH_take (i := 9) (oi := _) (v := ?_) rfl (by kernel_rfl) (by kernel_rfl) (by kernel_rfl) (fun _ _ _ h => h) (Or.inl ⟨by rfl, ?_⟩) (by assumption) ?_
        rotate_left
        · intro w hSw
          (try dsimp only at hSw)
          first | (go_simp; done) | (go_simp; with_reducible rfl)
        try simp only [List.getElem_toArray, List.getElem_cons_succ, List.getElem_cons_zero, Act.put, List.setIfInBounds_toArray, List.set_cons_zero, List.set_cons_succ]
        refine wpAnyH_take (i := 10) (oi := _) (v := ?_) rfl (by kernel_rfl) (by kernel_rfl) (by kernel_rfl) (fun _ _ _ h => h) (Or.inl ⟨by rfl, ?_⟩) (by assumption) ?_
        rotate_left
        · intro w hSw
          (try dsimp only at hSw)
          first | (go_simp; done) | (go_simp; with_reducible rfl)
        try simp only [List.getElem_toArray, List.getElem_cons_succ, List.getElem_cons_zero, Act.put, List.setIfInBounds_toArray, List.set_cons_zero, List.set_cons_succ]
        refine wpAnyH_ready (rs := [11]) (by kernel_rfl) (by simp) ?_
        refine AllReadyH.cons (o := _) rfl (fun K hK => ?_) AllReadyH.nil
        go_simp
        have hs4 : (w3.setCell ⟨wb, 8, none⟩ (.slice A3 (k + 1) c3)).cell? ⟨n0, 7, none⟩ = some (.string p.d) := cell_of_row _ n0 7 _ _ _ (HAp.out.get (k := n0) List.mem_cons_self)
        try dsimp only
        refine hK.out _ _ hs4 (fun hHeld => ?_)
        clear hK K
        try simp only [List.getElem_toArray, List.getElem_cons_succ, List.getElem_cons_zero, Act.put, List.setIfInBounds_toArray, List.set_cons_zero, List.set_cons_succ]
        refine wpAnyH_done (by kernel_rfl) ?_ _
        (try simp only [Exit.then])
        clear hs0 hs1 hs2 hs3 hs4 f8 g8 d8 d8a p7
        have HG2 : Hid (SameC S.K { S.K with gv := .slice A3 (k + 1) c3, got := S.K.got ++ [p.d] } ∧ GotOk { S.K with gv := .slice A3 (k + 1) c3, got := S.K.got ++ [p.d] }) := Lib.hid ⟨⟨rfl, rfl, rfl, rfl, rfl, rfl, rfl, rfl⟩, by
          constructor
          · show (S.K.got ++ [p.d]).length ≤ 4
            rw [List.length_append, ← Hkk.out]
            simp
            omega
          · intro s hs
            rcases List.mem_append.1 hs with h | h
            · exact HG.out.2 s h
            · rw [List.mem_singleton.1 h]
              exact HP.out⟩
        by_cases hk3 : k + 1 < 4
        · have e6 := hd_blk (HAp.out.holdAt Hm.out HH.out).1 hk3
          have k3 : ((k : Int) + 1) < 4 := by omega
          have k30 : (0 : Int) ≤ (k : Int) + 1 := by omega
          have hw3 : IntKind.i64.wrap ((k : Int) + 1) = ((k + 1 : Nat) : Int) := by rw [IntKind.wrap_i64]; omega
          obtain ⟨w5, hw5⟩ : ∃ u, u = w3.setCell ⟨wb, 8, none⟩ (.slice A3 (k + 1) c3) := ⟨_, rfl⟩
          rw [← hw5] at HAp e6 ⊢
          clear hw5
          by_cases hpos : 0 < H.blk (k + 1)
          · go_wp2_with fail
            refine bodyPost_ret (results_none rfl _ _ _) rfl ?_
            exact ⟨rfl, _, HG2.out.1, HG2.out.2, Or.inl (HAp.out.tl rfl)⟩
          · have hposf : decide (0 < H.blk (k + 1)) = false := by simpa using hpos
            go_wp2_with fail
            go_meet
            exact ⟨_, HG2, HAp⟩
        · have k3f : decide ((k : Int) + 1 < 4) = false := by simp; omega
          have hw3 : IntKind.i64.wrap ((k : Int) + 1) = (k : Int) + 1 := by rw [IntKind.wrap_i64]; omega
          go_wp2_with fail
          go_meet
          exact ⟨_, HG2, HAp⟩
    | false =>
      clear hq
      go_wp2_with fail
      go_meet
      exact ⟨S.K, HS0, H1⟩
  case rest =>
  obtain ⟨K, HK, H2⟩ := hcut
  clear H1 d8 hq HG HP Hgv Hkk
  obtain ⟨U, hU⟩ : ∃ U : Cs, U = setK S K := ⟨_, rfl⟩
  rw [← hU] at H2
  have HUk : Hid (U.wk = some wb) := Lib.hid (by rw [hU]; exact Hk.out)
  have HUm : Hid (U.hm = some m) := Lib.hid (by rw [hU]; exact Hm.out)
  have HUh : Hid (U.hold i = some H) := Lib.hid (by rw [hU]; exact HH.out)
  have HUK : Hid (U.K = K) := Lib.hid (by rw [hU]; rfl)
  have HU := Lib.hid hU
  clear hU Hk Hm HH
  obtain ⟨A, c, hg⟩ := H2.out.gv HUk.out
  rw [HUK.out] at hg
  have d8 : wc.cell? ⟨wb, 8, none⟩ = some (.slice A K.got.length c) := by rw [← hg, ← HUK.out]; exact cell_of_row wc wb 8 _ _ _ (H2.out.work HUk.out)
  have HRw : Hid (∀ (j : Nat) (s : ByteArray), K.got[j]? = some s → ∃ g, A = some ⟨g, 0, none⟩ ∧ wc.cell? ⟨g, j, none⟩ = some (.string s)) := Lib.hid fun j s hs => by
    obtain ⟨F, h1, _⟩ := H2.out
    have hr := (h1.work wb HUk.out).2.2.1
    rw [HUK.out, hg] at hr
    have hj : j < K.got.length := (List.getElem?_eq_some_iff.1 hs).1
    rcases hr.2 with ⟨e, e2⟩ | ⟨g, cap, cur, e, _, hgg, _, _, _, hcur⟩
    · omega
    · cases e
      refine ⟨g, rfl, (cell_of_row wc g j _ _ _ hgg).trans ?_⟩
      have h2 : (cur.toList.take (K.got.length * 1))[j]? = some (.string s) := by rw [hcur, List.getElem?_map, hs]; rfl
      rw [List.getElem?_take, if_pos (by omega), Array.getElem?_toList] at h2
      exact h2
  obtain ⟨n, hn⟩ : ∃ n, n = K.got.length := ⟨_, rfl⟩
  rw [← hn] at d8
  have Hn := Lib.hid hn
  have hn4 : n ≤ 4 := by have := HK.out.2.1; omega
  clear hg hn
  go_upto_region 8 with fail
  go_loopw [68, 8] (fun z y wr => (∃ (j : Nat) (s : ByteArray), z = .int .i64 j ∧ y = .string s ∧ j ≤ n ∧ s.size ≤ 128 * j) ∧ wr = wc) (fun z _ _ => n - (intOf z).toNat)
  case atStart => exact ⟨⟨0, ⟨#[]⟩, rfl, rfl, by omega, Nat.le_refl _⟩, rfl⟩
  case round =>
    obtain ⟨⟨j, s, rfl, rfl, hj, hs⟩, rfl⟩ := hrel
    by_cases hlt : j < n
    · have h1 : (j : Int) < n := by omega
      have h0 : (0 : Int) ≤ j := by omega
      obtain ⟨t, ht⟩ : ∃ t, K.got[j]? = some t := ⟨K.got[j]'(by have := Hn.out; omega), List.getElem?_eq_getElem _⟩
      obtain ⟨g, rfl, hc⟩ := HRw.out j t ht
      have htl : t.size ≤ 128 := HK.out.2.2 t (List.mem_of_getElem? ht)
      clear ht
      go_wp2_with fail
      go_roundw
      case rel => exact ⟨⟨j + 1, s ++ t, by go_num, rfl, by omega, by rw [ByteArray.size_append]; omega⟩, trivial⟩
      case measure => simp [intOf]; omega
    · have h1 : ¬ (j : Int) < n := by omega
      have hs5 : s.size ≤ 600 := by omega
      clear hlt hs hj d8 HRw
      have hH := (H2.out.holdAt (m := m) HUm.out HUh.out)
      have e4 : wr.cell? ⟨H.b, 4, none⟩ = some (.int .i64 H.ns) := cell_of_row wr H.b 4 _ _ _ hH.1
      obtain ⟨ns, hns⟩ : ∃ ns : Nat, H.ns = ns := ⟨H.ns.toNat, by have := HNs.out; omega⟩
      rw [hns] at e4
      clear hH hns
      go_upto_region 13 with fail
      obtain ⟨s2, hs2⟩ : ∃ s2, s2 = s.extract 0 (min (ns : Int) (s.size : Int)).toNat := ⟨_, rfl⟩
      rw [← hs2]
      have hz2 : s2.size ≤ 600 := by
        rw [hs2]
        have := ext_size s 0 (min (ns : Int) (s.size : Int)).toNat
        omega
      clear hs2 hs5 e4
      obtain ⟨hhb, hrow, _⟩ := H2.out.holdAt (m := m) HUm.out HUh.out
      obtain ⟨B, c2, hrv⟩ := rv_slice hrow
      have e17 : wr.cell? ⟨H.b, 17, none⟩ = some (.slice B H.ov.length c2) := by rw [← hrv]; exact cell_of_row wr H.b 17 _ _ _ hhb
      have HRr : Hid (∀ (W : World) (L : List (Nat × Obj)), Ck cb U w0 L W → ∀ (j : Nat) (r : Gd.Rec), H.ov[j]? = some r → ∃ g, B = some ⟨g, 0, none⟩ ∧ W.rangeAt g (j * 5) [.int .i64 r.call, .int .i64 r.inode, .bool r.tr, .int .i64 r.off, .string ⟨r.d.toArray⟩]) := Lib.hid fun W L hW j r hr => by
        obtain ⟨_, hrow2, _⟩ := hW.holdAt (m := m) HUm.out HUh.out
        rw [hrv] at hrow2
        have hj : j < H.ov.length := (List.getElem?_eq_some_iff.1 hr).1
        rcases hrow2.2 with ⟨e, e2⟩ | ⟨g, cap, cur, e, _, hgg, hcap, _, hsz, hcur⟩
        · omega
        · cases e
          refine ⟨g, rfl, fun q u hq => (cell_of_row W g (j * 5 + q) _ _ _ hgg).trans ?_⟩
          have hq5 : q < 5 := by
            have := (List.getElem?_eq_some_iff.1 hq).1
            simpa using this
          have h2 : (cur.toList.take (H.ov.length * 5))[j * 5 + q]? = some u := by
            rw [hcur, recsK_get q hr hq5]
            exact hq
          rw [List.getElem?_take, if_pos (by omega), Array.getElem?_toList] at h2
          exact h2
      obtain ⟨n2, hn2⟩ : ∃ n2, n2 = H.ov.length := ⟨_, rfl⟩
      rw [← hn2] at e17
      have Hn2 := Lib.hid hn2
      have hn26 : n2 ≤ 1000000 := by have := HOl.out; omega
      clear hhb hrow hrv hn2
      go_upto_region 14 with fail
      go_loopw [91, 8] (fun z y wx => ∃ (j : Nat) (s : ByteArray), z = .int .i64 j ∧ y = .string s ∧ j ≤ n2 ∧ s.size ≤ 600 ∧ Hid (Ck cb U w0 ((n0, .cells (pkC p) 41 (0, 0)) :: Ls) wx)) (fun z _ _ => n2 - (intOf z).toNat)
      case atStart => exact ⟨0, s2, rfl, rfl, by omega, hz2, H2⟩
      case round =>
        obtain ⟨j, s, rfl, rfl, hj, hs, H3⟩ := hrel
        by_cases hlt : j < n2
        · have h1 : (j : Int) < n2 := by omega
          have h0 : (0 : Int) ≤ j := by omega
          obtain ⟨r, hr⟩ : ∃ r, H.ov[j]? = some r := ⟨H.ov[j]'(by have := Hn2.out; omega), List.getElem?_eq_getElem _⟩
          obtain ⟨g, rfl, hc⟩ := HRr.out _ _ H3.out j r hr
          have hrd : r.d.length ≤ 80 := HOv.out r (List.mem_of_getElem? hr)
          have HCh := Lib.hid fun W => Fl.change_any s r.call r.inode r.tr r.off ⟨r.d.toArray⟩ W (by omega) (by show r.d.length ≤ 80; exact hrd)
          clear hr hrd
          go_upto_region 16 with (refine wpList_load_mid rfl 112 _ rfl g (j * 5) rfl [.int .i64 r.call, .int .i64 r.inode, .bool r.tr, .int .i64 r.off, .string ⟨r.d.toArray⟩] _ hc Tryz.underlying112 rfl Tryz.sizeRecK ?_)
          obtain ⟨w5, hw⟩ : ∃ u, u = wr.alloc (.cells #[.int .i64 r.call, .int .i64 r.inode, .bool r.tr, .int .i64 r.off, .string ⟨r.d.toArray⟩] 112) := ⟨_, rfl⟩
          obtain ⟨n5, hn⟩ : ∃ u, u = wr.heap.size := ⟨_, rfl⟩
          rw [← hw, ← hn]
          have H5 : Hid (Ck cb U w0 ((n0, .cells (pkC p) 41 (0, 0)) :: Ls) w5) := Lib.hid (by rw [hw]; exact H3.out.below ((Below.refl _ _).alloc (Nat.le_refl _) _))
          have hob : w5.heap[n5]? = some (.cells #[.int .i64 r.call, .int .i64 r.inode, .bool r.tr, .int .i64 r.off, .string ⟨r.d.toArray⟩] 112 (0, 0)) := by rw [hw, hn]; exact heap_alloc_new _ _
          have r0 := cell_of_row w5 n5 0 _ _ _ hob
          have r1 := cell_of_row w5 n5 1 _ _ _ hob
          have r2 := cell_of_row w5 n5 2 _ _ _ hob
          have r3 := cell_of_row w5 n5 3 _ _ _ hob
          have r4 := cell_of_row w5 n5 4 _ _ _ hob
          obtain ⟨X, er, hX⟩ : ∃ X er, Fp.chg (s.data.toList) r.call r.inode r.tr r.off (⟨r.d.toArray⟩ : ByteArray).data.toList = (X, er) := ⟨_, _, rfl⟩
          rw [hX] at HCh
          unfold Fl.recV Fl.chgV at HCh
          have HX0 : Hid (er = 0 → X.length ≤ 256) := Lib.hid fun e => by
            unfold Fp.chg at hX
            split at hX
            · split at hX
              · rename_i h6
                cases hX
                exact h6
              · cases hX
                cases e
            · cases hX
              cases e
          clear hw hn hob hc hX H3
          dsimp at r0 r1 r2 r3 r4
          go_upto_region 17 with ((with_reducible refine (HCh.out _).mono ?_); rintro e w6 ⟨rfl, hb⟩; have HB6 := Lib.hid hb; clear hb)
          have H6 := Lib.hid (H5.out.below HB6.out)
          clear H5 HB6 HCh r0 r1 r2 r3 r4
          by_cases he : er = 0
          · have he2 : (er == 0) = true := by rw [beq_iff_eq]; exact he
            have hX6 : (⟨X.toArray⟩ : ByteArray).size ≤ 600 := by have := HX0.out he; show X.length ≤ 600; omega
            clear he
            go_wp2_with fail
            go_roundw
            case rel => exact ⟨j + 1, ⟨X.toArray⟩, by go_num, rfl, by omega, hX6, H6⟩
            case measure => simp [intOf]; omega
          · have he2 : (er == 0) = false := by rw [beq_eq_false_iff_ne]; exact he
            clear he
            go_wp2_with fail
            go_roundw
            case rel => exact ⟨j + 1, s, by go_num, rfl, by omega, hs, H6⟩
            case measure => simp [intOf]; omega
        · have h1 : ¬ (j : Int) < n2 := by omega
          clear hlt hj HRr e17
          obtain ⟨of, hof⟩ : ∃ of : Nat, S.K.off = of := ⟨S.K.off.toNat, by have := HOff.out; omega⟩
          obtain ⟨nn, hnn⟩ : ∃ nn : Nat, S.K.n = nn := ⟨S.K.n.toNat, by have := HN.out; omega⟩
          obtain ⟨_, _, _, _, _, ho6, ho7, _⟩ := HK.out.1
          have f5 : wr.cell? ⟨wb, 5, none⟩ = some (.int .i64 (of : Int)) := by
            rw [← hof, ← ho6, ← HUK.out]
            exact cell_of_row wr wb 5 _ _ _ (H3.out.work HUk.out)
          have f6 : wr.cell? ⟨wb, 6, none⟩ = some (.int .i64 (nn : Int)) := by
            rw [← hnn, ← ho7, ← HUK.out]
            exact cell_of_row wr wb 6 _ _ _ (H3.out.work HUk.out)
          have hnl : nn ≤ 1000 := by have := HN.out; omega
          clear hof hnn ho6 ho7
          go_upto_region 21 with fail
          have hfr : min (of : Int) (s.size : Int) = ((min of s.size : Nat) : Int) := by omega
          rw [hfr]
          obtain ⟨fr, hfr2⟩ : ∃ fr, fr = min of s.size := ⟨_, rfl⟩
          rw [← hfr2]
          have hfs : fr ≤ s.size := by omega
          have hw5 : IntKind.i64.wrap ((fr : Int) + nn) = ((fr + nn : Nat) : Int) := by rw [IntKind.wrap_i64]; omega
          have hw6 : min ((fr + nn : Nat) : Int) (s.size : Int) = ((min (fr + nn) s.size : Nat) : Int) := by omega
          clear hfr hfr2 f5
          have HFi := Lib.hid fun D => cfinish_any (S := U) 0 0 D none 0 0 0 0 0 wr H3.out
          go_wp2_with ((refine (HFi.out _).mono ?_); rintro e w9 ⟨rfl, h9⟩; have H9 := Lib.hid h9; clear h9)
          go_end0
          have h9 := H9.out.tl rfl
          rw [HU.out] at h9
          exact ⟨rfl, K, HK.out.1, HK.out.2, Or.inr ⟨_, h9⟩⟩
end
end Go.Proofs.YtiinponoeaihcaaGreat
