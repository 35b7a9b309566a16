/- A client: did. -/
import Derived.Test.YtiinponoeaihcaaGreatU14
set_option linter.unusedVariables false
set_option linter.unusedSimpArgs false
set_option linter.unusedSectionVars false
namespace Go.Proofs.YtiinponoeaihcaaGreat
open Go.RowKit Go.Shelf

attribute [local go_sem] Oper.semAt_some
def addT (S : Cs) (n : Nat) : Cs := { S with tail := S.tail + n }
def setPh (S : Cs) (q : Int) : Cs := setK S { S.K with ph := q }
/-- what a verb's answer comes to -/
def DidP (S : Cs) (T : Cs) : Prop :=
  T = S ∨ (S.K.kd = 3 ∧ ∃ K, SameC S.K K ∧ GotOk K ∧ (T = setK S K ∨ ∃ D, T = finS (setK S K) 0 0 D (.slice none 0 0) 0 0 0)) ∨ (∃ q, T = setPh S q) ∨
  ∃ q n i H v, n ≤ 96 ∧ S.hold i = some H ∧ T = failS (setHold (addT (ownS (setPh S q)) n) (updH S.hold i (some (moreH H v (recW (setPh S q)))))) 0
theorem ownS_parts (S : Cs) : (ownS S).hm = S.hm ∧ (ownS S).hold = S.hold ∧ (ownS S).tail = S.tail ∧ (ownS S).wk = S.wk ∧ (ownS S).K = S.K := by
  unfold ownS
  split <;> exact ⟨rfl, rfl, rfl, rfl, rfl⟩
section
variable {cb : Nat} {S : Cs} {w0 : World} {Ls : List (Nat × Obj)}
set_option maxHeartbeats 8000000 in
set_option maxRecDepth 100000 in
theorem cdid_any {m : Nat} (hm : S.hm = some m) (hI : I64 (inoF S.f S.K.fd)) (hf : I64 S.K.fd) (h0 : 0 ≤ S.life ∧ S.life < 1048576) (h1 : 0 ≤ S.cnt ∧ S.cnt ≤ 900000) (ht : 0 ≤ S.tail ∧ S.tail ≤ 1000000) (p : Pk) (hp : p.d.size ≤ 128) (hG : GotOk S.K)
    (hH : ∀ i H, S.hold i = some H → (0 ≤ H.ns ∧ H.ns < 65536) ∧ (∀ r ∈ H.ov, r.d.length ≤ 80) ∧ H.ov.length ≤ 1000000) (hoff : S.wk ≠ none → S.K.kd = 3 → 0 ≤ S.K.off ∧ 0 ≤ S.K.n ∧ S.K.n ≤ 1000) (hd : S.K.d.size ≤ 1000) (w : World) (h : Ck cb S w0 Ls w) :
    Calls Tryz.prog 42 #[pC cb, .agg (pkC p)] w fun e w' => e = .returned (.tuple #[]) ∧ ∃ T, Ck cb T w0 Ls w' ∧ DidP S T := by
  obtain ⟨i0, hi, hz0, hz1, hz2⟩ := info_parts Tryz.infoRec
  have Hc := Lib.hid h
  have Hm := Lib.hid hm
  have HI := Lib.hid hI
  have Hf := Lib.hid hf
  have H0 := Lib.hid h0
  have H1h := Lib.hid h1
  have Ht := Lib.hid ht
  have HP := Lib.hid hp
  have HG := Lib.hid hG
  have HHo := Lib.hid hH
  have HOff := Lib.hid hoff
  have HD := Lib.hid hd
  clear h hm hI hf h0 h1 ht hp hG hH hoff hd
  go_enter Tryz.func42, Tryz.ntmps42
  go_upto_region 1 with fail
  obtain ⟨w1, hw⟩ : ∃ u, u = w.alloc (.cells (pkC p) 41) := ⟨_, rfl⟩
  obtain ⟨n0, hn⟩ : ∃ u, u = w.heap.size := ⟨_, rfl⟩
  rw [← hw, ← hn]
  have H1 : Hid (Ck cb S w0 ((n0, .cells (pkC p) 41 (0, 0)) :: Ls) w1) := Lib.hid (by rw [hw, hn]; exact Hc.out.box _ _)
  clear hw hn Hc
  have c18 : w1.cell? ⟨cb, 18, none⟩ = some (ptrV S.wk) := H1.out.cell 18
  unfold ptrV at c18
  cases hk : S.wk with
  | none =>
    rw [hk] at c18
    dsimp only [Option.map_none] at c18
    clear hk
    go_wp2_with fail
    refine bodyPost_ret (results_none rfl _ _ _) rfl ?_
    exact ⟨rfl, S, H1.out.tl rfl, Or.inl rfl⟩
  | some wb =>
    rw [hk] at c18
    dsimp only [Option.map_some] at c18
    have Hk := Lib.hid hk
    clear hk
    go_upto_region 2 with fail
    obtain ⟨i, hii⟩ : ∃ i, i = inoF S.f S.K.fd := ⟨_, rfl⟩
    have HIn := cinode_any S.K.fd Hf.out w1.drew H1.out.drew
    rw [show (if 0 ≤ S.K.fd ∧ S.K.fd < 8 then S.f S.K.fd.toNat else 0) = i from hii.symm] at HIn
    have HIn := Lib.hid HIn
    have HIi : Hid (I64 i) := Lib.hid (by rw [hii]; exact HI.out)
    obtain ⟨pv, hpv⟩ : ∃ pv, pv = ptrV ((S.hold i).map (·.b)) := ⟨_, rfl⟩
    have hlk := H1.out.drew.look Hm.out HIi.out
    rw [← hpv] at hlk
    have Hpv := Lib.hid hpv
    have hsl : w1.drew.cell? ⟨cb, 16, none⟩ = some (.map (some m)) ∧ w1.drew.cell? ⟨cb, 18, none⟩ = some (.pointer (some ⟨wb, 0, none⟩)) ∧ w1.drew.cell? ⟨wb, 4, none⟩ = some (.int .i64 S.K.fd) ∧ (Instr.lookup 56 (.map (some m)) (.int .i64 i) false).run Tryz.prog w1.drew = .ok pv w1.drew :=
      ⟨by rw [H1.out.drew.cell 16, ← Hm.out]; rfl, c18, cell_of_row _ wb 4 _ _ _ (H1.out.drew.work Hk.out), hlk⟩
    clear hii hpv hlk c18
    refine wp_region_held_drew (S := fun W => W.cell? ⟨cb, 16, none⟩ = some (.map (some m)) ∧ W.cell? ⟨cb, 18, none⟩ = some (.pointer (some ⟨wb, 0, none⟩)) ∧ W.cell? ⟨wb, 4, none⟩ = some (.int .i64 S.K.fd) ∧ (Instr.lookup 56 (.map (some m)) (.int .i64 i) false).run Tryz.prog W = .ok pv W) (by kernel_rfl) ?_ (fun hHeld => ?_)
    · exact hsl
    refine wpAnyH_take (i := 0) (oi := _) (v := ?_) rfl (by kernel_rfl) (by kernel_rfl) (by kernel_rfl) (fun _ _ _ h => h) (Or.inl ⟨by rfl, ?_⟩) (by assumption) ?_
    rotate_left
    · intro w hSw
      (try dsimp only at hSw)
      first | (go_simp; done) | (go_simp; with_reducible rfl)
    try simp only [List.getElem_toArray, List.getElem_cons_succ, List.getElem_cons_zero, Act.put, List.setIfInBounds_toArray, List.set_cons_zero, List.set_cons_succ]
    refine wpAnyH_take (i := 1) (oi := _) (v := ?_) rfl (by kernel_rfl) (by kernel_rfl) (by kernel_rfl) (fun _ _ _ h => h) (Or.inl ⟨by rfl, ?_⟩) (by assumption) ?_
    rotate_left
    · intro w hSw
      (try dsimp only at hSw)
      first | (go_simp; done) | (go_simp; with_reducible rfl)
    try simp only [List.getElem_toArray, List.getElem_cons_succ, List.getElem_cons_zero, Act.put, List.setIfInBounds_toArray, List.set_cons_zero, List.set_cons_succ]
    refine wpAnyH_take (i := 2) (oi := _) (v := ?_) rfl (by kernel_rfl) (by kernel_rfl) (by kernel_rfl) (fun _ _ _ h => h) (Or.inl ⟨by rfl, ?_⟩) (by assumption) ?_
    rotate_left
    · intro w hSw
      (try dsimp only at hSw)
      first | (go_simp; done) | (go_simp; with_reducible rfl)
    try simp only [List.getElem_toArray, List.getElem_cons_succ, List.getElem_cons_zero, Act.put, List.setIfInBounds_toArray, List.set_cons_zero, List.set_cons_succ]
    refine wpAnyH_take (i := 3) (oi := _) (v := ?_) rfl (by kernel_rfl) (by kernel_rfl) (by kernel_rfl) (fun _ _ _ h => h) (Or.inl ⟨by rfl, ?_⟩) (by assumption) ?_
    rotate_left
    · intro w hSw
      (try dsimp only at hSw)
      first | (go_simp; done) | (go_simp; with_reducible rfl)
    try simp only [List.getElem_toArray, List.getElem_cons_succ, List.getElem_cons_zero, Act.put, List.setIfInBounds_toArray, List.set_cons_zero, List.set_cons_succ]
    refine wpAnyH_take (i := 4) (oi := _) (v := ?_) rfl (by kernel_rfl) (by kernel_rfl) (by kernel_rfl) (fun _ _ _ h => h) (Or.inl ⟨by rfl, ?_⟩) (by assumption) ?_
    rotate_left
    · intro w hSw
      (try dsimp only at hSw)
      first | (go_simp; done) | (go_simp; with_reducible rfl)
    try simp only [List.getElem_toArray, List.getElem_cons_succ, List.getElem_cons_zero, Act.put, List.setIfInBounds_toArray, List.set_cons_zero, List.set_cons_succ]
    refine wpAnyH_take (i := 5) (oi := _) (v := ?_) rfl (by kernel_rfl) (by kernel_rfl) (by kernel_rfl) (fun _ _ _ h => h) (Or.inl ⟨by rfl, ?_⟩) (by assumption) ?_
    rotate_left
    · intro w hSw
      (try dsimp only at hSw)
      first | (go_simp; done) | (go_simp; with_reducible rfl)
    try simp only [List.getElem_toArray, List.getElem_cons_succ, List.getElem_cons_zero, Act.put, List.setIfInBounds_toArray, List.set_cons_zero, List.set_cons_succ]
    refine wpAnyH_take (i := 6) (oi := _) (v := ?_) rfl (by kernel_rfl) (by kernel_rfl) (by kernel_rfl) (fun _ _ _ h => h) (Or.inl ⟨by rfl, ?_⟩) (by assumption) ?_
    rotate_left
    · intro w hSw
      (try dsimp only at hSw)
      first | (go_simp; done) | (go_simp; with_reducible rfl)
    try simp only [List.getElem_toArray, List.getElem_cons_succ, List.getElem_cons_zero, Act.put, List.setIfInBounds_toArray, List.set_cons_zero, List.set_cons_succ]
    refine wpAnyH_take (i := 7) (oi := _) (v := ?_) rfl (by kernel_rfl) (by kernel_rfl) (by kernel_rfl) (fun _ _ _ h => h) (Or.inl ⟨by rfl, ?_⟩) (by assumption) ?_
    rotate_left
    · intro w hSw
      (try dsimp only at hSw)
      first | (go_simp; done) | (go_simp; with_reducible rfl)
    try simp only [List.getElem_toArray, List.getElem_cons_succ, List.getElem_cons_zero, Act.put, List.setIfInBounds_toArray, List.set_cons_zero, List.set_cons_succ]
    refine wpAnyH_take (i := 8) (oi := _) (v := ?_) rfl (by kernel_rfl) (by kernel_rfl) (by kernel_rfl) (fun _ _ _ h => h) (Or.inl ⟨by rfl, ?_⟩) (by assumption) ?_
    rotate_left
    · intro w hSw
      (try dsimp only at hSw)
      first | (go_simp; done) | (go_simp; with_reducible rfl)
    try simp only [List.getElem_toArray, List.getElem_cons_succ, List.getElem_cons_zero, Act.put, List.setIfInBounds_toArray, List.set_cons_zero, List.set_cons_succ]
    refine wpAnyH_take (i := 9) (oi := _) (v := ?_) rfl (by kernel_rfl) (by kernel_rfl) (by kernel_rfl) (fun _ _ _ h => h) (Or.inl ⟨by rfl, ?_⟩) (by assumption) ?_
    rotate_left
    · intro w hSw
      (try dsimp only at hSw)
      first | (go_simp; done) | (go_simp; with_reducible rfl)
    try simp only [List.getElem_toArray, List.getElem_cons_succ, List.getElem_cons_zero, Act.put, List.setIfInBounds_toArray, List.set_cons_zero, List.set_cons_succ]
    refine wpAnyH_take (i := 10) (oi := _) (v := ?_) rfl (by kernel_rfl) (by kernel_rfl) (by kernel_rfl) (fun _ _ _ h => h) (Or.inl ⟨by rfl, ?_⟩) (by assumption) ?_
    rotate_left
    · intro w hSw
      (try dsimp only at hSw)
      first | (go_simp; done) | (go_simp; with_reducible rfl)
    try simp only [List.getElem_toArray, List.getElem_cons_succ, List.getElem_cons_zero, Act.put, List.setIfInBounds_toArray, List.set_cons_zero, List.set_cons_succ]
    refine wpAnyH_take (i := 11) (oi := _) (v := ?_) rfl (by kernel_rfl) (by kernel_rfl) (by kernel_rfl) (fun _ _ _ h => h) (Or.inl ⟨by rfl, ?_⟩) (by assumption) ?_
    rotate_left
    · intro w hSw
      (try dsimp only at hSw)
      first | (go_simp; done) | (go_simp; with_reducible rfl)
    try simp only [List.getElem_toArray, List.getElem_cons_succ, List.getElem_cons_zero, Act.put, List.setIfInBounds_toArray, List.set_cons_zero, List.set_cons_succ]
    refine wpAnyH_take (i := 12) (oi := _) (v := ?_) rfl (by kernel_rfl) (by kernel_rfl) (by kernel_rfl) (fun _ _ _ h => h) (Or.inl ⟨by rfl, ?_⟩) (by assumption) ?_
    rotate_left
    · intro w hSw
      (try dsimp only at hSw)
      first | (go_simp; done) | (go_simp; with_reducible rfl)
    try simp only [List.getElem_toArray, List.getElem_cons_succ, List.getElem_cons_zero, Act.put, List.setIfInBounds_toArray, List.set_cons_zero, List.set_cons_succ]
    refine wpAnyH_take (i := 13) (oi := _) (v := ?_) rfl (by kernel_rfl) (by kernel_rfl) (by kernel_rfl) (fun _ _ _ h => h) (Or.inl ⟨by rfl, ?_⟩) (by assumption) ?_
    rotate_left
    · intro w hSw
      (try dsimp only at hSw)
      first | (go_simp; done) | (go_simp; with_reducible rfl)
    try simp only [List.getElem_toArray, List.getElem_cons_succ, List.getElem_cons_zero, Act.put, List.setIfInBounds_toArray, List.set_cons_zero, List.set_cons_succ]
    refine wpAnyH_take (i := 14) (oi := _) (v := ?_) rfl (by kernel_rfl) (by kernel_rfl) (by kernel_rfl) (fun _ _ _ h => h) (Or.inl ⟨by rfl, ?_⟩) (by assumption) ?_
    rotate_left
    · intro w hSw
      (try dsimp only at hSw)
      first | (go_simp; done) | (go_simp; with_reducible rfl)
    try simp only [List.getElem_toArray, List.getElem_cons_succ, List.getElem_cons_zero, Act.put, List.setIfInBounds_toArray, List.set_cons_zero, List.set_cons_succ]
    refine wpAnyH_ready (rs := [15]) (by kernel_rfl) (by simp) ?_
    refine AllReadyH.cons (o := _) rfl (fun K hK => ?_) AllReadyH.nil
    go_simp
    refine HIn.out.mono ?_
    rintro e wx ⟨rfl, rfl⟩
    try dsimp only
    refine hK.out _ _ hsl (fun hHeld => ?_)
    clear hK K
    try simp only [List.getElem_toArray, List.getElem_cons_succ, List.getElem_cons_zero, Act.put, List.setIfInBounds_toArray, List.set_cons_zero, List.set_cons_succ]
    refine wpAnyH_take (i := 16) (oi := _) (v := ?_) rfl (by kernel_rfl) (by kernel_rfl) (by kernel_rfl) (fun _ _ _ h => h) (Or.inl ⟨by rfl, ?_⟩) (by assumption) ?_
    rotate_left
    · intro w hSw
      (try dsimp only at hSw)
      first | (go_simp; done) | (go_simp; with_reducible rfl)
    try simp only [List.getElem_toArray, List.getElem_cons_succ, List.getElem_cons_zero, Act.put, List.setIfInBounds_toArray, List.set_cons_zero, List.set_cons_succ]
    refine wpAnyH_take (i := 17) (oi := _) (v := ?_) rfl (by kernel_rfl) (by kernel_rfl) (by kernel_rfl) (fun _ _ _ h => h) (Or.inl ⟨by rfl, ?_⟩) (by assumption) ?_
    rotate_left
    · intro w hSw
      (try dsimp only at hSw)
      first | (go_simp; done) | (go_simp; with_reducible rfl)
    try simp only [List.getElem_toArray, List.getElem_cons_succ, List.getElem_cons_zero, Act.put, List.setIfInBounds_toArray, List.set_cons_zero, List.set_cons_succ]
    refine wpAnyH_done (by kernel_rfl) ?_ _
    (try simp only [Exit.then])
    obtain ⟨w2, hw⟩ : ∃ u, u = w1.drew := ⟨_, rfl⟩
    rw [← hw]
    have H2 : Hid (Ck cb S w0 ((n0, .cells (pkC p) 41 (0, 0)) :: Ls) w2) := Lib.hid (by rw [hw]; exact H1.out.drew)
    clear hw hsl HIn H1
    cases hh : S.hold i with
    | none =>
      have hp : pv = .pointer none := by rw [Hpv.out, hh]; rfl
      subst hp
      clear hh
      go_wp2_with fail
      refine bodyPost_ret (results_none rfl _ _ _) rfl ?_
      exact ⟨rfl, S, H2.out.tl rfl, Or.inl rfl⟩
    | some J =>
      have hp : pv = .pointer (some ⟨J.b, 0, none⟩) := by rw [Hpv.out, hh]; rfl
      subst hp
      have HJ := Lib.hid hh
      clear hh
      have c18 : w2.cell? ⟨cb, 18, none⟩ = some (ptrV S.wk) := H2.out.cell 18
      unfold ptrV at c18
      rw [Hk.out] at c18
      dsimp only [Option.map_some] at c18
      have d0 : w2.cell? ⟨wb, 0, none⟩ = some (.int .i64 S.K.kd) := cell_of_row w2 wb 0 _ _ _ (H2.out.work Hk.out)
      by_cases hkd : S.K.kd = 3
      · have hkb : (S.K.kd == 3) = true := by rw [beq_iff_eq]; exact hkd
        have HO3 := HOff.out (by rw [Hk.out]; simp) hkd
        obtain ⟨hJ1, hJ2, hJ3⟩ := HHo.out i J HJ.out
        have hrg := row_rangeK (H2.out.get (k := n0) List.mem_cons_self)
        have HGe := Lib.hid (cgets_any Hk.out Hm.out i J HJ.out p HP.out HG.out hJ1 hJ2 hJ3 HO3.1 HO3.2 w2 H2.out)
        have Hkd := Lib.hid hkd
        clear hJ1 hJ2 hJ3 HO3 hkd
        go_wp2_with (first | (refine wpList_load_mid rfl 41 _ rfl n0 0 rfl (pkC p).toList _ hrg Tryz.underlying41 rfl (pk_len p) ?_) | ((refine HGe.out.mono ?_); rintro e w3 ⟨rfl, h3⟩; have H3 := Lib.hid h3; clear h3))
        refine bodyPost_ret (results_none rfl _ _ _) rfl ?_
        obtain ⟨K, hK1, hK2, hK3 | ⟨D, hK3⟩⟩ := H3.out
        · exact ⟨rfl, _, hK3.tl rfl, Or.inr (Or.inl ⟨Hkd.out, K, hK1, hK2, Or.inl rfl⟩)⟩
        · exact ⟨rfl, _, hK3.tl rfl, Or.inr (Or.inl ⟨Hkd.out, K, hK1, hK2, Or.inr ⟨D, rfl⟩⟩)⟩
      · have hkb : (S.K.kd == 3) = false := by rw [beq_eq_false_iff_ne]; exact hkd
        have d10 : w2.cell? ⟨wb, 10, none⟩ = some (.int .i64 S.K.ph) := cell_of_row w2 wb 10 _ _ _ (H2.out.work Hk.out)
        have g10 : w2.frozen? ⟨wb, 10, none⟩ = false := frozen_of_row w2 wb 10 _ _ (H2.out.work Hk.out)
        obtain ⟨q, hq⟩ : ∃ q, q = wrap64 (S.K.ph + 1) := ⟨_, rfl⟩
        clear hkd
        go_upto_region 7 with fail
        rw [← hq]
        obtain ⟨w3, hw⟩ : ∃ u, u = w2.setCell ⟨wb, 10, none⟩ (.int .i64 q) := ⟨_, rfl⟩
        rw [← hw]
        obtain ⟨U, hU⟩ : ∃ U : Cs, U = setPh S q := ⟨_, rfl⟩
        have H3 : Hid (Ck cb U w0 ((n0, .cells (pkC p) 41 (0, 0)) :: Ls) w3) := Lib.hid (by rw [hw, hU]; exact H2.out.wset (K := { S.K with ph := q }) Hk.out rfl (Or.inl ⟨rfl, rfl⟩))
        have HUk : Hid (U.wk = some wb) := Lib.hid (by rw [hU]; exact Hk.out)
        have HU := Lib.hid hU
        clear hw hq d0 d10 g10 c18 H2
        have c18 : w3.cell? ⟨cb, 18, none⟩ = some (ptrV U.wk) := H3.out.cell 18
        unfold ptrV at c18
        rw [HUk.out] at c18
        dsimp only [Option.map_some] at c18
        have d10 : w3.cell? ⟨wb, 10, none⟩ = some (.int .i64 q) := by
          have e : U.K.ph = q := by rw [hU]; rfl
          rw [← e]
          exact cell_of_row w3 wb 10 _ _ _ (H3.out.work HUk.out)
        by_cases hq4 : q < 4
        · clear hU
          go_wp2_with fail
          refine bodyPost_ret (results_none rfl _ _ _) rfl ?_
          have h3 := H3.out.tl rfl
          rw [HU.out] at h3
          exact ⟨rfl, _, h3, Or.inr (Or.inr (Or.inl ⟨q, rfl⟩))⟩
        · go_upto_region 8 with fail
          obtain ⟨r, hr⟩ : ∃ r, r = recW U := ⟨_, rfl⟩
          have hRc := crecord_any (S := U) HUk.out (by rw [hU]; exact Hf.out) (by rw [hU]; exact H0.out) (by rw [hU]; exact ⟨H1h.out.1, by have := H1h.out.2; show S.cnt ≤ _; omega⟩) w3 H3.out
          rw [← hr] at hRc
          have hrr : recR r = .agg #[.int .i64 r.call, .int .i64 r.inode, .bool r.tr, .int .i64 r.off, .string ⟨r.d.toArray⟩] := rfl
          rw [hrr] at hRc
          have HRc := Lib.hid hRc
          have hrd : r.d.length ≤ 1000 := by
            rw [hr, hU]
            unfold recW
            split
            · exact Nat.zero_le _
            · exact HD.out
          have HEn := Lib.hid fun W => cencK_any r hrd W
          have hUp := ownS_parts U
          obtain ⟨V, hV⟩ : ∃ V, V = ownS U := ⟨_, rfl⟩
          rw [← hV] at HRc hUp
          obtain ⟨u1, u2, u3, u4, u5⟩ := hUp
          obtain ⟨tl, htl⟩ : ∃ tl : Nat, V.tail = tl := ⟨V.tail.toNat, by have : V.tail = S.tail := by rw [u3, hU]; rfl
                                                                          have := Ht.out; omega⟩
          have htl2 : tl ≤ 1000000 := by
            have : V.tail = S.tail := by rw [u3, hU]; rfl
            have := Ht.out.2
            omega
          have HVm : Hid (V.hm = some m) := Lib.hid (by rw [u1, hU]; exact Hm.out)
          have HVh : Hid (V.hold = S.hold) := Lib.hid (by rw [u2, hU]; rfl)
          have HVt := Lib.hid htl
          have HV := Lib.hid hV
          have Hr := Lib.hid hr
          clear hU hr hRc hrr hrd hV u1 u2 u3 u4 u5 htl c18 d10
          go_upto_region 9 with ((with_reducible refine HRc.out.mono ?_); rintro e w4 ⟨rfl, h4⟩; have H4 := Lib.hid h4; clear h4)
          obtain ⟨w5, hw⟩ : ∃ u, u = w4.alloc (.cells #[.int .i64 r.call, .int .i64 r.inode, .bool r.tr, .int .i64 r.off, .string ⟨r.d.toArray⟩] 112) := ⟨_, rfl⟩
          obtain ⟨n5, hn5⟩ : ∃ u, u = w4.heap.size := ⟨_, rfl⟩
          rw [← hw, ← hn5]
          have H5 : Hid (Ck cb V w0 ((n5, .cells #[.int .i64 r.call, .int .i64 r.inode, .bool r.tr, .int .i64 r.off, .string ⟨r.d.toArray⟩] 112 (0, 0)) :: (n0, .cells (pkC p) 41 (0, 0)) :: Ls) w5) := Lib.hid (by rw [hw, hn5]; exact H4.out.box _ _)
          have HNe : Hid (∀ p' ∈ (((n0, Obj.cells (pkC p) 41 (0, 0)) :: Ls) : List (Nat × Obj)), p'.1 ≠ n5) := Lib.hid (by rw [hn5]; exact H4.out.fresh)
          clear hw hn5 HRc H4 H3
          have hob := H5.out.get (k := n5) List.mem_cons_self
          have r0 := cell_of_row w5 n5 0 _ _ _ hob
          have r1 := cell_of_row w5 n5 1 _ _ _ hob
          have r2 := cell_of_row w5 n5 2 _ _ _ hob
          have r3 := cell_of_row w5 n5 3 _ _ _ hob
          have r4 := cell_of_row w5 n5 4 _ _ _ hob
          have hHE : Hid (∀ W, Calls Tryz.prog 60 #[.agg #[.int .i64 r.call, .int .i64 r.inode, .bool r.tr, .int .i64 r.off, .string ⟨r.d.toArray⟩]] W fun e w' => ∃ (A : Option Addr) (c : Nat) (er : Int) (L : List UInt8), e = .returned (.tuple #[.slice A L.length c, .int .i64 er]) ∧ L.length ≤ 96 ∧ BytesAt w' (.slice A L.length c) L ∧ Below W.heap.size W w') := Lib.hid fun W => HEn.out W
          clear hob HEn
          dsimp at r0 r1 r2 r3 r4
          go_upto_region 10 with ((with_reducible refine (hHE.out _).mono ?_); rintro e w6 ⟨A6, c6, er, L, rfl, hl, -, hb⟩; have HB6 := Lib.hid hb; clear hb)
          have H6 := Lib.hid (H5.out.below HB6.out)
          obtain ⟨n, hn⟩ : ∃ n, n = L.length := ⟨_, rfl⟩
          rw [← hn] at hl ⊢
          clear H5 HB6 hHE r0 r1 r2 r3 r4 hn
          have c7 : w6.cell? ⟨cb, 7, none⟩ = some (.int .i64 tl) := by rw [← HVt.out]; exact H6.out.cell 7
          have f7 := H6.out.fz 7
          have hsum : IntKind.i64.wrap ((tl : Int) + n) = (tl : Int) + n := by rw [IntKind.wrap_i64]; omega
          go_upto_region 11 with fail
          obtain ⟨U2, hU2⟩ : ∃ U2, U2 = addT V n := ⟨_, rfl⟩
          obtain ⟨w8, hw⟩ : ∃ u, u = w6.setCell ⟨cb, 7, none⟩ (.int .i64 ((tl : Int) + n)) := ⟨_, rfl⟩
          have H8 : Hid (Ck cb U2 w0 ((n5, .cells #[.int .i64 r.call, .int .i64 r.inode, .bool r.tr, .int .i64 r.off, .string ⟨r.d.toArray⟩] 112 (0, 0)) :: (n0, .cells (pkC p) 41 (0, 0)) :: Ls) w8) := Lib.hid (by
            rw [hw, hU2]
            refine H6.out.st ?_ ⟨rfl, rfl, .inl rfl, rfl, rfl, rfl⟩
            have e : (tl : Int) + n = V.tail + n := by rw [HVt.out]
            rw [e]
            rfl)
          rw [← hw]
          have HU2m : Hid (U2.hm = some m) := Lib.hid (by rw [hU2]; exact HVm.out)
          have HU2h : Hid (U2.hold i = some J) := Lib.hid (by rw [hU2]; show V.hold i = some J; rw [HVh.out]; exact HJ.out)
          have HFin : Hid (∀ A3 c3, DidP S (failS (setHold U2 (updH U2.hold i (some (moreH J (.slice A3 (J.ov.length + 1) c3) r)))) 0)) := Lib.hid fun A3 c3 => Or.inr (Or.inr (Or.inr ⟨q, n, i, J, _, hl, HJ.out, by
            rw [hU2, HV.out, Hr.out, HU.out]
            have e : (addT (ownS (setPh S q)) n).hold = S.hold := by rw [show (addT (ownS (setPh S q)) n).hold = (ownS (setPh S q)).hold from rfl, (ownS_parts (setPh S q)).2.1]; rfl
            rw [e]⟩))
          clear hw hU2 c7 f7 hsum H6
          obtain ⟨hhb, hrow, _⟩ := H8.out.holdAt HU2m.out HU2h.out
          obtain ⟨A, c, hrv⟩ := rv_slice hrow
          obtain ⟨k, hkk⟩ : ∃ k, k = J.ov.length := ⟨_, rfl⟩
          have e17 : w8.cell? ⟨J.b, 17, none⟩ = some (.slice A k c) := by rw [hkk, ← hrv]; exact cell_of_row w8 J.b 17 _ _ _ hhb
          have Hrv : Hid (J.rv = .slice A k c) := Lib.hid (by rw [hkk]; exact hrv)
          have hk6 : k ≤ 1000000 := by rw [hkk]; exact (HHo.out i J HJ.out).2.2
          rw [← hkk] at HFin
          have Hkk := Lib.hid hkk
          have HB := Lib.hid (H8.out.box #[.int .i64 r.call, .int .i64 r.inode, .bool r.tr, .int .i64 r.off, .string ⟨r.d.toArray⟩] 112).drew
          obtain ⟨hhb2, hrow2, _⟩ := HB.out.holdAt HU2m.out HU2h.out
          have HRow : Hid ((w8.alloc (.cells #[.int .i64 r.call, .int .i64 r.inode, .bool r.tr, .int .i64 r.off, .string ⟨r.d.toArray⟩] 112)).drew.ownsRow 0 112 5 J.rv k (recsC J.ov)) := Lib.hid (by rw [hkk]; exact hrow2)
          have HNews : Hid (∀ j u, ([.int .i64 r.call, .int .i64 r.inode, .bool r.tr, .int .i64 r.off, .string ⟨r.d.toArray⟩] : List Value)[j]? = some u → (w8.alloc (.cells #[.int .i64 r.call, .int .i64 r.inode, .bool r.tr, .int .i64 r.off, .string ⟨r.d.toArray⟩] 112)).drew.cell? ((⟨w8.heap.size, 0, none⟩ : Addr).add j) = some u) := Lib.hid (cells_new5 w8 _ _ _ _ _ _)
          have HWl : Hid (J.b < (w8.alloc (.cells #[.int .i64 r.call, .int .i64 r.inode, .bool r.tr, .int .i64 r.off, .string ⟨r.d.toArray⟩] 112)).drew.heap.size ∧ some J.b ≠ J.rv.ownBlock) := Lib.hid ⟨lt_get hhb2, fun e => row_ne hrow2 hhb2 (by decide) J.b e.symm rfl⟩
          have HWl2 : Hid ((w8.alloc (.cells #[.int .i64 r.call, .int .i64 r.inode, .bool r.tr, .int .i64 r.off, .string ⟨r.d.toArray⟩] 112)).drew.cell? ⟨J.b, 17, none⟩ = some (.slice A k c)) := Lib.hid (by rw [← Hrv.out]; exact cell_of_row _ J.b 17 _ _ _ hhb2)
          have HWl3 : Hid ((w8.alloc (.cells #[.int .i64 r.call, .int .i64 r.inode, .bool r.tr, .int .i64 r.off, .string ⟨r.d.toArray⟩] 112)).drew.frozen? ⟨J.b, 17, none⟩ = false) := Lib.hid (frozen_of_row _ J.b 17 _ _ hhb2)
          have hs0 : w8.drew.heap[n5]? = some (.cells #[.int .i64 r.call, .int .i64 r.inode, .bool r.tr, .int .i64 r.off, .string ⟨r.d.toArray⟩] 112 (0, 0)) := H8.out.drew.get (k := n5) List.mem_cons_self
          have hs2 : (w8.alloc (.cells #[.int .i64 r.call, .int .i64 r.inode, .bool r.tr, .int .i64 r.off, .string ⟨r.d.toArray⟩] 112)).drew.heap[n5]? = some (.cells #[.int .i64 r.call, .int .i64 r.inode, .bool r.tr, .int .i64 r.off, .string ⟨r.d.toArray⟩] 112 (0, 0)) := HB.out.get (k := n5) (List.mem_cons_of_mem _ List.mem_cons_self)
          have HNl : Hid (n5 < (w8.alloc (.cells #[.int .i64 r.call, .int .i64 r.inode, .bool r.tr, .int .i64 r.off, .string ⟨r.d.toArray⟩] 112)).drew.heap.size ∧ some n5 ≠ J.rv.ownBlock) := Lib.hid ⟨lt_get hs2, fun e => by
            obtain ⟨F, hF, _, _, hL⟩ := HB.out
            exact (hL (n5, .cells #[.int .i64 r.call, .int .i64 r.inode, .bool r.tr, .int .i64 r.off, .string ⟨r.d.toArray⟩] 112 (0, 0)) (List.mem_cons_of_mem _ List.mem_cons_self)).2.1 (((hF.hold m HU2m.out).at_ i J HU2h.out).1.2.2.2 n5 e.symm)⟩
          have e17a : (w8.alloc (.cells #[.int .i64 r.call, .int .i64 r.inode, .bool r.tr, .int .i64 r.off, .string ⟨r.d.toArray⟩] 112)).cell? ⟨J.b, 17, none⟩ = some (.slice A k c) := HWl2.out
          clear hhb hrow hrv hkk hhb2 hrow2 hq4
          refine wp_region_held_drew (S := fun W => W.heap[n5]? = some (.cells #[.int .i64 r.call, .int .i64 r.inode, .bool r.tr, .int .i64 r.off, .string ⟨r.d.toArray⟩] 112 (0, 0))) (by kernel_rfl) ?_ (fun hHeld => ?_)
          · exact hs0
          refine wpAnyH_take (i := 0) (oi := _) (v := ?_) rfl (by kernel_rfl) (by kernel_rfl) (by kernel_rfl) (fun _ _ _ h => h) (Or.inl ⟨by rfl, ?_⟩) (by assumption) ?_
          rotate_left
          · intro w hSw
            (try dsimp only at hSw)
            first | (go_simp; done) | (go_simp; with_reducible rfl)
          try simp only [List.getElem_toArray, List.getElem_cons_succ, List.getElem_cons_zero, Act.put, List.setIfInBounds_toArray, List.set_cons_zero, List.set_cons_succ]
          refine wpAnyH_take (i := 1) (oi := _) (v := ?_) rfl (by kernel_rfl) (by kernel_rfl) (by kernel_rfl) (fun _ _ _ h => h) (Or.inl ⟨by rfl, ?_⟩) (by assumption) ?_
          rotate_left
          · intro w hSw
            (try dsimp only at hSw)
            first | (go_simp; done) | (go_simp; with_reducible rfl)
          try simp only [List.getElem_toArray, List.getElem_cons_succ, List.getElem_cons_zero, Act.put, List.setIfInBounds_toArray, List.set_cons_zero, List.set_cons_succ]
          refine wpAnyH_take (i := 2) (oi := _) (v := ?_) rfl (by kernel_rfl) (by kernel_rfl) (by kernel_rfl) (fun _ _ _ h => h) (Or.inl ⟨by rfl, ?_⟩) (by assumption) ?_
          rotate_left
          · intro w hSw
            (try dsimp only at hSw)
            first | (go_simp; done) | (go_simp; with_reducible rfl)
          try simp only [List.getElem_toArray, List.getElem_cons_succ, List.getElem_cons_zero, Act.put, List.setIfInBounds_toArray, List.set_cons_zero, List.set_cons_succ]
          refine wpAnyH_take (i := 3) (oi := _) (v := ?_) rfl (by kernel_rfl) (by kernel_rfl) (by kernel_rfl) (fun _ _ _ h => h) (Or.inl ⟨by rfl, ?_⟩) (by assumption) ?_
          rotate_left
          · intro w hSw
            (try dsimp only at hSw)
            first | (go_simp; done) | (go_simp; with_reducible rfl)
          try simp only [List.getElem_toArray, List.getElem_cons_succ, List.getElem_cons_zero, Act.put, List.setIfInBounds_toArray, List.set_cons_zero, List.set_cons_succ]
          refine wpAnyH_take (i := 5) (oi := _) (v := ?_) rfl (by kernel_rfl) (by kernel_rfl) (by kernel_rfl) (fun _ _ _ h => h) (Or.inl ⟨by rfl, ?_⟩) (by assumption) ?_
          rotate_left
          · intro w hSw
            refine exec_load_rowK 112 (.tmp 5) ?_ n5 ?_ 112 #[.int .i64 r.call, .int .i64 r.inode, .bool r.tr, .int .i64 r.off, .string ⟨r.d.toArray⟩] (0, 0) _ hSw Tryz.underlying112 ?_ Tryz.sizeRecK
            all_goals rfl
          try simp only [List.getElem_toArray, List.getElem_cons_succ, List.getElem_cons_zero, Act.put, List.setIfInBounds_toArray, List.set_cons_zero, List.set_cons_succ]
          refine wpAnyH_ready (rs := [4, 6]) (by kernel_rfl) (by simp) ?_
          refine AllReadyH.cons (o := _) rfl (fun K hK => ?_) (AllReadyH.cons (o := _) rfl (fun K hK => ?_) AllReadyH.nil)
          · go_simp
            try dsimp only
            refine hK.out _ _ hs0 (fun hHeld => ?_)
            clear hK K
            try simp only [List.getElem_toArray, List.getElem_cons_succ, List.getElem_cons_zero, Act.put, List.setIfInBounds_toArray, List.set_cons_zero, List.set_cons_succ]
            refine wpAnyH_ready (rs := [6]) (by kernel_rfl) (by simp) ?_
            refine AllReadyH.cons (o := _) rfl (fun K hK => ?_) AllReadyH.nil
            go_simp
            try dsimp only
            refine hK.out _ _ hs2 (fun hHeld => ?_)
            clear hK K
            try simp only [List.getElem_toArray, List.getElem_cons_succ, List.getElem_cons_zero, Act.put, List.setIfInBounds_toArray, List.set_cons_zero, List.set_cons_succ]
            refine wpAnyH_ready (rs := [7]) (by kernel_rfl) (by simp) ?_
            refine AllReadyH.cons (o := _) rfl (fun K hK => ?_) AllReadyH.nil
            refine wp_append_atK (.tmp 89) (.tmp 91) 103 rfl 0 112 i0 _ 5 48 Tryz.underlying103 hi hz0 hz1 hz2 rfl (by decide) J.rv k (recsC J.ov) (by rw [Hrv.out]; rfl) HRow.out ⟨w8.heap.size, 0, none⟩ 1 1 [.int .i64 r.call, .int .i64 r.inode, .bool r.tr, .int .i64 r.off, .string ⟨r.d.toArray⟩] rfl rfl HNews.out (by intro u hu; simp at hu; rcases hu with rfl | rfl | rfl | rfl | rfl <;> rfl) (by unfold maxLen; omega) (by omega) (Nat.zero_le _) ?_
            intro v w3 hown3 hgrow3 hloc3
            obtain ⟨A3, c3, hv3⟩ := rv_slice hown3
            subst hv3
            have HAp : Hid (Ck cb (setHold U2 (updH U2.hold i (some (moreH J (.slice A3 (k + 1) c3) r)))) w0 ((n5, .cells #[.int .i64 r.call, .int .i64 r.inode, .bool r.tr, .int .i64 r.off, .string ⟨r.d.toArray⟩] 112 (0, 0)) :: (n0, .cells (pkC p) 41 (0, 0)) :: Ls) (w3.setCell ⟨J.b, 17, none⟩ (.slice A3 (k + 1) c3))) := Lib.hid ((HB.out.tl rfl).ovApp HU2m.out HU2h.out (by rw [← Hkk.out, recsC_snoc]; exact hown3) hgrow3 hloc3)
            have f8 : w3.cell? ⟨J.b, 17, none⟩ = some (.slice A k c) := (World.cell?_of_block (w := (w8.alloc (.cells #[.int .i64 r.call, .int .i64 r.inode, .bool r.tr, .int .i64 r.off, .string ⟨r.d.toArray⟩] 112)).drew) (a := ⟨J.b, 17, none⟩) (hgrow3.block J.b HWl.out.1 HWl.out.2)).trans HWl2.out
            have g8 : w3.frozen? ⟨J.b, 17, none⟩ = false := (World.frozen?_of_block (w := (w8.alloc (.cells #[.int .i64 r.call, .int .i64 r.inode, .bool r.tr, .int .i64 r.off, .string ⟨r.d.toArray⟩] 112)).drew) (a := ⟨J.b, 17, none⟩) (hgrow3.block J.b HWl.out.1 HWl.out.2)).trans HWl3.out
            have hs3 : w3.heap[n5]? = some (.cells #[.int .i64 r.call, .int .i64 r.inode, .bool r.tr, .int .i64 r.off, .string ⟨r.d.toArray⟩] 112 (0, 0)) := (hgrow3.block n5 HNl.out.1 HNl.out.2).trans hs2
            clear hown3 hgrow3 hloc3
            try dsimp only
            refine hK.out _ _ hs3 (fun hHeld => ?_)
            clear hK K
            try simp only [List.getElem_toArray, List.getElem_cons_succ, List.getElem_cons_zero, Act.put, List.setIfInBounds_toArray, List.set_cons_zero, List.set_cons_succ]
            refine wpAnyH_take (i := 8) (oi := _) (v := ?_) rfl (by kernel_rfl) (by kernel_rfl) (by kernel_rfl) (fun _ _ _ h => h) (Or.inl ⟨by rfl, ?_⟩) (by assumption) ?_
            rotate_left
            · intro w hSw
              (try dsimp only at hSw)
              first | (go_simp; done) | (go_simp; with_reducible rfl)
            try simp only [List.getElem_toArray, List.getElem_cons_succ, List.getElem_cons_zero, Act.put, List.setIfInBounds_toArray, List.set_cons_zero, List.set_cons_succ]
            refine wpAnyH_take (i := 9) (oi := _) (v := ?_) rfl (by kernel_rfl) (by kernel_rfl) (by kernel_rfl) (fun _ _ _ h => h) (Or.inl ⟨by rfl, ?_⟩) (by assumption) ?_
            rotate_left
            · intro w hSw
              (try dsimp only at hSw)
              first | (go_simp; done) | (go_simp; with_reducible rfl)
            try simp only [List.getElem_toArray, List.getElem_cons_succ, List.getElem_cons_zero, Act.put, List.setIfInBounds_toArray, List.set_cons_zero, List.set_cons_succ]
            refine wpAnyH_ready (rs := [10]) (by kernel_rfl) (by simp) ?_
            refine AllReadyH.cons (o := _) rfl (fun K hK => ?_) AllReadyH.nil
            go_simp
            have hs4 : (w3.setCell ⟨J.b, 17, none⟩ (.slice A3 (k + 1) c3)).heap[n5]? = some (.cells #[.int .i64 r.call, .int .i64 r.inode, .bool r.tr, .int .i64 r.off, .string ⟨r.d.toArray⟩] 112 (0, 0)) := HAp.out.get (k := n5) List.mem_cons_self
            try dsimp only
            refine hK.out _ _ hs4 (fun hHeld => ?_)
            clear hK K
            try simp only [List.getElem_toArray, List.getElem_cons_succ, List.getElem_cons_zero, Act.put, List.setIfInBounds_toArray, List.set_cons_zero, List.set_cons_succ]
            refine wpAnyH_done (by kernel_rfl) ?_ _
            (try simp only [Exit.then])
            clear hs0 hs2 hs3 hs4 f8 g8 e17 e17a
            have HFl := Lib.hid (cfails_any 0 _ HAp.out)
            go_wp2_with ((refine HFl.out.mono ?_); rintro e w9 ⟨rfl, h9⟩; have H9 := Lib.hid h9; clear h9)
            go_end0
            have h9 := H9.out.less (Ls' := Ls) (fun q hq => List.mem_cons_of_mem _ (List.mem_cons_of_mem _ hq))
            exact ⟨rfl, _, h9, HFin.out A3 c3⟩
          · go_simp
            try dsimp only
            refine hK.out _ _ hs2 (fun hHeld => ?_)
            clear hK K
            try simp only [List.getElem_toArray, List.getElem_cons_succ, List.getElem_cons_zero, Act.put, List.setIfInBounds_toArray, List.set_cons_zero, List.set_cons_succ]
            refine wpAnyH_ready (rs := [4]) (by kernel_rfl) (by simp) ?_
            refine AllReadyH.cons (o := _) rfl (fun K hK => ?_) AllReadyH.nil
            go_simp
            try dsimp only
            refine hK.out _ _ hs2 (fun hHeld => ?_)
            clear hK K
            try simp only [List.getElem_toArray, List.getElem_cons_succ, List.getElem_cons_zero, Act.put, List.setIfInBounds_toArray, List.set_cons_zero, List.set_cons_succ]
            refine wpAnyH_ready (rs := [7]) (by kernel_rfl) (by simp) ?_
            refine AllReadyH.cons (o := _) rfl (fun K hK => ?_) AllReadyH.nil
            refine wp_append_atK (.tmp 89) (.tmp 91) 103 rfl 0 112 i0 _ 5 48 Tryz.underlying103 hi hz0 hz1 hz2 rfl (by decide) J.rv k (recsC J.ov) (by rw [Hrv.out]; rfl) HRow.out ⟨w8.heap.size, 0, none⟩ 1 1 [.int .i64 r.call, .int .i64 r.inode, .bool r.tr, .int .i64 r.off, .string ⟨r.d.toArray⟩] rfl rfl HNews.out (by intro u hu; simp at hu; rcases hu with rfl | rfl | rfl | rfl | rfl <;> rfl) (by unfold maxLen; omega) (by omega) (Nat.zero_le _) ?_
            intro v w3 hown3 hgrow3 hloc3
            obtain ⟨A3, c3, hv3⟩ := rv_slice hown3
            subst hv3
            have HAp : Hid (Ck cb (setHold U2 (updH U2.hold i (some (moreH J (.slice A3 (k + 1) c3) r)))) w0 ((n5, .cells #[.int .i64 r.call, .int .i64 r.inode, .bool r.tr, .int .i64 r.off, .string ⟨r.d.toArray⟩] 112 (0, 0)) :: (n0, .cells (pkC p) 41 (0, 0)) :: Ls) (w3.setCell ⟨J.b, 17, none⟩ (.slice A3 (k + 1) c3))) := Lib.hid ((HB.out.tl rfl).ovApp HU2m.out HU2h.out (by rw [← Hkk.out, recsC_snoc]; exact hown3) hgrow3 hloc3)
            have f8 : w3.cell? ⟨J.b, 17, none⟩ = some (.slice A k c) := (World.cell?_of_block (w := (w8.alloc (.cells #[.int .i64 r.call, .int .i64 r.inode, .bool r.tr, .int .i64 r.off, .string ⟨r.d.toArray⟩] 112)).drew) (a := ⟨J.b, 17, none⟩) (hgrow3.block J.b HWl.out.1 HWl.out.2)).trans HWl2.out
            have g8 : w3.frozen? ⟨J.b, 17, none⟩ = false := (World.frozen?_of_block (w := (w8.alloc (.cells #[.int .i64 r.call, .int .i64 r.inode, .bool r.tr, .int .i64 r.off, .string ⟨r.d.toArray⟩] 112)).drew) (a := ⟨J.b, 17, none⟩) (hgrow3.block J.b HWl.out.1 HWl.out.2)).trans HWl3.out
            have hs3 : w3.heap[n5]? = some (.cells #[.int .i64 r.call, .int .i64 r.inode, .bool r.tr, .int .i64 r.off, .string ⟨r.d.toArray⟩] 112 (0, 0)) := (hgrow3.block n5 HNl.out.1 HNl.out.2).trans hs2
            clear hown3 hgrow3 hloc3
            try dsimp only
            refine hK.out _ _ hs3 (fun hHeld => ?_)
            clear hK K
            try simp only [List.getElem_toArray, List.getElem_cons_succ, List.getElem_cons_zero, Act.put, List.setIfInBounds_toArray, List.set_cons_zero, List.set_cons_succ]
            refine wpAnyH_take (i := 8) (oi := _) (v := ?_) rfl (by kernel_rfl) (by kernel_rfl) (by kernel_rfl) (fun _ _ _ h => h) (Or.inl ⟨by rfl, ?_⟩) (by assumption) ?_
            rotate_left
            · intro w hSw
              (try dsimp only at hSw)
              first | (go_simp; done) | (go_simp; with_reducible rfl)
            try simp only [List.getElem_toArray, List.getElem_cons_succ, List.getElem_cons_zero, Act.put, List.setIfInBounds_toArray, List.set_cons_zero, List.set_cons_succ]
            refine wpAnyH_take (i := 9) (oi := _) (v := ?_) rfl (by kernel_rfl) (by kernel_rfl) (by kernel_rfl) (fun _ _ _ h => h) (Or.inl ⟨by rfl, ?_⟩) (by assumption) ?_
            rotate_left
            · intro w hSw
              (try dsimp only at hSw)
              first | (go_simp; done) | (go_simp; with_reducible rfl)
            try simp only [List.getElem_toArray, List.getElem_cons_succ, List.getElem_cons_zero, Act.put, List.setIfInBounds_toArray, List.set_cons_zero, List.set_cons_succ]
            refine wpAnyH_ready (rs := [10]) (by kernel_rfl) (by simp) ?_
            refine AllReadyH.cons (o := _) rfl (fun K hK => ?_) AllReadyH.nil
            go_simp
            have hs4 : (w3.setCell ⟨J.b, 17, none⟩ (.slice A3 (k + 1) c3)).heap[n5]? = some (.cells #[.int .i64 r.call, .int .i64 r.inode, .bool r.tr, .int .i64 r.off, .string ⟨r.d.toArray⟩] 112 (0, 0)) := HAp.out.get (k := n5) List.mem_cons_self
            try dsimp only
            refine hK.out _ _ hs4 (fun hHeld => ?_)
            clear hK K
            try simp only [List.getElem_toArray, List.getElem_cons_succ, List.getElem_cons_zero, Act.put, List.setIfInBounds_toArray, List.set_cons_zero, List.set_cons_succ]
            refine wpAnyH_done (by kernel_rfl) ?_ _
            (try simp only [Exit.then])
            clear hs0 hs2 hs3 hs4 f8 g8 e17 e17a
            have HFl := Lib.hid (cfails_any 0 _ HAp.out)
            go_wp2_with ((refine HFl.out.mono ?_); rintro e w9 ⟨rfl, h9⟩; have H9 := Lib.hid h9; clear h9)
            go_end0
            have h9 := H9.out.less (Ls' := Ls) (fun q hq => List.mem_cons_of_mem _ (List.mem_cons_of_mem _ hq))
            exact ⟨rfl, _, h9, HFin.out A3 c3⟩
end
end Go.Proofs.YtiinponoeaihcaaGreat

/- A client: takes. -/
namespace Go.Proofs.YtiinponoeaihcaaGreat
open Go.RowKit Go.Shelf

attribute [local go_sem] Oper.semAt_some
/-- a client within bounds -/
structure Bd (N : Nat) (S : Cs) : Prop where
  life : 0 ≤ S.life ∧ S.life < 1048576
  cnt : 0 ≤ S.cnt ∧ S.cnt ≤ N
  ep : 0 ≤ S.ep ∧ S.ep < 4294967296
  vs : 0 ≤ S.vs ∧ S.vs ≤ N
  tail : 0 ≤ S.tail ∧ S.tail ≤ 100 * N
  f : ∀ k, 0 ≤ S.f k ∧ S.f k < 256
  hm : ∃ m, S.hm = some m
  wm : ∃ m, S.wm = some m
  hn : S.hn ≤ N
  hold : ∀ i H, S.hold i = some H → (0 ≤ H.ns ∧ H.ns < 65536) ∧ (∀ r ∈ H.ov, r.d.length ≤ 80) ∧ H.ov.length ≤ N
  fd : I64 S.K.fd
  got : GotOk S.K
  d : S.K.d.size ≤ 80
  ok : S.wk ≠ none → S.ep ≠ 0 → OkW S.f S.K
/-- a packet that came -/
structure POk (p : Pk) : Prop where
  ino : 0 ≤ p.ino ∧ p.ino < 256
  at_ : 0 ≤ p.at_ ∧ p.at_ < 4294967296
  ns : 0 ≤ p.ns ∧ p.ns < 65536
  d : p.d.size ≤ 128
  nv : ∃ A n c, p.nv = .slice A n c
theorem small_I64 {x : Int} (h : -1000000000000 ≤ x ∧ x ≤ 1000000000000) : I64 x := WalkArith.wf_i64 (by omega)
theorem Bd.ino {N : Nat} {S : Cs} (h : Bd N S) (fd : Int) : 0 ≤ inoF S.f fd ∧ inoF S.f fd < 256 := by
  unfold inoF
  split
  · exact h.f _
  · omega
def incV (S : Cs) : Cs := { S with vs := S.vs + 1 }
def setPause (S : Cs) (q : Int) : Cs := { S with pause := q }
/-- what a look comes to -/
def LookP (S T : Cs) : Prop := (T = S ∧ (S.wk = none ∨ S.ep = 0 ∨ OkW S.f S.K)) ∨ (S.wk ≠ none ∧ S.ep ≠ 0 ∧ ∃ er, T = failS S er)
/-- what an answer comes to -/
def TakeP (S : Cs) (p : Pk) (T : Cs) : Prop :=
  ((p.er = 31 ∨ p.er = 35) ∧ T = loseS S) ∨ (p.kd = 2 ∧ DidP (incV S) T) ∨ (p.op = 20 ∧ p.er ≠ 0 ∧ ∃ q, T = setPause S q) ∨ (p.op = 20 ∧ LookP (anewS S p.at_) T) ∨
  (p.op = 21 ∧ (T = anewS S p.at_ ∨ T = failS (anewS S p.at_) 0)) ∨
  (p.op = 22 ∧ ((∃ b, T = { S with hold := updH S.hold p.ino (some (newH S p b)), hn := S.hn + 1 }) ∨ (∃ q, T = setPause S q) ∨ T = failS S p.er)) ∨
  (p.op = 24 ∧ ((∃ hold, Fewer S hold ∧ T = setHold (anewS S p.at_) hold) ∨ T = failS S p.er)) ∨ (p.op ≠ 20 ∧ p.op ≠ 21 ∧ p.op ≠ 22 ∧ p.op ≠ 24 ∧ AnsP S p T) ∨ (p.op = 23 ∧ T = S)
section
variable {cb : Nat} {S : Cs} {w0 : World} {Ls : List (Nat × Obj)}
theorem clook_any (hf : I64 S.K.fd) (w : World) (h : Ck cb S w0 Ls w) :
    Calls Tryz.prog 20 #[pC cb] w fun e w' => e = .returned (.tuple #[]) ∧ ∃ T, Ck cb T w0 Ls w' ∧ LookP S T := by
  by_cases hn : S.wk = none ∨ S.ep = 0
  · refine (clook_no hn w h).mono ?_
    rintro e w' ⟨rfl, rfl⟩
    exact ⟨rfl, S, h, Or.inl ⟨rfl, hn.imp id Or.inl⟩⟩
  · have h1 : S.wk ≠ none := fun e => hn (Or.inl e)
    have h2 : S.ep ≠ 0 := fun e => hn (Or.inr e)
    obtain ⟨wb, hk⟩ := Option.ne_none_iff_exists'.1 h1
    refine (clook_yes (fun er is => is = false → OkW S.f S.K) hk h2 w h (once_any S.K hf w h)).mono ?_
    rintro e w' ⟨rfl, er, is, hP, hC⟩
    cases is with
    | true => exact ⟨rfl, _, hC, Or.inr ⟨h1, h2, er, rfl⟩⟩
    | false => exact ⟨rfl, _, hC, Or.inl ⟨rfl, Or.inr (Or.inr (hP rfl))⟩⟩
set_option maxHeartbeats 8000000 in
set_option maxRecDepth 100000 in
theorem ctakes_any {N : Nat} (hB : Bd N S) (hN : N ≤ 8000) (p : Pk) (hp : POk p) (hop : p.kd ≠ 2 → p.op = 2 → S.wk ≠ none → S.K.kd = 2) (hep : S.ep ≠ 0 ∨ p.op = 20) (hve : p.kd = 2 → S.ep ≠ 0) (now : Int) (w : World) (h : Ck cb S w0 Ls w) :
    Calls Tryz.prog 19 #[pC cb, .agg (pkC p), .int .i64 now] w fun e w' => e = .returned (.tuple #[]) ∧ ∃ T, Ck cb T w0 Ls w' ∧ TakeP S p T := by
  obtain ⟨m, hm⟩ := hB.hm
  obtain ⟨nA, nn, nc, hnv⟩ := hp.nv
  have HBd := Lib.hid hB
  have HPo := Lib.hid hp
  have Hm := Lib.hid hm
  have Hnv := Lib.hid hnv
  have HN := Lib.hid hN
  have Hop := Lib.hid hop
  have Hep := Lib.hid hep
  have Hve := Lib.hid hve
  have H := Lib.hid h
  clear h hB hp hm hnv hN hop hep hve
  go_enter Tryz.func19, Tryz.ntmps19
  go_upto_region 1 with fail
  obtain ⟨w1, hw⟩ : ∃ u, u = w.alloc (.cells (pkC p) 41) := ⟨_, rfl⟩
  obtain ⟨n0, hn⟩ : ∃ u, u = w.heap.size := ⟨_, rfl⟩
  rw [← hw, ← hn]
  have H1 : Hid (Ck cb S w0 ((n0, .cells (pkC p) 41 (0, 0)) :: Ls) w1) := Lib.hid (by rw [hw, hn]; exact H.out.box _ _)
  have hb := H1.out.get (k := n0) List.mem_cons_self
  have d0 : w1.cell? ⟨n0, 0, none⟩ = some (.int .i64 p.kd) := cell_of_row w1 n0 0 _ _ _ hb
  have d4 : w1.cell? ⟨n0, 4, none⟩ = some (.int .i64 p.op) := cell_of_row w1 n0 4 _ _ _ hb
  have d5 : w1.cell? ⟨n0, 5, none⟩ = some (.int .i64 p.at_) := cell_of_row w1 n0 5 _ _ _ hb
  have d19 : w1.cell? ⟨n0, 19, none⟩ = some (.int .i64 p.er) := cell_of_row w1 n0 19 _ _ _ hb
  have hrg := row_rangeK hb
  clear hw hn hb H
  by_cases he : p.er = 31 ∨ p.er = 35
  · have HLo := Lib.hid (close_lost Hm.out w1 H1.out)
    have HE := Lib.hid he
    by_cases he1 : p.er = 31
    · have q1 : (p.er == 31) = true := by rw [beq_iff_eq]; exact he1
      clear he he1
      go_wp2_with ((with_reducible refine HLo.out.mono ?_); rintro e w2 ⟨rfl, h2⟩; have H2 := Lib.hid h2; clear h2)
      go_end0
      exact ⟨rfl, _, H2.out.tl rfl, Or.inl ⟨HE.out, rfl⟩⟩
    · have q1 : (p.er == 31) = false := by rw [beq_eq_false_iff_ne]; exact he1
      have q2 : (p.er == 35) = true := by rw [beq_iff_eq]; exact he.resolve_left he1
      clear he he1
      go_wp2_with ((with_reducible refine HLo.out.mono ?_); rintro e w2 ⟨rfl, h2⟩; have H2 := Lib.hid h2; clear h2)
      go_end0
      exact ⟨rfl, _, H2.out.tl rfl, Or.inl ⟨HE.out, rfl⟩⟩
  have q1 : (p.er == 31) = false := by rw [beq_eq_false_iff_ne]; exact fun e => he (Or.inl e)
  have q2 : (p.er == 35) = false := by rw [beq_eq_false_iff_ne]; exact fun e => he (Or.inr e)
  clear he
  by_cases hk2 : p.kd = 2
  · have q3 : (p.kd == 2) = true := by rw [beq_iff_eq]; exact hk2
    have c6 : w1.cell? ⟨cb, 6, none⟩ = some (.int .i64 S.vs) := H1.out.cell 6
    have f6 := H1.out.fz 6
    have hvs : IntKind.i64.wrap (S.vs + 1) = S.vs + 1 := IntWalk.i64_in _ (by have := HBd.out.vs; have := HN.out; omega)
    have hE := Hve.out hk2
    have Hk2 := Lib.hid hk2
    clear hk2
    go_upto_region 5 with fail
    clear d4 d5 d19
    obtain ⟨w2, hw⟩ : ∃ u, u = w1.setCell ⟨cb, 6, none⟩ (.int .i64 (S.vs + 1)) := ⟨_, rfl⟩
    rw [← hw]
    have H2 : Hid (Ck cb (incV S) w0 ((n0, .cells (pkC p) 41 (0, 0)) :: Ls) w2) := Lib.hid (by rw [hw]; exact H1.out.st rfl ⟨rfl, rfl, .inl rfl, rfl, rfl, rfl⟩)
    have hrg := row_rangeK (H2.out.get (k := n0) List.mem_cons_self)
    have HD := Lib.hid (cdid_any (S := incV S) Hm.out (small_I64 (by have := HBd.out.ino S.K.fd; show -1000000000000 ≤ inoF S.f S.K.fd ∧ inoF S.f S.K.fd ≤ _; omega)) HBd.out.fd HBd.out.life ⟨HBd.out.cnt.1, by have := HBd.out.cnt.2; have := HN.out; show S.cnt ≤ _; omega⟩ ⟨HBd.out.tail.1, by have := HBd.out.tail.2; have := HN.out; show S.tail ≤ _; omega⟩ p HPo.out.d HBd.out.got
      (fun i J hJ => by obtain ⟨a1, a2, a3⟩ := HBd.out.hold i J hJ; exact ⟨a1, a2, by have := HN.out; omega⟩)
      (fun hk h3 => by
        rcases HBd.out.ok hk hE with ⟨e, _⟩ | ⟨e, _⟩ | ⟨e, _⟩ | ⟨_, e⟩
        · have h3' : S.K.kd = 3 := h3
          omega
        · have h3' : S.K.kd = 3 := h3
          omega
        · have h3' : S.K.kd = 3 := h3
          omega
        · have h3' : S.K.kd = 3 := h3
          rcases e with e | ⟨_, e1, e2, e3⟩ | ⟨e, _⟩ | ⟨e, _⟩
          · omega
          · exact ⟨e1, e2, by show S.K.n ≤ 1000; omega⟩
          · omega
          · omega)
      (by have := HBd.out.d; show S.K.d.size ≤ 1000; omega) w2 H2.out)
    clear hw c6 f6 hvs d0 hE H1
    go_wp2_with (first | (refine wpList_load_mid rfl 41 _ rfl n0 0 rfl (pkC p).toList _ hrg Tryz.underlying41 rfl (pk_len p) ?_) | ((refine HD.out.mono ?_); rintro e w3 ⟨rfl, h3⟩; have H3 := Lib.hid h3; clear h3))
    go_end0
    obtain ⟨T, h1, h2⟩ := H3.out
    exact ⟨rfl, T, h1.tl rfl, Or.inr (Or.inl ⟨Hk2.out, h2⟩)⟩
  have q3 : (p.kd == 2) = false := by rw [beq_eq_false_iff_ne]; exact hk2
  have Hk2 := Lib.hid hk2
  clear hk2
  by_cases h20 : p.op = 20
  · have q4 : (p.op == 20) = true := by rw [beq_iff_eq]; assumption
    by_cases her : p.er = 0
    · have q5 : (p.er != 0) = false := by rw [bne_eq_false_iff_eq]; exact her
      have HA := Lib.hid (canew_any p.at_ w1 H1.out)
      have H20 := Lib.hid h20
      clear h20 her
      go_wp2_with (first | ((with_reducible refine HA.out.mono ?_); rintro e w2 ⟨rfl, h2⟩; have H2 := Lib.hid h2; clear h2; have HL := Lib.hid (clook_any (S := anewS S p.at_) HBd.out.fd w2 H2.out)) | ((with_reducible refine HL.out.mono ?_); rintro e w3 ⟨rfl, h3⟩; have H3 := Lib.hid h3; clear h3))
      go_end0
      obtain ⟨T, h1, h2⟩ := H3.out
      exact ⟨rfl, T, h1.tl rfl, Or.inr (Or.inr (Or.inr (Or.inl ⟨H20.out, h2⟩)))⟩
    · have q5 : (p.er != 0) = true := by rw [bne_iff_ne]; exact her
      have c66 : w1.cell? ⟨cb, 66, none⟩ = some (.int .i64 S.pause) := H1.out.cell 66
      have f66 := H1.out.fz 66
      have H20 := Lib.hid h20
      have Her := Lib.hid her
      clear h20 her
      go_wp2_with fail
      go_end0
      exact ⟨rfl, _, (H1.out.st (T := setPause S (wrap64 (now + 8))) (i := 66) (v := .int .i64 (wrap64 (now + 8))) rfl ⟨rfl, rfl, .inl rfl, rfl, rfl, rfl⟩).tl rfl, Or.inr (Or.inr (Or.inl ⟨H20.out, Her.out, _, rfl⟩))⟩
  have q4 : (p.op == 20) = false := by rw [beq_eq_false_iff_ne]; assumption
  by_cases h21 : p.op = 21
  · have q5 : (p.op == 21) = true := by rw [beq_iff_eq]; assumption
    have HA := Lib.hid (cresumes_any p w1 H1.out)
    have H21 := Lib.hid h21
    clear h20 h21
    go_wp2_with (first | (refine wpList_load_mid rfl 41 _ rfl n0 0 rfl (pkC p).toList _ hrg Tryz.underlying41 rfl (pk_len p) ?_) | ((with_reducible refine HA.out.mono ?_); rintro e w2 ⟨rfl, h2⟩; have H2 := Lib.hid h2; clear h2))
    go_end0
    rcases H2.out with h1 | h1
    · exact ⟨rfl, _, h1.tl rfl, Or.inr (Or.inr (Or.inr (Or.inr (Or.inl ⟨H21.out, Or.inl rfl⟩))))⟩
    · exact ⟨rfl, _, h1.tl rfl, Or.inr (Or.inr (Or.inr (Or.inr (Or.inl ⟨H21.out, Or.inr rfl⟩))))⟩
  have q5 : (p.op == 21) = false := by rw [beq_eq_false_iff_ne]; assumption
  by_cases h22 : p.op = 22
  · have q6 : (p.op == 22) = true := by rw [beq_iff_eq]; assumption
    have HA := Lib.hid (cgrants_any Hm.out (by have := HBd.out.hn; have := HN.out; omega) p (WalkArith.wf_i64 (by have := HPo.out.ino; omega)) now w1 H1.out)
    have H22 := Lib.hid h22
    clear h20 h21 h22
    go_wp2_with (first | (refine wpList_load_mid rfl 41 _ rfl n0 0 rfl (pkC p).toList _ hrg Tryz.underlying41 rfl (pk_len p) ?_) | ((with_reducible refine HA.out.mono ?_); rintro e w2 ⟨rfl, h2⟩; have H2 := Lib.hid h2; clear h2))
    go_end0
    obtain ⟨T, h1, h2⟩ := H2.out
    exact ⟨rfl, T, h1.tl rfl, Or.inr (Or.inr (Or.inr (Or.inr (Or.inr (Or.inl ⟨H22.out, h2⟩)))))⟩
  have q6 : (p.op == 22) = false := by rw [beq_eq_false_iff_ne]; assumption
  by_cases h24 : p.op = 24
  · have q7 : (p.op == 24) = true := by rw [beq_iff_eq]; assumption
    have HA := Lib.hid (ccleans_any Hm.out p w1 H1.out)
    have H24 := Lib.hid h24
    clear h20 h21 h22 h24
    go_wp2_with (first | (refine wpList_load_mid rfl 41 _ rfl n0 0 rfl (pkC p).toList _ hrg Tryz.underlying41 rfl (pk_len p) ?_) | ((with_reducible refine HA.out.mono ?_); rintro e w2 ⟨rfl, h2⟩; have H2 := Lib.hid h2; clear h2))
    go_end0
    obtain ⟨T, h1, h2⟩ := H2.out
    exact ⟨rfl, T, h1.tl rfl, Or.inr (Or.inr (Or.inr (Or.inr (Or.inr (Or.inr (Or.inl ⟨H24.out, h2⟩))))))⟩
  have q7 : (p.op == 24) = false := by rw [beq_eq_false_iff_ne]; assumption
  by_cases h23 : p.op = 23
  · have q8 : (p.op != 23) = false := by rw [bne_eq_false_iff_eq]; exact h23
    have H23 := Lib.hid h23
    clear h20 h21 h22 h24 h23
    go_wp2_with fail
    go_end0
    exact ⟨rfl, S, H1.out.tl rfl, Or.inr (Or.inr (Or.inr (Or.inr (Or.inr (Or.inr (Or.inr (Or.inr ⟨H23.out, rfl⟩)))))))⟩
  have q8 : (p.op != 23) = true := by rw [bne_iff_ne]; exact h23
  have HA := Lib.hid (canswers_any p nA nn nc Hnv.out (fun e hw => by
    have hk : S.K.kd = 2 := Hop.out Hk2.out e hw
    have hep : S.ep ≠ 0 := Hep.out.resolve_right h20
    rcases HBd.out.ok hw hep with ⟨e, _⟩ | ⟨e, _⟩ | ⟨e, _⟩ | ⟨e, _⟩
    · omega
    · omega
    · omega
    · unfold inoF at e
      split at e
      · next he => exact ⟨S.K.fd.toNat, by omega, by omega⟩
      · exact absurd rfl e) w1 H1.out)
  have H2x := Lib.hid (And.intro h20 (And.intro h21 (And.intro h22 h24)))
  clear h20 h21 h22 h24 h23
  go_wp2_with (first | (refine wpList_load_mid rfl 41 _ rfl n0 0 rfl (pkC p).toList _ hrg Tryz.underlying41 rfl (pk_len p) ?_) | ((with_reducible refine HA.out.mono ?_); rintro e w2 ⟨rfl, h2⟩; have H2 := Lib.hid h2; clear h2))
  go_end0
  obtain ⟨T, h1, h2⟩ := H2.out
  obtain ⟨a1, a2, a3, a4⟩ := H2x.out
  exact ⟨rfl, T, h1.tl rfl, Or.inr (Or.inr (Or.inr (Or.inr (Or.inr (Or.inr (Or.inr (Or.inl ⟨a1, a2, a3, a4, h2⟩)))))))⟩
end
end Go.Proofs.YtiinponoeaihcaaGreat
