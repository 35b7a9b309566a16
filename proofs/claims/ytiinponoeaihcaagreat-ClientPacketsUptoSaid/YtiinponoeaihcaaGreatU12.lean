/- A client: write. -/
import Derived.Test.YtiinponoeaihcaaGreatU11
set_option linter.unusedVariables false
set_option linter.unusedSimpArgs false
set_option linter.unusedSectionVars false
namespace Go.Proofs.YtiinponoeaihcaaGreat
open Go.RowKit Go.Shelf

attribute [local go_sem] Oper.semAt_some
theorem cencK_any (r : Gd.Rec) (hd : r.d.length ≤ 1000) (w : World) : Calls Tryz.prog 60 #[recR r] w fun e w' => ∃ (A : Option Addr) (c : Nat) (er : Int) (L : List UInt8), e = .returned (.tuple #[.slice A L.length c, .int .i64 er]) ∧ L.length ≤ 96 ∧ BytesAt w' (.slice A L.length c) L ∧ Below w.heap.size w w' := by
  by_cases hm : r.may = true
  · refine (cenc_yes r hm w).mono ?_
    rintro e w' ⟨u, rfl, ho, hb⟩
    obtain ⟨A, c, rfl, hA⟩ := ho.at_
    refine ⟨A, c, 0, _, rfl, ?_, ⟨A, c, rfl, hA⟩, hb⟩
    rw [Gd.encL_length]
    obtain ⟨_, _, _, _, _, _, h6⟩ := may_parts hm
    unfold Gd.up8
    omega
  · refine (cenc_no r hd hm w).mono ?_
    rintro e w' ⟨rfl, hb⟩
    exact ⟨none, 0, 1, [], rfl, by simp, ⟨none, 0, rfl, Or.inl ⟨rfl, rfl, rfl⟩⟩, hb⟩
/-- a new number -/
def numS (S : Cs) : Cs := { S with cnt := S.cnt + 1 }
def cleanP (S : Cs) : Pk := callP 24 (S.life * 1048576 + (S.cnt + 1)) 0 0 ⟨#[]⟩ ⟨#[]⟩ 0 0 0 0 ⟨#[]⟩
def putP (S : Cs) (op a n : Int) (d : ByteArray) : Pk := { kd := 1, sq := S.vs + 1, op := op, at_ := a, n := n, d := d }
/-- what a write sends, that is a verb -/
def WriteP (S : Cs) (p : Pk) : Prop := ∃ op a n d, p = putP S op a n d ∧ (op = 1 ∨ op = 3) ∧ 0 ≤ a ∧ a ≤ 2000000 ∧ 0 ≤ n ∧ n ≤ 96 ∧ d.size ≤ 96
theorem I64_lt {x : Int} (h : 0 ≤ x ∧ x < 4294967296) : I64 x := WalkArith.wf_i64 (by omega)
/-- bytes in a row of their own stay, beside a client -/
theorem own_kept {cb : Nat} {T : Cs} {w0 w w' : World} {Ls : List (Nat × Obj)} {v : Value} {L : List UInt8} (h : Ck cb T w0 Ls w) (hb : Below w.heap.size w w') (ho : OwnB w' w.heap.size v L) :
    ∃ Lx, Ck cb T w0 Lx w' ∧ (∀ p ∈ Ls, p ∈ Lx) ∧ ∀ U W, Ck cb U w0 Lx W → BytesAt W v L := by
  have hr := ho
  rcases ho.2 with ⟨e, h0⟩ | ⟨g, cap, cur, e, hB, hg, hc, _, _, hcur⟩
  · have : L = [] := List.eq_nil_of_length_eq_zero h0
    subst this
    exact ⟨Ls, h.below hb, fun _ e => e, fun _ _ _ => ⟨none, 0, e, Or.inl ⟨rfl, rfl, rfl⟩⟩⟩
  · refine ⟨(g, .cells cur 5 (0, 0)) :: Ls, h.new hb hB hg, fun _ e => List.mem_cons_of_mem _ e, fun U W hW => ?_⟩
    have hg' := hW.get (k := g) List.mem_cons_self
    refine ⟨some ⟨g, 0, none⟩, cap, by rw [e], Or.inr ⟨g, 0, rfl, lt_get hg', fun j x hx => ?_⟩⟩
    rw [Nat.zero_add]
    obtain ⟨A, c, e2, hA⟩ := hr.at_
    have hcell : (Lib.byteCells L)[j]? = some (.int .u8 x.toNat) := byteCells_get hx
    rw [← hcur, List.getElem?_take] at hcell
    split at hcell
    · exact (cell_of_row W g j _ _ _ hg').trans (by rw [← Array.getElem?_toList]; exact hcell)
    · cases hcell
section
variable {cb : Nat} {S : Cs} {w0 : World} {Ls : List (Nat × Obj)}
set_option maxHeartbeats 8000000 in
set_option maxRecDepth 100000 in
theorem cwrite_any {wb m : Nat} (hk : S.wk = some wb) (hm : S.hm = some m) (i : Int) (hi : inoF S.f S.K.fd = i) (hI : I64 i) (hf : I64 S.K.fd) (h0 : 0 ≤ S.life ∧ S.life < 1048576) (h1 : 0 ≤ S.cnt ∧ S.cnt ≤ 900000) (hv : 0 ≤ S.vs ∧ S.vs ≤ 1000000) (hep : 0 ≤ S.ep ∧ S.ep < 4294967296) (ht : 0 ≤ S.tail ∧ S.tail ≤ 1000000) (hd : (recW S).d.length ≤ 1000) (now : Int) (w : World) (h : Ck cb S w0 Ls w) :
    Calls Tryz.prog 27 #[pC cb, .int .i64 now] w fun e w' => Sends cb (leaseS S i) (leaseP S i true) now w0 Ls e w' ∨ Sends cb (numS (ownS S)) (cleanP (ownS S)) now w0 Ls e w' ∨ ∃ p, WriteP (ownS S) p ∧ Sends cb (ownS S) p now w0 Ls e w' := by
  have h1' : 0 ≤ S.cnt ∧ S.cnt ≤ 1000000 := by omega
  have HL := Lib.hid (clease_any true hk hm i hi hI hf h0 h1' now w h)
  have c18 : w.cell? ⟨cb, 18, none⟩ = some (ptrV S.wk) := h.cell 18
  unfold ptrV at c18
  rw [hk] at c18
  dsimp only [Option.map_some] at c18
  have d10 : w.cell? ⟨wb, 10, none⟩ = some (.int .i64 S.K.ph) := cell_of_row w wb 10 _ _ _ (h.work hk)
  have HRc : Hid (∀ W, Ck cb S w0 Ls W → Calls Tryz.prog 61 #[pC cb] W fun e w' => e = .returned (recR (recW S)) ∧ Ck cb (ownS S) w0 Ls w') := Lib.hid fun W hW => crecord_any hk hf h0 h1' W hW
  have hown : (ownS S).life = S.life ∧ (ownS S).vs = S.vs ∧ (ownS S).ep = S.ep ∧ (ownS S).tail = S.tail ∧ (ownS S).wk = S.wk ∧ (ownS S).K = S.K ∧ 0 ≤ (ownS S).cnt ∧ (ownS S).cnt ≤ 1000000 := by
    unfold ownS
    split
    · exact ⟨rfl, rfl, rfl, rfl, rfl, rfl, show 0 ≤ S.cnt + 1 by omega, show S.cnt + 1 ≤ 1000000 by omega⟩
    · exact ⟨rfl, rfl, rfl, rfl, rfl, rfl, h1'⟩
  obtain ⟨T, hT⟩ : ∃ T, T = ownS S := ⟨_, rfl⟩
  rw [← hT] at hown HRc ⊢
  obtain ⟨hw1, hw2, hw3, hw4, hw5, hw6, hw7, hw8⟩ := hown
  have HT0 : Hid (0 ≤ T.life ∧ T.life < 1048576) := Lib.hid (by rw [hw1]; exact h0)
  have HT1 : Hid (0 ≤ T.cnt ∧ T.cnt ≤ 1000000) := Lib.hid ⟨hw7, hw8⟩
  have HTv : Hid (0 ≤ T.vs ∧ T.vs ≤ 1000000) := Lib.hid (by rw [hw2]; exact hv)
  have HTk : Hid (T.wk = some wb) := Lib.hid (hw5.trans hk)
  have HTe : Hid (0 ≤ T.ep ∧ T.ep < 4294967296) := Lib.hid (by rw [hw3]; exact hep)
  obtain ⟨tl, htl⟩ : ∃ tl : Nat, T.tail = tl := ⟨T.tail.toNat, by omega⟩
  have htl2 : tl ≤ 1000000 := by omega
  have HTt := Lib.hid htl
  have H := Lib.hid h
  have HEn := Lib.hid fun W => cencK_any (recW S) hd W
  clear h hk hm hi hI hf h0 h1 h1' hv hep ht hd hT hw1 hw2 hw3 hw4 hw5 hw6 hw7 hw8 htl
  go_enter Tryz.func27, Tryz.ntmps27
  go_upto_if 21 with fail
  obtain ⟨bq, hbq⟩ : ∃ bq, bq = (S.K.ph == 0) := ⟨_, rfl⟩
  rw [← hbq]
  clear hbq d10
  go_cut [] from 22 to 31 (fun wx => Hid (Ck cb S w0 Ls wx))
  case first =>
    cases bq with
    | true =>
      go_wp2_with fail
      refine HL.out.mono ?_
      rintro e w1 (⟨J, hJ, rfl, h1⟩ | ⟨b, rfl, hb2, hb3⟩)
      · have H1 := Lib.hid h1
        clear h1 hJ HL
        go_wp2_with fail
        go_meet
        exact H1
      · have HS : Hid (Sends cb (leaseS S i) (leaseP S i true) now w0 Ls (.returned (.slice (some ⟨b, 0, none⟩) 1 1)) w1) := Lib.hid ⟨b, rfl, hb2, hb3⟩
        clear hb2 hb3 HL
        go_wp2_with fail
        go_ret
        exact Or.inl HS.out
    | false =>
      go_wp2_with fail
      go_meet
      exact H
  case rest =>
  have HR := Lib.hid (HRc.out _ hcut.out)
  clear c18 HL H hcut HRc
  go_upto_region 6 with (first | ((with_reducible refine HR.out.mono ?_); rintro e w2 ⟨rfl, h2⟩; have H2 := Lib.hid h2; clear h2) | ((with_reducible refine (HEn.out _).mono ?_); rintro e w3 ⟨A, c, er, L, rfl, hl, hB, hb⟩; have HB := Lib.hid hB; have Hb := Lib.hid hb; clear hB hb))
  have H3 := Lib.hid (H2.out.below Hb.out)
  clear H2 Hb HR HEn
  obtain ⟨n, hn⟩ : ∃ n, n = L.length := ⟨_, rfl⟩
  rw [← hn] at hl HB ⊢
  have Hn := Lib.hid hn
  clear hn
  have c7 : w3.cell? ⟨cb, 7, none⟩ = some (.int .i64 tl) := by rw [← HTt.out]; exact H3.out.cell 7
  have hsum : IntKind.i64.wrap ((tl : Int) + n) = ((tl + n : Nat) : Int) := by rw [IntKind.wrap_i64]; omega
  by_cases hbig : 1016 < tl + n
  · have hbigi : (1016 : Int) < ((tl + n : Nat) : Int) := by omega
    clear hbig
    have HNu := Lib.hid (number_any HT0.out HT1.out w3 H3.out)
    go_wp2_with (first | ((with_reducible refine HNu.out.mono ?_); rintro e w6 ⟨rfl, h6⟩; have H6 := Lib.hid h6; clear h6) | (refine (cask_any 24 (T.life * 1048576 + (T.cnt + 1)) 0 0 ⟨#[]⟩ ⟨#[]⟩ 0 0 0 0 ⟨#[]⟩ now w6 H6.out).mono ?_; rintro e w7 ⟨b, rfl, hs⟩; have HS := Lib.hid hs; clear hs))
    go_ret
    exact Or.inr (Or.inl ⟨b, rfl, HS.out⟩)
  · have hbigi : ¬ (1016 : Int) < ((tl + n : Nat) : Int) := by omega
    clear hbig
    go_upto_region 8 with fail
    have c7d : w3.drew.cell? ⟨cb, 7, none⟩ = some (.int .i64 tl) := c7
    have HLg : Hid (∀ W, Ck cb T w0 Ls W → Calls Tryz.prog 59 #[pC cb] W fun e w' => ∃ a : Int, e = .returned (.int .i64 a) ∧ 0 ≤ a ∧ a ≤ 30000 ∧ Below W.heap.size W w') := Lib.hid fun W hW => clog_any W hW
    refine wp_region_held_drew (S := (fun W => W.cell? ⟨cb, 7, none⟩ = some (.int .i64 tl))) (by kernel_rfl) ?_ (fun hHeld => ?_)
    · exact c7d
    refine wpAnyH_take (i := 0) (oi := _) (v := ?_) rfl (by kernel_rfl) (by kernel_rfl) (by kernel_rfl) (fun _ _ _ h => h) (Or.inl ⟨by rfl, ?_⟩) (by assumption) ?_
    rotate_left
    · intro w hSw
      (try dsimp only at hSw)
      first | (go_simp; done) | (go_simp; with_reducible rfl)
    try simp only [List.getElem_toArray, List.getElem_cons_succ, List.getElem_cons_zero, Act.put, List.setIfInBounds_toArray, List.set_cons_zero, List.set_cons_succ]
    refine wpAnyH_take (i := 3) (oi := _) (v := ?_) rfl (by kernel_rfl) (by kernel_rfl) (by kernel_rfl) (fun _ _ _ h => h) (Or.inl ⟨by rfl, ?_⟩) (by assumption) ?_
    rotate_left
    · intro w hSw
      (try dsimp only at hSw)
      first | (go_simp; done) | (go_simp; with_reducible rfl)
    try simp only [List.getElem_toArray, List.getElem_cons_succ, List.getElem_cons_zero, Act.put, List.setIfInBounds_toArray, List.set_cons_zero, List.set_cons_succ]
    refine wpAnyH_take (i := 4) (oi := _) (v := ?_) rfl (by kernel_rfl) (by kernel_rfl) (by kernel_rfl) (fun _ _ _ h => h) (Or.inl ⟨by rfl, ?_⟩) (by assumption) ?_
    rotate_left
    · intro w hSw
      (try dsimp only at hSw)
      first | (go_simp; done) | (go_simp; with_reducible rfl)
    try simp only [List.getElem_toArray, List.getElem_cons_succ, List.getElem_cons_zero, Act.put, List.setIfInBounds_toArray, List.set_cons_zero, List.set_cons_succ]
    refine wpAnyH_take (i := 5) (oi := _) (v := ?_) rfl (by kernel_rfl) (by kernel_rfl) (by kernel_rfl) (fun _ _ _ h => h) (Or.inl ⟨by rfl, ?_⟩) (by assumption) ?_
    rotate_left
    · intro w hSw
      (try dsimp only at hSw)
      first | (go_simp; done) | (go_simp; with_reducible rfl)
    try simp only [List.getElem_toArray, List.getElem_cons_succ, List.getElem_cons_zero, Act.put, List.setIfInBounds_toArray, List.set_cons_zero, List.set_cons_succ]
    refine wpAnyH_take (i := 6) (oi := _) (v := ?_) rfl (by kernel_rfl) (by kernel_rfl) (by kernel_rfl) (fun _ _ _ h => h) (Or.inl ⟨by rfl, ?_⟩) (by assumption) ?_
    rotate_left
    · intro w hSw
      (try dsimp only at hSw)
      first | (go_simp; done) | (go_simp; with_reducible rfl)
    try simp only [List.getElem_toArray, List.getElem_cons_succ, List.getElem_cons_zero, Act.put, List.setIfInBounds_toArray, List.set_cons_zero, List.set_cons_succ]
    refine wpAnyH_take (i := 7) (oi := _) (v := ?_) rfl (by kernel_rfl) (by kernel_rfl) (by kernel_rfl) (fun _ _ _ h => h) (Or.inl ⟨by rfl, ?_⟩) (by assumption) ?_
    rotate_left
    · intro w hSw
      (try dsimp only at hSw)
      first | (go_simp; done) | (go_simp; with_reducible rfl)
    try simp only [List.getElem_toArray, List.getElem_cons_succ, List.getElem_cons_zero, Act.put, List.setIfInBounds_toArray, List.set_cons_zero, List.set_cons_succ]
    refine wpAnyH_ready (rs := [1]) (by kernel_rfl) (by simp) ?_
    refine AllReadyH.cons (o := _) rfl (fun K hK => ?_) AllReadyH.nil
    go_simp
    refine (HLg.out _ H3.out.drew).mono ?_
    rintro e w4 ⟨a, rfl, ha1, ha2, hb⟩
    have H4 := Lib.hid (H3.out.drew.below hb)
    have HB4 := Lib.hid (HB.out.keep ((Below.refl _ _).drew.trans hb))
    clear hb
    have hs4 : w4.cell? ⟨cb, 7, none⟩ = some (.int .i64 tl) := by rw [← HTt.out]; exact H4.out.cell 7
    try dsimp only
    refine hK.out _ _ hs4 (fun hHeld => ?_)
    clear hK K
    try simp only [List.getElem_toArray, List.getElem_cons_succ, List.getElem_cons_zero, Act.put, List.setIfInBounds_toArray, List.set_cons_zero, List.set_cons_succ]
    have hw1 : IntKind.i64.wrap (a + 8) = a + 8 := IntWalk.i64_in _ (by omega)
    have hw2 : IntKind.i64.wrap (a + 8 + (tl : Int)) = a + 8 + (tl : Int) := IntWalk.i64_in _ (by omega)
    refine wpAnyH_take (i := 2) (oi := _) (v := ?_) rfl (by kernel_rfl) (by kernel_rfl) (by kernel_rfl) (fun _ _ _ h => h) (Or.inl ⟨by rfl, ?_⟩) (by assumption) ?_
    rotate_left
    · intro w hSw
      (try dsimp only at hSw)
      first | (go_simp; done) | (go_simp; with_reducible rfl)
    try simp only [List.getElem_toArray, List.getElem_cons_succ, List.getElem_cons_zero, Act.put, List.setIfInBounds_toArray, List.set_cons_zero, List.set_cons_succ]
    refine wpAnyH_take (i := 8) (oi := _) (v := ?_) rfl (by kernel_rfl) (by kernel_rfl) (by kernel_rfl) (fun _ _ _ h => h) (Or.inl ⟨by rfl, ?_⟩) (by assumption) ?_
    rotate_left
    · intro w hSw
      (try dsimp only at hSw)
      first | (go_simp; done) | (go_simp; with_reducible rfl)
    try simp only [List.getElem_toArray, List.getElem_cons_succ, List.getElem_cons_zero, Act.put, List.setIfInBounds_toArray, List.set_cons_zero, List.set_cons_succ]
    refine wpAnyH_take (i := 9) (oi := _) (v := ?_) rfl (by kernel_rfl) (by kernel_rfl) (by kernel_rfl) (fun _ _ _ h => h) (Or.inl ⟨by rfl, ?_⟩) (by assumption) ?_
    rotate_left
    · intro w hSw
      (try dsimp only at hSw)
      first | (go_simp; done) | (go_simp; with_reducible rfl)
    try simp only [List.getElem_toArray, List.getElem_cons_succ, List.getElem_cons_zero, Act.put, List.setIfInBounds_toArray, List.set_cons_zero, List.set_cons_succ]
    refine wpAnyH_done (by kernel_rfl) ?_ _
    (try simp only [Exit.then])
    clear c7 c7d H3 HB hs4
    obtain ⟨a2, ha⟩ : ∃ a2 : Int, a2 = a + 8 + (tl : Int) := ⟨_, rfl⟩
    rw [← ha]
    have Ha : Hid (0 ≤ a2 ∧ a2 ≤ 2000000) := Lib.hid (by omega)
    clear ha hw1 hw2 ha1 ha2
    go_wp2
    have HEd := Lib.hid fun W => cendK_any T.ep ((tl + n : Nat) : Int) (I64_lt HTe.out) (nat_I64 (by omega)) W
    have hs4 : w4.drew.cell? ⟨cb, 2 + 2, none⟩ = some (.int .i64 T.ep) ∧ w4.drew.cell? ⟨cb, 7, none⟩ = some (.int .i64 tl) := ⟨H4.out.drew.cell 4, by rw [← HTt.out]; exact H4.out.drew.cell 7⟩
    refine wp_region_held_drew (S := (fun W => W.cell? ⟨cb, 2 + 2, none⟩ = some (.int .i64 T.ep) ∧ W.cell? ⟨cb, 7, none⟩ = some (.int .i64 tl))) (by kernel_rfl) ?_ (fun hHeld => ?_)
    · exact hs4
    refine wpAnyH_take (i := 0) (oi := _) (v := ?_) rfl (by kernel_rfl) (by kernel_rfl) (by kernel_rfl) (fun _ _ _ h => h) (Or.inl ⟨by rfl, ?_⟩) (by assumption) ?_
    rotate_left
    · intro w hSw
      (try dsimp only at hSw)
      first | (go_simp; done) | (go_simp; with_reducible rfl)
    try simp only [List.getElem_toArray, List.getElem_cons_succ, List.getElem_cons_zero, Act.put, List.setIfInBounds_toArray, List.set_cons_zero, List.set_cons_succ]
    refine wpAnyH_take (i := 1) (oi := _) (v := ?_) rfl (by kernel_rfl) (by kernel_rfl) (by kernel_rfl) (fun _ _ _ h => h) (Or.inl ⟨by rfl, ?_⟩) (by assumption) ?_
    rotate_left
    · intro w hSw
      (try dsimp only at hSw)
      first | (go_simp; done) | (go_simp; with_reducible rfl)
    try simp only [List.getElem_toArray, List.getElem_cons_succ, List.getElem_cons_zero, Act.put, List.setIfInBounds_toArray, List.set_cons_zero, List.set_cons_succ]
    refine wpAnyH_take (i := 2) (oi := _) (v := ?_) rfl (by kernel_rfl) (by kernel_rfl) (by kernel_rfl) (fun _ _ _ h => h) (Or.inl ⟨by rfl, ?_⟩) (by assumption) ?_
    rotate_left
    · intro w hSw
      (try dsimp only at hSw)
      first | (go_simp; done) | (go_simp; with_reducible rfl)
    try simp only [List.getElem_toArray, List.getElem_cons_succ, List.getElem_cons_zero, Act.put, List.setIfInBounds_toArray, List.set_cons_zero, List.set_cons_succ]
    refine wpAnyH_take (i := 3) (oi := _) (v := ?_) rfl (by kernel_rfl) (by kernel_rfl) (by kernel_rfl) (fun _ _ _ h => h) (Or.inl ⟨by rfl, ?_⟩) (by assumption) ?_
    rotate_left
    · intro w hSw
      (try dsimp only at hSw)
      first | (go_simp; done) | (go_simp; with_reducible rfl)
    try simp only [List.getElem_toArray, List.getElem_cons_succ, List.getElem_cons_zero, Act.put, List.setIfInBounds_toArray, List.set_cons_zero, List.set_cons_succ]
    refine wpAnyH_take (i := 4) (oi := _) (v := ?_) rfl (by kernel_rfl) (by kernel_rfl) (by kernel_rfl) (fun _ _ _ h => h) (Or.inl ⟨by rfl, ?_⟩) (by assumption) ?_
    rotate_left
    · intro w hSw
      (try dsimp only at hSw)
      first | (go_simp; done) | (go_simp; with_reducible rfl)
    try simp only [List.getElem_toArray, List.getElem_cons_succ, List.getElem_cons_zero, Act.put, List.setIfInBounds_toArray, List.set_cons_zero, List.set_cons_succ]
    refine wpAnyH_take (i := 5) (oi := _) (v := ?_) rfl (by kernel_rfl) (by kernel_rfl) (by kernel_rfl) (fun _ _ _ h => h) (Or.inl ⟨by rfl, ?_⟩) (by assumption) ?_
    rotate_left
    · intro w hSw
      (try dsimp only at hSw)
      first | (go_simp; done) | (go_simp; with_reducible rfl)
    try simp only [List.getElem_toArray, List.getElem_cons_succ, List.getElem_cons_zero, Act.put, List.setIfInBounds_toArray, List.set_cons_zero, List.set_cons_succ]
    refine wpAnyH_take (i := 6) (oi := _) (v := ?_) rfl (by kernel_rfl) (by kernel_rfl) (by kernel_rfl) (fun _ _ _ h => h) (Or.inl ⟨by rfl, ?_⟩) (by assumption) ?_
    rotate_left
    · intro w hSw
      (try dsimp only at hSw)
      first | (go_simp; done) | (go_simp; with_reducible rfl)
    try simp only [List.getElem_toArray, List.getElem_cons_succ, List.getElem_cons_zero, Act.put, List.setIfInBounds_toArray, List.set_cons_zero, List.set_cons_succ]
    refine wpAnyH_take (i := 7) (oi := _) (v := ?_) rfl (by kernel_rfl) (by kernel_rfl) (by kernel_rfl) (fun _ _ _ h => h) (Or.inl ⟨by rfl, ?_⟩) (by assumption) ?_
    rotate_left
    · intro w hSw
      (try dsimp only at hSw)
      first | (go_simp; done) | (go_simp; with_reducible rfl)
    try simp only [List.getElem_toArray, List.getElem_cons_succ, List.getElem_cons_zero, Act.put, List.setIfInBounds_toArray, List.set_cons_zero, List.set_cons_succ]
    refine wpAnyH_take (i := 8) (oi := _) (v := ?_) rfl (by kernel_rfl) (by kernel_rfl) (by kernel_rfl) (fun _ _ _ h => h) (Or.inl ⟨by rfl, ?_⟩) (by assumption) ?_
    rotate_left
    · intro w hSw
      (try dsimp only at hSw)
      first | (go_simp; done) | (go_simp; with_reducible rfl)
    try simp only [List.getElem_toArray, List.getElem_cons_succ, List.getElem_cons_zero, Act.put, List.setIfInBounds_toArray, List.set_cons_zero, List.set_cons_succ]
    refine wpAnyH_take (i := 9) (oi := _) (v := ?_) rfl (by kernel_rfl) (by kernel_rfl) (by kernel_rfl) (fun _ _ _ h => h) (Or.inl ⟨by rfl, ?_⟩) (by assumption) ?_
    rotate_left
    · intro w hSw
      (try dsimp only at hSw)
      first | (go_simp; done) | (go_simp; with_reducible rfl)
    try simp only [List.getElem_toArray, List.getElem_cons_succ, List.getElem_cons_zero, Act.put, List.setIfInBounds_toArray, List.set_cons_zero, List.set_cons_succ]
    refine wpAnyH_take (i := 10) (oi := _) (v := ?_) rfl (by kernel_rfl) (by kernel_rfl) (by kernel_rfl) (fun _ _ _ h => h) (Or.inl ⟨by rfl, ?_⟩) (by assumption) ?_
    rotate_left
    · intro w hSw
      (try dsimp only at hSw)
      first | (go_simp; done) | (go_simp; with_reducible rfl)
    try simp only [List.getElem_toArray, List.getElem_cons_succ, List.getElem_cons_zero, Act.put, List.setIfInBounds_toArray, List.set_cons_zero, List.set_cons_succ]
    refine wpAnyH_take (i := 11) (oi := _) (v := ?_) rfl (by kernel_rfl) (by kernel_rfl) (by kernel_rfl) (fun _ _ _ h => h) (Or.inl ⟨by rfl, ?_⟩) (by assumption) ?_
    rotate_left
    · intro w hSw
      (try dsimp only at hSw)
      first | (go_simp; done) | (go_simp; with_reducible rfl)
    try simp only [List.getElem_toArray, List.getElem_cons_succ, List.getElem_cons_zero, Act.put, List.setIfInBounds_toArray, List.set_cons_zero, List.set_cons_succ]
    refine wpAnyH_take (i := 12) (oi := _) (v := ?_) rfl (by kernel_rfl) (by kernel_rfl) (by kernel_rfl) (fun _ _ _ h => h) (Or.inl ⟨by rfl, ?_⟩) (by assumption) ?_
    rotate_left
    · intro w hSw
      (try dsimp only at hSw)
      first | (go_simp; done) | (go_simp; with_reducible rfl)
    try simp only [List.getElem_toArray, List.getElem_cons_succ, List.getElem_cons_zero, Act.put, List.setIfInBounds_toArray, List.set_cons_zero, List.set_cons_succ]
    refine wpAnyH_ready (rs := [13]) (by kernel_rfl) (by simp) ?_
    refine AllReadyH.cons (o := _) rfl (fun K hK => ?_) AllReadyH.nil
    go_simp
    refine (HEd.out _).mono ?_
    rintro e w5 ⟨⟨q, r, hq, rfl⟩, rfl⟩
    have HQ := Lib.hid hq
    clear hq
    try dsimp only
    refine hK.out _ _ hs4 (fun hHeld => ?_)
    clear hK K
    try simp only [List.getElem_toArray, List.getElem_cons_succ, List.getElem_cons_zero, Act.put, List.setIfInBounds_toArray, List.set_cons_zero, List.set_cons_succ]
    refine wpAnyH_take (i := 14) (oi := _) (v := ?_) rfl (by kernel_rfl) (by kernel_rfl) (by kernel_rfl) (fun _ _ _ h => h) (Or.inl ⟨by rfl, ?_⟩) (by assumption) ?_
    rotate_left
    · intro w hSw
      (try dsimp only at hSw)
      first | (go_simp; done) | (go_simp; with_reducible rfl)
    try simp only [List.getElem_toArray, List.getElem_cons_succ, List.getElem_cons_zero, Act.put, List.setIfInBounds_toArray, List.set_cons_zero, List.set_cons_succ]
    refine wpAnyH_take (i := 15) (oi := _) (v := ?_) rfl (by kernel_rfl) (by kernel_rfl) (by kernel_rfl) (fun _ _ _ h => h) (Or.inl ⟨by rfl, ?_⟩) (by assumption) ?_
    rotate_left
    · intro w hSw
      (try dsimp only at hSw)
      first | (go_simp; done) | (go_simp; with_reducible rfl)
    try simp only [List.getElem_toArray, List.getElem_cons_succ, List.getElem_cons_zero, Act.put, List.setIfInBounds_toArray, List.set_cons_zero, List.set_cons_succ]
    refine wpAnyH_take (i := 16) (oi := _) (v := ?_) rfl (by kernel_rfl) (by kernel_rfl) (by kernel_rfl) (fun _ _ _ h => h) (Or.inl ⟨by rfl, ?_⟩) (by assumption) ?_
    rotate_left
    · intro w hSw
      (try dsimp only at hSw)
      first | (go_simp; done) | (go_simp; with_reducible rfl)
    try simp only [List.getElem_toArray, List.getElem_cons_succ, List.getElem_cons_zero, Act.put, List.setIfInBounds_toArray, List.set_cons_zero, List.set_cons_succ]
    refine wpAnyH_take (i := 17) (oi := _) (v := ?_) rfl (by kernel_rfl) (by kernel_rfl) (by kernel_rfl) (fun _ _ _ h => h) (Or.inl ⟨by rfl, ?_⟩) (by assumption) ?_
    rotate_left
    · intro w hSw
      (try dsimp only at hSw)
      first | (go_simp; done) | (go_simp; with_reducible rfl)
    try simp only [List.getElem_toArray, List.getElem_cons_succ, List.getElem_cons_zero, Act.put, List.setIfInBounds_toArray, List.set_cons_zero, List.set_cons_succ]
    refine wpAnyH_take (i := 18) (oi := _) (v := ?_) rfl (by kernel_rfl) (by kernel_rfl) (by kernel_rfl) (fun _ _ _ h => h) (Or.inl ⟨by rfl, ?_⟩) (by assumption) ?_
    rotate_left
    · intro w hSw
      (try dsimp only at hSw)
      first | (go_simp; done) | (go_simp; with_reducible rfl)
    try simp only [List.getElem_toArray, List.getElem_cons_succ, List.getElem_cons_zero, Act.put, List.setIfInBounds_toArray, List.set_cons_zero, List.set_cons_succ]
    refine wpAnyH_done (by kernel_rfl) ?_ _
    (try simp only [Exit.then])
    obtain ⟨w5, hw5⟩ : ∃ u, u = w4.drew := ⟨_, rfl⟩
    have H5 := Lib.hid H4.out.drew
    have HB5 := Lib.hid (HB4.out.keep (Below.refl _ _).drew)
    rw [← hw5] at H5 HB5 ⊢
    have HPu := Lib.hid (put_any (.slice none 0 0) [] q 8 (Or.inr (Or.inr (Or.inr rfl))) HQ.out w5 ⟨none, 0, rfl, Or.inl ⟨rfl, rfl, rfl⟩⟩ (by simp))
    rw [show ((8 : Nat) : Int) = 8 from rfl] at HPu
    clear hw5 H4 HB4 hs4 HEd HQ
    go_upto_region 11 with ((with_reducible refine HPu.out.mono ?_); rintro e w6 ⟨v, rfl, ho, hb⟩; have HO := Lib.hid ho; have HB6 := Lib.hid hb; clear ho hb)
    obtain ⟨L2, hL2⟩ : ∃ L2, L2 = Gd.put [] q 8 := ⟨_, rfl⟩
    have hl2 : L2.length ≤ 8 := by
      rw [hL2]
      unfold Gd.put
      split
      · rw [List.length_append, Gd.le_length]
        simp
      · simp
    have hA := HO.out.at_
    rw [← hL2] at hA
    obtain ⟨A2, c2, rfl, hA2⟩ := hA
    have HX6 : Hid (∃ Lx, Ck cb T w0 Lx w6 ∧ (∀ p ∈ Ls, p ∈ Lx) ∧ ∀ U W, Ck cb U w0 Lx W → BytesAt W (.slice A2 L2.length c2) L2) := Lib.hid (own_kept H5.out HB6.out (hL2 ▸ HO.out))
    have hC2 : BytesAt w6 (.slice A2 L2.length c2) L2 := ⟨A2, c2, rfl, hA2⟩
    have HC2 := Lib.hid hC2
    have H6 := Lib.hid (H5.out.below HB6.out)
    have HC1 := Lib.hid (HB5.out.keep HB6.out)
    clear hL2 hA2 hC2 HO HB6 HB5 H5 HPu
    obtain ⟨n2, hn2⟩ : ∃ n2, n2 = L2.length := ⟨_, rfl⟩
    rw [← hn2] at HC2 HX6 hl2 ⊢
    have Hn2 := Lib.hid hn2
    have c18 : w6.cell? ⟨cb, 18, none⟩ = some (ptrV T.wk) := H6.out.cell 18
    unfold ptrV at c18
    rw [HTk.out] at c18
    dsimp only [Option.map_some] at c18
    have d10 : w6.cell? ⟨wb, 10, none⟩ = some (.int .i64 T.K.ph) := cell_of_row w6 wb 10 _ _ _ (H6.out.work (wb := wb) HTk.out)
    clear hn2
    go_upto_region 12 with fail
    clear c18 d10
    by_cases p0 : T.K.ph = 0
    · have q0 : (T.K.ph == 0) = true := by rw [beq_iff_eq]; exact p0
      have hcv : (convert 42 9 (.slice A n c)).run Tryz.prog w6 = .ok (.string ⟨L.toArray⟩) w6 := conv_any _ L w6 HC1.out
      clear p0
      have HV := Lib.hid (cverb_any (S := T) { op := 1, at_ := a2, n := 0, d := ⟨L.toArray⟩ } rfl now HTv.out w6 H6.out)
      go_wp2_with (first | (refine HV.out.mono ?_; rintro e wz hs; obtain ⟨b, rfl, hs⟩ := hs; have HS := Lib.hid hs; clear hs))
      go_ret
      exact Or.inr (Or.inr ⟨_, ⟨1, a2, 0, ⟨L.toArray⟩, rfl, by omega, Ha.out.1, Ha.out.2, by omega, by omega, show L.length ≤ 96 by have := Hn.out; omega⟩, b, rfl, HS.out⟩)
    · have q0 : (T.K.ph == 0) = false := by rw [beq_eq_false_iff_ne]; exact p0
      clear p0
      by_cases p1 : T.K.ph = 1
      · have q1 : (T.K.ph == 1) = true := by rw [beq_iff_eq]; exact p1
        clear p1
        have HV := Lib.hid (cverb_any (S := T) { op := 3, at_ := a2, n := (n : Int), d := ⟨#[]⟩ } rfl now HTv.out w6 H6.out)
        go_wp2_with (first | (refine HV.out.mono ?_; rintro e wz hs; obtain ⟨b, rfl, hs⟩ := hs; have HS := Lib.hid hs; clear hs))
        go_ret
        exact Or.inr (Or.inr ⟨_, ⟨3, a2, (n : Int), ⟨#[]⟩, rfl, by omega, Ha.out.1, Ha.out.2, by omega, by omega, Nat.zero_le _⟩, b, rfl, HS.out⟩)
      · have q1 : (T.K.ph == 1) = false := by rw [beq_eq_false_iff_ne]; exact p1
        clear p1
        by_cases p2 : T.K.ph = 2
        · have q2 : (T.K.ph == 2) = true := by rw [beq_iff_eq]; exact p2
          clear p2
          go_upto_region 17 with fail
          obtain ⟨Lx, hX, hLx, hBx⟩ := HX6.out
          have HX := Lib.hid hX.drew
          have HLx := Lib.hid hLx
          have HCz : Hid (∀ U W, Ck cb U w0 Lx W → (convert 42 9 (.slice A2 n2 c2)).run Tryz.prog W = .ok (.string ⟨L2.toArray⟩) W) := Lib.hid fun U W hW => conv_any _ L2 W (hBx U W hW)
          have hsc := HCz.out _ _ hX.drew
          have HLgx := Lib.hid (clog_any w6.drew hX.drew)
          clear hX hLx hBx HX6
          refine wp_region_held_drew (S := (fun W => (convert 42 9 (.slice A2 n2 c2)).run Tryz.prog W = .ok (.string ⟨L2.toArray⟩) W)) (by kernel_rfl) ?_ (fun hHeld => ?_)
          · exact hsc
          refine wpAnyH_take (i := 0) (oi := _) (v := ?_) rfl (by kernel_rfl) (by kernel_rfl) (by kernel_rfl) (fun _ _ _ h => h) (Or.inl ⟨by rfl, ?_⟩) (by assumption) ?_
          rotate_left
          · intro w hSw
            (try dsimp only at hSw)
            first | (go_simp; done) | (go_simp; with_reducible rfl)
          try simp only [List.getElem_toArray, List.getElem_cons_succ, List.getElem_cons_zero, Act.put, List.setIfInBounds_toArray, List.set_cons_zero, List.set_cons_succ]
          refine wpAnyH_take (i := 1) (oi := _) (v := ?_) rfl (by kernel_rfl) (by kernel_rfl) (by kernel_rfl) (fun _ _ _ h => h) (Or.inl ⟨by rfl, ?_⟩) (by assumption) ?_
          rotate_left
          · intro w hSw
            (try dsimp only at hSw)
            first | (go_simp; done) | (go_simp; with_reducible rfl)
          try simp only [List.getElem_toArray, List.getElem_cons_succ, List.getElem_cons_zero, Act.put, List.setIfInBounds_toArray, List.set_cons_zero, List.set_cons_succ]
          refine wpAnyH_take (i := 3) (oi := _) (v := ?_) rfl (by kernel_rfl) (by kernel_rfl) (by kernel_rfl) (fun _ _ _ h => h) (Or.inl ⟨by rfl, ?_⟩) (by assumption) ?_
          rotate_left
          · intro w hSw
            (try dsimp only at hSw)
            first | (go_simp; done) | (go_simp; with_reducible rfl)
          try simp only [List.getElem_toArray, List.getElem_cons_succ, List.getElem_cons_zero, Act.put, List.setIfInBounds_toArray, List.set_cons_zero, List.set_cons_succ]
          refine wpAnyH_take (i := 4) (oi := _) (v := ?_) rfl (by kernel_rfl) (by kernel_rfl) (by kernel_rfl) (fun _ _ _ h => h) (Or.inl ⟨by rfl, ?_⟩) (by assumption) ?_
          rotate_left
          · intro w hSw
            (try dsimp only at hSw)
            first | (go_simp; done) | (go_simp; with_reducible rfl)
          try simp only [List.getElem_toArray, List.getElem_cons_succ, List.getElem_cons_zero, Act.put, List.setIfInBounds_toArray, List.set_cons_zero, List.set_cons_succ]
          refine wpAnyH_take (i := 6) (oi := _) (v := ?_) rfl (by kernel_rfl) (by kernel_rfl) (by kernel_rfl) (fun _ _ _ h => h) (Or.inl ⟨by rfl, ?_⟩) (by assumption) ?_
          rotate_left
          · intro w hSw
            (try dsimp only at hSw)
            first | (go_simp; done) | (go_simp; with_reducible rfl)
          try simp only [List.getElem_toArray, List.getElem_cons_succ, List.getElem_cons_zero, Act.put, List.setIfInBounds_toArray, List.set_cons_zero, List.set_cons_succ]
          refine wpAnyH_ready (rs := [2]) (by kernel_rfl) (by simp) ?_
          refine AllReadyH.cons (o := _) rfl (fun K hK => ?_) AllReadyH.nil
          go_simp
          refine HLgx.out.mono ?_
          rintro e w7 ⟨a7, rfl, ha1, ha2, hb⟩
          have H7 := Lib.hid (HX.out.below hb)
          have hs7 := HCz.out _ _ H7.out
          have Ha7 := Lib.hid (And.intro ha1 ha2)
          clear hb ha1 ha2
          try dsimp only
          refine hK.out _ _ hs7 (fun hHeld => ?_)
          clear hK K
          try simp only [List.getElem_toArray, List.getElem_cons_succ, List.getElem_cons_zero, Act.put, List.setIfInBounds_toArray, List.set_cons_zero, List.set_cons_succ]
          refine wpAnyH_take (i := 5) (oi := _) (v := ?_) rfl (by kernel_rfl) (by kernel_rfl) (by kernel_rfl) (fun _ _ _ h => h) (Or.inl ⟨by rfl, ?_⟩) (by assumption) ?_
          rotate_left
          · intro w hSw
            (try dsimp only at hSw)
            first | (go_simp; done) | (go_simp; with_reducible rfl)
          try simp only [List.getElem_toArray, List.getElem_cons_succ, List.getElem_cons_zero, Act.put, List.setIfInBounds_toArray, List.set_cons_zero, List.set_cons_succ]
          have HV := Lib.hid (cverb_any (S := T) { op := 1, at_ := a7, d := ⟨L2.toArray⟩ } rfl now HTv.out w7 H7.out)
          refine wpAnyH_ready (rs := [7]) (by kernel_rfl) (by simp) ?_
          refine AllReadyH.cons (o := _) rfl (fun K hK => ?_) AllReadyH.nil
          go_simp
          refine HV.out.mono ?_
          rintro e w8 hs
          obtain ⟨b, rfl, hs⟩ := hs
          have HS := Lib.hid hs
          clear hs
          have hs8 := HCz.out _ _ HS.out.2
          try dsimp only
          refine hK.out _ _ hs8 (fun hHeld => ?_)
          clear hK K
          try simp only [List.getElem_toArray, List.getElem_cons_succ, List.getElem_cons_zero, Act.put, List.setIfInBounds_toArray, List.set_cons_zero, List.set_cons_succ]
          refine wpAnyH_take (i := 8) (oi := _) (v := ?_) rfl (by kernel_rfl) (by kernel_rfl) (by kernel_rfl) (fun _ _ _ h => h) (Or.inl ⟨by rfl, ?_⟩) (by assumption) ?_
          rotate_left
          · intro w hSw
            (try dsimp only at hSw)
            first | (go_simp; done) | (go_simp; with_reducible rfl)
          try simp only [List.getElem_toArray, List.getElem_cons_succ, List.getElem_cons_zero, Act.put, List.setIfInBounds_toArray, List.set_cons_zero, List.set_cons_succ]
          refine wpAnyH_done (by kernel_rfl) ?_ _
          (try simp only [Exit.then])
          go_wp2
          go_ret
          exact Or.inr (Or.inr ⟨_, ⟨1, a7, 0, ⟨L2.toArray⟩, rfl, by omega, Ha7.out.1, by have := Ha7.out.2; omega, by omega, by omega, show L2.length ≤ 96 by have := Hn2.out; omega⟩, b, rfl, HS.out.1, HS.out.2.less HLx.out⟩)
        · have q2 : (T.K.ph == 2) = false := by rw [beq_eq_false_iff_ne]; exact p2
          clear p2
          have HLo := Lib.hid (HLg.out _ H6.out)
          go_wp2_with fail
          refine HLo.out.mono ?_
          rintro e w7 ⟨a7, rfl, ha1, ha2, hb⟩
          have H7 := Lib.hid (H6.out.below hb)
          have Ha7 := Lib.hid (And.intro ha1 ha2)
          clear hb ha1 ha2
          have HV := Lib.hid (cverb_any (S := T) { op := 3, at_ := a7, n := 8, d := ⟨#[]⟩ } rfl now HTv.out w7 H7.out)
          go_wp2_with (first | (refine HV.out.mono ?_; rintro e wz hs; obtain ⟨b, rfl, hs⟩ := hs; have HS := Lib.hid hs; clear hs))
          go_ret
          exact Or.inr (Or.inr ⟨_, ⟨3, a7, 8, ⟨#[]⟩, rfl, by omega, Ha7.out.1, by have := Ha7.out.2; omega, by omega, by omega, Nat.zero_le _⟩, b, rfl, HS.out⟩)
end
end Go.Proofs.YtiinponoeaihcaaGreat

/- A client: lose, resumes. -/
namespace Go.Proofs.YtiinponoeaihcaaGreat
open Go.RowKit Go.Shelf

attribute [local go_sem] Oper.semAt_some
section
variable {P : Program} {w : World} {H : Type}
theorem run_clear_mapK {r : Nat} {es : Array MapEntry} {clock : Nat} {mty kt et ty : TypeId} (hm : P.underlying mty = some (.map kt et)) (hb : w.heap[r]? = some (.map es clock)) : (Builtin.clear_ #[mty] ty #[.map (some r)]).run P w = .ok (.tuple #[]) (ChangeMaps.setBlock w r (.map #[] clock)) := by
  simp [Builtin.clear_, run_underlying hm, MapKept.run_getObj_map hb, MapKept.run_setObj_map _ hb, Result.andThen, ChangeMaps.setBlock]
/-- 'clear(m)' of a map that the call owns -/
theorem wpList_clear_ownK {ops : Array Oper} {rest : List Oper} {o : Oper} {a : Act} {Q : Exit → Act → World → Prop} (hg : o.guard = none) (m : Operand) (t k e : TypeId) (hop : o.op = Op.call { callee := Callee.builtin Builtin.clear, args := #[m], argTypes := #[t] })
    (ht : P.underlying t = some (.map k e)) (R : Value → Option (DataW H × List MemPlace)) (b n : Nat) (D : DataW H) (hm : a.eval m = .map (some b)) (hown : w.ownsMap P k R b n D)
    (hK : ∀ w', w'.ownsMap P k R b 0 (.map [] : DataW H) → w.mapTurned w' b → wpList P ops Q rest (a.put o.dst (.tuple #[])) w') : wpList P ops Q (o :: rest) a w := by
  refine wpList_plain hg fun K' hK' => ?_
  obtain ⟨es, clock, hb, -⟩ := hown
  have hrun := run_clear_mapK (P := P) (ty := o.type) ht hb
  unfold Oper.wp
  simp [execOp, hop, resolve, invoke, builtin, hm, hrun, Result.andThen]
  exact hK' _ _ (hK _ ⟨#[], clock, (MapKept.heap_set hb).1, ⟨by simp, MapKept.stamped_empty clock, by simp⟩, Nat.le_refl _, rfl⟩ ⟨es, clock, #[], clock, hb, rfl⟩)
end
def loseS (S : Cs) : Cs := { S with stale := true, hold := fun _ => none, K := resetW S.K }
section
variable {cb : Nat} {S : Cs} {w0 : World} {Ls : List (Nat × Obj)}
theorem Ck.anyK {w : World} {K : Wk} (h : Ck cb S w0 Ls w) (hk : S.wk = none) : Ck cb { S with K := K } w0 Ls w :=
  h.turn fun F hF => ⟨F, ⟨hF.obj, hF.f, hF.tight, hF.hold, hF.want, fun b hb => (by rw [show S.wk = some b from hb] at hk; cases hk), hF.mne⟩, Only.refl _ _, fun _ e => Or.inl e⟩
set_option maxHeartbeats 8000000 in
set_option maxRecDepth 100000 in
theorem close_lost {m : Nat} (hm : S.hm = some m) (w : World) (h : Ck cb S w0 Ls w) :
    Calls Tryz.prog 41 #[pC cb] w fun e w' => e = .returned (.tuple #[]) ∧ Ck cb (loseS S) w0 Ls w' := by
  have c5 : w.cell? ⟨cb, 5, none⟩ = some (.bool S.stale) := h.cell 5
  have f5 := h.fz 5
  have H := Lib.hid h
  have Hm := Lib.hid hm
  clear h hm
  go_enter Tryz.func41, Tryz.ntmps41
  go_upto_region 1 with fail
  obtain ⟨w1, hw⟩ : ∃ u, u = w.setCell ⟨cb, 5, none⟩ (.bool true) := ⟨_, rfl⟩
  rw [← hw]
  obtain ⟨T, hT⟩ : ∃ T : Cs, T = { S with stale := true } := ⟨_, rfl⟩
  have H1 : Hid (Ck cb T w0 Ls w1) := Lib.hid (by rw [hw, hT]; exact H.out.st rfl ⟨rfl, rfl, .inl rfl, rfl, rfl, rfl⟩)
  have HT := Lib.hid hT
  have HTm : Hid (T.hm = some m) := Lib.hid (by rw [hT]; exact Hm.out)
  clear hw c5 f5 hT H Hm
  have c16 : w1.cell? ⟨cb, 16, none⟩ = some (.map T.hm) := H1.out.cell 16
  rw [HTm.out] at c16
  obtain ⟨D, hD, -⟩ := H1.out.map HTm.out
  have HD := Lib.hid hD
  clear hD
  go_upto_region 2 with (refine wpList_clear_ownK rfl _ 56 3 96 rfl Tryz.underlying56 ptrE m _ D rfl HD.out ?_; intro w2 hown2 hturn2)
  obtain ⟨U, hU⟩ : ∃ U : Cs, U = { T with hold := fun _ => none } := ⟨_, rfl⟩
  have H2 : Hid (Ck cb U w0 Ls w2) := Lib.hid (by rw [hU]; exact H1.out.strike (n := T.hn) HTm.out (hown2.mono (Nat.zero_le _)) holdsD_nil hturn2 (fun i J hi => by cases hi) rfl)
  have hUT : U = { S with stale := true, hold := fun _ => none } := by rw [hU, HT.out]
  have HU := Lib.hid hUT
  clear hown2 hturn2 HD c16 H1 hU hUT HT HTm
  have c18 : w2.cell? ⟨cb, 18, none⟩ = some (ptrV U.wk) := H2.out.cell 18
  unfold ptrV at c18
  cases hk : U.wk with
  | none =>
    have HF : Hid (Ck cb (loseS S) w0 Ls w2) := Lib.hid (by
      have := H2.out.anyK (K := resetW S.K) hk
      rw [HU.out] at this
      exact this)
    rw [hk] at c18
    dsimp only [Option.map_none] at c18
    clear hk H2
    go_wp2_with fail
    go_end0
    exact ⟨rfl, HF.out⟩
  | some wb =>
    rw [hk] at c18
    dsimp only [Option.map_some] at c18
    have hb := H2.out.work (wb := wb) hk
    have d8 : w2.cell? ⟨wb, 8, none⟩ = some U.K.gv := cell_of_row w2 wb 8 _ _ _ hb
    have d9 : w2.cell? ⟨wb, 9, none⟩ = some (.bool U.K.rd) := cell_of_row w2 wb 9 _ _ _ hb
    have d10 : w2.cell? ⟨wb, 10, none⟩ = some (.int .i64 U.K.ph) := cell_of_row w2 wb 10 _ _ _ hb
    have g := fun i => frozen_of_row w2 wb i _ _ hb
    have hne : cb ≠ wb := lc_ne H2.out.obj hb (by decide)
    have HF : Hid (Ck cb (loseS S) w0 Ls ((((w2.setCell ⟨wb, 8, none⟩ (.slice none 0 0)).setCell ⟨wb, 9, none⟩ (.bool false)).setCell ⟨wb, 10, none⟩ (.int .i64 0)).drew)) := Lib.hid (by
      have := (H2.out.reset (wb := wb) hk).drew
      rw [HU.out] at this
      exact this)
    clear hb hk
    go_upto_region 3 with fail
    have hs0 : w2.drew.cell? ⟨cb, 18, none⟩ = some (.pointer (some ⟨wb, 0, none⟩)) := c18
    have hs1 : (w2.drew.setCell ⟨wb, 8, none⟩ (.slice none 0 0)).cell? ⟨cb, 18, none⟩ = some (.pointer (some ⟨wb, 0, none⟩)) := (World.cell?_of_block (Go.heap_setCell_other _ ⟨wb, 8, none⟩ cb _ hne)).trans hs0
    have hs2 : ((w2.drew.setCell ⟨wb, 8, none⟩ (.slice none 0 0)).setCell ⟨wb, 9, none⟩ (.bool false)).cell? ⟨cb, 18, none⟩ = some (.pointer (some ⟨wb, 0, none⟩)) := (World.cell?_of_block (Go.heap_setCell_other _ ⟨wb, 9, none⟩ cb _ hne)).trans hs1
    have hs3 : (((w2.drew.setCell ⟨wb, 8, none⟩ (.slice none 0 0)).setCell ⟨wb, 9, none⟩ (.bool false)).setCell ⟨wb, 10, none⟩ (.int .i64 0)).cell? ⟨cb, 18, none⟩ = some (.pointer (some ⟨wb, 0, none⟩)) := (World.cell?_of_block (Go.heap_setCell_other _ ⟨wb, 10, none⟩ cb _ hne)).trans hs2
    clear hne
    refine wp_region_held_drew (S := (fun W => W.cell? ⟨cb, 18, none⟩ = some (.pointer (some ⟨wb, 0, none⟩)))) (by kernel_rfl) ?_ (fun hHeld => ?_)
    · exact hs0
    refine wpAnyH_take (i := 0) (oi := _) (v := ?_) rfl (by kernel_rfl) (by kernel_rfl) (by kernel_rfl) (fun _ _ _ h => h) (Or.inl ⟨by rfl, ?_⟩) (by assumption) ?_
    rotate_left
    · intro w hSw
      (try dsimp only at hSw)
      first | (go_simp; done) | (go_simp; with_reducible rfl)
    try simp only [List.getElem_toArray, List.getElem_cons_succ, List.getElem_cons_zero, Act.put, List.setIfInBounds_toArray, List.set_cons_zero, List.set_cons_succ]
    refine wpAnyH_take (i := 1) (oi := _) (v := ?_) rfl (by kernel_rfl) (by kernel_rfl) (by kernel_rfl) (fun _ _ _ h => h) (Or.inl ⟨by rfl, ?_⟩) (by assumption) ?_
    rotate_left
    · intro w hSw
      (try dsimp only at hSw)
      first | (go_simp; done) | (go_simp; with_reducible rfl)
    try simp only [List.getElem_toArray, List.getElem_cons_succ, List.getElem_cons_zero, Act.put, List.setIfInBounds_toArray, List.set_cons_zero, List.set_cons_succ]
    refine wpAnyH_take (i := 2) (oi := _) (v := ?_) rfl (by kernel_rfl) (by kernel_rfl) (by kernel_rfl) (fun _ _ _ h => h) (Or.inl ⟨by rfl, ?_⟩) (by assumption) ?_
    rotate_left
    · intro w hSw
      (try dsimp only at hSw)
      first | (go_simp; done) | (go_simp; with_reducible rfl)
    try simp only [List.getElem_toArray, List.getElem_cons_succ, List.getElem_cons_zero, Act.put, List.setIfInBounds_toArray, List.set_cons_zero, List.set_cons_succ]
    refine wpAnyH_take (i := 3) (oi := _) (v := ?_) rfl (by kernel_rfl) (by kernel_rfl) (by kernel_rfl) (fun _ _ _ h => h) (Or.inl ⟨by rfl, ?_⟩) (by assumption) ?_
    rotate_left
    · intro w hSw
      (try dsimp only at hSw)
      first | (go_simp; done) | (go_simp; with_reducible rfl)
    try simp only [List.getElem_toArray, List.getElem_cons_succ, List.getElem_cons_zero, Act.put, List.setIfInBounds_toArray, List.set_cons_zero, List.set_cons_succ]
    refine wpAnyH_take (i := 4) (oi := _) (v := ?_) rfl (by kernel_rfl) (by kernel_rfl) (by kernel_rfl) (fun _ _ _ h => h) (Or.inl ⟨by rfl, ?_⟩) (by assumption) ?_
    rotate_left
    · intro w hSw
      (try dsimp only at hSw)
      first | (go_simp; done) | (go_simp; with_reducible rfl)
    try simp only [List.getElem_toArray, List.getElem_cons_succ, List.getElem_cons_zero, Act.put, List.setIfInBounds_toArray, List.set_cons_zero, List.set_cons_succ]
    refine wpAnyH_take (i := 5) (oi := _) (v := ?_) rfl (by kernel_rfl) (by kernel_rfl) (by kernel_rfl) (fun _ _ _ h => h) (Or.inl ⟨by rfl, ?_⟩) (by assumption) ?_
    rotate_left
    · intro w hSw
      (try dsimp only at hSw)
      first | (go_simp; done) | (go_simp; with_reducible rfl)
    try simp only [List.getElem_toArray, List.getElem_cons_succ, List.getElem_cons_zero, Act.put, List.setIfInBounds_toArray, List.set_cons_zero, List.set_cons_succ]
    refine wpAnyH_take (i := 6) (oi := _) (v := ?_) rfl (by kernel_rfl) (by kernel_rfl) (by kernel_rfl) (fun _ _ _ h => h) (Or.inl ⟨by rfl, ?_⟩) (by assumption) ?_
    rotate_left
    · intro w hSw
      (try dsimp only at hSw)
      first | (go_simp; done) | (go_simp; with_reducible rfl)
    try simp only [List.getElem_toArray, List.getElem_cons_succ, List.getElem_cons_zero, Act.put, List.setIfInBounds_toArray, List.set_cons_zero, List.set_cons_succ]
    refine wpAnyH_take (i := 7) (oi := _) (v := ?_) rfl (by kernel_rfl) (by kernel_rfl) (by kernel_rfl) (fun _ _ _ h => h) (Or.inl ⟨by rfl, ?_⟩) (by assumption) ?_
    rotate_left
    · intro w hSw
      (try dsimp only at hSw)
      first | (go_simp; done) | (go_simp; with_reducible rfl)
    try simp only [List.getElem_toArray, List.getElem_cons_succ, List.getElem_cons_zero, Act.put, List.setIfInBounds_toArray, List.set_cons_zero, List.set_cons_succ]
    refine wpAnyH_take (i := 8) (oi := _) (v := ?_) rfl (by kernel_rfl) (by kernel_rfl) (by kernel_rfl) (fun _ _ _ h => h) (Or.inl ⟨by rfl, ?_⟩) (by assumption) ?_
    rotate_left
    · intro w hSw
      (try dsimp only at hSw)
      first | (go_simp; done) | (go_simp; with_reducible rfl)
    try simp only [List.getElem_toArray, List.getElem_cons_succ, List.getElem_cons_zero, Act.put, List.setIfInBounds_toArray, List.set_cons_zero, List.set_cons_succ]
    refine wpAnyH_take (i := 9) (oi := _) (v := ?_) rfl (by kernel_rfl) (by kernel_rfl) (by kernel_rfl) (fun _ _ _ h => h) (Or.inl ⟨by rfl, ?_⟩) (by assumption) ?_
    rotate_left
    · intro w hSw
      (try dsimp only at hSw)
      first | (go_simp; done) | (go_simp; with_reducible rfl)
    try simp only [List.getElem_toArray, List.getElem_cons_succ, List.getElem_cons_zero, Act.put, List.setIfInBounds_toArray, List.set_cons_zero, List.set_cons_succ]
    refine wpAnyH_take (i := 10) (oi := _) (v := ?_) rfl (by kernel_rfl) (by kernel_rfl) (by kernel_rfl) (fun _ _ _ h => h) (Or.inl ⟨by rfl, ?_⟩) (by assumption) ?_
    rotate_left
    · intro w hSw
      (try dsimp only at hSw)
      first | (go_simp; done) | (go_simp; with_reducible rfl)
    try simp only [List.getElem_toArray, List.getElem_cons_succ, List.getElem_cons_zero, Act.put, List.setIfInBounds_toArray, List.set_cons_zero, List.set_cons_succ]
    refine wpAnyH_take (i := 11) (oi := _) (v := ?_) rfl (by kernel_rfl) (by kernel_rfl) (by kernel_rfl) (fun _ _ _ h => h) (Or.inl ⟨by rfl, ?_⟩) (by assumption) ?_
    rotate_left
    · intro w hSw
      (try dsimp only at hSw)
      first | (go_simp; done) | (go_simp; with_reducible rfl)
    try simp only [List.getElem_toArray, List.getElem_cons_succ, List.getElem_cons_zero, Act.put, List.setIfInBounds_toArray, List.set_cons_zero, List.set_cons_succ]
    refine wpAnyH_take (i := 12) (oi := _) (v := ?_) rfl (by kernel_rfl) (by kernel_rfl) (by kernel_rfl) (fun _ _ _ h => h) (Or.inl ⟨by rfl, ?_⟩) (by assumption) ?_
    rotate_left
    · intro w hSw
      (try dsimp only at hSw)
      first | (go_simp; done) | (go_simp; with_reducible rfl)
    try simp only [List.getElem_toArray, List.getElem_cons_succ, List.getElem_cons_zero, Act.put, List.setIfInBounds_toArray, List.set_cons_zero, List.set_cons_succ]
    refine wpAnyH_take (i := 13) (oi := _) (v := ?_) rfl (by kernel_rfl) (by kernel_rfl) (by kernel_rfl) (fun _ _ _ h => h) (Or.inl ⟨by rfl, ?_⟩) (by assumption) ?_
    rotate_left
    · intro w hSw
      (try dsimp only at hSw)
      first | (go_simp; done) | (go_simp; with_reducible rfl)
    try simp only [List.getElem_toArray, List.getElem_cons_succ, List.getElem_cons_zero, Act.put, List.setIfInBounds_toArray, List.set_cons_zero, List.set_cons_succ]
    refine wpAnyH_take (i := 14) (oi := _) (v := ?_) rfl (by kernel_rfl) (by kernel_rfl) (by kernel_rfl) (fun _ _ _ h => h) (Or.inl ⟨by rfl, ?_⟩) (by assumption) ?_
    rotate_left
    · intro w hSw
      (try dsimp only at hSw)
      first | (go_simp; done) | (go_simp; with_reducible rfl)
    try simp only [List.getElem_toArray, List.getElem_cons_succ, List.getElem_cons_zero, Act.put, List.setIfInBounds_toArray, List.set_cons_zero, List.set_cons_succ]
    refine wpAnyH_take (i := 15) (oi := _) (v := ?_) rfl (by kernel_rfl) (by kernel_rfl) (by kernel_rfl) (fun _ _ _ h => h) (Or.inl ⟨by rfl, ?_⟩) (by assumption) ?_
    rotate_left
    · intro w hSw
      (try dsimp only at hSw)
      first | (go_simp; done) | (go_simp; with_reducible rfl)
    try simp only [List.getElem_toArray, List.getElem_cons_succ, List.getElem_cons_zero, Act.put, List.setIfInBounds_toArray, List.set_cons_zero, List.set_cons_succ]
    refine wpAnyH_take (i := 16) (oi := _) (v := ?_) rfl (by kernel_rfl) (by kernel_rfl) (by kernel_rfl) (fun _ _ _ h => h) (Or.inl ⟨by rfl, ?_⟩) (by assumption) ?_
    rotate_left
    · intro w hSw
      (try dsimp only at hSw)
      first | (go_simp; done) | (go_simp; with_reducible rfl)
    try simp only [List.getElem_toArray, List.getElem_cons_succ, List.getElem_cons_zero, Act.put, List.setIfInBounds_toArray, List.set_cons_zero, List.set_cons_succ]
    refine wpAnyH_ready (rs := [17]) (by kernel_rfl) (by simp) ?_
    refine AllReadyH.cons (o := _) rfl (fun K hK => ?_) AllReadyH.nil
    go_simp
    try dsimp only
    refine hK.out _ _ hs1 (fun hHeld => ?_)
    clear hK K
    try simp only [List.getElem_toArray, List.getElem_cons_succ, List.getElem_cons_zero, Act.put, List.setIfInBounds_toArray, List.set_cons_zero, List.set_cons_succ]
    refine wpAnyH_take (i := 18) (oi := _) (v := ?_) rfl (by kernel_rfl) (by kernel_rfl) (by kernel_rfl) (fun _ _ _ h => h) (Or.inl ⟨by rfl, ?_⟩) (by assumption) ?_
    rotate_left
    · intro w hSw
      (try dsimp only at hSw)
      first | (go_simp; done) | (go_simp; with_reducible rfl)
    try simp only [List.getElem_toArray, List.getElem_cons_succ, List.getElem_cons_zero, Act.put, List.setIfInBounds_toArray, List.set_cons_zero, List.set_cons_succ]
    refine wpAnyH_take (i := 19) (oi := _) (v := ?_) rfl (by kernel_rfl) (by kernel_rfl) (by kernel_rfl) (fun _ _ _ h => h) (Or.inl ⟨by rfl, ?_⟩) (by assumption) ?_
    rotate_left
    · intro w hSw
      (try dsimp only at hSw)
      first | (go_simp; done) | (go_simp; with_reducible rfl)
    try simp only [List.getElem_toArray, List.getElem_cons_succ, List.getElem_cons_zero, Act.put, List.setIfInBounds_toArray, List.set_cons_zero, List.set_cons_succ]
    refine wpAnyH_ready (rs := [20]) (by kernel_rfl) (by simp) ?_
    refine AllReadyH.cons (o := _) rfl (fun K hK => ?_) AllReadyH.nil
    go_simp
    try dsimp only
    refine hK.out _ _ hs2 (fun hHeld => ?_)
    clear hK K
    try simp only [List.getElem_toArray, List.getElem_cons_succ, List.getElem_cons_zero, Act.put, List.setIfInBounds_toArray, List.set_cons_zero, List.set_cons_succ]
    refine wpAnyH_take (i := 21) (oi := _) (v := ?_) rfl (by kernel_rfl) (by kernel_rfl) (by kernel_rfl) (fun _ _ _ h => h) (Or.inl ⟨by rfl, ?_⟩) (by assumption) ?_
    rotate_left
    · intro w hSw
      (try dsimp only at hSw)
      first | (go_simp; done) | (go_simp; with_reducible rfl)
    try simp only [List.getElem_toArray, List.getElem_cons_succ, List.getElem_cons_zero, Act.put, List.setIfInBounds_toArray, List.set_cons_zero, List.set_cons_succ]
    refine wpAnyH_take (i := 22) (oi := _) (v := ?_) rfl (by kernel_rfl) (by kernel_rfl) (by kernel_rfl) (fun _ _ _ h => h) (Or.inl ⟨by rfl, ?_⟩) (by assumption) ?_
    rotate_left
    · intro w hSw
      (try dsimp only at hSw)
      first | (go_simp; done) | (go_simp; with_reducible rfl)
    try simp only [List.getElem_toArray, List.getElem_cons_succ, List.getElem_cons_zero, Act.put, List.setIfInBounds_toArray, List.set_cons_zero, List.set_cons_succ]
    refine wpAnyH_ready (rs := [23]) (by kernel_rfl) (by simp) ?_
    refine AllReadyH.cons (o := _) rfl (fun K hK => ?_) AllReadyH.nil
    go_simp
    try dsimp only
    refine hK.out _ _ hs3 (fun hHeld => ?_)
    clear hK K
    try simp only [List.getElem_toArray, List.getElem_cons_succ, List.getElem_cons_zero, Act.put, List.setIfInBounds_toArray, List.set_cons_zero, List.set_cons_succ]
    refine wpAnyH_done (by kernel_rfl) ?_ _
    (try simp only [Exit.then])
    clear hs0 hs1 hs2 hs3 c18 d8 d9 d10 g H2
    go_wp2
    go_end0
    exact ⟨rfl, HF.out⟩
set_option maxHeartbeats 8000000 in
set_option maxRecDepth 100000 in
theorem cresumes_any (p : Pk) (w : World) (h : Ck cb S w0 Ls w) :
    Calls Tryz.prog 44 #[pC cb, .agg (pkC p)] w fun e w' => e = .returned (.tuple #[]) ∧ (Ck cb (anewS S p.at_) w0 Ls w' ∨ Ck cb (failS (anewS S p.at_) 0) w0 Ls w') := by
  have H := Lib.hid h
  clear h
  go_enter Tryz.func44, Tryz.ntmps44
  go_upto_region 1 with fail
  obtain ⟨w1, hw⟩ : ∃ u, u = w.alloc (.cells (pkC p) 41) := ⟨_, rfl⟩
  obtain ⟨n0, hn⟩ : ∃ u, u = w.heap.size := ⟨_, rfl⟩
  rw [← hw, ← hn]
  have H1 : Hid (Ck cb S w0 ((n0, .cells (pkC p) 41 (0, 0)) :: Ls) w1) := Lib.hid (by rw [hw, hn]; exact H.out.box _ _)
  have d5 : w1.cell? ⟨n0, 5, none⟩ = some (.int .i64 p.at_) := cell_of_row w1 n0 5 _ _ _ (H1.out.get (k := n0) List.mem_cons_self)
  have HAn := Lib.hid (canew_any p.at_ w1 H1.out)
  clear hw hn H H1
  go_upto_region 2 with ((with_reducible refine HAn.out.mono ?_); rintro e w2 ⟨rfl, h2⟩; have H2 := Lib.hid h2; clear h2)
  obtain ⟨T, hT⟩ : ∃ T : Cs, T = anewS S p.at_ := ⟨_, rfl⟩
  have H3 : Hid (Ck cb T w0 ((n0, .cells (pkC p) 41 (0, 0)) :: Ls) w2) := Lib.hid (by rw [hT]; exact H2.out)
  have HT := Lib.hid hT
  have HF := Lib.hid fun W (hW : Ck cb T w0 Ls W) => cfails_any 0 W hW
  clear H2 hT HAn d5
  have d27 : w2.cell? ⟨n0, 27, none⟩ = some (.int .i64 p.wr) := cell_of_row w2 n0 27 _ _ _ (H3.out.get (k := n0) List.mem_cons_self)
  have c18 : w2.cell? ⟨cb, 18, none⟩ = some (ptrV T.wk) := H3.out.cell 18
  unfold ptrV at c18
  have c19 : w2.cell? ⟨cb, 19, none⟩ = some (.int .i64 T.id) := H3.out.cell 19
  cases hk : T.wk with
  | none =>
    rw [hk] at c18
    dsimp only [Option.map_none] at c18
    clear hk
    go_wp2
    go_quiet (fail)
    go_wp2
    refine bodyPost_ret (results_none rfl _ _ _) rfl ?_
    exact ⟨rfl, Or.inl (by rw [← HT.out]; exact (H3.out.tl rfl).drewN _)⟩
  | some wb =>
    rw [hk] at c18
    dsimp only [Option.map_some] at c18
    have Hk := Lib.hid hk
    clear hk
    by_cases hz : T.id = 0
    · rw [hz] at c19
      clear hz
      go_wp2
      go_quiet (fail)
      go_wp2
      refine bodyPost_ret (results_none rfl _ _ _) rfl ?_
      exact ⟨rfl, Or.inl (by rw [← HT.out]; exact (H3.out.tl rfl).drewN _)⟩
    · have hz2 : (T.id == 0) = false := by rw [beq_eq_false_iff_ne]; exact hz
      clear hz
      by_cases hq : p.wr = T.id
      · have hq2 : (p.wr != T.id) = false := by rw [hq]; simp
        clear hq
        go_wp2
        go_quiet (fail)
        obtain ⟨w3, hw3⟩ : ∃ u, u = w2.drewN nq := ⟨_, rfl⟩
        rw [← hw3]
        have H4 : Hid (Ck cb T w0 Ls w3) := Lib.hid (by rw [hw3]; exact (H3.out.tl rfl).drewN _)
        clear hw3 d27 c18 c19 H3
        have c18 : w3.cell? ⟨cb, 18, none⟩ = some (ptrV T.wk) := H4.out.cell 18
        unfold ptrV at c18
        rw [Hk.out] at c18
        dsimp only [Option.map_some] at c18
        have d0 : w3.cell? ⟨wb, 0, none⟩ = some (.int .i64 T.K.kd) := cell_of_row w3 wb 0 _ _ _ (H4.out.work (wb := wb) Hk.out)
        by_cases k4 : T.K.kd = 4 ∨ T.K.kd = 5
        · have HFw := Lib.hid (HF.out w3 H4.out)
          by_cases k44 : T.K.kd = 4
          · rw [k44] at d0
            clear k4 k44
            go_wp2_with ((with_reducible refine HFw.out.mono ?_); rintro e w4 ⟨rfl, h5⟩; have H5 := Lib.hid h5; clear h5)
            go_end0
            exact ⟨rfl, Or.inr (by rw [← HT.out]; exact H5.out)⟩
          · have k5 : T.K.kd = 5 := k4.resolve_left k44
            rw [k5] at d0
            clear k4 k44 k5
            go_wp2_with ((with_reducible refine HFw.out.mono ?_); rintro e w4 ⟨rfl, h5⟩; have H5 := Lib.hid h5; clear h5)
            go_end0
            exact ⟨rfl, Or.inr (by rw [← HT.out]; exact H5.out)⟩
        · have k44 : (T.K.kd == 4) = false := by rw [beq_eq_false_iff_ne]; omega
          have k55 : (T.K.kd == 5) = false := by rw [beq_eq_false_iff_ne]; omega
          clear k4
          go_wp2_with fail
          go_end0
          exact ⟨rfl, Or.inl (by rw [← HT.out]; exact H4.out)⟩
      · have hq2 : (p.wr != T.id) = true := by simpa using hq
        clear hq
        go_wp2
        go_quiet (fail)
        go_wp2
        refine bodyPost_ret (results_none rfl _ _ _) rfl ?_
        exact ⟨rfl, Or.inl (by rw [← HT.out]; exact (H3.out.tl rfl).drewN _)⟩
end
end Go.Proofs.YtiinponoeaihcaaGreat
