/- A client: next. -/
import Derived.Test.YtiinponoeaihcaaGreatU15
set_option linter.unusedVariables false
set_option linter.unusedSimpArgs false
set_option linter.unusedSectionVars false
namespace Go.Proofs.YtiinponoeaihcaaGreat
open Go.RowKit Go.Shelf

attribute [local go_sem] Oper.semAt_some
abbrev idOf (S : Cs) : Int := S.life * 1048576 + (S.cnt + 1)
def setHd (S : Cs) (hold : Int → Option Hd) : Cs := { S with hold := hold }
/-- what is sent next, and by which state -/
def NextP (S T : Cs) (p : Pk) : Prop :=
  (S.ep = 0 ∧ T = numS S ∧ p = callP 20 (idOf S) 0 0 ⟨#[]⟩ ⟨#[]⟩ 0 0 0 0 ⟨#[]⟩) ∨
  (S.ep ≠ 0 ∧ S.stale = true ∧ T = numS S ∧ p = callP 21 (idOf S) 0 0 ⟨#[]⟩ ⟨#[]⟩ 0 0 0 0 ⟨#[]⟩) ∨
  (S.ep ≠ 0 ∧ S.wk ≠ none ∧ S.K.kd ≠ 2 ∧ S.K.kd ≠ 3 ∧ S.K.kd ≠ 4 ∧ S.K.kd ≠ 5 ∧ T = ownS S ∧ ∃ p2 fl, NamesP S.K p2 fl ∧ p = callP S.K.kd (ownS S).id 0 0 S.K.p1 p2 fl 0 0 0 ⟨#[]⟩) ∨
  (S.ep ≠ 0 ∧ S.wk ≠ none ∧ S.K.kd = 2 ∧ ∃ (hold : Int → Option Hd) (k : Nat), k < 8 ∧ Fewer S hold ∧ T = ownS (setHd S hold) ∧ p = callP 2 (ownS (setHd S hold)).id (S.f k) 0 ⟨#[]⟩ ⟨#[]⟩ 0 0 0 0 ⟨#[]⟩) ∨
  (S.ep ≠ 0 ∧ S.wk ≠ none ∧ (S.K.kd = 3 ∨ S.K.kd = 4 ∨ S.K.kd = 5) ∧ ∃ own, T = leaseS S (inoF S.f S.K.fd) ∧ p = leaseP S (inoF S.f S.K.fd) own) ∨
  (S.ep ≠ 0 ∧ S.wk ≠ none ∧ S.K.kd = 3 ∧ T = S ∧ ∃ a n, 0 ≤ a ∧ a ≤ 30000 ∧ (n = 64 ∨ n = 8) ∧ p = getP S a n) ∨
  (S.ep ≠ 0 ∧ S.wk ≠ none ∧ (S.K.kd = 4 ∨ S.K.kd = 5) ∧ T = numS (ownS S) ∧ p = cleanP (ownS S)) ∨
  (S.ep ≠ 0 ∧ S.wk ≠ none ∧ (S.K.kd = 4 ∨ S.K.kd = 5) ∧ T = ownS S ∧ WriteP (ownS S) p)
theorem bdic : ∀ b : Bool, b = false ∨ b = true
  | false => Or.inl rfl
  | true => Or.inr rfl
section
variable {cb : Nat} {S : Cs} {w0 : World} {Ls : List (Nat × Obj)}
set_option maxHeartbeats 8000000 in
set_option maxRecDepth 100000 in
theorem cnext_any {N : Nat} (hB : Bd N S) (hN : N ≤ 8000) (hrec : S.wk ≠ none → (recW S).d.length ≤ 1000) (now : Int) (w : World) (h : Ck cb S w0 Ls w) :
    Calls Tryz.prog 15 #[pC cb, .int .i64 now] w fun e w' => (e = .returned (.slice none 0 0) ∧ Ck cb S w0 Ls w') ∨ ∃ T p, S.up = true ∧ S.waits = false ∧ NextP S T p ∧ Sends cb T p now w0 Ls e w' := by
  obtain ⟨m, hm⟩ := hB.hm
  obtain ⟨m2, hm2⟩ := hB.wm
  have HBd := Lib.hid hB
  have HN := Lib.hid hN
  have Hm := Lib.hid hm
  have Hrec := Lib.hid hrec
  have Hm2 := Lib.hid hm2
  have H := Lib.hid h
  have c1 : w.cell? ⟨cb, 1, none⟩ = some (.bool S.up) := h.cell 1
  have c4 : w.cell? ⟨cb, 4, none⟩ = some (.int .i64 S.ep) := h.cell 4
  have c5 : w.cell? ⟨cb, 5, none⟩ = some (.bool S.stale) := h.cell 5
  have c18 : w.cell? ⟨cb, 18, none⟩ = some (ptrV S.wk) := h.cell 18
  have c63 : w.cell? ⟨cb, 63, none⟩ = some (.bool S.waits) := h.cell 63
  have c66 : w.cell? ⟨cb, 66, none⟩ = some (.int .i64 S.pause) := h.cell 66
  clear h hB hN hm hm2 hrec
  go_enter Tryz.func15, Tryz.ntmps15
  rcases bdic S.up with hu | hu
  ·
    rw [hu] at c1
    clear hu
    go_wp2_with fail
    go_ret
    exact Or.inl ⟨rfl, H.out⟩
  ·
    rw [hu] at c1
    have Hu := Lib.hid hu
    clear hu
    rcases (bdic S.waits).symm with hw | hw
    ·
      rw [hw] at c63
      clear hw
      go_wp2_with fail
      go_ret
      exact Or.inl ⟨rfl, H.out⟩
    ·
      rw [hw] at c63
      have Hw := Lib.hid hw
      clear hw
      by_cases hpz : now < S.pause
      · go_wp2_with fail
        go_ret
        exact Or.inl ⟨rfl, H.out⟩
      by_cases hep : S.ep = 0
      · have q0 : (S.ep == 0) = true := by rw [beq_iff_eq]; exact hep
        have HE := Lib.hid hep
        clear hep
        have HNu := Lib.hid (number_any (S := S) HBd.out.life ⟨HBd.out.cnt.1, by have := HBd.out.cnt.2; have := HN.out; omega⟩ w H.out)
        go_wp2_with (first | ((with_reducible refine HNu.out.mono ?_); rintro e w2 ⟨rfl, h2⟩; have HAs := Lib.hid (cask_any (S := numS S) 20 (idOf S) 0 0 ⟨#[]⟩ ⟨#[]⟩ 0 0 0 0 ⟨#[]⟩ now w2 h2); clear h2) | ((with_reducible refine HAs.out.mono ?_); rintro e w3 ⟨b, rfl, h3, h4⟩; have H3 := Lib.hid h3; have H4 := Lib.hid h4; clear h3 h4))
        go_ret
        exact Or.inr ⟨_, _, Hu.out, Hw.out, Or.inl ⟨HE.out, rfl, rfl⟩, b, rfl, H3.out, H4.out⟩
      have q0 : (S.ep == 0) = false := by rw [beq_eq_false_iff_ne]; exact hep
      have HE := Lib.hid hep
      clear hep
      rcases (bdic S.stale).symm with hst | hst
      ·
        rw [hst] at c5
        have HSt := Lib.hid hst
        clear hst
        have HNu := Lib.hid (number_any (S := S) HBd.out.life ⟨HBd.out.cnt.1, by have := HBd.out.cnt.2; have := HN.out; omega⟩ w H.out)
        go_wp2_with (first | ((with_reducible refine HNu.out.mono ?_); rintro e w2 ⟨rfl, h2⟩; have HAs := Lib.hid (cask_any (S := numS S) 21 (idOf S) 0 0 ⟨#[]⟩ ⟨#[]⟩ 0 0 0 0 ⟨#[]⟩ now w2 h2); clear h2) | ((with_reducible refine HAs.out.mono ?_); rintro e w3 ⟨b, rfl, h3, h4⟩; have H3 := Lib.hid h3; have H4 := Lib.hid h4; clear h3 h4))
        go_ret
        exact Or.inr ⟨_, _, Hu.out, Hw.out, Or.inr (Or.inl ⟨HE.out, HSt.out, rfl, rfl⟩), b, rfl, H3.out, H4.out⟩
      ·
        rw [hst] at c5
        clear hst
        unfold ptrV at c18
        cases hk : S.wk with
        | none =>
          rw [hk] at c18
          clear hk
          dsimp only [Option.map_none] at c18
          have HG := Lib.hid (cgive_any Hm2.out now w H.out)
          go_wp2_with ((with_reducible refine HG.out.mono ?_); rintro e w2 ⟨rfl, h2⟩; have H2 := Lib.hid h2; clear h2)
          go_ret
          exact Or.inl ⟨rfl, H2.out⟩
        | some wb =>
          rw [hk] at c18
          dsimp only [Option.map_some] at c18
          have Hk := Lib.hid hk
          have HOk := Lib.hid (HBd.out.ok (by rw [hk]; simp) HE.out)
          have Hne : Hid (S.wk ≠ none) := Lib.hid (by rw [hk]; simp)
          clear hk
          have d0 : w.cell? ⟨wb, 0, none⟩ = some (.int .i64 S.K.kd) := cell_of_row w wb 0 _ _ _ (H.out.work Hk.out)
          by_cases hk2 : S.K.kd = 2
          · have r2 : (S.K.kd == 2) = true := by rw [beq_iff_eq]; assumption
            have hfd : ∃ k : Nat, S.K.fd = k ∧ k < 8 := by
              rcases HOk.out with ⟨e, _⟩ | ⟨e, _⟩ | ⟨e, _⟩ | ⟨e, _⟩
              · omega
              · omega
              · omega
              · unfold inoF at e
                split at e
                · next he => exact ⟨S.K.fd.toNat, by omega, by omega⟩
                · exact absurd rfl e
            obtain ⟨k, hf1, hf2⟩ := hfd
            have HC := Lib.hid (cclose_any Hk.out Hm.out hf1 hf2 (small_I64 (by have := HBd.out.f k; omega)) HBd.out.life ⟨HBd.out.cnt.1, by have := HBd.out.cnt.2; have := HN.out; omega⟩ now w H.out)
            have H8 := Lib.hid hf2
            have H2 := Lib.hid hk2
            clear hf1 hf2 hk2
            go_wp2_with ((with_reducible refine HC.out.mono ?_); rintro e w2 ⟨hold, h1, b, rfl, h3, h4⟩; have H1 := Lib.hid h1; have H3 := Lib.hid h3; have H4 := Lib.hid h4; clear h1 h3 h4)
            go_ret
            exact Or.inr ⟨_, _, Hu.out, Hw.out, Or.inr (Or.inr (Or.inr (Or.inl ⟨HE.out, Hne.out, H2.out, hold, k, H8.out, H1.out, rfl, rfl⟩))), b, rfl, H3.out, H4.out⟩
          by_cases hk3 : S.K.kd = 3
          · have r2 : (S.K.kd == 2) = false := by rw [beq_eq_false_iff_ne]; assumption
            have r3 : (S.K.kd == 3) = true := by rw [beq_iff_eq]; assumption
            have HC := Lib.hid (cread_any Hk.out Hm.out _ rfl (small_I64 (by have := HBd.out.ino S.K.fd; omega)) HBd.out.fd HBd.out.life ⟨HBd.out.cnt.1, by have := HBd.out.cnt.2; have := HN.out; omega⟩ ⟨HBd.out.vs.1, by have := HBd.out.vs.2; have := HN.out; omega⟩ now w H.out)
            have H2 := Lib.hid hk3
            clear hk2 hk3
            go_wp2_with ((with_reducible refine HC.out.mono ?_); rintro e w2 (⟨b, rfl, h3, h4⟩ | ⟨a, n, g1, g2, g3, b, rfl, h3, h4⟩))
            · have H3 := Lib.hid h3
              have H4 := Lib.hid h4
              clear h3 h4
              go_ret
              exact Or.inr ⟨_, _, Hu.out, Hw.out, Or.inr (Or.inr (Or.inr (Or.inr (Or.inl ⟨HE.out, Hne.out, Or.inl H2.out, false, rfl, rfl⟩)))), b, rfl, H3.out, H4.out⟩
            · have H3 := Lib.hid h3
              have H4 := Lib.hid h4
              have Hg := Lib.hid (And.intro g1 (And.intro g2 g3))
              clear h3 h4 g1 g2 g3
              go_ret
              exact Or.inr ⟨_, _, Hu.out, Hw.out, Or.inr (Or.inr (Or.inr (Or.inr (Or.inr (Or.inl ⟨HE.out, Hne.out, H2.out, rfl, a, n, Hg.out.1, Hg.out.2.1, Hg.out.2.2, rfl⟩))))), b, rfl, H3.out, H4.out⟩
          by_cases hk4 : S.K.kd = 4 ∨ S.K.kd = 5
          · have r2 : (S.K.kd == 2) = false := by rw [beq_eq_false_iff_ne]; assumption
            have r3 : (S.K.kd == 3) = false := by rw [beq_eq_false_iff_ne]; assumption
            have HC := Lib.hid (cwrite_any Hk.out Hm.out _ rfl (small_I64 (by have := HBd.out.ino S.K.fd; omega)) HBd.out.fd HBd.out.life ⟨HBd.out.cnt.1, by have := HBd.out.cnt.2; have := HN.out; omega⟩ ⟨HBd.out.vs.1, by have := HBd.out.vs.2; have := HN.out; omega⟩ HBd.out.ep ⟨HBd.out.tail.1, by have := HBd.out.tail.2; have := HN.out; omega⟩ (Hrec.out Hne.out) now w H.out)
            have H2 := Lib.hid hk4
            have hkk : (S.K.kd == 4) = true ∨ ((S.K.kd == 4) = false ∧ (S.K.kd == 5) = true) := by
              rcases hk4 with e | e <;> rw [e]
              · exact Or.inl rfl
              · exact Or.inr ⟨rfl, rfl⟩
            clear hk2 hk3 hk4
            rcases hkk with r4 | ⟨r4, r5⟩
            · go_wp2_with ((with_reducible refine HC.out.mono ?_); rintro e w2 (⟨b, rfl, h3, h4⟩ | ⟨b, rfl, h3, h4⟩ | ⟨p, g1, b, rfl, h3, h4⟩))
              · have H3 := Lib.hid h3
                have H4 := Lib.hid h4
                clear h3 h4
                go_ret
                exact Or.inr ⟨_, _, Hu.out, Hw.out, Or.inr (Or.inr (Or.inr (Or.inr (Or.inl ⟨HE.out, Hne.out, Or.inr H2.out, true, rfl, rfl⟩)))), b, rfl, H3.out, H4.out⟩
              · have H3 := Lib.hid h3
                have H4 := Lib.hid h4
                clear h3 h4
                go_ret
                exact Or.inr ⟨_, _, Hu.out, Hw.out, Or.inr (Or.inr (Or.inr (Or.inr (Or.inr (Or.inr (Or.inl ⟨HE.out, Hne.out, H2.out, rfl, rfl⟩)))))), b, rfl, H3.out, H4.out⟩
              · have H3 := Lib.hid h3
                have H4 := Lib.hid h4
                have Hg := Lib.hid g1
                clear h3 h4 g1
                go_ret
                exact Or.inr ⟨_, _, Hu.out, Hw.out, Or.inr (Or.inr (Or.inr (Or.inr (Or.inr (Or.inr (Or.inr (⟨HE.out, Hne.out, H2.out, rfl, Hg.out⟩))))))), b, rfl, H3.out, H4.out⟩
            · go_wp2_with ((with_reducible refine HC.out.mono ?_); rintro e w2 (⟨b, rfl, h3, h4⟩ | ⟨b, rfl, h3, h4⟩ | ⟨p, g1, b, rfl, h3, h4⟩))
              · have H3 := Lib.hid h3
                have H4 := Lib.hid h4
                clear h3 h4
                go_ret
                exact Or.inr ⟨_, _, Hu.out, Hw.out, Or.inr (Or.inr (Or.inr (Or.inr (Or.inl ⟨HE.out, Hne.out, Or.inr H2.out, true, rfl, rfl⟩)))), b, rfl, H3.out, H4.out⟩
              · have H3 := Lib.hid h3
                have H4 := Lib.hid h4
                clear h3 h4
                go_ret
                exact Or.inr ⟨_, _, Hu.out, Hw.out, Or.inr (Or.inr (Or.inr (Or.inr (Or.inr (Or.inr (Or.inl ⟨HE.out, Hne.out, H2.out, rfl, rfl⟩)))))), b, rfl, H3.out, H4.out⟩
              · have H3 := Lib.hid h3
                have H4 := Lib.hid h4
                have Hg := Lib.hid g1
                clear h3 h4 g1
                go_ret
                exact Or.inr ⟨_, _, Hu.out, Hw.out, Or.inr (Or.inr (Or.inr (Or.inr (Or.inr (Or.inr (Or.inr (⟨HE.out, Hne.out, H2.out, rfl, Hg.out⟩))))))), b, rfl, H3.out, H4.out⟩
          have hk4' : S.K.kd ≠ 4 := fun e => hk4 (Or.inl e)
          have hk5' : S.K.kd ≠ 5 := fun e => hk4 (Or.inr e)
          have r2 : (S.K.kd == 2) = false := by rw [beq_eq_false_iff_ne]; assumption
          have r3 : (S.K.kd == 3) = false := by rw [beq_eq_false_iff_ne]; assumption
          have r4 : (S.K.kd == 4) = false := by rw [beq_eq_false_iff_ne]; assumption
          have r5 : (S.K.kd == 5) = false := by rw [beq_eq_false_iff_ne]; assumption
          have HC := Lib.hid (cnames_any Hk.out HBd.out.life ⟨HBd.out.cnt.1, by have := HBd.out.cnt.2; have := HN.out; omega⟩ (fun e => by
            rcases HOk.out with ⟨_, e1, e2, _⟩ | ⟨e1, _⟩ | ⟨e1, _⟩ | ⟨_, e1⟩ <;> omega) now w H.out)
          have H2 := Lib.hid (And.intro hk2 (And.intro hk3 (And.intro hk4' hk5')))
          clear hk2 hk3 hk4 hk4' hk5'
          go_wp2_with ((with_reducible refine HC.out.mono ?_); rintro e w2 ⟨p2, fl, h1, b, rfl, h3, h4⟩; have H1 := Lib.hid h1; have H3 := Lib.hid h3; have H4 := Lib.hid h4; clear h1 h3 h4)
          go_ret
          obtain ⟨a1, a2, a3, a4⟩ := H2.out
          exact Or.inr ⟨_, _, Hu.out, Hw.out, Or.inr (Or.inr (Or.inl ⟨HE.out, Hne.out, a1, a2, a3, a4, rfl, p2, fl, H1.out, rfl⟩)), b, rfl, H3.out, H4.out⟩
end
end Go.Proofs.YtiinponoeaihcaaGreat

/- A client: Tick, New. -/
namespace Go.Proofs.YtiinponoeaihcaaGreat
open Go.RowKit Go.Shelf

attribute [local go_sem] Oper.semAt_some
theorem out_cells (S : Cs) : (((clC S).toList.drop 20).take 43) = (pkC S.out).toList := by kernel_rfl
section
variable {cb : Nat} {S : Cs} {w0 : World} {Ls : List (Nat × Obj)}
theorem Ck.outs {w : World} (h : Ck cb S w0 Ls w) : w.rangeAt cb 20 (pkC S.out).toList := fun j v hj => by
  rw [h.cell, ← Array.getElem?_toList]
  rw [← out_cells] at hj
  rw [List.getElem?_take] at hj
  split at hj
  · rwa [List.getElem?_drop] at hj
  · cases hj
def sentAt (S : Cs) (now : Int) : Cs := { S with sent := now }
set_option maxHeartbeats 8000000 in
set_option maxRecDepth 100000 in
theorem ctick_any {N : Nat} (hB : Bd N S) (hN : N ≤ 8000) (hrec : S.wk ≠ none → (recW S).d.length ≤ 1000) (hnv : S.out.nv.oneCell' = true) (now : Int) (w : World) (h : Ck cb S w0 Ls w) :
    Calls Tryz.prog 8 #[pC cb, .int .i64 now] w fun e w' => (e = .returned (.slice none 0 0) ∧ Ck cb S w0 Ls w') ∨ (S.up = true ∧ S.waits = true ∧ ∃ b, e = .returned (.slice (some ⟨b, 0, none⟩) 1 1) ∧ w'.rangeAt b 0 (pkC S.out).toList ∧ Ck cb (sentAt S now) w0 Ls w') ∨ ∃ T p, S.up = true ∧ S.waits = false ∧ NextP S T p ∧ Sends cb T p now w0 Ls e w' := by
  have HNx := Lib.hid (cnext_any hB hN hrec now w h)
  have H := Lib.hid h
  have Hnv := Lib.hid hnv
  have c1 : w.cell? ⟨cb, 1, none⟩ = some (.bool S.up) := h.cell 1
  have c63 : w.cell? ⟨cb, 63, none⟩ = some (.bool S.waits) := h.cell 63
  have c64 : w.cell? ⟨cb, 64, none⟩ = some (.int .i64 S.sent) := h.cell 64
  have f64 := h.fz 64
  have hrg := h.outs
  clear h hB hN hrec hnv
  go_enter Tryz.func8, Tryz.ntmps8
  have Hu : Hid (S.up = S.up) := Lib.hid rfl
  by_cases hw : S.up = true ∧ S.waits = true
  · obtain ⟨hu, hw⟩ := hw
    rw [hu] at c1
    rw [hw] at c63
    have Hw := Lib.hid (And.intro hu hw)
    clear hu hw
    by_cases hd : wrap64 (now - S.sent) < 8
    · go_wp2_with fail
      go_ret
      exact Or.inl ⟨rfl, H.out⟩
    · go_upto_region 5 with fail
      obtain ⟨w2, hw2⟩ : ∃ u, u = w.setCell ⟨cb, 64, none⟩ (.int .i64 now) := ⟨_, rfl⟩
      rw [← hw2]
      have H2 : Hid (Ck cb (sentAt S now) w0 Ls w2) := Lib.hid (by rw [hw2]; exact H.out.st rfl ⟨rfl, rfl, .inl rfl, rfl, rfl, rfl⟩)
      clear hw2 hrg c1 c63 c64 f64
      have hrg : w2.rangeAt cb 20 (pkC S.out).toList := H2.out.outs
      have hsz : (pkC S.out).size = 43 := rfl
      go_wp2_with (refine wpList_load_mid rfl 41 _ rfl cb 20 rfl (pkC S.out).toList _ hrg Tryz.underlying41 rfl (pk_len S.out) ?_)
      rw [laid_pk S.out]
      go_ret
      refine Or.inr (Or.inl ⟨Hw.out.1, Hw.out.2, _, rfl, ?_, ?_⟩)
      · exact row_rangeK (heap_alloc_new w2 _)
      · exact H2.out.below ((Below.refl _ _).alloc (Nat.le_refl _) _)
  · have hq : (S.up = false) ∨ (S.up = true ∧ S.waits = false) := by
      cases h1 : S.up
      · exact Or.inl rfl
      · cases h2 : S.waits
        · exact Or.inr ⟨rfl, rfl⟩
        · exact absurd ⟨h1, h2⟩ hw
    clear hw
    rcases hq with hu | ⟨hu, hw⟩
    · rw [hu] at c1
      clear hu
      go_wp2_with ((with_reducible refine HNx.out.mono ?_); rintro e w2 (⟨rfl, h3⟩ | ⟨T, p, g1, g2, g3, b, rfl, h3, h4⟩))
      · have H3 := Lib.hid h3
        clear h3
        go_ret
        exact Or.inl ⟨rfl, H3.out⟩
      · have H3 := Lib.hid (And.intro g1 (And.intro g2 (And.intro g3 (And.intro h3 h4))))
        clear h3 h4 g1 g2 g3
        go_ret
        obtain ⟨g1, g2, g3, h3, h4⟩ := H3.out
        exact Or.inr (Or.inr ⟨T, p, g1, g2, g3, b, rfl, h3, h4⟩)
    · rw [hu] at c1
      rw [hw] at c63
      clear hu hw
      go_wp2_with ((with_reducible refine HNx.out.mono ?_); rintro e w2 (⟨rfl, h3⟩ | ⟨T, p, g1, g2, g3, b, rfl, h3, h4⟩))
      · have H3 := Lib.hid h3
        clear h3
        go_ret
        exact Or.inl ⟨rfl, H3.out⟩
      · have H3 := Lib.hid (And.intro g1 (And.intro g2 (And.intro g3 (And.intro h3 h4))))
        clear h3 h4 g1 g2 g3
        go_ret
        obtain ⟨g1, g2, g3, h3, h4⟩ := H3.out
        exact Or.inr (Or.inr ⟨T, p, g1, g2, g3, b, rfl, h3, h4⟩)
end
def freshS (c : Int) : Cs := { cl := c }
theorem Ck.born (w : World) (c : Int) : Ck w.heap.size (freshS c) w [] (w.alloc (.cells (clC (freshS c)) 62)) :=
  ⟨fun k => k = w.heap.size, ⟨heap_alloc_new _ _, rfl, fun k hk => (by rw [hk]; exact lt_get (heap_alloc_new w _)), fun m hm => (by cases hm), fun m hm => (by cases hm), fun b hb => (by cases hb), fun m n hm => (by cases hm)⟩, fun k hk => Nat.le_of_eq hk.symm, (Below.refl _ _).alloc (Nat.le_refl _) _, fun p hp => (by cases hp)⟩
def NewP (c : Int) (w : World) (e : Ending) (w' : World) : Prop := (¬ (1 ≤ c ∧ c ≤ 8) ∧ e = .returned (.pointer none) ∧ w' = w) ∨ ((1 ≤ c ∧ c ≤ 8) ∧ e = .returned (pC w.heap.size) ∧ Ck w.heap.size (freshS c) w [] w')
set_option maxHeartbeats 8000000 in
set_option maxRecDepth 100000 in
theorem cnew_any (c : Int) (w : World) : Calls Tryz.prog 4 #[.int .i64 c] w (NewP c w) := by
  go_enter Tryz.func4, Tryz.ntmps4
  by_cases h1 : c < 1
  · go_wp2_with fail
    go_ret
    exact Or.inl ⟨by omega, rfl, rfl⟩
  by_cases h2 : c > 8
  · go_wp2_with fail
    go_ret
    exact Or.inl ⟨by omega, rfl, rfl⟩
  go_wp2_with fail
  go_ret
  exact Or.inr ⟨by omega, rfl, Ck.born w c⟩
end Go.Proofs.YtiinponoeaihcaaGreat

/- A client: Start. -/
namespace Go.Proofs.YtiinponoeaihcaaGreat
open Go.RowKit Go.Shelf

attribute [local go_sem] Oper.semAt_some
theorem there_of {w : World} {b o n m : Nat} (h : w.there b o n) (e : n = m) : w.there b o m := e ▸ h
def startS (S : Cs) (life : Int) (a b : Nat) : Cs := { cl := S.cl, up := true, life := life, hm := some a, wm := some b }
theorem startS_bd {N : Nat} {S : Cs} {life : Int} {a b : Nat} (h : 1 ≤ life ∧ life < 1048576) : Bd N (startS S life a b) where
  life := ⟨by show 0 ≤ life; omega, h.2⟩
  cnt := ⟨Int.le_refl _, by show (0 : Int) ≤ N; omega⟩
  ep := ⟨Int.le_refl _, by show (0 : Int) < _; omega⟩
  vs := ⟨Int.le_refl _, by show (0 : Int) ≤ N; omega⟩
  tail := ⟨Int.le_refl _, by show (0 : Int) ≤ 100 * N; omega⟩
  f := fun k => ⟨Int.le_refl _, by show (0 : Int) < _; omega⟩
  hm := ⟨a, rfl⟩
  wm := ⟨b, rfl⟩
  hn := Nat.zero_le _
  hold := fun i H hH => by cases hH
  fd := WalkArith.wf_i64 ⟨by show _ ≤ (0 : Int); omega, by show (0 : Int) ≤ _; omega⟩
  got := ⟨Nat.zero_le _, fun s hs => by cases hs⟩
  d := Nat.zero_le _
  ok := fun hw => absurd rfl hw
section
variable {cb : Nat} {S : Cs} {w0 : World} {Ls : List (Nat × Obj)}
theorem Ck.started {w : World} (h : Ck cb S w0 Ls w) (life : Int) {vs : List Value} (hC : clC (startS S life w.heap.size (w.heap.size + 1)) = putCells2 (clC S) 2 vs) :
    Ck cb (startS S life w.heap.size (w.heap.size + 1)) w0 Ls (((w.alloc (.map #[] 0)).alloc (.map #[] 0)).setCells cb 2 vs) := by
  have hcb : cb < w.heap.size := h.low.2
  obtain ⟨w2, hw2⟩ : ∃ u, u = (w.alloc (.map #[] 0)).alloc (.map #[] 0) := ⟨_, rfl⟩
  rw [← hw2]
  have hs2 : w2.heap.size = w.heap.size + 2 := by rw [hw2]; simp
  have hb2 : Below w.heap.size w w2 := by rw [hw2]; exact ((Below.refl _ _).alloc (Nat.le_refl _) _).alloc (by simp) _
  have hO := only_setCells cb vs 2 w2
  have hsz := hO.size
  have hkeep : ∀ k, k < w2.heap.size → k ≠ cb → (w2.setCells cb 2 vs).heap[k]? = w2.heap[k]? := fun k hk hne => hO.block k hk hne
  have m1 : w2.ownsMap (H := Unit) Tryz.prog 3 ptrE w.heap.size 0 (.map []) := by
    refine map_keep (World.ownsMap_made (H := Unit) w Tryz.prog 3 ptrE) ?_
    rw [hw2, Below.heap_alloc _ _ _ (by simp)]
  have m2 : w2.ownsMap (H := Unit) Tryz.prog 3 (plainElem Tryz.prog 4) (w.heap.size + 1) 0 (.map []) := by
    have := World.ownsMap_made (H := Unit) (w.alloc (.map #[] 0)) Tryz.prog 3 (plainElem Tryz.prog 4)
    rw [show (w.alloc (.map #[] 0)).heap.size = w.heap.size + 1 by simp, ← hw2] at this
    exact this
  have ho2 : w2.heap[cb]? = some (.cells (clC S) 62 (0, 0)) := (hb2.block cb hcb).trans h.obj
  refine h.turn fun F hF => ⟨fun k => k = cb ∨ k = w.heap.size ∨ k = w.heap.size + 1, ⟨?_, Or.inl rfl, fun k hk => by omega, fun m hm => ?_, fun m hm => ?_, fun b hb => (by cases hb), fun m n hm hn => ?_⟩, ?_, fun k hk => ?_⟩
  · rw [hC]
    exact setCells_heap2 cb _ vs 2 w2 _ ho2
  · obtain rfl : w.heap.size = m := Option.some.inj hm
    exact ⟨Or.inr (Or.inl rfl), ⟨.map [], map_keep m1 (hkeep _ (by omega) (by omega)), holdsD_nil⟩, fun i H hi => (by cases hi), fun i j H J hi => (by cases hi)⟩
  · obtain rfl : w.heap.size + 1 = m := Option.some.inj hm
    exact ⟨Or.inr (Or.inr rfl), map_keep m2 (hkeep _ (by omega) (by omega))⟩
  · obtain rfl : w.heap.size = m := Option.some.inj hm
    obtain rfl : w.heap.size + 1 = n := Option.some.inj hn
    omega
  · exact (below_only hb2 F).trans hO fun k _ e => by subst e; exact hF.f
  · rcases hk with rfl | hk
    · exact Or.inl hF.f
    · exact Or.inr (by omega)
/-- what is sent, beside an error -/
def SendsE (cb : Nat) (S : Cs) (p : Pk) (now : Int) (w0 : World) (Ls : List (Nat × Obj)) (e : Ending) (w' : World) : Prop :=
  ∃ b, e = .returned (.tuple #[.slice (some ⟨b, 0, none⟩) 1 1, .int .i64 0]) ∧ w'.rangeAt b 0 (pkC (sentP S p)).toList ∧ Ck cb { S with out := sentP S p, waits := true, sent := now, asked := now } w0 Ls w'
def StartP (cb : Nat) (S : Cs) (life now : Int) (w0 : World) (Ls : List (Nat × Obj)) (w : World) (e : Ending) (w' : World) : Prop :=
  (¬ (1 ≤ life ∧ life < 1048576) ∧ e = .returned (.tuple #[.slice none 0 0, .int .i64 1]) ∧ w' = w) ∨
  ((1 ≤ life ∧ life < 1048576) ∧ ∃ a b, (e = .returned (.tuple #[.slice none 0 0, .int .i64 0]) ∧ Ck cb (startS S life a b) w0 Ls w') ∨ ∃ T p, NextP (startS S life a b) T p ∧ SendsE cb T p now w0 Ls e w')
set_option maxHeartbeats 8000000 in
set_option maxRecDepth 100000 in
theorem cstart_any (life now : Int) (w : World) (h : Ck cb S w0 Ls w) :
    Calls Tryz.prog 5 #[pC cb, .int .i64 life, .int .i64 now] w (StartP cb S life now w0 Ls w) := by
  have H := Lib.hid h
  have c1 : w.cell? ⟨cb, 1, none⟩ = some (.bool S.up) := h.cell 1
  have f1 := h.fz 1
  clear h
  go_enter Tryz.func5, Tryz.ntmps5
  by_cases h1 : life < 1
  · go_wp2_with fail
    go_ret2
    exact Or.inl ⟨by omega, rfl, rfl⟩
  by_cases h2 : life ≥ 1048576
  · go_wp2_with fail
    go_ret2
    exact Or.inl ⟨by omega, rfl, rfl⟩
  have hl : 1 ≤ life ∧ life < 1048576 := by omega
  have HL := Lib.hid hl
  clear hl
  go_upto_region 4 with fail
  obtain ⟨w1, hw1⟩ : ∃ u, u = w.setCell ⟨cb, 1, none⟩ (.bool true) := ⟨_, rfl⟩
  rw [← hw1]
  have H1 : Hid (Ck cb { S with up := true } w0 Ls w1) := Lib.hid (by rw [hw1]; exact H.out.st rfl ⟨rfl, rfl, .inl rfl, rfl, rfl, rfl⟩)
  clear hw1 c1 f1 h1 h2
  have hmm := @run_makeMap Tryz.prog
  have hth : ((w1.alloc (.map #[] 0)).alloc (.map #[] 0)).there cb 2 73 := (H1.out.below (((Below.refl _ _).alloc (Nat.le_refl _) _).alloc (by simp) _)).there 2 73 (by omega)
  go_upto_region 5 with (refine wpList_store_mid rfl 60 _ _ rfl cb 2 _ rfl rfl (there_of hth (by kernel_rfl)) (by kernel_rfl) (by kernel_rfl) ?_; generalize hwe : (World.setCells _ _ _ _) = we; have HE : Hid (Ck cb (startS S life w1.heap.size (w1.heap.size + 1)) w0 Ls we) := Lib.hid (by rw [← hwe]; exact H1.out.started life (by kernel_rfl)); clear hwe hth hmm)
  have HNx := Lib.hid (cnext_any (N := 0) (startS_bd HL.out) (by omega) (fun e => absurd rfl e) now we HE.out)
  go_wp2_with ((with_reducible refine HNx.out.mono ?_); rintro e w2 (⟨rfl, h3⟩ | ⟨T, p, g1, g2, g3, b, rfl, h3, h4⟩))
  · have H3 := Lib.hid h3
    clear h3
    go_ret2
    exact Or.inr ⟨HL.out, _, _, Or.inl ⟨rfl, H3.out⟩⟩
  · have H3 := Lib.hid (And.intro g3 (And.intro h3 h4))
    clear h3 h4 g1 g2 g3
    go_ret2
    exact Or.inr ⟨HL.out, _, _, Or.inr ⟨T, p, H3.out.1, b, rfl, H3.out.2.1, H3.out.2.2⟩⟩
end
end Go.Proofs.YtiinponoeaihcaaGreat

/- A client: Ask. -/
namespace Go.Proofs.YtiinponoeaihcaaGreat
open Go.RowKit Go.Shelf

attribute [local go_sem] Oper.semAt_some
def givenS (S : Cs) (K : Wk) (b : Nat) : Cs := { S with id := 0, wk := some b, K := K }
/-- a call that is asked -/
def callK (kd : Int) (p1 p2 : ByteArray) (fl fd off n : Int) (d : ByteArray) : Wk := { kd := kd, p1 := p1, p2 := p2, fl := fl, fd := fd, off := off, n := n, d := d }
def callL (kd : Int) (p1 p2 : ByteArray) (fl fd off n : Int) (d : ByteArray) : List Value := [.int .i64 kd, .string p1, .string p2, .int .i64 fl, .int .i64 fd, .int .i64 off, .int .i64 n, .string d]
theorem recW_len (S : Cs) : (recW S).d.length ≤ S.K.d.size := by
  unfold recW
  split
  · exact Nat.zero_le _
  · show S.K.d.data.toList.length ≤ _
    rw [Array.length_toList]
    exact Nat.le_refl _
theorem look_bd {N : Nat} {S U : Cs} {K : Wk} {b : Nat} (h : Bd N S) (hg : K.got = []) (hf : I64 K.fd) (hd : K.d.size ≤ 80) (hU : LookP (givenS S K b) U) : Bd N U := by
  have hG : GotOk K := by rw [GotOk, hg]; exact ⟨Nat.zero_le _, fun s hs => by cases hs⟩
  rcases hU with ⟨rfl, h1⟩ | ⟨_, _, er, rfl⟩
  · exact ⟨h.life, h.cnt, h.ep, h.vs, h.tail, h.f, h.hm, h.wm, h.hn, h.hold, hf, hG, hd, fun h2 h3 => by
      rcases h1 with e | e | e
      · exact absurd e h2
      · exact absurd e h3
      · exact e⟩
  · exact ⟨h.life, h.cnt, h.ep, h.vs, h.tail, h.f, h.hm, h.wm, h.hn, h.hold, hf, hG, hd, fun h2 => absurd rfl h2⟩
section
variable {cb : Nat} {S : Cs} {w0 : World} {Ls : List (Nat × Obj)}
theorem Ck.given {w : World} (h : Ck cb S w0 Ls w) (K : Wk) (hv : K.gv = .slice none 0 0) (hg : K.got = []) :
    Ck cb (givenS S K w.heap.size) w0 Ls (((w.setCell ⟨cb, 19, none⟩ (.int .i64 0)).setCell ⟨cb, 18, none⟩ (.pointer (some ⟨w.heap.size, 0, none⟩))).alloc (.cells (wkC K) 70)) := by
  have hcb : cb < w.heap.size := h.low.2
  obtain ⟨w2, hw2⟩ : ∃ u, u = (w.setCell ⟨cb, 19, none⟩ (.int .i64 0)).setCell ⟨cb, 18, none⟩ (.pointer (some ⟨w.heap.size, 0, none⟩)) := ⟨_, rfl⟩
  rw [← hw2]
  have hO : Only (fun k => k = cb) w w2 := by
    rw [hw2]
    exact (only_setCell (F := fun k => k = cb) w ⟨cb, 19, none⟩ _ rfl).trans (only_setCell (F := fun k => k = cb) _ ⟨cb, 18, none⟩ _ rfl) fun _ _ e => e
  have hs2 : w2.heap.size = w.heap.size := by rw [hw2]; simp [World.setCell]
  have ho2 : w2.heap[cb]? = some (.cells (clC (givenS S K w.heap.size)) 62 (0, 0)) := by
    rw [hw2, Go.heap_setCell_same _ cb 18 _ _ _ (Go.heap_setCell_same w cb 19 _ _ _ h.obj)]
    rfl
  obtain ⟨w3, hw3⟩ : ∃ u, u = w2.alloc (.cells (wkC K) 70) := ⟨_, rfl⟩
  rw [← hw3]
  have hb3 : Below w2.heap.size w2 w3 := by rw [hw3]; exact (Below.refl _ _).alloc (Nat.le_refl _) _
  have hs3 : w3.heap.size = w.heap.size + 1 := by rw [hw3, ← hs2]; simp
  have hn3 : w3.heap[w.heap.size]? = some (.cells (wkC K) 70 (0, 0)) := by rw [hw3, ← hs2]; exact heap_alloc_new _ _
  have ho3 : w3.heap[cb]? = some (.cells (clC (givenS S K w.heap.size)) 62 (0, 0)) := (hb3.block cb (by omega)).trans ho2
  have hoth : ∀ k, k < w.heap.size → k ≠ cb → w3.heap[k]? = w.heap[k]? := fun k hk hne => (hb3.block k (by omega)).trans (hO.block k hk hne)
  refine h.turn fun F hF => ⟨fun k => F k ∨ k = w.heap.size, ⟨ho3, Or.inl hF.f, ?_, fun m hm => ?_, fun m hm => ?_, fun b hb => ?_, hF.mne⟩, ?_, fun k hk => hk.imp id fun e => Nat.le_of_eq e.symm⟩
  · rintro k (hk | rfl)
    · have := hF.tight k hk
      omega
    · omega
  · have hh := hF.hold m hm
    have hkeep : ∀ k, (F k ∧ k ≠ cb) → w3.heap[k]? = w.heap[k]? := fun k hk => hoth k (hF.tight k hk.1) hk.2
    obtain ⟨D, hD, hA⟩ := hh.own
    have hcm : m ≠ cb := by
      obtain ⟨es, ck, he, _⟩ := hD
      exact fun e => by rw [e, h.obj] at he; cases he
    refine ⟨Or.inl hh.f, ⟨D, map_keep hD (hkeep m ⟨hh.f, hcm⟩), hA⟩, fun i H hi => ?_, hh.ne⟩
    obtain ⟨⟨a1, a2, a3, a4⟩, a5⟩ := hh.at_ i H hi
    have hb : H.b ≠ cb := fun e => by rw [e, h.obj] at a1; cases a1
    refine ⟨⟨(hkeep _ ⟨a2, hb⟩).trans a1, Or.inl a2, row_keep a3 fun k hk => hkeep k ⟨a4 k hk, ?_⟩, fun r hr => Or.inl (a4 r hr)⟩, a5⟩
    rcases a3.2 with ⟨e, _⟩ | ⟨g, cap, cur, e, _, hg, _⟩
    · rw [e] at hk; cases hk
    · rw [e] at hk
      cases hk
      exact fun e => by rw [show g = cb from e, h.obj] at hg; cases hg
  · obtain ⟨a1, a2⟩ := hF.want m hm
    refine ⟨Or.inl a1, map_keep a2 (hoth m (hF.tight m a1) ?_)⟩
    obtain ⟨es, ck, he, _⟩ := a2
    exact fun e => by rw [e, h.obj] at he; cases he
  · obtain rfl : w.heap.size = b := Option.some.inj hb
    refine ⟨hn3, Or.inr rfl, ?_, fun r hr => ?_⟩
    · show w3.ownsRow 0 9 1 K.gv K.got.length (K.got.map .string)
      rw [hv, hg]
      exact World.ownsRow_nil _ _ _ _
    · have hr : K.gv.ownBlock = some r := hr
      rw [hv] at hr
      cases hr
  · exact (hO.mono fun k _ e => by subst e; exact hF.f).trans (below_only hb3 F) fun _ _ e => e
/-- what an asked call comes to -/
def AskP (cb : Nat) (S : Cs) (K : Wk) (now : Int) (w0 : World) (Ls : List (Nat × Obj)) (e : Ending) (w' : World) : Prop :=
  (S.up = false ∧ e = .returned (.tuple #[.slice none 0 0, .int .i64 30]) ∧ Ck cb S w0 Ls w') ∨
  (S.up = true ∧ (S.wk ≠ none ∨ S.done = true) ∧ e = .returned (.tuple #[.slice none 0 0, .int .i64 32]) ∧ Ck cb S w0 Ls w') ∨
  (S.up = true ∧ S.wk = none ∧ S.done = false ∧ ∃ b U, LookP (givenS S K b) U ∧ ((e = .returned (.tuple #[.slice none 0 0, .int .i64 0]) ∧ Ck cb U w0 Ls w') ∨ ∃ T p, U.waits = false ∧ NextP U T p ∧ SendsE cb T p now w0 Ls e w'))
set_option maxHeartbeats 8000000 in
set_option maxRecDepth 100000 in
theorem cask2_any {N : Nat} (hB : Bd N S) (hN : N ≤ 8000) (kd : Int) (p1 p2 : ByteArray) (fl fd off n : Int) (d : ByteArray) (hf : I64 fd) (hd : d.size ≤ 80) (now : Int) (w : World) (h : Ck cb S w0 Ls w) :
    Calls Tryz.prog 12 #[pC cb, .agg (callL kd p1 p2 fl fd off n d).toArray, .int .i64 now] w (AskP cb S (callK kd p1 p2 fl fd off n d) now w0 Ls) := by
  have HBd := Lib.hid hB
  have HN := Lib.hid hN
  have Hf := Lib.hid hf
  have Hd := Lib.hid hd
  have H := Lib.hid h
  clear h hB hN hf hd
  go_enter Tryz.func12, Tryz.ntmps12
  go_upto_region 1 with fail
  obtain ⟨w1, hw⟩ : ∃ u, u = w.alloc (.cells (callL kd p1 p2 fl fd off n d).toArray 30) := ⟨_, rfl⟩
  obtain ⟨n0, hn⟩ : ∃ u, u = w.heap.size := ⟨_, rfl⟩
  rw [← hw, ← hn]
  have H1 : Hid (Ck cb S w0 ((n0, .cells (callL kd p1 p2 fl fd off n d).toArray 30 (0, 0)) :: Ls) w1) := Lib.hid (by rw [hw, hn]; exact H.out.box _ _)
  clear hw hn H
  have c1 : w1.cell? ⟨cb, 1, none⟩ = some (.bool S.up) := H1.out.cell 1
  have c18 : w1.cell? ⟨cb, 18, none⟩ = some (ptrV S.wk) := H1.out.cell 18
  have c74 : w1.cell? ⟨cb, 74, none⟩ = some (.bool S.done) := H1.out.cell 74
  unfold ptrV at c18
  rcases bdic S.up with hu | hu
  · rw [hu] at c1
    have Hu := Lib.hid hu
    clear hu
    go_wp2_with fail
    go_ret2
    exact Or.inl ⟨Hu.out, rfl, H1.out.tl rfl⟩
  rw [hu] at c1
  have Hu := Lib.hid hu
  clear hu
  cases hk : S.wk with
  | some wb =>
    rw [hk] at c18
    have Hk : Hid (S.wk ≠ none) := Lib.hid (by rw [hk]; simp)
    clear hk
    dsimp only [Option.map_some] at c18
    go_wp2_with fail
    go_ret2
    exact Or.inr (Or.inl ⟨Hu.out, Or.inl Hk.out, rfl, H1.out.tl rfl⟩)
  | none =>
  rw [hk] at c18
  have Hk := Lib.hid hk
  clear hk
  dsimp only [Option.map_none] at c18
  rcases (bdic S.done).symm with hdn | hdn
  · rw [hdn] at c74
    have Hdn := Lib.hid hdn
    clear hdn
    go_wp2_with fail
    go_ret2
    exact Or.inr (Or.inl ⟨Hu.out, Or.inr Hdn.out, rfl, H1.out.tl rfl⟩)
  rw [hdn] at c74
  have Hdn := Lib.hid hdn
  clear hdn
  go_upto_region 5 with fail
  have c19 : w1.cell? ⟨cb, 19, none⟩ = some (.int .i64 S.id) := H1.out.cell 19
  have f19 := H1.out.fz 19
  have f18 := H1.out.fz 18
  have hrg := row_rangeK (H1.out.get (k := n0) List.mem_cons_self)
  have hb := H1.out.get (k := n0) List.mem_cons_self
  have d0 : w1.cell? ⟨n0, 0, none⟩ = some (.int .i64 kd) := cell_of_row w1 n0 0 _ _ _ hb
  have d1 : w1.cell? ⟨n0, 1, none⟩ = some (.string p1) := cell_of_row w1 n0 1 _ _ _ hb
  have d2 : w1.cell? ⟨n0, 2, none⟩ = some (.string p2) := cell_of_row w1 n0 2 _ _ _ hb
  have d3 : w1.cell? ⟨n0, 3, none⟩ = some (.int .i64 fl) := cell_of_row w1 n0 3 _ _ _ hb
  have d4 : w1.cell? ⟨n0, 4, none⟩ = some (.int .i64 fd) := cell_of_row w1 n0 4 _ _ _ hb
  have d5 : w1.cell? ⟨n0, 5, none⟩ = some (.int .i64 off) := cell_of_row w1 n0 5 _ _ _ hb
  have d6 : w1.cell? ⟨n0, 6, none⟩ = some (.int .i64 n) := cell_of_row w1 n0 6 _ _ _ hb
  have d7 : w1.cell? ⟨n0, 7, none⟩ = some (.string d) := cell_of_row w1 n0 7 _ _ _ hb
  clear hrg hb
  have hlt : cb < w1.heap.size := H1.out.low.2
  have hne : w1.heap.size ≠ cb := by omega
  have ca : ∀ o : Obj, (w1.alloc o).cell? ⟨cb, 18, none⟩ = some (.pointer none) := fun o => by rw [World.cell?_of_block (w := w1) (a := ⟨cb, 18, none⟩) (Below.heap_alloc _ _ _ hlt)]; exact c18
  have fa : ∀ o : Obj, (w1.alloc o).frozen? ⟨cb, 18, none⟩ = false := fun o => by rw [World.frozen?_of_block (w := w1) (a := ⟨cb, 18, none⟩) (Below.heap_alloc _ _ _ hlt)]; exact f18
  go_region
  clear d0 d1 d2 d3 d4 d5 d6 d7 ca fa hlt hne f18 f19 c18 c19 c74 c1
  obtain ⟨w2, hw2⟩ : ∃ u, u = (((w1.setCell ⟨cb, 19, none⟩ (.int .i64 0)).setCell ⟨cb, 18, none⟩ (.pointer (some ⟨w1.heap.size, 0, none⟩))).alloc (.cells (wkC (callK kd p1 p2 fl fd off n d)) 70)).drew := ⟨_, rfl⟩
  obtain ⟨b, hb⟩ : ∃ u, u = w1.heap.size := ⟨_, rfl⟩
  have H2 : Hid (Ck cb (givenS S (callK kd p1 p2 fl fd off n d) b) w0 ((n0, .cells (callL kd p1 p2 fl fd off n d).toArray 30 (0, 0)) :: Ls) w2) := Lib.hid (by rw [hw2, hb]; exact (H1.out.given _ rfl rfl).drew)
  dsimp only [wkC, callK] at hw2
  rw [← hw2, ← hb]
  clear hw2 hb
  have HLk := Lib.hid (clook_any (S := givenS S (callK kd p1 p2 fl fd off n d) b) Hf.out w2 H2.out)
  go_upto_region 7 with ((with_reducible refine HLk.out.mono ?_); rintro e w3 ⟨rfl, U, h3, h4⟩; have H3 := Lib.hid h3; have HU := Lib.hid h4; clear h3 h4; have HB2 := Lib.hid (look_bd HBd.out rfl Hf.out Hd.out HU.out))
  have HNx := Lib.hid (cnext_any HB2.out HN.out (fun e => Nat.le_trans (recW_len U) (Nat.le_trans HB2.out.d (by omega))) now w3 H3.out)
  go_wp2_with ((with_reducible refine HNx.out.mono ?_); rintro e w4 (⟨rfl, h3⟩ | ⟨T, p, g1, g2, g3, bb, rfl, h3, h4⟩))
  · have H4 := Lib.hid h3
    clear h3
    go_ret2
    exact Or.inr (Or.inr ⟨Hu.out, Hk.out, Hdn.out, b, U, HU.out, Or.inl ⟨rfl, H4.out.tl rfl⟩⟩)
  · have H4 := Lib.hid h3
    have H5 := Lib.hid h4
    have Hg := Lib.hid (And.intro g2 g3)
    clear h3 h4 g1 g2 g3
    go_ret2
    exact Or.inr (Or.inr ⟨Hu.out, Hk.out, Hdn.out, b, U, HU.out, Or.inr ⟨T, p, Hg.out.1, Hg.out.2, bb, rfl, H4.out, H5.out.tl rfl⟩⟩)
end
end Go.Proofs.YtiinponoeaihcaaGreat
