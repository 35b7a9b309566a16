/- A client: Receive. -/
import Derived.Test.YtiinponoeaihcaaGreatU16
import Derived.BigQuiet
import Derived.Test.YtiinponoeaihcaaGreatU04
set_option linter.unusedVariables false
set_option linter.unusedSimpArgs false
set_option linter.unusedSectionVars false
namespace Go.Proofs.YtiinponoeaihcaaGreat
open Go.RowKit Go.Shelf

attribute [local go_sem] Oper.semAt_some
def unwait (S : Cs) : Cs := { S with waits := false }
/-- what a client that waits waits for -/
structure Wt (S : Cs) : Prop where
  kd : S.out.kd = 1 ∨ S.out.kd = 3
  cls : S.out.kd = 3 → S.out.op = 2 → S.wk ≠ none → S.K.kd = 2
  ep : S.ep ≠ 0 ∨ S.out.op = 20
  ver : S.out.kd = 1 → S.ep ≠ 0
/-- a packet that answers what was sent -/
def FitsP (S : Cs) (p : Pk) : Prop := S.waits = true ∧ p.kd = S.out.kd + 1 ∧ p.ep = S.out.ep ∧ p.sq = S.out.sq ∧ p.op = S.out.op
/-- what was read off the wire -/
def ReadP (p : Pk) (er : Int) : Prop := er = 0 → POk p ∧ (p.kd = 2 ∨ p.kd = 4)
/-- what comes behind what was received -/
def NextE (cb : Nat) (U : Cs) (now : Int) (w0 : World) (Ls : List (Nat × Obj)) (e : Ending) (w' : World) : Prop :=
  (e = .returned (.slice none 0 0) ∧ Ck cb U w0 Ls w') ∨ ∃ T p, U.up = true ∧ U.waits = false ∧ NextP U T p ∧ Sends cb T p now w0 Ls e w'
def RecvP (cb : Nat) (S : Cs) (p : Pk) (er now : Int) (w0 : World) (Ls : List (Nat × Obj)) (e : Ending) (w' : World) : Prop :=
  ((er ≠ 0 ∨ p.cl ≠ S.cl ∨ S.up = false) ∧ e = .returned (.slice none 0 0) ∧ Ck cb S w0 Ls w') ∨
  (er = 0 ∧ p.cl = S.cl ∧ S.up = true ∧ ((¬ FitsP S p ∧ NextE cb S now w0 Ls e w') ∨ (FitsP S p ∧ ∃ U, TakeP (unwait S) p U ∧ NextE cb U now w0 Ls e w')))
theorem row_thereK {w : World} {b t : Nat} {C : Array Value} (h : w.heap[b]? = some (.cells C t (0, 0))) : w.there b 0 C.size := fun j hj => by
  rw [Nat.zero_add]
  refine ⟨?_, frozen_of_row w b j _ _ h⟩
  rw [cell_of_row w b j _ _ _ h, Array.getElem?_eq_getElem hj]
  rfl
theorem unwait_bd {N : Nat} {S : Cs} (h : Bd N S) : Bd N (unwait S) := ⟨h.life, h.cnt, h.ep, h.vs, h.tail, h.f, h.hm, h.wm, h.hn, h.hold, h.fd, h.got, h.d, h.ok⟩
section
variable {cb : Nat} {S : Cs} {w0 : World} {Ls : List (Nat × Obj)}
theorem next_e {N : Nat} {U : Cs} (hB : Bd N U) (hN : N ≤ 8000) (now : Int) (w : World) (h : Ck cb U w0 Ls w) :
    Calls Tryz.prog 15 #[pC cb, .int .i64 now] w (NextE cb U now w0 Ls) :=
  cnext_any hB hN (fun _ => Nat.le_trans (recW_len U) (Nat.le_trans hB.d (by omega))) now w h
set_option maxHeartbeats 8000000 in
set_option maxRecDepth 100000 in
theorem creceive_any {N M : Nat} {Rq : Pk → Int → Prop} (hQ : ∀ p er, Rq p er → ReadP p er) (hB : Bd N S) (hN : N ≤ 8000) (hM : M ≤ 8000) (hW : S.waits = true → Wt S) (rv : Value) (now : Int) (w : World) (h : Ck cb S w0 Ls w)
    (hT : ∀ p U, POk p → FitsP S p → TakeP (unwait S) p U → Bd M U)
    (hR : Calls Tryz.prog 18 #[rv] w fun e w' => ∃ p er, e = .returned (.tuple #[.agg (pkC p), .int .i64 er]) ∧ Rq p er ∧ p.nv.oneCell' = true ∧ Below w.heap.size w w') :
    Calls Tryz.prog 9 #[pC cb, rv, .int .i64 now] w fun e w' => ∃ p er, Rq p er ∧ RecvP cb S p er now w0 Ls e w' := by
  have HQ := Lib.hid hQ
  have HBd := Lib.hid hB
  have HN := Lib.hid hN
  have HM := Lib.hid hM
  have HWt := Lib.hid hW
  have HT := Lib.hid hT
  have HR := Lib.hid hR
  have H := Lib.hid h
  clear h hB hN hM hW hT hR hQ
  go_enter Tryz.func9, Tryz.ntmps9
  go_upto_region 2 with (first | ((with_reducible refine HR.out.mono ?_); rintro e w1 ⟨p, er, rfl, hRd, hNv, hB1⟩; have HRd := Lib.hid hRd; have HNv := Lib.hid hNv; have HC := Lib.hid (H.out.below hB1); have H1 := Lib.hid (HC.out.box (pkC {}) 41); have hth := row_thereK (H1.out.get (k := w1.heap.size) List.mem_cons_self); clear hRd hNv hB1 H) | (refine wpList_store_mid rfl 41 _ _ rfl w1.heap.size 0 (pkC p).toList.toArray rfl rfl hth (pk_size p) (pk_one p HNv.out) ?_; generalize hwe : (World.setCells _ _ _ _) = w2; obtain ⟨n0, hn⟩ : ∃ u, u = w1.heap.size := ⟨_, rfl⟩; have H2 : Hid (Ck cb S w0 ((n0, .cells (pkC p) 41 (0, 0)) :: Ls) w2) := Lib.hid (by rw [← hwe, hn]; exact H1.out.setAll (vs := (pkC p).toList) HC.out.fresh rfl); rw [← hn]; clear hwe hn hth H1 HC))
  have hb := H2.out.get (k := n0) List.mem_cons_self
  have d0 : w2.cell? ⟨n0, 0, none⟩ = some (.int .i64 p.kd) := cell_of_row w2 n0 0 _ _ _ hb
  have d1 : w2.cell? ⟨n0, 1, none⟩ = some (.int .i64 p.cl) := cell_of_row w2 n0 1 _ _ _ hb
  have d2 : w2.cell? ⟨n0, 2, none⟩ = some (.int .i64 p.ep) := cell_of_row w2 n0 2 _ _ _ hb
  have d3 : w2.cell? ⟨n0, 3, none⟩ = some (.int .i64 p.sq) := cell_of_row w2 n0 3 _ _ _ hb
  have d4 : w2.cell? ⟨n0, 4, none⟩ = some (.int .i64 p.op) := cell_of_row w2 n0 4 _ _ _ hb
  have c0 : w2.cell? ⟨cb, 0, none⟩ = some (.int .i64 S.cl) := H2.out.cell 0
  have c1 : w2.cell? ⟨cb, 1, none⟩ = some (.bool S.up) := H2.out.cell 1
  have c20 : w2.cell? ⟨cb, 20, none⟩ = some (.int .i64 S.out.kd) := H2.out.cell 20
  have c22 : w2.cell? ⟨cb, 22, none⟩ = some (.int .i64 S.out.ep) := H2.out.cell 22
  have c23 : w2.cell? ⟨cb, 23, none⟩ = some (.int .i64 S.out.sq) := H2.out.cell 23
  have c24 : w2.cell? ⟨cb, 24, none⟩ = some (.int .i64 S.out.op) := H2.out.cell 24
  have c63 : w2.cell? ⟨cb, 63, none⟩ = some (.bool S.waits) := H2.out.cell 63
  have f63 := H2.out.fz 63
  clear hb
  by_cases he : er = 0
  rotate_left
  · have q : (er != 0) = true := by rw [bne_iff_ne]; exact he
    have He := Lib.hid he
    clear he
    go_quiet (fail)
    go_wp2_with fail
    go_ret
    exact ⟨p, er, HRd.out, Or.inl ⟨Or.inl He.out, rfl, (H2.out.drewN _).tl rfl⟩⟩
  have q0 : (er != 0) = false := by rw [bne_eq_false_iff_eq]; exact he
  have He := Lib.hid he
  clear he
  by_cases hcl : p.cl = S.cl
  rotate_left
  · have q : (p.cl != S.cl) = true := by rw [bne_iff_ne]; exact hcl
    have Hcl := Lib.hid hcl
    clear hcl
    go_quiet (fail)
    go_wp2_with fail
    go_ret
    exact ⟨p, er, HRd.out, Or.inl ⟨Or.inr (Or.inl Hcl.out), rfl, (H2.out.drewN _).tl rfl⟩⟩
  have q1 : (p.cl != S.cl) = false := by rw [bne_eq_false_iff_eq]; exact hcl
  have Hcl := Lib.hid hcl
  clear hcl
  rcases bdic S.up with hu | hu
  · rw [hu] at c1
    have Hu := Lib.hid hu
    clear hu
    go_quiet (fail)
    go_wp2_with fail
    go_ret
    exact ⟨p, er, HRd.out, Or.inl ⟨Or.inr (Or.inr Hu.out), rfl, (H2.out.drewN _).tl rfl⟩⟩
  rw [hu] at c1
  have Hu := Lib.hid hu
  clear hu
  go_quiet (fail)
  generalize hwe : (World.drewN _ _) = w3
  have H3 : Hid (Ck cb S w0 ((n0, .cells (pkC p) 41 (0, 0)) :: Ls) w3) := Lib.hid (by rw [← hwe]; exact H2.out.drewN _)
  clear hwe d0 d1 d2 d3 d4 c0 c1 c20 c22 c23 c24 c63 f63 q0 q1 H2
  have hb := H3.out.get (k := n0) List.mem_cons_self
  have d0 : w3.cell? ⟨n0, 0, none⟩ = some (.int .i64 p.kd) := cell_of_row w3 n0 0 _ _ _ hb
  have d2 : w3.cell? ⟨n0, 2, none⟩ = some (.int .i64 p.ep) := cell_of_row w3 n0 2 _ _ _ hb
  have d3 : w3.cell? ⟨n0, 3, none⟩ = some (.int .i64 p.sq) := cell_of_row w3 n0 3 _ _ _ hb
  have d4 : w3.cell? ⟨n0, 4, none⟩ = some (.int .i64 p.op) := cell_of_row w3 n0 4 _ _ _ hb
  have c20 : w3.cell? ⟨cb, 20, none⟩ = some (.int .i64 S.out.kd) := H3.out.cell 20
  have c22 : w3.cell? ⟨cb, 22, none⟩ = some (.int .i64 S.out.ep) := H3.out.cell 22
  have c23 : w3.cell? ⟨cb, 23, none⟩ = some (.int .i64 S.out.sq) := H3.out.cell 23
  have c24 : w3.cell? ⟨cb, 24, none⟩ = some (.int .i64 S.out.op) := H3.out.cell 24
  have c63 : w3.cell? ⟨cb, 63, none⟩ = some (.bool S.waits) := H3.out.cell 63
  have f63 := H3.out.fz 63
  clear hb
  rcases (HQ.out _ _ HRd.out He.out).2 with hk | hk
  · have r5 : (p.kd == 5) = false := by rw [beq_eq_false_iff_ne]; omega
    have r2 : (p.kd == 2) = true := by rw [beq_iff_eq]; exact hk
    clear hk
    go_upto_region 9 with fail
    clear r5 r2
    rcases bdic S.waits with hw | hw
    · rw [hw] at c63
      have Hw := Lib.hid hw
      clear hw
      have HNf : Hid (¬ FitsP S p) := Lib.hid (fun e => (by have := e.1; rw [Hw.out] at this; cases this))
      go_quiet (fail)
      go_wp2_with ((with_reducible refine (next_e HBd.out HN.out now _ (H3.out.drewN _)).mono ?_); rintro e w4 (⟨rfl, h3⟩ | ⟨T, p2, g1, g2, g3, b, rfl, h3, h4⟩))
      · have H4 := Lib.hid h3
        clear h3
        go_ret
        exact ⟨p, er, HRd.out, Or.inr ⟨He.out, Hcl.out, Hu.out, Or.inl ⟨HNf.out, Or.inl ⟨rfl, H4.out.tl rfl⟩⟩⟩⟩
      · have H4 := Lib.hid h3
        have H5 := Lib.hid h4
        have Hg := Lib.hid (And.intro g1 (And.intro g2 g3))
        clear h3 h4 g1 g2 g3
        go_ret
        exact ⟨p, er, HRd.out, Or.inr ⟨He.out, Hcl.out, Hu.out, Or.inl ⟨HNf.out, Or.inr ⟨T, p2, Hg.out.1, Hg.out.2.1, Hg.out.2.2, b, rfl, H4.out, H5.out.tl rfl⟩⟩⟩⟩
    rw [hw] at c63
    have Hw := Lib.hid hw
    have HWw := Lib.hid (HWt.out hw)
    clear hw
    have hwr : IntKind.i64.wrap (S.out.kd + 1) = S.out.kd + 1 := IntWalk.i64_in _ (by have := HWw.out.kd; omega)
    by_cases ek : p.kd = S.out.kd + 1
    rotate_left
    · have qek : (p.kd == S.out.kd + 1) = false := by rw [beq_eq_false_iff_ne]; exact ek
      have Hek := Lib.hid ek
      clear ek
      have HNf : Hid (¬ FitsP S p) := Lib.hid (fun e => Hek.out e.2.1)
      go_quiet (fail)
      go_wp2_with ((with_reducible refine (next_e HBd.out HN.out now _ (H3.out.drewN _)).mono ?_); rintro e w4 (⟨rfl, h3⟩ | ⟨T, p2, g1, g2, g3, b, rfl, h3, h4⟩))
      · have H4 := Lib.hid h3
        clear h3
        go_ret
        exact ⟨p, er, HRd.out, Or.inr ⟨He.out, Hcl.out, Hu.out, Or.inl ⟨HNf.out, Or.inl ⟨rfl, H4.out.tl rfl⟩⟩⟩⟩
      · have H4 := Lib.hid h3
        have H5 := Lib.hid h4
        have Hg := Lib.hid (And.intro g1 (And.intro g2 g3))
        clear h3 h4 g1 g2 g3
        go_ret
        exact ⟨p, er, HRd.out, Or.inr ⟨He.out, Hcl.out, Hu.out, Or.inl ⟨HNf.out, Or.inr ⟨T, p2, Hg.out.1, Hg.out.2.1, Hg.out.2.2, b, rfl, H4.out, H5.out.tl rfl⟩⟩⟩⟩
    have qek : (p.kd == S.out.kd + 1) = true := by rw [beq_iff_eq]; exact ek
    have Hek := Lib.hid ek
    clear ek
    by_cases ee : p.ep = S.out.ep
    rotate_left
    · have qee : (p.ep == S.out.ep) = false := by rw [beq_eq_false_iff_ne]; exact ee
      have Hee := Lib.hid ee
      clear ee
      have HNf : Hid (¬ FitsP S p) := Lib.hid (fun e => Hee.out e.2.2.1)
      go_quiet (fail)
      go_wp2_with ((with_reducible refine (next_e HBd.out HN.out now _ (H3.out.drewN _)).mono ?_); rintro e w4 (⟨rfl, h3⟩ | ⟨T, p2, g1, g2, g3, b, rfl, h3, h4⟩))
      · have H4 := Lib.hid h3
        clear h3
        go_ret
        exact ⟨p, er, HRd.out, Or.inr ⟨He.out, Hcl.out, Hu.out, Or.inl ⟨HNf.out, Or.inl ⟨rfl, H4.out.tl rfl⟩⟩⟩⟩
      · have H4 := Lib.hid h3
        have H5 := Lib.hid h4
        have Hg := Lib.hid (And.intro g1 (And.intro g2 g3))
        clear h3 h4 g1 g2 g3
        go_ret
        exact ⟨p, er, HRd.out, Or.inr ⟨He.out, Hcl.out, Hu.out, Or.inl ⟨HNf.out, Or.inr ⟨T, p2, Hg.out.1, Hg.out.2.1, Hg.out.2.2, b, rfl, H4.out, H5.out.tl rfl⟩⟩⟩⟩
    have qee : (p.ep == S.out.ep) = true := by rw [beq_iff_eq]; exact ee
    have Hee := Lib.hid ee
    clear ee
    by_cases es : p.sq = S.out.sq
    rotate_left
    · have qes : (p.sq == S.out.sq) = false := by rw [beq_eq_false_iff_ne]; exact es
      have Hes := Lib.hid es
      clear es
      have HNf : Hid (¬ FitsP S p) := Lib.hid (fun e => Hes.out e.2.2.2.1)
      go_quiet (fail)
      go_wp2_with ((with_reducible refine (next_e HBd.out HN.out now _ (H3.out.drewN _)).mono ?_); rintro e w4 (⟨rfl, h3⟩ | ⟨T, p2, g1, g2, g3, b, rfl, h3, h4⟩))
      · have H4 := Lib.hid h3
        clear h3
        go_ret
        exact ⟨p, er, HRd.out, Or.inr ⟨He.out, Hcl.out, Hu.out, Or.inl ⟨HNf.out, Or.inl ⟨rfl, H4.out.tl rfl⟩⟩⟩⟩
      · have H4 := Lib.hid h3
        have H5 := Lib.hid h4
        have Hg := Lib.hid (And.intro g1 (And.intro g2 g3))
        clear h3 h4 g1 g2 g3
        go_ret
        exact ⟨p, er, HRd.out, Or.inr ⟨He.out, Hcl.out, Hu.out, Or.inl ⟨HNf.out, Or.inr ⟨T, p2, Hg.out.1, Hg.out.2.1, Hg.out.2.2, b, rfl, H4.out, H5.out.tl rfl⟩⟩⟩⟩
    have qes : (p.sq == S.out.sq) = true := by rw [beq_iff_eq]; exact es
    have Hes := Lib.hid es
    clear es
    by_cases eo : p.op = S.out.op
    rotate_left
    · have qeo : (p.op == S.out.op) = false := by rw [beq_eq_false_iff_ne]; exact eo
      have Heo := Lib.hid eo
      clear eo
      have HNf : Hid (¬ FitsP S p) := Lib.hid (fun e => Heo.out e.2.2.2.2)
      go_quiet (fail)
      go_wp2_with ((with_reducible refine (next_e HBd.out HN.out now _ (H3.out.drewN _)).mono ?_); rintro e w4 (⟨rfl, h3⟩ | ⟨T, p2, g1, g2, g3, b, rfl, h3, h4⟩))
      · have H4 := Lib.hid h3
        clear h3
        go_ret
        exact ⟨p, er, HRd.out, Or.inr ⟨He.out, Hcl.out, Hu.out, Or.inl ⟨HNf.out, Or.inl ⟨rfl, H4.out.tl rfl⟩⟩⟩⟩
      · have H4 := Lib.hid h3
        have H5 := Lib.hid h4
        have Hg := Lib.hid (And.intro g1 (And.intro g2 g3))
        clear h3 h4 g1 g2 g3
        go_ret
        exact ⟨p, er, HRd.out, Or.inr ⟨He.out, Hcl.out, Hu.out, Or.inl ⟨HNf.out, Or.inr ⟨T, p2, Hg.out.1, Hg.out.2.1, Hg.out.2.2, b, rfl, H4.out, H5.out.tl rfl⟩⟩⟩⟩
    have qeo : (p.op == S.out.op) = true := by rw [beq_iff_eq]; exact eo
    have Heo := Lib.hid eo
    clear eo
    have HF : Hid (FitsP S p) := Lib.hid ⟨Hw.out, Hek.out, Hee.out, Hes.out, Heo.out⟩
    have HTk := Lib.hid (fun w (hc : Ck cb (unwait S) w0 ((n0, .cells (pkC p) 41 (0, 0)) :: Ls) w) => ctakes_any (unwait_bd HBd.out) HN.out p (HQ.out _ _ HRd.out He.out).1 (fun h2 h3 h4 => HWw.out.cls (by have := HWw.out.kd; have := Hek.out; omega) (by rw [← Heo.out]; exact h3) h4) (by rw [Heo.out]; exact HWw.out.ep) (fun h2 => HWw.out.ver (by have := Hek.out; omega)) now w hc)
    go_quiet (fail)
    generalize hwe : (World.drewN _ _) = w4
    have H4 : Hid (Ck cb S w0 ((n0, .cells (pkC p) 41 (0, 0)) :: Ls) w4) := Lib.hid (by rw [← hwe]; exact H3.out.drewN _)
    clear hwe d0 d2 d3 d4 c20 c22 c23 c24 c63 f63 H3 hwr qek qee qes qeo
    have c63 : w4.cell? ⟨cb, 63, none⟩ = some (.bool S.waits) := H4.out.cell 63
    have f63 := H4.out.fz 63
    go_upto_region 12 with fail
    obtain ⟨w5, hw5⟩ : ∃ u, u = w4.setCell ⟨cb, 63, none⟩ (.bool false) := ⟨_, rfl⟩
    rw [← hw5]
    have H5 : Hid (Ck cb (unwait S) w0 ((n0, .cells (pkC p) 41 (0, 0)) :: Ls) w5) := Lib.hid (by rw [hw5]; exact H4.out.st rfl ⟨rfl, rfl, .inl rfl, rfl, rfl, rfl⟩)
    have hrg := row_rangeK (H5.out.get (k := n0) List.mem_cons_self)
    clear hw5 c63 f63 H4
    go_upto_region 13 with (first | (refine wpList_load_mid rfl 41 _ rfl n0 0 rfl (pkC p).toList _ hrg Tryz.underlying41 rfl (pk_len p) ?_) | ((with_reducible refine (HTk.out _ H5.out).mono ?_); rintro e w6 ⟨rfl, U, h3, h4⟩; have H6 := Lib.hid h3; have HU := Lib.hid h4; clear h3 h4 hrg))
    have HB2 := Lib.hid (HT.out p U (HQ.out _ _ HRd.out He.out).1 HF.out HU.out)
    go_wp2_with ((with_reducible refine (next_e HB2.out HM.out now _ H6.out).mono ?_); rintro e w7 (⟨rfl, h3⟩ | ⟨T, p2, g1, g2, g3, b, rfl, h3, h4⟩))
    · have H7 := Lib.hid h3
      clear h3
      go_ret
      exact ⟨p, er, HRd.out, Or.inr ⟨He.out, Hcl.out, Hu.out, Or.inr ⟨HF.out, U, HU.out, Or.inl ⟨rfl, H7.out.tl rfl⟩⟩⟩⟩
    · have H7 := Lib.hid h3
      have H8 := Lib.hid h4
      have Hg := Lib.hid (And.intro g1 (And.intro g2 g3))
      clear h3 h4 g1 g2 g3
      go_ret
      exact ⟨p, er, HRd.out, Or.inr ⟨He.out, Hcl.out, Hu.out, Or.inr ⟨HF.out, U, HU.out, Or.inr ⟨T, p2, Hg.out.1, Hg.out.2.1, Hg.out.2.2, b, rfl, H7.out, H8.out.tl rfl⟩⟩⟩⟩
  · have r5 : (p.kd == 5) = false := by rw [beq_eq_false_iff_ne]; omega
    have r2 : (p.kd == 2) = false := by rw [beq_eq_false_iff_ne]; omega
    have r4 : (p.kd == 4) = true := by rw [beq_iff_eq]; exact hk
    clear hk
    go_upto_region 9 with fail
    clear r5 r2 r4
    rcases bdic S.waits with hw | hw
    · rw [hw] at c63
      have Hw := Lib.hid hw
      clear hw
      have HNf : Hid (¬ FitsP S p) := Lib.hid (fun e => (by have := e.1; rw [Hw.out] at this; cases this))
      go_quiet (fail)
      go_wp2_with ((with_reducible refine (next_e HBd.out HN.out now _ (H3.out.drewN _)).mono ?_); rintro e w4 (⟨rfl, h3⟩ | ⟨T, p2, g1, g2, g3, b, rfl, h3, h4⟩))
      · have H4 := Lib.hid h3
        clear h3
        go_ret
        exact ⟨p, er, HRd.out, Or.inr ⟨He.out, Hcl.out, Hu.out, Or.inl ⟨HNf.out, Or.inl ⟨rfl, H4.out.tl rfl⟩⟩⟩⟩
      · have H4 := Lib.hid h3
        have H5 := Lib.hid h4
        have Hg := Lib.hid (And.intro g1 (And.intro g2 g3))
        clear h3 h4 g1 g2 g3
        go_ret
        exact ⟨p, er, HRd.out, Or.inr ⟨He.out, Hcl.out, Hu.out, Or.inl ⟨HNf.out, Or.inr ⟨T, p2, Hg.out.1, Hg.out.2.1, Hg.out.2.2, b, rfl, H4.out, H5.out.tl rfl⟩⟩⟩⟩
    rw [hw] at c63
    have Hw := Lib.hid hw
    have HWw := Lib.hid (HWt.out hw)
    clear hw
    have hwr : IntKind.i64.wrap (S.out.kd + 1) = S.out.kd + 1 := IntWalk.i64_in _ (by have := HWw.out.kd; omega)
    by_cases ek : p.kd = S.out.kd + 1
    rotate_left
    · have qek : (p.kd == S.out.kd + 1) = false := by rw [beq_eq_false_iff_ne]; exact ek
      have Hek := Lib.hid ek
      clear ek
      have HNf : Hid (¬ FitsP S p) := Lib.hid (fun e => Hek.out e.2.1)
      go_quiet (fail)
      go_wp2_with ((with_reducible refine (next_e HBd.out HN.out now _ (H3.out.drewN _)).mono ?_); rintro e w4 (⟨rfl, h3⟩ | ⟨T, p2, g1, g2, g3, b, rfl, h3, h4⟩))
      · have H4 := Lib.hid h3
        clear h3
        go_ret
        exact ⟨p, er, HRd.out, Or.inr ⟨He.out, Hcl.out, Hu.out, Or.inl ⟨HNf.out, Or.inl ⟨rfl, H4.out.tl rfl⟩⟩⟩⟩
      · have H4 := Lib.hid h3
        have H5 := Lib.hid h4
        have Hg := Lib.hid (And.intro g1 (And.intro g2 g3))
        clear h3 h4 g1 g2 g3
        go_ret
        exact ⟨p, er, HRd.out, Or.inr ⟨He.out, Hcl.out, Hu.out, Or.inl ⟨HNf.out, Or.inr ⟨T, p2, Hg.out.1, Hg.out.2.1, Hg.out.2.2, b, rfl, H4.out, H5.out.tl rfl⟩⟩⟩⟩
    have qek : (p.kd == S.out.kd + 1) = true := by rw [beq_iff_eq]; exact ek
    have Hek := Lib.hid ek
    clear ek
    by_cases ee : p.ep = S.out.ep
    rotate_left
    · have qee : (p.ep == S.out.ep) = false := by rw [beq_eq_false_iff_ne]; exact ee
      have Hee := Lib.hid ee
      clear ee
      have HNf : Hid (¬ FitsP S p) := Lib.hid (fun e => Hee.out e.2.2.1)
      go_quiet (fail)
      go_wp2_with ((with_reducible refine (next_e HBd.out HN.out now _ (H3.out.drewN _)).mono ?_); rintro e w4 (⟨rfl, h3⟩ | ⟨T, p2, g1, g2, g3, b, rfl, h3, h4⟩))
      · have H4 := Lib.hid h3
        clear h3
        go_ret
        exact ⟨p, er, HRd.out, Or.inr ⟨He.out, Hcl.out, Hu.out, Or.inl ⟨HNf.out, Or.inl ⟨rfl, H4.out.tl rfl⟩⟩⟩⟩
      · have H4 := Lib.hid h3
        have H5 := Lib.hid h4
        have Hg := Lib.hid (And.intro g1 (And.intro g2 g3))
        clear h3 h4 g1 g2 g3
        go_ret
        exact ⟨p, er, HRd.out, Or.inr ⟨He.out, Hcl.out, Hu.out, Or.inl ⟨HNf.out, Or.inr ⟨T, p2, Hg.out.1, Hg.out.2.1, Hg.out.2.2, b, rfl, H4.out, H5.out.tl rfl⟩⟩⟩⟩
    have qee : (p.ep == S.out.ep) = true := by rw [beq_iff_eq]; exact ee
    have Hee := Lib.hid ee
    clear ee
    by_cases es : p.sq = S.out.sq
    rotate_left
    · have qes : (p.sq == S.out.sq) = false := by rw [beq_eq_false_iff_ne]; exact es
      have Hes := Lib.hid es
      clear es
      have HNf : Hid (¬ FitsP S p) := Lib.hid (fun e => Hes.out e.2.2.2.1)
      go_quiet (fail)
      go_wp2_with ((with_reducible refine (next_e HBd.out HN.out now _ (H3.out.drewN _)).mono ?_); rintro e w4 (⟨rfl, h3⟩ | ⟨T, p2, g1, g2, g3, b, rfl, h3, h4⟩))
      · have H4 := Lib.hid h3
        clear h3
        go_ret
        exact ⟨p, er, HRd.out, Or.inr ⟨He.out, Hcl.out, Hu.out, Or.inl ⟨HNf.out, Or.inl ⟨rfl, H4.out.tl rfl⟩⟩⟩⟩
      · have H4 := Lib.hid h3
        have H5 := Lib.hid h4
        have Hg := Lib.hid (And.intro g1 (And.intro g2 g3))
        clear h3 h4 g1 g2 g3
        go_ret
        exact ⟨p, er, HRd.out, Or.inr ⟨He.out, Hcl.out, Hu.out, Or.inl ⟨HNf.out, Or.inr ⟨T, p2, Hg.out.1, Hg.out.2.1, Hg.out.2.2, b, rfl, H4.out, H5.out.tl rfl⟩⟩⟩⟩
    have qes : (p.sq == S.out.sq) = true := by rw [beq_iff_eq]; exact es
    have Hes := Lib.hid es
    clear es
    by_cases eo : p.op = S.out.op
    rotate_left
    · have qeo : (p.op == S.out.op) = false := by rw [beq_eq_false_iff_ne]; exact eo
      have Heo := Lib.hid eo
      clear eo
      have HNf : Hid (¬ FitsP S p) := Lib.hid (fun e => Heo.out e.2.2.2.2)
      go_quiet (fail)
      go_wp2_with ((with_reducible refine (next_e HBd.out HN.out now _ (H3.out.drewN _)).mono ?_); rintro e w4 (⟨rfl, h3⟩ | ⟨T, p2, g1, g2, g3, b, rfl, h3, h4⟩))
      · have H4 := Lib.hid h3
        clear h3
        go_ret
        exact ⟨p, er, HRd.out, Or.inr ⟨He.out, Hcl.out, Hu.out, Or.inl ⟨HNf.out, Or.inl ⟨rfl, H4.out.tl rfl⟩⟩⟩⟩
      · have H4 := Lib.hid h3
        have H5 := Lib.hid h4
        have Hg := Lib.hid (And.intro g1 (And.intro g2 g3))
        clear h3 h4 g1 g2 g3
        go_ret
        exact ⟨p, er, HRd.out, Or.inr ⟨He.out, Hcl.out, Hu.out, Or.inl ⟨HNf.out, Or.inr ⟨T, p2, Hg.out.1, Hg.out.2.1, Hg.out.2.2, b, rfl, H4.out, H5.out.tl rfl⟩⟩⟩⟩
    have qeo : (p.op == S.out.op) = true := by rw [beq_iff_eq]; exact eo
    have Heo := Lib.hid eo
    clear eo
    have HF : Hid (FitsP S p) := Lib.hid ⟨Hw.out, Hek.out, Hee.out, Hes.out, Heo.out⟩
    have HTk := Lib.hid (fun w (hc : Ck cb (unwait S) w0 ((n0, .cells (pkC p) 41 (0, 0)) :: Ls) w) => ctakes_any (unwait_bd HBd.out) HN.out p (HQ.out _ _ HRd.out He.out).1 (fun h2 h3 h4 => HWw.out.cls (by have := HWw.out.kd; have := Hek.out; omega) (by rw [← Heo.out]; exact h3) h4) (by rw [Heo.out]; exact HWw.out.ep) (fun h2 => HWw.out.ver (by have := Hek.out; omega)) now w hc)
    go_quiet (fail)
    generalize hwe : (World.drewN _ _) = w4
    have H4 : Hid (Ck cb S w0 ((n0, .cells (pkC p) 41 (0, 0)) :: Ls) w4) := Lib.hid (by rw [← hwe]; exact H3.out.drewN _)
    clear hwe d0 d2 d3 d4 c20 c22 c23 c24 c63 f63 H3 hwr qek qee qes qeo
    have c63 : w4.cell? ⟨cb, 63, none⟩ = some (.bool S.waits) := H4.out.cell 63
    have f63 := H4.out.fz 63
    go_upto_region 12 with fail
    obtain ⟨w5, hw5⟩ : ∃ u, u = w4.setCell ⟨cb, 63, none⟩ (.bool false) := ⟨_, rfl⟩
    rw [← hw5]
    have H5 : Hid (Ck cb (unwait S) w0 ((n0, .cells (pkC p) 41 (0, 0)) :: Ls) w5) := Lib.hid (by rw [hw5]; exact H4.out.st rfl ⟨rfl, rfl, .inl rfl, rfl, rfl, rfl⟩)
    have hrg := row_rangeK (H5.out.get (k := n0) List.mem_cons_self)
    clear hw5 c63 f63 H4
    go_upto_region 13 with (first | (refine wpList_load_mid rfl 41 _ rfl n0 0 rfl (pkC p).toList _ hrg Tryz.underlying41 rfl (pk_len p) ?_) | ((with_reducible refine (HTk.out _ H5.out).mono ?_); rintro e w6 ⟨rfl, U, h3, h4⟩; have H6 := Lib.hid h3; have HU := Lib.hid h4; clear h3 h4 hrg))
    have HB2 := Lib.hid (HT.out p U (HQ.out _ _ HRd.out He.out).1 HF.out HU.out)
    go_wp2_with ((with_reducible refine (next_e HB2.out HM.out now _ H6.out).mono ?_); rintro e w7 (⟨rfl, h3⟩ | ⟨T, p2, g1, g2, g3, b, rfl, h3, h4⟩))
    · have H7 := Lib.hid h3
      clear h3
      go_ret
      exact ⟨p, er, HRd.out, Or.inr ⟨He.out, Hcl.out, Hu.out, Or.inr ⟨HF.out, U, HU.out, Or.inl ⟨rfl, H7.out.tl rfl⟩⟩⟩⟩
    · have H7 := Lib.hid h3
      have H8 := Lib.hid h4
      have Hg := Lib.hid (And.intro g1 (And.intro g2 g3))
      clear h3 h4 g1 g2 g3
      go_ret
      exact ⟨p, er, HRd.out, Or.inr ⟨He.out, Hcl.out, Hu.out, Or.inr ⟨HF.out, U, HU.out, Or.inr ⟨T, p2, Hg.out.1, Hg.out.2.1, Hg.out.2.2, b, rfl, H7.out, H8.out.tl rfl⟩⟩⟩⟩
end
end Go.Proofs.YtiinponoeaihcaaGreat

/- A client: its bounds stay. -/
namespace Go.Proofs.YtiinponoeaihcaaGreat
open Go.RowKit Go.Shelf

theorem Bd.mono {N M : Nat} {S : Cs} (h : Bd N S) (hM : N ≤ M) : Bd M S :=
  ⟨h.life, ⟨h.cnt.1, by have := h.cnt.2; omega⟩, h.ep, ⟨h.vs.1, by have := h.vs.2; omega⟩, ⟨h.tail.1, by have := h.tail.2; omega⟩, h.f, h.hm, h.wm, Nat.le_trans h.hn hM,
    fun i H hi => ⟨(h.hold i H hi).1, (h.hold i H hi).2.1, Nat.le_trans (h.hold i H hi).2.2 hM⟩, h.fd, h.got, h.d, h.ok⟩
theorem num_bd {N : Nat} {S : Cs} (h : Bd N S) : Bd (N + 1) (numS S) :=
  ⟨h.life, ⟨by have := h.cnt.1; show 0 ≤ S.cnt + 1; omega, by have := h.cnt.2; show S.cnt + 1 ≤ _; omega⟩, h.ep, (h.mono (Nat.le_succ N)).vs, (h.mono (Nat.le_succ N)).tail, h.f, h.hm, h.wm, (h.mono (Nat.le_succ N)).hn, (h.mono (Nat.le_succ N)).hold, h.fd, h.got, h.d, h.ok⟩
theorem own_bd {N : Nat} {S : Cs} (h : Bd N S) : Bd (N + 1) (ownS S) := by
  unfold ownS
  split
  · have h := num_bd h
    exact ⟨h.life, h.cnt, h.ep, h.vs, h.tail, h.f, h.hm, h.wm, h.hn, h.hold, h.fd, h.got, h.d, h.ok⟩
  · exact h.mono (Nat.le_succ N)
theorem fin_bd {N : Nat} {S : Cs} (h : Bd N S) (te tf : Int) (td : ByteArray) (tn : Value) (tk tl ts : Int) : Bd N (finS S te tf td tn tk tl ts) :=
  ⟨h.life, h.cnt, h.ep, h.vs, h.tail, h.f, h.hm, h.wm, h.hn, h.hold, h.fd, h.got, h.d, fun hw => absurd rfl hw⟩
theorem okw_same {f : Nat → Int} {K L : Wk} (h : SameC K L) (hK : OkW f K) : OkW f L := by
  obtain ⟨a1, a2, a3, a4, a5, a6, a7, a8⟩ := h
  unfold OkW at hK ⊢
  rw [a1, a2, a3, a4, a5, a6, a7, a8]
  exact hK
theorem setK_bd {N : Nat} {S : Cs} {K : Wk} (h : Bd N S) (hs : SameC S.K K) (hg : GotOk K) : Bd N (setK S K) :=
  ⟨h.life, h.cnt, h.ep, h.vs, h.tail, h.f, h.hm, h.wm, h.hn, h.hold, by show I64 K.fd; rw [hs.2.2.2.2.1]; exact h.fd, hg, by show K.d.size ≤ 80; rw [hs.2.2.2.2.2.2.2]; exact h.d, fun hw he => okw_same hs (h.ok hw he)⟩
theorem reset_same (K : Wk) : SameC K (resetW K) := ⟨rfl, rfl, rfl, rfl, rfl, rfl, rfl, rfl⟩
theorem reset_got (K : Wk) : GotOk (resetW K) := ⟨Nat.zero_le _, fun s hs => by cases hs⟩
theorem setPh_bd {N : Nat} {S : Cs} (h : Bd N S) (q : Int) : Bd N (setPh S q) := setK_bd h ⟨rfl, rfl, rfl, rfl, rfl, rfl, rfl, rfl⟩ h.got
theorem setHold_bd {N : Nat} {S : Cs} {hold : Int → Option Hd} (h : Bd N S) (hh : ∀ i H, hold i = some H → (0 ≤ H.ns ∧ H.ns < 65536) ∧ (∀ r ∈ H.ov, r.d.length ≤ 80) ∧ H.ov.length ≤ N) : Bd N (setHold S hold) :=
  ⟨h.life, h.cnt, h.ep, h.vs, h.tail, h.f, h.hm, h.wm, h.hn, hh, h.fd, h.got, h.d, h.ok⟩
theorem fewer_bd {N : Nat} {S : Cs} {hold : Int → Option Hd} (h : Bd N S) (hh : Fewer S hold) : Bd N (setHold S hold) := setHold_bd h fun i H hi => h.hold i H (hh i H hi)
theorem addT_bd {N n : Nat} {S : Cs} (h : Bd N S) (hn : n ≤ 96) : Bd (N + 1) (addT S n) :=
  ⟨h.life, (h.mono (Nat.le_succ N)).cnt, h.ep, (h.mono (Nat.le_succ N)).vs, ⟨by have := h.tail.1; show 0 ≤ S.tail + n; omega, by have := h.tail.2; show S.tail + n ≤ _; omega⟩, h.f, h.hm, h.wm, (h.mono (Nat.le_succ N)).hn, (h.mono (Nat.le_succ N)).hold, h.fd, h.got, h.d, h.ok⟩
theorem anew_bd {N : Nat} {S : Cs} (h : Bd N S) {ep : Int} (he : 0 ≤ ep ∧ ep < 4294967296) (hk : S.wk ≠ none → ep ≠ 0 → OkW S.f S.K) : Bd N (anewS S ep) :=
  ⟨h.life, h.cnt, he, ⟨Int.le_refl _, by show (0 : Int) ≤ _; omega⟩, ⟨Int.le_refl _, by show (0 : Int) ≤ _; omega⟩, h.f, h.hm, h.wm, h.hn, h.hold, h.fd, h.got, h.d, hk⟩
theorem pause_bd {N : Nat} {S : Cs} (h : Bd N S) (q : Int) : Bd N (setPause S q) := ⟨h.life, h.cnt, h.ep, h.vs, h.tail, h.f, h.hm, h.wm, h.hn, h.hold, h.fd, h.got, h.d, h.ok⟩
theorem incV_bd {N : Nat} {S : Cs} (h : Bd N S) : Bd (N + 1) (incV S) :=
  ⟨h.life, (h.mono (Nat.le_succ N)).cnt, h.ep, ⟨by have := h.vs.1; show 0 ≤ S.vs + 1; omega, by have := h.vs.2; show S.vs + 1 ≤ _; omega⟩, (h.mono (Nat.le_succ N)).tail, h.f, h.hm, h.wm, (h.mono (Nat.le_succ N)).hn, (h.mono (Nat.le_succ N)).hold, h.fd, h.got, h.d, h.ok⟩
theorem lose_bd {N : Nat} {S : Cs} (h : Bd N S) : Bd N (loseS S) :=
  have h1 := setK_bd h (reset_same S.K) (reset_got S.K)
  ⟨h.life, h.cnt, h.ep, h.vs, h.tail, h.f, h.hm, h.wm, h.hn, fun i H hi => (by cases hi), h1.fd, h1.got, h1.d, h1.ok⟩
theorem did_bd {N : Nat} {S T : Cs} (h : Bd N S) (hD : DidP S T) : Bd (N + 1) T := by
  have h' := h.mono (Nat.le_succ N)
  rcases hD with rfl | ⟨_, K, hs, hg, rfl | ⟨D, rfl⟩⟩ | ⟨q, rfl⟩ | ⟨q, n, i, H, v, hn, hi, rfl⟩
  · exact h'
  · exact setK_bd h' hs hg
  · exact fin_bd (setK_bd h' hs hg) _ _ _ _ _ _ _
  · exact setPh_bd h' q
  · obtain ⟨a1, a2, a3⟩ := h.hold i H hi
    have hp := setPh_bd h q
    have ho : Bd (N + 1) (ownS (setPh S q)) := own_bd hp
    have hq : (recW (setPh S q)).d.length ≤ 80 := Nat.le_trans (recW_len _) hp.d
    have hparts := ownS_parts (setPh S q)
    refine fin_bd (setHold_bd (S := addT (ownS (setPh S q)) n) ⟨ho.life, ho.cnt, ho.ep, ho.vs, ?_, ho.f, ho.hm, ho.wm, ho.hn, ho.hold, ho.fd, ho.got, ho.d, ho.ok⟩ fun j J hj => ?_) _ _ _ _ _ _ _
    · have e : (ownS (setPh S q)).tail = S.tail := hparts.2.2.1
      have := h.tail
      show 0 ≤ (ownS (setPh S q)).tail + n ∧ (ownS (setPh S q)).tail + n ≤ _
      rw [e]
      omega
    · unfold updH at hj
      split at hj
      · cases hj
        refine ⟨a1, fun r hr => ?_, ?_⟩
        · rcases List.mem_append.1 (show r ∈ H.ov ++ [recW (setPh S q)] from hr) with hr | hr
          · exact a2 r hr
          · rw [List.mem_singleton.1 hr]
            exact hq
        · show (H.ov ++ [recW (setPh S q)]).length ≤ _
          rw [List.length_append]
          exact Nat.succ_le_succ a3
      · exact h'.hold j J hj
theorem ans_bd {N : Nat} {S T : Cs} {p : Pk} (h : Bd N S) (hp : POk p) (hA : AnsP S p T) : Bd N T := by
  rcases hA with ⟨rfl, _⟩ | rfl | ⟨f, tf, A, n, c, hf, rfl⟩
  · exact h
  · exact fin_bd h _ _ _ _ _ _ _
  · have hF : ∀ k, 0 ≤ f k ∧ f k < 256 := fun j => by
      rcases hf with rfl | ⟨k, hk, rfl | rfl⟩
      · exact h.f j
      · unfold updF
        split
        · exact hp.ino
        · exact h.f j
      · unfold updF
        split
        · omega
        · exact h.f j
    exact ⟨h.life, h.cnt, h.ep, h.vs, h.tail, hF, h.hm, h.wm, h.hn, h.hold, h.fd, h.got, h.d, fun hw => absurd rfl hw⟩
theorem look_bd2 {N : Nat} {S U : Cs} (h : Bd N S) {ep : Int} (he : 0 ≤ ep ∧ ep < 4294967296) (hU : LookP (anewS S ep) U) : Bd N U := by
  rcases hU with ⟨rfl, h1⟩ | ⟨_, _, er, rfl⟩
  · exact anew_bd h he fun h2 h3 => by
      rcases h1 with e | e | e
      · exact absurd e h2
      · exact absurd e h3
      · exact e
  · exact ⟨h.life, h.cnt, he, ⟨Int.le_refl _, by show (0 : Int) ≤ _; omega⟩, ⟨Int.le_refl _, by show (0 : Int) ≤ _; omega⟩, h.f, h.hm, h.wm, h.hn, h.hold, h.fd, h.got, h.d, fun hw => absurd rfl hw⟩
theorem take_bd {N : Nat} {S T : Cs} {p : Pk} (h : Bd N S) (hp : POk p) (hep : S.ep ≠ 0 ∨ p.op = 20) (hT : TakeP S p T) : Bd (N + 2) T := by
  have h2 := h.mono (show N ≤ N + 2 by omega)
  have hk : p.op ≠ 20 → (S.wk ≠ none → p.at_ ≠ 0 → OkW S.f S.K) := fun ho hw _ => h.ok hw (hep.resolve_right ho)
  rcases hT with ⟨_, rfl⟩ | ⟨_, hD⟩ | ⟨_, _, q, rfl⟩ | ⟨_, hL⟩ | ⟨ho, rfl | rfl⟩ | ⟨_, ⟨b, rfl⟩ | ⟨q, rfl⟩ | rfl⟩ | ⟨ho, ⟨hold, hf, rfl⟩ | rfl⟩ | ⟨_, _, _, _, hA⟩ | ⟨_, rfl⟩
  · exact lose_bd h2
  · exact did_bd (incV_bd h) hD
  · exact pause_bd h2 q
  · exact look_bd2 h2 hp.at_ hL
  · exact anew_bd h2 hp.at_ (hk (by omega))
  · exact fin_bd (anew_bd h2 hp.at_ (hk (by omega))) _ _ _ _ _ _ _
  · refine ⟨h2.life, h2.cnt, h2.ep, h2.vs, h2.tail, h2.f, h2.hm, h2.wm, by have := h.hn; show S.hn + 1 ≤ _; omega, fun i H hi => ?_, h2.fd, h2.got, h2.d, h2.ok⟩
    have hi : updH S.hold p.ino (some (newH S p b)) i = some H := hi
    unfold updH at hi
    split at hi
    · cases hi
      exact ⟨hp.ns, fun r hr => (by cases hr), Nat.zero_le _⟩
    · exact h2.hold i H hi
  · exact pause_bd h2 q
  · exact fin_bd h2 _ _ _ _ _ _ _
  · exact fewer_bd (S := anewS S p.at_) (anew_bd h2 hp.at_ (hk (by omega))) hf
  · exact fin_bd h2 _ _ _ _ _ _ _
  · exact ans_bd h2 hp hA
  · exact h2
theorem next_bd {N : Nat} {S T : Cs} {p : Pk} (h : Bd N S) (hT : NextP S T p) : Bd (N + 2) T := by
  have h2 := h.mono (show N ≤ N + 2 by omega)
  rcases hT with ⟨_, rfl, _⟩ | ⟨_, _, rfl, _⟩ | ⟨_, _, _, _, _, _, rfl, _⟩ | ⟨_, _, _, hold, k, _, hf, rfl, _⟩ | ⟨_, _, _, own, rfl, _⟩ | ⟨_, _, _, rfl, _⟩ | ⟨_, _, _, rfl, _⟩ | ⟨_, _, _, rfl, _⟩
  · exact (num_bd h).mono (by omega)
  · exact (num_bd h).mono (by omega)
  · exact (own_bd h).mono (by omega)
  · exact (own_bd (fewer_bd h hf)).mono (by omega)
  · have h3 := setK_bd h2 (reset_same S.K) (reset_got S.K)
    refine ⟨h2.life, ((num_bd h).mono (by omega)).cnt, h2.ep, h2.vs, h2.tail, h2.f, h2.hm, h2.wm, h2.hn, fun i H hi => ?_, h3.fd, h3.got, h3.d, h3.ok⟩
    have hi : updH S.hold (inoF S.f S.K.fd) none i = some H := hi
    unfold updH at hi
    split at hi
    · cases hi
    · exact h2.hold i H hi
  · exact h2
  · exact num_bd (own_bd h)
  · exact (own_bd h).mono (by omega)
end Go.Proofs.YtiinponoeaihcaaGreat

/- A client: what it waits for, and its numbers. -/
namespace Go.Proofs.YtiinponoeaihcaaGreat
open Go.RowKit Go.Shelf

/-- what no step but Start turns -/
structure Near (S T : Cs) : Prop where
  waits : T.waits = S.waits
  life : T.life = S.life
  cl : T.cl = S.cl
  up : T.up = S.up
  out : T.out = S.out
  cnt : S.cnt ≤ T.cnt
  id : T.id = S.id ∨ T.id = T.life * 1048576 + T.cnt
theorem Near.refl (S : Cs) : Near S S := ⟨rfl, rfl, rfl, rfl, rfl, Int.le_refl _, Or.inl rfl⟩
theorem Near.own (S : Cs) : Near S (ownS S) := by
  unfold ownS
  split
  · exact ⟨rfl, rfl, rfl, rfl, rfl, by show S.cnt ≤ S.cnt + 1; omega, Or.inr rfl⟩
  · exact Near.refl S
theorem did_near {S T : Cs} (hD : DidP S T) : Near S T := by
  rcases hD with rfl | ⟨_, K, hs, hg, rfl | ⟨D, rfl⟩⟩ | ⟨q, rfl⟩ | ⟨q, n, i, H, v, hn, hi, rfl⟩
  · exact Near.refl _
  · exact ⟨rfl, rfl, rfl, rfl, rfl, Int.le_refl _, Or.inl rfl⟩
  · exact ⟨rfl, rfl, rfl, rfl, rfl, Int.le_refl _, Or.inl rfl⟩
  · exact ⟨rfl, rfl, rfl, rfl, rfl, Int.le_refl _, Or.inl rfl⟩
  · have h := Near.own (setPh S q)
    exact ⟨h.waits, h.life, h.cl, h.up, h.out, h.cnt, h.id⟩
theorem ans_near {S T : Cs} {p : Pk} (hA : AnsP S p T) : Near S T := by
  rcases hA with ⟨rfl, _⟩ | rfl | ⟨f, tf, A, n, c, hf, rfl⟩
  · exact Near.refl _
  · exact ⟨rfl, rfl, rfl, rfl, rfl, Int.le_refl _, Or.inl rfl⟩
  · exact ⟨rfl, rfl, rfl, rfl, rfl, Int.le_refl _, Or.inl rfl⟩
theorem take_near {S T : Cs} {p : Pk} (hT : TakeP S p T) : Near S T := by
  rcases hT with ⟨_, rfl⟩ | ⟨_, hD⟩ | ⟨_, _, q, rfl⟩ | ⟨_, ⟨rfl, _⟩ | ⟨_, _, er, rfl⟩⟩ | ⟨ho, rfl | rfl⟩ | ⟨_, ⟨b, rfl⟩ | ⟨q, rfl⟩ | rfl⟩ | ⟨ho, ⟨hold, hf, rfl⟩ | rfl⟩ | ⟨_, _, _, _, hA⟩ | ⟨_, rfl⟩
  · exact ⟨rfl, rfl, rfl, rfl, rfl, Int.le_refl _, Or.inl rfl⟩
  · have h := did_near hD
    exact ⟨h.waits, h.life, h.cl, h.up, h.out, h.cnt, h.id⟩
  · exact ⟨rfl, rfl, rfl, rfl, rfl, Int.le_refl _, Or.inl rfl⟩
  · exact ⟨rfl, rfl, rfl, rfl, rfl, Int.le_refl _, Or.inl rfl⟩
  · exact ⟨rfl, rfl, rfl, rfl, rfl, Int.le_refl _, Or.inl rfl⟩
  · exact ⟨rfl, rfl, rfl, rfl, rfl, Int.le_refl _, Or.inl rfl⟩
  · exact ⟨rfl, rfl, rfl, rfl, rfl, Int.le_refl _, Or.inl rfl⟩
  · exact ⟨rfl, rfl, rfl, rfl, rfl, Int.le_refl _, Or.inl rfl⟩
  · exact ⟨rfl, rfl, rfl, rfl, rfl, Int.le_refl _, Or.inl rfl⟩
  · exact ⟨rfl, rfl, rfl, rfl, rfl, Int.le_refl _, Or.inl rfl⟩
  · exact ⟨rfl, rfl, rfl, rfl, rfl, Int.le_refl _, Or.inl rfl⟩
  · exact ⟨rfl, rfl, rfl, rfl, rfl, Int.le_refl _, Or.inl rfl⟩
  · exact ans_near hA
  · exact Near.refl _
/-- what is sent, and beside whom -/
def outS (T : Cs) (p : Pk) (now : Int) : Cs := { T with out := sentP T p, waits := true, sent := now, asked := now }
/-- what a client that waits waits for; its work is still there -/
structure Wt2 (S : Cs) : Prop where
  kd : S.out.kd = 1 ∨ S.out.kd = 3
  cl : S.out.cl = S.cl
  cls : S.out.kd = 3 → S.out.op = 2 → S.wk ≠ none ∧ S.K.kd = 2
  ep : S.ep ≠ 0 ∨ S.out.op = 20
  ver : S.out.kd = 1 → S.ep ≠ 0
theorem Wt2.wt {S : Cs} (h : Wt2 S) : Wt S := ⟨h.kd, fun a b _ => (h.cls a b).2, h.ep, h.ver⟩
theorem own_keeps (S : Cs) : (ownS S).wk = S.wk ∧ (ownS S).K = S.K ∧ (ownS S).ep = S.ep ∧ (ownS S).life = S.life ∧ (ownS S).up = S.up := by
  unfold ownS
  split <;> exact ⟨rfl, rfl, rfl, rfl, rfl⟩
theorem next_wt {S T : Cs} {p : Pk} (now : Int) (hT : NextP S T p) : Wt2 (outS T p now) := by
  rcases hT with ⟨_, rfl, rfl⟩ | ⟨he, _, rfl, rfl⟩ | ⟨he, hw, h2, _, _, _, rfl, p2, fl, _, rfl⟩ | ⟨he, hw, h2, hold, k, _, hf, rfl, rfl⟩ | ⟨he, hw, _, own, rfl, rfl⟩ | ⟨he, hw, _, rfl, a, n, _, _, _, rfl⟩ | ⟨he, hw, _, rfl, rfl⟩ | ⟨he, hw, _, rfl, op, a, n, d, rfl, _⟩
  · exact ⟨Or.inr rfl, rfl, fun _ e => absurd e (by decide : (20 : Int) ≠ 2), Or.inr rfl, fun e => absurd e (by decide : (3 : Int) ≠ 1)⟩
  · exact ⟨Or.inr rfl, rfl, fun _ e => absurd e (by decide : (21 : Int) ≠ 2), Or.inl he, fun e => absurd e (by decide : (3 : Int) ≠ 1)⟩
  · have he' : (ownS S).ep ≠ 0 := by rw [(own_keeps S).2.2.1]; exact he
    exact ⟨Or.inr rfl, rfl, fun _ e => absurd e h2, Or.inl he', fun e => absurd e (by decide : (3 : Int) ≠ 1)⟩
  · have hk := own_keeps (setHd S hold)
    have he' : (ownS (setHd S hold)).ep ≠ 0 := by rw [hk.2.2.1]; exact he
    exact ⟨Or.inr rfl, rfl, fun _ _ => ⟨by show (ownS (setHd S hold)).wk ≠ none; rw [hk.1]; exact hw, by show (ownS (setHd S hold)).K.kd = 2; rw [hk.2.1]; exact h2⟩, Or.inl he', fun e => absurd e (by decide : (3 : Int) ≠ 1)⟩
  · exact ⟨Or.inr rfl, rfl, fun _ e => absurd e (by decide : (22 : Int) ≠ 2), Or.inl he, fun e => absurd e (by decide : (3 : Int) ≠ 1)⟩
  · exact ⟨Or.inl rfl, rfl, fun e => absurd e (by decide : (1 : Int) ≠ 3), Or.inl he, fun _ => he⟩
  · have he' : (numS (ownS S)).ep ≠ 0 := by show (ownS S).ep ≠ 0; rw [(own_keeps S).2.2.1]; exact he
    exact ⟨Or.inr rfl, rfl, fun _ e => absurd e (by decide : (24 : Int) ≠ 2), Or.inl he', fun e => absurd e (by decide : (3 : Int) ≠ 1)⟩
  · have he' : (ownS S).ep ≠ 0 := by rw [(own_keeps S).2.2.1]; exact he
    exact ⟨Or.inl rfl, rfl, fun e => absurd e (by decide : (1 : Int) ≠ 3), Or.inl he', fun _ => he'⟩
/-- the numbers that were given out -/
def topN (S : Cs) : Int := S.life * 1048576 + S.cnt
structure Sn (g : Int) (S : Cs) : Prop where
  top : g ≤ topN S
  id : S.id ≤ topN S
  out : S.waits = true → S.out.kd = 3 → S.out.sq = g ∨ (S.out.sq = S.id ∧ S.wk ≠ none)
theorem near_top {S T : Cs} (h : Near S T) : topN S ≤ topN T := by
  unfold topN
  rw [h.life]
  have := h.cnt
  omega
theorem near_sn {g : Int} {S T : Cs} (h : Sn g S) (hn : Near S T) (hw : S.waits = false) : Sn g T := by
  have ht := near_top hn
  refine ⟨Int.le_trans h.top ht, ?_, fun e => ?_⟩
  · rcases hn.id with e | e
    · rw [e]; exact Int.le_trans h.id ht
    · rw [e]; exact Int.le_refl _
  · rw [hn.waits, hw] at e
    cases e
theorem num_top (S : Cs) : topN (numS S) = topN S + 1 := by
  show S.life * 1048576 + (S.cnt + 1) = S.life * 1048576 + S.cnt + 1
  omega
theorem num_sn {g : Int} {S : Cs} (h : Sn g S) (hw : S.waits = false) : Sn g (numS S) :=
  near_sn h ⟨rfl, rfl, rfl, rfl, rfl, by show S.cnt ≤ S.cnt + 1; omega, Or.inl rfl⟩ hw
theorem fresh_sn {g : Int} {T : Cs} {p : Pk} (now : Int) (hg : g < topN T) (hid : T.id ≤ topN T) (hq : p.sq = topN T) : (g < p.sq ∨ p.sq = T.id) ∧ Sn (max g p.sq) (outS T p now) := by
  have hm : max g p.sq = p.sq := by omega
  refine ⟨Or.inl (by omega), ?_, hid, fun _ _ => Or.inl hm.symm⟩
  rw [hm, hq]
  exact Int.le_refl _
theorem own_sn {g : Int} {T : Cs} {p : Pk} (now : Int) (hg : g ≤ topN T) (hid : T.id ≤ topN T) (hq : p.sq = T.id) (hk : T.wk ≠ none) : (g < p.sq ∨ p.sq = T.id) ∧ Sn (max g p.sq) (outS T p now) := by
  refine ⟨Or.inr hq, ?_, hid, fun _ _ => Or.inr ⟨hq, hk⟩⟩
  show max g p.sq ≤ topN T
  omega
theorem verb_sn {g : Int} {T : Cs} {p : Pk} (now : Int) (hg : g ≤ topN T) (hid : T.id ≤ topN T) (hk : p.kd = 1) : Sn g (outS T p now) :=
  ⟨hg, hid, fun _ e => by have e : p.kd = 3 := e; omega⟩
/-- what a client that does not wait sends: its number is new, or the call's own -/
def SentN (g : Int) (T : Cs) (p : Pk) (now : Int) : Prop := (p.kd = 1 ∧ Sn g (outS T p now)) ∨ (p.kd = 3 ∧ (g < p.sq ∨ p.sq = T.id) ∧ Sn (max g p.sq) (outS T p now))
theorem next_sn {g : Int} {S T : Cs} {p : Pk} (now : Int) (h : Sn g S) (hw : S.waits = false) (hT : NextP S T p) : SentN g T p now := by
  have hn := num_sn h hw
  have h1 := num_top S
  have ho := near_sn h (Near.own S) hw
  have hlt : g < topN (numS S) := by have := h.top; omega
  rcases hT with ⟨_, rfl, rfl⟩ | ⟨he, _, rfl, rfl⟩ | ⟨he, hk, h2, _, _, _, rfl, p2, fl, _, rfl⟩ | ⟨he, hk, h2, hold, k, _, hf, rfl, rfl⟩ | ⟨he, hk, _, own, rfl, rfl⟩ | ⟨he, hk, _, rfl, a, n, _, _, _, rfl⟩ | ⟨he, hk, _, rfl, rfl⟩ | ⟨he, hk, _, rfl, op, a, n, d, rfl, _⟩
  · exact Or.inr ⟨rfl, fresh_sn now hlt hn.id rfl⟩
  · exact Or.inr ⟨rfl, fresh_sn now hlt hn.id rfl⟩
  · exact Or.inr ⟨rfl, own_sn now ho.top ho.id rfl (by rw [(own_keeps S).1]; exact hk)⟩
  · have hs : Sn g (setHd S hold) := ⟨h.top, h.id, fun e => by rw [show (setHd S hold).waits = false from hw] at e; cases e⟩
    have ho2 := near_sn hs (Near.own (setHd S hold)) hw
    exact Or.inr ⟨rfl, own_sn now ho2.top ho2.id rfl (by rw [(own_keeps (setHd S hold)).1]; exact hk)⟩
  · exact Or.inr ⟨rfl, fresh_sn now (T := leaseS S (inoF S.f S.K.fd)) hlt hn.id rfl⟩
  · exact Or.inl ⟨rfl, verb_sn now h.top h.id rfl⟩
  · have hw2 : (ownS S).waits = false := by rw [(Near.own S).waits]; exact hw
    have hn2 := num_sn ho hw2
    have h12 := num_top (ownS S)
    exact Or.inr ⟨rfl, fresh_sn now (by have := ho.top; omega) hn2.id rfl⟩
  · exact Or.inl ⟨rfl, verb_sn now ho.top ho.id rfl⟩
/-- another message to the same -/
theorem tick_sn {g : Int} {S : Cs} (now : Int) (h : Sn g S) : Sn g (sentAt S now) := ⟨h.top, h.id, h.out⟩
theorem tick_wt {S : Cs} (now : Int) (h : Wt2 S) : Wt2 (sentAt S now) := ⟨h.kd, h.cl, h.cls, h.ep, h.ver⟩
/-- a call that is asked -/
theorem given_sn {g : Int} {S : Cs} (K : Wk) (b : Nat) (hwk : S.wk = none) (h : Sn g S) (h0 : 0 ≤ topN S) : Sn g (givenS S K b) :=
  ⟨h.top, by show (0 : Int) ≤ topN S; exact h0, fun e1 e2 => by
    rcases h.out e1 e2 with e | ⟨_, e⟩
    · exact Or.inl e
    · exact absurd hwk e⟩
theorem look_sn {g : Int} {S U : Cs} (h : Sn g S) (hb : S.wk ≠ none → S.waits = true → S.out.sq = g ∨ S.out.kd ≠ 3) (hU : LookP S U) : Sn g U := by
  rcases hU with ⟨rfl, _⟩ | ⟨hk, _, er, rfl⟩
  · exact h
  · refine ⟨h.top, h.id, fun e1 e2 => ?_⟩
    rcases hb hk e1 with e | e
    · exact Or.inl e
    · exact absurd e2 e
theorem given_wt {S U : Cs} {K : Wk} {b : Nat} (hwk : S.wk = none) (h : Wt2 S) (hU : LookP (givenS S K b) U) : Wt2 U := by
  have hc : S.out.kd = 3 → S.out.op ≠ 2 := fun a c => (h.cls a c).1 hwk
  rcases hU with ⟨rfl, _⟩ | ⟨_, _, er, rfl⟩
  · exact ⟨h.kd, h.cl, fun a c => absurd c (hc a), h.ep, h.ver⟩
  · exact ⟨h.kd, h.cl, fun a c => absurd c (hc a), h.ep, h.ver⟩
/-- what the law's rounds keep -/
structure Iv (N : Nat) (g : Int) (S : Cs) : Prop where
  bd : Bd N S
  sn : Sn g S
  wt : S.waits = true → Wt2 S
theorem top_ge {N : Nat} {S : Cs} (h : Bd N S) : 0 ≤ topN S := by
  have := h.life.1
  have := h.cnt.1
  unfold topN
  omega
theorem Iv.told {N : Nat} {g : Int} {S : Cs} (h : Iv N g S) : Iv N g (toldS S) :=
  ⟨⟨h.bd.life, h.bd.cnt, h.bd.ep, h.bd.vs, h.bd.tail, h.bd.f, h.bd.hm, h.bd.wm, h.bd.hn, h.bd.hold, h.bd.fd, h.bd.got, h.bd.d, h.bd.ok⟩, ⟨h.sn.top, h.sn.id, h.sn.out⟩, fun e => have q := h.wt e; ⟨q.kd, q.cl, q.cls, q.ep, q.ver⟩⟩
theorem Iv.given {N : Nat} {g : Int} {S U : Cs} {K : Wk} {b : Nat} (h : Iv N g S) (hwk : S.wk = none) (hg : K.got = []) (hf : I64 K.fd) (hd : K.d.size ≤ 80) (hU : LookP (givenS S K b) U) : Iv N g U := by
  have hw : U.waits = S.waits := by rcases hU with ⟨rfl, _⟩ | ⟨_, _, er, rfl⟩ <;> rfl
  refine ⟨look_bd h.bd hg hf hd hU, look_sn (given_sn K b hwk h.sn (top_ge h.bd)) (fun _ e => ?_) hU, fun e => given_wt hwk (h.wt (by rw [← hw]; exact e)) hU⟩
  rcases (h.wt e).kd with e3 | e3
  · exact Or.inr (by show S.out.kd ≠ 3; omega)
  · rcases h.sn.out e e3 with e4 | ⟨_, e4⟩
    · exact Or.inl e4
    · exact absurd hwk e4
theorem Iv.take {N : Nat} {g : Int} {S U : Cs} {p : Pk} (h : Iv N g S) (hf : FitsP S p) (hp : POk p) (hT : TakeP (unwait S) p U) : Iv (N + 2) g U := by
  have hw := h.wt hf.1
  have hn := take_near hT
  have hs : Sn g (unwait S) := ⟨h.sn.top, h.sn.id, fun e => by cases e⟩
  refine ⟨take_bd (unwait_bd h.bd) hp (by rw [hf.2.2.2.2]; exact hw.ep) hT, near_sn hs hn rfl, fun e => ?_⟩
  rw [hn.waits] at e
  cases e
theorem Iv.sent {N : Nat} {g : Int} {S T : Cs} {p : Pk} (now : Int) (h : Iv N g S) (hw : S.waits = false) (hT : NextP S T p) : Bd (N + 2) (outS T p now) ∧ Wt2 (outS T p now) ∧ SentN g T p now := by
  have hb := next_bd h.bd hT
  exact ⟨⟨hb.life, hb.cnt, hb.ep, hb.vs, hb.tail, hb.f, hb.hm, hb.wm, hb.hn, hb.hold, hb.fd, hb.got, hb.d, hb.ok⟩, next_wt now hT, next_sn now h.sn hw hT⟩
theorem Iv.start {S : Cs} {life : Int} {a b : Nat} (h : 1 ≤ life ∧ life < 1048576) : Iv 0 0 (startS S life a b) :=
  ⟨startS_bd h, ⟨by show (0 : Int) ≤ life * 1048576 + 0; omega, by show (0 : Int) ≤ life * 1048576 + 0; omega, fun e => by cases e⟩, fun e => by cases e⟩
end Go.Proofs.YtiinponoeaihcaaGreat

/- commonsref07: a writer of bytes. -/
namespace Go.Proofs.YtiinponoeaihcaaGreat
open Go.RowKit Go.Shelf

attribute [local go_sem] Oper.semAt_some
/-- a writer in block b that holds the bytes L, beside variables of one's own -/
def Wr (b : Nat) (L : List UInt8) (no : Bool) (w0 : World) (Ls : List (Nat × Obj)) (w : World) : Prop :=
  ∃ v, w.heap[b]? = some (.cells #[v, .bool no] 74 (0, 0)) ∧ OwnB w w0.heap.size v L ∧ v.ownBlock ≠ some b ∧ w0.heap.size ≤ b ∧ Below w0.heap.size w0 w ∧ ∀ p ∈ Ls, p.1 ≠ b ∧ v.ownBlock ≠ some p.1 ∧ w0.heap.size ≤ p.1 ∧ w.heap[p.1]? = some p.2
section
variable {b : Nat} {L : List UInt8} {no : Bool} {w0 w w' : World} {Ls : List (Nat × Obj)}
theorem Wr.below (h : Wr b L no w0 Ls w) (hb : Below w.heap.size w w') : Wr b L no w0 Ls w' := by
  obtain ⟨v, h1, h2, h3, h4, h5, h6⟩ := h
  exact ⟨v, (hb.block _ (lt_get h1)).trans h1, h2.keep hb, h3, h4, h5.trans (hb.mono h5.size), fun p hp => by
    obtain ⟨q1, q2, q3, q4⟩ := h6 p hp
    exact ⟨q1, q2, q3, (hb.block _ (lt_get q4)).trans q4⟩⟩
theorem Wr.get (h : Wr b L no w0 Ls w) {k : Nat} {o : Obj} (hk : (k, o) ∈ Ls) : w.heap[k]? = some o := by
  obtain ⟨v, h1, h2, h3, h4, h5, h6⟩ := h
  exact (h6 _ hk).2.2.2
theorem Wr.bad (h : Wr b L no w0 Ls w) : Wr b L true w0 Ls (w.setCell ⟨b, 1, none⟩ (.bool true)) := by
  obtain ⟨v, h1, h2, h3, h4, h5, h6⟩ := h
  have hO : Only (fun k => k = b) w (w.setCell ⟨b, 1, none⟩ (.bool true)) := only_setCell _ _ _ rfl
  refine ⟨v, Go.heap_setCell_same w b 1 _ _ _ h1, row_keep h2 fun k hk => hO.block k (own_block h2 k hk).2 fun e => h3 (by rw [hk, e]), h3, h4, h5.trans (hO.below h5.size fun k hk e => by omega), fun p hp => ?_⟩
  obtain ⟨q1, q2, q3, q4⟩ := h6 p hp
  exact ⟨q1, q2, q3, (hO.block _ (lt_get q4) q1).trans q4⟩
theorem Wr.turn {v : Value} {M : List UInt8} (h : Wr b L no w0 Ls w) (hb : Below w.heap.size w w') (ho : OwnB w' w.heap.size v M) : Wr b M no w0 Ls (w'.setCell ⟨b, 0, none⟩ v) := by
  have hsz : ∀ k, v.ownBlock = some k → w.heap.size ≤ k := fun k hk => (own_block ho k hk).1
  have hw := h.below hb
  obtain ⟨u, g1, g2, g3, g4, g5, g6⟩ := h
  obtain ⟨u', h1, h2, h3, h4, h5, h6⟩ := hw
  have hO : Only (fun k => k = b) w' (w'.setCell ⟨b, 0, none⟩ v) := only_setCell _ _ _ rfl
  have hne : v.ownBlock ≠ some b := fun e => by have := hsz b e; have := lt_get g1; omega
  refine ⟨v, Go.heap_setCell_same w' b 0 _ _ _ h1, row_keep (ho.mono g5.size) fun k hk => hO.block k (own_block ho k hk).2 fun e => hne (by rw [hk, e]), hne, h4, h5.trans (hO.below h5.size fun k hk e => by omega), fun p hp => ?_⟩
  obtain ⟨q1, q2, q3, q4⟩ := h6 p hp
  refine ⟨q1, fun e => ?_, q3, (hO.block _ (lt_get q4) q1).trans q4⟩
  have := hsz p.1 e
  have := lt_get (g6 p hp).2.2.2
  omega
/-- a number that a writer takes -/
def numOk (n : Int) (k : Nat) (lo hi : Int) : Bool := Gd.fitsB n k && decide (lo ≤ n) && decide (n ≤ hi)
def numL (L : List UInt8) (n : Int) (k : Nat) (lo hi : Int) : List UInt8 := if numOk n k lo hi then Gd.put L n k else L
set_option maxHeartbeats 4000000 in
set_option maxRecDepth 100000 in
theorem wnum_any (n : Int) (k : Nat) (lo hi : Int) (hk : Gd.wid k) (hn : I64 n) (hl : L.length ≤ 4000000) (w : World) (h : Wr b L no w0 Ls w) :
    Calls Tryz.prog 28 #[.pointer (some ⟨b, 0, none⟩), .int .i64 n, .int .i64 k, .int .i64 lo, .int .i64 hi] w fun e w' => e = .returned (.tuple #[]) ∧ Wr b (numL L n k lo hi) (no || !numOk n k lo hi) w0 Ls w' := by
  have HF := Lib.hid (rfits_any n k hk hn w)
  obtain ⟨v, h1, h2, _⟩ := id h
  obtain ⟨A, c, hv⟩ := rv_slice h2
  have e0 : w.cell? ⟨b, 0, none⟩ = some (.slice A L.length c) := by rw [← hv]; exact cell_of_row w b 0 _ _ _ h1
  have e1 : w.cell? ⟨b, 1, none⟩ = some (.bool no) := cell_of_row w b 1 _ _ _ h1
  have f0 := frozen_of_row w b 0 _ _ h1
  have f1 := frozen_of_row w b 1 _ _ h1
  have HP := Lib.hid (rput_any (.slice A L.length c) L n k hk hn w (by rw [← hv]; exact h2.at_) hl)
  have hlt := lt_get h1
  have H := Lib.hid h
  clear h h1 h2 hv hk hn hl
  go_enter Tryz.func28, Tryz.ntmps28
  by_cases hok : numOk n k lo hi = true
  · have hok2 := hok
    unfold numOk at hok2
    simp only [Bool.and_eq_true, decide_eq_true_eq] at hok2
    obtain ⟨⟨q1, q2⟩, q3⟩ := hok2
    rw [q1] at HF
    have Hok := Lib.hid hok
    clear hok
    have d1 : decide (n < lo) = false := by simp; omega
    have d2 : decide (n > hi) = false := by simp; omega
    go_wp2_with (first | ((with_reducible refine HF.out.mono ?_); rintro e w1 ⟨rfl, rfl⟩) | ((with_reducible refine HP.out.mono ?_); rintro e w2 ⟨u, rfl, hown, hbl⟩; obtain ⟨A2, c2, hu⟩ := rv_slice hown; subst hu; have HT := Lib.hid (H.out.turn hbl hown); have f0' : w2.frozen? ⟨b, 0, none⟩ = false := (World.frozen?_of_block (a := ⟨b, 0, none⟩) (hbl.block b hlt)).trans f0; have e0' : w2.cell? ⟨b, 0, none⟩ = some (.slice A L.length c) := (World.cell?_of_block (a := ⟨b, 0, none⟩) (hbl.block b hlt)).trans e0; clear hown hbl e0 f0 e1 f1))
    go_end0
    refine ⟨rfl, ?_⟩
    unfold numL
    rw [Hok.out, if_pos rfl]
    simpa using HT.out
  · have hok : numOk n k lo hi = false := by simpa using hok
    have Hok := Lib.hid hok
    have hq : Gd.fitsB n k = false ∨ (Gd.fitsB n k = true ∧ n < lo) ∨ (Gd.fitsB n k = true ∧ ¬ n < lo ∧ n > hi) := by
      unfold numOk at hok
      cases hf : Gd.fitsB n k
      · exact Or.inl rfl
      · rw [hf] at hok
        simp at hok
        by_cases hlo : n < lo
        · exact Or.inr (Or.inl ⟨rfl, hlo⟩)
        · exact Or.inr (Or.inr ⟨rfl, hlo, by have := hok (by omega); omega⟩)
    clear hok
    have hfin : Wr b (numL L n k lo hi) (no || !numOk n k lo hi) w0 Ls (w.setCell ⟨b, 1, none⟩ (.bool true)) := by
      unfold numL
      rw [Hok.out, if_neg (by simp)]
      simpa using H.out.bad
    have HFin := Lib.hid hfin
    clear hfin
    rcases hq with q | ⟨q, q2⟩ | ⟨q, q2, q3⟩
    · rw [q] at HF
      go_wp2_with ((with_reducible refine HF.out.mono ?_); rintro e w1 ⟨rfl, rfl⟩)
      refine bodyPost_ret (results_none rfl _ _ _) rfl ?_
      exact ⟨rfl, HFin.out⟩
    · rw [q] at HF
      go_wp2_with ((with_reducible refine HF.out.mono ?_); rintro e w1 ⟨rfl, rfl⟩)
      refine bodyPost_ret (results_none rfl _ _ _) rfl ?_
      exact ⟨rfl, HFin.out⟩
    · rw [q] at HF
      go_wp2_with ((with_reducible refine HF.out.mono ?_); rintro e w1 ⟨rfl, rfl⟩)
      refine bodyPost_ret (results_none rfl _ _ _) rfl ?_
      exact ⟨rfl, HFin.out⟩
end
end Go.Proofs.YtiinponoeaihcaaGreat

/- commonsref07: a writer's texts. -/
namespace Go.Proofs.YtiinponoeaihcaaGreat
open Go.RowKit Go.Shelf

attribute [local go_sem] Oper.semAt_some
theorem app_strG {ops : Array Oper} {rest : List Oper} {o : Oper} {a : Act} {Q : Exit → Act → World → Prop} (hgd : o.guard = none) (s x : Operand) (ho : o.op = .call { callee := .builtin .append, args := #[s, x], argTypes := #[42, 9] })
    (B : Nat) (v : Value) (L : List UInt8) (w0 : World) (hs : a.eval s = v) (hown : OwnB w0 B v L) (sM : ByteArray) (hx : a.eval x = .string sM) (hlen : L.length + sM.size ≤ 8000000) (hB : B ≤ w0.heap.size)
    (h : ∀ v' w', OwnB w' B v' (L ++ sM.data.toList) → w0.grownBy w' v.ownBlock → wpList Tryz.prog ops Q rest (a.put o.dst v') w') : wpList Tryz.prog ops Q (o :: rest) a w0 := by
  obtain ⟨i0, hi, hz0, hz1, hz2⟩ := info_parts Tryz.infoU8
  refine Lib.wpList_append_own_string w0 hgd s x _ _ ho B 5 i0 Tryz.underlying42 Tryz.underlying9 hi hz0 hz1 hz2 v L.length (Lib.byteCells L) hs hown sM hx (by unfold maxLen; omega) (by omega) hB ?_
  intro v' w' h1 h2 _
  refine h v' w' ?_ h2
  unfold OwnB
  have hsz : sM.data.toList.length = sM.size := Array.length_toList
  rw [List.length_append, ← byteCells_app, hsz]
  exact h1
/-- no variable of one's own is a row of bytes -/
def NoBytes (Ls : List (Nat × Obj)) : Prop := ∀ p ∈ Ls, ∀ cur f, p.2 ≠ .cells cur 5 f
section
variable {b : Nat} {L : List UInt8} {no : Bool} {w0 w w' : World} {Ls : List (Nat × Obj)}
theorem Wr.grown {v u : Value} {M : List UInt8} (h : Wr b L no w0 Ls w) (hLs : NoBytes Ls) (hv : w.heap[b]? = some (.cells #[v, .bool no] 74 (0, 0))) (hg : w.grownBy w' v.ownBlock) (ho : OwnB w' w0.heap.size u M) : Wr b M no w0 Ls (w'.setCell ⟨b, 0, none⟩ u) := by
  obtain ⟨v', g1, g2, g3, g4, g5, g6⟩ := h
  have e := hv.symm.trans g1
  simp only [Option.some.injEq, Obj.cells.injEq, Array.mk.injEq, List.cons.injEq] at e
  obtain ⟨⟨rfl, _⟩, _⟩ := e
  have hoth : ∀ k, k < w.heap.size → v.ownBlock ≠ some k → w'.heap[k]? = w.heap[k]? := fun k hk hne => hg.block k hk (fun e => hne e.symm)
  have h1 : w'.heap[b]? = some (.cells #[v, .bool no] 74 (0, 0)) := (hoth b (lt_get g1) g3).trans g1
  have hO : Only (fun k => k = b) w' (w'.setCell ⟨b, 0, none⟩ u) := only_setCell _ _ _ rfl
  have hB : Below w0.heap.size w0 w' := g5.trans (below_grown hg g5.size fun k hk => (own_block g2 k hk).1)
  have hty : ∀ k, u.ownBlock = some k → ∃ cur, w'.heap[k]? = some (.cells cur 5 (0, 0)) := fun k hk => by
    rcases ho.2 with ⟨e, _⟩ | ⟨g, cap, cur, e, _, hg2, _⟩
    · rw [e] at hk; cases hk
    · rw [e] at hk
      cases hk
      exact ⟨cur, hg2⟩
  have hne : u.ownBlock ≠ some b := fun e => by
    obtain ⟨cur, hc⟩ := hty b e
    rw [h1] at hc
    cases hc
  refine ⟨u, Go.heap_setCell_same w' b 0 _ _ _ h1, row_keep ho fun k hk => hO.block k (own_block ho k hk).2 fun e => hne (by rw [hk, e]), hne, g4, hB.trans (hO.below hB.size fun k hk e => by omega), fun p hp => ?_⟩
  obtain ⟨q1, q2, q3, q4⟩ := g6 p hp
  have hp' : w'.heap[p.1]? = some p.2 := (hoth p.1 (lt_get q4) q2).trans q4
  refine ⟨q1, fun e => ?_, q3, (hO.block _ (lt_get hp') q1).trans hp'⟩
  obtain ⟨cur, hc⟩ := hty p.1 e
  rw [hp'] at hc
  exact hLs p hp cur _ (Option.some.inj hc)
def textL (L : List UInt8) (s : ByteArray) (k : Nat) (hi : Int) : List UInt8 := numL L s.size k 0 hi ++ s.data.toList
theorem numL_len (n : Int) (k : Nat) (lo hi : Int) : (numL L n k lo hi).length ≤ L.length + k := by
  unfold numL Gd.put
  split
  · split
    · rw [List.length_append, Gd.le_length]
      exact Nat.le_refl _
    · omega
  · omega
set_option maxHeartbeats 4000000 in
set_option maxRecDepth 100000 in
theorem wtext_any (s : ByteArray) (k : Nat) (hi : Int) (hk : Gd.wid k) (hs : s.size ≤ 2000000) (hl : L.length ≤ 4000000) (hLs : NoBytes Ls) (w : World) (h : Wr b L no w0 Ls w) :
    Calls Tryz.prog 29 #[.pointer (some ⟨b, 0, none⟩), .string s, .int .i64 k, .int .i64 hi] w fun e w' => e = .returned (.tuple #[]) ∧ Wr b (textL L s k hi) (no || !numOk s.size k 0 hi) w0 Ls w' := by
  have HN := Lib.hid (wnum_any s.size k 0 hi hk (nat_I64 (by omega)) hl w h)
  have hlen := numL_len (L := L) s.size k 0 hi
  have hk8 : k ≤ 8 := by unfold Gd.wid at hk; omega
  have HLs := Lib.hid hLs
  have HS := Lib.hid (And.intro hs (And.intro hl (And.intro hlen hk8)))
  clear h hk hs hl hLs hlen hk8
  go_enter Tryz.func29, Tryz.ntmps29
  go_upto_region 1 with ((with_reducible refine HN.out.mono ?_); rintro e w1 ⟨rfl, h1⟩; have H1 := Lib.hid h1; clear h1)
  obtain ⟨v, g1, g2, g3, g4, g5, g6⟩ := id H1.out
  obtain ⟨A, c, hv⟩ := rv_slice g2
  subst hv
  have e0 : w1.cell? ⟨b, 0, none⟩ = some (.slice A (numL L s.size k 0 hi).length c) := cell_of_row w1 b 0 _ _ _ g1
  have f0 := frozen_of_row w1 b 0 _ _ g1
  have HG1 := Lib.hid g1
  have HG2 := Lib.hid g2
  have HG5 := Lib.hid (And.intro g3 g5.size)
  clear g1 g2 g3 g4 g5 g6
  go_wp2_with (at_builtin; refine app_strG rfl _ _ rfl w0.heap.size (.slice A (numL L s.size k 0 hi).length c) (numL L s.size k 0 hi) w1 rfl HG2.out s rfl (by have := HS.out; omega) HG5.out.2 ?_; intro u w2 hown hgr; obtain ⟨A2, c2, hu⟩ := rv_slice hown; subst hu; have HT := Lib.hid (H1.out.grown HLs.out HG1.out hgr hown); have hb2 : w2.heap[b]? = w1.heap[b]? := hgr.block b (lt_get HG1.out) (fun e => HG5.out.1 e.symm); have e0' : w2.cell? ⟨b, 0, none⟩ = some (.slice A (numL L s.size k 0 hi).length c) := (World.cell?_of_block (a := ⟨b, 0, none⟩) hb2).trans e0; have f0' : w2.frozen? ⟨b, 0, none⟩ = false := (World.frozen?_of_block (a := ⟨b, 0, none⟩) hb2).trans f0; clear hown hgr hb2 e0 f0)
  go_end0
  have hT := HT.out
  rw [show (numL L s.size k 0 hi ++ s.data.toList).length = (numL L s.size k 0 hi).length + s.size by rw [List.length_append, Array.length_toList]; rfl] at hT
  exact ⟨rfl, hT⟩
end
end Go.Proofs.YtiinponoeaihcaaGreat
