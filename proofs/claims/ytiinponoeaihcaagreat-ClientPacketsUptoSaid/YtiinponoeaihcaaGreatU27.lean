/- A client that starts, and one that is asked to sync no descriptor. -/
import Derived.Test.YtiinponoeaihcaaGreatU17
import Derived.WalkKit
import Derived.ProofKit
import Derived.OpenShut
import Derived.Lib.SmallJoins
import Derived.Test.YtiinponoeaihcaaGreatU24
set_option linter.unusedVariables false
set_option linter.unusedSimpArgs false
set_option linter.unusedSectionVars false
namespace Go.Proofs.YtiinponoeaihcaaGreat
open Go.RowKit Go.Shelf

attribute [local go_sem] Oper.semAt_some
section
variable {cb : Nat} {S : Cs} {w0 : World} {Ls : List (Nat × Obj)}
/-- what is sent, and that it stays -/
def SendsX (cb : Nat) (S : Cs) (p : Pk) (now : Int) (w0 : World) (Ls : List (Nat × Obj)) (e : Ending) (w' : World) : Prop :=
  ∃ b t, e = .returned (.slice (some ⟨b, 0, none⟩) 1 1) ∧ Ck cb { S with out := sentP S p, waits := true, sent := now, asked := now } w0 ((b, .cells (pkC (sentP S p)) t (0, 0)) :: Ls) w'
theorem Ck.snd {S : Cs} {w : World} {p q : Nat × Obj} (h : Ck cb S w0 (p :: q :: Ls) w) : Ck cb S w0 (p :: Ls) w := h.less fun x hx => by
  rcases List.mem_cons.1 hx with rfl | hx
  · exact List.mem_cons_self
  · exact List.mem_cons_of_mem _ (List.mem_cons_of_mem _ hx)
set_option maxHeartbeats 4000000 in
set_option maxRecDepth 100000 in
theorem send_x (p : Pk) (hp : p.nv.oneCell' = true) (now : Int) (w : World) (h : Ck cb S w0 Ls w) :
    Calls Tryz.prog 50 #[pC cb, .agg (pkC p), .int .i64 now] w (SendsX cb S p now w0 Ls) := by
  have H := Lib.hid h
  clear h
  go_enter Tryz.func50, Tryz.ntmps50
  go_upto_region 1 with fail
  obtain ⟨w1, hw⟩ : ∃ u, u = w.alloc (.cells (pkC p) 41) := ⟨_, rfl⟩
  obtain ⟨n0, hn⟩ : ∃ u, u = w.heap.size := ⟨_, rfl⟩
  rw [← hw, ← hn]
  have H1 : Hid (Ck cb S w0 ((n0, .cells (pkC p) 41 (0, 0)) :: Ls) w1) := Lib.hid (by rw [hw, hn]; exact H.out.box _ _)
  have c0 : w1.cell? ⟨cb, 0, none⟩ = some (.int .i64 S.cl) := H1.out.cell 0
  have c4 : w1.cell? ⟨cb, 4, none⟩ = some (.int .i64 S.ep) := H1.out.cell 4
  have hb := H1.out.get (k := n0) List.mem_cons_self
  have d1 : w1.cell? ⟨n0, 1, none⟩ = some (.int .i64 p.cl) := cell_of_row w1 n0 1 _ _ _ hb
  have d2 : w1.cell? ⟨n0, 2, none⟩ = some (.int .i64 p.ep) := cell_of_row w1 n0 2 _ _ _ hb
  have g1 := frozen_of_row w1 n0 1 _ _ hb
  have g2 := frozen_of_row w1 n0 2 _ _ hb
  have Hw := Lib.hid hw
  have Hn := Lib.hid hn
  clear hw hn hb
  go_region
  obtain ⟨w2, hw2⟩ : ∃ u, u = ((w1.setCell ⟨n0, 1, none⟩ (.int .i64 S.cl)).setCell ⟨n0, 2, none⟩ (.int .i64 S.ep)).drew := ⟨_, rfl⟩
  rw [← hw2]
  obtain ⟨q, hq⟩ : ∃ q, q = sentP S p := ⟨_, rfl⟩
  have H2 : Hid (Ck cb S w0 ((n0, .cells (pkC q) 41 (0, 0)) :: Ls) w2) := Lib.hid (by
    have hne : ∀ r ∈ Ls, r.1 ≠ n0 := fun r hr => by rw [Hn.out]; exact H.out.fresh r hr
    rw [hw2, hq]
    exact ((H1.out.set rfl hne).set rfl hne).drew)
  have Hge : Hid (w.heap.size ≤ n0 ∧ n0 < w2.heap.size) := Lib.hid ⟨by rw [Hn.out]; exact Nat.le_refl _, (H2.out.ge (k := n0) List.mem_cons_self).2⟩
  have hrg := row_rangeK (H2.out.get (k := n0) List.mem_cons_self)
  have hth : w2.there cb 20 (pkC q).toList.toArray.size := H2.out.there 20 43 (by omega)
  have Hq := Lib.hid hq
  have HNv : Hid (q.nv.oneCell' = true) := Lib.hid (by rw [hq]; exact hp)
  clear hw2 hq hp c0 c4 d1 d2 g1 g2 H1 H Hn Hw
  go_upto_region 3 with (first | (refine wpList_load_mid rfl 41 _ rfl n0 0 rfl (pkC q).toList _ hrg Tryz.underlying41 rfl (pk_len q) ?_) | (refine wpList_store_mid rfl 41 _ _ rfl cb 20 (pkC q).toList.toArray rfl rfl hth (pk_size q) (pk_one q HNv.out) ?_; generalize hwe : (World.setCells _ _ _ _) = we; have HE : Hid (Ck cb { S with out := q } w0 ((n0, .cells (pkC q) 41 (0, 0)) :: Ls) we) := Lib.hid (by rw [← hwe]; exact H2.out.sts (put_out S q).symm ⟨rfl, rfl, .inl rfl, rfl, rfl, rfl⟩); clear hwe hrg hth; have c63 : we.cell? ⟨cb, 63, none⟩ = some (.bool S.waits) := HE.out.cell 63; have c64 : we.cell? ⟨cb, 64, none⟩ = some (.int .i64 S.sent) := HE.out.cell 64; have c65 : we.cell? ⟨cb, 65, none⟩ = some (.int .i64 S.asked) := HE.out.cell 65; have g63 := HE.out.fz 63; have g64 := HE.out.fz 64; have g65 := HE.out.fz 65))
  obtain ⟨w4, hw4⟩ : ∃ u, u = ((we.setCell ⟨cb, 63, none⟩ (.bool true)).setCell ⟨cb, 64, none⟩ (.int .i64 now)).setCell ⟨cb, 65, none⟩ (.int .i64 now) := ⟨_, rfl⟩
  rw [← hw4]
  have H4 : Hid (Ck cb { S with out := q, waits := true, sent := now, asked := now } w0 ((n0, .cells (pkC q) 41 (0, 0)) :: Ls) w4) := Lib.hid (by
    rw [hw4]
    have a1 := HE.out.st (T := { S with out := q, waits := true }) (i := 63) (v := .bool true) rfl ⟨rfl, rfl, .inl rfl, rfl, rfl, rfl⟩
    have a2 := a1.st (T := { S with out := q, waits := true, sent := now }) (i := 64) (v := .int .i64 now) rfl ⟨rfl, rfl, .inl rfl, rfl, rfl, rfl⟩
    exact a2.st (T := { S with out := q, waits := true, sent := now, asked := now }) (i := 65) (v := .int .i64 now) rfl ⟨rfl, rfl, .inl rfl, rfl, rfl, rfl⟩)
  have hrg := row_rangeK (H4.out.get (k := n0) List.mem_cons_self)
  have hsz : (pkC q).size = 43 := rfl
  have HL : Hid (w.heap.size ≤ w4.heap.size) := Lib.hid (Nat.le_of_lt (Nat.lt_of_le_of_lt Hge.out.1 (H4.out.ge (k := n0) List.mem_cons_self).2))
  clear hw4 c63 c64 c65 g63 g64 g65 HE
  go_wp2_with (refine wpList_load_mid rfl 41 _ rfl n0 0 rfl (pkC q).toList _ hrg Tryz.underlying41 rfl (pk_len q) ?_)
  rw [laid_pk q]
  go_ret
  refine ⟨_, 41, rfl, ?_⟩
  rw [← Hq.out]
  exact (H4.out.box _ _).snd
set_option maxHeartbeats 4000000 in
set_option maxRecDepth 100000 in
theorem ask_x (op id ino ck : Int) (p1 p2 : ByteArray) (fl fd off n : Int) (d : ByteArray) (now : Int) (w : World) (h : Ck cb S w0 Ls w) :
    Calls Tryz.prog 21 #[pC cb, .int .i64 op, .int .i64 id, .int .i64 ino, .agg #[.int .i64 ck, .string p1, .string p2, .int .i64 fl, .int .i64 fd, .int .i64 off, .int .i64 n, .string d], .int .i64 now] w (SendsX cb S (callP op id ino ck p1 p2 fl fd off n d) now w0 Ls) := by
  have H := Lib.hid h
  clear h
  go_enter Tryz.func21, Tryz.ntmps21
  go_upto_region 1 with fail
  obtain ⟨w1, hw⟩ : ∃ u, u = w.alloc (.cells #[.int .i64 ck, .string p1, .string p2, .int .i64 fl, .int .i64 fd, .int .i64 off, .int .i64 n, .string d] 30) := ⟨_, rfl⟩
  obtain ⟨n0, hn⟩ : ∃ u, u = w.heap.size := ⟨_, rfl⟩
  rw [← hw, ← hn]
  have H1 : Hid (Ck cb S w0 ((n0, .cells #[.int .i64 ck, .string p1, .string p2, .int .i64 fl, .int .i64 fd, .int .i64 off, .int .i64 n, .string d] 30 (0, 0)) :: Ls) w1) := Lib.hid (by rw [hw, hn]; exact H.out.box _ _)
  have hb := H1.out.get (k := n0) List.mem_cons_self
  have d0 := cell_of_row w1 n0 0 _ _ _ hb
  have d1 := cell_of_row w1 n0 1 _ _ _ hb
  have d2 := cell_of_row w1 n0 2 _ _ _ hb
  have d3 := cell_of_row w1 n0 3 _ _ _ hb
  have d4 := cell_of_row w1 n0 4 _ _ _ hb
  have d5 := cell_of_row w1 n0 5 _ _ _ hb
  have d6 := cell_of_row w1 n0 6 _ _ _ hb
  have d7 := cell_of_row w1 n0 7 _ _ _ hb
  have HS := Lib.hid (send_x (callP op id ino ck p1 p2 fl fd off n d) rfl now w1 H1.out)
  clear hw hn hb
  dsimp at d0 d1 d2 d3 d4 d5 d6 d7
  go_wp2_with (refine HS.out.mono ?_; rintro e w' ⟨b, t, rfl, hb2⟩; have HB := Lib.hid hb2)
  go_ret
  exact ⟨b, t, rfl, HB.out.snd⟩
/-- the question for an epoch -/
def helloP (n : Int) : Pk := callP 20 n 0 0 ⟨#[]⟩ ⟨#[]⟩ 0 0 0 0 ⟨#[]⟩
set_option maxHeartbeats 8000000 in
set_option maxRecDepth 100000 in
theorem next_hello {N : Nat} (hB : Bd N S) (hN : N ≤ 8000) (hu : S.up = true) (hw : S.waits = false) (now : Int) (hpz : ¬ now < S.pause) (hep : S.ep = 0) (w : World) (h : Ck cb S w0 Ls w) :
    Calls Tryz.prog 15 #[pC cb, .int .i64 now] w fun e w' => SendsX cb (numS S) (helloP (idOf S)) now w0 Ls e w' := by
  have HBd := Lib.hid hB
  have HN := Lib.hid hN
  have H := Lib.hid h
  have c1 : w.cell? ⟨cb, 1, none⟩ = some (.bool S.up) := h.cell 1
  have c4 : w.cell? ⟨cb, 4, none⟩ = some (.int .i64 S.ep) := h.cell 4
  have c5 : w.cell? ⟨cb, 5, none⟩ = some (.bool S.stale) := h.cell 5
  have c18 : w.cell? ⟨cb, 18, none⟩ = some (ptrV S.wk) := h.cell 18
  have c63 : w.cell? ⟨cb, 63, none⟩ = some (.bool S.waits) := h.cell 63
  have c66 : w.cell? ⟨cb, 66, none⟩ = some (.int .i64 S.pause) := h.cell 66
  clear h hB hN
  go_enter Tryz.func15, Tryz.ntmps15
  rw [hu] at c1
  clear hu
  rw [hw] at c63
  clear hw
  have q0 : (S.ep == 0) = true := by rw [beq_iff_eq]; exact hep
  clear hep
  have HNu := Lib.hid (number_any (S := S) HBd.out.life ⟨HBd.out.cnt.1, by have := HBd.out.cnt.2; have := HN.out; omega⟩ w H.out)
  go_wp2_with (first | ((with_reducible refine HNu.out.mono ?_); rintro e w2 ⟨rfl, h2⟩; have HAs := Lib.hid (ask_x (S := numS S) 20 (idOf S) 0 0 ⟨#[]⟩ ⟨#[]⟩ 0 0 0 0 ⟨#[]⟩ now w2 h2); clear h2) | ((with_reducible refine HAs.out.mono ?_); rintro e w3 ⟨b, t, rfl, h3⟩; have H3 := Lib.hid h3; clear h3))
  go_ret
  exact ⟨b, t, rfl, H3.out⟩
/-- what Start sends -/
def HelloE (cb : Nat) (S : Cs) (now : Int) (w0 : World) (Ls : List (Nat × Obj)) (e : Ending) (w' : World) : Prop := ∃ x y b t, e = .returned (.tuple #[.slice (some ⟨b, 0, none⟩) 1 1, .int .i64 0]) ∧ Ck cb (outS (numS (startS S 1 x y)) (helloP (idOf (startS S 1 x y))) now) w0 ((b, .cells (pkC (sentP (numS (startS S 1 x y)) (helloP (idOf (startS S 1 x y))))) t (0, 0)) :: Ls) w'
set_option maxHeartbeats 8000000 in
set_option maxRecDepth 100000 in
theorem start_hello (now : Int) (hnow : ¬ now < 0) (w : World) (h : Ck cb S w0 Ls w) :
    Calls Tryz.prog 5 #[pC cb, .int .i64 1, .int .i64 now] w (HelloE cb S now w0 Ls) := by
  have H := Lib.hid h
  have c1 : w.cell? ⟨cb, 1, none⟩ = some (.bool S.up) := h.cell 1
  have f1 := h.fz 1
  clear h
  go_enter Tryz.func5, Tryz.ntmps5
  go_upto_region 4 with fail
  obtain ⟨w1, hw1⟩ : ∃ u, u = w.setCell ⟨cb, 1, none⟩ (.bool true) := ⟨_, rfl⟩
  rw [← hw1]
  have H1 : Hid (Ck cb { S with up := true } w0 Ls w1) := Lib.hid (by rw [hw1]; exact H.out.st rfl ⟨rfl, rfl, .inl rfl, rfl, rfl, rfl⟩)
  clear hw1 c1 f1
  have hmm := @run_makeMap Tryz.prog
  have hth : ((w1.alloc (.map #[] 0)).alloc (.map #[] 0)).there cb 2 73 := (H1.out.below (((Below.refl _ _).alloc (Nat.le_refl _) _).alloc (by simp) _)).there 2 73 (by omega)
  go_upto_region 5 with (refine wpList_store_mid rfl 60 _ _ rfl cb 2 _ rfl rfl (there_of hth (by kernel_rfl)) (by kernel_rfl) (by kernel_rfl) ?_; generalize hwe : (World.setCells _ _ _ _) = we; have HE : Hid (Ck cb (startS S 1 w1.heap.size (w1.heap.size + 1)) w0 Ls we) := Lib.hid (by rw [← hwe]; exact H1.out.started 1 (by kernel_rfl)); clear hwe hth hmm)
  have HNx := Lib.hid (next_hello (N := 0) (startS_bd (life := 1) (by decide)) (by omega) rfl rfl now hnow rfl we HE.out)
  clear hnow
  go_wp2_with ((with_reducible refine HNx.out.mono ?_); rintro e w2 ⟨b, t, rfl, h3⟩)
  have H3 := Lib.hid h3
  clear h3
  go_ret2
  exact ⟨_, _, b, t, rfl, H3.out⟩
/-- Sync of no descriptor -/
theorem look_sync {wb : Nat} (hk : S.wk = some wb) (he : S.ep ≠ 0) (hkd : S.K.kd = 6) (hf : I64 S.K.fd) (hI : inoF S.f S.K.fd = 0) (w : World) (h : Ck cb S w0 Ls w) :
    Calls Tryz.prog 20 #[pC cb] w fun e w' => e = .returned (.tuple #[]) ∧ Ck cb (failS S 16) w0 Ls w' := by
  refine (clook_yes (fun er is => er = 16 ∧ is = true) hk he w h ?_).mono ?_
  · rw [hkd]
    refine (once_sync_none S.K.p1 S.K.p2 S.K.fl S.K.fd S.K.off S.K.n S.K.d hf hI w h).mono ?_
    rintro e w' ⟨rfl, hb⟩
    exact ⟨16, true, rfl, ⟨rfl, rfl⟩, hb⟩
  · rintro e w' ⟨rfl, er, is, ⟨rfl, rfl⟩, hC⟩
    exact ⟨rfl, hC⟩
theorem no_next {U T : Cs} {p : Pk} (h1 : U.ep ≠ 0) (h2 : U.stale = false) (h3 : U.wk = none) : ¬ NextP U T p := by
  rintro (h | h | h | h | h | h | h | h)
  · exact h1 h.1
  · rw [h2] at h; cases h.2.1
  all_goals exact h.2.1 h3
theorem next_none {now : Int} {w : World} (hno : ∀ T p, ¬ NextP S T p) (h : Calls Tryz.prog 15 #[pC cb, .int .i64 now] w fun e w' => (e = .returned (.slice none 0 0) ∧ Ck cb S w0 Ls w') ∨ ∃ T p, S.up = true ∧ S.waits = false ∧ NextP S T p ∧ Sends cb T p now w0 Ls e w') :
    Calls Tryz.prog 15 #[pC cb, .int .i64 now] w fun e w' => e = .returned (.slice none 0 0) ∧ Ck cb S w0 Ls w' :=
  h.mono fun _ _ hh => hh.elim id fun ⟨T, p, _, _, h3, _⟩ => absurd h3 (hno T p)
set_option maxHeartbeats 8000000 in
set_option maxRecDepth 100000 in
theorem ask_sync {N : Nat} (hB : Bd N S) (hN : N ≤ 8000) (hup : S.up = true) (hwk : S.wk = none) (hdn : S.done = false) (hep : S.ep ≠ 0) (hst : S.stale = false) (p1 p2 : ByteArray) (fl fd off n : Int) (d : ByteArray) (hf : I64 fd) (hd : d.size ≤ 80) (hI : inoF S.f fd = 0) (now : Int) (w : World) (h : Ck cb S w0 Ls w) :
    Calls Tryz.prog 12 #[pC cb, .agg (callL 6 p1 p2 fl fd off n d).toArray, .int .i64 now] w fun e w' => e = .returned (.tuple #[.slice none 0 0, .int .i64 0]) ∧ ∃ b, Ck cb (failS (givenS S (callK 6 p1 p2 fl fd off n d) b) 16) w0 Ls w' := by
  have HBd := Lib.hid hB
  have HN := Lib.hid hN
  have Hf := Lib.hid hf
  have Hd := Lib.hid hd
  have H := Lib.hid h
  have Hep := Lib.hid hep
  have Hst := Lib.hid hst
  have HI := Lib.hid hI
  clear h hB hN hf hd hep hst hI
  go_enter Tryz.func12, Tryz.ntmps12
  go_upto_region 1 with fail
  obtain ⟨w1, hw⟩ : ∃ u, u = w.alloc (.cells (callL 6 p1 p2 fl fd off n d).toArray 30) := ⟨_, rfl⟩
  obtain ⟨n0, hn⟩ : ∃ u, u = w.heap.size := ⟨_, rfl⟩
  rw [← hw, ← hn]
  have H1 : Hid (Ck cb S w0 ((n0, .cells (callL 6 p1 p2 fl fd off n d).toArray 30 (0, 0)) :: Ls) w1) := Lib.hid (by rw [hw, hn]; exact H.out.box _ _)
  clear hw hn H
  have c1 : w1.cell? ⟨cb, 1, none⟩ = some (.bool S.up) := H1.out.cell 1
  have c18 : w1.cell? ⟨cb, 18, none⟩ = some (ptrV S.wk) := H1.out.cell 18
  have c74 : w1.cell? ⟨cb, 74, none⟩ = some (.bool S.done) := H1.out.cell 74
  unfold ptrV at c18
  rw [hup] at c1
  rw [hwk] at c18
  rw [hdn] at c74
  dsimp only [Option.map_none] at c18
  clear hup hwk hdn
  go_upto_region 5 with fail
  have c19 : w1.cell? ⟨cb, 19, none⟩ = some (.int .i64 S.id) := H1.out.cell 19
  have f19 := H1.out.fz 19
  have f18 := H1.out.fz 18
  have hrg := row_rangeK (H1.out.get (k := n0) List.mem_cons_self)
  have hb := H1.out.get (k := n0) List.mem_cons_self
  have d0 : w1.cell? ⟨n0, 0, none⟩ = some (.int .i64 6) := cell_of_row w1 n0 0 _ _ _ hb
  have d1 : w1.cell? ⟨n0, 1, none⟩ = some (.string p1) := cell_of_row w1 n0 1 _ _ _ hb
  have d2 : w1.cell? ⟨n0, 2, none⟩ = some (.string p2) := cell_of_row w1 n0 2 _ _ _ hb
  have d3 : w1.cell? ⟨n0, 3, none⟩ = some (.int .i64 fl) := cell_of_row w1 n0 3 _ _ _ hb
  have d4 : w1.cell? ⟨n0, 4, none⟩ = some (.int .i64 fd) := cell_of_row w1 n0 4 _ _ _ hb
  have d5 : w1.cell? ⟨n0, 5, none⟩ = some (.int .i64 off) := cell_of_row w1 n0 5 _ _ _ hb
  have d6 : w1.cell? ⟨n0, 6, none⟩ = some (.int .i64 n) := cell_of_row w1 n0 6 _ _ _ hb
  have d7 : w1.cell? ⟨n0, 7, none⟩ = some (.string d) := cell_of_row w1 n0 7 _ _ _ hb
  clear hrg hb
  have hlt : cb < w1.heap.size := H1.out.low.2
  have hne : w1.heap.size ≠ cb := by omega
  have ca : ∀ o : Obj, (w1.alloc o).cell? ⟨cb, 18, none⟩ = some (.pointer none) := fun o => by rw [World.cell?_of_block (w := w1) (a := ⟨cb, 18, none⟩) (Below.heap_alloc _ _ _ hlt)]; exact c18
  have fa : ∀ o : Obj, (w1.alloc o).frozen? ⟨cb, 18, none⟩ = false := fun o => by rw [World.frozen?_of_block (w := w1) (a := ⟨cb, 18, none⟩) (Below.heap_alloc _ _ _ hlt)]; exact f18
  go_region
  clear d0 d1 d2 d3 d4 d5 d6 d7 ca fa hlt hne f18 f19 c18 c19 c74 c1
  obtain ⟨w2, hw2⟩ : ∃ u, u = (((w1.setCell ⟨cb, 19, none⟩ (.int .i64 0)).setCell ⟨cb, 18, none⟩ (.pointer (some ⟨w1.heap.size, 0, none⟩))).alloc (.cells (wkC (callK 6 p1 p2 fl fd off n d)) 70)).drew := ⟨_, rfl⟩
  obtain ⟨b, hb⟩ : ∃ u, u = w1.heap.size := ⟨_, rfl⟩
  have H2 : Hid (Ck cb (givenS S (callK 6 p1 p2 fl fd off n d) b) w0 ((n0, .cells (callL 6 p1 p2 fl fd off n d).toArray 30 (0, 0)) :: Ls) w2) := Lib.hid (by rw [hw2, hb]; exact (H1.out.given _ rfl rfl).drew)
  dsimp only [wkC, callK] at hw2
  rw [← hw2, ← hb]
  clear hw2 hb
  have HLk := Lib.hid (look_sync (S := givenS S (callK 6 p1 p2 fl fd off n d) b) rfl Hep.out rfl Hf.out HI.out w2 H2.out)
  go_upto_region 7 with ((with_reducible refine HLk.out.mono ?_); rintro e w3 ⟨rfl, h3⟩; have H3 := Lib.hid h3; clear h3)
  have HB2 := Lib.hid (look_bd (U := failS (givenS S (callK 6 p1 p2 fl fd off n d) b) 16) HBd.out rfl Hf.out Hd.out (Or.inr ⟨by simp [givenS], Hep.out, 16, rfl⟩))
  have HNx := Lib.hid (next_none (S := failS (givenS S (callK 6 p1 p2 fl fd off n d) b) 16) (fun T p => no_next Hep.out Hst.out rfl) (cnext_any HB2.out HN.out (fun e => absurd rfl e) now w3 H3.out))
  go_wp2_with ((with_reducible refine HNx.out.mono ?_); rintro e w4 ⟨rfl, h3⟩; have H4 := Lib.hid h3; clear h3)
  go_ret2
  exact ⟨rfl, b, H4.out.tl rfl⟩
end
end Go.Proofs.YtiinponoeaihcaaGreat

/- The row of a law out of its walk: what the arguments read as stays, as nothing below the heap's old size has turned. Structs of five fields opened. -/
namespace Go.Proofs.YtiinponoeaihcaaGreat
open Go.ChangeShapes Go.WideShapes Go.ChangeAt Go.RowKit

theorem trodAll_below {H : Type} {enc : TypeId × Value → H} {P : Program} (hl : laidOutB P = true) {W W' : World} (hb : Below W.heap.size W W') :
    ∀ {ts : List TypeId} {vs : List Value} {ds : List (DataW H)} {ps : List MemPlace}, (∀ t ∈ ts, P.readableRec t = true ∧ t < P.types.size) →
    DataW.TrodAll enc P W 0 (fun _ => true) true ts vs ds ps → (∀ x ∈ ps, x.block < W.heap.size) → DataW.TrodAll enc P W' 0 (fun b => decide (b < W.heap.size)) true ts vs ds ps
  | [], _, _, _, _, h, _ => by
    obtain ⟨rfl, rfl, rfl⟩ := trodAll_nil h
    exact trodAll_mk0
  | t :: ts, _, _, _, ht, h, hlt => by
    obtain ⟨v, vs', d, ds', p, q, rfl, rfl, rfl, h0, r0⟩ := trodAll_cons h
    exact trodAll_cons_mk (Below.trod hl (ht t (by simp)).1 (ht t (by simp)).2 h0 hb (fun x hx => hlt x (by simp [hx])))
      (trodAll_below hl hb (fun u hu => ht u (by simp [hu])) r0 (fun x hx => hlt x (by simp [hx])))

/-- a law's post: it answers true, and each argument reads as it did -/
theorem law_post {H : Type} {enc : TypeId × Value → H} {P : Program} {f : Func} {s : ChangeSpec} {W W' : World} {args : Array Value} {ds gs : List (DataW H)} {before : List MemPlace} {tb : TypeId}
    (hl : laidOutB P = true) (hts : f.params.toList.all (fun t => P.readableRec t && decide (t < P.types.size)) = true) (hres : f.resultTypes = #[tb]) (hbool : P.underlying tb = some .bool)
    (hvars : s.vars = []) (hs : s.fn H (ds ++ gs) = { results := [.lit (.bool true)], args := ds })
    (hW : DataW.Whole enc P f.params.toList s.vars false W args.toList ds gs before) (hb : Below W.heap.size W W') :
    s.post enc P f false true false false W args (.bool true) W' := by
  have hW' := hW
  obtain ⟨p, q, hA, hV, rfl, _, _⟩ := hW
  rw [hvars] at hV
  obtain ⟨rfl, rfl⟩ := trodVars_none hV
  have hlt : ∀ x ∈ p, x.block < W.heap.size := fun x hx => by simpa using hW'.lt x (by simp [hx])
  have hts' : ∀ t ∈ f.params.toList, P.readableRec t = true ∧ t < P.types.size := fun t ht => by
    have := List.all_eq_true.1 hts t ht
    simpa using this
  refine ⟨ds, [], p ++ [], [], p, [], hW', ?_, ?_, ?_, hb.frame _, fun h => by cases h⟩
  · rw [hs, hres]
    exact trodAll_mk1 (shut_bool hbool true)
  · rw [hs]
    exact trodAll_below hl hb hts' hA hlt
  · rw [hs, hvars]
    rfl

/-- a struct of five one-cell fields, by value -/
theorem open_agg5 {H : Type} {enc : TypeId × Value → H} {P : Program} {w : World} {base : Nat} {spare : Nat → Bool} {held : Bool} {r : Reach} {b0 : Nat} {t : TypeId} {f0 f1 f2 f3 f4 : Field} {v : Value} {d : DataW H} {p : List MemPlace} (hs : P.underlying t = some (.struct #[f0, f1, f2, f3, f4])) (hone : Go.Deep.oneCellFields P #[f0, f1, f2, f3, f4] = true) (hC : P.cellsOf t = 5)
    (hv : Value.okWide P w r b0 t v) (h : DataW.Trod enc P w base spare held t v d p) :
    ∃ (v0 v1 v2 v3 v4 : Value) (y0 y1 y2 y3 y4 : DataW H × List MemPlace) (n : Nat), v = .agg #[v0, v1, v2, v3, v4] ∧ d = .agg [y0.1, y1.1, y2.1, y3.1, y4.1] ∧ p = y0.2 ++ (y1.2 ++ (y2.2 ++ (y3.2 ++ y4.2))) ∧
      DataW.trod enc P w base spare held n f0.type [v0] = some y0 ∧ DataW.trod enc P w base spare held n f1.type [v1] = some y1 ∧ DataW.trod enc P w base spare held n f2.type [v2] = some y2 ∧ DataW.trod enc P w base spare held n f3.type [v3] = some y3 ∧ DataW.trod enc P w base spare held n f4.type [v4] = some y4 := by
  obtain ⟨cs, rfl, hsz⟩ := okWide_struct hs hv
  obtain ⟨l⟩ := cs
  match l, hsz.trans hC with
  | [c0, c1, c2, c3, c4], _ =>
    obtain ⟨fuel, hf⟩ := h
    obtain ⟨xs, n, _, hx, _, hlen, hg⟩ := DataW.trod_struct hs hf
    obtain ⟨o0, k0⟩ := Go.Deep.hone_of hone 0 f0 rfl
    obtain ⟨o1, k1⟩ := Go.Deep.hone_of hone 1 f1 rfl
    obtain ⟨o2, k2⟩ := Go.Deep.hone_of hone 2 f2 rfl
    obtain ⟨o3, k3⟩ := Go.Deep.hone_of hone 3 f3 rfl
    obtain ⟨o4, k4⟩ := Go.Deep.hone_of hone 4 f4 rfl
    match xs, hlen with
    | [y0, y1, y2, y3, y4], _ =>
      simp only [Prod.mk.injEq] at hx
      exact ⟨c0, c1, c2, c3, c4, y0, y1, y2, y3, y4, n, rfl, by simpa using hx.1, by simpa using hx.2, by simpa [Value.cells, o0, k0] using hg 0 f0 rfl, by simpa [Value.cells, o1, k1] using hg 1 f1 rfl, by simpa [Value.cells, o2, k2] using hg 2 f2 rfl, by simpa [Value.cells, o3, k3] using hg 3 f3 rfl, by simpa [Value.cells, o4, k4] using hg 4 f4 rfl⟩

end Go.Proofs.YtiinponoeaihcaaGreat

/- The packet that lives() tells its client: its bytes, and what is read of them. -/
namespace Go.Proofs.YtiinponoeaihcaaGreat
open Go.RowKit Go.Shelf

/-- Hello's answer -/
def helloA : Pk := { kd := 4, cl := 2, sq := 1048577, op := 20, at_ := 3 }
def helloX : List UInt8 := sealB (in4 helloA [])
theorem helloA_w : PkW helloA := by
  constructor <;> first | exact small_I64 (by decide) | decide
theorem helloA_ok : (in4 helloA []).2 = false := by kernel_rfl
theorem helloX_1 : (rdE helloX).2 = false := by kernel_rfl
theorem helloX_2 : (rdE helloX).1 = [] := by kernel_rfl
theorem helloX_3 : rn (rd1 helloX) 1 = 2 := by kernel_rfl
theorem helloX_4 : rn (rd0 helloX) 1 = 4 := by kernel_rfl
theorem helloX_5 : Gd.get helloX ((helloX.length - 4 : Nat) : Int) 4 = ((Gd.crc (helloX.take (helloX.length - 4)) : Nat) : Int) := by kernel_rfl
theorem helloX_len : Nat.ble 4 helloX.length = true := by kernel_rfl
theorem helloX_ok : rdOk helloX := ⟨⟨Nat.le_of_ble_eq_true helloX_len, helloX_5⟩, helloX_1, helloX_2, by rw [helloX_3]; decide, by rw [helloX_3]; decide⟩
theorem helloX_kd (u : Value) : (setNv (rdP helloX) u).kd = 4 := by kernel_rfl
theorem helloX_cl (u : Value) : (setNv (rdP helloX) u).cl = 2 := by kernel_rfl
theorem helloX_ep (u : Value) : (setNv (rdP helloX) u).ep = 0 := by kernel_rfl
theorem helloX_sq (u : Value) : (setNv (rdP helloX) u).sq = 1048577 := by kernel_rfl
theorem helloX_op (u : Value) : (setNv (rdP helloX) u).op = 20 := by kernel_rfl
theorem helloX_er (u : Value) : (setNv (rdP helloX) u).er = 0 := by kernel_rfl
theorem helloX_at (u : Value) : (setNv (rdP helloX) u).at_ = 3 := by kernel_rfl
theorem put_hello (w : World) : Calls Tryz.prog 6 #[.agg (pkC helloA)] w fun e w' => ∃ v, e = .returned (.tuple #[v, .int .i64 0]) ∧ Below w.heap.size w w' ∧ ∀ W, Below w'.heap.size w' W → Calls Tryz.prog 18 #[v] W (ReadA helloX W) := by
  refine (put_gen helloA (oth4 helloA) (in4 helloA []) (len4 helloA []) w fun W hW => inner4_any helloA rfl none 0 [] rfl (by decide) W (Or.inl rfl) helloA_w).mono ?_
  rintro e w' (⟨hn, _⟩ | ⟨hs, v, rfl, ho, hb⟩)
  · exact absurd ⟨helloA_ok, rfl⟩ hn
  · exact ⟨v, rfl, hb, (read_bytes (len4b helloA [] hs) (Or.inr helloX_4) ho).2⟩
section
variable {cb : Nat} {w0 : World} {Ls : List (Nat × Obj)}
/-- a client that said Hello -/
def S1 (x y : Nat) : Cs := outS (numS (startS (freshS 2) 1 x y)) (helloP (idOf (startS (freshS 2) 1 x y))) 0
theorem S1_iv (x y : Nat) : Bd 2 (S1 x y) ∧ Wt2 (S1 x y) := by
  have h := (Iv.start (S := freshS 2) (life := 1) (a := x) (b := y) (by decide)).sent (T := numS (startS (freshS 2) 1 x y)) (p := helloP (idOf (startS (freshS 2) 1 x y))) 0 rfl (Or.inl ⟨rfl, rfl, rfl⟩)
  exact ⟨h.1, h.2.1⟩
theorem idOf_1 (x y : Nat) : idOf (startS (freshS 2) 1 x y) = 1048577 := by kernel_rfl
/-- and got its answer -/
def S2 (x y : Nat) : Cs := anewS (unwait (S1 x y)) 3
theorem S2_bd {N : Nat} {x y : Nat} (h : Bd N (S1 x y)) : Bd N (S2 x y) :=
  ⟨h.life, h.cnt, ⟨by show (0 : Int) ≤ 3; decide, by show (3 : Int) < 4294967296; decide⟩, ⟨Int.le_refl _, by show (0 : Int) ≤ N; omega⟩, ⟨Int.le_refl _, by show (0 : Int) ≤ 100 * N; omega⟩, h.f, h.hm, h.wm, h.hn, h.hold, h.fd, h.got, h.d, fun e => absurd rfl e⟩
theorem take_hello {x y : Nat} {p : Pk} {U : Cs} (hop : p.op = 20) (her : p.er = 0) (hkd : p.kd = 4) (hat : p.at_ = 3) (h : TakeP (unwait (S1 x y)) p U) : U = S2 x y := by
  rcases h with h | h | h | h | h | h | h | h | h
  · omega
  · omega
  · exact absurd her h.2.1
  · rcases h.2 with ⟨rfl, _⟩ | ⟨h, _⟩
    · rw [hat]; rfl
    · exact absurd rfl h
  · omega
  · omega
  · omega
  · exact absurd hop h.1
  · omega
theorem recv_hello (x y : Nat) (rv : Value) (now : Int) (w : World) (h : Ck cb (S1 x y) w0 Ls w) (hR : Calls Tryz.prog 18 #[rv] w (ReadA helloX w)) :
    Calls Tryz.prog 9 #[pC cb, rv, .int .i64 now] w fun e w' => e = .returned (.slice none 0 0) ∧ Ck cb (S2 x y) w0 Ls w' := by
  have hI := S1_iv x y
  have hq : ∀ p er, RdQ helloX p er → ReadP p er := fun p er => RdQ.readP (Or.inr helloX_4)
  have hB2 : ∀ p U, POk p → FitsP (S1 x y) p → TakeP (unwait (S1 x y)) p U → Bd 4 U := fun p U hp hf hT =>
    take_bd (N := 2) (unwait_bd hI.1) hp (by rw [hf.2.2.2.2]; exact hI.2.wt.ep) hT
  refine (creceive_any (N := 2) (M := 4) (Rq := RdQ helloX) hq hI.1 (by omega) (by omega) (fun _ => hI.2.wt) rv now w h hB2 hR).mono ?_
  rintro e w' ⟨p, er, hP, hr⟩
  rcases hP with ⟨_, hno⟩ | ⟨h0, _, u, _, rfl⟩
  · exact absurd helloX_ok hno
  rcases hr with ⟨h1 | h1 | h1, _⟩ | ⟨_, _, _, ⟨hno, _⟩ | ⟨hf, U, hT, hn⟩⟩
  · exact absurd h0 h1
  · exact absurd (helloX_cl u) h1
  · cases h1
  · refine absurd ⟨rfl, ?_, ?_, ?_, ?_⟩ hno
    · rw [helloX_kd]; rfl
    · rw [helloX_ep]; rfl
    · rw [helloX_sq]
      exact (idOf_1 x y).symm
    · rw [helloX_op]; rfl
  · obtain rfl := take_hello (helloX_op u) (helloX_er u) (helloX_kd u) (helloX_at u) hT
    rcases hn with ⟨rfl, hc⟩ | ⟨T, q, _, _, hx, _⟩
    · exact ⟨rfl, hc⟩
    · exact absurd hx (no_next (by show (3 : Int) ≠ 0; decide) rfl rfl)
end
end Go.Proofs.YtiinponoeaihcaaGreat

/- lives(): the law's own example. -/
namespace Go.Proofs.YtiinponoeaihcaaGreat
open Go.RowKit Go.Shelf

attribute [local go_sem] Oper.semAt_some
set_option maxHeartbeats 16000000 in
set_option maxRecDepth 100000 in
theorem lives_any (w : World) : Calls Tryz.prog 14 #[] w fun e w' => e = .returned (.bool true) ∧ Below w.heap.size w w' := by
  go_enter Tryz.func14, Tryz.ntmps14
  have HNew := Lib.hid (cnew_any 2 w)
  go_upto_region 2 with ((with_reducible refine HNew.out.mono ?_); rintro e w1 (⟨hbad, _⟩ | ⟨_, rfl, hc⟩); (exact absurd (by decide) hbad); have HC := Lib.hid hc; clear hc)
  obtain ⟨cb, hcb⟩ : ∃ k, k = w.heap.size := ⟨_, rfl⟩
  rw [← hcb] at HC ⊢
  have HSt := Lib.hid (start_hello (S := freshS 2) 0 (by decide) w1 HC.out)
  unfold pC at HSt ⊢
  clear hcb HNew
  go_upto_region 5 with ((with_reducible refine HSt.out.mono ?_); rintro e w2 ⟨x, y, b, t, rfl, h3⟩; have H2 : Hid (Ck cb (S1 x y) w [(b, .cells (pkC (S1 x y).out) t (0, 0))] w2) := Lib.hid h3; clear h3)
  clear HC HSt
  have hb := H2.out.get (k := b) List.mem_cons_self
  have d3 : w2.cell? ⟨b, 3, none⟩ = some (.int .i64 1048577) := (cell_of_row w2 b 3 _ _ _ hb).trans (by kernel_rfl)
  clear hb
  have HPut := Lib.hid (put_hello w2)
  unfold pkC helloA at HPut
  dsimp only at HPut
  go_upto_region 8 with ((with_reducible refine HPut.out.mono ?_); rintro e w3 ⟨v, rfl, hbb, hrd⟩; have H3 := Lib.hid (H2.out.below hbb); have HRd := Lib.hid (hrd w3 (Below.refl _ _)); clear hbb hrd)
  clear HPut d3 H2
  have HRc := Lib.hid (recv_hello x y v 1 w3 H3.out HRd.out)
  unfold pC at HRc
  go_upto_region 9 with ((with_reducible refine HRc.out.mono ?_); rintro e w4 ⟨rfl, h4⟩; have H4 := Lib.hid h4; clear h4)
  clear HRc HRd H3
  have HAk := Lib.hid (ask_sync (S := S2 x y) (N := 2) (S2_bd (S1_iv x y).1) (by omega) rfl rfl rfl (by show (3 : Int) ≠ 0; decide) rfl ⟨#[]⟩ ⟨#[]⟩ 0 0 0 0 ⟨#[]⟩ (small_I64 (by decide)) (by decide) rfl 2 w4 H4.out)
  unfold pC callL at HAk
  go_upto_region 10 with ((with_reducible refine HAk.out.mono ?_); rintro e w5 ⟨rfl, wb, h5⟩; have H5 := Lib.hid h5; clear h5)
  clear HAk H4
  have HTo : Hid (Calls Tryz.prog 10 #[pC cb] w5 fun e w' => e = .returned (.tuple #[.agg #[.int .i64 16, .int .i64 0, .string ⟨#[]⟩, .slice none 0 0, .int .i64 0, .int .i64 0, .int .i64 0], .bool true]) ∧ ∃ T, Ck cb T w [(b, .cells (pkC (S1 x y).out) t (0, 0))] w') := Lib.hid ((ctold_any none 0 0 rfl w5 H5.out).mono fun e w' h => ⟨h.1, _, h.2⟩)
  unfold pC at HTo
  go_upto_region 11 with ((with_reducible refine HTo.out.mono ?_); rintro e w6 ⟨rfl, T, h6⟩; have H6 := Lib.hid h6; clear h6)
  clear HTo H5
  obtain ⟨w7, hw7⟩ : ∃ u, u = w6.alloc (.cells #[.int .i64 16, .int .i64 0, .string ⟨#[]⟩, .slice none 0 0, .int .i64 0, .int .i64 0, .int .i64 0] 35) := ⟨_, rfl⟩
  obtain ⟨n0, hn⟩ : ∃ u, u = w6.heap.size := ⟨_, rfl⟩
  have H7 := Lib.hid (H6.out.box #[.int .i64 16, .int .i64 0, .string ⟨#[]⟩, .slice none 0 0, .int .i64 0, .int .i64 0, .int .i64 0] 35)
  rw [← hw7, ← hn] at H7
  rw [← hw7, ← hn]
  clear hw7 hn H6
  have hb := H7.out.get (k := b) (List.mem_cons_of_mem _ List.mem_cons_self)
  have hc := H7.out.get (k := n0) List.mem_cons_self
  have d0 : w7.cell? ⟨b, 0, none⟩ = some (.int .i64 3) := (cell_of_row w7 b 0 _ _ _ hb).trans (by kernel_rfl)
  have d3 : w7.cell? ⟨b, 3, none⟩ = some (.int .i64 1048577) := (cell_of_row w7 b 3 _ _ _ hb).trans (by kernel_rfl)
  have d4 : w7.cell? ⟨b, 4, none⟩ = some (.int .i64 20) := (cell_of_row w7 b 4 _ _ _ hb).trans (by kernel_rfl)
  have e0 : w7.cell? ⟨n0, 0, none⟩ = some (.int .i64 16) := cell_of_row w7 n0 0 _ _ _ hc
  clear hb hc
  have HNw := Lib.hid (cnew_any 9 w7)
  go_wp2_with ((with_reducible refine HNw.out.mono ?_); rintro e w8 (⟨_, rfl, rfl⟩ | ⟨hbad, _⟩); rotate_left; (exact absurd hbad (by decide)))
  go_ret
  exact ⟨rfl, H7.out.bl⟩
end Go.Proofs.YtiinponoeaihcaaGreat
