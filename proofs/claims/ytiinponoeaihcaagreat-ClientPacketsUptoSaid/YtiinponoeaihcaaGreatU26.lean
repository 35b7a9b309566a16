/- The law: a client's packets. -/
import Derived.Test.YtiinponoeaihcaaGreatU25
set_option linter.unusedVariables false
set_option linter.unusedSimpArgs false
set_option linter.unusedSectionVars false
namespace Go.Proofs.YtiinponoeaihcaaGreat
open Go.RowKit Go.Shelf

attribute [local go_sem] Oper.semAt_some
/-- a row of packets that are told, wherever it lies -/
def ToldR (w : World) (A : Option Addr) (m : Nat) : Prop := ∀ i, i < m → i < 60 → ∃ b o, A = some ⟨b, o, none⟩ ∧ b < w.heap.size ∧ ∃ (p : Pk) (B : Option Addr) (c : Nat) (L : List (List UInt8)), w.rangeAt b (o + i * 43) (pkC p).toList ∧ PkW p ∧ p.nv = .slice B L.length c ∧ nmB L ≤ 1100000 ∧ StrR w B L
/-- a row of calls that are asked -/
def AskR (w : World) (A : Option Addr) (m sz : Nat) : Prop := ∀ i, i < m → i < 8 → ∃ b o, A = some ⟨b, o, none⟩ ∧ b < w.heap.size ∧ ∃ kd p1 p2 fl fd off n d, w.rangeAt b (o + i * sz + 2) (callL kd p1 p2 fl fd off n d) ∧ I64 fd ∧ p1.size ≤ 1100000 ∧ p2.size ≤ 1100000 ∧ d.size ≤ 1100000
theorem range_keep {w w' : World} {b o : Nat} {L : List Value} (h : w.rangeAt b o L) (hb : Below w.heap.size w w') (hl : b < w.heap.size) : w'.rangeAt b o L := fun j v hj => (hb.cell (p := ⟨b, o + j, none⟩) hl).trans (h j v hj)
theorem start_head {cb : Nat} {w0 w : World} {Ls : List (Nat × Obj)} (h : Ck cb (freshS 1) w0 Ls w) :
    Calls Tryz.prog 5 #[pC cb, .int .i64 1, .int .i64 0] w fun e w' => ∃ v, e = .returned (.tuple #[v, .int .i64 0]) ∧ HeadI cb 2 0 v w0 Ls w' := by
  have hJ : ∀ a b, Jv 0 0 (startS (freshS 1) 1 a b) := fun a b => ⟨Iv.start (by decide), Int.le_refl _, rfl, rfl, fun e => (by cases e), rfl, ⟨_, _, _, rfl⟩⟩
  refine (cstart_any 1 0 w h).mono ?_
  rintro e w' (⟨hb, _⟩ | ⟨_, a, b, ⟨rfl, hc⟩ | ⟨T, p, hT, b2, rfl, hr, hc⟩⟩)
  · exact absurd (by decide) hb
  · exact ⟨_, rfl, _, 0, hc, (hJ a b).mono (by omega), Or.inl ⟨rfl, rfl⟩⟩
  · exact ⟨_, rfl, sent_head (hJ a b) (by omega) rfl hT hr hc⟩
theorem HeadI.bl {cb N : Nat} {high : Int} {v : Value} {w0 w : World} {Ls : List (Nat × Obj)} (h : HeadI cb N high v w0 Ls w) : Below w0.heap.size w0 w := h.elim fun _ h => h.elim fun _ h => h.1.bl
theorem HeadI.mono {cb N M : Nat} {high : Int} {v : Value} {w0 w : World} {Ls : List (Nat × Obj)} (h : HeadI cb N high v w0 Ls w) (hM : N ≤ M) : HeadI cb M high v w0 Ls w := by
  obtain ⟨S, g, h1, h2, h3⟩ := h
  exact ⟨S, g, h1, h2.mono hM, h3⟩
theorem HeadI.val {cb N : Nat} {high : Int} {v : Value} {w0 w : World} {Ls : List (Nat × Obj)} (h : HeadI cb N high v w0 Ls w) : v = .slice none 0 0 ∨ ∃ b, v = .slice (some ⟨b, 0, none⟩) 1 1 := by
  obtain ⟨S, g, _, _, ⟨h, _⟩ | ⟨b, h, _⟩⟩ := h
  · exact Or.inl h
  · exact Or.inr ⟨b, h⟩
theorem told_w {p x : Pk} (q : PkW p) (h : GoodP x) : PkW { p with kd := x.kd + 1, cl := 1, ep := x.ep, sq := x.sq, op := x.op } := by
  have hk : 1 ≤ x.kd ∧ x.kd ≤ 3 := by rcases h.is with h | h <;> omega
  have ho : 0 ≤ x.op ∧ x.op < 256 := by
    rcases h.is with ⟨_, _, h, _⟩ | ⟨_, _, h, _⟩
    · exact h
    · omega
  have he := h.ep
  constructor
  · exact I64_u ⟨by show (0 : Int) ≤ x.kd + 1; omega, by show x.kd + 1 ≤ (9223372036854775807 : Int); omega⟩
  · exact small_I64 (x := 1) (by decide)
  · exact I64_u ⟨he.1, by show x.ep ≤ (9223372036854775807 : Int); omega⟩
  · exact I64_u h.sq
  · exact I64_u ⟨ho.1, by show x.op ≤ (9223372036854775807 : Int); omega⟩
  · exact q.at_
  · exact q.n
  · exact q.old
  · exact q.new
  · exact q.ck
  · exact q.fl
  · exact q.fd
  · exact q.off
  · exact q.cn
  · exact q.ino
  · exact q.er
  · exact q.re
  · exact q.rfd
  · exact q.ik
  · exact q.il
  · exact q.isz
  · exact q.wr
  · exact q.nk
  · exact q.nl
  · exact q.ns
  · exact q.b0
  · exact q.b1
  · exact q.b2
  · exact q.b3
  · exact q.o0
  · exact q.o1
  · exact q.o2
  · exact q.o3
  · exact q.o4
  · exact q.o5
  · exact q.o6
  · exact q.o7
  · exact q.d
  · exact q.p1
  · exact q.p2
  · exact q.cd
  · exact q.rd
set_option maxHeartbeats 16000000 in
set_option maxRecDepth 100000 in
theorem law_packets (hLv : ∀ W, Calls Tryz.prog 14 #[] W fun e W' => e = .returned (.bool true) ∧ Below W.heap.size W W') (A A' : Option Addr) (n c m c' : Nat) (w : World) (hn : n ≤ 1100000) (hm : m ≤ 1100000) (hA : AskR w A n 10) (hT : ToldR w A' m) :
    Calls Tryz.prog 3 #[.slice A n c, .slice A' m c'] w fun e w' => e = .returned (.bool true) ∧ Below w.heap.size w w' := by
  have HLv := Lib.hid hLv
  have HA := Lib.hid hA
  have HT := Lib.hid hT
  clear hLv hA hT
  go_enter Tryz.func3, Tryz.ntmps3
  have HNew := Lib.hid (cnew_any 1 w)
  go_upto_region 2 with ((with_reducible refine HNew.out.mono ?_); rintro e w1 (⟨hbad, _⟩ | ⟨_, rfl, hc⟩); (exact absurd (by decide) hbad); have HC := Lib.hid hc; clear hc)
  obtain ⟨cb, hcb⟩ : ∃ k, k = w.heap.size := ⟨_, rfl⟩
  rw [← hcb] at HC ⊢
  have Hcb := Lib.hid hcb
  have HSt := Lib.hid (start_head HC.out)
  unfold pC at HSt ⊢
  clear hcb HNew
  go_upto_region 11 with ((with_reducible refine HSt.out.mono ?_); rintro e w2 ⟨v0, rfl, hh⟩; have HH := Lib.hid hh; clear hh)
  clear HC HSt
  go_loopw [6, 7, 9, 10, 11, 12, 13, 14, 15, 16, 17] (fun z6 z7 z9 z10 z11 z12 z13 z14 z15 z16 z17 wr => ∃ (i a : Nat) (high : Int), z11 = .int .i64 i ∧ z6 = .int .i64 (8 * i : Nat) ∧ z9 = .int .i64 high ∧ z10 = .int .i64 a ∧ i ≤ 60 ∧ a ≤ 8 ∧ Hid (HeadI cb (2 + 4 * i) high z7 w [] wr)) (fun z6 z7 z9 z10 z11 z12 z13 z14 z15 z16 z17 _ => 60 - (intOf z11).toNat)
  case atStart => exact ⟨0, 0, 0, rfl, rfl, rfl, rfl, by omega, by omega, HH⟩
  case round =>
    obtain ⟨i, a, high, rfl, rfl, rfl, rfl, hi, ha, HH⟩ := hrel
    by_cases him : i < m
    rotate_left
    · have h1 : ¬ (i : Int) < m := by omega
      have HL := Lib.hid (HLv.out wr)
      have HB := Lib.hid HH.out.bl
      go_wp2_with ((with_reducible refine HL.out.mono ?_); rintro e we ⟨rfl, hbe⟩; have HBe := Lib.hid hbe; clear hbe)
      go_ret
      exact ⟨rfl, HB.out.trans (HBe.out.mono HB.out.size)⟩
    by_cases hi60 : i < 60
    rotate_left
    · have h1 : (i : Int) < m := by omega
      have h2 : ¬ (i : Int) < 60 := by omega
      have HL := Lib.hid (HLv.out wr)
      have HB := Lib.hid HH.out.bl
      go_wp2_with ((with_reducible refine HL.out.mono ?_); rintro e we ⟨rfl, hbe⟩; have HBe := Lib.hid hbe; clear hbe)
      go_ret
      exact ⟨rfl, HB.out.trans (HBe.out.mono HB.out.size)⟩
    have h1 : (i : Int) < m := by omega
    have h2 : (i : Int) < 60 := by omega
    obtain ⟨S, g, hC, hJ, hv⟩ := HH.out
    have HC := Lib.hid hC
    have HJ := Lib.hid hJ
    clear hC hJ HH
    have hnow : (8 * i + 8 : Nat) = 8 * (i + 1) := by omega
    rcases hv with ⟨rfl, hg⟩ | ⟨b, rfl, hr, hw, h3, h4⟩
    · have Hg : Hid (Jv (2 + 4 * i) high S) := Lib.hid (by rw [← hg]; exact HJ.out)
      clear hg HJ
      obtain ⟨A1, m1, c1, htn⟩ := Hg.out.tn
      have HTo := Lib.hid (ctold_any A1 m1 c1 htn wr HC.out)
      have HJ2 := Lib.hid Hg.out.told
      clear htn
      unfold pC at HTo
      go_upto_region 37 with ((with_reducible refine HTo.out.mono ?_); rintro e wt ⟨rfl, hct⟩; have HCt := Lib.hid hct; clear hct)
      have HBy := Lib.hid (cbusy_any wt HCt.out)
      obtain ⟨bz, hbz⟩ : ∃ z, z = (toldS S).wk.isSome := ⟨_, rfl⟩
      rw [← hbz] at HBy
      unfold pC at HBy
      have HTk := Lib.hid (tick_head HJ2.out (by omega) (8 * (i : Int) + 8) wt HCt.out)
      unfold pC at HTk
      clear hbz HTo HC Hg
      rcases bdic bz with h | h
      rotate_left
      · subst h
        go_wp2_with (first | ((with_reducible refine HBy.out.mono ?_); rintro e wq ⟨rfl, hwq⟩; subst hwq) | ((with_reducible refine HTk.out.mono ?_); rintro e wk ⟨v, rfl, hh⟩; have HH2 := Lib.hid hh; clear hh))
        go_roundw
        case rel => exact ⟨i + 1, a, high, by go_num, by go_num, rfl, rfl, by omega, by omega, Lib.hid (HH2.out.mono (by omega))⟩
        case measure => simp [intOf]; omega
      subst h
      by_cases han : a < n
      rotate_left
      · have h5 : ¬ (a : Int) < n := by omega
        go_wp2_with (first | ((with_reducible refine HBy.out.mono ?_); rintro e wq ⟨rfl, hwq⟩; subst hwq) | ((with_reducible refine HTk.out.mono ?_); rintro e wk ⟨v, rfl, hh⟩; have HH2 := Lib.hid hh; clear hh))
        go_roundw
        case rel => exact ⟨i + 1, a, high, by go_num, by go_num, rfl, rfl, by omega, by omega, Lib.hid (HH2.out.mono (by omega))⟩
        case measure => simp [intOf]; omega
      have h5 : (a : Int) < n := by omega
      by_cases ha8 : a < 8
      rotate_left
      · have h6 : ¬ (a : Int) < 8 := by omega
        go_wp2_with (first | ((with_reducible refine HBy.out.mono ?_); rintro e wq ⟨rfl, hwq⟩; subst hwq) | ((with_reducible refine HTk.out.mono ?_); rintro e wk ⟨v, rfl, hh⟩; have HH2 := Lib.hid hh; clear hh))
        go_roundw
        case rel => exact ⟨i + 1, a, high, by go_num, by go_num, rfl, rfl, by omega, by omega, Lib.hid (HH2.out.mono (by omega))⟩
        case measure => simp [intOf]; omega
      have h6 : (a : Int) < 8 := by omega
      have h7 : (0 : Int) ≤ a := by omega
      obtain ⟨ab, ao, hAe, hab, kd, p1, p2, fl, fd, off, cn, d, hrg, hfd, hp1, hp2, hd⟩ := HA.out a han ha8
      subst hAe
      have hbw : Below w.heap.size w wt := HCt.out.bl
      have hrg2 := range_keep hrg hbw hab
      have hsz : Tryz.prog.cellsOf 54 = 10 := by kernel_rfl
      have HCu := Lib.hid (cut23_any kd p1 p2 fl fd off cn d hp1 hp2 hd)
      have HAs : Hid (∀ q1 q2 qd : ByteArray, qd.size ≤ 80 → ∀ W, Ck cb (toldS S) w [] W → Calls Tryz.prog 12 #[.pointer (some ⟨cb, 0, none⟩), .agg (callL kd q1 q2 fl fd off cn qd).toArray, .int .i64 (8 * (i : Int) + 8)] W fun e w' => ∃ v er, e = .returned (.tuple #[v, .int .i64 er]) ∧ HeadI cb (2 + 4 * i + 2) high v w [] w') := Lib.hid fun q1 q2 qd hq W hW => ask_head HJ2.out (by omega) kd q1 q2 fl fd off cn qd hfd hq _ W hW
      clear hrg hp1 hp2 hd hab HTk hfd
      go_wp2_with (first | ((with_reducible refine HBy.out.mono ?_); rintro e wq ⟨rfl, hwq⟩; subst hwq) | (refine wpList_load_mid rfl 30 _ rfl ab (ao + a * 10 + 2) rfl (callL kd p1 p2 fl fd off cn d) _ hrg2 Tryz.underlying30 rfl (by kernel_rfl) ?_) | ((with_reducible refine (HCu.out _).mono ?_); rintro e wc ⟨q1, q2, qd, rfl, hqd, hb⟩; have HD80 := Lib.hid hqd; have HCq := Lib.hid (HCt.out.below hb); clear hqd hb) | ((with_reducible refine (HAs.out _ _ _ HD80.out _ HCq.out).mono ?_); rintro e wk ⟨v, er, rfl, hh⟩; have HH2 := Lib.hid hh; clear hh))
      go_roundw
      case rel => exact ⟨i + 1, a + 1, high, by go_num, by go_num, rfl, by go_num, by omega, by omega, Lib.hid (HH2.out.mono (by omega))⟩
      case measure => simp [intOf]; omega
    · obtain ⟨x, hx⟩ : ∃ x, x = S.out := ⟨_, rfl⟩
      have hG := HJ.out.out hw
      rw [← hx] at hr h3 h4 hG
      have hnv : x.nv.oneCell' = true := by rw [hx, HJ.out.nv]; rfl
      have hk : x.kd = 1 ∨ x.kd = 3 := hG.is.elim (fun h => Or.inr h.1) fun h => Or.inl h.1
      have HK := Lib.hid hk
      have HG := Lib.hid hG
      have HNv := Lib.hid hnv
      have H34 := Lib.hid (And.intro h3 h4)
      have HBx := Lib.hid (HC.out.box (pkC {}) 41)
      have hth := row_thereK (HBx.out.get (k := wr.heap.size) List.mem_cons_self)
      clear hk hG hnv h3 h4 hw hx
      go_upto_region 18 with (first | (refine wpList_load_mid rfl 41 _ rfl b 0 rfl (pkC x).toList _ hr Tryz.underlying41 rfl (pk_len x) ?_) | (refine wpList_store_mid rfl 41 _ _ rfl wr.heap.size 0 (pkC x).toList.toArray rfl rfl hth (pk_size x) (pk_one x HNv.out) ?_; generalize hwe : (World.setCells _ _ _ _) = wa; obtain ⟨nx, hnx⟩ : ∃ u, u = wr.heap.size := ⟨_, rfl⟩; have H2 : Hid (Ck cb S w [(nx, .cells (pkC x) 41 (0, 0))] wa) := Lib.hid (by rw [← hwe, hnx]; exact HBx.out.setAll (vs := (pkC x).toList) HC.out.fresh rfl); rw [← hnx]; clear hwe hnx hth HBx HC))
      have hr2 := row_rangeK (H2.out.get (k := nx) List.mem_cons_self)
      have HPt := Lib.hid (good_put HG.out wa)
      clear hr
      go_upto_region 19 with (first | (refine wpList_load_mid rfl 41 _ rfl nx 0 rfl (pkC x).toList _ hr2 Tryz.underlying41 rfl (pk_len x) ?_) | ((with_reducible refine HPt.out.mono ?_); rintro e wb ⟨⟨pv, rfl⟩, hb⟩; have H3 := Lib.hid (H2.out.below hb); clear hb))
      clear hr2 HPt H2
      have hrow := H3.out.get (k := nx) List.mem_cons_self
      have d0 : wb.cell? ⟨nx, 0, none⟩ = some (.int .i64 x.kd) := cell_of_row wb nx 0 _ _ _ hrow
      have d1 : wb.cell? ⟨nx, 1, none⟩ = some (.int .i64 1) := by rw [← HG.out.cl]; exact cell_of_row wb nx 1 _ _ _ hrow
      have d3 : wb.cell? ⟨nx, 3, none⟩ = some (.int .i64 x.sq) := cell_of_row wb nx 3 _ _ _ hrow
      clear hrow
      go_cut [71] from 55 to 70 (fun z wx => z = .bool false ∧ wx = wb)
      case first =>
        rcases HK.out with h | h
        · rw [h] at d0
          go_wp2_with fail
          go_meet
          exact ⟨rfl, rfl⟩
        · rw [h] at d0
          go_wp2_with fail
          go_meet
          exact ⟨rfl, rfl⟩
      case rest =>
        obtain ⟨hz71, hwc⟩ := hcut
        subst hz71
        subst hwc
        clear d0 d1 d3
        have hrow := H3.out.get (k := nx) List.mem_cons_self
        have d0 : wc.cell? ⟨nx, 0, none⟩ = some (.int .i64 x.kd) := cell_of_row _ nx 0 _ _ _ hrow
        have d3 : wc.cell? ⟨nx, 3, none⟩ = some (.int .i64 x.sq) := cell_of_row _ nx 3 _ _ _ hrow
        clear hrow
        go_upto_if 74 with fail
        go_cut [9] from 72 to 97 (fun z wx => z = .int .i64 g ∧ Hid (Ck cb S w [(nx, .cells (pkC x) 41 (0, 0))] wx))
        case first =>
          rcases HK.out with h | h
          · have hq : (x.kd == 3) = false := by rw [h]; rfl
            have hgh := H34.out.2 h
            clear h
            go_wp2_with fail
            go_meet
            exact ⟨by rw [hgh], H3⟩
          · have hq : (x.kd == 3) = true := by rw [h]; rfl
            obtain ⟨h5, h6⟩ := H34.out.1 h
            clear h
            have HId : Hid (∀ n, Calls Tryz.prog 7 #[.pointer (some ⟨cb, 0, none⟩)] (wc.drewN n) fun e w' => e = .returned (.int .i64 S.id) ∧ wc.drewN n = w') := Lib.hid fun n => (cid_any _ (H3.out.drewN n)).mono fun e w' h => ⟨h.1, h.2.symm⟩
            by_cases c1 : high < x.sq
            · have e1 : decide (x.sq ≤ high) = false := by simp; omega
              have hgx : g = x.sq := by rw [h6]; omega
              have HGx := Lib.hid hgx
              clear h5 h6 hgx
              go_upto_region 22 with fail
              go_quiet (fail)
              go_wp2_with fail
              go_meet
              exact ⟨by rw [HGx.out], Lib.hid (H3.out.drewN _)⟩
            · have e1 : decide (x.sq ≤ high) = true := by simp; omega
              have e4 : ¬ x.sq > high := by omega
              have hgx : g = high := by rw [h6]; omega
              have HGx := Lib.hid hgx
              by_cases c2 : x.sq = S.id
              · have e2 : (x.sq == S.id) = true := by rw [c2]; simp
                have e2b : (x.sq != S.id) = false := by rw [c2]; simp
                have e2c : decide (x.sq = S.id) = true := by rw [c2]; simp
                clear h5 h6 hgx c2
                go_upto_region 22 with fail
                go_quiet ((go_at_call 7; exact quiet_left (HId.out _)))
                go_wp2_with fail
                go_meet
                exact ⟨by rw [HGx.out], Lib.hid (H3.out.drewN _)⟩
              · have c3 : x.sq = high := by omega
                have e2 : (x.sq == S.id) = false := by rw [beq_eq_false_iff_ne]; exact c2
                have e3 : (x.sq == high) = true := by rw [c3]; simp
                have e2b : (x.sq != S.id) = true := by rw [bne_iff_ne]; exact c2
                have e2c : decide (x.sq = S.id) = false := by simp; exact c2
                have e3b : (x.sq != high) = false := by rw [c3]; simp
                have e3c : decide (x.sq = high) = true := by rw [c3]; simp
                clear h5 h6 hgx c2 c3
                go_upto_region 22 with fail
                go_quiet ((go_at_call 7; exact quiet_left (HId.out _)))
                go_wp2_with fail
                go_meet
                exact ⟨by rw [HGx.out], Lib.hid (H3.out.drewN _)⟩
        case rest =>
          obtain ⟨hz9, H4⟩ := hcut
          subst hz9
          clear d0 d3
          obtain ⟨tb, tof, hAe, htb, p, pB, pc, pL, hrg, hpw, hpn, hpm, hps⟩ := HT.out i him hi60
          subst hAe
          have hrg2 := range_keep hrg H4.out.bl htb
          have HPs := Lib.hid (hps.keep H4.out.bl)
          have HPw := Lib.hid hpw
          have HPn := Lib.hid hpn
          have HPm := Lib.hid hpm
          have hpnv : p.nv.oneCell' = true := by rw [hpn]; rfl
          have HPv := Lib.hid hpnv
          have HBx := Lib.hid (H4.out.box (pkC {}) 41)
          have hth := row_thereK (HBx.out.get (k := wc.heap.size) List.mem_cons_self)
          have hsz : Tryz.prog.cellsOf 41 = 43 := by kernel_rfl
          have h0i : (0 : Int) ≤ i := by omega
          clear hrg hpw hpn hpm hps hpnv htb
          go_upto_region 27 with (first | (refine wpList_load_mid rfl 41 _ rfl tb (tof + i * 43) rfl (pkC p).toList _ hrg2 Tryz.underlying41 rfl (pk_len p) ?_) | (refine wpList_store_mid rfl 41 _ _ rfl wc.heap.size 0 (pkC p).toList.toArray rfl rfl hth (pk_size p) (pk_one p HPv.out) ?_; generalize hwe : (World.setCells _ _ _ _) = wd; obtain ⟨na, hna⟩ : ∃ u, u = wc.heap.size := ⟨_, rfl⟩; have H5 : Hid (Ck cb S w [(na, .cells (pkC p) 41 (0, 0)), (nx, .cells (pkC x) 41 (0, 0))] wd ∧ nx < na ∧ Below wc.heap.size wc wd ∧ wc.heap.size ≤ na) := Lib.hid (by rw [← hwe, hna]; refine ⟨HBx.out.setAll (vs := (pkC p).toList) H4.out.fresh rfl, (H4.out.ge (k := nx) List.mem_cons_self).2, ?_, Nat.le_refl _⟩; exact setCells_below2 (Nat.le_refl _) _ _ _ _ ((Below.refl _ _).alloc (Nat.le_refl _) _)); rw [← hna]; clear hwe hna hth HBx))
          have hrow := H5.out.1.get (k := nx) (List.mem_cons_of_mem _ List.mem_cons_self)
          have hrow2 := H5.out.1.get (k := na) List.mem_cons_self
          have d0 : wd.cell? ⟨nx, 0, none⟩ = some (.int .i64 x.kd) := cell_of_row _ nx 0 _ _ _ hrow
          have d2 : wd.cell? ⟨nx, 2, none⟩ = some (.int .i64 x.ep) := cell_of_row _ nx 2 _ _ _ hrow
          have d3 : wd.cell? ⟨nx, 3, none⟩ = some (.int .i64 x.sq) := cell_of_row _ nx 3 _ _ _ hrow
          have d4 : wd.cell? ⟨nx, 4, none⟩ = some (.int .i64 x.op) := cell_of_row _ nx 4 _ _ _ hrow
          have b0 : wd.cell? ⟨na, 0, none⟩ = some (.int .i64 p.kd) := cell_of_row _ na 0 _ _ _ hrow2
          have b1 : wd.cell? ⟨na, 1, none⟩ = some (.int .i64 p.cl) := cell_of_row _ na 1 _ _ _ hrow2
          have b2 : wd.cell? ⟨na, 2, none⟩ = some (.int .i64 p.ep) := cell_of_row _ na 2 _ _ _ hrow2
          have b3 : wd.cell? ⟨na, 3, none⟩ = some (.int .i64 p.sq) := cell_of_row _ na 3 _ _ _ hrow2
          have b4 : wd.cell? ⟨na, 4, none⟩ = some (.int .i64 p.op) := cell_of_row _ na 4 _ _ _ hrow2
          have f0 := frozen_of_row wd na 0 _ _ hrow2
          have f1 := frozen_of_row wd na 1 _ _ hrow2
          have f2 := frozen_of_row wd na 2 _ _ hrow2
          have f3 := frozen_of_row wd na 3 _ _ hrow2
          have f4 := frozen_of_row wd na 4 _ _ hrow2
          have hne : na ≠ nx := by have := H5.out.2.1; omega
          have hne2 : nx ≠ na := by have := H5.out.2.1; omega
          have hkb : x.kd + 1 ≤ 5 ∧ 0 ≤ x.kd := by rcases HK.out with h | h <;> omega
          clear hrow hrow2 hrg2
          go_upto_region 32 with fail
          obtain ⟨wf, hwf⟩ : ∃ u, u = ((((wd.setCell ⟨na, 0, none⟩ (.int .i64 (x.kd + 1))).setCell ⟨na, 1, none⟩ (.int .i64 1)).setCell ⟨na, 2, none⟩ (.int .i64 x.ep)).setCell ⟨na, 3, none⟩ (.int .i64 x.sq)).setCell ⟨na, 4, none⟩ (.int .i64 x.op) := ⟨_, rfl⟩
          rw [← hwf]
          obtain ⟨y, hy⟩ : ∃ y : Pk, y = { p with kd := x.kd + 1, cl := 1, ep := x.ep, sq := x.sq, op := x.op } := ⟨_, rfl⟩
          have H6 : Hid (Ck cb S w [(na, .cells (pkC y) 41 (0, 0)), (nx, .cells (pkC x) 41 (0, 0))] wf) := Lib.hid (by
            have hnr : ∀ r ∈ [(nx, Obj.cells (pkC x) 41 (0, 0))], r.1 ≠ na := fun r hr => by
              simp only [List.mem_singleton] at hr
              subst hr
              exact hne2
            rw [hwf, hy]
            exact ((((H5.out.1.set (j := 0) (v := .int .i64 (x.kd + 1)) rfl hnr).set (j := 1) (v := .int .i64 1) rfl hnr).set (j := 2) (v := .int .i64 x.ep) rfl hnr).set (j := 3) (v := .int .i64 x.sq) rfl hnr).set (j := 4) (v := .int .i64 x.op) rfl hnr)
          have hbf : Below wc.heap.size wc wf := by
            rw [hwf]
            have hge : wc.heap.size ≤ na := H5.out.2.2.2
            exact ((((H5.out.2.2.1.setCell hge _).setCell hge _).setCell hge _).setCell hge _).setCell hge _
          have hyk : y.kd = 2 ∨ y.kd = 4 := by
            rw [hy]
            show x.kd + 1 = 2 ∨ x.kd + 1 = 4
            rcases HK.out with h | h <;> omega
          have hyn : y.nv = .slice pB pL.length pc := by rw [hy]; exact HPn.out
          have hyw : PkW y := by
            rw [hy]
            have q := HPw.out
            exact told_w q HG.out
          have HPt := Lib.hid (told_put y hyk pB pc pL hyn HPm.out wf (HPs.out.keep hbf) hyw)
          have hr3 := row_rangeK (H6.out.get (k := na) List.mem_cons_self)
          clear hwf hy d0 d2 d3 d4 b0 b1 b2 b3 b4 f0 f1 f2 f3 f4 hbf hyk hyn hyw
          go_upto_region 33 with (first | (refine wpList_load_mid rfl 41 _ rfl na 0 rfl (pkC y).toList _ hr3 Tryz.underlying41 rfl (pk_len y) ?_) | ((with_reducible refine HPt.out.mono ?_); rintro e wg hta; (rcases hta with ⟨rfl, hb⟩ | ⟨v, rfl, hb, ⟨gb, nn, cc, hge, rfl⟩, hRd⟩); (all_goals (have H7 : Hid (Ck cb S w [] wg) := Lib.hid ((H6.out.below hb).less (Ls' := []) (fun _ h => by cases h)); clear hb)); (all_goals (try (have HRd := Lib.hid hRd; clear hRd hge)))))
          · have HTk := Lib.hid (tick_head HJ.out (by omega) (8 * (i : Int) + 8) wg H7.out)
            unfold pC at HTk
            clear hr3 HPt
            go_wp2_with ((with_reducible refine HTk.out.mono ?_); rintro e wk ⟨v, rfl, hh⟩; have HH2 := Lib.hid hh; clear hh)
            go_roundw
            case rel => exact ⟨i + 1, a, g, by go_num, by go_num, rfl, rfl, by omega, by omega, Lib.hid (HH2.out.mono (by omega))⟩
            case measure => simp [intOf]; omega
          · have HRc := Lib.hid (recv_head HJ.out (by omega) (.slice (some ⟨gb, 0, none⟩) nn cc) (8 * (i : Int) + 8) wg H7.out (HRd.out wg (Below.refl _ _)))
            unfold pC at HRc
            clear hr3 HPt
            go_wp2_with ((with_reducible refine HRc.out.mono ?_); rintro e wk ⟨v, rfl, hh⟩; have HH2 := Lib.hid hh; clear hh)
            go_roundw
            case rel => exact ⟨i + 1, a, g, by go_num, by go_num, rfl, rfl, by omega, by omega, Lib.hid (HH2.out.mono (by omega))⟩
            case measure => simp [intOf]; omega
end Go.Proofs.YtiinponoeaihcaaGreat
