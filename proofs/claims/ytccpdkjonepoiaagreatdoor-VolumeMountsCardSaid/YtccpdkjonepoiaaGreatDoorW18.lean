/- Walks: plog.Redo's closure, over any patches. -/
import Derived.Test.YtccpdkjonepoiaaGreatDoorW07
import Derived.Test.YtccpdkjonepoiaaGreatDoorW17
import Derived.Test.YtccpdkjonepoiaaGreatDoorW08
import Derived.Test.YtccpdkjonepoiaaGreatDoorW10
set_option linter.unusedVariables false
set_option linter.unusedSimpArgs false
set_option linter.unusedSectionVars false
namespace Go.Proofs.YtccpdkjonepoiaaGreatDoor
open Go.RowKit Go.Shelf

attribute [local go_sem] Oper.semAt_some

set_option maxHeartbeats 4000000 in
set_option maxRecDepth 100000 in
theorem mstore_out {m sb lb ab n K : Nat} {S : List UInt8} (a : Nat) (v : Value) (b : List UInt8) (w : World) (h : MemAt w m sb lb ab n S K) (hb : BytesAt w v b) (ha : a < 4294967296) (hk : b.length ≤ 100000) (hak : S.length < a + b.length) :
    Calls Tryz.prog 25 #[.pointer (some ⟨m, 0, none⟩), .int .i64 a, v] w fun e w' => e = .returned (.int .i64 1) ∧ w' = w := by
  obtain ⟨A, c, rfl, hA⟩ := hb
  have HW := Lib.hid (within_any (a : Int) (b.length : Int) (nat_I64 (by omega)) (nat_I64 (by omega)) w h)
  have hwb : (decide (0 ≤ (a : Int)) && (decide (0 ≤ (b.length : Int)) && decide ((a : Int) + (b.length : Nat) ≤ S.length))) = false := by
    rw [Bool.eq_false_iff]
    intro e
    simp only [Bool.and_eq_true, decide_eq_true_eq] at e
    omega
  rw [hwb] at HW
  obtain ⟨N, hN⟩ : ∃ N, N = b.length := ⟨_, rfl⟩
  rw [← hN] at HW hak hk ⊢
  clear h hA hN hwb hak
  go_enter Tryz.func25, Tryz.ntmps25
  go_wp2_with (go_at_call 68; refine HW.out.mono ?_; rintro e w2 ⟨rfl, rfl⟩)
  go_ret
  exact ⟨rfl, rfl⟩
/-- a store anywhere -/
theorem mstore_gen {m sb lb ab n K : Nat} {S : List UInt8} (a : Nat) (v : Value) (b : List UInt8) (w : World) (h : MemAt w m sb lb ab n S K) (hb : BytesAt w v b) (hap : ∀ q, v.ownBlock = some q → q ≠ sb ∧ q ≠ ab) (ha : a < 4294967296) (hk : b.length ≤ 100000) :
    Calls Tryz.prog 25 #[.pointer (some ⟨m, 0, none⟩), .int .i64 a, v] w fun e w' => ∃ (E : Int) (S2 : List UInt8), e = .returned (.int .i64 E) ∧ (E = 0 → a + b.length ≤ S.length) ∧ S2.length = S.length ∧ MemAt w' m sb lb ab n S2 K ∧ Only (fun k => k = sb ∨ k = ab) w w' := by
  by_cases hf : a + b.length ≤ S.length
  · refine (mstore_at a v b w h hb hap hf hk).mono ?_
    rintro e w' ⟨rfl, hM, hO⟩
    exact ⟨0, _, rfl, fun _ => hf, Gd.splice_length hf, hM, hO⟩
  · refine (mstore_out a v b w h hb ha hk (by omega)).mono ?_
    rintro e w' ⟨rfl, rfl⟩
    exact ⟨1, S, rfl, fun e => absurd e (by decide), rfl, h, Only.refl _ _⟩

set_option maxHeartbeats 4000000 in
set_option maxRecDepth 100000 in
theorem redo1_gen {g m sb lb ab n Kn B bm bl c : Nat} {S : List UInt8} (v : Value) (P : List Gd.Pa) (w : World) (h : MemAt w m sb lb ab n S Kn) (hL : LogAt w g m 2688 4096) (hB : LowAt m sb lb ab g B) (hv : PasAt w v P) (hvb : ∀ q, v.ownBlock = some q → B ≤ q ∧ q ≠ bm) (hp2 : ∀ p ∈ P, Gd.PaMay p) (hn : P.length ≤ 64)
    (hbm : CellsAt w bm 3 #[.int .i64 c]) (hbl : CellsAt w bl 102 #[.pointer (some ⟨g, 0, none⟩)]) (hm : B ≤ bm ∧ B ≤ bl ∧ bl ≠ bm) (hc : c ≤ 1000) (hK : Kn < 800000000000) :
    Calls Tryz.prog 86 #[v, .pointer (some ⟨bm, 0, none⟩), .pointer (some ⟨bl, 0, none⟩)] w fun e w' => e = .returned (.tuple #[]) ∧ (∃ S2 : List UInt8, S2.length = S.length ∧ MemAt w' m sb lb ab n S2 (Kn + 20000 * P.length)) ∧ Only (fun k => Mem3 sb lb ab k ∨ k = bm) w w' ∧ CellsAt w' bm 3 #[.int .i64 (c + 1 : Nat)] := by
  obtain ⟨A, cap, rfl, hrow⟩ := hv
  have x0 := cell_of_row w bm 0 _ _ _ hbm
  have x1 := frozen_of_row w bm 0 _ _ hbm
  obtain ⟨w1, hw1⟩ : ∃ w1, w1 = w.setCell ⟨bm, 0, none⟩ (.int .i64 ((c : Int) + 1)) := ⟨_, rfl⟩
  have hO1 : Only (fun k => k = bm) w w1 := by rw [hw1]; exact only_setCell w _ _ rfl
  have hM1 : MemAt w1 m sb lb ab n S Kn := h.keep fun k hk => hO1.block k (h.lts k hk) fun e => by
    subst e
    rcases hk with e | e | e | e
    · have := hB.m; omega
    · have := hB.sb; omega
    · have := hB.lb; omega
    · have := hB.ab; omega
  have hL1 : LogAt w1 g m 2688 4096 := hL.keep hO1 fun e => by have := hB.g; omega
  have hbl1 : CellsAt w1 bl 102 #[.pointer (some ⟨g, 0, none⟩)] := (hO1.block bl hbl.lt hm.2.2).trans hbl
  have hbm1 : CellsAt w1 bm 3 #[.int .i64 (c + 1 : Nat)] := by
    rw [hw1]
    exact Go.heap_setCell_same _ _ 0 _ _ _ hbm
  have hrow1 : (A = none ∧ P = []) ∨ ∃ b, A = some ⟨b, 0, none⟩ ∧ b < w1.heap.size ∧ B ≤ b ∧ ∀ (k : Nat) (p : Gd.Pa), P[k]? = some p → w1.cell? ⟨b, k * 2, none⟩ = some (.int .i64 p.1) ∧ w1.cell? ⟨b, k * 2 + 1, none⟩ = some (.string ⟨p.2.toArray⟩) := by
    rcases hrow with h0 | ⟨b, rfl, hb, hcl⟩
    · exact Or.inl h0
    · obtain ⟨h1, h2⟩ := hvb b rfl
      exact Or.inr ⟨b, rfl, Nat.lt_of_lt_of_le hb hO1.size, h1, fun k p hp => ⟨(hO1.cell (p := ⟨b, k * 2, none⟩) hb h2).trans (hcl k p hp).1, (hO1.cell (p := ⟨b, k * 2 + 1, none⟩) hb h2).trans (hcl k p hp).2⟩⟩
  have HM1 := Lib.hid hM1
  have HL1 := Lib.hid hL1
  have Hbl := Lib.hid hbl1
  have Hbm := Lib.hid hbm1
  have HR := Lib.hid hrow1
  have HB := Lib.hid hB
  have Hm := Lib.hid hm
  have HP := Lib.hid hp2
  have HO1 := Lib.hid hO1
  have HW1 := Lib.hid hw1
  obtain ⟨r, hr⟩ : ∃ r, r = P.length := ⟨_, rfl⟩
  rw [← hr] at hn ⊢
  have Hr := Lib.hid hr
  have hS1 := h.len
  have hS2 := h.small
  have HS : Hid (S.length ≤ 1048576) := Lib.hid (by omega)
  have hc1 : (c : Int) ≤ 1000 := by omega
  clear h hL hB hvb hp2 hbm hbl hm hw1 hO1 hM1 hL1 hbl1 hbm1 hrow hrow1 hr hS1 hS2
  go_enter Tryz.func86, Tryz.ntmps86
  go_upto_region 2 with fail
  rw [← HW1.out]
  clear x0 x1
  go_loopw [10] (fun z wr => ∃ i : Nat, z = .int .i64 i ∧ i ≤ r ∧ Hid (∃ S1 : List UInt8, S1.length = S.length ∧ MemAt wr m sb lb ab n S1 (Kn + 20000 * i)) ∧ Hid (Only (Mem3 sb lb ab) w1 wr)) (fun z _ => r - (intOf z).toNat)
  case atStart => exact ⟨0, rfl, by omega, Lib.hid ⟨S, rfl, HM1.out⟩, Lib.hid (Only.refl _ _)⟩
  case round =>
    obtain ⟨i, rfl, hi, HMe, HO⟩ := hrel
    obtain ⟨S1, hS1, hM1⟩ := HMe.out
    have HM := Lib.hid hM1
    have HS1 := Lib.hid hS1
    clear hM1 hS1
    by_cases hlt : i < r
    · obtain ⟨p, hp⟩ : ∃ p, P[i]? = some p := ⟨_, List.getElem?_eq_getElem (by have := Hr.out; omega)⟩
      rcases HR.out with ⟨_, h0⟩ | ⟨b, rfl, hbl, hbB, hcell⟩
      · rw [h0] at hp; simp at hp
      obtain ⟨q0, q1⟩ := hcell i p hp
      have r0 := (HO.out.cell (p := ⟨b, i * 2, none⟩) hbl (HB.out.mem3 hbB)).trans q0
      have r1 := (HO.out.cell (p := ⟨b, i * 2 + 1, none⟩) hbl (HB.out.mem3 hbB)).trans q1
      have h1 : (i : Int) < r := by omega
      have h0 : (0 : Int) ≤ i := by omega
      have HX := Lib.hid hp
      have Hpm := Lib.hid (List.mem_of_getElem? hp)
      clear hp hcell q0 q1 hlt
      go_upto_region 4 with fail
      obtain ⟨s, hs⟩ : ∃ s : ByteArray, s = ⟨p.2.toArray⟩ := ⟨_, rfl⟩
      obtain ⟨q, hq⟩ : ∃ q, q = p.1 := ⟨_, rfl⟩
      rw [← hs, ← hq]
      obtain ⟨wz, hwz⟩ : ∃ u, u = wr.alloc (.cells #[.int .i64 q, .string s] 122) := ⟨_, rfl⟩
      rw [← hwz]
      have hbz : Below wr.heap.size wr wz := by rw [hwz]; exact (Below.refl _ _).alloc (Nat.le_refl _) _
      have hz : CellsAt wz wr.heap.size 122 #[.int .i64 q, .string s] := by rw [hwz]; exact heap_alloc_new _ _
      obtain ⟨px, hpx⟩ : ∃ px, px = wr.heap.size := ⟨_, rfl⟩
      rw [← hpx] at hz ⊢
      have hbd : Below wr.heap.size wr wz.drew := hbz.trans (((Below.refl wz.heap.size wz).drew).mono hbz.size)
      have hMd := HM.out.below hbd
      have hOd : Only (Mem3 sb lb ab) w1 wz.drew := HO.out.trans (below_only hbd _) fun _ _ e => e
      have hbld : CellsAt wz.drew bl 102 #[.pointer (some ⟨g, 0, none⟩)] := (hOd.block bl Hbl.out.lt (HB.out.mem3 Hm.out.2.1)).trans Hbl.out
      have hgd : LogAt wz.drew g m 2688 4096 := HL1.out.keep hOd (HL1.out.apart HM1.out)
      have hzd : CellsAt wz.drew px 122 #[.int .i64 q, .string s] := ((Below.refl wz.heap.size wz).drew.block px hz.lt).trans hz
      obtain ⟨v2, wm, hcv, hb2, hbel, hob, -⟩ := str_bytes wz.drew p.2
      rw [← hs] at hcv
      have hMm := hMd.below hbel
      have hblm : CellsAt wm bl 102 #[.pointer (some ⟨g, 0, none⟩)] := (hbel.block bl hbld.lt).trans hbld
      have hgm : LogAt wm g m 2688 4096 := (hbel.block g (lt_get hgd)).trans hgd
      have hzm : CellsAt wm px 122 #[.int .i64 q, .string s] := (hbel.block px hzd.lt).trans hzd
      have HSt := Lib.hid (mstore_gen q v2 p.2 wm hMm hb2 (fun j hj => by
        rw [hob] at hj
        cases hj
        have h1 := hMd.lts sb (by simp)
        have h2 := hMd.lts ab (by simp)
        omega) (by rw [hq]; exact (HP.out p Hpm.out).1) (by have := (HP.out p Hpm.out).2; omega))
      have HOm : Hid (Only (Mem3 sb lb ab) w1 wm) := Lib.hid (hOd.trans (below_only hbel _) fun _ _ e => e)
      have Hzm := Lib.hid hzm
      have d0 := cell_of_row wz.drew _ 0 _ _ _ hbld
      obtain ⟨d1, -, -⟩ := cell2 hgd
      have d2 := cell_of_row wz.drew _ 0 _ _ _ hzd
      have d3 := cell_of_row wz.drew _ 1 _ _ _ hzd
      have e0 := cell_of_row wm _ 0 _ _ _ hblm
      obtain ⟨e1, -, -⟩ := cell2 hgm
      have e2 := cell_of_row wm _ 0 _ _ _ hzm
      have e3 := cell_of_row wm _ 1 _ _ _ hzm
      have HQ := Lib.hid (And.intro hq hs)
      have HPx := Lib.hid hpx
      have hs1 := And.intro d0 (And.intro d1 (And.intro d2 d3))
      have hs2 := And.intro e0 (And.intro e1 (And.intro e2 e3))
      have HT5 : Hid (∀ w5, Only (fun k => k = sb ∨ k = ab) wm w5 → w5.cell? ⟨bl, 0, none⟩ = some (.pointer (some ⟨g, 0, none⟩)) ∧ w5.cell? ⟨g, 0, none⟩ = some (.pointer (some ⟨m, 0, none⟩)) ∧ w5.cell? ⟨px, 0, none⟩ = some (.int .i64 q) ∧ w5.cell? ⟨px, 1, none⟩ = some (.string s)) := Lib.hid fun w5 hO5 => by
        have hsb := hMm.lts sb (by simp)
        have hab := hMm.lts ab (by simp)
        have h3 : ∀ k, k = sb ∨ k = ab → Mem3 sb lb ab k := fun k e => e.elim (fun e => Or.inl e) fun e => Or.inr (Or.inr e)
        have hpn : ¬ Mem3 sb lb ab px := HB.out.mem3 (by have := HO.out.size; have := HR.out; rw [hpx]; omega)
        have y1 := cell_of_row w5 _ 0 _ _ _ ((hO5.block bl hblm.lt fun e => HB.out.mem3 Hm.out.2.1 (h3 _ e)).trans hblm)
        obtain ⟨y2, -, -⟩ := cell2 ((hO5.block g (lt_get hgm) fun e => HL1.out.apart HM1.out (h3 _ e)).trans hgm)
        have hz5 := (hO5.block px hzm.lt fun e => hpn (h3 _ e)).trans hzm
        exact ⟨y1, y2, cell_of_row w5 _ 0 _ _ _ hz5, cell_of_row w5 _ 1 _ _ _ hz5⟩
      clear hbz hz hbd hMd hOd hbld hgd hzd hb2 hbel hob hMm hblm hgm hzm hq hs hpx hwz r0 r1
      go_cut [10, 24] from 10 to 35 (fun s10 s24 wx => ∃ (gd : Bool) (S6 : List UInt8), s10 = .int .i64 i ∧ s24 = .bool gd ∧ Hid ((gd = true → q + p.2.length ≤ S1.length) ∧ S6.length = S1.length ∧ MemAt wx m sb lb ab n S6 (Kn + 20000 * i)) ∧ Hid (Only (fun k => k = sb ∨ k = ab) wm wx))
      case first =>
        refine wp_region_held_drew (S := (fun W => W.cell? ⟨bl, 0, none⟩ = some (.pointer (some ⟨g, 0, none⟩)) ∧ W.cell? ⟨g, 0, none⟩ = some (.pointer (some ⟨m, 0, none⟩)) ∧ W.cell? ⟨px, 0, none⟩ = some (.int .i64 q) ∧ W.cell? ⟨px, 1, none⟩ = some (.string s))) (by kernel_rfl) ?_ (fun hHeld => ?_)
        · exact hs1
        refine wpAnyH_take (i := 0) (oi := _) (v := ?_) rfl (by kernel_rfl) (by kernel_rfl) (by kernel_rfl) (fun _ _ _ h => h) (Or.inl ⟨by rfl, ?_⟩) (by assumption) ?_
        rotate_left
        · intro w hSw
          (try dsimp only at hSw)
          first | (go_simp; done) | (go_simp; with_reducible rfl)
        try simp only [List.getElem_toArray, List.getElem_cons_succ, List.getElem_cons_zero, Act.put, List.setIfInBounds_toArray, List.set_cons_zero, List.set_cons_succ]
        refine wpAnyH_take (i := 1) (oi := _) (v := ?_) rfl (by kernel_rfl) (by kernel_rfl) (by kernel_rfl) (fun _ _ _ h => h) (Or.inl ⟨by rfl, ?_⟩) (by assumption) ?_
        rotate_left
        · intro w hSw
          (try dsimp only at hSw)
          first | (go_simp; done) | (go_simp; with_reducible rfl)
        try simp only [List.getElem_toArray, List.getElem_cons_succ, List.getElem_cons_zero, Act.put, List.setIfInBounds_toArray, List.set_cons_zero, List.set_cons_succ]
        refine wpAnyH_take (i := 2) (oi := _) (v := ?_) rfl (by kernel_rfl) (by kernel_rfl) (by kernel_rfl) (fun _ _ _ h => h) (Or.inl ⟨by rfl, ?_⟩) (by assumption) ?_
        rotate_left
        · intro w hSw
          (try dsimp only at hSw)
          first | (go_simp; done) | (go_simp; with_reducible rfl)
        try simp only [List.getElem_toArray, List.getElem_cons_succ, List.getElem_cons_zero, Act.put, List.setIfInBounds_toArray, List.set_cons_zero, List.set_cons_succ]
        refine wpAnyH_take (i := 3) (oi := _) (v := ?_) rfl (by kernel_rfl) (by kernel_rfl) (by kernel_rfl) (fun _ _ _ h => h) (Or.inl ⟨by rfl, ?_⟩) (by assumption) ?_
        rotate_left
        · intro w hSw
          (try dsimp only at hSw)
          first | (go_simp; done) | (go_simp; with_reducible rfl)
        try simp only [List.getElem_toArray, List.getElem_cons_succ, List.getElem_cons_zero, Act.put, List.setIfInBounds_toArray, List.set_cons_zero, List.set_cons_succ]
        refine wpAnyH_take (i := 4) (oi := _) (v := ?_) rfl (by kernel_rfl) (by kernel_rfl) (by kernel_rfl) (fun _ _ _ h => h) (Or.inl ⟨by rfl, ?_⟩) (by assumption) ?_
        rotate_left
        · intro w hSw
          (try dsimp only at hSw)
          first | (go_simp; done) | (go_simp; with_reducible rfl)
        try simp only [List.getElem_toArray, List.getElem_cons_succ, List.getElem_cons_zero, Act.put, List.setIfInBounds_toArray, List.set_cons_zero, List.set_cons_succ]
        refine wpAnyH_take (i := 5) (oi := _) (v := ?_) rfl (by kernel_rfl) (by kernel_rfl) (by kernel_rfl) (fun _ _ _ h => h) (Or.inl ⟨by rfl, ?_⟩) (by assumption) ?_
        rotate_left
        · intro w hSw
          (try dsimp only at hSw)
          first | (go_simp; done) | (go_simp; with_reducible rfl)
        try simp only [List.getElem_toArray, List.getElem_cons_succ, List.getElem_cons_zero, Act.put, List.setIfInBounds_toArray, List.set_cons_zero, List.set_cons_succ]
        refine wpAnyH_take (i := 6) (oi := _) (v := ?_) rfl (by kernel_rfl) (by kernel_rfl) (by kernel_rfl) (fun _ _ _ h => h) (Or.inl ⟨by rfl, ?_⟩) (by assumption) ?_
        rotate_left
        · intro w hSw
          (try dsimp only at hSw)
          first | (go_simp; done) | (go_simp; with_reducible rfl)
        try simp only [List.getElem_toArray, List.getElem_cons_succ, List.getElem_cons_zero, Act.put, List.setIfInBounds_toArray, List.set_cons_zero, List.set_cons_succ]
        refine wpAnyH_take (i := 7) (oi := _) (v := ?_) rfl (by kernel_rfl) (by kernel_rfl) (by kernel_rfl) (fun _ _ _ h => h) (Or.inl ⟨by rfl, ?_⟩) (by assumption) ?_
        rotate_left
        · intro w hSw
          (try dsimp only at hSw)
          first | (go_simp; done) | (go_simp; with_reducible rfl)
        try simp only [List.getElem_toArray, List.getElem_cons_succ, List.getElem_cons_zero, Act.put, List.setIfInBounds_toArray, List.set_cons_zero, List.set_cons_succ]
        refine wpAnyH_ready (rs := [8]) (by kernel_rfl) (by simp) ?_
        refine AllReadyH.cons (o := _) rfl (fun K hK => ?_) AllReadyH.nil
        go_simp
        try dsimp only
        refine hK.out _ _ hs2 (fun hHeld => ?_)
        clear hK K
        try simp only [List.getElem_toArray, List.getElem_cons_succ, List.getElem_cons_zero, Act.put, List.setIfInBounds_toArray, List.set_cons_zero, List.set_cons_succ]
        refine wpAnyH_ready (rs := [9]) (by kernel_rfl) (by simp) ?_
        refine AllReadyH.cons (o := _) rfl (fun K hK => ?_) AllReadyH.nil
        go_simp
        refine HSt.out.mono ?_
        rintro e w5 ⟨E5, S5, rfl, hE5, hS5, hM5, hO5⟩
        have HM5 : Hid (((E5 == 0) = true → q + p.2.length ≤ S1.length) ∧ S5.length = S1.length ∧ MemAt w5 m sb lb ab n S5 (Kn + 20000 * i)) := Lib.hid ⟨fun e => hE5 (by simpa using e), hS5, hM5⟩
        have HO5 := Lib.hid hO5
        have hs5 := HT5.out w5 hO5
        clear hE5 hS5 hM5 hO5
        try dsimp only
        refine hK.out _ _ hs5 (fun hHeld => ?_)
        clear hK K
        try simp only [List.getElem_toArray, List.getElem_cons_succ, List.getElem_cons_zero, Act.put, List.setIfInBounds_toArray, List.set_cons_zero, List.set_cons_succ]
        refine wpAnyH_take (i := 10) (oi := _) (v := ?_) rfl (by kernel_rfl) (by kernel_rfl) (by kernel_rfl) (fun _ _ _ h => h) (Or.inl ⟨by rfl, ?_⟩) (by assumption) ?_
        rotate_left
        · intro w hSw
          (try dsimp only at hSw)
          first | (go_simp; done) | (go_simp; with_reducible rfl)
        try simp only [List.getElem_toArray, List.getElem_cons_succ, List.getElem_cons_zero, Act.put, List.setIfInBounds_toArray, List.set_cons_zero, List.set_cons_succ]
        refine wpAnyH_done (by kernel_rfl) ?_ _
        (try simp only [Exit.then])
        clear hs5 hs1 hs2
        go_wp2
        go_meet
        exact ⟨E5 == 0, S5, rfl, rfl, HM5, HO5⟩
      case rest =>
        obtain ⟨gd, S6, rfl, rfl, HM6, HO6⟩ := hcut
        obtain ⟨w6, rfl⟩ : ∃ v, v = wc := ⟨_, rfl⟩
        cases gd with
        | false =>
          have HO9 : Hid (Only (Mem3 sb lb ab) w1 w6) := Lib.hid (HOm.out.trans (HO6.out.mono (G := Mem3 sb lb ab) fun _ _ e => e.elim (fun e => Or.inl e) fun e => Or.inr (Or.inr e)) fun _ _ e => e)
          have HM9 : Hid (∃ S1 : List UInt8, S1.length = S.length ∧ MemAt w6 m sb lb ab n S1 (Kn + 20000 * (i + 1))) := Lib.hid ⟨S6, HM6.out.2.1.trans HS1.out, HM6.out.2.2.more (by omega)⟩
          clear HT5 HSt hcv hs1 hs2 d0 d1 d2 d3 e0 e1 e2 e3
          go_wp2
          go_roundw
          case rel => exact ⟨i + 1, by go_num, by omega, HM9, HO9⟩
          case measure => simp [intOf]; omega
        | true =>
          have hb6 := (Below.refl w6.heap.size w6).drew
          have hs6 := HT5.out w6 HO6.out
          have hl6 : bl < w6.heap.size ∧ g < w6.heap.size ∧ px < w6.heap.size := by
            have h1 := HO6.out.size
            have h2 := HOm.out.size
            have h3 := Hbl.out.lt
            have h4 := lt_get HL1.out
            have h5 := Hzm.out.lt
            omega
          have hs7 : w6.drew.cell? ⟨bl, 0, none⟩ = some (.pointer (some ⟨g, 0, none⟩)) ∧ w6.drew.cell? ⟨g, 0, none⟩ = some (.pointer (some ⟨m, 0, none⟩)) ∧ w6.drew.cell? ⟨px, 0, none⟩ = some (.int .i64 q) ∧ w6.drew.cell? ⟨px, 1, none⟩ = some (.string s) :=
            ⟨(hb6.cell (p := ⟨bl, 0, none⟩) hl6.1).trans hs6.1, (hb6.cell (p := ⟨g, 0, none⟩) hl6.2.1).trans hs6.2.1, (hb6.cell (p := ⟨px, 0, none⟩) hl6.2.2).trans hs6.2.2.1, (hb6.cell (p := ⟨px, 1, none⟩) hl6.2.2).trans hs6.2.2.2⟩
          have hM7 := HM6.out.2.2.below hb6
          have hsz : s.size = p.2.length := by rw [HQ.out.2]; simp [ByteArray.size]
          have HFl := Lib.hid (flush_at q s.size w6.drew hM7 (by rw [HM6.out.2.1, hsz]; exact HM6.out.1 (by first | trivial | rfl)) (by have := (HP.out p Hpm.out).2; omega) (by omega))
          have HO7 : Hid (Only (Mem3 sb lb ab) w1 w6.drew) := Lib.hid ((HOm.out.trans (HO6.out.mono (G := Mem3 sb lb ab) fun _ _ e => e.elim (fun e => Or.inl e) fun e => Or.inr (Or.inr e)) fun _ _ e => e).trans (below_only hb6 _) fun _ _ e => e)
          have HT8 : Hid (∀ w8, Only (fun k => k = ab) w6.drew w8 → w8.cell? ⟨bl, 0, none⟩ = some (.pointer (some ⟨g, 0, none⟩)) ∧ w8.cell? ⟨g, 0, none⟩ = some (.pointer (some ⟨m, 0, none⟩)) ∧ w8.cell? ⟨px, 0, none⟩ = some (.int .i64 q) ∧ w8.cell? ⟨px, 1, none⟩ = some (.string s)) := Lib.hid fun w8 hO8 => by
            have h3 : ∀ k, k = ab → Mem3 sb lb ab k := fun k e => Or.inr (Or.inr e)
            have hpn : ¬ Mem3 sb lb ab px := HB.out.mem3 (by have := HO.out.size; have := HR.out; rw [HPx.out]; omega)
            exact ⟨(hO8.cell (p := ⟨bl, 0, none⟩) (Nat.lt_of_lt_of_le hl6.1 hb6.size) fun e => HB.out.mem3 Hm.out.2.1 (h3 _ e)).trans hs7.1, (hO8.cell (p := ⟨g, 0, none⟩) (Nat.lt_of_lt_of_le hl6.2.1 hb6.size) fun e => HL1.out.apart HM1.out (h3 _ e)).trans hs7.2.1, (hO8.cell (p := ⟨px, 0, none⟩) (Nat.lt_of_lt_of_le hl6.2.2 hb6.size) fun e => hpn (h3 _ e)).trans hs7.2.2.1, (hO8.cell (p := ⟨px, 1, none⟩) (Nat.lt_of_lt_of_le hl6.2.2 hb6.size) fun e => hpn (h3 _ e)).trans hs7.2.2.2⟩
          clear hb6 hs6 hl6 hM7 hsz HT5 HSt hcv hs1 hs2 d0 d1 d2 d3 e0 e1 e2 e3
          go_upto_region 5 with fail
          refine wp_region_held_drew (S := (fun W => W.cell? ⟨bl, 0, none⟩ = some (.pointer (some ⟨g, 0, none⟩)) ∧ W.cell? ⟨g, 0, none⟩ = some (.pointer (some ⟨m, 0, none⟩)) ∧ W.cell? ⟨px, 0, none⟩ = some (.int .i64 q) ∧ W.cell? ⟨px, 1, none⟩ = some (.string s))) (by kernel_rfl) ?_ (fun hHeld => ?_)
          · exact hs7
          refine wpAnyH_take (i := 0) (oi := _) (v := ?_) rfl (by kernel_rfl) (by kernel_rfl) (by kernel_rfl) (fun _ _ _ h => h) (Or.inl ⟨by rfl, ?_⟩) (by assumption) ?_
          rotate_left
          · intro w hSw
            (try dsimp only at hSw)
            first | (go_simp; done) | (go_simp; with_reducible rfl)
          try simp only [List.getElem_toArray, List.getElem_cons_succ, List.getElem_cons_zero, Act.put, List.setIfInBounds_toArray, List.set_cons_zero, List.set_cons_succ]
          refine wpAnyH_take (i := 1) (oi := _) (v := ?_) rfl (by kernel_rfl) (by kernel_rfl) (by kernel_rfl) (fun _ _ _ h => h) (Or.inl ⟨by rfl, ?_⟩) (by assumption) ?_
          rotate_left
          · intro w hSw
            (try dsimp only at hSw)
            first | (go_simp; done) | (go_simp; with_reducible rfl)
          try simp only [List.getElem_toArray, List.getElem_cons_succ, List.getElem_cons_zero, Act.put, List.setIfInBounds_toArray, List.set_cons_zero, List.set_cons_succ]
          refine wpAnyH_take (i := 2) (oi := _) (v := ?_) rfl (by kernel_rfl) (by kernel_rfl) (by kernel_rfl) (fun _ _ _ h => h) (Or.inl ⟨by rfl, ?_⟩) (by assumption) ?_
          rotate_left
          · intro w hSw
            (try dsimp only at hSw)
            first | (go_simp; done) | (go_simp; with_reducible rfl)
          try simp only [List.getElem_toArray, List.getElem_cons_succ, List.getElem_cons_zero, Act.put, List.setIfInBounds_toArray, List.set_cons_zero, List.set_cons_succ]
          refine wpAnyH_take (i := 3) (oi := _) (v := ?_) rfl (by kernel_rfl) (by kernel_rfl) (by kernel_rfl) (fun _ _ _ h => h) (Or.inl ⟨by rfl, ?_⟩) (by assumption) ?_
          rotate_left
          · intro w hSw
            (try dsimp only at hSw)
            first | (go_simp; done) | (go_simp; with_reducible rfl)
          try simp only [List.getElem_toArray, List.getElem_cons_succ, List.getElem_cons_zero, Act.put, List.setIfInBounds_toArray, List.set_cons_zero, List.set_cons_succ]
          refine wpAnyH_take (i := 4) (oi := _) (v := ?_) rfl (by kernel_rfl) (by kernel_rfl) (by kernel_rfl) (fun _ _ _ h => h) (Or.inl ⟨by rfl, ?_⟩) (by assumption) ?_
          rotate_left
          · intro w hSw
            (try dsimp only at hSw)
            first | (go_simp; done) | (go_simp; with_reducible rfl)
          try simp only [List.getElem_toArray, List.getElem_cons_succ, List.getElem_cons_zero, Act.put, List.setIfInBounds_toArray, List.set_cons_zero, List.set_cons_succ]
          refine wpAnyH_take (i := 5) (oi := _) (v := ?_) rfl (by kernel_rfl) (by kernel_rfl) (by kernel_rfl) (fun _ _ _ h => h) (Or.inl ⟨by rfl, ?_⟩) (by assumption) ?_
          rotate_left
          · intro w hSw
            (try dsimp only at hSw)
            first | (go_simp; done) | (go_simp; with_reducible rfl)
          try simp only [List.getElem_toArray, List.getElem_cons_succ, List.getElem_cons_zero, Act.put, List.setIfInBounds_toArray, List.set_cons_zero, List.set_cons_succ]
          refine wpAnyH_take (i := 6) (oi := _) (v := ?_) rfl (by kernel_rfl) (by kernel_rfl) (by kernel_rfl) (fun _ _ _ h => h) (Or.inl ⟨by rfl, ?_⟩) (by assumption) ?_
          rotate_left
          · intro w hSw
            (try dsimp only at hSw)
            first | (go_simp; done) | (go_simp; with_reducible rfl)
          try simp only [List.getElem_toArray, List.getElem_cons_succ, List.getElem_cons_zero, Act.put, List.setIfInBounds_toArray, List.set_cons_zero, List.set_cons_succ]
          refine wpAnyH_take (i := 7) (oi := _) (v := ?_) rfl (by kernel_rfl) (by kernel_rfl) (by kernel_rfl) (fun _ _ _ h => h) (Or.inl ⟨by rfl, ?_⟩) (by assumption) ?_
          rotate_left
          · intro w hSw
            (try dsimp only at hSw)
            first | (go_simp; done) | (go_simp; with_reducible rfl)
          try simp only [List.getElem_toArray, List.getElem_cons_succ, List.getElem_cons_zero, Act.put, List.setIfInBounds_toArray, List.set_cons_zero, List.set_cons_succ]
          refine wpAnyH_take (i := 8) (oi := _) (v := ?_) rfl (by kernel_rfl) (by kernel_rfl) (by kernel_rfl) (fun _ _ _ h => h) (Or.inl ⟨by rfl, ?_⟩) (by assumption) ?_
          rotate_left
          · intro w hSw
            (try dsimp only at hSw)
            first | (go_simp; done) | (go_simp; with_reducible rfl)
          try simp only [List.getElem_toArray, List.getElem_cons_succ, List.getElem_cons_zero, Act.put, List.setIfInBounds_toArray, List.set_cons_zero, List.set_cons_succ]
          refine wpAnyH_ready (rs := [9]) (by kernel_rfl) (by simp) ?_
          refine AllReadyH.cons (o := _) rfl (fun K hK => ?_) AllReadyH.nil
          go_simp
          refine HFl.out.mono ?_
          rintro e w8 ⟨rfl, hM8, hO8⟩
          have HM8 := Lib.hid hM8
          have HO8 := Lib.hid hO8
          have hs8 := HT8.out w8 hO8
          clear hM8 hO8
          try dsimp only
          refine hK.out _ _ hs8 (fun hHeld => ?_)
          clear hK K
          try simp only [List.getElem_toArray, List.getElem_cons_succ, List.getElem_cons_zero, Act.put, List.setIfInBounds_toArray, List.set_cons_zero, List.set_cons_succ]
          refine wpAnyH_done (by kernel_rfl) ?_ _
          (try simp only [Exit.then])
          have HM9 : Hid (∃ S1 : List UInt8, S1.length = S.length ∧ MemAt w8 m sb lb ab n S1 (Kn + 20000 * (i + 1))) := Lib.hid (by
            have := HM8.out
            rw [show Kn + 20000 * (i + 1) = Kn + 20000 * i + 20000 by omega]
            exact ⟨S6, HM6.out.2.1.trans HS1.out, this⟩)
          have HO9 := Lib.hid (HO7.out.trans (HO8.out.mono (G := Mem3 sb lb ab) fun _ _ e => Or.inr (Or.inr e)) fun _ _ e => e)
          clear hs8 hs7
          go_wp2
          go_roundw
          case rel => exact ⟨i + 1, by go_num, by omega, HM9, HO9⟩
          case measure => simp [intOf]; omega
    · obtain rfl : i = r := by omega
      clear hlt
      go_wp2
      go_end0
      refine ⟨rfl, ?_, ?_, ?_⟩
      · exact HMe.out
      · exact (HO1.out.mono fun _ _ e => Or.inr e).trans (HO.out.mono fun _ _ e => Or.inl e) fun _ _ e => e
      · exact (HO.out.block bm Hbm.out.lt (HB.out.mem3 Hm.out.1)).trans Hbm.out

end Go.Proofs.YtccpdkjonepoiaaGreatDoor

/- Walks: plog.End and each, of any bytes. -/
namespace Go.Proofs.YtccpdkjonepoiaaGreatDoor
open Go.RowKit Go.Shelf

attribute [local go_sem] Oper.semAt_some

set_option maxHeartbeats 4000000 in
set_option maxRecDepth 100000 in
theorem end_gen {g m Kn : Nat} {S : List UInt8} {F : Nat → Prop} (w : World) (hM : MemF m S Kn w F) (hL : LogAt w g m 2688 4096) (hS : S.length = 23168) :
    Calls Tryz.prog 125 #[.pointer (some ⟨g, 0, none⟩)] w fun e w' => ∃ l : Nat, l ≤ 4088 ∧ (Gd.part S 2688 8 = Gd.le 0 8 → l = 0) ∧ e = .returned (.int .i64 l) ∧ Below w.heap.size w w' := by
  have hbd := (Below.refl w.heap.size w).drew
  have HLd := Lib.hid (mload_any 2688 8 w.drew ((MemF.held m S Kn).below hM hbd) (by omega) (by omega))
  obtain ⟨R, hR⟩ : ∃ R, R = Gd.part S 2688 8 := ⟨_, rfl⟩
  have hR8 : R.length = 8 := by rw [hR]; exact Gd.part_length (by omega)
  rw [← hR] at HLd ⊢
  obtain ⟨c0, c1, c2⟩ := cell2 hL
  have HLg : Hid (LogAt w.drew g m 2688 4096) := Lib.hid ((hbd.block g (lt_get hL)).trans hL)
  have HBd := Lib.hid hbd
  have HR8 := Lib.hid hR8
  obtain ⟨N, hN⟩ : ∃ N, N = Gd.get R (0 : Nat) 8 := ⟨_, rfl⟩
  have hN0 : 0 ≤ N := by rw [hN]; exact (get_lo _ _ _).1
  have HN0 : Hid (R = Gd.le 0 8 → N = 0) := Lib.hid fun e => by rw [hN, e]; exact le_get (by omega)
  have HN := Lib.hid hN
  clear hM hL hbd hR hR8 hN
  go_enter Tryz.func125, Tryz.ntmps125
  go_wp2
  go_region_with (go_at_call 18; refine HLd.out.mono ?_; rintro e w1 ⟨v, rfl, ho, hb⟩; have HO := Lib.hid ho; have HB := Lib.hid hb; clear ho hb)
  all_goals
    have HGt := Lib.hid (get_any v R (0 : Nat) 8 (Or.inr (Or.inr (Or.inr rfl))) (nat_I64 (n := 0) (by omega)) w1 HO.out.at_ (by rw [HR8.out]; omega))
    rw [← HN.out] at HGt
    obtain ⟨_, _, d2⟩ := cell2 ((HB.out.block g (lt_get HLg.out)).trans HLg.out)
    have HW : Hid (Below w.heap.size w w1) := Lib.hid (HBd.out.trans (HB.out.mono HBd.out.size))
    clear HLd HO c0 c1 c2
    simp only [Exit.then]
    (first | (refine (by assumption : ∀ (a : Act) (w : World), _) _ _ ?_) | skip)
    go_wp2_with fail
    refine HGt.out.mono ?_
    rintro e w2 ⟨rfl, rfl⟩
    by_cases hbig : 4088 < N
    · go_wp2
      go_ret
      exact ⟨0, by omega, fun _ => rfl, rfl, HW.out⟩
    · go_wp2
      go_ret
      exact ⟨N.toNat, by omega, fun e => by rw [HN0.out e]; rfl, by rw [Int.toNat_of_nonneg hN0]; rfl, HW.out⟩

set_option maxHeartbeats 8000000 in
set_option maxRecDepth 100000 in
theorem each_gen {g m sb lb ab n Kn B bm bl : Nat} {S : List UInt8} (w : World) (h : MemAt w m sb lb ab n S Kn) (hL : LogAt w g m 2688 4096) (hB : LowAt m sb lb ab g B) (hS : S.length = 23168)
    (hbm : CellsAt w bm 3 #[.int .i64 0]) (hbl : CellsAt w bl 102 #[.pointer (some ⟨g, 0, none⟩)]) (hm : B ≤ bm ∧ B ≤ bl ∧ bl ≠ bm) (hBw : B ≤ w.heap.size) (hK : Kn < 100000000000) :
    Calls Tryz.prog 85 #[.pointer (some ⟨g, 0, none⟩), .func (.func 86) #[] #[.pointer (some ⟨bm, 0, none⟩), .pointer (some ⟨bl, 0, none⟩)]] w fun e w' => (∃ u : Nat, e = .returned (.int .i64 u)) ∧ (∃ (S2 : List UInt8) (c : Nat), S2.length = S.length ∧ (Gd.part S 2688 8 = Gd.le 0 8 → S2 = S ∧ c = 0) ∧ c ≤ 511 ∧ MemAt w' m sb lb ab n S2 (Kn + 1280000 * 511) ∧ CellsAt w' bm 3 #[.int .i64 c]) ∧ Only (fun k => Mem3 sb lb ab k ∨ k = bm) w w' := by
  have hbd := (Below.refl w.heap.size w).drew
  have hMd := h.below hbd
  have hLd : LogAt w.drew g m 2688 4096 := (hbd.block g (lt_get hL)).trans hL
  have HE := Lib.hid (end_gen w.drew hMd.toF hLd hS)
  have HLo : Hid (∀ (l : Nat) W, l ≤ 4088 → Below w.drew.heap.size w.drew W → Calls Tryz.prog 18 #[.pointer (some ⟨m, 0, none⟩), .int .i64 2696, .int .i64 l] W (Loads W (Gd.part S 2696 l))) := Lib.hid fun l W h1 hb => mload_any 2696 l W (hMd.below hb).toF (by omega) (by omega)
  have hs0 : w.drew.cell? ⟨g, 0, none⟩ = some (.pointer (some ⟨m, 0, none⟩)) ∧ w.drew.cell? ⟨g, 1, none⟩ = some (.int .i64 2688) := ⟨(cell2 hLd).1, (cell2 hLd).2.1⟩
  have HT : Hid (∀ W, Below w.drew.heap.size w.drew W → W.cell? ⟨g, 0, none⟩ = some (.pointer (some ⟨m, 0, none⟩)) ∧ W.cell? ⟨g, 1, none⟩ = some (.int .i64 2688)) := Lib.hid fun W hb => ⟨(hb.cell (p := ⟨g, 0, none⟩) (lt_get hLd)).trans hs0.1, (hb.cell (p := ⟨g, 1, none⟩) (lt_get hLd)).trans hs0.2⟩
  have HM := Lib.hid h
  have HL := Lib.hid hL
  have HB := Lib.hid hB
  have HS := Lib.hid hS
  have Hbm := Lib.hid hbm
  have Hbl := Lib.hid hbl
  have Hm := Lib.hid hm
  have HBw := Lib.hid hBw
  have HK := Lib.hid hK
  have HBd := Lib.hid hbd
  clear h hL hB hS hbm hbl hm hK hbd hMd hLd hBw
  go_enter Tryz.func85, Tryz.ntmps85
  go_upto_region 1 with fail
  refine wp_region_held_drew (S := (fun W => W.cell? ⟨g, 0, none⟩ = some (.pointer (some ⟨m, 0, none⟩)) ∧ W.cell? ⟨g, 1, none⟩ = some (.int .i64 2688))) (by kernel_rfl) ?_ (fun hHeld => ?_)
  · exact hs0
  refine wpAnyH_take (i := 0) (oi := _) (v := ?_) rfl (by kernel_rfl) (by kernel_rfl) (by kernel_rfl) (fun _ _ _ h => h) (Or.inl ⟨by rfl, ?_⟩) (by assumption) ?_
  rotate_left
  · intro w hSw
    (try dsimp only at hSw)
    first | (go_simp; done) | (go_simp; with_reducible rfl)
  try simp only [List.getElem_toArray, List.getElem_cons_succ, List.getElem_cons_zero, Act.put, List.setIfInBounds_toArray, List.set_cons_zero, List.set_cons_succ]
  refine wpAnyH_take (i := 1) (oi := _) (v := ?_) rfl (by kernel_rfl) (by kernel_rfl) (by kernel_rfl) (fun _ _ _ h => h) (Or.inl ⟨by rfl, ?_⟩) (by assumption) ?_
  rotate_left
  · intro w hSw
    (try dsimp only at hSw)
    first | (go_simp; done) | (go_simp; with_reducible rfl)
  try simp only [List.getElem_toArray, List.getElem_cons_succ, List.getElem_cons_zero, Act.put, List.setIfInBounds_toArray, List.set_cons_zero, List.set_cons_succ]
  refine wpAnyH_take (i := 2) (oi := _) (v := ?_) rfl (by kernel_rfl) (by kernel_rfl) (by kernel_rfl) (fun _ _ _ h => h) (Or.inl ⟨by rfl, ?_⟩) (by assumption) ?_
  rotate_left
  · intro w hSw
    (try dsimp only at hSw)
    first | (go_simp; done) | (go_simp; with_reducible rfl)
  try simp only [List.getElem_toArray, List.getElem_cons_succ, List.getElem_cons_zero, Act.put, List.setIfInBounds_toArray, List.set_cons_zero, List.set_cons_succ]
  refine wpAnyH_take (i := 3) (oi := _) (v := ?_) rfl (by kernel_rfl) (by kernel_rfl) (by kernel_rfl) (fun _ _ _ h => h) (Or.inl ⟨by rfl, ?_⟩) (by assumption) ?_
  rotate_left
  · intro w hSw
    (try dsimp only at hSw)
    first | (go_simp; done) | (go_simp; with_reducible rfl)
  try simp only [List.getElem_toArray, List.getElem_cons_succ, List.getElem_cons_zero, Act.put, List.setIfInBounds_toArray, List.set_cons_zero, List.set_cons_succ]
  refine wpAnyH_take (i := 4) (oi := _) (v := ?_) rfl (by kernel_rfl) (by kernel_rfl) (by kernel_rfl) (fun _ _ _ h => h) (Or.inl ⟨by rfl, ?_⟩) (by assumption) ?_
  rotate_left
  · intro w hSw
    (try dsimp only at hSw)
    first | (go_simp; done) | (go_simp; with_reducible rfl)
  try simp only [List.getElem_toArray, List.getElem_cons_succ, List.getElem_cons_zero, Act.put, List.setIfInBounds_toArray, List.set_cons_zero, List.set_cons_succ]
  refine wpAnyH_take (i := 5) (oi := _) (v := ?_) rfl (by kernel_rfl) (by kernel_rfl) (by kernel_rfl) (fun _ _ _ h => h) (Or.inl ⟨by rfl, ?_⟩) (by assumption) ?_
  rotate_left
  · intro w hSw
    (try dsimp only at hSw)
    first | (go_simp; done) | (go_simp; with_reducible rfl)
  try simp only [List.getElem_toArray, List.getElem_cons_succ, List.getElem_cons_zero, Act.put, List.setIfInBounds_toArray, List.set_cons_zero, List.set_cons_succ]
  refine wpAnyH_take (i := 6) (oi := _) (v := ?_) rfl (by kernel_rfl) (by kernel_rfl) (by kernel_rfl) (fun _ _ _ h => h) (Or.inl ⟨by rfl, ?_⟩) (by assumption) ?_
  rotate_left
  · intro w hSw
    (try dsimp only at hSw)
    first | (go_simp; done) | (go_simp; with_reducible rfl)
  try simp only [List.getElem_toArray, List.getElem_cons_succ, List.getElem_cons_zero, Act.put, List.setIfInBounds_toArray, List.set_cons_zero, List.set_cons_succ]
  refine wpAnyH_take (i := 7) (oi := _) (v := ?_) rfl (by kernel_rfl) (by kernel_rfl) (by kernel_rfl) (fun _ _ _ h => h) (Or.inl ⟨by rfl, ?_⟩) (by assumption) ?_
  rotate_left
  · intro w hSw
    (try dsimp only at hSw)
    first | (go_simp; done) | (go_simp; with_reducible rfl)
  try simp only [List.getElem_toArray, List.getElem_cons_succ, List.getElem_cons_zero, Act.put, List.setIfInBounds_toArray, List.set_cons_zero, List.set_cons_succ]
  refine wpAnyH_take (i := 8) (oi := _) (v := ?_) rfl (by kernel_rfl) (by kernel_rfl) (by kernel_rfl) (fun _ _ _ h => h) (Or.inl ⟨by rfl, ?_⟩) (by assumption) ?_
  rotate_left
  · intro w hSw
    (try dsimp only at hSw)
    first | (go_simp; done) | (go_simp; with_reducible rfl)
  try simp only [List.getElem_toArray, List.getElem_cons_succ, List.getElem_cons_zero, Act.put, List.setIfInBounds_toArray, List.set_cons_zero, List.set_cons_succ]
  refine wpAnyH_take (i := 9) (oi := _) (v := ?_) rfl (by kernel_rfl) (by kernel_rfl) (by kernel_rfl) (fun _ _ _ h => h) (Or.inl ⟨by rfl, ?_⟩) (by assumption) ?_
  rotate_left
  · intro w hSw
    (try dsimp only at hSw)
    first | (go_simp; done) | (go_simp; with_reducible rfl)
  try simp only [List.getElem_toArray, List.getElem_cons_succ, List.getElem_cons_zero, Act.put, List.setIfInBounds_toArray, List.set_cons_zero, List.set_cons_succ]
  refine wpAnyH_ready (rs := [10]) (by kernel_rfl) (by simp) ?_
  refine AllReadyH.cons (o := _) rfl (fun K hK => ?_) AllReadyH.nil
  go_simp
  refine HE.out.mono ?_
  rintro e w1 ⟨l, hl, hl0, rfl, hb1⟩
  have Hl := Lib.hid (And.intro hl hl0)
  have HB1 := Lib.hid hb1
  have hs1 := HT.out w1 hb1
  clear hb1 hl hl0
  try dsimp only
  refine hK.out _ _ hs1 (fun hHeld => ?_)
  clear hK K
  try simp only [List.getElem_toArray, List.getElem_cons_succ, List.getElem_cons_zero, Act.put, List.setIfInBounds_toArray, List.set_cons_zero, List.set_cons_succ]
  refine wpAnyH_ready (rs := [11]) (by kernel_rfl) (by simp) ?_
  refine AllReadyH.cons (o := _) rfl (fun K hK => ?_) AllReadyH.nil
  go_simp
  refine (HLo.out l w1 Hl.out.1 HB1.out).mono ?_
  rintro e w2 ⟨v2, rfl, ho2, hb2⟩
  have HO2 := Lib.hid ho2
  have HB2 := Lib.hid (HB1.out.trans (hb2.mono HB1.out.size))
  have hs2 := HT.out w2 HB2.out
  have HZ1 := Lib.hid HB1.out.size
  clear ho2 hb2
  try dsimp only
  refine hK.out _ _ hs2 (fun hHeld => ?_)
  clear hK K
  try simp only [List.getElem_toArray, List.getElem_cons_succ, List.getElem_cons_zero, Act.put, List.setIfInBounds_toArray, List.set_cons_zero, List.set_cons_succ]
  refine wpAnyH_take (i := 12) (oi := _) (v := ?_) rfl (by kernel_rfl) (by kernel_rfl) (by kernel_rfl) (fun _ _ _ h => h) (Or.inl ⟨by rfl, ?_⟩) (by assumption) ?_
  rotate_left
  · intro w hSw
    (try dsimp only at hSw)
    first | (go_simp; done) | (go_simp; with_reducible rfl)
  try simp only [List.getElem_toArray, List.getElem_cons_succ, List.getElem_cons_zero, Act.put, List.setIfInBounds_toArray, List.set_cons_zero, List.set_cons_succ]
  refine wpAnyH_take (i := 13) (oi := _) (v := ?_) rfl (by kernel_rfl) (by kernel_rfl) (by kernel_rfl) (fun _ _ _ h => h) (Or.inl ⟨by rfl, ?_⟩) (by assumption) ?_
  rotate_left
  · intro w hSw
    (try dsimp only at hSw)
    first | (go_simp; done) | (go_simp; with_reducible rfl)
  try simp only [List.getElem_toArray, List.getElem_cons_succ, List.getElem_cons_zero, Act.put, List.setIfInBounds_toArray, List.set_cons_zero, List.set_cons_succ]
  refine wpAnyH_take (i := 14) (oi := _) (v := ?_) rfl (by kernel_rfl) (by kernel_rfl) (by kernel_rfl) (fun _ _ _ h => h) (Or.inl ⟨by rfl, ?_⟩) (by assumption) ?_
  rotate_left
  · intro w hSw
    (try dsimp only at hSw)
    first | (go_simp; done) | (go_simp; with_reducible rfl)
  try simp only [List.getElem_toArray, List.getElem_cons_succ, List.getElem_cons_zero, Act.put, List.setIfInBounds_toArray, List.set_cons_zero, List.set_cons_succ]
  refine wpAnyH_take (i := 15) (oi := _) (v := ?_) rfl (by kernel_rfl) (by kernel_rfl) (by kernel_rfl) (fun _ _ _ h => h) (Or.inl ⟨by rfl, ?_⟩) (by assumption) ?_
  rotate_left
  · intro w hSw
    (try dsimp only at hSw)
    first | (go_simp; done) | (go_simp; with_reducible rfl)
  try simp only [List.getElem_toArray, List.getElem_cons_succ, List.getElem_cons_zero, Act.put, List.setIfInBounds_toArray, List.set_cons_zero, List.set_cons_succ]
  refine wpAnyH_take (i := 16) (oi := _) (v := ?_) rfl (by kernel_rfl) (by kernel_rfl) (by kernel_rfl) (fun _ _ _ h => h) (Or.inl ⟨by rfl, ?_⟩) (by assumption) ?_
  rotate_left
  · intro w hSw
    (try dsimp only at hSw)
    first | (go_simp; done) | (go_simp; with_reducible rfl)
  try simp only [List.getElem_toArray, List.getElem_cons_succ, List.getElem_cons_zero, Act.put, List.setIfInBounds_toArray, List.set_cons_zero, List.set_cons_succ]
  refine wpAnyH_done (by kernel_rfl) ?_ _
  (try simp only [Exit.then])
  clear hs0 hs1 hs2 HE HLo HT
  have HW2 : Hid (Below w.heap.size w w2) := Lib.hid (HBd.out.trans (HB2.out.mono HBd.out.size))
  obtain ⟨R, hR⟩ : ∃ R, R = Gd.part S 2696 l := ⟨_, rfl⟩
  rw [← hR] at HO2
  have hRl : R.length = l := by rw [hR]; exact Gd.part_length (by have := HS.out; have := Hl.out.1; omega)
  obtain ⟨A2, c2, hv2, hA2⟩ := HO2.out.at_
  rw [hRl] at hv2
  have HA2 : Hid (0 < l → ∃ b o : Nat, A2 = some ⟨b, o, none⟩ ∧ l ≤ c2 ∧ b < w2.heap.size ∧ w.heap.size ≤ b ∧ ∀ (j : Nat) (x : UInt8), R[j]? = some x → w2.cell? ⟨b, o + j, none⟩ = some (.int .u8 x.toNat)) := Lib.hid fun h0 => by
    obtain ⟨b, c, hv, hc, hBb, hb, hcl⟩ := HO2.out.lies (by intro e; rw [e] at hRl; simp at hRl; omega)
    rw [hv2, hRl] at hv
    cases hv
    refine ⟨b, 0, rfl, by omega, hb, ?_, fun j x hx => by rw [Nat.zero_add]; exact hcl j x hx⟩
    have h1 := HBd.out.size
    have h2 := HZ1.out
    omega
  have HR := Lib.hid hRl
  obtain rfl := hv2
  clear hA2 HO2 hR hRl HZ1 HBd HB1 HB2
  have hl4 : (l : Int) ≤ 4088 := by have := Hl.out.1; omega
  (first | (refine (by assumption : ∀ (a : Act) (w : World), _) _ _ ?_) | skip)
  go_upto_region 3 with fail
  go_loopw [5, 7] (fun y u wr => ∃ (i d r : Nat) (A : Option Addr) (c : Nat), y = .slice A r c ∧ u = .int .i64 d ∧ d + r = l ∧ 8 * i ≤ d ∧ Hid (0 < r → ∃ b o : Nat, A = some ⟨b, o, none⟩ ∧ r ≤ c ∧ b < w2.heap.size ∧ w.heap.size ≤ b ∧ ∀ (j : Nat) (x : UInt8), (R.drop d)[j]? = some x → w2.cell? ⟨b, o + j, none⟩ = some (.int .u8 x.toNat)) ∧ Hid (∃ S1 : List UInt8, S1.length = S.length ∧ (l = 0 → S1 = S ∧ i = 0) ∧ MemAt wr m sb lb ab n S1 (Kn + 1280000 * i)) ∧ Hid (Only (fun k => Mem3 sb lb ab k ∨ k = bm) w2 wr) ∧ Hid (CellsAt wr bm 3 #[.int .i64 i])) (fun _ u _ => l - (intOf u).toNat)
  case atStart => exact ⟨0, 0, l, A2, c2, rfl, rfl, by omega, by omega, Lib.hid fun h => by rw [List.drop_zero]; exact HA2.out h, Lib.hid ⟨S, rfl, fun _ => ⟨rfl, rfl⟩, HM.out.below HW2.out⟩, Lib.hid (Only.refl _ _), Lib.hid ((HW2.out.block bm Hbm.out.lt).trans Hbm.out)⟩
  case round =>
    obtain ⟨i, d, r, A, c, rfl, rfl, hdr, hid8, HA, HMx, HOx, HCx⟩ := hrel
    by_cases hr0 : r = 0
    · subst hr0
      go_wp2
      go_ret
      refine ⟨⟨d, rfl⟩, ?_, (below_only HW2.out _).trans HOx.out fun _ _ e => e⟩
      obtain ⟨S1, h1, h2, h3⟩ := HMx.out
      exact ⟨S1, i, h1, fun e => h2 (Hl.out.2 e), by have := Hl.out.1; omega, h3.more (by have := Hl.out.1; omega), HCx.out⟩
    · have hr1 : (0 : Int) < r := by omega
      obtain ⟨b, o, rfl, hrc, hb2, hbw, hcl⟩ := HA.out (by omega)
      have hbx : b < wr.heap.size := Nat.lt_of_lt_of_le hb2 HOx.out.size
      have hnb : ¬ (Mem3 sb lb ab b ∨ b = bm) := by
        rintro (e | e)
        · exact HB.out.mem3 (Nat.le_trans HBw.out hbw) e
        · have := Hbm.out.lt; omega
      have hDr : (R.drop d).length = r := by rw [List.length_drop, HR.out]; omega
      have hDe := decode_gen b o c (R.drop d) wr hbx (by rw [hDr]; exact hrc) (fun j x hx => (HOx.out.cell (p := ⟨b, o + j, none⟩) hb2 hnb).trans (hcl j x hx)) (by rw [hDr]; have := Hl.out.1; omega)
      rw [hDr] at hDe
      have HDe := Lib.hid hDe
      have Hcl := Lib.hid (And.intro hb2 (And.intro hbw hcl))
      have hrc' : (r : Int) ≤ c := by omega
      clear hDe hbx hnb hDr hb2 hbw hcl HA HA2
      go_wp2_with fail
      refine HDe.out.mono ?_
      rintro e w3 ⟨hb3, u3, n3, E3, rfl, hE3⟩
      have HB3 := Lib.hid hb3
      have HE3 := Lib.hid hE3
      clear hb3 hE3 HDe
      by_cases hE0 : E3 = 0
      · subst hE0
        obtain ⟨k, P, rfl, hk8, hkr, hrow, hPm, hP64⟩ := HE3.out rfl
        obtain ⟨S1, hS1, hz1, hM1⟩ := HMx.out
        have hO3 : Only (fun k => Mem3 sb lb ab k ∨ k = bm) w2 w3 := HOx.out.trans (below_only HB3.out _) fun _ _ e => e
        have hOw : Only (fun k => Mem3 sb lb ab k ∨ k = bm) w w3 := (below_only HW2.out _).trans hO3 fun _ _ e => e
        have hi511 : i ≤ 511 := by have := Hl.out.1; omega
        obtain ⟨A3, c3, rfl, hA3⟩ := row_pa hrow
        have hRd := redo1_gen (c := i) (.slice A3 P.length c3) P w3 (hM1.below HB3.out) (HL.out.keep hOw (by
            rintro (e | e)
            · exact HL.out.apart HM.out e
            · have := HB.out.g; have := Hm.out.1; omega)) HB.out ⟨A3, c3, rfl, hA3⟩ (fun q hq => by
          have h1 := (own_block hrow q hq).1
          have h2 := HOx.out.size
          have h3 := HW2.out.size
          have h4 := Hbm.out.lt
          have h5 := HBw.out
          omega) hPm hP64 ((HB3.out.block bm HCx.out.lt).trans HCx.out) ((hOw.block bl Hbl.out.lt (by
            rintro (e | e)
            · exact HB.out.mem3 Hm.out.2.1 e
            · exact Hm.out.2.2 e)).trans Hbl.out) Hm.out (by omega) (by have := HK.out; omega)
        have HRd := Lib.hid hRd
        have HO3 := Lib.hid hO3
        have HP64 := Lib.hid hP64
        have HS1 := Lib.hid hS1
        clear hRd hO3 hOw hA3 hrow hPm hP64 hM1 hz1 hS1 HE3
        go_wp2_with fail
        refine HRd.out.mono ?_
        rintro e w4 ⟨rfl, ⟨S2, hS2, hM2⟩, hO4, hC4⟩
        have HMy : Hid (∃ S1 : List UInt8, S1.length = S.length ∧ (l = 0 → S1 = S ∧ i + 1 = 0) ∧ MemAt w4 m sb lb ab n S1 (Kn + 1280000 * (i + 1))) := Lib.hid ⟨S2, hS2.trans HS1.out, fun e => by omega, hM2.more (by have := HP64.out; omega)⟩
        have HO4 : Hid (Only (fun k => Mem3 sb lb ab k ∨ k = bm) w2 w4) := Lib.hid (HO3.out.trans hO4 fun _ _ e => e)
        have HC4 := Lib.hid hC4
        clear hM2 hO4 hC4 HRd hS2
        have hk0 : (0 : Int) ≤ k := by omega
        have hkr' : (k : Int) ≤ r := by omega
        have hd0 : (0 : Int) ≤ d := by omega
        have hdk : (d : Int) + k ≤ 4088 := by omega
        have HAy : Hid (0 < r - k → ∃ b' o' : Nat, (some ⟨b, o + k, none⟩ : Option Addr) = some ⟨b', o', none⟩ ∧ r - k ≤ c - k ∧ b' < w2.heap.size ∧ w.heap.size ≤ b' ∧ ∀ (j : Nat) (x : UInt8), (R.drop (d + k))[j]? = some x → w2.cell? ⟨b', o' + j, none⟩ = some (.int .u8 x.toNat)) := Lib.hid fun _ => by
          refine ⟨b, o + k, rfl, by omega, Hcl.out.1, Hcl.out.2.1, fun j x hx => ?_⟩
          have := Hcl.out.2.2 (k + j) x (by rw [List.getElem?_drop] at hx ⊢; rw [← hx]; congr 1; omega)
          rw [Nat.add_assoc]
          exact this
        by_cases hkc : k = c
        · have hrk : r = k := by omega
          subst hkc
          subst hrk
          go_wp2
          go_roundw
          case rel => exact ⟨i + 1, d + r, 0, _, _, by first | rfl | go_num, by go_num, by omega, by omega, Lib.hid fun h => absurd h (by omega), HMy, HO4, HC4⟩
          case measure => simp [intOf]; omega
        · have hkc' : (k : Int) < c := by omega
          go_wp2
          go_roundw
          case rel => exact ⟨i + 1, d + k, r - k, _, _, by first | rfl | go_num, by go_num, by omega, by omega, HAy, HMy, HO4, HC4⟩
          case measure => simp [intOf]; omega
      · have HOx3 : Hid (Only (fun k => Mem3 sb lb ab k ∨ k = bm) w2 w3) := Lib.hid (HOx.out.trans (below_only HB3.out _) fun _ _ e => e)
        go_wp2
        go_ret
        refine ⟨⟨d, rfl⟩, ?_, (below_only HW2.out _).trans HOx3.out fun _ _ e => e⟩
        obtain ⟨S1, h1, h2, h3⟩ := HMx.out
        exact ⟨S1, i, h1, fun e => h2 (Hl.out.2 e), by have := Hl.out.1; omega, (h3.below HB3.out).more (by have := Hl.out.1; omega), (HB3.out.block bm HCx.out.lt).trans HCx.out⟩

end Go.Proofs.YtccpdkjonepoiaaGreatDoor
