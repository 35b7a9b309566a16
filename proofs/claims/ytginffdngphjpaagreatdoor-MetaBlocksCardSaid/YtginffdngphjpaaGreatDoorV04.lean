/- Walks: a transaction: one change more. -/
import Derived.Test.YtginffdngphjpaaGreatDoorV03
import Derived.Laws.BytesString
import Derived.Deep.AppendLies
import Derived.Test.YtginffdngphjpaaGreatDoorV01
import Derived.Test.YtginffdngphjpaaGreatDoorV00
import Derived.RangeFuncNested
import Derived.RangeFuncKeeps
import Derived.RangeFuncLeaves
import Derived.RangeFuncCalls
import Derived.RangeFuncBox
import Derived.Shelf.Abstract
import Derived.OwnWalkIn
import Derived.TacticsInMore
import Derived.LoopNIn
import Derived.LoopIn
set_option linter.unusedVariables false
set_option linter.unusedSimpArgs false
namespace Go.Proofs.YtginffdngphjpaaGreatDoor
open Go.RowKit

theorem push_all : ∀ (L : List UInt8) (r : ByteArray), (L.map fun b => (b.toNat : Int)).foldl (fun r n => r.push (UInt8.ofNat n.toNat)) r = ⟨(r.data.toList ++ L).toArray⟩
  | [], r => by
    rw [List.append_nil]
    exact (ba_mk r).symm
  | b :: L, r => by
    rw [List.map_cons, List.foldl_cons, push_all L]
    congr 2
    rw [show (UInt8.ofNat ((b.toNat : Int)).toNat) = b by simp]
    simp [ByteArray.push]
theorem str_of (L : List UInt8) : (L.map fun b => (b.toNat : Int)).foldl (fun r n => r.push (UInt8.ofNat n.toNat)) ByteArray.empty = ⟨L.toArray⟩ := push_all L _
theorem conv_any (v : Value) (L : List UInt8) (w : World) (h : BytesAt w v L) : (convert 80 9 v).run Tryz.prog w = .ok (.string ⟨L.toArray⟩) w := by
  obtain ⟨A, c, rfl, ⟨rfl, rfl, rfl⟩ | ⟨b, o, rfl, hb, hc⟩⟩ := h
  · rw [run_convert_bytes_string w _ _ 5 _ _ _ Tryz.underlying80 Tryz.underlying5 Tryz.underlying9]
    rfl
  · rw [run_convert_bytes_string w _ _ 5 _ _ _ Tryz.underlying80 Tryz.underlying5 Tryz.underlying9]
    have hl : (loadCells ⟨b, o, none⟩ L.length).run Tryz.prog w = .ok ((L.map fun b => (b.toNat : Int)).map (Value.int .u8)).toArray w := by
      have := run_loadCells_list (P := Tryz.prog) w ⟨b, o, none⟩ (Lib.byteCells L) (bytes_news hc)
      rw [byteCells_len] at this
      rw [this, List.map_map]
      rfl
    rw [run_bytesToString w _ _ _ _ hl, str_of]

theorem Tryz.infoPa : (Tryz.prog.info? 159).map (fun i => (i.zero, i.size, i.bytes)) = some (some (.agg #[.int .i64 0, .string ByteArray.empty]), 2, 24) := by kernel_rfl
theorem cells_new2 (w : World) (a b : Value) (t : TypeId) : ∀ j u, [a, b][j]? = some u → (w.alloc (.cells #[a, b] t)).cell? ((⟨w.heap.size, 0, none⟩ : Addr).add j) = some u := by
  intro j u hj
  have h := cell_of_row (w.alloc (.cells #[a, b] t)) w.heap.size j #[a, b] t _ (heap_alloc_new w _)
  rw [Addr.add_lit, Nat.zero_add, h]
  simpa using hj
/-- the transaction behind one change more -/
theorem TxnF.put {t m g K a : Nat} {S L : List UInt8} {P : List Gd.Pa} {F : Nat → Prop} {pv v' : Value} {w wd wa w' : World} (hM : MemF m S K w F) (hT : TxnAt w t m g pv P) (hLg : LogAt w g m 2688 4096) (ft : F t) (fg : F g) (fq : ∀ q, pv.ownBlock = some q → F q) (hP : PaOk S.length P) (hn : P.length < 64) (hL : L.length ≤ 256) (haL : a + L.length ≤ S.length)
    (hwd : Below w.heap.size w wd) (hwa : wa = wd.alloc (.cells #[.int .i64 a, .string ⟨L.toArray⟩] 159)) (hown : w'.ownsRow 0 159 2 v' (P ++ [(a, L)]).length (flatP (P ++ [(a, L)]))) (hg : wa.grownBy w' pv.ownBlock) (hat : v'.ownBlock = pv.ownBlock ∨ v'.ownBlock = some wa.heap.size) :
    TxnF t S (P ++ [(a, L)]) K (w'.setCell ⟨t, 2, none⟩ v') (Gr F w) ∧ Only F w (w'.setCell ⟨t, 2, none⟩ v') := by
  have hba : Below w.heap.size w wa := hwd.trans (by rw [hwa]; exact (Below.refl w.heap.size wd).alloc hwd.size _)
  have hO1 : Only (fun k => pv.ownBlock = some k) w w' := (below_only hba _).trans (grown_only hg fun k e => e) fun _ _ e => e
  have hq : ∀ q, pv.ownBlock = some q → ∃ cur, w.heap[q]? = some (.cells cur 159 (0, 0)) := fun q hq => by
    rcases hT.row.2 with ⟨e, _⟩ | ⟨q', cap, cur, e, _, hg', _⟩
    · rw [e] at hq; cases hq
    · rw [e] at hq
      cases hq
      exact ⟨cur, hg'⟩
  have hne : ∀ k o, w.heap[k]? = some o → (∀ cur : Array Value, o ≠ Obj.cells cur 159 (0, 0)) → w'.heap[k]? = w.heap[k]? := fun k o hk ho => hO1.block k (lt_get hk) fun e => by
    obtain ⟨cur, hc⟩ := hq k e
    rw [hk] at hc
    exact ho cur (Option.some.inj hc)
  have hobj : w'.heap[t]? = some (.cells #[.pointer (some ⟨m, 0, none⟩), .pointer (some ⟨g, 0, none⟩), pv] 108 (0, 0)) := (hne t _ hT.obj (fun cur e => absurd (Obj.cells.inj e).2.1 (by decide))).trans hT.obj
  have hO2 : Only (fun k => k = t) w' (w'.setCell ⟨t, 2, none⟩ v') := only_setCell w' _ _ rfl
  have hO : Only (fun k => k = t ∨ pv.ownBlock = some k) w (w'.setCell ⟨t, 2, none⟩ v') := (hO1.mono fun _ _ e => Or.inr e).trans hO2 fun _ _ e => Or.inl e
  have hs1 := hba.size
  have hs2 := hg.size
  have hvq : ∀ q, v'.ownBlock = some q → F q ∨ w.heap.size ≤ q := fun q hv => by
    rcases hat with e | e
    · rw [e] at hv
      exact Or.inl (fq q hv)
    · rw [e] at hv
      cases hv
      exact Or.inr hs1
  have hvt : v'.ownBlock ≠ some t := fun e => by
    rcases hat with e' | e'
    · rw [e'] at e
      obtain ⟨cur, hc⟩ := hq t e
      rw [hT.obj] at hc
      exact absurd (Obj.cells.inj (Option.some.inj hc)).2.1 (by decide)
    · rw [e'] at e
      cases e
      have := lt_get hT.obj
      omega
  refine ⟨⟨m, g, v', ?_, ⟨Go.heap_setCell_same w' t 2 _ _ _ hobj, ?_⟩, ?_, Or.inl ft, Or.inl fg, fun q hq => hvq q hq, ?_⟩, hO.mono fun k _ e => e.elim (fun e => e ▸ ft) (fq k)⟩
  · obtain ⟨sb, lb, ab, n, h, f1, f2, f3, f4⟩ := hM
    refine ⟨sb, lb, ab, n, h.keep fun k hk => hO.block k (h.lts k hk) fun e => ?_, Or.inl f1, Or.inl f2, Or.inl f3, Or.inl f4⟩
    have hto := hT.obj
    obtain ⟨Z, _, hl⟩ := h.lasts
    obtain ⟨_, _, _, ⟨es, ck, hm, _⟩, _⟩ := h.away
    rcases e with rfl | e
    · rcases hk with rfl | rfl | rfl | rfl
      · exact absurd (Obj.cells.inj (Option.some.inj (hto.symm.trans h.obj))).2.1 (by decide)
      · exact absurd (Obj.cells.inj (Option.some.inj (hto.symm.trans h.seen))).2.1 (by decide)
      · exact absurd (Obj.cells.inj (Option.some.inj (hto.symm.trans hl))).2.1 (by decide)
      · have := hto.symm.trans hm
        cases this
    · obtain ⟨cur, hc⟩ := hq k e
      rcases hk with rfl | rfl | rfl | rfl
      · exact absurd (Obj.cells.inj (Option.some.inj (hc.symm.trans h.obj))).2.1 (by decide)
      · exact absurd (Obj.cells.inj (Option.some.inj (hc.symm.trans h.seen))).2.1 (by decide)
      · exact absurd (Obj.cells.inj (Option.some.inj (hc.symm.trans hl))).2.1 (by decide)
      · have := hc.symm.trans hm
        cases this
  · exact ⟨hown.1, hown.2.imp id fun ⟨q, cap, cur, hv, hB, hg', hr⟩ => ⟨q, cap, cur, hv, hB, (hO2.block q (lt_get hg') fun e => hvt (by rw [hv]; show some q = some t; rw [e])).trans hg', hr⟩⟩
  · refine (hO2.block g ?_ fun e => ?_).trans ((hne g _ hLg (fun cur e => absurd (Obj.cells.inj e).2.1 (by decide))).trans hLg)
    · have := lt_get hLg
      omega
    · have hto := hT.obj
      rw [← e] at hto
      exact absurd (Obj.cells.inj (Option.some.inj (hto.symm.trans hLg))).2.1 (by decide)
  · refine ⟨fun p hp => ?_, fun p hp => ?_, by rw [List.length_append]; show P.length + 1 ≤ 64; omega⟩
    · rcases List.mem_append.1 hp with hp | hp
      · exact hP.fit p hp
      · rw [List.mem_singleton.1 hp]
        exact haL
    · rcases List.mem_append.1 hp with hp | hp
      · exact hP.len p hp
      · rw [List.mem_singleton.1 hp]
        exact hL

set_option maxHeartbeats 4000000 in
set_option maxRecDepth 100000 in
theorem tstore_any {t K : Nat} {S : List UInt8} {P : List Gd.Pa} {F : Nat → Prop} (a : Nat) (v : Value) (L : List UInt8) (w : World) (h : TxnF t S P K w F) (hb : BytesAt w v L) (hS : S.length ≤ 1000000) (haL : a + L.length ≤ S.length) (hL : L.length ≤ 256) (hn : P.length < 64) (hap : ∀ q, v.ownBlock = some q → ¬ F q) :
    Calls Tryz.prog 74 #[.pointer (some ⟨t, 0, none⟩), .int .i64 a, v] w fun e w' => e = .returned (.int .i64 0) ∧ TxnF t S (P ++ [(a, L)]) K w' (Gr F w) ∧ Only F w w' := by
  obtain ⟨i0, hi, hz0, hz1, hz2⟩ := info_parts Tryz.infoPa
  obtain ⟨m, g, pv, hM, hT, hLg, ft, fg, fq, hP⟩ := h
  have HLd := Lib.hid (mload_any a L.length w hM haL (by omega))
  obtain ⟨A, c, hv, hA⟩ := hb
  have HBy : Hid (BytesAt w v L) := Lib.hid ⟨A, c, hv, hA⟩
  subst hv
  obtain ⟨c0, _, c2⟩ := cell2 hT.obj
  obtain ⟨pA, pc, hpv, _⟩ := row_pa hT.row
  have HT := Lib.hid hT
  obtain ⟨pn, hpn⟩ : ∃ pn, pn = P.length := ⟨_, rfl⟩
  rw [← hpn] at hpv hn
  have Hpn := Lib.hid hpn
  have HPut := Lib.hid fun (wd wa w' : World) (v' : Value) hwd hwa hown hg hat => TxnF.put (L := L) (a := a) (wd := wd) (wa := wa) (w' := w') (v' := v') hM hT hLg ft fg fq hP (by omega) hL haL hwd hwa hown hg hat
  obtain ⟨ln, hln⟩ : ∃ ln, ln = L.length := ⟨_, rfl⟩
  rw [← hln] at HLd hL
  rw [← hln]
  have Hln := Lib.hid hln
  have Hfq := Lib.hid fq
  have Hft := Lib.hid ft
  rw [hpv] at c2
  have Hpv := Lib.hid hpv
  have HS := Lib.hid (And.intro hS haL)
  have Hap := Lib.hid hap
  clear hap hM hLg ft fg fq hP hT hA hpn hln hpv hS haL
  go_enter Tryz.func74, Tryz.ntmps74
  go_wp2_with fail
  refine HLd.out.mono ?_
  rintro e w1 ⟨v1, rfl, ho1, hb1⟩
  have HB1 := Lib.hid hb1
  have hto := (hb1.block t (lt_get HT.out.obj)).trans HT.out.obj
  rw [Hpv.out] at hto
  obtain ⟨d0, _, d2⟩ := cell2 hto
  have Hto := Lib.hid hto
  have HCv := Lib.hid fun (W : World) (hW : Only F w W) => conv_any (.slice A ln c) L W (by
    obtain ⟨A', c', hv', h⟩ := HBy.out
    refine ⟨A', c', by rw [Hln.out]; exact hv', h.imp id ?_⟩
    rintro ⟨b, o, h1, h2, h3⟩
    have hb : ¬ F b := Hap.out b (by rw [hv', h1]; rfl)
    exact ⟨b, o, h1, Nat.lt_of_lt_of_le h2 hW.size, fun j x hx => (hW.cell (p := ⟨b, o + j, none⟩) h2 hb).trans (h3 j x hx)⟩)
  obtain ⟨s, hs⟩ : ∃ s : ByteArray, s = ⟨L.toArray⟩ := ⟨_, rfl⟩
  rw [← hs] at HCv
  have Hs := Lib.hid hs
  obtain ⟨wd, hwd⟩ : ∃ v, v = w1.drew := ⟨_, rfl⟩
  have hbd : Below w.heap.size w wd := by rw [hwd]; exact hb1.trans ((Below.refl w1.heap.size w1).drew.mono hb1.size)
  have Hwd := Lib.hid hwd
  have hs0 : wd.cell? ⟨t, 2, none⟩ = some (.slice pA pn pc) ∧ wd.frozen? ⟨t, 2, none⟩ = false ∧ (convert 80 9 (.slice A ln c)).run Tryz.prog wd = .ok (.string s) wd := ⟨by rw [hwd]; exact d2, by rw [hwd]; exact frozen_of_row w1 t 2 _ _ Hto.out, HCv.out _ (below_only hbd F)⟩
  have hba : Below w.heap.size w (wd.alloc (.cells #[.int .i64 a, .string s] 159)) := hbd.trans ((Below.refl wd.heap.size wd).alloc (Nat.le_refl _) _ |>.mono hbd.size)
  have hs1 : (wd.alloc (.cells #[.int .i64 a, .string s] 159)).cell? ⟨t, 2, none⟩ = some (.slice pA pn pc) ∧ (wd.alloc (.cells #[.int .i64 a, .string s] 159)).frozen? ⟨t, 2, none⟩ = false ∧ (convert 80 9 (.slice A ln c)).run Tryz.prog (wd.alloc (.cells #[.int .i64 a, .string s] 159)) = .ok (.string s) (wd.alloc (.cells #[.int .i64 a, .string s] 159)) := ⟨(hba.cell (p := ⟨t, 2, none⟩) (lt_get HT.out.obj)).trans (by rw [← Hpv.out]; exact cell_of_row w t 2 _ _ _ HT.out.obj), (hba.frozen (p := ⟨t, 2, none⟩) (lt_get HT.out.obj)).trans (frozen_of_row w t 2 _ _ HT.out.obj), HCv.out _ (below_only hba F)⟩
  have HRow : Hid (wd.ownsRow 0 159 2 (.slice pA pn pc) pn (flatP P)) := Lib.hid (by
    have hr := HT.out.row
    rw [← Hpn.out, Hpv.out] at hr
    exact ⟨hr.1, hr.2.imp id fun ⟨q, cap, cur, hv, hB, hg, hr'⟩ => ⟨q, cap, cur, hv, hB, (hbd.block q (lt_get hg)).trans hg, hr'⟩⟩)
  have HBa := Lib.hid hba
  have HS2 := Lib.hid fun (W : World) (hg : (wd.alloc (.cells #[.int .i64 a, .string s] 159)).grownBy W (Value.ownBlock (.slice pA pn pc))) => (show W.cell? ⟨t, 2, none⟩ = some (.slice pA pn pc) ∧ W.frozen? ⟨t, 2, none⟩ = false ∧ (convert 80 9 (.slice A ln c)).run Tryz.prog W = .ok (.string s) W from by
    have hO : Only (fun k => pv.ownBlock = some k) w W := (below_only HBa.out _).trans (grown_only hg fun k e => by rw [Hpv.out]; exact e) fun _ _ e => e
    have hnq : ¬ pv.ownBlock = some t := fun e => by
      rcases HT.out.row.2 with ⟨e', _⟩ | ⟨q', cap, cur, e', _, hg', _⟩
      · rw [e'] at e; cases e
      · rw [e'] at e
        cases e
        exact absurd (Obj.cells.inj (Option.some.inj (HT.out.obj.symm.trans hg'))).2.1 (by decide)
    exact ⟨(hO.cell (p := ⟨t, 2, none⟩) (lt_get HT.out.obj) hnq).trans (by rw [← Hpv.out]; exact cell_of_row w t 2 _ _ _ HT.out.obj), (hO.frozen (p := ⟨t, 2, none⟩) (lt_get HT.out.obj) hnq).trans (frozen_of_row w t 2 _ _ HT.out.obj), HCv.out _ (hO.mono fun j _ e => Hfq.out j e)⟩)
  have HBd := Lib.hid hbd
  have HS3 := Lib.hid fun (W : World) (hg : (wd.alloc (.cells #[.int .i64 a, .string s] 159)).grownBy W (Value.ownBlock (.slice pA pn pc))) (v : Value) => HCv.out (W.setCell ⟨t, 2, none⟩ v) (((below_only HBa.out _).trans (grown_only (F := F) hg fun k e => Hfq.out k (by rw [Hpv.out]; exact e)) fun _ _ e => e).trans (only_setCell W _ _ (F := F) Hft.out) fun _ _ e => e)
  have e1 : (pn : Int) < 64 := by omega
  have e2 : (ln : Int) ≤ 256 := by omega
  clear ho1 hb1 HLd c0 c2 hto hs hbd hba hwd
  go_upto_region 4 with fail
  -- the region by hand
  have hs00 := hs0.2.2
  have hs01 := hs0.1
  have hs10 := hs1.1
  rw [Hwd.out] at hs00 hs01
  refine wp_region_held_drew (S := (fun W => (convert 80 9 (.slice A ln c)).run Tryz.prog W = .ok (.string s) W)) (by kernel_rfl) ?_ (fun hHeld => ?_)
  · exact hs00
  refine wpAnyH_take (i := 0) (oi := _) (v := ?_) rfl (by kernel_rfl) (by kernel_rfl) (by kernel_rfl) (fun _ _ _ h => h) (Or.inl ⟨by rfl, ?_⟩) (by assumption) ?_
  rotate_left
  · intro w hSw
    (try dsimp only at hSw)
    first | (go_simp; done) | (go_simp; with_reducible rfl)
  try simp only [List.getElem_toArray, List.getElem_cons_succ, List.getElem_cons_zero, Act.put, List.setIfInBounds_toArray, List.set_cons_zero, List.set_cons_succ]
  refine wpAnyH_take (i := 1) (oi := _) (v := ?_) rfl (by kernel_rfl) (by kernel_rfl) (by kernel_rfl) (fun _ _ _ h => h) (Or.inl ⟨by rfl, ?_⟩) (by assumption) ?_
  rotate_left
  · intro w hSw
    (try dsimp only at hSw)
    first | (go_simp; done) | (go_simp; with_reducible rfl)
  try simp only [List.getElem_toArray, List.getElem_cons_succ, List.getElem_cons_zero, Act.put, List.setIfInBounds_toArray, List.set_cons_zero, List.set_cons_succ]
  refine wpAnyH_take (i := 2) (oi := _) (v := ?_) rfl (by kernel_rfl) (by kernel_rfl) (by kernel_rfl) (fun _ _ _ h => h) (Or.inl ⟨by rfl, ?_⟩) (by assumption) ?_
  rotate_left
  · intro w hSw
    (try dsimp only at hSw)
    first | (go_simp; done) | (go_simp; with_reducible rfl)
  try simp only [List.getElem_toArray, List.getElem_cons_succ, List.getElem_cons_zero, Act.put, List.setIfInBounds_toArray, List.set_cons_zero, List.set_cons_succ]
  refine wpAnyH_take (i := 3) (oi := _) (v := ?_) rfl (by kernel_rfl) (by kernel_rfl) (by kernel_rfl) (fun _ _ _ h => h) (Or.inl ⟨by rfl, ?_⟩) (by assumption) ?_
  rotate_left
  · intro w hSw
    (try dsimp only at hSw)
    first | (go_simp; done) | (go_simp; with_reducible rfl)
  try simp only [List.getElem_toArray, List.getElem_cons_succ, List.getElem_cons_zero, Act.put, List.setIfInBounds_toArray, List.set_cons_zero, List.set_cons_succ]
  refine wpAnyH_take (i := 5) (oi := _) (v := ?_) rfl (by kernel_rfl) (by kernel_rfl) (by kernel_rfl) (fun _ _ _ h => h) (Or.inl ⟨by rfl, ?_⟩) (by assumption) ?_
  rotate_left
  · intro w hSw
    (try dsimp only at hSw)
    first | (go_simp; done) | (go_simp; with_reducible rfl)
  try simp only [List.getElem_toArray, List.getElem_cons_succ, List.getElem_cons_zero, Act.put, List.setIfInBounds_toArray, List.set_cons_zero, List.set_cons_succ]
  refine wpAnyH_take (i := 6) (oi := _) (v := ?_) rfl (by kernel_rfl) (by kernel_rfl) (by kernel_rfl) (fun _ _ _ h => h) (Or.inl ⟨by rfl, ?_⟩) (by assumption) ?_
  rotate_left
  · intro w hSw
    (try dsimp only at hSw)
    first | (go_simp; done) | (go_simp; with_reducible rfl)
  try simp only [List.getElem_toArray, List.getElem_cons_succ, List.getElem_cons_zero, Act.put, List.setIfInBounds_toArray, List.set_cons_zero, List.set_cons_succ]
  refine wpAnyH_take (i := 7) (oi := _) (v := ?_) rfl (by kernel_rfl) (by kernel_rfl) (by kernel_rfl) (fun _ _ _ h => h) (Or.inl ⟨by rfl, ?_⟩) (by assumption) ?_
  rotate_left
  · intro w hSw
    (try dsimp only at hSw)
    first | (go_simp; done) | (go_simp; with_reducible rfl)
  try simp only [List.getElem_toArray, List.getElem_cons_succ, List.getElem_cons_zero, Act.put, List.setIfInBounds_toArray, List.set_cons_zero, List.set_cons_succ]
  refine wpAnyH_take (i := 8) (oi := _) (v := ?_) rfl (by kernel_rfl) (by kernel_rfl) (by kernel_rfl) (fun _ _ _ h => h) (Or.inl ⟨by rfl, ?_⟩) (by assumption) ?_
  rotate_left
  · intro w hSw
    (try dsimp only at hSw)
    first | (go_simp; done) | (go_simp; with_reducible rfl)
  try simp only [List.getElem_toArray, List.getElem_cons_succ, List.getElem_cons_zero, Act.put, List.setIfInBounds_toArray, List.set_cons_zero, List.set_cons_succ]
  change wpAnyH _ _ _ _ _ _ _ _ w1.drew
  rw [← Hwd.out] at hs00 hs01 ⊢
  refine wpAnyH_ready (rs := [4, 9]) (by kernel_rfl) (by simp) ?_
  refine AllReadyH.cons (o := _) rfl (fun K hK => ?_) (AllReadyH.cons (o := _) rfl (fun K hK => ?_) AllReadyH.nil)
  · go_simp
    try dsimp only
    refine hK.out _ _ hs0.2.2 (fun hHeld => ?_)
    clear hK K
    try simp only [List.getElem_toArray, List.getElem_cons_succ, List.getElem_cons_zero, Act.put, List.setIfInBounds_toArray, List.set_cons_zero, List.set_cons_succ]
    refine wpAnyH_ready (rs := [9]) (by kernel_rfl) (by simp) ?_
    refine AllReadyH.cons (o := _) rfl (fun K hK => ?_) AllReadyH.nil
    go_simp
    try dsimp only
    refine hK.out _ _ hs1.2.2 (fun hHeld => ?_)
    clear hK K
    try simp only [List.getElem_toArray, List.getElem_cons_succ, List.getElem_cons_zero, Act.put, List.setIfInBounds_toArray, List.set_cons_zero, List.set_cons_succ]
    refine wpAnyH_ready (rs := [10]) (by kernel_rfl) (by simp) ?_
    refine AllReadyH.cons (o := _) rfl (fun K hK => ?_) AllReadyH.nil
    refine step_append_lies _ (by rfl) _ _ 106 (by rfl) 0 159 i0 _ 2 24 Tryz.underlying106 hi hz0 hz1 hz2 rfl (by decide) (.slice pA pn pc) pn (flatP P) rfl (HRow.out.alloc _) ⟨wd.heap.size, 0, none⟩ 1 1 [.int .i64 a, .string s] rfl rfl (cells_new2 _ _ _ _) (by intro u hu; simp at hu; rcases hu with rfl | rfl <;> rfl) (by omega) (by unfold maxLen; omega) (by omega) (Nat.zero_le _) (wd.heap.size + 1) (by simp) ?_
    intro gq cap w5 hown5 hgrow5 hat5 hlt5
    try dsimp only
    refine hK.out _ _ (HS2.out w5 hgrow5).2.2 (fun hHeld => ?_)
    clear hK K
    try simp only [List.getElem_toArray, List.getElem_cons_succ, List.getElem_cons_zero, Act.put, List.setIfInBounds_toArray, List.set_cons_zero, List.set_cons_succ]
    have hs2a := (HS2.out w5 hgrow5).1
    have hs2b := (HS2.out w5 hgrow5).2.1
    have hs2c := (HS2.out w5 hgrow5).2.2
    have HF5 := Lib.hid (HPut.out wd (wd.alloc (.cells #[.int .i64 a, .string s] 159)) w5 (.slice (some ⟨gq, 0, none⟩) (pn + 1) cap) HBd.out (by rw [Hs.out]) (by
      have h := hown5
      rw [Hs.out, show flatP P ++ [Value.int .i64 a, .string ⟨L.toArray⟩] = flatP (P ++ [(a, L)]) from flatP_snoc P (a, L)] at h
      rw [List.length_append, List.length_singleton, ← Hpn.out]
      exact h) (by rw [Hpv.out]; exact hgrow5) (by
      rw [Hpv.out]
      rcases hat5 with e | e
      · exact Or.inl e.symm
      · right
        rw [e]
        show some (wd.heap.size + 1) = _
        simp))
    refine wpAnyH_take (i := 11) (oi := _) (v := ?_) rfl (by kernel_rfl) (by kernel_rfl) (by kernel_rfl) (fun _ _ _ h => h) (Or.inl ⟨by rfl, ?_⟩) (by assumption) ?_
    rotate_left
    · intro w hSw
      (try dsimp only at hSw)
      first | (go_simp; done) | (go_simp; with_reducible rfl)
    try simp only [List.getElem_toArray, List.getElem_cons_succ, List.getElem_cons_zero, Act.put, List.setIfInBounds_toArray, List.set_cons_zero, List.set_cons_succ]
    refine wpAnyH_take (i := 12) (oi := _) (v := ?_) rfl (by kernel_rfl) (by kernel_rfl) (by kernel_rfl) (fun _ _ _ h => h) (Or.inl ⟨by rfl, ?_⟩) (by assumption) ?_
    rotate_left
    · intro w hSw
      (try dsimp only at hSw)
      first | (go_simp; done) | (go_simp; with_reducible rfl)
    try simp only [List.getElem_toArray, List.getElem_cons_succ, List.getElem_cons_zero, Act.put, List.setIfInBounds_toArray, List.set_cons_zero, List.set_cons_succ]
    refine wpAnyH_ready (rs := [13]) (by kernel_rfl) (by simp) ?_
    refine AllReadyH.cons (o := _) rfl (fun K hK => ?_) AllReadyH.nil
    go_simp
    try dsimp only
    refine hK.out _ _ (HS3.out w5 hgrow5 _) (fun hHeld => ?_)
    clear hK K
    try simp only [List.getElem_toArray, List.getElem_cons_succ, List.getElem_cons_zero, Act.put, List.setIfInBounds_toArray, List.set_cons_zero, List.set_cons_succ]
    refine wpAnyH_done (by kernel_rfl) ?_ _
    simp only [Exit.then]
    clear hown5 hgrow5 hat5 hs2a hs2b hs2c hHeld
    go_wp2
    go_ret
    exact ⟨rfl, HF5.out.1, HF5.out.2⟩

  · go_simp
    try dsimp only
    refine hK.out _ _ hs1.2.2 (fun hHeld => ?_)
    clear hK K
    try simp only [List.getElem_toArray, List.getElem_cons_succ, List.getElem_cons_zero, Act.put, List.setIfInBounds_toArray, List.set_cons_zero, List.set_cons_succ]
    refine wpAnyH_ready (rs := [4]) (by kernel_rfl) (by simp) ?_
    refine AllReadyH.cons (o := _) rfl (fun K hK => ?_) AllReadyH.nil
    go_simp
    try dsimp only
    refine hK.out _ _ hs1.2.2 (fun hHeld => ?_)
    clear hK K
    try simp only [List.getElem_toArray, List.getElem_cons_succ, List.getElem_cons_zero, Act.put, List.setIfInBounds_toArray, List.set_cons_zero, List.set_cons_succ]
    refine wpAnyH_ready (rs := [10]) (by kernel_rfl) (by simp) ?_
    refine AllReadyH.cons (o := _) rfl (fun K hK => ?_) AllReadyH.nil
    refine step_append_lies _ (by rfl) _ _ 106 (by rfl) 0 159 i0 _ 2 24 Tryz.underlying106 hi hz0 hz1 hz2 rfl (by decide) (.slice pA pn pc) pn (flatP P) rfl (HRow.out.alloc _) ⟨wd.heap.size, 0, none⟩ 1 1 [.int .i64 a, .string s] rfl rfl (cells_new2 _ _ _ _) (by intro u hu; simp at hu; rcases hu with rfl | rfl <;> rfl) (by omega) (by unfold maxLen; omega) (by omega) (Nat.zero_le _) (wd.heap.size + 1) (by simp) ?_
    intro gq cap w5 hown5 hgrow5 hat5 hlt5
    try dsimp only
    refine hK.out _ _ (HS2.out w5 hgrow5).2.2 (fun hHeld => ?_)
    clear hK K
    try simp only [List.getElem_toArray, List.getElem_cons_succ, List.getElem_cons_zero, Act.put, List.setIfInBounds_toArray, List.set_cons_zero, List.set_cons_succ]
    have hs2a := (HS2.out w5 hgrow5).1
    have hs2b := (HS2.out w5 hgrow5).2.1
    have hs2c := (HS2.out w5 hgrow5).2.2
    have HF5 := Lib.hid (HPut.out wd (wd.alloc (.cells #[.int .i64 a, .string s] 159)) w5 (.slice (some ⟨gq, 0, none⟩) (pn + 1) cap) HBd.out (by rw [Hs.out]) (by
      have h := hown5
      rw [Hs.out, show flatP P ++ [Value.int .i64 a, .string ⟨L.toArray⟩] = flatP (P ++ [(a, L)]) from flatP_snoc P (a, L)] at h
      rw [List.length_append, List.length_singleton, ← Hpn.out]
      exact h) (by rw [Hpv.out]; exact hgrow5) (by
      rw [Hpv.out]
      rcases hat5 with e | e
      · exact Or.inl e.symm
      · right
        rw [e]
        show some (wd.heap.size + 1) = _
        simp))
    refine wpAnyH_take (i := 11) (oi := _) (v := ?_) rfl (by kernel_rfl) (by kernel_rfl) (by kernel_rfl) (fun _ _ _ h => h) (Or.inl ⟨by rfl, ?_⟩) (by assumption) ?_
    rotate_left
    · intro w hSw
      (try dsimp only at hSw)
      first | (go_simp; done) | (go_simp; with_reducible rfl)
    try simp only [List.getElem_toArray, List.getElem_cons_succ, List.getElem_cons_zero, Act.put, List.setIfInBounds_toArray, List.set_cons_zero, List.set_cons_succ]
    refine wpAnyH_take (i := 12) (oi := _) (v := ?_) rfl (by kernel_rfl) (by kernel_rfl) (by kernel_rfl) (fun _ _ _ h => h) (Or.inl ⟨by rfl, ?_⟩) (by assumption) ?_
    rotate_left
    · intro w hSw
      (try dsimp only at hSw)
      first | (go_simp; done) | (go_simp; with_reducible rfl)
    try simp only [List.getElem_toArray, List.getElem_cons_succ, List.getElem_cons_zero, Act.put, List.setIfInBounds_toArray, List.set_cons_zero, List.set_cons_succ]
    refine wpAnyH_ready (rs := [13]) (by kernel_rfl) (by simp) ?_
    refine AllReadyH.cons (o := _) rfl (fun K hK => ?_) AllReadyH.nil
    go_simp
    try dsimp only
    refine hK.out _ _ (HS3.out w5 hgrow5 _) (fun hHeld => ?_)
    clear hK K
    try simp only [List.getElem_toArray, List.getElem_cons_succ, List.getElem_cons_zero, Act.put, List.setIfInBounds_toArray, List.set_cons_zero, List.set_cons_succ]
    refine wpAnyH_done (by kernel_rfl) ?_ _
    simp only [Exit.then]
    clear hown5 hgrow5 hat5 hs2a hs2b hs2c hHeld
    go_wp2
    go_ret
    exact ⟨rfl, HF5.out.1, HF5.out.2⟩


end Go.Proofs.YtginffdngphjpaaGreatDoor

/- Walks: the layout: all parts of a volume, one after the other. -/
namespace Go.Proofs.YtginffdngphjpaaGreatDoor
open Go.RowKit Go.Shelf

attribute [local go_sem] Oper.semAt_some

namespace Gd
/-- a part: its kind, its number, where, how long -/
structure Pt where
  k : Nat
  n : Nat
  a : Nat
  s : Nat
/-- parts of one kind: kind, how many, how long, where the first one lies -/
structure Ro where
  k : Nat
  m : Nat
  s : Nat
  a : Nat
def rowsT : List Ro := [⟨1, 0, 64, 0⟩, ⟨2, 8, 64, 64⟩, ⟨3, 0, 64, 576⟩, ⟨4, 32, 64, 640⟩, ⟨5, 0, 4096, 2688⟩, ⟨6, 8, 1024, 6784⟩, ⟨7, 128, 64, 14976⟩]
def rowP (r : Ro) : List Pt := (List.range (max 1 r.m)).map fun j => ⟨r.k, if r.m = 0 then 0 else j + 1, r.a + j * r.s, r.s⟩
def partsL : List Pt := rowsT.flatMap rowP
def startOf (i : Nat) : Nat := match rowsT[i]? with | some r => r.a | none => 23168
theorem start_next {i : Nat} {r : Ro} (h : rowsT[i]? = some r) : startOf i = r.a ∧ startOf (i + 1) = r.a + max 1 r.m * r.s ∧ r.k ≤ 7 ∧ (r.m = 0 ∨ (2 ≤ r.m ∧ r.m ≤ 128)) ∧ r.s ≤ 4096 ∧ r.a ≤ 14976 := by
  match i, h with
  | 0, h => cases h; exact ⟨rfl, rfl, by decide, by decide, by decide, by decide⟩
  | 1, h => cases h; exact ⟨rfl, rfl, by decide, by decide, by decide, by decide⟩
  | 2, h => cases h; exact ⟨rfl, rfl, by decide, by decide, by decide, by decide⟩
  | 3, h => cases h; exact ⟨rfl, rfl, by decide, by decide, by decide, by decide⟩
  | 4, h => cases h; exact ⟨rfl, rfl, by decide, by decide, by decide, by decide⟩
  | 5, h => cases h; exact ⟨rfl, rfl, by decide, by decide, by decide, by decide⟩
  | 6, h => cases h; exact ⟨rfl, rfl, by decide, by decide, by decide, by decide⟩
  | n + 7, h => simp [rowsT] at h
theorem rowP_length (r : Ro) : (rowP r).length = max 1 r.m := by
  unfold rowP
  rw [List.length_map, List.length_range]
theorem rowP_get {r : Ro} {j : Nat} (h : j < max 1 r.m) : (rowP r)[j]? = some ⟨r.k, if r.m = 0 then 0 else j + 1, r.a + j * r.s, r.s⟩ := by
  unfold rowP
  rw [List.getElem?_map, List.getElem?_range h]
  rfl
def preP (i j : Nat) : List Pt := (rowsT.take i).flatMap rowP ++ match rowsT[i]? with | some r => (rowP r).take j | none => []
theorem preP_step {i j : Nat} {r : Ro} (h : rowsT[i]? = some r) (hj : j < max 1 r.m) : preP i (j + 1) = preP i j ++ [⟨r.k, if r.m = 0 then 0 else j + 1, r.a + j * r.s, r.s⟩] := by
  unfold preP
  rw [h]
  simp only
  rw [List.take_add_one, rowP_get hj, List.append_assoc]
  rfl
theorem preP_row {i : Nat} {r : Ro} (h : rowsT[i]? = some r) : preP i (max 1 r.m) = preP (i + 1) 0 := by
  unfold preP
  rw [h]
  simp only
  rw [List.take_of_length_le (l := rowP r) (by rw [rowP_length]; exact Nat.le_refl _), List.take_add_one, h]
  simp only [Option.toList, List.flatMap_append, List.flatMap_cons, List.flatMap_nil, List.append_nil]
  cases rowsT[i + 1]? <;> simp
theorem preP_end : preP 7 0 = partsL := by kernel_rfl
theorem preP_short {i j : Nat} {r : Ro} (h : rowsT[i]? = some r) (hj : j < max 1 r.m) : (preP i j).length < 179 ∧ preP i (j + 1) <+: partsL := by
  have h1 : preP i (j + 1) <+: partsL := by
    have hs : rowsT = rowsT.take i ++ r :: rowsT.drop (i + 1) := by
      have hi := (List.getElem?_eq_some_iff.1 h)
      rw [← hi.2, List.getElem_cons_drop, List.take_append_drop]
    unfold preP
    rw [h]
    refine ⟨(rowP r).drop (j + 1) ++ (rowsT.drop (i + 1)).flatMap rowP, ?_⟩
    show _ = partsL
    unfold partsL
    conv => rhs; rw [hs]
    rw [List.flatMap_append, List.flatMap_cons]
    simp only [List.append_assoc]
    congr 1
    rw [← List.append_assoc, List.take_append_drop]
  refine ⟨?_, h1⟩
  have := h1.length_le
  rw [preP_step h hj, List.length_append, List.length_singleton] at this
  have hl : partsL.length = 179 := by kernel_rfl
  omega
end Gd
def ptV (p : Gd.Pt) : Value := .agg #[.int .i64 p.k, .int .i64 p.n, .int .i64 p.a, .int .i64 p.s]
/-- whatever is cells lies as it lay, from a place on -/
def KeepsC (B : Nat) (W W' : World) : Prop := ∀ (k : Nat), B ≤ k → ∀ (c : Array Value) (t : TypeId) (fr : Nat × Nat), W.heap[k]? = some (.cells c t fr) → W'.heap[k]? = some (.cells c t fr)
theorem keepsC_t (D : Nat) {A B C : World} (h : KeepsC D A B) (k : KeepsC D B C) : KeepsC D A C := fun j hD c t fr hj => k j hD c t fr (h j hD c t fr hj)
theorem keepsC_b (D : Nat) {w : World} (W : World) (l : Nat) (o o' : Obj) (_ : w.heap.size ≤ l) (h : W.heap[l]? = some o) (hc : o.isCells = false) (_ : o.isWalk = false) : KeepsC D W (W.putObj l o') := fun j _ c t fr hj => by
  have : j ≠ l := fun e => by
    rw [e, h] at hj
    cases hj
    cases hc
  exact (World.putObj_heap_other this).trans hj
theorem keepsC_below (D : Nat) {W W' : World} (h : Below W.heap.size W W') : KeepsC D W W' := fun j _ _ _ _ hj => (h.block j (Array.getElem?_eq_some_iff.1 hj).1).trans hj
theorem lt_get' {w : World} {k : Nat} {o : Obj} (h : w.heap[k]? = some o) : k < w.heap.size := (Array.getElem?_eq_some_iff.1 h).1
def rowCs : List Value := Gd.rowsT.flatMap fun r => [.int .i64 r.k, .int .i64 r.m, .int .i64 r.s]
theorem rowCs_get {i : Nat} {r : Gd.Ro} (h : Gd.rowsT[i]? = some r) : rowCs[i * 3]? = some (.int .i64 r.k) ∧ rowCs[i * 3 + 1]? = some (.int .i64 r.m) ∧ rowCs[i * 3 + 2]? = some (.int .i64 r.s) := by
  match i, h with
  | 0, h => cases h; exact ⟨rfl, rfl, rfl⟩
  | 1, h => cases h; exact ⟨rfl, rfl, rfl⟩
  | 2, h => cases h; exact ⟨rfl, rfl, rfl⟩
  | 3, h => cases h; exact ⟨rfl, rfl, rfl⟩
  | 4, h => cases h; exact ⟨rfl, rfl, rfl⟩
  | 5, h => cases h; exact ⟨rfl, rfl, rfl⟩
  | 6, h => cases h; exact ⟨rfl, rfl, rfl⟩
  | n + 7, h => simp [Gd.rowsT] at h

set_option maxRecDepth 100000 in
set_option maxHeartbeats 4000000 in
theorem rows_in (F : Fence) (n : Nat) (hf : F.fn 134) (hro : F.round = none) (w : World) :
    CallsIn F n Tryz.prog 134 #[] w fun e w' => e = .returned (.slice (some ⟨w.heap.size, 0, none⟩) 7 7) ∧ w' = w.alloc (.cells rowCs.toArray 212) := by
  refine callsIn_of_wp Tryz.func134 rfl hf ?_ hro
  simp only [Tryz.ntmps134, List.size_toArray, List.length_cons, List.length_nil, Nat.reduceAdd, Nat.reduceSub, Array.replicate_succ, Array.replicate_zero, List.push_toArray, List.append_toArray, List.nil_append, List.cons_append]
  gi_wp2
  go_ret
  exact ⟨rfl, rfl⟩

set_option maxRecDepth 100000 in
set_option maxHeartbeats 8000000 in
/-- **parts has its contract: all parts, in their order; it stops where a round says 'no more'** -/
theorem parts_stops (F : Fence) (n : Nat) (hf : F.fn 96) (hf2 : F.fn 134) (hro : F.round = none) (hn : 2 ≤ n) (B : Nat) (w : World) (hBw : B ≤ w.heap.size) :
    SeqStopsK F n Tryz.prog 96 #[] (fun p : Gd.Pt => #[ptV p]) (KeepsC B) (fun xs => xs = Gd.partsL) (fun pre => pre <+: Gd.partsL) 179 w := fun l J Jx W hW hJa _ hY h0 => by
  have HBW : Hid (B ≤ W.heap.size) := Lib.hid (Nat.le_trans hBw hW.size)
  clear hBw hW
  have h1 : 1 ≤ n := by omega
  have HY := Lib.hid hY
  have H0 := Lib.hid h0
  have HJa := Lib.hid hJa
  clear hY h0 hJa
  refine callsIn_of_wp Tryz.func96 rfl hf ?_ hro
  simp only [Tryz.ntmps96, List.size_toArray, List.length_cons, List.length_nil, Nat.reduceAdd, Nat.reduceSub, Array.replicate_succ, Array.replicate_zero, List.push_toArray, List.append_toArray, List.nil_append, List.cons_append]
  gi_wp2_with (gi_at_call 134; refine (rows_in F (n - 1) hf2 hro _).mono ?_; rintro e w' ⟨rfl, rfl⟩)
  obtain ⟨w1, hw1⟩ : ∃ v, v = W.alloc (.cells rowCs.toArray 212) := ⟨_, rfl⟩
  rw [← hw1]
  obtain ⟨rb, hrb⟩ : ∃ rb, rb = W.heap.size := ⟨_, rfl⟩
  rw [← hrb]
  have HR1 : Hid (w1.heap[rb]? = some (.cells rowCs.toArray 212 (0, 0))) := Lib.hid (by rw [hw1, hrb]; exact heap_alloc_new _ _)
  have HJ1 : Hid (J [] w1) := Lib.hid (by rw [hw1]; exact HJa.out [] W _ none H0.out (World.grownBy_alloc W _ none) (fun r e => by cases e))
  have HBr : Hid (B ≤ rb) := Lib.hid (by rw [hrb]; exact HBW.out)
  clear hw1 hrb
  gi_wp2
  gi_loopw [2, 9] (fun u z wr => ∃ i : Nat, z = .int .i64 i ∧ i ≤ 7 ∧ u = .int .i64 (Gd.startOf i) ∧ Hid (J (Gd.preP i 0) wr) ∧ Hid (wr.heap[rb]? = some (.cells rowCs.toArray 212 (0, 0)))) (fun _ z _ => 7 - (intOf z).toNat)
  case atStart => exact ⟨0, rfl, by omega, rfl, HJ1, HR1⟩
  case round =>
    obtain ⟨i, rfl, hi, rfl, HJ, HR⟩ := hrel
    by_cases hlt : i < 7
    · obtain ⟨r, hr⟩ : ∃ r, Gd.rowsT[i]? = some r := ⟨_, List.getElem?_eq_getElem hlt⟩
      obtain ⟨q1, q2, q3, q4, q5, q6⟩ := Gd.start_next hr
      obtain ⟨g0, g1, g2⟩ := rowCs_get hr
      have c0 : wr.cell? ⟨rb, i * 3, none⟩ = some (.int .i64 r.k) := (cell_of_row wr rb (i * 3) _ _ _ HR.out).trans (by rw [List.getElem?_toArray]; exact g0)
      have c1 : wr.cell? ⟨rb, i * 3 + 1, none⟩ = some (.int .i64 r.m) := (cell_of_row wr rb (i * 3 + 1) _ _ _ HR.out).trans (by rw [List.getElem?_toArray]; exact g1)
      have c2 : wr.cell? ⟨rb, i * 3 + 2, none⟩ = some (.int .i64 r.s) := (cell_of_row wr rb (i * 3 + 2) _ _ _ HR.out).trans (by rw [List.getElem?_toArray]; exact g2)
      have e1 : (i : Int) < 7 := by omega
      have e0 : (0 : Int) ≤ i := by omega
      have HRi := Lib.hid hr
      have HQ := Lib.hid (And.intro q1 (And.intro q2 (And.intro q3 (And.intro q5 q6))))
      rw [q1]
      clear hr g0 g1 g2 q1 q2 q3 hlt
      rcases q4 with q4 | ⟨q4, q7⟩
      · have hm0 : (r.m : Int) = 0 := by omega
        rw [hm0] at c1
        have HM : Hid (max 1 r.m = 1) := Lib.hid (by omega)
        obtain ⟨k', hk'⟩ : ∃ k', k' = r.k := ⟨_, rfl⟩
        obtain ⟨s', hs'⟩ : ∃ s', s' = r.s := ⟨_, rfl⟩
        obtain ⟨a', ha'⟩ : ∃ a', a' = r.a := ⟨_, rfl⟩
        rw [← hk'] at c0
        rw [← hs'] at c2
        rw [← ha']
        have Hks := Lib.hid (And.intro hk' (And.intro hs' ha'))
        have hs4 : s' ≤ 4096 := by omega
        have ha4 : a' ≤ 14976 := by omega
        clear hk' hs' ha' q5 q6
        gi_wp2
        obtain ⟨wz, hwz⟩ : ∃ v, v = wr.alloc (.cells #[.int .i64 k', .int .i64 0, .int .i64 s'] 212) := ⟨_, rfl⟩
        rw [← hwz]
        obtain ⟨bx, hbx⟩ : ∃ bx, bx = wr.heap.size := ⟨_, rfl⟩
        rw [← hbx]
        have HBz : Hid (wz.heap[bx]? = some (.cells #[.int .i64 k', .int .i64 0, .int .i64 s'] 212 (0, 0))) := Lib.hid (by rw [hwz, hbx]; exact heap_alloc_new _ _)
        have HJz : Hid (J (Gd.preP i 0) wz) := Lib.hid (by rw [hwz]; exact HJa.out _ wr _ none HJ.out (World.grownBy_alloc wr _ none) (fun r e => by cases e))
        have HRz : Hid (wz.heap[rb]? = some (.cells rowCs.toArray 212 (0, 0))) := Lib.hid (by rw [hwz]; exact (Below.heap_alloc wr _ rb (lt_get' HR.out)).trans HR.out)
        have HBb : Hid (B ≤ bx) := Lib.hid (by rw [hbx]; have := lt_get' HR.out; have := HBr.out; omega)
        clear hwz hbx c0 c1 c2
        gi_loopw [2, 16] (fun u z ws => ∃ (j A : Nat), z = .int .i64 j ∧ j ≤ 1 ∧ u = .int .i64 A ∧ A ≤ a' + j * 4096 ∧ Hid (A = a' + j * s') ∧ Hid (J (Gd.preP i j) ws) ∧ Hid (ws.heap[rb]? = some (.cells rowCs.toArray 212 (0, 0))) ∧ Hid (ws.heap[bx]? = some (.cells #[.int .i64 k', .int .i64 0, .int .i64 s'] 212 (0, 0)))) (fun _ z _ => 1 - (intOf z).toNat)
        case atStart => exact ⟨0, a', rfl, by omega, rfl, by omega, Lib.hid (by rw [Nat.zero_mul]; rfl), HJz, HRz, HBz⟩
        case round =>
          obtain ⟨j, A, rfl, hj, rfl, hA, HA, HJj, HRj, HBj⟩ := hrel
          by_cases hjl : j < 1
          · have hpl := Gd.preP_short HRi.out (by rw [HM.out]; exact hjl)
            have hps := Gd.preP_step HRi.out (j := j) (by rw [HM.out]; exact hjl)
            rw [if_pos q4] at hps
            rw [← Hks.out.1, ← Hks.out.2.1, ← Hks.out.2.2, ← HA.out] at hps
            obtain ⟨fn, tmps, assign, body, hy, hR⟩ := HY.out (Gd.preP i j) ⟨k', 0, A, s'⟩ wr HJj.out hpl.1
            unfold ptV at hy
            dsimp only at hy
            rw [show ((0 : Nat) : Int) = 0 by omega] at hy
            rw [← hps] at hR
            have HRR := Lib.hid hR
            have HPl := Lib.hid hpl.2
            have d0 := cell_of_row wr bx 0 _ _ _ HBj.out
            have d1 := cell_of_row wr bx 1 _ _ _ HBj.out
            have d2 := cell_of_row wr bx 2 _ _ _ HBj.out
            have f1 : (j : Int) < 1 := by omega
            have f2 : (A : Int) ≤ 1000000 := by omega
            clear hps hR hpl hjl
            gi_wp2
            refine HRR.out.mono ?_
            rintro e W3 (⟨rfl, hJ3, hk3⟩ | ⟨rfl, hJx3⟩)
            · have HJ3 := Lib.hid hJ3
              have HR3 := Lib.hid (hk3 _ HBr.out _ _ _ HRj.out)
              have HB3 := Lib.hid (hk3 _ HBb.out _ _ _ HBj.out)
              have g0 := cell_of_row W3 bx 0 _ _ _ HB3.out
              have g1 := cell_of_row W3 bx 1 _ _ _ HB3.out
              have g2 := cell_of_row W3 bx 2 _ _ _ HB3.out
              have HA3 : Hid (A + s' = a' + (j + 1) * s') := Lib.hid (by rw [HA.out, Nat.add_mul, Nat.one_mul, Nat.add_assoc])
              clear hJ3 hk3 d0 d1 d2 hy HRR
              gi_wp2
              go_roundw
              case rel => exact ⟨j + 1, A + s', by go_num, by omega, by go_num, by omega, HA3, HJ3, HR3, HB3⟩
              case measure => simp [intOf]; omega
            · have HX3 := Lib.hid hJx3
              clear hJx3 d0 d1 d2 hy HRR
              gi_wp2
              refine bodyPost_ret (results_none rfl _ _ _) rfl ?_
              exact ⟨⟨_, rfl⟩, Or.inr ⟨_, HPl.out, HX3.out⟩⟩
          · obtain rfl : j = 1 := by omega
            have HA2 : Hid (A = Gd.startOf (i + 1)) := Lib.hid (by rw [HA.out, HQ.out.2.1, HM.out, Hks.out.2.1, Hks.out.2.2])
            have HJ2 : Hid (J (Gd.preP (i + 1) 0) wr) := Lib.hid (by rw [← Gd.preP_row HRi.out, HM.out]; exact HJj.out)
            clear hjl
            gi_wp2
            go_roundw
            case rel => exact ⟨i + 1, by go_num, by omega, by rw [HA2.out], HJ2, HRj⟩
            case measure => simp [intOf]; omega

      · obtain ⟨m, hm⟩ : ∃ m, m = r.m := ⟨_, rfl⟩
        rw [← hm] at c1 q4 q7
        have Hm := Lib.hid hm
        have hm1 : (1 : Int) < m := by omega
        have hm2 : 1 < m := by omega
        have HM : Hid (max 1 r.m = m) := Lib.hid (by omega)
        clear hm
        obtain ⟨k', hk'⟩ : ∃ k', k' = r.k := ⟨_, rfl⟩
        obtain ⟨s', hs'⟩ : ∃ s', s' = r.s := ⟨_, rfl⟩
        obtain ⟨a', ha'⟩ : ∃ a', a' = r.a := ⟨_, rfl⟩
        rw [← hk'] at c0
        rw [← hs'] at c2
        rw [← ha']
        have Hks := Lib.hid (And.intro hk' (And.intro hs' ha'))
        have hs4 : s' ≤ 4096 := by omega
        have ha4 : a' ≤ 14976 := by omega
        clear hk' hs' ha' q5 q6
        gi_wp2
        obtain ⟨wz, hwz⟩ : ∃ v, v = wr.alloc (.cells #[.int .i64 k', .int .i64 m, .int .i64 s'] 212) := ⟨_, rfl⟩
        rw [← hwz]
        obtain ⟨bx, hbx⟩ : ∃ bx, bx = wr.heap.size := ⟨_, rfl⟩
        rw [← hbx]
        have HBz : Hid (wz.heap[bx]? = some (.cells #[.int .i64 k', .int .i64 m, .int .i64 s'] 212 (0, 0))) := Lib.hid (by rw [hwz, hbx]; exact heap_alloc_new _ _)
        have HJz : Hid (J (Gd.preP i 0) wz) := Lib.hid (by rw [hwz]; exact HJa.out _ wr _ none HJ.out (World.grownBy_alloc wr _ none) (fun r e => by cases e))
        have HRz : Hid (wz.heap[rb]? = some (.cells rowCs.toArray 212 (0, 0))) := Lib.hid (by rw [hwz]; exact (Below.heap_alloc wr _ rb (lt_get' HR.out)).trans HR.out)
        have HBb : Hid (B ≤ bx) := Lib.hid (by rw [hbx]; have := lt_get' HR.out; have := HBr.out; omega)
        clear hwz hbx c0 c1 c2
        gi_loopw [2, 16] (fun u z ws => ∃ (j A : Nat), z = .int .i64 j ∧ j ≤ m ∧ u = .int .i64 A ∧ A ≤ a' + j * 4096 ∧ Hid (A = a' + j * s') ∧ Hid (J (Gd.preP i j) ws) ∧ Hid (ws.heap[rb]? = some (.cells rowCs.toArray 212 (0, 0))) ∧ Hid (ws.heap[bx]? = some (.cells #[.int .i64 k', .int .i64 m, .int .i64 s'] 212 (0, 0)))) (fun _ z _ => m - (intOf z).toNat)
        case atStart => exact ⟨0, a', rfl, by omega, rfl, by omega, Lib.hid (by rw [Nat.zero_mul]; rfl), HJz, HRz, HBz⟩
        case round =>
          obtain ⟨j, A, rfl, hj, rfl, hA, HA, HJj, HRj, HBj⟩ := hrel
          by_cases hjl : j < m
          · have hpl := Gd.preP_short HRi.out (by rw [HM.out]; exact hjl)
            have hps := Gd.preP_step HRi.out (j := j) (by rw [HM.out]; exact hjl)
            rw [if_neg (show ¬ r.m = 0 by have := Hm.out; omega)] at hps
            rw [← Hks.out.1, ← Hks.out.2.1, ← Hks.out.2.2, ← HA.out] at hps
            obtain ⟨fn, tmps, assign, body, hy, hR⟩ := HY.out (Gd.preP i j) ⟨k', (j + 1), A, s'⟩ wr HJj.out hpl.1
            unfold ptV at hy
            dsimp only at hy
            rw [show (((j + 1) : Nat) : Int) = (j : Int) + 1 by omega] at hy
            rw [← hps] at hR
            have HRR := Lib.hid hR
            have HPl := Lib.hid hpl.2
            have d0 := cell_of_row wr bx 0 _ _ _ HBj.out
            have d1 := cell_of_row wr bx 1 _ _ _ HBj.out
            have d2 := cell_of_row wr bx 2 _ _ _ HBj.out
            have f1 : (j : Int) < m := by omega
            have f2 : (A : Int) ≤ 1000000 := by omega
            clear hps hR hpl hjl
            gi_wp2
            refine HRR.out.mono ?_
            rintro e W3 (⟨rfl, hJ3, hk3⟩ | ⟨rfl, hJx3⟩)
            · have HJ3 := Lib.hid hJ3
              have HR3 := Lib.hid (hk3 _ HBr.out _ _ _ HRj.out)
              have HB3 := Lib.hid (hk3 _ HBb.out _ _ _ HBj.out)
              have g0 := cell_of_row W3 bx 0 _ _ _ HB3.out
              have g1 := cell_of_row W3 bx 1 _ _ _ HB3.out
              have g2 := cell_of_row W3 bx 2 _ _ _ HB3.out
              have HA3 : Hid (A + s' = a' + (j + 1) * s') := Lib.hid (by rw [HA.out, Nat.add_mul, Nat.one_mul, Nat.add_assoc])
              clear hJ3 hk3 d0 d1 d2 hy HRR
              gi_wp2
              go_roundw
              case rel => exact ⟨j + 1, A + s', by go_num, by omega, by go_num, by omega, HA3, HJ3, HR3, HB3⟩
              case measure => simp [intOf]; omega
            · have HX3 := Lib.hid hJx3
              clear hJx3 d0 d1 d2 hy HRR
              gi_wp2
              refine bodyPost_ret (results_none rfl _ _ _) rfl ?_
              exact ⟨⟨_, rfl⟩, Or.inr ⟨_, HPl.out, HX3.out⟩⟩
          · obtain rfl : j = m := by omega
            have HA2 : Hid (A = Gd.startOf (i + 1)) := Lib.hid (by rw [HA.out, HQ.out.2.1, HM.out, Hks.out.2.1, Hks.out.2.2])
            have HJ2 : Hid (J (Gd.preP (i + 1) 0) wr) := Lib.hid (by rw [← Gd.preP_row HRi.out, HM.out]; exact HJj.out)
            clear hjl
            gi_wp2
            go_roundw
            case rel => exact ⟨i + 1, by go_num, by omega, by rw [HA2.out], HJ2, HRj⟩
            case measure => simp [intOf]; omega

    · obtain rfl : i = 7 := by omega
      clear hlt
      gi_wp2
      go_end0
      exact ⟨⟨_, rfl⟩, Or.inl ⟨_, Gd.preP_end, HJ.out⟩⟩

end Go.Proofs.YtginffdngphjpaaGreatDoor
