/- Walks: a directory's table: where a name may stand, in order. -/
import Derived.Test.YtccpdkjonepoiaaGreatDoorW12
import Derived.Test.YtccpdkjonepoiaaGreatDoorW04
import Derived.Test.YtccpdkjonepoiaaGreatDoorW10
import Derived.Sort.QuietIn
import Derived.BigQuiet
import Derived.Deep.QuietTactic
import Derived.Test.YtccpdkjonepoiaaGreatDoorW05
set_option linter.unusedVariables false
set_option linter.unusedSimpArgs false
set_option linter.unusedSectionVars false
namespace Go.Proofs.YtccpdkjonepoiaaGreatDoor
open Go.RowKit Go.Shelf

attribute [local go_sem] Oper.semAt_some

def entC (e : Gd.Ent) : List Value := [.string ⟨e.s.toArray⟩, .int .i64 e.i]
def tabC (T : Gd.Tab) : Array Value := (T.flatMap entC).toArray
def tabV (T : Gd.Tab) : Value := .agg (tabC T)
theorem ents_get : ∀ {T : Gd.Tab} {k : Nat} {e : Gd.Ent} (i : Nat), T[k]? = some e → i < 2 → (T.flatMap entC)[k * 2 + i]? = (entC e)[i]?
  | [], k, e, i, hx, _ => by simp at hx
  | a :: r, 0, e, i, hx, hi => by
    simp at hx
    subst hx
    rw [List.flatMap_cons, List.getElem?_append_left (by show 0 * 2 + i < 2; omega), Nat.zero_mul, Nat.zero_add]
  | a :: r, k + 1, e, i, hx, hi => by
    rw [List.flatMap_cons, List.getElem?_append_right (by show 2 ≤ _; omega)]
    have := ents_get (T := r) (k := k) (e := e) i (by simpa using hx) hi
    rw [← this]
    congr 1
    show (k + 1) * 2 + i - 2 = _
    omega
theorem ents_len : ∀ (T : Gd.Tab), (T.flatMap entC).length = T.length * 2
  | [] => rfl
  | a :: r => by
    rw [List.flatMap_cons, List.length_append, ents_len r, List.length_cons]
    show 2 + _ = _
    omega
theorem tabC_size {T : Gd.Tab} (h : T.length = 16) : (tabC T).size = 32 := by
  unfold tabC
  rw [List.size_toArray, ents_len, h]
theorem tab_cells {w : World} {b t : Nat} {T : Gd.Tab} (h : w.heap[b]? = some (.cells (tabC T) t (0, 0))) {k : Nat} {e : Gd.Ent} (hk : T[k]? = some e) : w.cell? ⟨b, k * 2, none⟩ = some (.string ⟨e.s.toArray⟩) ∧ w.cell? ⟨b, k * 2 + 1, none⟩ = some (.int .i64 e.i) := by
  refine ⟨(cell_of_row w b (k * 2) _ _ _ h).trans ?_, (cell_of_row w b (k * 2 + 1) _ _ _ h).trans ?_⟩
  · unfold tabC
    rw [List.getElem?_toArray]
    exact ents_get 0 hk (by omega)
  · unfold tabC
    rw [List.getElem?_toArray]
    exact ents_get 1 hk (by omega)
theorem tabC_one (T : Gd.Tab) : (tabC T).all (·.oneCell') = true := by
  unfold tabC
  refine all_oneCell_toArray fun v hv => ?_
  obtain ⟨e, _, he⟩ := List.mem_flatMap.1 hv
  simp only [entC, List.mem_cons, List.mem_nil_iff, or_false] at he
  rcases he with rfl | rfl <;> rfl
theorem Tryz.sizeTab : (Tryz.prog.info? 194).map (fun i => i.size) = some 32 := by kernel_rfl

set_option maxRecDepth 100000 in
set_option maxHeartbeats 8000000 in
/-- **of has its contract: the places of a name, in their order; it stops where a round says 'no more'** -/
theorem of_stops (F : Fence) (n : Nat) (hF : F = Fence.wide) (hn : 2 ≤ n) (nb : Nat) (s : ByteArray) (hs : s.size ≤ 100000) (h : Nat) (hh : (h : Int) = hashV s.data.toList) (h16 : h < 16) (Kp : World → World → Prop) (w : World) (hc : w.cell? ⟨nb, 0, none⟩ = some (.string s)) (hb : nb < w.heap.size) :
    SeqStopsK F n Tryz.prog 207 #[.pointer (some ⟨nb, 0, none⟩)] (fun j : Fin 16 => #[.int .i64 (j.val : Nat)]) Kp (fun xs => xs = Gd.placesL h) (fun pre => pre <+: Gd.placesL h) 16 w := fun l J Jx W hW hJa _ hY h0 => by
  subst hF
  have hcW := (hW.cell (p := ⟨nb, 0, none⟩) hb).trans hc
  have h1 : 1 ≤ n := by omega
  have HY := Lib.hid hY
  have H0 := Lib.hid h0
  have HHa : Hid (∀ V, CallsIn Fence.wide (n - 1) Tryz.prog 208 #[.string s] V fun e w' => e = .returned (.int .i64 h) ∧ V = w') := Lib.hid fun V => callsIn_wide.2 (by rw [hh]; exact hash_any s V hs)
  have hh16 : (h : Int) < 16 := by omega
  clear hY h0 hJa hc hh hW
  refine callsIn_of_wp Tryz.func207 rfl trivial ?_ rfl
  simp only [Tryz.ntmps207, List.size_toArray, List.length_cons, List.length_nil, Nat.reduceAdd, Nat.reduceSub, Array.replicate_succ, Array.replicate_zero, List.push_toArray, List.append_toArray, List.nil_append, List.cons_append]
  gi_wp2
  refine ⟨trivial, (HHa.out _).mono ?_⟩
  rintro e w' ⟨rfl, rfl⟩
  clear hcW HHa
  gi_wp2
  gi_loopw [7] (fun z wr => ∃ i : Nat, z = .int .i64 i ∧ i ≤ 16 ∧ Hid (J ((Gd.placesL h).take i) wr)) (fun z _ => 16 - (intOf z).toNat)
  case atStart => exact ⟨0, rfl, by omega, Lib.hid (by rw [List.take_zero]; exact H0.out)⟩
  case round =>
    obtain ⟨i, rfl, hi, HJ⟩ := hrel
    have hpl : (Gd.placesL h).length = 16 := by unfold Gd.placesL; rw [List.length_map, List.length_range]
    by_cases hlt : i < 16
    · obtain ⟨j, hj⟩ : ∃ j : Fin 16, j = ⟨(h + i) % 16, Nat.mod_lt _ (by omega)⟩ := ⟨_, rfl⟩
      have hgj : (Gd.placesL h)[i]? = some j := by unfold Gd.placesL; rw [List.getElem?_map, List.getElem?_range hlt, hj]; rfl
      have htk : (Gd.placesL h).take (i + 1) = (Gd.placesL h).take i ++ [j] := by rw [List.take_add_one, hgj]; rfl
      obtain ⟨fn, tmps, assign, body, hy, hR⟩ := HY.out ((Gd.placesL h).take i) j wr HJ.out (by rw [List.length_take]; omega)
      rw [← htk] at hR
      have HRR := Lib.hid hR
      have HP := Lib.hid (List.take_prefix (i + 1) (Gd.placesL h))
      have h2 : (i : Int) < 16 := by omega
      have h3 : ((h : Int) + (i : Int)) % 16 = ((j.val : Nat) : Int) := by rw [hj]; show _ = (((h + i) % 16 : Nat) : Int); omega
      clear hj hgj htk hR hpl hlt
      gi_wp2
      refine HRR.out.mono ?_
      rintro e W3 (⟨rfl, hJ3, hk3⟩ | ⟨rfl, hJx3⟩)
      · have HJ3 := Lib.hid hJ3
        clear hJ3 hk3 hy HRR
        gi_wp2
        go_roundw
        case rel => exact ⟨i + 1, by go_num, by omega, HJ3⟩
        case measure => simp [intOf]; omega
      · have HX3 := Lib.hid hJx3
        clear hJx3 hy HRR
        gi_wp2
        refine bodyPost_ret (results_none rfl _ _ _) rfl ?_
        exact ⟨⟨_, rfl⟩, Or.inr ⟨_, HP.out, HX3.out⟩⟩
    · obtain rfl : i = 16 := by omega
      clear hlt
      gi_wp2
      go_end0
      refine ⟨⟨_, rfl⟩, Or.inl ⟨_, rfl, ?_⟩⟩
      have := HJ.out
      rw [List.take_of_length_le (by omega)] at this
      exact this

set_option maxRecDepth 100000 in
set_option maxHeartbeats 8000000 in
theorem dirof_any (s : ByteArray) (w : World) : Calls Tryz.prog 190 #[.string s] w fun e w' => e = .returned (.func (.func 207) #[] #[.pointer (some ⟨w.heap.size, 0, none⟩)]) ∧ w' = w.alloc (.cells #[.string s] 9) := by
  have hmf : ∀ (fn : Fn) (first cap : Array Value) (w : World), (Instr.makeFunc fn first cap).run Tryz.prog w = .ok (.func fn first cap) w := fun _ _ _ _ => rfl
  go_enter Tryz.func190, Tryz.ntmps190
  go_wp2
  go_ret
  exact ⟨rfl, rfl⟩

end Go.Proofs.YtccpdkjonepoiaaGreatDoor

/- Walks: a directory's table: Find. -/
namespace Go.Proofs.YtccpdkjonepoiaaGreatDoor
open Go.RowKit Go.Shelf

attribute [local go_sem] Oper.semAt_some

def numO : Option (Fin 16) → Int
  | some j => ((j.val : Nat) : Int)
  | none => -1
/-- does a name stand at a place? -/
def hasT (T : Gd.Tab) (s : List UInt8) (j : Fin 16) : Bool := decide ((Gd.entAt T j.val).s = s) && !s.isEmpty

set_option maxRecDepth 100000 in
set_option maxHeartbeats 8000000 in
theorem tfind_in (T : Gd.Tab) (hT : T.length = 16) (s : ByteArray) (hs : s.size ≤ 100000) (hne : s.data.toList ≠ []) (h : Nat) (hh : (h : Int) = hashV s.data.toList) (w : World) :
    CallsIn Fence.wide 6 Tryz.prog 167 #[tabV T, .string s] w fun e W' => e = .returned (.int .i64 (numO (Gd.findT T s.data.toList h))) ∧ Below w.heap.size w W' := by
  have h16 : h < 16 := by have := hashV_lt s.data.toList; omega
  have hmf : ∀ (fn : Fn) (first cap : Array Value) (w : World), (Instr.makeFunc fn first cap).run Tryz.prog w = .ok (.func fn first cap) w := fun _ _ _ _ => rfl
  have HOf : Hid (∀ V, CallsIn Fence.wide 5 Tryz.prog 190 #[.string s] V fun e w' => e = .returned (.func (.func 207) #[] #[.pointer (some ⟨V.heap.size, 0, none⟩)]) ∧ w' = V.alloc (.cells #[.string s] 9)) := Lib.hid fun V => callsIn_wide.2 (dirof_any s V)
  have HNe : Hid (s.toList.isEmpty = false) := Lib.hid (by rw [Lib.toList_data]; cases hl : s.data.toList with | nil => exact absurd hl hne | cons a r => rfl)
  refine callsIn_of_wp_marks Tryz.func167 rfl trivial ?_ rfl
  simp only [Tryz.ntmps167, List.size_toArray, List.length_cons, List.length_nil, Nat.reduceAdd, Nat.reduceSub, Array.replicate_succ, Array.replicate_zero, List.push_toArray, List.append_toArray, List.nil_append, List.cons_append]
  unfold tabV
  have HH := Lib.hid (And.intro hT (And.intro hs (And.intro hh h16)))
  clear hT hs hne hh h16 hmf
  gi_wp2
  refine ⟨trivial, (HOf.out _).mono ?_⟩
  rintro e W0 ⟨rfl, hW0⟩
  have c0 : CellsAt W0 w.heap.size 194 (tabC T) := by rw [hW0]; exact (((CellsAt.alloc (heap_alloc_new w _) _).alloc _).alloc _)
  have c1 : CellsAt W0 (w.heap.size + 1) 9 #[.string s] := by rw [hW0]; have := heap_alloc_new (w.alloc (.cells (tabC T) 194)) (.cells #[.string s] 9); rw [World.size_alloc] at this; exact (CellsAt.alloc this _).alloc _
  have c2 : CellsAt W0 (w.heap.size + 1 + 1) 3 #[.int .i64 0] := by rw [hW0]; have := heap_alloc_new ((w.alloc (.cells (tabC T) 194)).alloc (.cells #[.string s] 9)) (.cells #[.int .i64 0] 3); rw [World.size_alloc, World.size_alloc] at this; exact CellsAt.alloc this _
  have c3 : CellsAt W0 (w.heap.size + 3) 9 #[.string s] := by rw [hW0]; have := heap_alloc_new (((w.alloc (.cells (tabC T) 194)).alloc (.cells #[.string s] 9)).alloc (.cells #[.int .i64 0] 3)) (.cells #[.string s] 9); rw [World.size_alloc, World.size_alloc, World.size_alloc] at this; exact this
  have hB0 : Below w.heap.size w W0 := by rw [hW0]; exact ((((Below.refl _ w).alloc (Nat.le_refl _) _).alloc (by simp) _).alloc (by simp; omega) _).alloc (by simp; omega) _
  have hsz : W0.heap.size = w.heap.size + 4 := by rw [hW0]; simp
  have hnb : (((w.alloc (.cells (tabC T) 194)).alloc (.cells #[.string s] 9)).alloc (.cells #[.int .i64 0] 3)).heap.size = w.heap.size + 3 := by simp
  rw [hnb]
  clear hW0 hnb HOf
  gi_wp2
  refine wpIn_rangeFunc_ownH rfl (by omega) (gf := 207) (lb := #[.pointer (some ⟨w.heap.size + 3, 0, none⟩)]) rfl trivial (enters_of Tryz.func207 (by kernel_rfl) rfl)
    (of_stops Fence.wide (6 - 1) rfl (by omega) (w.heap.size + 3) s HH.out.2.1 h HH.out.2.2.1 HH.out.2.2.2 (KeepsC 0) W0 (cell_of_row W0 _ 0 _ _ _ c3) c3.lt) (keepsC_t 0) (keepsC_b 0 (w := W0)) (Below.refl _ _) (fun _ => rfl)
    (fun (pre : List (Fin 16)) W => ((((∀ j ∈ pre, hasT T s.data.toList j = false) ∧ CellsAt W w.heap.size 194 (tabC T)) ∧ CellsAt W (w.heap.size + 1) 9 #[.string s]) ∧ CellsAt W (w.heap.size + 1 + 1) 3 #[.int .i64 0]) ∧ Below w.heap.size w W)
    (fun c (pre : List (Fin 16)) W => (c = .ret ∧ (∃ (q : List (Fin 16)) (j : Fin 16), (pre = q ++ [j] ∧ (∀ r ∈ q, hasT T s.data.toList r = false) ∧ hasT T s.data.toList j = true) ∧ CellsAt W (w.heap.size + 1 + 1) 3 #[.int .i64 (j.val : Nat)])) ∧ Below w.heap.size w W)
    ?o1 ?o2 ?o3
    (fun (x : Fin 16) a' W => a' = { tmps := #[.agg (tabC T), .string s, .pointer (some ⟨w.heap.size, 0, none⟩), .pointer (some ⟨w.heap.size + 1, 0, none⟩), .pointer (some ⟨w.heap.size + 1 + 1, 0, none⟩), .int .i64 (x.val : Nat), .string s, .func (.func 207) #[] #[.pointer (some ⟨w.heap.size + 3, 0, none⟩)], .int .i64 (x.val : Nat), undef, undef, undef, undef, undef, undef, undef, undef, undef, undef, undef], defers := [] })
    ?o4 ?assign ?body ?done ?stop
  case o1 => exact OwnFrom.and (OwnFrom.and (OwnFrom.and (OwnFrom.and (ownFrom_pure _ _) (Own.from (cellsAt_own _ _ _) _)) (Own.from (cellsAt_own _ _ _) _)) (Own.from (cellsAt_own _ _ _) _)) (ownFrom_below (Nat.le_refl _) (by omega))
  case o2 =>
    refine fun c => OwnFrom.and (OwnFrom.and (ownFrom_pure _ _) ?_) (ownFrom_below (Nat.le_refl _) (by omega))
    rintro s X Y row ⟨q, p, hp, hc⟩ hg hr
    exact ⟨q, p, hp, cellsAt_own _ _ (fun (_ : Unit) => #[Value.int .i64 (p.val : Nat)]) () X Y row hc hg (fun r e => (hr r e).2)⟩
  case o4 =>
    rintro x a' _ X Y row h hg hr
    exact h
  case o3 => exact ⟨⟨⟨⟨by simp, c0⟩, c1⟩, c2⟩, hB0⟩
  case assign =>
    rintro l pre x W K ⟨⟨⟨⟨hp, q0⟩, q1⟩, q2⟩, hB1⟩ hK
    have HK := Lib.hid hK
    have HP := Lib.hid (And.intro hp (And.intro q0 (And.intro q1 (And.intro q2 hB1))))
    clear hK hp q0 q1 q2 hB1
    gi_wp2
    exact HK.out _ _ (KeepsFrom.refl _ _) (keepsC_r _ _) ⟨⟨⟨⟨HP.out.1, HP.out.2.1⟩, HP.out.2.2.1⟩, HP.out.2.2.2.1⟩, HP.out.2.2.2.2⟩ rfl
  case body =>
    rintro l pre x a' W hl ⟨r, hr⟩ ⟨⟨⟨⟨hp, q0⟩, q1⟩, q2⟩, hB1⟩ rfl hlt
    have HP := Lib.hid (And.intro hp (And.intro q0 (And.intro q1 (And.intro q2 hB1))))
    have HB := Lib.hid hB1
    obtain ⟨e, he⟩ : ∃ e, e = Gd.entAt T x.val := ⟨_, rfl⟩
    have hge := Gd.entAt_get HH.out.1 x.isLt
    rw [← he] at hge
    obtain ⟨x0, -⟩ := tab_cells q0 hge
    obtain ⟨k, hk⟩ : ∃ k : Nat, k = x.val := ⟨_, rfl⟩
    rw [← hk] at x0
    rw [← hk]
    have hk16 : (k : Int) < 16 := by have := x.isLt; omega
    have hk0 : (0 : Int) ≤ k := by omega
    obtain ⟨es, hes⟩ : ∃ es : ByteArray, es = ⟨e.s.toArray⟩ := ⟨_, rfl⟩
    rw [← hes] at x0
    have xs := cell_of_row W _ 0 _ _ _ q1
    have y0 := cell_of_row W _ 0 _ _ _ q2
    have z0 := frozen_of_row W _ 0 _ _ q2
    have HE : Hid (hasT T s.data.toList x = (es.toList == s.toList)) := Lib.hid (by
      unfold hasT
      rw [← he, hes]
      have h1 := HNe.out
      rw [Lib.toList_data] at h1
      rw [h1, Bool.not_false, Bool.and_true, Bool.eq_iff_iff, decide_eq_true_iff, beq_iff_eq, Lib.toList_data, Lib.toList_data])
    have Hk := Lib.hid hk
    have hne := HNe.out
    cases hm : (es.toList == s.toList) with
    | true =>
      rw [hm] at HE
      clear hl hr hp q0 q1 q2 hB1 hlt hge he hes hk
      gi_wp2
      gi_region
      all_goals
        gi_wp2
        refine ⟨((KeepsOthers.setCell W ⟨w.heap.size + 1 + 1, 0, none⟩ (.int .i64 k)).trans (KeepsOthers.drew _)).from _, ⟨rfl, pre, x, ⟨rfl, HP.out.1, HE.out⟩, ?_⟩, (HB.out.setCell (show w.heap.size ≤ w.heap.size + 1 + 1 by omega) _).drew⟩
        rw [← Hk.out]
        exact Go.heap_setCell_same W _ 0 _ _ (.int .i64 k) HP.out.2.2.2.1
    | false =>
      rw [hm] at HE
      clear hl hr hp q0 q1 q2 hB1 hlt hge he hes hk
      gi_wp2
      gi_region
      all_goals
        gi_wp2
        exact ⟨(KeepsOthers.drew W).from _, fun j _ c t fr h => h, ⟨⟨⟨fun j hj => (List.mem_append.1 hj).elim (HP.out.1 j) (fun e => by rw [List.mem_singleton.1 e]; exact HE.out), HP.out.2.1⟩, HP.out.2.2.1⟩, HP.out.2.2.2.1⟩, HB.out.drew⟩
  case done =>
    rintro D zs W hD rfl ⟨⟨⟨⟨hp, q0⟩, q1⟩, q2⟩, hB1⟩ hK
    have HN : Hid (Gd.findT T s.data.toList h = none) := Lib.hid (List.find?_eq_none.2 fun j hj => by
      have := hp j hj
      unfold hasT at this
      rw [this]
      decide)
    have y0 := cell_of_row W _ 0 _ _ _ q2
    have z0 := frozen_of_row W _ 0 _ _ q2
    have HK := Lib.hid (And.intro hD (And.intro q2 (And.intro hB1 hK)))
    clear hp q0 q1 q2 hB1 hK
    gi_wp2
    obtain ⟨V, hV⟩ : ∃ V, V = W.setCell ⟨w.heap.size + 1 + 1, 0, none⟩ (.int .i64 (-1)) := ⟨_, rfl⟩
    rw [← hV]
    have v2 : CellsAt V (w.heap.size + 1 + 1) 3 #[.int .i64 (-1)] := by rw [hV]; exact Go.heap_setCell_same W _ 0 _ _ (.int .i64 (-1)) HK.out.2.1
    have vk : V.heap[D]? = some (.deferred (some [])) := by rw [hV]; exact (Go.heap_setCell_other W ⟨w.heap.size + 1 + 1, 0, none⟩ _ _ (show D ≠ w.heap.size + 1 + 1 by omega)).trans HK.out.2.2.2
    have vb : Below w.heap.size w V := by rw [hV]; exact HK.out.2.2.1.setCell (show w.heap.size ≤ w.heap.size + 1 + 1 by omega) _
    clear hV y0 z0
    have e2 : CellsAt (V.putObj D (.deferred none)) (w.heap.size + 1 + 1) 3 _ := (World.putObj_heap_other (show w.heap.size + 1 + 1 ≠ D by omega)).trans v2
    have y0 := cell_of_row _ _ 0 _ _ _ e2
    refine ⟨by simp, .inl ⟨_, _, rfl, run_takeDeferred vk, ?_⟩⟩
    refine ⟨.int .i64 (-1), ?_, by rw [HN.out]; rfl, vb.trans ?_⟩
    · simp [results, Tryz.f167, go_sem, y0]
    · exact belowK_b (w := w) (Nat.le_refl _) _ D _ _ (by omega) vk rfl rfl
  case stop =>
    rintro D c pre W hD hpre ⟨⟨rfl, q, j, ⟨rfl, hq, hj⟩, q2⟩, hB1⟩ hK
    have HF : Hid (Gd.findT T s.data.toList h = some j) := Lib.hid (by
      obtain ⟨r, hr⟩ := hpre
      unfold Gd.findT
      rw [← hr, List.append_assoc, List.find?_append, List.find?_eq_none.2 (fun k hk => by
        have := hq k hk
        unfold hasT at this
        rw [this]
        decide)]
      unfold hasT at hj
      rw [List.singleton_append, List.find?_cons, hj]
      rfl)
    gi_wp2
    have e2 : CellsAt (W.putObj D (.deferred none)) (w.heap.size + 1 + 1) 3 _ := (World.putObj_heap_other (show w.heap.size + 1 + 1 ≠ D by omega)).trans q2
    have y0 := cell_of_row _ _ 0 _ _ _ e2
    refine ⟨by simp, .inl ⟨_, _, rfl, run_takeDeferred hK, ?_⟩⟩
    refine ⟨.int .i64 (j.val : Nat), ?_, by rw [HF.out]; rfl, hB1.trans ?_⟩
    · simp [results, Tryz.f167, go_sem, y0]
    · exact belowK_b (w := w) (Nat.le_refl _) _ D _ _ (by omega) hK rfl rfl

theorem tfind_any (T : Gd.Tab) (hT : T.length = 16) (s : ByteArray) (hs : s.size ≤ 100000) (hne : s.data.toList ≠ []) (h : Nat) (hh : (h : Int) = hashV s.data.toList) (w : World) :
    Calls Tryz.prog 167 #[tabV T, .string s] w fun e W' => e = .returned (.int .i64 (numO (Gd.findT T s.data.toList h))) ∧ Below w.heap.size w W' :=
  callsIn_wide.1 (tfind_in T hT s hs hne h hh w)

end Go.Proofs.YtccpdkjonepoiaaGreatDoor

/- Walks: a directory's table: Place. -/
namespace Go.Proofs.YtccpdkjonepoiaaGreatDoor
open Go.RowKit Go.Shelf

attribute [local go_sem] Oper.semAt_some

/-- is a place free? -/
def isNo (T : Gd.Tab) (j : Fin 16) : Bool := decide (Gd.entAt T j.val = Gd.noEnt)

set_option maxRecDepth 100000 in
set_option maxHeartbeats 8000000 in
theorem tplace_in (T : Gd.Tab) (hOk : Gd.TabOk T) (s : ByteArray) (hs : s.size ≤ 100000) (h : Nat) (hh : (h : Int) = hashV s.data.toList) (w : World) :
    CallsIn Fence.wide 6 Tryz.prog 170 #[tabV T, .string s] w fun e W' => e = .returned (.int .i64 (numO (Gd.placeT T h))) ∧ Below w.heap.size w W' := by
  have h16 : h < 16 := by have := hashV_lt s.data.toList; omega
  have hmf : ∀ (fn : Fn) (first cap : Array Value) (w : World), (Instr.makeFunc fn first cap).run Tryz.prog w = .ok (.func fn first cap) w := fun _ _ _ _ => rfl
  have HOf : Hid (∀ V, CallsIn Fence.wide 5 Tryz.prog 190 #[.string s] V fun e w' => e = .returned (.func (.func 207) #[] #[.pointer (some ⟨V.heap.size, 0, none⟩)]) ∧ w' = V.alloc (.cells #[.string s] 9)) := Lib.hid fun V => callsIn_wide.2 (dirof_any s V)
  have hT := hOk.len
  have HOk := Lib.hid hOk
  refine callsIn_of_wp_marks Tryz.func170 rfl trivial ?_ rfl
  simp only [Tryz.ntmps170, List.size_toArray, List.length_cons, List.length_nil, Nat.reduceAdd, Nat.reduceSub, Array.replicate_succ, Array.replicate_zero, List.push_toArray, List.append_toArray, List.nil_append, List.cons_append]
  unfold tabV
  have HH := Lib.hid (And.intro hT (And.intro hs (And.intro hh h16)))
  clear hT hs hOk hh h16 hmf
  gi_wp2
  refine ⟨trivial, (HOf.out _).mono ?_⟩
  rintro e W0 ⟨rfl, hW0⟩
  have c0 : CellsAt W0 w.heap.size 194 (tabC T) := by rw [hW0]; exact ((CellsAt.alloc (heap_alloc_new w _) _).alloc _)
  have c2 : CellsAt W0 (w.heap.size + 1) 3 #[.int .i64 0] := by rw [hW0]; have := heap_alloc_new (w.alloc (.cells (tabC T) 194)) (.cells #[.int .i64 0] 3); rw [World.size_alloc] at this; exact CellsAt.alloc this _
  have c3 : CellsAt W0 (w.heap.size + 2) 9 #[.string s] := by rw [hW0]; have := heap_alloc_new ((w.alloc (.cells (tabC T) 194)).alloc (.cells #[.int .i64 0] 3)) (.cells #[.string s] 9); rw [World.size_alloc, World.size_alloc] at this; exact this
  have hB0 : Below w.heap.size w W0 := by rw [hW0]; exact (((Below.refl _ w).alloc (Nat.le_refl _) _).alloc (by simp) _).alloc (by simp; omega) _
  have hsz : W0.heap.size = w.heap.size + 3 := by rw [hW0]; simp
  have hnb : ((w.alloc (.cells (tabC T) 194)).alloc (.cells #[.int .i64 0] 3)).heap.size = w.heap.size + 2 := by simp
  rw [hnb]
  clear hW0 hnb HOf
  gi_wp2
  refine wpIn_rangeFunc_ownH rfl (by omega) (gf := 207) (lb := #[.pointer (some ⟨w.heap.size + 2, 0, none⟩)]) rfl trivial (enters_of Tryz.func207 (by kernel_rfl) rfl)
    (of_stops Fence.wide (6 - 1) rfl (by omega) (w.heap.size + 2) s HH.out.2.1 h HH.out.2.2.1 HH.out.2.2.2 (KeepsC 0) W0 (cell_of_row W0 _ 0 _ _ _ c3) c3.lt) (keepsC_t 0) (keepsC_b 0 (w := W0)) (Below.refl _ _) (fun _ => rfl)
    (fun (pre : List (Fin 16)) W => (((∀ j ∈ pre, isNo T j = false) ∧ CellsAt W w.heap.size 194 (tabC T)) ∧ CellsAt W (w.heap.size + 1) 3 #[.int .i64 0]) ∧ Below w.heap.size w W)
    (fun c (pre : List (Fin 16)) W => (c = .ret ∧ (∃ (q : List (Fin 16)) (j : Fin 16), (pre = q ++ [j] ∧ (∀ r ∈ q, isNo T r = false) ∧ isNo T j = true) ∧ CellsAt W (w.heap.size + 1) 3 #[.int .i64 (j.val : Nat)])) ∧ Below w.heap.size w W)
    ?o1 ?o2 ?o3
    (fun (x : Fin 16) a' W => a' = { tmps := #[.agg (tabC T), .string s, .pointer (some ⟨w.heap.size, 0, none⟩), undef, .pointer (some ⟨w.heap.size + 1, 0, none⟩), .int .i64 (x.val : Nat), .string s, .func (.func 207) #[] #[.pointer (some ⟨w.heap.size + 2, 0, none⟩)], .int .i64 (x.val : Nat), undef, undef, undef, undef, undef, undef], defers := [] })
    ?o4 ?assign ?body ?done ?stop
  case o1 => exact OwnFrom.and (OwnFrom.and (OwnFrom.and (ownFrom_pure _ _) (Own.from (cellsAt_own _ _ _) _)) (Own.from (cellsAt_own _ _ _) _)) (ownFrom_below (Nat.le_refl _) (by omega))
  case o2 =>
    refine fun c => OwnFrom.and (OwnFrom.and (ownFrom_pure _ _) ?_) (ownFrom_below (Nat.le_refl _) (by omega))
    rintro s X Y row ⟨q, p, hp, hc⟩ hg hr
    exact ⟨q, p, hp, cellsAt_own _ _ (fun (_ : Unit) => #[Value.int .i64 (p.val : Nat)]) () X Y row hc hg (fun r e => (hr r e).2)⟩
  case o4 =>
    rintro x a' _ X Y row h hg hr
    exact h
  case o3 => exact ⟨⟨⟨by simp, c0⟩, c2⟩, hB0⟩
  case assign =>
    rintro l pre x W K ⟨⟨⟨hp, q0⟩, q2⟩, hB1⟩ hK
    have HK := Lib.hid hK
    have HP := Lib.hid (And.intro hp (And.intro q0 (And.intro q2 hB1)))
    clear hK hp q0 q2 hB1
    gi_wp2
    exact HK.out _ _ (KeepsFrom.refl _ _) (keepsC_r _ _) ⟨⟨⟨HP.out.1, HP.out.2.1⟩, HP.out.2.2.1⟩, HP.out.2.2.2⟩ rfl
  case body =>
    rintro l pre x a' W hl ⟨r, hr⟩ ⟨⟨⟨hp, q0⟩, q2⟩, hB1⟩ rfl hlt
    have HP := Lib.hid (And.intro hp (And.intro q0 (And.intro q2 hB1)))
    have HB := Lib.hid hB1
    obtain ⟨e, he⟩ : ∃ e, e = Gd.entAt T x.val := ⟨_, rfl⟩
    have hge := Gd.entAt_get HH.out.1 x.isLt
    rw [← he] at hge
    have hem := Gd.entAt_may HOk.out x.val
    rw [← he] at hem
    obtain ⟨x0, x1⟩ := tab_cells q0 hge
    obtain ⟨k, hk⟩ : ∃ k : Nat, k = x.val := ⟨_, rfl⟩
    rw [← hk] at x0 x1
    rw [← hk]
    have hk16 : (k : Int) < 16 := by have := x.isLt; omega
    have hk0 : (0 : Int) ≤ k := by omega
    obtain ⟨es, hes⟩ : ∃ es : ByteArray, es = ⟨e.s.toArray⟩ := ⟨_, rfl⟩
    rw [← hes] at x0
    obtain ⟨ei, hei⟩ : ∃ ei, ei = e.i := ⟨_, rfl⟩
    rw [← hei] at x1
    have y0 := cell_of_row W _ 0 _ _ _ q2
    have z0 := frozen_of_row W _ 0 _ _ q2
    have Hk := Lib.hid hk
    have HE : Hid (isNo T x = decide (e = Gd.noEnt)) := Lib.hid (by unfold isNo; rw [he])
    by_cases hno : e = Gd.noEnt
    · have hi0 : ei = 0 := by rw [hei, hno]; rfl
      have hs0 : es.toList.isEmpty = true := by rw [hes, hno, Lib.toList_data]; rfl
      rw [decide_eq_true hno] at HE
      subst hi0
      clear hl hr hp q0 q2 hB1 hlt hge he hes hk hem hno hei
      gi_wp2
      refine ⟨(KeepsOthers.setCell W ⟨w.heap.size + 1, 0, none⟩ (.int .i64 k)).from _, ⟨rfl, pre, x, ⟨rfl, HP.out.1, HE.out⟩, ?_⟩, HB.out.setCell (show w.heap.size ≤ w.heap.size + 1 by omega) _⟩
      rw [← Hk.out]
      exact Go.heap_setCell_same W _ 0 _ _ (.int .i64 k) HP.out.2.2.1
    · have hs0 : es.toList.isEmpty = false := by
        rcases hem with h1 | ⟨h1, -⟩
        · exact absurd h1 hno
        · have h2 := Np.name_ne h1
          rw [hes, Lib.toList_data]
          cases hl2 : e.s with
          | nil => exact absurd hl2 h2
          | cons a r => simp
      rw [decide_eq_false hno] at HE
      clear hl hr hp q0 q2 hB1 hlt hge he hes hk hem hno hei
      gi_wp2
      exact ⟨KeepsFrom.refl _ _, keepsC_r _ _, ⟨⟨fun j hj => (List.mem_append.1 hj).elim (HP.out.1 j) (fun e => by rw [List.mem_singleton.1 e]; exact HE.out), HP.out.2.1⟩, HP.out.2.2.1⟩, HB.out⟩
  case done =>
    rintro D zs W hD rfl ⟨⟨⟨hp, q0⟩, q2⟩, hB1⟩ hK
    have HN : Hid (Gd.placeT T h = none) := Lib.hid (List.find?_eq_none.2 fun j hj => by
      have := hp j hj
      unfold isNo at this
      rw [this]
      decide)
    have y0 := cell_of_row W _ 0 _ _ _ q2
    have z0 := frozen_of_row W _ 0 _ _ q2
    have HK := Lib.hid (And.intro hD (And.intro q2 (And.intro hB1 hK)))
    clear hp q0 q2 hB1 hK
    gi_wp2
    obtain ⟨V, hV⟩ : ∃ V, V = W.setCell ⟨w.heap.size + 1, 0, none⟩ (.int .i64 (-1)) := ⟨_, rfl⟩
    rw [← hV]
    have v2 : CellsAt V (w.heap.size + 1) 3 #[.int .i64 (-1)] := by rw [hV]; exact Go.heap_setCell_same W _ 0 _ _ (.int .i64 (-1)) HK.out.2.1
    have vk : V.heap[D]? = some (.deferred (some [])) := by rw [hV]; exact (Go.heap_setCell_other W ⟨w.heap.size + 1, 0, none⟩ _ _ (show D ≠ w.heap.size + 1 by omega)).trans HK.out.2.2.2
    have vb : Below w.heap.size w V := by rw [hV]; exact HK.out.2.2.1.setCell (show w.heap.size ≤ w.heap.size + 1 by omega) _
    clear hV y0 z0
    have e2 : CellsAt (V.putObj D (.deferred none)) (w.heap.size + 1) 3 _ := (World.putObj_heap_other (show w.heap.size + 1 ≠ D by omega)).trans v2
    have y0 := cell_of_row _ _ 0 _ _ _ e2
    refine ⟨by simp, .inl ⟨_, _, rfl, run_takeDeferred vk, ?_⟩⟩
    refine ⟨.int .i64 (-1), ?_, by rw [HN.out]; rfl, vb.trans ?_⟩
    · simp [results, Tryz.f170, go_sem, y0]
    · exact belowK_b (w := w) (Nat.le_refl _) _ D _ _ (by omega) vk rfl rfl
  case stop =>
    rintro D c pre W hD hpre ⟨⟨rfl, q, j, ⟨rfl, hq, hj⟩, q2⟩, hB1⟩ hK
    have HF : Hid (Gd.placeT T h = some j) := Lib.hid (by
      obtain ⟨r, hr⟩ := hpre
      unfold Gd.placeT
      rw [← hr, List.append_assoc, List.find?_append, List.find?_eq_none.2 (fun k hk => by
        have := hq k hk
        unfold isNo at this
        rw [this]
        decide)]
      unfold isNo at hj
      rw [List.singleton_append, List.find?_cons, hj]
      rfl)
    gi_wp2
    have e2 : CellsAt (W.putObj D (.deferred none)) (w.heap.size + 1) 3 _ := (World.putObj_heap_other (show w.heap.size + 1 ≠ D by omega)).trans q2
    have y0 := cell_of_row _ _ 0 _ _ _ e2
    refine ⟨by simp, .inl ⟨_, _, rfl, run_takeDeferred hK, ?_⟩⟩
    refine ⟨.int .i64 (j.val : Nat), ?_, by rw [HF.out]; rfl, hB1.trans ?_⟩
    · simp [results, Tryz.f170, go_sem, y0]
    · exact belowK_b (w := w) (Nat.le_refl _) _ D _ _ (by omega) hK rfl rfl

theorem tplace_any (T : Gd.Tab) (hOk : Gd.TabOk T) (s : ByteArray) (hs : s.size ≤ 100000) (h : Nat) (hh : (h : Int) = hashV s.data.toList) (w : World) :
    Calls Tryz.prog 170 #[tabV T, .string s] w fun e W' => e = .returned (.int .i64 (numO (Gd.placeT T h))) ∧ Below w.heap.size w W' :=
  callsIn_wide.1 (tplace_in T hOk s hs h hh w)

end Go.Proofs.YtccpdkjonepoiaaGreatDoor

/- Walks: a directory's table: Set, is, Used$1, May. -/
namespace Go.Proofs.YtccpdkjonepoiaaGreatDoor
open Go.RowKit Go.Shelf

attribute [local go_sem] Oper.semAt_some

def entV (e : Gd.Ent) : Value := .agg #[.string ⟨e.s.toArray⟩, .int .i64 e.i]
theorem dis_any (k : Int) (w : World) : Calls Tryz.prog 209 #[.int .i64 k] w fun e w' => e = .returned (.bool (decide (0 ≤ k) && decide (k < 4))) ∧ w' = w := by
  go_enter Tryz.func209, Tryz.ntmps209
  by_cases h0 : 0 ≤ k
  · by_cases h4 : k < 4
    · go_wp2
      go_ret
      exact ⟨ret_bool (by simp [h0, h4]), rfl⟩
    · go_wp2
      go_ret
      exact ⟨ret_bool (by simp [h0, h4]), rfl⟩
  · go_wp2
    go_ret
    exact ⟨ret_bool (by simp; omega), rfl⟩

theorem ent_ne {e : Gd.Ent} (h : e ≠ Gd.noEnt) : e.i ≠ 0 ∨ e.s ≠ [] := by
  obtain ⟨s, i⟩ := e
  by_cases hi : i = 0
  · right
    intro hs
    apply h
    show Gd.Ent.mk s i = ⟨[], 0⟩
    rw [show s = [] from hs, hi]
  · exact Or.inl hi
theorem isEmpty_ne {s : List UInt8} (h : s ≠ []) : (⟨s.toArray⟩ : ByteArray).toList.isEmpty = false := by
  rw [Lib.toList_data]
  cases s with
  | nil => exact absurd rfl h
  | cons a r => rfl

set_option maxRecDepth 100000 in
set_option maxHeartbeats 4000000 in
theorem used1_any (e : Gd.Ent) (w : World) : Calls Tryz.prog 212 #[entV e] w fun x w' => x = .returned (.bool (decide (e ≠ Gd.noEnt))) ∧ Below w.heap.size w w' := by
  unfold entV
  obtain ⟨es, hes⟩ : ∃ es : ByteArray, es = ⟨e.s.toArray⟩ := ⟨_, rfl⟩
  obtain ⟨ei, hei⟩ : ∃ ei, ei = e.i := ⟨_, rfl⟩
  rw [← hes, ← hei]
  by_cases hno : e = Gd.noEnt
  · have hi0 : ei = 0 := by rw [hei, hno]; rfl
    have hs0 : es.toList.isEmpty = true := by rw [hes, hno, Lib.toList_data]; rfl
    have HD : Hid (decide (e ≠ Gd.noEnt) = false) := Lib.hid (by simp [hno])
    subst hi0
    clear hno hes hei
    go_enter Tryz.func212, Tryz.ntmps212
    go_wp2
    go_ret
    exact ⟨ret_bool HD.out.symm, (Below.refl _ _).alloc (Nat.le_refl _) _⟩
  · have HD : Hid (decide (e ≠ Gd.noEnt) = true) := Lib.hid (by simp [hno])
    rcases ent_ne hno with h | h
    · have hi : (ei : Int) ≠ 0 := by omega
      have hi' : ¬ ei = 0 := by omega
      clear hno hes hei h
      go_enter Tryz.func212, Tryz.ntmps212
      go_wp2
      go_ret
      exact ⟨ret_bool HD.out.symm, (Below.refl _ _).alloc (Nat.le_refl _) _⟩
    · have hs0 := isEmpty_ne h
      rw [← hes] at hs0
      clear hno hes hei h
      go_enter Tryz.func212, Tryz.ntmps212
      go_wp2
      go_ret
      exact ⟨ret_bool HD.out.symm, (Below.refl _ _).alloc (Nat.le_refl _) _⟩

/-- may an entry be? -/
def mayE (e : Gd.Ent) : Bool := decide (e = Gd.noEnt) || (Np.nameB e.s && (decide (1 ≤ e.i) && decide (e.i ≤ 32)))
theorem mayE_iff (e : Gd.Ent) : mayE e = true ↔ e.May := by
  unfold mayE Gd.Ent.May
  simp

set_option maxRecDepth 100000 in
set_option maxHeartbeats 4000000 in
theorem emay_any (e : Gd.Ent) (hl : e.s.length ≤ 100000) (hi9 : e.i ≤ 100000) (w : World) : Calls Tryz.prog 213 #[entV e] w fun x w' => x = .returned (.bool (mayE e)) ∧ Below w.heap.size w w' := by
  unfold entV
  have HMy := Lib.hid fun W => may_any ⟨e.s.toArray⟩ W (by rw [Lib.size_eq]; show e.s.length ≤ _; omega)
  rw [show (⟨e.s.toArray⟩ : ByteArray).data.toList = e.s from rfl] at HMy
  obtain ⟨es, hes⟩ : ∃ es : ByteArray, es = ⟨e.s.toArray⟩ := ⟨_, rfl⟩
  obtain ⟨ei, hei⟩ : ∃ ei, ei = e.i := ⟨_, rfl⟩
  rw [← hes, ← hei]
  rw [← hes] at HMy
  rw [← hei] at hi9
  obtain ⟨bn, hbn⟩ : ∃ g, g = Np.nameB e.s := ⟨_, rfl⟩
  rw [← hbn] at HMy
  obtain ⟨wb, hwb⟩ : ∃ u, u = w.alloc (.cells #[.string es, .int .i64 ei] 192) := ⟨_, rfl⟩
  have hrow : wb.heap[w.heap.size]? = some (.cells #[.string es, .int .i64 ei] 192 (0, 0)) := by rw [hwb]; exact heap_alloc_new _ _
  have HBb : Hid (Below w.heap.size w wb) := Lib.hid (by rw [hwb]; exact (Below.refl _ _).alloc (Nat.le_refl _) _)
  have Hwb := Lib.hid hwb
  have c0 : wb.cell? ⟨w.heap.size, 0, none⟩ = some (.string es) := cell_of_row _ _ 0 _ _ _ hrow
  have c1 : wb.cell? ⟨w.heap.size, 1, none⟩ = some (.int .i64 ei) := cell_of_row _ _ 1 _ _ _ hrow
  have HRow := Lib.hid hrow
  clear hrow hwb
  by_cases hno : e = Gd.noEnt
  · have hi0 : ei = 0 := by rw [hei, hno]; rfl
    have hs0 : es.toList.isEmpty = true := by rw [hes, hno, Lib.toList_data]; rfl
    have HD : Hid (mayE e = true) := Lib.hid (by simp [mayE, hno])
    have Hi0 := Lib.hid hi0
    clear hno hes hei hbn hi0
    go_enter Tryz.func213, Tryz.ntmps213
    go_upto_region 1 with fail
    rw [← Hwb.out]
    obtain rfl := Hi0.out
    go_wp2_with fail
    go_ret
    exact ⟨ret_bool HD.out.symm, HBb.out⟩
  · have HD : Hid (mayE e = (bn && (decide (1 ≤ ei) && decide (ei ≤ 32)))) := Lib.hid (by unfold mayE; rw [decide_eq_false hno, hbn, hei]; rfl)
    have hne : (ei : Int) ≠ 0 ∨ es.toList.isEmpty = false := by
      rcases ent_ne hno with h | h
      · exact Or.inl (by omega)
      · exact Or.inr (by rw [hes]; exact isEmpty_ne h)
    clear hno hes hei hbn
    have hkeep : ∀ W : World, Below wb.heap.size wb W → W.cell? ⟨w.heap.size, 1, none⟩ = some (.int .i64 ei) := fun W hb => (hb.cell (p := ⟨w.heap.size, 1, none⟩) (lt_get HRow.out)).trans c1
    have HKp := Lib.hid hkeep
    clear hkeep
    rcases hne with h | h
    all_goals
      cases bn with
      | false =>
        go_enter Tryz.func213, Tryz.ntmps213
        go_upto_region 1 with fail
        rw [← Hwb.out]
        go_wp2_with (go_at_call 166; refine (HMy.out _).mono ?_; rintro x w2 ⟨rfl, hb2⟩; have d1 := HKp.out _ hb2; have HB2 := Lib.hid (HBb.out.trans (hb2.mono HBb.out.size)); clear hb2)
        go_ret
        exact ⟨ret_bool (by rw [HD.out]; rfl), HB2.out⟩
      | true =>
        by_cases h1 : 1 ≤ ei
        · by_cases h32 : ei ≤ 32
          · have g1 : (1 : Int) ≤ ei := by omega
            have g2 : (ei : Int) ≤ 32 := by omega
            go_enter Tryz.func213, Tryz.ntmps213
            go_upto_region 1 with fail
            rw [← Hwb.out]
            go_wp2_with (go_at_call 166; refine (HMy.out _).mono ?_; rintro x w2 ⟨rfl, hb2⟩; have d1 := HKp.out _ hb2; have HB2 := Lib.hid (HBb.out.trans (hb2.mono HBb.out.size)); clear hb2)
            go_ret
            exact ⟨ret_bool (by rw [HD.out]; simp [h1, h32] <;> omega), HB2.out⟩
          · have g1 : (1 : Int) ≤ ei := by omega
            have g2 : ¬ (ei : Int) ≤ 32 := by omega
            go_enter Tryz.func213, Tryz.ntmps213
            go_upto_region 1 with fail
            rw [← Hwb.out]
            go_wp2_with (go_at_call 166; refine (HMy.out _).mono ?_; rintro x w2 ⟨rfl, hb2⟩; have d1 := HKp.out _ hb2; have HB2 := Lib.hid (HBb.out.trans (hb2.mono HBb.out.size)); clear hb2)
            go_ret
            exact ⟨ret_bool (by rw [HD.out]; simp [h32] <;> omega), HB2.out⟩
        · first
          | (exfalso; omega)
          | (have g1 : ¬ (1 : Int) ≤ ei := by omega
             go_enter Tryz.func213, Tryz.ntmps213
             go_upto_region 1 with fail
             rw [← Hwb.out]
             go_wp2_with (go_at_call 166; refine (HMy.out _).mono ?_; rintro x w2 ⟨rfl, hb2⟩; have d1 := HKp.out _ hb2; have HB2 := Lib.hid (HBb.out.trans (hb2.mono HBb.out.size)); clear hb2)
             go_ret
             exact ⟨ret_bool (by rw [HD.out]; simp [h1] <;> omega), HB2.out⟩)

end Go.Proofs.YtccpdkjonepoiaaGreatDoor

/- Walks: a directory's table: Used, Set. -/
namespace Go.Proofs.YtccpdkjonepoiaaGreatDoor
open Go.RowKit Go.Shelf

attribute [local go_sem] Oper.semAt_some

/-- entries that lie in a row -/
structure EntsAt (w : World) (b o : Nat) (L : List Gd.Ent) : Prop where
  lt : b < w.heap.size
  cell : ∀ j x, L[j]? = some x → w.cell? ⟨b, o + j * 2, none⟩ = some (.string ⟨x.s.toArray⟩) ∧ w.cell? ⟨b, o + j * 2 + 1, none⟩ = some (.int .i64 x.i)
theorem EntsAt.keep {w w' : World} {b o : Nat} {L : List Gd.Ent} (h : EntsAt w b o L) (hb : Below w.heap.size w w') : EntsAt w' b o L :=
  ⟨Nat.lt_of_lt_of_le h.lt hb.size, fun j x hx => ⟨(hb.cell (p := ⟨b, o + j * 2, none⟩) h.lt).trans (h.cell j x hx).1, (hb.cell (p := ⟨b, o + j * 2 + 1, none⟩) h.lt).trans (h.cell j x hx).2⟩⟩
theorem tab_ents {w : World} {b t : Nat} {T : Gd.Tab} (h : w.heap[b]? = some (.cells (tabC T) t (0, 0))) (k : Nat) : EntsAt w b (k * 8) ((T.drop (4 * k)).take 4) := ⟨lt_get h, fun j x hx => by
  have hj : j < 4 := by have := (List.getElem?_eq_some_iff.1 hx).1; rw [List.length_take] at this; omega
  rw [List.getElem?_take, if_pos hj, List.getElem?_drop] at hx
  have := tab_cells h hx
  rw [show (4 * k + j) * 2 = k * 8 + j * 2 by omega] at this
  exact this⟩

theorem any_step {L : List Gd.Ent} {k : Nat} {x : Gd.Ent} (h : (L.take k).any (fun e => decide (e ≠ Gd.noEnt)) = false) (hx : L[k]? = some x) : (L.take (k + 1)).any (fun e => decide (e ≠ Gd.noEnt)) = decide (x ≠ Gd.noEnt) := by
  rw [List.take_add_one, hx, List.any_append, h]; simp
theorem any_found {L : List Gd.Ent} {k : Nat} {x : Gd.Ent} (hx : L[k]? = some x) (h : decide (x ≠ Gd.noEnt) = true) : L.any (fun e => decide (e ≠ Gd.noEnt)) = true := by
  rw [List.any_eq_true]
  exact ⟨x, List.mem_of_getElem? hx, h⟩
def EIdx (L : List Gd.Ent) (w : World) (e : Ending) (w' : World) : Prop := ∃ r : Int, e = .returned (.int .i64 r) ∧ decide (0 ≤ r) = L.any (fun e => decide (e ≠ Gd.noEnt)) ∧ Below w.heap.size w w'

set_option maxRecDepth 100000 in
set_option maxHeartbeats 2000000 in
theorem eindex_any (b o : Nat) (L : List Gd.Ent) (c : Nat) (w : World) (hL : L.length ≤ 1000) (hS : EntsAt w b o L) :
    Calls Tryz.prog 223 #[.slice (some ⟨b, o, none⟩) L.length c, .func (.func 212) #[] #[]] w (EIdx L w) := by
  have HS := Lib.hid hS; clear hS
  go_enter Tryz.func223, Tryz.ntmps223
  go_wp2
  go_loopw [5, 8] (fun _ i wr => ∃ k : Nat, k ≤ L.length ∧ i = .int .i64 k ∧ Hid ((L.take k).any (fun e => decide (e ≠ Gd.noEnt)) = false) ∧ Below w.heap.size w wr) (fun _ i _ => L.length - (intOf i).toNat)
  case atStart => exact ⟨0, by omega, rfl, Lib.hid (by simp), Below.refl _ _⟩
  case round =>
    obtain ⟨k, hk, rfl, hok, hbw⟩ := hrel
    by_cases hlt : k < L.length
    · obtain ⟨x, hx⟩ : ∃ x, L[k]? = some x := ⟨_, List.getElem?_eq_getElem hlt⟩
      obtain ⟨c0, c1⟩ := (HS.out.keep hbw).cell k x hx
      have HU := Lib.hid fun W => used1_any x W
      have Hst := Lib.hid (any_step hok.out hx)
      have Hfd := Lib.hid (any_found hx)
      unfold entV at HU
      obtain ⟨xs, hxs⟩ : ∃ xs : ByteArray, xs = ⟨x.s.toArray⟩ := ⟨_, rfl⟩
      obtain ⟨xi, hxi⟩ : ∃ xi : Nat, xi = x.i := ⟨_, rfl⟩
      rw [← hxs, ← hxi] at HU
      rw [← hxs] at c0
      rw [← hxi] at c1
      obtain ⟨g, hg⟩ : ∃ g, g = decide (x ≠ Gd.noEnt) := ⟨_, rfl⟩
      rw [← hg] at HU Hst Hfd
      clear hx hxs hxi hg
      cases g with
      | false =>
        clear Hfd
        go_wp2_with fail
        refine (HU.out _).mono ?_
        rintro e w2 ⟨rfl, hb⟩
        go_wp2
        go_roundw
        case rel => exact ⟨k + 1, by omega, by go_num, Hst, hbw.trans (hb.mono hbw.size)⟩
        case measure => simp [intOf]; omega
      | true =>
        go_wp2_with fail
        refine (HU.out _).mono ?_
        rintro e w2 ⟨rfl, hb⟩
        go_wp2
        go_ret
        refine ⟨_, rfl, ?_, hbw.trans (hb.mono hbw.size)⟩
        rw [Hfd.out trivial]; simp
    · go_wp2
      go_ret
      refine ⟨_, rfl, ?_, hbw⟩
      have := hok.out
      rw [List.take_of_length_le (by omega)] at this
      rw [this]; rfl

set_option maxHeartbeats 400000 in
theorem econtains_any (b o : Nat) (L : List Gd.Ent) (c : Nat) (w : World) (hL : L.length ≤ 1000) (hS : EntsAt w b o L) :
    Calls Tryz.prog 211 #[.slice (some ⟨b, o, none⟩) L.length c, .func (.func 212) #[] #[]] w fun e w' => e = .returned (.bool (L.any (fun e => decide (e ≠ Gd.noEnt)))) ∧ Below w.heap.size w w' := by
  have H := Lib.hid (eindex_any b o L c w hL hS); clear hS
  go_enter Tryz.func211, Tryz.ntmps211
  go_wp2_with fail
  refine H.out.mono ?_
  rintro e w2 ⟨r, rfl, hr, hb⟩
  have Hr := Lib.hid hr; clear hr
  go_wp2
  go_ret
  exact ⟨ret_bool Hr.out, hb⟩

theorem Tryz.sizeEnt : (Tryz.prog.info? 192).map (fun i => i.size) = some 2 := by kernel_rfl
/-- four entries of a table -/
theorem slice4 {k : Nat} (hk : k < 4) (b : Nat) (w : World) : (Instr.sliceAt 194 (.pointer (some ⟨b, 0, none⟩)) (some (.int .i64 (4 * (k : Int)))) (some (.int .i64 (4 * (k : Int) + 4))) none).run Tryz.prog w = .ok (.slice (some ⟨b, k * 8, none⟩) 4 (16 - 4 * k)) w := by
  have hal : Tryz.prog.arrayLen 194 = 16 := by simp [Program.arrayLen, Tryz.underlying194]
  have hel : Tryz.prog.elem 194 = 192 := by simp [Program.elem, Tryz.underlying194]
  rw [run_sliceAt_array_lh w 194 ⟨b, 0, none⟩ (by rw [hal, hel]; exact Tryz.underlying194) .i64 .i64 (4 * (k : Int)) (4 * (k : Int) + 4) (by omega) (by omega) (by rw [hal]; omega), hal, hel]
  have hs : (sizeOf 192).run Tryz.prog w = .ok 2 w := by simp [go_sem]
  rw [hs]
  simp only [Result.andThen_ok, slicedAt]
  rw [show (4 * (k : Int)).toNat = 4 * k by omega, show (4 * (k : Int) + 4).toNat = 4 * k + 4 by omega, if_neg (by omega)]
  unfold Addr.add
  rw [show 4 * k + 4 - 4 * k = 4 by omega]
  by_cases h0 : 4 * k * 2 = 0
  · rw [if_pos h0, show k * 8 = 0 by omega]
  · rw [if_neg h0]
    simp only [Nat.zero_add]
    rw [show 4 * k * 2 = k * 8 by omega]

set_option maxRecDepth 100000 in
set_option maxHeartbeats 2000000 in
theorem tused_any (T : Gd.Tab) (hT : T.length = 16) (k : Nat) (hk : k < 4) (w : World) : Calls Tryz.prog 192 #[tabV T, .int .i64 k] w fun e w' => e = .returned (.bool (Gd.usedT T k)) ∧ Below w.heap.size w w' := by
  have hsz := tabC_size hT
  obtain ⟨wb, hwb⟩ : ∃ u, u = w.alloc (.cells (tabC T) 194) := ⟨_, rfl⟩
  have hrow : wb.heap[w.heap.size]? = some (.cells (tabC T) 194 (0, 0)) := by rw [hwb]; exact heap_alloc_new _ _
  have HBb : Hid (Below w.heap.size w wb) := Lib.hid (by rw [hwb]; exact (Below.refl _ _).alloc (Nat.le_refl _) _)
  have Hwb := Lib.hid hwb
  have hEn := tab_ents hrow k
  have hl : ((T.drop (4 * k)).take 4).length = 4 := by rw [List.length_take, List.length_drop]; omega
  have HC := Lib.hid (econtains_any w.heap.size (k * 8) _ (16 - 4 * k) wb (by omega) hEn)
  rw [hl] at HC
  have HC2 : Hid (Calls Tryz.prog 211 #[.slice (some ⟨w.heap.size, k * 8, none⟩) 4 (16 - 4 * k), .func (.func 212) #[] #[]] wb fun e w' => e = .returned (.bool (Gd.usedT T k)) ∧ Below wb.heap.size wb w') := HC
  have HI := Lib.hid fun W => dis_any (k : Int) W
  rw [show (decide ((0 : Int) ≤ k) && decide ((k : Int) < 4)) = true by simp; omega] at HI
  have hk4 : (k : Int) < 4 := by omega
  have hk0 : (0 : Int) ≤ k := by omega
  clear hwb hrow hEn hl HC
  unfold tabV
  go_enter Tryz.func192, Tryz.ntmps192
  go_upto_region 1 with fail
  rw [← Hwb.out]
  have hS4 := fun W => slice4 hk w.heap.size W
  go_wp2_with (first | (go_at_call 209; refine (HI.out _).mono ?_; rintro e w2 ⟨rfl, rfl⟩) | (go_at_call 211; refine HC2.out.mono ?_; rintro e w2 ⟨rfl, hb2⟩))
  go_ret
  exact ⟨rfl, HBb.out.trans (hb2.mono HBb.out.size)⟩

theorem tabC_set {T : Gd.Tab} {j : Nat} (hj : j < T.length) (e : Gd.Ent) : tabC (Gd.setT T j e) = ((tabC T).setIfInBounds (j * 2) (.string ⟨e.s.toArray⟩)).setIfInBounds (j * 2 + 1) (.int .i64 e.i) := by
  have h := putCells2_toList (entC e) (j * 2) (tabC T) (by
    show _ + 2 ≤ _
    unfold tabC
    rw [List.size_toArray, ents_len]
    omega)
  rw [← Array.toList_inj]
  refine Eq.trans ?_ h.symm
  show (Gd.setT T j e).flatMap entC = (T.flatMap entC).take (j * 2) ++ entC e ++ (T.flatMap entC).drop (j * 2 + 2)
  unfold Gd.setT
  have e1 := List.take_append_drop j T
  have e2 : T.drop j = T[j] :: T.drop (j + 1) := List.drop_eq_getElem_cons hj
  have l1 : ((T.take j).flatMap entC).length = j * 2 := by rw [ents_len, List.length_take]; omega
  rw [List.set_eq_take_append_cons_drop, if_pos hj, List.flatMap_append, List.flatMap_cons]
  have e3 : T.flatMap entC = (T.take j).flatMap entC ++ (entC T[j] ++ (T.drop (j + 1)).flatMap entC) := by
    rw [← List.flatMap_cons, ← e2, ← List.flatMap_append, e1]
  rw [e3, List.take_left' l1, List.append_assoc]
  congr 2
  rw [← List.append_assoc, List.drop_left' (by rw [List.length_append, l1]; rfl)]

theorem zTab : tabC Gd.noTab = #[Value.string { data := #[] }, Value.int IntKind.i64 0, Value.string { data := #[] }, Value.int IntKind.i64 0, Value.string { data := #[] }, Value.int IntKind.i64 0, Value.string { data := #[] }, Value.int IntKind.i64 0, Value.string { data := #[] }, Value.int IntKind.i64 0, Value.string { data := #[] }, Value.int IntKind.i64 0, Value.string { data := #[] }, Value.int IntKind.i64 0, Value.string { data := #[] }, Value.int IntKind.i64 0, Value.string { data := #[] }, Value.int IntKind.i64 0, Value.string { data := #[] }, Value.int IntKind.i64 0, Value.string { data := #[] }, Value.int IntKind.i64 0, Value.string { data := #[] }, Value.int IntKind.i64 0, Value.string { data := #[] }, Value.int IntKind.i64 0, Value.string { data := #[] }, Value.int IntKind.i64 0, Value.string { data := #[] }, Value.int IntKind.i64 0, Value.string { data := #[] }, Value.int IntKind.i64 0] := by rfl

set_option maxRecDepth 100000 in
set_option maxHeartbeats 4000000 in
theorem tset_any (T : Gd.Tab) (hT : T.length = 16) (j : Nat) (hj : j < 16) (e : Gd.Ent) (w : World) : Calls Tryz.prog 172 #[tabV T, .int .i64 j, entV e] w fun x w' => x = .returned (tabV (Gd.setT T j e)) ∧ Below w.heap.size w w' := by
  have hsz := tabC_size hT
  obtain ⟨tb, htb⟩ : ∃ tb, tb = w.heap.size := ⟨_, rfl⟩
  obtain ⟨w3, hw3⟩ : ∃ u, u = ((w.alloc (.cells (tabC T) 194)).alloc (.cells #[.string ⟨e.s.toArray⟩, .int .i64 e.i] 192)).alloc (.cells (tabC Gd.noTab) 194) := ⟨_, rfl⟩
  have hB3 : Below w.heap.size w w3 := by rw [hw3]; exact (((Below.refl _ _).alloc (Nat.le_refl _) _).alloc (by simp) _).alloc (by simp; omega) _
  have r0 : w3.heap[tb]? = some (.cells (tabC T) 194 (0, 0)) := by rw [hw3, htb]; exact CellsAt.alloc (CellsAt.alloc (heap_alloc_new w _) _) _
  have r1 : w3.heap[tb + 1]? = some (.cells #[.string ⟨e.s.toArray⟩, .int .i64 e.i] 192 (0, 0)) := by
    have := heap_alloc_new (w.alloc (.cells (tabC T) 194)) (.cells #[.string ⟨e.s.toArray⟩, .int .i64 e.i] 192)
    rw [World.size_alloc] at this
    rw [hw3, htb]
    exact CellsAt.alloc this _
  have r2 : w3.heap[tb + 1 + 1]? = some (.cells (tabC Gd.noTab) 194 (0, 0)) := by
    have := heap_alloc_new ((w.alloc (.cells (tabC T) 194)).alloc (.cells #[.string ⟨e.s.toArray⟩, .int .i64 e.i] 192)) (.cells (tabC Gd.noTab) 194)
    rw [World.size_alloc, World.size_alloc] at this
    rw [hw3, htb]
    exact this
  have hg := Gd.entAt_get hT hj
  obtain ⟨t0, t1⟩ := tab_cells r0 hg
  obtain ⟨o, ho⟩ : ∃ o : ByteArray, o = ⟨(Gd.entAt T j).s.toArray⟩ := ⟨_, rfl⟩
  obtain ⟨oi, hoi⟩ : ∃ o : Int, o = (Gd.entAt T j).i := ⟨_, rfl⟩
  rw [← ho] at t0
  rw [← hoi] at t1
  obtain ⟨es, hes⟩ : ∃ es : ByteArray, es = ⟨e.s.toArray⟩ := ⟨_, rfl⟩
  obtain ⟨ei, hei⟩ : ∃ ei : Int, ei = e.i := ⟨_, rfl⟩
  obtain ⟨T', hT'⟩ : ∃ T', T' = Gd.setT T j e := ⟨_, rfl⟩
  have hsz' : (tabC T').size = 32 := by rw [hT']; exact tabC_size (by unfold Gd.setT; rw [List.length_set]; exact hT)
  have hset := tabC_set (T := T) (j := j) (by omega) e
  rw [← hes, ← hei, ← hT'] at hset
  rw [← hes, ← hei] at hw3 r1
  have f0 := frozen_of_row w3 tb (j * 2) _ _ r0
  have f1 := frozen_of_row w3 tb (j * 2 + 1) _ _ r0
  have e0 : w3.cell? ⟨tb + 1, 0, none⟩ = some (.string es) := cell_of_row _ _ 0 _ _ _ r1
  have e1 : w3.cell? ⟨tb + 1, 1, none⟩ = some (.int .i64 ei) := cell_of_row _ _ 1 _ _ _ r1
  obtain ⟨w4, hw4⟩ : ∃ u, u = (w3.setCell ⟨tb, j * 2, none⟩ (.string es)).setCell ⟨tb, j * 2 + 1, none⟩ (.int .i64 ei) := ⟨_, rfl⟩
  have hB4 : Below w.heap.size w w4 := by rw [hw4, htb]; exact (hB3.setCell (Nat.le_refl _) _).setCell (Nat.le_refl _) _
  have s0 : w4.heap[tb]? = some (.cells (tabC T') 194 (0, 0)) := by
    rw [hw4, hset]
    exact Go.heap_setCell_same _ tb _ _ _ _ (Go.heap_setCell_same w3 tb _ _ _ _ r0)
  have s2 : w4.heap[tb + 1 + 1]? = some (.cells (tabC Gd.noTab) 194 (0, 0)) := by
    rw [hw4]
    exact (Go.heap_setCell_other _ ⟨tb, j * 2 + 1, none⟩ (tb + 1 + 1) _ (show tb + 1 + 1 ≠ tb by omega)).trans ((Go.heap_setCell_other _ ⟨tb, j * 2, none⟩ (tb + 1 + 1) _ (show tb + 1 + 1 ≠ tb by omega)).trans r2)
  have HZs : Hid ((tabC Gd.noTab).size = 32) := Lib.hid (tabC_size rfl)
  have HS := Lib.hid hsz
  have HS' := Lib.hid hsz'
  have Hb := Lib.hid htb.symm
  have HW3 := Lib.hid hw3
  have HW4 := Lib.hid hw4
  have HB4 := Lib.hid hB4
  have HS0 := Lib.hid s0
  have HS2 := Lib.hid s2
  have hj0 : (0 : Int) ≤ j := by omega
  have hj16 : (j : Int) < 16 := by omega
  unfold tabV entV
  rw [← hT', ← hes, ← hei]
  clear hsz htb hw3 hB3 r0 r1 r2 hg ho hoi hes hei hT' hsz' hset hw4 hB4 s0 s2
  go_enter Tryz.func172, Tryz.ntmps172
  go_upto_region 1 with fail
  rw [← zTab, ← HW3.out, Hb.out]
  go_upto_region 3 with fail
  rw [← HW4.out]
  go_wp2_with (first | (refine wpList_load_row rfl 194 _ rfl tb rfl 194 (tabC T') (0, 0) _ HS0.out Tryz.underlying194 rfl (by rw [HS'.out]; exact Tryz.sizeTab) ?_) | (refine wpList_store_mid rfl 194 _ _ rfl (tb + 1 + 1) 0 (tabC T') rfl rfl (there_at HS2.out (by rw [HZs.out, HS'.out])) (by rw [HS'.out]; exact Tryz.sizeTab) (tabC_one _) ?_; obtain ⟨hbw, hbg⟩ := whole_at HS2.out (vs := (tabC T').toList) (B := tb) (by rw [HZs.out, Array.length_toList, HS'.out]) (show tb ≤ tb + 1 + 1 by omega); generalize (World.setCells _ _ _ _) = wf at hbw hbg ⊢))
  refine bodyPost_ret (results_cell_row rfl _ _ (tb + 1 + 1) 194 (tabC T') (0, 0) _ rfl hbg Tryz.underlying194 rfl (by rw [HS'.out]; exact Tryz.sizeTab)) rfl ?_
  exact ⟨rfl, HB4.out.trans (by rw [Hb.out]; exact hbw)⟩

end Go.Proofs.YtccpdkjonepoiaaGreatDoor

/- Walks: a directory's table: Block. -/
namespace Go.Proofs.YtccpdkjonepoiaaGreatDoor
open Go.RowKit Go.Shelf

attribute [local go_sem] Oper.semAt_some

theorem ent_step {L : List Gd.Ent} {i : Nat} {e : Gd.Ent} (h : L[i]? = some e) : (L.take (i + 1)).flatMap Gd.entB = (L.take i).flatMap Gd.entB ++ Gd.le e.i 1 ++ Gd.le e.s.length 1 ++ e.s ++ List.replicate (14 - e.s.length) 0 := by
  rw [List.take_add_one, h, List.flatMap_append]
  show _ ++ (Gd.entB e ++ []) = _
  rw [List.append_nil]
  simp [Gd.entB, Gd.le]
theorem ents_lenB : ∀ {L : List Gd.Ent} (_ : ∀ e ∈ L, e.May), (L.flatMap Gd.entB).length = 16 * L.length
  | [], _ => rfl
  | e :: r, h => by
    rw [List.flatMap_cons, List.length_append, Gd.entB_length (h e (List.mem_cons_self ..)), ents_lenB fun x hx => h x (List.mem_cons_of_mem _ hx), List.length_cons]
    omega

set_option maxHeartbeats 8000000 in
set_option maxRecDepth 100000 in
theorem tblock_any (T : Gd.Tab) (hOk : Gd.TabOk T) (k : Nat) (hk : k < 4) (w : World) :
    Calls Tryz.prog 194 #[tabV T, .int .i64 k] w fun e w' => ∃ v, e = .returned (.tuple #[v, .int .i64 0]) ∧ OwnB w' w.heap.size v (Gd.blkT T k) ∧ Below w.heap.size w w' := by
  have hT := hOk.len
  obtain ⟨tb, htb⟩ : ∃ tb, tb = w.heap.size := ⟨_, rfl⟩
  obtain ⟨wb, hwb⟩ : ∃ u, u = w.alloc (.cells (tabC T) 194) := ⟨_, rfl⟩
  have hrow : wb.heap[tb]? = some (.cells (tabC T) 194 (0, 0)) := by rw [hwb, htb]; exact heap_alloc_new _ _
  have HBb : Hid (Below w.heap.size w wb) := Lib.hid (by rw [hwb]; exact (Below.refl _ _).alloc (Nat.le_refl _) _)
  have Hwb := Lib.hid hwb
  have hsb : tb < wb.heap.size := lt_get hrow
  have hEn := tab_ents hrow k
  have HI := Lib.hid fun W => dis_any (k : Int) W
  rw [show (decide ((0 : Int) ≤ k) && decide ((k : Int) < 4)) = true by simp; omega] at HI
  obtain ⟨L, hL⟩ : ∃ L, L = (T.drop (4 * k)).take 4 := ⟨_, rfl⟩
  have hl : L.length = 4 := by rw [hL, List.length_take, List.length_drop]; omega
  rw [← hL] at hEn
  have hLm : ∀ e ∈ L, e.May := fun e he => hOk.may e (by rw [hL] at he; exact List.mem_of_mem_drop (List.mem_of_mem_take he))
  have HLm := Lib.hid hLm
  have HLl := Lib.hid hl
  have HRes : Hid (Gd.blkT T k = L.flatMap Gd.entB) := Lib.hid (by rw [hL]; rfl)
  have HEn := Lib.hid hEn
  have Htb := Lib.hid htb.symm
  have HLt : ∀ i, i ≤ 4 → ((L.take i).flatMap Gd.entB).length = 16 * i := fun i hi => by
    rw [ents_lenB fun e he => hLm e (List.mem_of_mem_take he), List.length_take, hl]
    omega
  have HLT := Lib.hid HLt
  have hk4 : (k : Int) < 4 := by omega
  have hk0 : (0 : Int) ≤ k := by omega
  have hS4 := fun W => slice4 hk tb W
  clear hOk hT htb hwb hrow hEn hL hl hLm HLt
  unfold tabV
  rw [HRes.out]
  clear HRes
  go_enter Tryz.func194, Tryz.ntmps194
  go_upto_region 1 with fail
  rw [← Hwb.out, Htb.out]
  go_upto_region 3 with (go_at_call 209; refine (HI.out _).mono ?_; rintro e w2 ⟨rfl, rfl⟩)
  go_upto_region 5 with fail
  go_loopw [6, 19] (fun u z wr => ∃ i : Nat, z = .int .i64 i ∧ i ≤ 4 ∧ Hid (OwnB wr w2.heap.size u ((L.take i).flatMap Gd.entB)) ∧ Hid (Below w2.heap.size w2 wr)) (fun _ z _ => 4 - (intOf z).toNat)
  case atStart => exact ⟨0, rfl, by omega, Lib.hid (World.ownsRow_nil _ _ _ _), Lib.hid (Below.refl _ _)⟩
  case round =>
    obtain ⟨i, rfl, hin, HO, HBw⟩ := hrel
    by_cases hlt : i < 4
    · obtain ⟨e, he⟩ : ∃ e, L[i]? = some e := ⟨_, List.getElem?_eq_getElem (by have := HLl.out; omega)⟩
      obtain ⟨q0, q1⟩ := (HEn.out.keep HBw.out).cell i e he
      have h1 : (i : Int) < 4 := by omega
      have h0 : (0 : Int) ≤ i := by omega
      have HX := Lib.hid he
      have hem := HLm.out e (List.mem_of_getElem? he)
      have hlen := Gd.May.len hem
      have HMy := Lib.hid fun W => emay_any e (by omega) (by omega) W
      rw [(mayE_iff e).2 hem] at HMy
      clear he hem
      go_upto_region 7 with fail
      obtain ⟨q, hq⟩ : ∃ q, q = e.i := ⟨_, rfl⟩
      obtain ⟨s, hs⟩ : ∃ s : ByteArray, s = ⟨e.s.toArray⟩ := ⟨_, rfl⟩
      obtain ⟨l, hl⟩ : ∃ l, l = e.s.length := ⟨_, rfl⟩
      have hsz : s.size = l := by rw [hs, hl]; rfl
      unfold entV at HMy
      rw [← hq, ← hs] at HMy
      rw [← hq, ← hs]
      rw [← hq, ← hl] at hlen
      have hl12 : (l : Int) ≤ 12 := by omega
      have hl12' : l ≤ 12 := by omega
      have hq32 : q ≤ 32 := by omega
      obtain ⟨wz, hwz⟩ : ∃ u, u = wr.alloc (.cells #[.string s, .int .i64 q] 192) := ⟨_, rfl⟩
      rw [← hwz]
      have hbz : Below wr.heap.size wr wz := by rw [hwz]; exact (Below.refl _ _).alloc (Nat.le_refl _) _
      have hz : wz.heap[wr.heap.size]? = some (.cells #[.string s, .int .i64 q] 192 (0, 0)) := by rw [hwz]; exact heap_alloc_new _ _
      obtain ⟨zb, hzb⟩ : ∃ zb, zb = wr.heap.size := ⟨_, rfl⟩
      rw [← hzb] at hz ⊢
      have HZ := Lib.hid hz
      have z0 : wz.cell? ⟨zb, 0, none⟩ = some (.string s) := cell_of_row wz zb 0 _ _ _ hz
      have z1 : wz.cell? ⟨zb, 1, none⟩ = some (.int .i64 q) := cell_of_row wz zb 1 _ _ _ hz
      have HBwz : Hid (Below w2.heap.size w2 wz) := Lib.hid (HBw.out.trans (hbz.mono HBw.out.size))
      have HOz := Lib.hid (HO.out.keep hbz)
      have HQ := Lib.hid (And.intro hq (And.intro hs hl))
      obtain ⟨PL, hPL⟩ : ∃ PL, PL = (L.take i).flatMap Gd.entB := ⟨_, rfl⟩
      have HPl : Hid (PL.length = 16 * i) := Lib.hid (by rw [hPL]; exact HLT.out i hin)
      rw [← hPL] at HOz
      have HNext : Hid ((L.take (i + 1)).flatMap Gd.entB = PL ++ Gd.le q 1 ++ Gd.le l 1 ++ e.s ++ List.replicate (14 - l) 0) := Lib.hid (by rw [ent_step HX.out, ← hPL, ← hq, ← hl])
      clear hwz hbz hz q0 q1 hq hs hl hzb hPL HO HX hlen hlt
      go_wp2_with fail
      refine (HMy.out _).mono ?_
      rintro x w3 ⟨rfl, hb3⟩
      have HO3 := Lib.hid (HOz.out.keep hb3)
      have HBw3 := Lib.hid (HBwz.out.trans (hb3.mono HBwz.out.size))
      have HZ3 := Lib.hid ((hb3.block zb (lt_get HZ.out)).trans HZ.out)
      clear hb3 z0 z1 HMy HOz
      have z0 : w3.cell? ⟨zb, 0, none⟩ = some (.string s) := cell_of_row w3 zb 0 _ _ _ HZ3.out
      have z1 : w3.cell? ⟨zb, 1, none⟩ = some (.int .i64 q) := cell_of_row w3 zb 1 _ _ _ HZ3.out
      have HP1 := Lib.hid (putn_any u6 PL q 1 (Or.inl rfl) (by omega) (by omega) w3 HO3.out.at_ (by have := HPl.out; omega))
      go_wp2_with fail
      refine HP1.out.mono ?_
      rintro x w4 ⟨v4, rfl, ho4, hb4⟩
      have HO4 := Lib.hid (ho4.mono HBw3.out.size)
      have HBw4 := Lib.hid (HBw3.out.trans (hb4.mono HBw3.out.size))
      have HZ4 := Lib.hid ((hb4.block zb (lt_get HZ3.out)).trans HZ3.out)
      clear ho4 hb4 HP1 z0 z1 HO3
      have z0 : w4.cell? ⟨zb, 0, none⟩ = some (.string s) := cell_of_row w4 zb 0 _ _ _ HZ4.out
      have HP2 := Lib.hid (putn_any v4 _ l 1 (Or.inl rfl) (by omega) (by omega) w4 HO4.out.at_ (by rw [List.length_append, Gd.le_length]; have := HPl.out; omega))
      go_wp2_with fail
      refine HP2.out.mono ?_
      rintro x w5 ⟨v5, rfl, ho5, hb5⟩
      have HO5 := Lib.hid (ho5.mono HBw4.out.size)
      have HBw5 := Lib.hid (HBw4.out.trans (hb5.mono HBw4.out.size))
      have HZ5 := Lib.hid ((hb5.block zb (lt_get HZ4.out)).trans HZ4.out)
      clear ho5 hb5 HP2 z0 HO4
      have z0 : w5.cell? ⟨zb, 0, none⟩ = some (.string s) := cell_of_row w5 zb 0 _ _ _ HZ5.out
      go_upto_region 12 with (at_builtin; refine app_str rfl _ _ rfl w2.heap.size v5 _ w5 rfl HO5.out e.s s HQ.out.2.1 rfl (by rw [List.length_append, List.length_append, Gd.le_length, Gd.le_length, ← HQ.out.2.2, HPl.out]; omega) HBw5.out.size ?_; intro v6 w6 ho6 hb6)
      have HO6 := Lib.hid ho6
      have HBw6 := Lib.hid (HBw5.out.trans hb6)
      clear ho6 hb6 z0 HO5
      obtain ⟨A6, c6, rfl, ht6⟩ := HO6.out.at_
      have hl6 : (PL ++ Gd.le q 1 ++ Gd.le l 1 ++ e.s).length = 16 * i + 2 + l := by rw [List.length_append, List.length_append, List.length_append, Gd.le_length, Gd.le_length, ← HQ.out.2.2, HPl.out]
      obtain ⟨r, hr⟩ : ∃ r, r = (PL ++ Gd.le q 1 ++ Gd.le l 1 ++ e.s).length := ⟨_, rfl⟩
      rw [← hr] at hl6 HO6 ⊢
      have HRr := Lib.hid hr
      have g1 : (r : Int) = 16 * i + 2 + l := by omega
      have g2 : (l : Int) ≤ 12 := by omega
      clear ht6 hr
      go_wp2_with (at_builtin; refine app_zeros rfl _ _ rfl w2.heap.size (.slice A6 r c6) _ w6 rfl HO6.out (14 - l) _ rfl (by omega) (by have := HRr.out; omega) HBw6.out.size ?_; intro v7 w7 ho7 hb7)
      have HO7 : Hid (OwnB w7 w2.heap.size v7 ((L.take (i + 1)).flatMap Gd.entB)) := Lib.hid (by rw [HNext.out]; exact ho7)
      have HBw7 := Lib.hid (HBw6.out.trans hb7)
      clear ho7 hb7
      go_wp2
      go_roundw
      case rel => exact ⟨i + 1, by go_num, by omega, HO7, HBw7⟩
      case measure => simp [intOf]; omega
    · obtain rfl : i = 4 := by omega
      clear hlt
      go_wp2_with fail
      go_ret2
      refine ⟨_, rfl, ?_, HBb.out.trans (HBw.out.mono HBb.out.size)⟩
      have := HO.out.mono HBb.out.size
      rw [List.take_of_length_le (by have := HLl.out; omega)] at this
      exact this

end Go.Proofs.YtccpdkjonepoiaaGreatDoor

/- Walks: slices.Equal at the same bytes; a table of which four entries are read. -/
namespace Go.Proofs.YtccpdkjonepoiaaGreatDoor
open Go.RowKit Go.Shelf

attribute [local go_sem] Oper.semAt_some

/-- a part of a slice of bytes -/
theorem sliceB {b o n c l h : Nat} (h1 : l ≤ h) (h2 : h ≤ c) (h3 : l < c) (w : World) : (Instr.slice 22 (.slice (some ⟨b, o, none⟩) n c) (some (.int .i64 l)) (some (.int .i64 h)) none).run Tryz.prog w = .ok (.slice (some ⟨b, o + l, none⟩) (h - l) (c - l)) w := by
  have hel : Tryz.prog.elem 22 = 5 := by simp [Program.elem, Tryz.underlying22]
  rw [run_slice_lh w 22 _ n c (by rw [hel]; exact Tryz.underlying22) .i64 .i64 (l : Int) (h : Int) (by omega) (by omega) (by omega), hel]
  have hs : (sizeOf 5).run Tryz.prog w = .ok 1 w := by simp [go_sem]
  rw [hs]
  simp only [Result.andThen_ok, sliced, Int.toNat_natCast]
  rw [if_neg (by omega)]
  unfold Addr.add
  by_cases h0 : l * 1 = 0
  · simp [show l = 0 by omega]
  · simp
    omega

set_option maxHeartbeats 2000000 in
set_option maxRecDepth 100000 in
theorem sequal_any (u v : Value) (L : List UInt8) (w : World) (hu : BytesAt w u L) (hv : BytesAt w v L) (hl : L.length ≤ 100000) : Calls Tryz.prog 210 #[u, v] w fun e w' => e = .returned (.bool true) ∧ Below w.heap.size w w' := by
  obtain ⟨A, c, rfl, hA⟩ := hu
  obtain ⟨A', c', rfl, hA'⟩ := hv
  obtain ⟨n, hn⟩ : ∃ n, n = L.length := ⟨_, rfl⟩
  have HA := Lib.hid (And.intro hA hA')
  have Hn := Lib.hid hn
  rw [← hn] at hl ⊢
  clear hn hA hA'
  go_enter Tryz.func210, Tryz.ntmps210
  go_wp2
  go_loopw [5, 13] (fun _ z wr => ∃ i : Nat, z = .int .i64 i ∧ i ≤ n ∧ Below w.heap.size w wr) (fun _ z _ => n - (intOf z).toNat)
  case atStart => exact ⟨0, rfl, by omega, Below.refl _ _⟩
  case round =>
    obtain ⟨i, rfl, hi, hbw⟩ := hrel
    by_cases hlt : i < n
    · obtain ⟨x, hx⟩ : ∃ x, L[i]? = some x := ⟨_, List.getElem?_eq_getElem (by have := Hn.out; omega)⟩
      rcases HA.out.1 with ⟨-, h0, -⟩ | ⟨b, o, rfl, hb, hc⟩
      · rw [h0] at hx; simp at hx
      rcases HA.out.2 with ⟨-, h0, -⟩ | ⟨b', o', rfl, hb', hc'⟩
      · rw [h0] at hx; simp at hx
      have c0 := (hbw.cell (p := ⟨b, o + i, none⟩) hb).trans (hc i x hx)
      have c1 := (hbw.cell (p := ⟨b', o' + i, none⟩) hb').trans (hc' i x hx)
      have h1 : (i : Int) < n := by omega
      have h0 : (0 : Int) ≤ i := by omega
      have HBw := Lib.hid hbw
      clear hx hc hc' hlt hbw
      go_upto_region 6 with fail
      go_region
      all_goals
        go_wp2
        go_roundw
        case rel => exact ⟨i + 1, by go_num, by omega, HBw.out.drew⟩
        case measure => simp [intOf]; omega
    · go_wp2
      go_ret
      exact ⟨rfl, hbw⟩

namespace Gd
/-- a table, of which some entries of a block were read -/
def rdT (T T2 : Tab) (k : Nat) : Nat → Tab
  | 0 => T
  | i + 1 => setT (rdT T T2 k i) (4 * k + i) (entAt T2 (4 * k + i))
theorem rdT_ok {T T2 : Tab} (hT : TabOk T) (hT2 : TabOk T2) (k : Nat) : ∀ i, TabOk (rdT T T2 k i)
  | 0 => hT
  | i + 1 => (rdT_ok hT hT2 k i).set (entAt_may hT2 _)
theorem setT_at {T : Tab} {j i : Nat} {e : Ent} (hT : T.length = 16) (hj : j < 16) : entAt (setT T j e) i = if i = j then e else entAt T i := by
  unfold entAt setT
  rw [List.getD_eq_getElem?_getD, List.getD_eq_getElem?_getD, List.getElem?_set]
  by_cases h : i = j
  · subst h
    rw [if_pos rfl, if_pos rfl, if_pos (by omega)]
    rfl
  · rw [if_neg (Ne.symm h), if_neg h]
theorem rdT_at {T T2 : Tab} (hT : TabOk T) (hT2 : TabOk T2) {k : Nat} (hk : k < 4) : ∀ i, i ≤ 4 → ∀ j, entAt (rdT T T2 k i) j = if 4 * k ≤ j ∧ j < 4 * k + i then entAt T2 j else entAt T j
  | 0, _, j => by
    rw [if_neg (by omega)]
    rfl
  | i + 1, h, j => by
    unfold rdT
    rw [setT_at (rdT_ok hT hT2 k i).len (by omega), rdT_at hT hT2 hk i (by omega) j]
    by_cases hj : j = 4 * k + i
    · rw [if_pos hj, if_pos (by omega), hj]
    · rw [if_neg hj]
      by_cases h2 : 4 * k ≤ j ∧ j < 4 * k + i
      · rw [if_pos h2, if_pos (by omega)]
      · rw [if_neg h2, if_neg (by omega)]
theorem tab_ext {T T2 : Tab} (h1 : T.length = 16) (h2 : T2.length = 16) (h : ∀ j, j < 16 → entAt T j = entAt T2 j) : T = T2 := by
  apply List.ext_getElem?
  intro j
  by_cases hj : j < 16
  · rw [entAt_get h1 hj, entAt_get h2 hj, h j hj]
  · rw [List.getElem?_eq_none (by omega), List.getElem?_eq_none (by omega)]
theorem blk_ext {T T2 : Tab} (h1 : T.length = 16) (h2 : T2.length = 16) {k : Nat} (hk : k < 4) (h : ∀ i, i < 4 → entAt T (4 * k + i) = entAt T2 (4 * k + i)) : (T.drop (4 * k)).take 4 = (T2.drop (4 * k)).take 4 := by
  apply List.ext_getElem?
  intro j
  rw [List.getElem?_take, List.getElem?_take]
  by_cases hj : j < 4
  · rw [if_pos hj, if_pos hj, List.getElem?_drop, List.getElem?_drop, entAt_get h1 (by omega), entAt_get h2 (by omega), h j hj]
  · rw [if_neg hj, if_neg hj]
theorem rdT_blk {T T2 : Tab} (hT : TabOk T) (hT2 : TabOk T2) {k : Nat} (hk : k < 4) : blkT (rdT T T2 k 4) k = blkT T2 k := by
  unfold blkT
  rw [blk_ext (rdT_ok hT hT2 k 4).len hT2.len hk fun i hi => by rw [rdT_at hT hT2 hk 4 (Nat.le_refl _), if_pos (by omega)]]
/-- where an entry's bytes stand in a block -/
theorem blkT_parts {T : Tab} (hT : TabOk T) {k i : Nat} (hk : k < 4) (hi : i < 4) : ((blkT T k).drop (16 * i)).take 16 = entB (entAt T (4 * k + i)) := by
  have hl : ∀ (L : List Ent), (∀ e ∈ L, e.May) → ∀ i e, L[i]? = some e → ((L.flatMap entB).drop (16 * i)).take 16 = entB e := by
    intro L
    induction L with
    | nil => intro _ i e h; simp at h
    | cons a r ih =>
      intro hm i e h
      have ha := entB_length (hm a (List.mem_cons_self ..))
      rw [List.flatMap_cons]
      cases i with
      | zero =>
        simp at h
        rw [h] at ha ⊢
        rw [Nat.mul_zero, List.drop_zero, List.take_left' ha]
      | succ i =>
        rw [show 16 * (i + 1) = 16 + 16 * i by omega, ← List.drop_drop, List.drop_left' ha]
        exact ih (fun x hx => hm x (List.mem_cons_of_mem _ hx)) i e (by simpa using h)
  refine hl _ (fun e he => hT.may e (List.mem_of_mem_drop (List.mem_of_mem_take he))) i _ ?_
  rw [List.getElem?_take, if_pos hi, List.getElem?_drop]
  exact entAt_get hT.len (by omega)
theorem blkT_len {T : Tab} (hT : TabOk T) {k : Nat} (hk : k < 4) : (blkT T k).length = 64 := by
  have hl : ∀ (L : List Ent), (∀ e ∈ L, e.May) → (L.flatMap entB).length = 16 * L.length := by
    intro L
    induction L with
    | nil => intro _; rfl
    | cons a r ih =>
      intro hm
      rw [List.flatMap_cons, List.length_append, entB_length (hm a (List.mem_cons_self ..)), ih fun x hx => hm x (List.mem_cons_of_mem _ hx), List.length_cons]
      omega
  unfold blkT
  rw [hl _ fun e he => hT.may e (List.mem_of_mem_drop (List.mem_of_mem_take he)), List.length_take, List.length_drop, hT.len]
  omega
/-- an entry's bytes, read piece by piece -/
theorem blkT_read {T : Tab} (hT : TabOk T) {k i : Nat} (hk : k < 4) (hi : i < 4) {e : Ent} (he : e = entAt T (4 * k + i)) :
    (blkT T k)[16 * i]? = some (UInt8.ofNat e.i) ∧ (blkT T k)[16 * i + 1]? = some (UInt8.ofNat e.s.length) ∧ ∀ j x, e.s[j]? = some x → (blkT T k)[16 * i + 2 + j]? = some x := by
  have h := blkT_parts hT hk hi
  rw [← he] at h
  have hg : ∀ j x, j < 16 → (entB e)[j]? = some x → (blkT T k)[16 * i + j]? = some x := fun j x hj hx => by
    rw [← h, List.getElem?_take, if_pos hj, List.getElem?_drop] at hx
    exact hx
  have hm := May.len (entAt_may hT (4 * k + i))
  rw [← he] at hm
  refine ⟨hg 0 _ (by omega) rfl, hg 1 _ (by omega) rfl, fun j x hx => ?_⟩
  have hj := (List.getElem?_eq_some_iff.1 hx).1
  rw [show 16 * i + 2 + j = 16 * i + (j + 2) by omega]
  refine hg (j + 2) x (by omega) ?_
  show (e.s ++ _)[j]? = _
  rw [List.getElem?_append_left hj]
  exact hx
end Gd

end Go.Proofs.YtccpdkjonepoiaaGreatDoor
