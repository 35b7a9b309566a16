/- Walks: layout.Find and layout.Size. -/
import Derived.Test.YtginffdngphjpaaGreatDoorV04
import Derived.Test.YtginffdngphjpaaGreatDoorV00
import Derived.Test.YtginffdngphjpaaGreatDoorV01
import Derived.Deep.RegionWith
import Derived.StillTailTactics
set_option linter.unusedVariables false
set_option linter.unusedSimpArgs false
namespace Go.Proofs.YtginffdngphjpaaGreatDoor
open Go.RowKit Go.Shelf

attribute [local go_sem] Oper.semAt_some

/-- the cells of a block, of no frame -/
def CellsAt (W : World) (B : Nat) (t : TypeId) (cs : Array Value) : Prop := W.heap[B]? = some (.cells cs t (0, 0))
theorem CellsAt.lt {W : World} {B : Nat} {t : TypeId} {cs : Array Value} (h : CellsAt W B t cs) : B < W.heap.size := (Array.getElem?_eq_some_iff.1 h).1
theorem CellsAt.alloc {W : World} {B : Nat} {t : TypeId} {cs : Array Value} (h : CellsAt W B t cs) (o : Obj) : CellsAt (W.alloc o) B t cs := (Below.heap_alloc W o B h.lt).trans h
theorem cellsAt_own {β : Type} (B : Nat) (t : TypeId) (f : β → Array Value) : Own (fun s W => CellsAt W B t (f s)) := fun s X Y row hs hg hrow => by
  have hne : some B ≠ row := fun e' => by obtain ⟨o, ho, hc⟩ := hrow B e'.symm; rw [show X.heap[B]? = _ from hs] at ho; cases ho; cases hc
  exact (hg.block B hs.lt hne).trans hs

theorem keepsC_r (D : Nat) (W : World) : KeepsC D W W := fun _ _ _ _ _ h => h
def ptC (p : Gd.Pt) : Array Value := #[.int .i64 p.k, .int .i64 p.n, .int .i64 p.a, .int .i64 p.s]
namespace Gd
def isP (k m : Int) (p : Pt) : Bool := ((p.k : Int) == k) && ((p.n : Int) == m)
def findP (k m : Int) : Option Pt := partsL.find? (isP k m)
end Gd
def ptO : Option Gd.Pt → Value
  | some p => ptV p
  | none => .agg #[.int .i64 0, .int .i64 0, .int .i64 0, .int .i64 0]

set_option maxRecDepth 100000 in
set_option maxHeartbeats 8000000 in
theorem find_in (F : Fence) (n : Nat) (hf : F.fn 68) (hf2 : F.fn 96) (hf3 : F.fn 134) (hro : F.round = none) (hn : 6 ≤ n) (k m : Int) (w : World) :
    CallsIn F n Tryz.prog 68 #[.int .i64 k, .int .i64 m] w fun e W' => e = .returned (.tuple #[ptO (Gd.findP k m), .bool (Gd.findP k m).isSome]) ∧ Below w.heap.size w W' := by
  have h1 : 1 ≤ n := by omega
  refine callsIn_of_wp_marks Tryz.func68 rfl hf ?_ hro
  simp only [Tryz.ntmps68, List.size_toArray, List.length_cons, List.length_nil, Nat.reduceAdd, Nat.reduceSub, Array.replicate_succ, Array.replicate_zero, List.push_toArray, List.append_toArray, List.nil_append, List.cons_append]
  gi_wp2
  obtain ⟨W0, hW0⟩ : ∃ W0, W0 = (((w.alloc (.cells #[.int .i64 k] 3)).alloc (.cells #[.int .i64 m] 3)).alloc (.cells #[.int .i64 0, .int .i64 0, .int .i64 0, .int .i64 0] 136)).alloc (.cells #[.bool false] 4) := ⟨_, rfl⟩
  have c0 : CellsAt W0 w.heap.size 3 #[.int .i64 k] := by rw [hW0]; exact (((CellsAt.alloc (heap_alloc_new w _) _).alloc _).alloc _)
  have c1 : CellsAt W0 (w.heap.size + 1) 3 #[.int .i64 m] := by rw [hW0]; have := heap_alloc_new (w.alloc (.cells #[.int .i64 k] 3)) (.cells #[.int .i64 m] 3); rw [World.size_alloc] at this; exact (CellsAt.alloc this _).alloc _
  have c2 : CellsAt W0 (w.heap.size + 1 + 1) 136 #[.int .i64 0, .int .i64 0, .int .i64 0, .int .i64 0] := by rw [hW0]; have := heap_alloc_new ((w.alloc (.cells #[.int .i64 k] 3)).alloc (.cells #[.int .i64 m] 3)) (.cells #[.int .i64 0, .int .i64 0, .int .i64 0, .int .i64 0] 136); rw [World.size_alloc, World.size_alloc] at this; exact CellsAt.alloc this _
  have c3 : CellsAt W0 (w.heap.size + 1 + 1 + 1) 4 #[.bool false] := by rw [hW0]; have := heap_alloc_new (((w.alloc (.cells #[.int .i64 k] 3)).alloc (.cells #[.int .i64 m] 3)).alloc (.cells #[.int .i64 0, .int .i64 0, .int .i64 0, .int .i64 0] 136)) (.cells #[.bool false] 4); rw [World.size_alloc, World.size_alloc, World.size_alloc] at this; exact this
  have hB0 : Below w.heap.size w W0 := by rw [hW0]; exact ((((Below.refl _ w).alloc (Nat.le_refl _) _).alloc (by simp) _).alloc (by simp; omega) _).alloc (by simp; omega) _
  have hsz : W0.heap.size = w.heap.size + 4 := by rw [hW0]; simp
  rw [← hW0]
  clear hW0
  refine wpIn_rangeFunc_ownH hro h1 (gf := 96) (lb := #[]) rfl hf2 (enters_of Tryz.func96 (by kernel_rfl) rfl)
    (parts_stops F (n - 1) hf2 hf3 hro (by omega) 0 W0 (Nat.zero_le _)) (keepsC_t 0) (keepsC_b 0 (w := W0)) (Below.refl _ _) (fun _ => rfl)
    (fun pre W => (((((∀ p ∈ pre, Gd.isP k m p = false) ∧ CellsAt W w.heap.size 3 #[.int .i64 k]) ∧ CellsAt W (w.heap.size + 1) 3 #[.int .i64 m]) ∧ CellsAt W (w.heap.size + 1 + 1) 136 #[.int .i64 0, .int .i64 0, .int .i64 0, .int .i64 0]) ∧ CellsAt W (w.heap.size + 1 + 1 + 1) 4 #[.bool false]) ∧ Below w.heap.size w W)
    (fun c pre W => (c = .ret ∧ (∃ q p, (pre = q ++ [p] ∧ (∀ r ∈ q, Gd.isP k m r = false) ∧ Gd.isP k m p = true) ∧ CellsAt W (w.heap.size + 1 + 1) 136 (ptC p)) ∧ CellsAt W (w.heap.size + 1 + 1 + 1) 4 #[.bool true]) ∧ Below w.heap.size w W)
    ?o1 ?o2 ?o3
    (fun x a' W => ∃ Bx, w.heap.size + 4 ≤ Bx ∧ CellsAt W Bx 136 (ptC x) ∧ a' = { tmps := #[.int .i64 k, .int .i64 m, .pointer (some ⟨w.heap.size, 0, none⟩), .pointer (some ⟨w.heap.size + 1, 0, none⟩), .pointer (some ⟨w.heap.size + 1 + 1, 0, none⟩), .pointer (some ⟨w.heap.size + 1 + 1 + 1, 0, none⟩), .pointer (some ⟨Bx, 0, none⟩), ptV x, undef, undef, undef, undef, undef, undef, undef, undef, undef, undef, undef], defers := [] })
    ?o4 ?assign ?body ?done ?stop
  case o1 => exact OwnFrom.and (OwnFrom.and (OwnFrom.and (OwnFrom.and (OwnFrom.and (ownFrom_pure _ _) (Own.from (cellsAt_own _ _ _) _)) (Own.from (cellsAt_own _ _ _) _)) (Own.from (cellsAt_own _ _ _) _)) (Own.from (cellsAt_own _ _ _) _)) (ownFrom_below (Nat.le_refl _) (by omega))
  case o2 =>
    refine fun c => OwnFrom.and (OwnFrom.and (ownFrom_pure _ _) (OwnFrom.and ?_ (Own.from (cellsAt_own _ _ _) _))) (ownFrom_below (Nat.le_refl _) (by omega))
    rintro s X Y row ⟨q, p, hp, hc⟩ hg hr
    exact ⟨q, p, hp, cellsAt_own _ _ (fun (_ : Unit) => ptC p) () X Y row hc hg (fun r e => (hr r e).2)⟩
  case o4 =>
    rintro x a' _ X Y row ⟨Bx, e1, e2, e3⟩ hg hr
    exact ⟨Bx, e1, cellsAt_own _ _ (fun (_ : Unit) => ptC x) () X Y row e2 hg (fun r e => (hr r e).2), e3⟩
  case o3 => exact ⟨⟨⟨⟨⟨by simp, c0⟩, c1⟩, c2⟩, c3⟩, hB0⟩
  case assign =>
    rintro l pre ⟨pk, pn, pa, ps⟩ W K ⟨⟨⟨⟨⟨hp, q0⟩, q1⟩, q2⟩, q3⟩, hB1⟩ hK
    have HK := Lib.hid hK
    have HP := Lib.hid (And.intro hp (And.intro q0 (And.intro q1 (And.intro q2 q3))))
    have HB := Lib.hid hB1
    have hlt := hB1.size
    have hlt3 := q3.lt
    clear hK hp q0 q1 q2 q3 hB1
    unfold ptV
    gi_wp2
    exact HK.out _ _ ((KeepsOthers.alloc _ _).from _) (keepsC_below _ ((Below.refl _ W).alloc (Nat.le_refl _) _)) ⟨⟨⟨⟨⟨HP.out.1, HP.out.2.1.alloc _⟩, HP.out.2.2.1.alloc _⟩, HP.out.2.2.2.1.alloc _⟩, HP.out.2.2.2.2.alloc _⟩, HB.out.alloc hlt _⟩ ⟨W.heap.size, by omega, heap_alloc_new W _, rfl⟩
  case body =>
    rintro l pre ⟨pk, pn, pa, ps⟩ a' W hl ⟨r, hr⟩ ⟨⟨⟨⟨⟨hp, q0⟩, q1⟩, q2⟩, q3⟩, hB1⟩ ⟨Bx, hBx, bX, rfl⟩ hlt
    have HP := Lib.hid (And.intro hp (And.intro q0 (And.intro q1 (And.intro q2 q3))))
    have HB := Lib.hid hB1
    have HR := Lib.hid (And.intro hl (And.intro hr bX))
    have x0 := cell_of_row W Bx 0 _ _ _ bX
    have x1 := cell_of_row W Bx 1 _ _ _ bX
    have x2 := cell_of_row W Bx 2 _ _ _ bX
    have x3 := cell_of_row W Bx 3 _ _ _ bX
    have xk := cell_of_row W _ 0 _ _ _ q0
    have xm := cell_of_row W _ 0 _ _ _ q1
    unfold ptC at x0 x1 x2 x3
    have y0 := cell_of_row W _ 0 _ _ _ q2
    have y1 := cell_of_row W _ 1 _ _ _ q2
    have y2 := cell_of_row W _ 2 _ _ _ q2
    have y3 := cell_of_row W _ 3 _ _ _ q2
    have z0 := frozen_of_row W _ 0 _ _ q2
    have z1 := frozen_of_row W _ 1 _ _ q2
    have z2 := frozen_of_row W _ 2 _ _ q2
    have z3 := frozen_of_row W _ 3 _ _ q2
    have yb := cell_of_row W _ 0 _ _ _ q3
    have zb := frozen_of_row W _ 0 _ _ q3
    have HL : Hid (pre ++ [⟨pk, pn, pa, ps⟩] <+: Gd.partsL ∨ True) := Lib.hid (Or.inr trivial)
    clear hl hr bX hp q0 q1 q2 q3 hB1 hlt
    unfold ptV
    by_cases hk : (pk : Int) = k
    · by_cases hm : (pn : Int) = m
      · subst hk hm
        gi_wp2
        have s0 : CellsAt _ (w.heap.size + 1 + 1) 136 _ := Go.heap_setCell_same W _ 0 _ _ (.int .i64 pk) HP.out.2.2.2.1
        have s1 : CellsAt _ (w.heap.size + 1 + 1) 136 _ := Go.heap_setCell_same _ _ 1 _ _ (.int .i64 pn) s0
        have s2 : CellsAt _ (w.heap.size + 1 + 1) 136 _ := Go.heap_setCell_same _ _ 2 _ _ (.int .i64 pa) s1
        have s3 : CellsAt _ (w.heap.size + 1 + 1) 136 _ := Go.heap_setCell_same _ _ 3 _ _ (.int .i64 ps) s2
        have b0 : ∀ (V : World) (i : Nat) (v : Value), CellsAt V (w.heap.size + 1 + 1 + 1) 4 #[.bool false] → CellsAt (V.setCell ⟨w.heap.size + 1 + 1, i, none⟩ v) (w.heap.size + 1 + 1 + 1) 4 #[.bool false] := fun V i v h => (Go.heap_setCell_other V ⟨w.heap.size + 1 + 1, i, none⟩ _ v (by simp)).trans h
        have kk : ∀ (V : World) (a : Addr) (v : Value), KeepsFrom (w.heap.size + 4) W V → KeepsFrom (w.heap.size + 4) W (V.setCell a v) := fun V a v h => h.trans ((KeepsOthers.setCell V a v).from _)
        have bb : ∀ (V : World) (i : Nat) (j : Nat) (v : Value), w.heap.size ≤ i → Below w.heap.size w V → Below w.heap.size w (V.setCell ⟨i, j, none⟩ v) := fun V i j v hi h => h.setCell hi v
        refine ⟨kk _ _ _ (kk _ _ _ (kk _ _ _ (kk _ _ _ (kk _ _ _ (KeepsFrom.refl _ _))))), ⟨rfl, ⟨pre, ⟨pk, pn, pa, ps⟩, ⟨rfl, HP.out.1, by simp [Gd.isP]⟩, (Go.heap_setCell_other _ _ _ _ (by simp)).trans s3⟩, ?_⟩, bb _ _ _ _ (by omega) (bb _ _ _ _ (by omega) (bb _ _ _ _ (by omega) (bb _ _ _ _ (by omega) (bb _ _ _ _ (by omega) HB.out))))⟩
        exact Go.heap_setCell_same _ _ 0 _ _ (.bool true) (b0 _ _ _ (b0 _ _ _ (b0 _ _ _ (b0 _ _ _ HP.out.2.2.2.2))))
      · have HN : Hid (Gd.isP k m ⟨pk, pn, pa, ps⟩ = false) := Lib.hid (by simp [Gd.isP, hm])
        have hm' : m ≠ (pn : Int) := fun e => hm e.symm
        gi_wp2
        exact ⟨KeepsFrom.refl _ _, keepsC_r _ _, ⟨⟨⟨⟨fun r hr => (List.mem_append.1 hr).elim (HP.out.1 r) (fun e => by rw [List.mem_singleton.1 e]; exact HN.out), HP.out.2.1⟩, HP.out.2.2.1⟩, HP.out.2.2.2.1⟩, HP.out.2.2.2.2⟩, HB.out⟩
    · have HN : Hid (Gd.isP k m ⟨pk, pn, pa, ps⟩ = false) := Lib.hid (by simp [Gd.isP, hk])
      have hk' : k ≠ (pk : Int) := fun e => hk e.symm
      gi_wp2
      exact ⟨KeepsFrom.refl _ _, keepsC_r _ _, ⟨⟨⟨⟨fun r hr => (List.mem_append.1 hr).elim (HP.out.1 r) (fun e => by rw [List.mem_singleton.1 e]; exact HN.out), HP.out.2.1⟩, HP.out.2.2.1⟩, HP.out.2.2.2.1⟩, HP.out.2.2.2.2⟩, HB.out⟩
  case done =>
    rintro D zs W hD rfl ⟨⟨⟨⟨⟨hp, q0⟩, q1⟩, q2⟩, q3⟩, hB1⟩ hK
    have HN : Hid (Gd.findP k m = none) := Lib.hid (List.find?_eq_none.2 fun p h => by rw [hp p h]; decide)
    have y0 := cell_of_row W _ 0 _ _ _ q2
    have y1 := cell_of_row W _ 1 _ _ _ q2
    have y2 := cell_of_row W _ 2 _ _ _ q2
    have y3 := cell_of_row W _ 3 _ _ _ q2
    have z0 := frozen_of_row W _ 0 _ _ q2
    have z1 := frozen_of_row W _ 1 _ _ q2
    have z2 := frozen_of_row W _ 2 _ _ q2
    have z3 := frozen_of_row W _ 3 _ _ q2
    have yb := cell_of_row W _ 0 _ _ _ q3
    have zb := frozen_of_row W _ 0 _ _ q3
    have HK := Lib.hid (And.intro hD (And.intro q2 (And.intro q3 (And.intro hB1 hK))))
    clear hp q0 q1 q2 q3 hB1 hK
    gi_wp2
    have b0 : ∀ (V : World) (i : Nat) (v : Value), CellsAt V (w.heap.size + 1 + 1 + 1) 4 #[.bool false] → CellsAt (V.setCell ⟨w.heap.size + 1 + 1, i, none⟩ v) (w.heap.size + 1 + 1 + 1) 4 #[.bool false] := fun V i v h => (Go.heap_setCell_other V ⟨w.heap.size + 1 + 1, i, none⟩ _ v (by simp)).trans h
    have bb : ∀ (V : World) (i : Nat) (j : Nat) (v : Value), w.heap.size ≤ i → Below w.heap.size w V → Below w.heap.size w (V.setCell ⟨i, j, none⟩ v) := fun V i j v hi h => h.setCell hi v
    have dd : ∀ (V : World) (i : Nat) (j : Nat) (v : Value), i < w.heap.size + 4 → V.heap[D]? = some (.deferred (some [])) → (V.setCell ⟨i, j, none⟩ v).heap[D]? = some (.deferred (some [])) := fun V i j v hi h => (Go.heap_setCell_other V ⟨i, j, none⟩ _ v (show D ≠ i by omega)).trans h
    have s0 : CellsAt _ (w.heap.size + 1 + 1) 136 _ := Go.heap_setCell_same W _ 0 _ _ (.int .i64 0) HK.out.2.1
    have s1 : CellsAt _ (w.heap.size + 1 + 1) 136 _ := Go.heap_setCell_same _ _ 1 _ _ (.int .i64 0) s0
    have s2 : CellsAt _ (w.heap.size + 1 + 1) 136 _ := Go.heap_setCell_same _ _ 2 _ _ (.int .i64 0) s1
    have s3 : CellsAt _ (w.heap.size + 1 + 1) 136 _ := Go.heap_setCell_same _ _ 3 _ _ (.int .i64 0) s2
    obtain ⟨V, hV⟩ : ∃ V, V = ((((W.setCell ⟨w.heap.size + 1 + 1, 0, none⟩ (.int .i64 0)).setCell ⟨w.heap.size + 1 + 1, 1, none⟩ (.int .i64 0)).setCell ⟨w.heap.size + 1 + 1, 2, none⟩ (.int .i64 0)).setCell ⟨w.heap.size + 1 + 1, 3, none⟩ (.int .i64 0)).setCell ⟨w.heap.size + 1 + 1 + 1, 0, none⟩ (.bool false) := ⟨_, rfl⟩
    rw [← hV]
    have v2 : CellsAt V (w.heap.size + 1 + 1) 136 #[.int .i64 0, .int .i64 0, .int .i64 0, .int .i64 0] := by rw [hV]; exact (Go.heap_setCell_other _ ⟨w.heap.size + 1 + 1 + 1, 0, none⟩ _ (.bool false) (by simp)).trans s3
    have v3 : CellsAt V (w.heap.size + 1 + 1 + 1) 4 #[.bool false] := by rw [hV]; exact Go.heap_setCell_same _ _ 0 _ _ (.bool false) (b0 _ _ _ (b0 _ _ _ (b0 _ _ _ (b0 _ _ _ HK.out.2.2.1))))
    have vk : V.heap[D]? = some (.deferred (some [])) := by rw [hV]; exact dd _ _ _ _ (by omega) (dd _ _ _ _ (by omega) (dd _ _ _ _ (by omega) (dd _ _ _ _ (by omega) (dd _ _ _ _ (by omega) HK.out.2.2.2.2))))
    have vb : Below w.heap.size w V := by rw [hV]; exact bb _ _ _ _ (by omega) (bb _ _ _ _ (by omega) (bb _ _ _ _ (by omega) (bb _ _ _ _ (by omega) (bb _ _ _ _ (by omega) HK.out.2.2.2.1))))
    clear hV s0 s1 s2 s3 b0 bb dd y0 y1 y2 y3 z0 z1 z2 z3 yb zb
    have e2 : CellsAt (V.putObj D (.deferred none)) (w.heap.size + 1 + 1) 136 _ := (World.putObj_heap_other (show w.heap.size + 1 + 1 ≠ D by omega)).trans v2
    have e3 : CellsAt (V.putObj D (.deferred none)) (w.heap.size + 1 + 1 + 1) 4 _ := (World.putObj_heap_other (show w.heap.size + 1 + 1 + 1 ≠ D by omega)).trans v3
    have y0 := cell_of_row _ _ 0 _ _ _ e2
    have y1 := cell_of_row _ _ 1 _ _ _ e2
    have y2 := cell_of_row _ _ 2 _ _ _ e2
    have y3 := cell_of_row _ _ 3 _ _ _ e2
    have y4 := cell_of_row _ _ 0 _ _ _ e3
    refine ⟨by simp, .inl ⟨_, _, rfl, run_takeDeferred vk, ?_⟩⟩
    refine ⟨.tuple #[.agg #[.int .i64 0, .int .i64 0, .int .i64 0, .int .i64 0], .bool false], ?_, by rw [HN.out]; rfl, vb.trans ?_⟩
    · simp [results, Tryz.f68, go_sem, y0, y1, y2, y3, y4]
    · exact belowK_b (w := w) (Nat.le_refl _) _ D _ _ (by omega) vk rfl rfl
  case stop =>
    rintro D c pre W hD hpre ⟨⟨rfl, ⟨q, p, ⟨rfl, hq, hp⟩, q2⟩, q3⟩, hB1⟩ hK
    have HF : Hid (Gd.findP k m = some p) := Lib.hid (by
      obtain ⟨s, hs⟩ := hpre
      unfold Gd.findP
      rw [← hs, List.append_assoc, List.find?_append, List.find?_eq_none.2 (fun r h => by rw [hq r h]; decide)]
      simp [hp])
    gi_wp2
    have hs := hB1.size
    have e2 : CellsAt (W.putObj D (.deferred none)) (w.heap.size + 1 + 1) 136 _ := (World.putObj_heap_other (show w.heap.size + 1 + 1 ≠ D by omega)).trans q2
    have e3 : CellsAt (W.putObj D (.deferred none)) (w.heap.size + 1 + 1 + 1) 4 _ := (World.putObj_heap_other (show w.heap.size + 1 + 1 + 1 ≠ D by omega)).trans q3
    unfold ptC at e2
    have y0 := cell_of_row _ _ 0 _ _ _ e2
    have y1 := cell_of_row _ _ 1 _ _ _ e2
    have y2 := cell_of_row _ _ 2 _ _ _ e2
    have y3 := cell_of_row _ _ 3 _ _ _ e2
    have y4 := cell_of_row _ _ 0 _ _ _ e3
    refine ⟨by simp, .inl ⟨_, _, rfl, run_takeDeferred hK, ?_⟩⟩
    refine ⟨.tuple #[ptV p, .bool true], ?_, by rw [HF.out]; rfl, hB1.trans ?_⟩
    · simp [results, Tryz.f68, go_sem, y0, y1, y2, y3, y4, ptV]
    · exact belowK_b (w := w) (Nat.le_refl _) _ D _ _ (by omega) hK rfl rfl

end Go.Proofs.YtginffdngphjpaaGreatDoor

/- Walk: layout.Size; and where a part lies. -/
namespace Go.Proofs.YtginffdngphjpaaGreatDoor
open Go.RowKit Go.Shelf

attribute [local go_sem] Oper.semAt_some

namespace Gd
deriving instance DecidableEq for Pt
def ptAt (k m : Int) : Option Pt := (partAt k m).map fun x => ⟨k.toNat, m.toNat, x.1, x.2⟩
theorem findP_some : ∀ (k : Fin 8) (m : Fin 129), findP (k.val : Int) (m.val : Int) = ptAt (k.val : Int) (m.val : Int) := by decide +kernel
theorem parts_in : ∀ p ∈ partsL, p.k ≤ 7 ∧ p.n ≤ 128 := by decide +kernel
theorem findP_at (k m : Int) : findP k m = ptAt k m := by
  by_cases h : 0 ≤ k ∧ k ≤ 7 ∧ 0 ≤ m ∧ m ≤ 128
  · have := findP_some ⟨k.toNat, by omega⟩ ⟨m.toNat, by omega⟩
    rw [show ((⟨k.toNat, by omega⟩ : Fin 8).val : Int) = k by simp; omega, show ((⟨m.toNat, by omega⟩ : Fin 129).val : Int) = m by simp; omega] at this
    exact this
  · have e : findP k m = none := List.find?_eq_none.2 fun p hp => by
      have := parts_in p hp
      simp only [isP, Bool.and_eq_true, beq_iff_eq, not_and]
      intro h1 h2
      omega
    rw [e]
    unfold ptAt partAt
    symm
    rw [Option.map_eq_none_iff]
    split <;> (try split) <;> (try split) <;> (try split) <;> (try split) <;> (try split) <;> (try split) <;> (try split) <;> first | rfl | omega
theorem parts_small : ∀ p ∈ partsL, p.s ≤ 4096 := by decide +kernel
theorem parts_size : (partsL.map (fun p => p.s)).sum = 23168 := by decide +kernel
end Gd

def SizeIs (pre : List Gd.Pt) (v : Int) : Prop := (∀ p ∈ pre, p.s ≤ 4096) → v = ((pre.map fun p => p.s).sum : Nat) ∧ (pre.map fun p => p.s).sum ≤ pre.length * 4096

set_option maxRecDepth 100000 in
set_option maxHeartbeats 8000000 in
theorem size_in (F : Fence) (n : Nat) (hf : F.fn 64) (hf2 : F.fn 96) (hf3 : F.fn 134) (hro : F.round = none) (hn : 6 ≤ n) (w : World) :
    CallsIn F n Tryz.prog 64 #[] w fun e W' => e = .returned (.int .i64 23168) ∧ Below w.heap.size w W' := by
  have h1 : 1 ≤ n := by omega
  refine callsIn_of_wp_marks Tryz.func64 rfl hf ?_ hro
  simp only [Tryz.ntmps64, List.size_toArray, List.length_cons, List.length_nil, Nat.reduceAdd, Nat.reduceSub, Array.replicate_succ, Array.replicate_zero, List.push_toArray, List.append_toArray, List.nil_append, List.cons_append]
  gi_wp2
  obtain ⟨W0, hW0⟩ : ∃ W0, W0 = w.alloc (.cells #[.int .i64 0] 3) := ⟨_, rfl⟩
  have c0 : CellsAt W0 w.heap.size 3 #[.int .i64 0] := by rw [hW0]; exact heap_alloc_new w _
  have hB0 : Below w.heap.size w W0 := by rw [hW0]; exact (Below.refl _ w).alloc (Nat.le_refl _) _
  have hsz : W0.heap.size = w.heap.size + 1 := by rw [hW0]; simp
  rw [← hW0]
  clear hW0
  refine wpIn_rangeFunc_ownH hro h1 (gf := 96) (lb := #[]) rfl hf2 (enters_of Tryz.func96 (by kernel_rfl) rfl)
    (parts_stops F (n - 1) hf2 hf3 hro (by omega) W0.heap.size W0 (Nat.le_refl _)) (keepsC_t _) (keepsC_b _ (w := W0)) (Below.refl _ _) (fun _ => rfl)
    (fun pre W => (∃ v : Int, SizeIs pre v ∧ CellsAt W w.heap.size 3 #[.int .i64 v]) ∧ Below w.heap.size w W)
    (fun c pre W => False)
    ?o1 ?o2 ?o3
    (fun x a' W => ∃ Bx, w.heap.size + 1 ≤ Bx ∧ CellsAt W Bx 136 (ptC x) ∧ a' = { tmps := #[.int .i64 0, .pointer (some ⟨w.heap.size, 0, none⟩), .pointer (some ⟨Bx, 0, none⟩), ptV x, undef, undef, undef, undef, undef], defers := [] })
    ?o4 ?assign ?body ?done ?stop
  case o1 => exact OwnFrom.and (fun s X Y row ⟨v, h1, h2⟩ hg hr => ⟨v, h1, cellsAt_own _ _ (fun (_ : Unit) => #[Value.int .i64 v]) () X Y row h2 hg (fun r e => (hr r e).2)⟩) (ownFrom_below (Nat.le_refl _) (by omega))
  case o2 => exact fun c => ownFrom_pure _ _
  case o3 => exact ⟨⟨0, fun _ => ⟨rfl, Nat.le_refl _⟩, c0⟩, hB0⟩
  case o4 =>
    rintro x a' _ X Y row ⟨Bx, e1, e2, e3⟩ hg hr
    exact ⟨Bx, e1, cellsAt_own _ _ (fun (_ : Unit) => ptC x) () X Y row e2 hg (fun r e => (hr r e).2), e3⟩
  case assign =>
    rintro l pre ⟨pk, pn, pa, ps⟩ W K ⟨⟨v, hv, q0⟩, hB1⟩ hK
    have HK := Lib.hid hK
    have HP := Lib.hid (And.intro hv q0)
    have HB := Lib.hid hB1
    have hlt := hB1.size
    have hlt3 := q0.lt
    clear hK hv q0 hB1
    unfold ptV
    gi_wp2
    exact HK.out _ _ ((KeepsOthers.alloc _ _).from _) (keepsC_below _ ((Below.refl _ W).alloc (Nat.le_refl _) _)) ⟨⟨v, HP.out.1, HP.out.2.alloc _⟩, HB.out.alloc hlt _⟩ ⟨W.heap.size, by omega, heap_alloc_new W _, rfl⟩
  case body =>
    rintro l pre ⟨pk, pn, pa, ps⟩ a' W hl ⟨r, hr⟩ ⟨⟨v, hv, q0⟩, hB1⟩ ⟨Bx, hBx, bX, rfl⟩ hlt
    have HP := Lib.hid (And.intro hv q0)
    have HB := Lib.hid hB1
    have HL := Lib.hid hlt
    have x3 := cell_of_row W Bx 3 _ _ _ bX
    have y0 := cell_of_row W _ 0 _ _ _ q0
    have z0 := frozen_of_row W _ 0 _ _ q0
    unfold ptC at x3
    clear hl hr bX hv q0 hB1 hlt
    unfold ptV
    gi_wp2
    refine ⟨(KeepsOthers.setCell _ _ _).from _, fun k hk c t fr h => (Go.heap_setCell_other W ⟨w.heap.size, 0, none⟩ k _ (show k ≠ w.heap.size by omega)).trans h, ⟨_, fun hs => ?_, Go.heap_setCell_same W _ 0 _ _ _ HP.out.2⟩, HB.out.setCell (Nat.le_refl _) _⟩
    obtain ⟨e1, e2⟩ := HP.out.1 fun p hp => hs p (List.mem_append.2 (Or.inl hp))
    have e3 := hs ⟨pk, pn, pa, ps⟩ (List.mem_append.2 (Or.inr (List.mem_singleton.2 rfl)))
    have e4 := HL.out
    dsimp only at e3
    simp only [List.map_append, List.sum_append, List.map_cons, List.map_nil, List.sum_cons, List.sum_nil, Nat.add_zero, List.length_append, List.length_singleton]
    generalize (pre.map fun p => p.s).sum = S at *
    subst e1
    constructor
    · unfold wrap64
      omega
    · omega
  case done =>
    rintro D zs W hD rfl ⟨⟨v, hv, q0⟩, hB1⟩ hK
    have y0 := cell_of_row W _ 0 _ _ _ q0
    obtain rfl : v = 23168 := by rw [(hv Gd.parts_small).1, Gd.parts_size]; rfl
    have HQ := Lib.hid q0
    have HK := Lib.hid (And.intro hB1 hK)
    clear hv q0 hB1 hK
    gi_wp2
    have y0 : (W.putObj D (.deferred none)).cell? ⟨w.heap.size, 0, none⟩ = some (.int .i64 23168) := cell_of_row _ _ 0 _ _ _ ((World.putObj_heap_other (show w.heap.size ≠ D by omega)).trans HQ.out)
    refine ⟨by simp, .inl ⟨_, _, rfl, run_takeDeferred HK.out.2, ?_⟩⟩
    refine ⟨.int .i64 23168, ?_, rfl, HK.out.1.trans ?_⟩
    · simp [results, Tryz.f64, go_sem]
    · exact belowK_b (w := w) (Nat.le_refl _) _ D _ _ (by omega) HK.out.2 rfl rfl
  case stop =>
    rintro D c pre W hD hpre hF hK
    exact hF.elim

end Go.Proofs.YtginffdngphjpaaGreatDoor

/- Walks: the log: its end, keep, Clear. -/
namespace Go.Proofs.YtginffdngphjpaaGreatDoor
open Go.RowKit Go.Shelf

attribute [local go_sem] Oper.semAt_some

theorem le_get {N : Nat} (hN : N < 9223372036854775808) : Gd.get (Gd.le N 8) 0 8 = N := by
  have e : Gd.getN (Gd.le N 8) 0 8 = N := by
    unfold Gd.getN
    rw [List.drop_zero, List.take_of_length_le (by rw [Gd.le_length]; exact Nat.le_refl _)]
    exact Gd.unle_le 8 N (by omega)
  unfold Gd.get Gd.getB
  rw [Gd.le_length, show (0 : Int).toNat = 0 from rfl, e]
  simp
  omega

set_option maxHeartbeats 4000000 in
set_option maxRecDepth 100000 in
theorem end_any {g m K N : Nat} {S : List UInt8} {F : Nat → Prop} (hN : N ≤ 4088) (w : World) (hM : MemF m S K w F) (hL : LogAt w g m 2688 4096) (hS : S.length = 23168) (he : Gd.part S 2688 8 = Gd.le N 8) :
    Calls Tryz.prog 127 #[.pointer (some ⟨g, 0, none⟩)] w fun e w' => e = .returned (.int .i64 N) ∧ Below w.heap.size w w' := by
  have hbd := (Below.refl w.heap.size w).drew
  have HLd := Lib.hid (mload_any 2688 8 w.drew ((MemF.held m S K).below hM hbd) (by omega) (by omega))
  rw [he] at HLd
  obtain ⟨c0, c1, c2⟩ := cell2 hL
  have HLg : Hid (LogAt w.drew g m 2688 4096) := Lib.hid ((hbd.block g (lt_get hL)).trans hL)
  have HBd := Lib.hid hbd
  have HGg := Lib.hid (fun N (h : N < 9223372036854775808) => @le_get N h)
  clear hM hL hbd
  go_enter Tryz.func127, Tryz.ntmps127
  go_wp2
  go_region_with (go_at_call 94; refine HLd.out.mono ?_; rintro e w1 ⟨v, rfl, ho, hb⟩; have HO := Lib.hid ho; have HB := Lib.hid hb; clear ho hb)
  all_goals
    have HGt := Lib.hid (get_any v (Gd.le N 8) 0 8 (Or.inr (Or.inr (Or.inr rfl))) (nat_I64 (n := 0) (by omega)) w1 HO.out.at_ (by rw [Gd.le_length]; omega))
    rw [HGg.out N (by omega)] at HGt
    obtain ⟨_, _, d2⟩ := cell2 ((HB.out.block g (lt_get HLg.out)).trans HLg.out)
    have e1 : (N : Int) ≤ 4088 := by omega
    have HW : Hid (Below w.heap.size w w1) := Lib.hid (HBd.out.trans (HB.out.mono HBd.out.size))
    clear HLd HO HGg c0 c1 c2
    simp only [Exit.then]
    (first | (refine (by assumption : ∀ (a : Act) (w : World), _) _ _ ?_) | skip)
    go_wp2_with fail
    refine HGt.out.mono ?_
    rintro e w2 ⟨rfl, rfl⟩
    go_wp2
    go_ret
    exact ⟨rfl, HW.out⟩

end Go.Proofs.YtginffdngphjpaaGreatDoor
