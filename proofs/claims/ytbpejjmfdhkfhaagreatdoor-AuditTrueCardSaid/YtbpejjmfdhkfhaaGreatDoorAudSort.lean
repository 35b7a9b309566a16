/- Walks: Go's stable sort, of items that stand in their order already. -/
import Derived.Test.YtbpejjmfdhkfhaaGreatDoorNamesWalkA
import Derived.Deep.RegionHeld3
import Derived.Deep.CutRange
import Derived.Deep.RegionWith
import Derived.BigQuiet
import Derived.Deep.QuietTactic
import Derived.IntWalk
set_option linter.unusedVariables false
set_option linter.unusedSimpArgs false
namespace Go.Proofs.YtbpejjmfdhkfhaaGreatDoor
open Go.RowKit

/-- what happened: when, whose, which event -/
structure It where
  at_ : Int
  cl : Int
  ev : Int
def itV (x : It) : Value := .agg #[.int .i64 x.at_, .int .i64 x.cl, .int .i64 x.ev]
def Its (w : World) (A : Option Addr) (L : List It) : Prop :=
  L = [] ∨ ∃ b o, A = some ⟨b, o, none⟩ ∧ b < w.heap.size ∧ ∀ (j : Nat) (x : It), L[j]? = some x → w.cell? ⟨b, o + j * 3, none⟩ = some (.int .i64 x.at_) ∧ w.cell? ⟨b, o + j * 3 + 1, none⟩ = some (.int .i64 x.cl) ∧ w.cell? ⟨b, o + j * 3 + 2, none⟩ = some (.int .i64 x.ev)
theorem Its.keep {w w' : World} {A : Option Addr} {L : List It} (h : Its w A L) (hb : Below w.heap.size w w') : Its w' A L := by
  rcases h with h | ⟨b, o, h1, h2, h3⟩
  · exact Or.inl h
  · have e : ∀ i, w'.cell? ⟨b, i, none⟩ = w.cell? ⟨b, i, none⟩ := fun i => hb.cell (p := ⟨b, i, none⟩) h2
    exact Or.inr ⟨b, o, h1, Nat.lt_of_lt_of_le h2 hb.size, fun j x hx => by
      obtain ⟨a0, a1, a2⟩ := h3 j x hx
      exact ⟨(e _).trans a0, (e _).trans a1, (e _).trans a2⟩⟩

theorem nan_any (x : Int) (w : World) : Calls Tryz.prog 82 #[.int .i64 x] w fun e w' => e = .returned (.bool false) ∧ Below w.heap.size w w' := by
  have h : ((x : Int) != x) = false := by simp
  go_enter Tryz.func82, Tryz.ntmps82
  go_wp2
  go_ret
  exact ⟨rfl, Below.refl _ _⟩

theorem cmp_any (x y : Int) (w : World) : Calls Tryz.prog 71 #[.int .i64 x, .int .i64 y] w fun e w' => (∃ r : Int, e = .returned (.int .i64 r) ∧ (y < x → r = 1)) ∧ Below w.heap.size w w' := by
  go_enter Tryz.func71, Tryz.ntmps71
  go_wp2_with fail
  refine (nan_any x w).mono ?_
  rintro e w1 ⟨rfl, hb1⟩
  go_wp2_with fail
  refine (nan_any y w1).mono ?_
  rintro e w2 ⟨rfl, hb2⟩
  have HB := Lib.hid (hb1.trans (hb2.mono hb1.size))
  clear hb1 hb2
  by_cases h1 : x < y
  · go_wp2
    go_ret
    exact ⟨⟨_, rfl, fun h => by omega⟩, HB.out⟩
  · by_cases h2 : y < x
    · have h1' : y ≤ x := by omega
      clear h1
      go_wp2
      go_ret
      exact ⟨⟨_, rfl, fun _ => rfl⟩, HB.out⟩
    · have h3 : x = y := by omega
      subst h3
      clear h1 h2
      go_wp2
      go_ret
      exact ⟨⟨_, rfl, fun h => by omega⟩, HB.out⟩

theorem or_any (b : Nat) (y : Int) (w : World) (h0 : w.cell? ⟨b, 0, none⟩ = some (.int .i64 1)) : Calls Tryz.prog 70 #[.slice (some ⟨b, 0, none⟩) 2 2] w fun e w' => e = .returned (.int .i64 1) ∧ Below w.heap.size w w' := by
  have h2 : ((1 : Int) != 0) = true := by decide
  go_enter Tryz.func70, Tryz.ntmps70
  go_wp2
  refine wp_loop_rounds 1 ?_
  rw [rounds_succ]
  go_wp2
  go_ret
  exact ⟨rfl, Below.refl _ _⟩

set_option maxHeartbeats 4000000 in
set_option maxRecDepth 100000 in
theorem lit_order (x y : It) (hxy : y.at_ < x.at_) (w : World) : Calls Tryz.prog 69 #[itV x, itV y] w fun e w' => e = .returned (.int .i64 1) ∧ Below w.heap.size w w' := by
  obtain ⟨wb, hwb⟩ : ∃ v, v = (w.alloc (.cells #[.int .i64 x.at_, .int .i64 x.cl, .int .i64 x.ev] 92)).alloc (.cells #[.int .i64 y.at_, .int .i64 y.cl, .int .i64 y.ev] 92) := ⟨_, rfl⟩
  have hbb : Below w.heap.size w wb := by
    rw [hwb]
    exact ((Below.refl _ _).alloc (Nat.le_refl _) _).alloc (by simp) _
  have hk1 : wb.heap[w.heap.size]? = some (.cells #[.int .i64 x.at_, .int .i64 x.cl, .int .i64 x.ev] 92 (0, 0)) := by
    rw [hwb, Below.heap_alloc _ _ _ (by simp)]
    exact heap_alloc_new _ _
  have hk2 : wb.heap[w.heap.size + 1]? = some (.cells #[.int .i64 y.at_, .int .i64 y.cl, .int .i64 y.ev] 92 (0, 0)) := by
    rw [hwb]
    have := heap_alloc_new (w.alloc (.cells #[.int .i64 x.at_, .int .i64 x.cl, .int .i64 x.ev] 92)) (.cells #[.int .i64 y.at_, .int .i64 y.cl, .int .i64 y.ev] 92)
    rw [show (w.alloc (.cells #[.int .i64 x.at_, .int .i64 x.cl, .int .i64 x.ev] 92)).heap.size = w.heap.size + 1 by simp] at this
    exact this
  have HK := Lib.hid fun W (hW : Below wb.heap.size wb W) => show W.cell? ⟨w.heap.size, 0, none⟩ = some (.int .i64 x.at_) ∧ W.cell? ⟨w.heap.size, 2, none⟩ = some (.int .i64 x.ev) ∧ W.cell? ⟨w.heap.size + 1, 0, none⟩ = some (.int .i64 y.at_) ∧ W.cell? ⟨w.heap.size + 1, 2, none⟩ = some (.int .i64 y.ev) from
    ⟨cell_of_row W _ 0 _ _ _ ((hW.block _ (Array.getElem?_eq_some_iff.1 hk1).1).trans hk1), cell_of_row W _ 2 _ _ _ ((hW.block _ (Array.getElem?_eq_some_iff.1 hk1).1).trans hk1), cell_of_row W _ 0 _ _ _ ((hW.block _ (Array.getElem?_eq_some_iff.1 hk2).1).trans hk2), cell_of_row W _ 2 _ _ _ ((hW.block _ (Array.getElem?_eq_some_iff.1 hk2).1).trans hk2)⟩
  have HBb := Lib.hid hbb
  have HWb := Lib.hid hwb
  have Hxy := Lib.hid hxy
  obtain ⟨b1, hb1⟩ : ∃ n, n = w.heap.size := ⟨_, rfl⟩
  rw [← hb1] at HK
  have Hb1 := Lib.hid hb1.symm
  have hs0 := HK.out wb.drew (Below.refl _ wb).drew
  clear hbb hwb hk1 hk2 hxy hb1
  unfold itV
  go_enter Tryz.func69, Tryz.ntmps69
  go_upto_region 1 with fail
  rw [← HWb.out]
  rw [Hb1.out]
  rcases Int.lt_or_le 0 x.ev with hx | hx
  all_goals rcases Int.lt_or_le 0 y.ev with hy | hy
  all_goals
    go_region_held3 (fun w' => w'.cell? ⟨b1, 0, none⟩ = some (.int .i64 x.at_) ∧ w'.cell? ⟨b1, 2, none⟩ = some (.int .i64 x.ev) ∧ w'.cell? ⟨b1 + 1, 0, none⟩ = some (.int .i64 y.at_) ∧ w'.cell? ⟨b1 + 1, 2, none⟩ = some (.int .i64 y.ev)) (first | exact hs0 | exact hs5 | exact hs6 | exact hs8 | go_keep) (first | (go_at_call 71; refine (cmp_any _ _ _).mono ?_; rintro e w6 ⟨⟨r6, rfl, -⟩, hb6⟩; have HB6 := Lib.hid (HB5.out.trans (hb6.mono HB5.out.size)); have hs6 := HK.out w6 HB6.out) | (go_at_call 71; refine (cmp_any x.at_ y.at_ _).mono ?_; rintro e w5 ⟨⟨r5, rfl, hr5⟩, hb5⟩; obtain rfl := hr5 Hxy.out; have HB5 := Lib.hid ((Below.refl wb.heap.size wb).drew.trans hb5); have hs5 := HK.out w5 HB5.out) | (go_at_call 70; refine (or_any w6.heap.size r6 _ (cell_of_row _ _ 0 _ _ _ (heap_alloc_new _ _))).mono ?_; rintro e w8 ⟨rfl, hb8⟩; have HB8 := Lib.hid (HB6.out.trans (((Below.refl _ w6).alloc (Nat.le_refl _) _).trans (hb8.mono (by simp)) |>.mono HB6.out.size)); have hs8 := HK.out w8 HB8.out))
    all_goals
      simp only [Exit.then]
      go_wp2
      go_ret
      exact ⟨rfl, HBb.out.trans (HB8.out.mono HBb.out.size)⟩

end Go.Proofs.YtbpejjmfdhkfhaaGreatDoor

/- Walks: Go's stable sort, of items that stand in their order already: nothing is turned. -/
namespace Go.Proofs.YtbpejjmfdhkfhaaGreatDoor
open Go.RowKit

/-- two items' cells -/
def Two (w : World) (b i j : Nat) (x y : It) : Prop :=
  w.cell? ⟨b, i, none⟩ = some (.int .i64 x.at_) ∧ w.cell? ⟨b, i + 1, none⟩ = some (.int .i64 x.cl) ∧ w.cell? ⟨b, i + 2, none⟩ = some (.int .i64 x.ev) ∧ w.cell? ⟨b, j, none⟩ = some (.int .i64 y.at_) ∧ w.cell? ⟨b, j + 1, none⟩ = some (.int .i64 y.cl) ∧ w.cell? ⟨b, j + 2, none⟩ = some (.int .i64 y.ev)
theorem Its.two {w : World} {A : Option Addr} {L : List It} (h : Its w A L) (hs : L.Pairwise fun a b => a.at_ < b.at_) {i j : Nat} (hij : j < i) (hi : i < L.length) : ∃ b o x y, A = some ⟨b, o, none⟩ ∧ b < w.heap.size ∧ y.at_ < x.at_ ∧ ∀ W, Below w.heap.size w W → Two W b (o + i * 3) (o + j * 3) x y := by
  rcases h with h | ⟨b, o, rfl, hb, hc⟩
  · rw [h] at hi; simp at hi
  · refine ⟨b, o, L[i], L[j], rfl, hb, List.pairwise_iff_getElem.1 hs j i (by omega) hi hij, fun W hW => ?_⟩
    obtain ⟨h0, h1, h2⟩ := hc i L[i] (List.getElem?_eq_getElem hi)
    obtain ⟨g0, g1, g2⟩ := hc j L[j] (List.getElem?_eq_getElem (by omega))
    have e : ∀ k, W.cell? ⟨b, k, none⟩ = w.cell? ⟨b, k, none⟩ := fun k => hW.cell (p := ⟨b, k, none⟩) hb
    exact ⟨(e _).trans h0, (e _).trans h1, (e _).trans h2, (e _).trans g0, (e _).trans g1, (e _).trans g2⟩

set_option maxHeartbeats 4000000 in
set_option maxRecDepth 100000 in
theorem ins_any (A : Option Addr) (L : List It) (c a e : Nat) (hs : L.Pairwise fun a b => a.at_ < b.at_) (hl : L.length ≤ 1000) (hae : e ≤ L.length) (ha : a ≤ 1000) (w : World) (hI : Its w A L) :
    Calls Tryz.prog 96 #[.slice A L.length c, .int .i64 a, .int .i64 e, .func (.func 69) #[] #[]] w fun x w' => x = .returned (.tuple #[]) ∧ Below w.heap.size w w' := by
  have HI := Lib.hid hI
  have HS := Lib.hid hs
  obtain ⟨n, hn⟩ : ∃ n, n = L.length := ⟨_, rfl⟩
  rw [← hn] at hae hl
  rw [← hn]
  have Hn := Lib.hid hn
  clear hI hs hn
  go_enter Tryz.func96, Tryz.ntmps96
  go_wp2
  go_loopw [8] (fun v wr => ∃ i : Nat, v = .int .i64 i ∧ a < i ∧ i ≤ e + a + 1 ∧ Hid (Below w.heap.size w wr)) (fun v _ => e - (intOf v).toNat)
  case atStart => exact ⟨a + 1, by go_num, by omega, by omega, Lib.hid (Below.refl _ _)⟩
  case round =>
    obtain ⟨i, rfl, hai, hie, HB⟩ := hrel
    by_cases hlt : i < e
    · obtain ⟨k, hik0⟩ : ∃ k, i = k + 1 := ⟨i - 1, by omega⟩
      obtain ⟨b, o, x, y, rfl, hbl, hxy, hT⟩ := HI.out.two HS.out (i := i) (j := k) (by omega) (by have := Hn.out; omega)
      have HT := Lib.hid fun W (hW : Below w.heap.size w W) => hT W hW
      have HXY := Lib.hid hxy
      have Hik := Lib.hid hik0


      have hik3 : IntKind.i64.wrap ((i : Int) - 1) = k := (IntWalk.i64_in _ (by omega)).trans (by omega)
      have hlt' : (i : Int) < e := by omega
      have hai' : (a : Int) < i := by omega
      have hin : (i : Int) < n := by omega
      have hkn : (k : Int) < n := by omega
      have hi0 : (0 : Int) ≤ i := by omega
      have hk0 : (0 : Int) ≤ k := by omega
      clear hT hxy hlt hik0
      go_wp2
      go_loopw [9] (fun v wz => v = .int .i64 i ∧ wz = wr) (fun _ _ => 0)
      case atStart => exact ⟨rfl, rfl⟩
      case round =>
        obtain ⟨rfl, rfl⟩ := hrel
        rename_i wz
        have hs0 : Two _ b (o + i * 3) (o + k * 3) x y := HT.out _ (HB.out.drew)
        unfold Two at hs0
        go_upto_region 4 with fail
        go_region_held3 (fun w' => w'.cell? ⟨b, o + i * 3, none⟩ = some (.int .i64 x.at_) ∧ w'.cell? ⟨b, o + i * 3 + 1, none⟩ = some (.int .i64 x.cl) ∧ w'.cell? ⟨b, o + i * 3 + 2, none⟩ = some (.int .i64 x.ev) ∧ w'.cell? ⟨b, o + k * 3, none⟩ = some (.int .i64 y.at_) ∧ w'.cell? ⟨b, o + k * 3 + 1, none⟩ = some (.int .i64 y.cl) ∧ w'.cell? ⟨b, o + k * 3 + 2, none⟩ = some (.int .i64 y.ev)) (first | exact hs0 | exact hs5 | go_keep) (first | (refine (lit_order x y HXY.out _).mono ?_; rintro e w5 ⟨rfl, hb5⟩; have HB5 := Lib.hid ((HB.out.drew).trans (hb5.mono HB.out.size)); have hs5 := HT.out w5 HB5.out; unfold Two at hs5))
        all_goals
          simp only [Exit.then]
          clear hs0 hs5
          go_wp2
          go_roundw
          case rel => exact ⟨i + 1, by go_num, by omega, by omega, HB5⟩
          case measure => simp [intOf]; omega
    · have hlt' : (e : Int) ≤ i := by omega
      go_wp2
      go_end0
      exact ⟨rfl, HB.out⟩

set_option maxHeartbeats 8000000 in
set_option maxRecDepth 100000 in
theorem sym_any (A : Option Addr) (L : List It) (c : Nat) (hs : L.Pairwise fun a b => a.at_ < b.at_) (hl : L.length ≤ 1000) : ∀ (z a m e : Nat) (w : World), e - a ≤ z → a < m → m < e → e ≤ L.length → Its w A L →
    Calls Tryz.prog 97 #[.slice A L.length c, .int .i64 a, .int .i64 m, .int .i64 e, .func (.func 69) #[] #[]] w fun x w' => x = .returned (.tuple #[]) ∧ Below w.heap.size w w' := by
  intro z
  induction z with
  | zero => intro a m e w h1 h2 h3; omega
  | succ z ih =>
    intro a m e w hz ham hme hel hI
    have HI := Lib.hid hI
    have HS := Lib.hid hs
    obtain ⟨n, hn⟩ : ∃ n, n = L.length := ⟨_, rfl⟩
    have Ih := Lib.hid fun a' m' e' W (h1 : e' - a' ≤ z) (h2 : a' < m') (h3 : m' < e') (h4 : e' ≤ n) (hW : Below w.heap.size w W) => ih a' m' e' W h1 h2 h3 (by omega) (hI.keep hW)
    rw [← hn] at hel hl Ih
    rw [← hn]
    have Hn := Lib.hid hn
    clear hI hs hn ih
    by_cases h1 : m = a + 1
    · have hm1 : IntKind.i64.wrap ((m : Int) - a) = 1 := (IntWalk.i64_in _ (by omega)).trans (by omega)
      have hmm : IntKind.i64.wrap ((m : Int) - 1) = a := (IntWalk.i64_in _ (by omega)).trans (by omega)
      clear h1
      go_enter Tryz.func97, Tryz.ntmps97
      go_wp2
      go_loopw [10, 11] (fun u v wr => ∃ j : Nat, u = .int .i64 m ∧ v = .int .i64 j ∧ m ≤ j ∧ j ≤ e ∧ Hid (Below w.heap.size w wr)) (fun _ v _ => (intOf v).toNat - m)
      case atStart => exact ⟨e, rfl, rfl, by omega, by omega, Lib.hid (Below.refl _ _)⟩
      case round =>
        obtain ⟨j, rfl, rfl, hmj, hje, HB⟩ := hrel
        by_cases hlt : m < j
        · obtain ⟨h, hh⟩ : ∃ h : Nat, h = (m + j) / 2 := ⟨_, rfl⟩
          have hlt' : (m : Int) < j := by omega
          have hhi : ((m : Int) + j) / 2 = (h : Int) := by omega
          have hh1 : m ≤ h := by omega
          have hh2 : h < j := by omega
          clear hlt hh
          go_upto_region 5 with fail
          try simp only [hhi]
          obtain ⟨b, o, x, y, rfl, hbl, hxy, hT⟩ := HI.out.two HS.out (i := h) (j := a) (by omega) (by have := Hn.out; omega)
          have HT := Lib.hid fun W (hW : Below w.heap.size w W) => hT W hW
          have HXY := Lib.hid hxy
          have hs0 : Two _ b (o + h * 3) (o + a * 3) x y := HT.out _ (HB.out.drew)
          unfold Two at hs0
          have hi0 : (0 : Int) ≤ h := by omega
          have hi1 : (h : Int) < n := by omega
          have hk0 : (0 : Int) ≤ a := by omega
          have hk1 : (a : Int) < n := by omega
          clear hT hxy
          go_region_held3 (fun w' => w'.cell? ⟨b, o + h * 3, none⟩ = some (.int .i64 x.at_) ∧ w'.cell? ⟨b, o + h * 3 + 1, none⟩ = some (.int .i64 x.cl) ∧ w'.cell? ⟨b, o + h * 3 + 2, none⟩ = some (.int .i64 x.ev) ∧ w'.cell? ⟨b, o + a * 3, none⟩ = some (.int .i64 y.at_) ∧ w'.cell? ⟨b, o + a * 3 + 1, none⟩ = some (.int .i64 y.cl) ∧ w'.cell? ⟨b, o + a * 3 + 2, none⟩ = some (.int .i64 y.ev)) (first | exact hs0 | exact hs5 | go_keep) (first | (refine (lit_order x y HXY.out _).mono ?_; rintro e w5 ⟨rfl, hb5⟩; have HB5 := Lib.hid ((HB.out.drew).trans (hb5.mono HB.out.size)); have hs5 := HT.out w5 HB5.out; unfold Two at hs5; clear hb5))
          clear hs0 hs5
          try simp only [Exit.then]
          all_goals
            go_wp2
            go_roundw
            case rel => exact ⟨h, rfl, rfl, hh1, by omega, HB5⟩
            case measure => simp [intOf]; omega
        · have hlt' : (j : Int) ≤ m := by omega
          have hai : (a : Int) ≤ a := by omega
          clear hlt
          go_wp2
          refine wp_loop_rounds 1 ?_
          rw [rounds_succ]
          go_wp2
          ((try simp only [Exit.inBlock, Exit.then]); refine bodyPost_ret (results_none rfl _ _ _) rfl ?_)
          exact ⟨rfl, HB.out⟩
    · by_cases h2 : e = m + 1
      · have hm1 : IntKind.i64.wrap ((m : Int) - a) = ((m - a : Nat) : Int) := (IntWalk.i64_in _ (by omega)).trans (by omega)
        have hm1b : (((m - a : Nat) : Int) == 1) = false := by rw [beq_eq_false_iff_ne]; omega
        have hm2 : IntKind.i64.wrap ((e : Int) - m) = 1 := (IntWalk.i64_in _ (by omega)).trans (by omega)
        clear h1 h2
        go_enter Tryz.func97, Tryz.ntmps97
        go_wp2
        go_loopw [14, 15] (fun u v wr => ∃ i : Nat, u = .int .i64 i ∧ v = .int .i64 m ∧ i ≤ m ∧ Hid (Below w.heap.size w wr)) (fun u _ _ => m - (intOf u).toNat)
        case atStart => exact ⟨a, rfl, rfl, by omega, Lib.hid (Below.refl _ _)⟩
        case round =>
          obtain ⟨i, rfl, rfl, him, HB⟩ := hrel
          by_cases hlt : i < m
          · obtain ⟨h, hh⟩ : ∃ h : Nat, h = (i + m) / 2 := ⟨_, rfl⟩
            have hlt' : (i : Int) < m := by omega
            have hhi : ((i : Int) + m) / 2 = (h : Int) := by omega
            have hh1 : i ≤ h := by omega
            have hh2 : h < m := by omega
            clear hlt hh
            go_upto_region 17 with fail
            try simp only [hhi]
            obtain ⟨b, o, x, y, rfl, hbl, hxy, hT⟩ := HI.out.two HS.out (i := m) (j := h) (by omega) (by have := Hn.out; omega)
            have HT := Lib.hid fun W (hW : Below w.heap.size w W) => hT W hW
            have HXY := Lib.hid hxy
            have hs0 : Two _ b (o + m * 3) (o + h * 3) x y := HT.out _ (HB.out.drew)
            unfold Two at hs0
            have hi0 : (0 : Int) ≤ m := by omega
            have hi1 : (m : Int) < n := by omega
            have hk0 : (0 : Int) ≤ h := by omega
            have hk1 : (h : Int) < n := by omega
            clear hT hxy
            go_region_held3 (fun w' => w'.cell? ⟨b, o + m * 3, none⟩ = some (.int .i64 x.at_) ∧ w'.cell? ⟨b, o + m * 3 + 1, none⟩ = some (.int .i64 x.cl) ∧ w'.cell? ⟨b, o + m * 3 + 2, none⟩ = some (.int .i64 x.ev) ∧ w'.cell? ⟨b, o + h * 3, none⟩ = some (.int .i64 y.at_) ∧ w'.cell? ⟨b, o + h * 3 + 1, none⟩ = some (.int .i64 y.cl) ∧ w'.cell? ⟨b, o + h * 3 + 2, none⟩ = some (.int .i64 y.ev)) (first | exact hs0 | exact hs5 | go_keep) (first | (refine (lit_order x y HXY.out _).mono ?_; rintro e w5 ⟨rfl, hb5⟩; have HB5 := Lib.hid ((HB.out.drew).trans (hb5.mono HB.out.size)); have hs5 := HT.out w5 HB5.out; unfold Two at hs5; clear hb5))
            clear hs0 hs5
            try simp only [Exit.then]
            all_goals
              go_wp2
              go_roundw
              case rel => exact ⟨h + 1, by go_num, rfl, by omega, HB5⟩
              case measure => simp [intOf]; omega
          · have hlt' : (m : Int) ≤ i := by omega
            clear hlt
            go_wp2
            refine wp_loop_rounds 1 ?_
            rw [rounds_succ]
            go_wp2
            ((try simp only [Exit.inBlock, Exit.then]); refine bodyPost_ret (results_none rfl _ _ _) rfl ?_)
            exact ⟨rfl, HB.out⟩
      · obtain ⟨mid, hmid⟩ : ∃ k : Nat, k = (a + e) / 2 := ⟨_, rfl⟩
        have hm1 : IntKind.i64.wrap ((m : Int) - a) = ((m - a : Nat) : Int) := (IntWalk.i64_in _ (by omega)).trans (by omega)
        have hm1b : (((m - a : Nat) : Int) == 1) = false := by rw [beq_eq_false_iff_ne]; omega
        have hm2 : IntKind.i64.wrap ((e : Int) - m) = ((e - m : Nat) : Int) := (IntWalk.i64_in _ (by omega)).trans (by omega)
        have hm2b : (((e - m : Nat) : Int) == 1) = false := by rw [beq_eq_false_iff_ne]; omega
        have hmd : ((a : Int) + e) / 2 = (mid : Int) := by omega
        obtain ⟨q, hq⟩ : ∃ q, q = mid + m := ⟨_, rfl⟩
        obtain ⟨p, hp⟩ : ∃ p, p = q - 1 := ⟨_, rfl⟩
        have hp1 : IntKind.i64.wrap ((mid : Int) + m) = (q : Int) := (IntWalk.i64_in _ (by omega)).trans (by omega)
        have hp2 : IntKind.i64.wrap ((q : Int) - 1) = (p : Int) := (IntWalk.i64_in _ (by omega)).trans (by omega)
        have ha1 : a < mid := by omega
        have ha2 : mid < e := by omega
        have Hmid := Lib.hid hmid
        have HQ := Lib.hid (And.intro hq hp)
        clear h1 h2 hmid hq hp
        by_cases hgt : mid < m
        · have hgt' : (mid : Int) < m := by omega
          have HG := Lib.hid hgt
          obtain ⟨s0, hs0⟩ : ∃ s, s = q - e := ⟨_, rfl⟩
          have hp3 : IntKind.i64.wrap ((q : Int) - e) = (s0 : Int) := (IntWalk.i64_in _ (by have := HQ.out; have := Hmid.out; omega)).trans (by have := HQ.out; have := Hmid.out; omega)
          have Hs0 : Hid (s0 < mid ∧ a ≤ s0 ∧ s0 = q - e) := Lib.hid (by have := HQ.out; have := Hmid.out; omega)
          clear hs0
          clear hgt
          go_enter Tryz.func97, Tryz.ntmps97
          go_wp2
          go_loopw [20, 21] (fun u v wr => ∃ i : Nat, u = .int .i64 i ∧ v = .int .i64 mid ∧ a ≤ i ∧ i ≤ mid ∧ s0 ≤ i ∧ Hid (Below w.heap.size w wr)) (fun u _ _ => mid - (intOf u).toNat)
          case atStart => exact ⟨s0, rfl, rfl, by have := Hs0.out; omega, by have := Hs0.out; omega, by omega, Lib.hid (Below.refl _ _)⟩
          case round =>
            obtain ⟨i, rfl, rfl, hai, him, hsi, HB⟩ := hrel
            by_cases hlt : i < mid
            · obtain ⟨h, hh⟩ : ∃ h : Nat, h = (i + mid) / 2 := ⟨_, rfl⟩
              obtain ⟨g, hg⟩ : ∃ g : Nat, g = p - h := ⟨_, rfl⟩
              have hlt' : (i : Int) < mid := by omega
              have hhi : ((i : Int) + mid) / 2 = (h : Int) := by omega
              have hh1 : i ≤ h := by omega
              have hh2 : h < mid := by omega
              have hgl : h < g ∧ g < e := by have := HQ.out; have := HG.out; have := Hs0.out; omega
              have hgw : IntKind.i64.wrap ((p : Int) - h) = g := (IntWalk.i64_in _ (by omega)).trans (by have := HQ.out; omega)
              obtain ⟨hg1, hg2⟩ := hgl
              clear hlt hh hg
              go_upto_region 35 with fail
              obtain ⟨b, o, x, y, rfl, hbl, hxy, hT⟩ := HI.out.two HS.out (i := g) (j := h) (by omega) (by have := Hn.out; omega)
              have HT := Lib.hid fun W (hW : Below w.heap.size w W) => hT W hW
              have HXY := Lib.hid hxy
              have hs0 : Two _ b (o + g * 3) (o + h * 3) x y := HT.out _ (HB.out.drew)
              unfold Two at hs0
              have hi0 : (0 : Int) ≤ g := by omega
              have hi1 : (g : Int) < n := by omega
              have hk0 : (0 : Int) ≤ h := by omega
              have hk1 : (h : Int) < n := by omega
              clear hT hxy
              go_region_held3 (fun w' => w'.cell? ⟨b, o + g * 3, none⟩ = some (.int .i64 x.at_) ∧ w'.cell? ⟨b, o + g * 3 + 1, none⟩ = some (.int .i64 x.cl) ∧ w'.cell? ⟨b, o + g * 3 + 2, none⟩ = some (.int .i64 x.ev) ∧ w'.cell? ⟨b, o + h * 3, none⟩ = some (.int .i64 y.at_) ∧ w'.cell? ⟨b, o + h * 3 + 1, none⟩ = some (.int .i64 y.cl) ∧ w'.cell? ⟨b, o + h * 3 + 2, none⟩ = some (.int .i64 y.ev)) (first | exact hs0 | exact hs5 | go_keep) (first | (refine (lit_order x y HXY.out _).mono ?_; rintro e w5 ⟨rfl, hb5⟩; have HB5 := Lib.hid ((HB.out.drew).trans (hb5.mono HB.out.size)); have hs5 := HT.out w5 HB5.out; unfold Two at hs5; clear hb5))
              clear hs0 hs5
              try simp only [Exit.then]
              all_goals
                go_wp2
                go_roundw
                case rel => exact ⟨h + 1, by go_num, rfl, by omega, by omega, by omega, HB5⟩
                case measure => simp [intOf]; omega
            · obtain rfl : i = mid := by omega
              have hqi : IntKind.i64.wrap ((q : Int) - i) = (m : Int) := (IntWalk.i64_in _ (by have := HQ.out; omega)).trans (by have := HQ.out; omega)
              have hme' : (m : Int) < e := by omega
              have hie : (a : Int) < i := by omega
              have HC := Lib.hid (Ih.out i m e wr (by omega) HG.out hme (by omega) HB.out)
              clear hlt
              go_wp2_with fail
              refine HC.out.mono ?_
              rintro e2 w5 ⟨rfl, hb5⟩
              have HB5 := Lib.hid (HB.out.trans (hb5.mono HB.out.size))
              clear hb5
              go_wp2
              go_end0
              exact ⟨rfl, HB5.out⟩
        · have hgt' : (m : Int) ≤ mid := by omega
          have HG := Lib.hid hgt
          have hd1 : decide (mid < m) = false := decide_eq_false hgt
          clear hgt
          go_enter Tryz.func97, Tryz.ntmps97
          go_wp2
          go_loopw [20, 21] (fun u v wr => ∃ i : Nat, u = .int .i64 i ∧ v = .int .i64 m ∧ a ≤ i ∧ i ≤ m ∧ Hid (Below w.heap.size w wr)) (fun u _ _ => m - (intOf u).toNat)
          case atStart => exact ⟨a, rfl, rfl, by omega, by omega, Lib.hid (Below.refl _ _)⟩
          case round =>
            obtain ⟨i, rfl, rfl, hai, him, HB⟩ := hrel
            by_cases hlt : i < m
            · obtain ⟨h, hh⟩ : ∃ h : Nat, h = (i + m) / 2 := ⟨_, rfl⟩
              obtain ⟨g, hg⟩ : ∃ g : Nat, g = p - h := ⟨_, rfl⟩
              have hlt' : (i : Int) < m := by omega
              have hhi : ((i : Int) + m) / 2 = (h : Int) := by omega
              have hh1 : i ≤ h := by omega
              have hh2 : h < m := by omega
              have hgl : h < g ∧ g < e := by have := HQ.out; have := HG.out; have := Hmid.out; omega
              have hgw : IntKind.i64.wrap ((p : Int) - h) = g := (IntWalk.i64_in _ (by omega)).trans (by have := HQ.out; omega)
              obtain ⟨hg1, hg2⟩ := hgl
              clear hlt hh hg
              go_upto_region 35 with fail
              obtain ⟨b, o, x, y, rfl, hbl, hxy, hT⟩ := HI.out.two HS.out (i := g) (j := h) (by omega) (by have := Hn.out; omega)
              have HT := Lib.hid fun W (hW : Below w.heap.size w W) => hT W hW
              have HXY := Lib.hid hxy
              have hs0 : Two _ b (o + g * 3) (o + h * 3) x y := HT.out _ (HB.out.drew)
              unfold Two at hs0
              have hi0 : (0 : Int) ≤ g := by omega
              have hi1 : (g : Int) < n := by omega
              have hk0 : (0 : Int) ≤ h := by omega
              have hk1 : (h : Int) < n := by omega
              clear hT hxy
              go_region_held3 (fun w' => w'.cell? ⟨b, o + g * 3, none⟩ = some (.int .i64 x.at_) ∧ w'.cell? ⟨b, o + g * 3 + 1, none⟩ = some (.int .i64 x.cl) ∧ w'.cell? ⟨b, o + g * 3 + 2, none⟩ = some (.int .i64 x.ev) ∧ w'.cell? ⟨b, o + h * 3, none⟩ = some (.int .i64 y.at_) ∧ w'.cell? ⟨b, o + h * 3 + 1, none⟩ = some (.int .i64 y.cl) ∧ w'.cell? ⟨b, o + h * 3 + 2, none⟩ = some (.int .i64 y.ev)) (first | exact hs0 | exact hs5 | go_keep) (first | (refine (lit_order x y HXY.out _).mono ?_; rintro e w5 ⟨rfl, hb5⟩; have HB5 := Lib.hid ((HB.out.drew).trans (hb5.mono HB.out.size)); have hs5 := HT.out w5 HB5.out; unfold Two at hs5; clear hb5))
              clear hs0 hs5
              try simp only [Exit.then]
              all_goals
                go_wp2
                go_roundw
                case rel => exact ⟨h + 1, by go_num, rfl, by omega, by omega, HB5⟩
                case measure => simp [intOf]; omega
            · obtain rfl : i = m := by omega
              have hqi : IntKind.i64.wrap ((q : Int) - i) = (mid : Int) := (IntWalk.i64_in _ (by have := HQ.out; omega)).trans (by have := HQ.out; omega)
              have hie : (a : Int) < i := by omega
              have hmde : (mid : Int) < e := by omega
              by_cases hmi : i < mid
              · have hmi' : (i : Int) < mid := by omega
                have HC := Lib.hid (Ih.out a i mid wr (by omega) ham hmi (by omega) HB.out)
                clear hlt hmi
                go_wp2_with fail
                refine HC.out.mono ?_
                rintro e2 w5 ⟨rfl, hb5⟩
                have HB5 := Lib.hid (HB.out.trans (hb5.mono HB.out.size))
                clear hb5
                go_wp2
                go_end0
                exact ⟨rfl, HB5.out⟩
              · have hmi' : (mid : Int) ≤ i := by omega
                clear hlt hmi
                go_wp2
                go_end0
                exact ⟨rfl, HB.out⟩

set_option maxHeartbeats 4000000 in
theorem stable_any (A : Option Addr) (L : List It) (c : Nat) (hs : L.Pairwise fun a b => a.at_ < b.at_) (hl : L.length ≤ 30) (w : World) (hI : Its w A L) :
    Calls Tryz.prog 81 #[.slice A L.length c, .int .i64 L.length, .func (.func 69) #[] #[]] w fun x w' => x = .returned (.tuple #[]) ∧ Below w.heap.size w w' := by
  obtain ⟨n, hn⟩ : ∃ n, n = L.length := ⟨_, rfl⟩
  have HIns := Lib.hid fun W (a e : Nat) (hW : Below w.heap.size w W) (h1 : e ≤ n) (h2 : a ≤ 1000) => ins_any A L c a e hs (by omega) (by omega) h2 W (hI.keep hW)
  have HSym := Lib.hid fun W (a m e : Nat) (hW : Below w.heap.size w W) (h1 : a < m) (h2 : m < e) (h3 : e ≤ n) => sym_any A L c hs (by omega) (e - a) a m e W (by omega) h1 h2 (by omega) (hI.keep hW)
  rw [← hn] at HIns HSym hl
  rw [← hn]
  clear hI hs hn
  have hw1 : IntKind.i64.wrap ((20 : Int) + 20) = 40 := IntWalk.i64_in _ (by omega)
  have hw2 : IntKind.i64.wrap ((0 : Int) + 20) = 20 := IntWalk.i64_in _ (by omega)
  have h40 : (n : Int) < 40 := by omega
  by_cases h20 : n < 20
  · have h20' : (n : Int) < 20 := by omega
    have HC := Lib.hid (HIns.out w 0 n (Below.refl _ _) (Nat.le_refl _) (by omega))
    clear h20
    go_enter Tryz.func81, Tryz.ntmps81
    go_wp2
    refine wp_loop_rounds 1 ?_
    rw [rounds_succ]
    go_wp2_with fail
    refine HC.out.mono ?_
    rintro e w1 ⟨rfl, hb1⟩
    go_wp2
    refine wp_loop_rounds 1 ?_
    rw [rounds_succ]
    go_wp2
    go_end0
    exact ⟨rfl, hb1⟩
  · have h20' : (20 : Int) ≤ n := by omega
    have HC := Lib.hid (HIns.out w 0 20 (Below.refl _ _) (by omega) (by omega))
    have HC2 := Lib.hid fun W (hW : Below w.heap.size w W) => HIns.out W 20 n hW (by omega) (by omega)
    go_enter Tryz.func81, Tryz.ntmps81
    go_wp2
    refine wp_loop_rounds 2 ?_
    rw [rounds_succ]
    go_wp2_with fail
    refine HC.out.mono ?_
    rintro e w1 ⟨rfl, hb1⟩
    go_wp2
    rw [rounds_succ]
    go_wp2_with fail
    refine (HC2.out w1 hb1).mono ?_
    rintro e w2 ⟨rfl, hb2⟩
    have HB2 := Lib.hid (hb1.trans (hb2.mono hb1.size))
    clear hb1 hb2
    by_cases h21 : n = 20
    · have h21' : (n : Int) ≤ 20 := by omega
      go_wp2
      refine wp_loop_rounds 1 ?_
      rw [rounds_succ]
      go_wp2
      go_end0
      exact ⟨rfl, HB2.out⟩
    · have h21' : (20 : Int) < n := by omega
      have HC3 := Lib.hid (HSym.out w2 0 20 n HB2.out (by omega) (by omega) (Nat.le_refl _))
      clear h21 h20
      go_wp2
      refine wp_loop_rounds 2 ?_
      rw [rounds_succ]
      go_wp2
      refine wp_loop_rounds 1 ?_
      rw [rounds_succ]
      go_wp2_with fail
      refine HC3.out.mono ?_
      rintro e w3 ⟨rfl, hb3⟩
      have HB3 := Lib.hid (HB2.out.trans (hb3.mono HB2.out.size))
      clear hb3
      go_wp2
      rw [rounds_succ]
      go_wp2
      go_end0
      exact ⟨rfl, HB3.out⟩

theorem sort_any (A : Option Addr) (L : List It) (c : Nat) (hs : L.Pairwise fun a b => a.at_ < b.at_) (hl : L.length ≤ 30) (w : World) (hI : Its w A L) :
    Calls Tryz.prog 68 #[.slice A L.length c, .func (.func 69) #[] #[]] w fun x w' => x = .returned (.tuple #[]) ∧ Below w.heap.size w w' := by
  have HS := Lib.hid (stable_any A L c hs hl w hI)
  obtain ⟨n, hn⟩ : ∃ n, n = L.length := ⟨_, rfl⟩
  rw [← hn] at HS
  rw [← hn]
  clear hI hs hn
  go_enter Tryz.func68, Tryz.ntmps68
  go_wp2_with fail
  refine HS.out.mono ?_
  rintro e w1 ⟨rfl, hb1⟩
  go_wp2
  go_end0
  exact ⟨rfl, hb1⟩

end Go.Proofs.YtbpejjmfdhkfhaaGreatDoor
