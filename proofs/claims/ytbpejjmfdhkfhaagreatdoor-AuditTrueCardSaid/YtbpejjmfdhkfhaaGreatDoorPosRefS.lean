/- Walks: the document's Names. -/
import Derived.Test.YtbpejjmfdhkfhaaGreatDoorPosRefD
import Derived.BigQuiet
import Derived.Deep.QuietTactic
set_option linter.unusedVariables false
set_option linter.unusedSimpArgs false
namespace Go.Proofs.YtbpejjmfdhkfhaaGreatDoor
open Go.RowKit

namespace Pz
theorem namesOf_step {E : List En} {k : Nat} {e : En} {i : Nat} (he : E[k]? = some e) : namesOf (E.take (k + 1)) i = if e.dir = i then ins e.name (namesOf (E.take k) i) else namesOf (E.take k) i := by
  unfold namesOf
  rw [List.take_add_one, he, List.filter_append, List.map_append, List.foldl_append]
  by_cases h : e.dir = i
  · simp [h]
  · simp [h]
theorem ins_len (x : List UInt8) : ∀ L : List (List UInt8), (ins x L).length = L.length + 1
  | [] => rfl
  | y :: r => by
    rw [ins]
    split
    · rfl
    · simp [ins_len x r]
theorem namesOf_le (E : List En) (i : Nat) : (namesOf E i).length ≤ E.length := by
  have h : ∀ (M : List (List UInt8)) (L : List (List UInt8)), (M.foldl (fun l x => ins x l) L).length = L.length + M.length := by
    intro M
    induction M with
    | nil => intro L; simp
    | cons a r ih => intro L; rw [List.foldl_cons, ih, ins_len]; simp; omega
  unfold namesOf
  rw [h]
  have := List.length_filter_le (fun e : En => e.dir == i) E
  simp; omega
end Pz

theorem less_eq : ∀ (x y : List UInt8), Op.bytesLess x y = decide (x < y)
  | [], [] => by simp [Op.bytesLess]
  | _ :: _, [] => by simp [Op.bytesLess]
  | [], _ :: _ => by simp [Op.bytesLess]
  | a :: x, b :: y => by
    rw [Op.bytesLess, less_eq x y, Bool.eq_iff_iff]
    simp [List.cons_lt_cons_iff]

theorem own_snoc {w : World} {B : Nat} {v : Value} {M : List (List UInt8)} {x : ByteArray} {l : List UInt8} (hx : x.data.toList = l) (h : w.ownsRow B 9 1 v (M.length + 1) (cellsL M ++ [.string x])) : ∃ A c, w.ownsRow B 9 1 (.slice A (M.length + 1) c) (M.length + 1) (cellsL (M ++ [l])) ∧ v = .slice A (M.length + 1) c := by
  rw [cellsL_snoc M x l hx, show M.length + 1 = (M ++ [l]).length by simp] at h
  obtain ⟨A, c, hv, _⟩ := owns_strs h
  rw [hv] at h
  have e : (M ++ [l]).length = M.length + 1 := by simp
  rw [e] at h hv
  exact ⟨A, c, h, hv⟩

def NamesYes (L : List (List UInt8)) (w : World) (e : Ending) (w' : World) : Prop := ∃ A c, e = .returned (.slice A L.length c) ∧ Strs w' w.heap.size A L ∧ Below w.heap.size w w'

set_option maxHeartbeats 4000000 in
set_option maxRecDepth 8192 in
theorem rnames_any (r : Nat) (S : Pz.Fil) (i : Nat) (w : World) (hE : S.E.length ≤ 1000) (hR : RefIs w 0 r S) :
    Calls Tryz.prog 46 #[.pointer (some ⟨r, 0, none⟩), .int .i64 i] w (NamesYes (Pz.namesOf S.E i) w) := by
  obtain ⟨vN, vE, vO, hA⟩ := hR
  obtain ⟨A, c, rfl, hc, hrow⟩ := row3 hA.oE
  have hc1 := hA.c1
  have hlt := hA.lt
  have HR := Lib.hid hrow
  clear hrow hA hc
  obtain ⟨n, hn⟩ : ∃ n, n = S.E.length := ⟨_, rfl⟩
  rw [← hn] at hc1 hE
  have Hn := Lib.hid hn; clear hn
  obtain ⟨i0, hi, hz0, hz1, hz2⟩ := info_parts Tryz.infoS
  obtain ⟨RR, hRR⟩ : ∃ RR, RR = Pz.namesOf S.E i := ⟨_, rfl⟩
  rw [← hRR]
  have HRR := Lib.hid hRR; clear hRR
  go_enter Tryz.func46, Tryz.ntmps46
  go_wp2
  go_loopw [5, 6] (fun u v wr => ∃ (k : Nat) (T : List (List UInt8)), k ≤ n ∧ T.length ≤ k ∧ v = .int .i64 k ∧ wr.ownsRow w.heap.size 9 1 u T.length (cellsL T) ∧ Hid (T = Pz.namesOf (S.E.take k) i) ∧ Below w.heap.size w wr) (fun _ v _ => n - (intOf v).toNat)
  case atStart => exact ⟨0, [], by omega, by simp, rfl, World.ownsRow_nil _ _ _ _, by show [] = Pz.namesOf (S.E.take 0) i; rfl, Below.refl _ _⟩
  case round =>
    obtain ⟨k, T, hk, hT, rfl, hown, hok, hbw⟩ := hrel
    obtain ⟨w1, rfl⟩ : ∃ w1, w1 = wr := ⟨_, rfl⟩
    have hc1' : w1.cell? ⟨r, 1, none⟩ = some (.slice A n c) := (hbw.cell (p := ⟨r, 1, none⟩) hlt).trans hc1
    obtain ⟨A', c', hv, _, hc', hS⟩ := owns_strs hown
    rw [hv] at hown
    rw [hv]
    by_cases hkn : k < n
    · obtain ⟨e, he⟩ : ∃ e, S.E[k]? = some e := ⟨_, List.getElem?_eq_getElem (by have := Hn.out; omega)⟩
      obtain ⟨b, rfl, _, hb, h0, h1, h2, _⟩ := HR.out k e he
      have hst := Pz.namesOf_step (i := i) he
      rw [← hok.out] at hst
      have Hst := Lib.hid hst
      obtain ⟨x, hx⟩ : ∃ x : ByteArray, x = ⟨e.name.toArray⟩ := ⟨_, rfl⟩
      rw [← hx] at h1
      have Hx := Lib.hid hx
      have HC := Lib.hid (And.intro h0 (And.intro h1 hc1))
      have g0 := (hbw.cell (p := ⟨b, k * 3, none⟩) hb).trans h0
      clear h0 h1 h2 he hst hc1 hx
      have hk1 : (0 : Int) ≤ k := by omega
      have hk2 : (k : Int) < n := by omega
      by_cases hd : e.dir = i
      · subst hd
        rw [if_pos rfl] at Hst
        have HS := Lib.hid hS
        clear hS
        have HO := Lib.hid hown
        clear hown
        have HI0 : Hid (Pz.ins e.name T = [] ++ (if false = true then T.drop 0 else Pz.ins e.name (T.drop 0))) := Lib.hid rfl
        go_wp2
        go_loopw [7, 8, 9] (fun u pv v w2 => ∃ (m : Nat) (pb : Bool) (M : List (List UInt8)), m ≤ T.length ∧ Hid (M.length ≤ m + pb.toNat) ∧ v = .int .i64 m ∧ pv = .bool pb ∧ w2.ownsRow w1.heap.size 9 1 u M.length (cellsL M) ∧ Hid (Pz.ins e.name T = M ++ (if pb = true then T.drop m else Pz.ins e.name (T.drop m))) ∧ Below w1.heap.size w1 w2) (fun _ _ v _ => T.length - (intOf v).toNat)
        case atStart => exact ⟨0, false, [], by omega, Nat.le_refl 0, rfl, rfl, World.ownsRow_nil _ _ _ _, HI0.out, Below.refl _ _⟩
        case round =>
          obtain ⟨m, pb, M, hm, hM, rfl, rfl, hown2, hok2, hbw2⟩ := hrel
          obtain ⟨w2, rfl⟩ : ∃ w2, w2 = wr := ⟨_, rfl⟩
          obtain ⟨A2, c2, hv2, _, hc2, hS2⟩ := owns_strs hown2
          rw [hv2] at hown2
          rw [hv2]
          by_cases hmn : m < T.length
          · obtain ⟨y, hy⟩ : ∃ y, T[m]? = some y := ⟨_, List.getElem?_eq_getElem hmn⟩
            have hcy : ∃ b o, A' = some ⟨b, o, none⟩ ∧ w2.cell? ⟨b, o + m, none⟩ = some (.string ⟨y.toArray⟩) := by
              rcases HS.out with h | ⟨b, o, h1, _, h3, h4, _⟩
              · rw [h] at hy; cases hy
              · exact ⟨b, o, h1, (hbw2.cell (p := ⟨b, o + m, none⟩) h3).trans (h4 m y hy)⟩
            obtain ⟨b2, o2, rfl, hcy⟩ := hcy
            obtain ⟨h0, h1, hc1⟩ := HC.out
            have g1 := ((hbw.trans (hbw2.mono hbw.size)).cell (p := ⟨b, k * 3 + 1, none⟩) hb).trans h1
            have gc := ((hbw.trans (hbw2.mono hbw.size)).cell (p := ⟨r, 1, none⟩) hlt).trans hc1
            clear h0 h1 hc1 hc1'
            have hm1 : (0 : Int) ≤ m := by omega
            have hm2 : (m : Int) < T.length := by omega
            have hdr : T.drop m = y :: T.drop (m + 1) := by
              obtain ⟨h, h2⟩ := List.getElem?_eq_some_iff.1 hy
              rw [List.drop_eq_getElem_cons h, h2]
            obtain ⟨ys, hys⟩ : ∃ ys : ByteArray, ys = ⟨y.toArray⟩ := ⟨_, rfl⟩
            rw [← hys] at hcy
            have Hys : Hid (ys.data.toList = y) := Lib.hid (by rw [hys])
            have Hxl : Hid (x.data.toList = e.name) := Lib.hid (by rw [Hx.out])
            have HCy := Lib.hid hcy
            have HB12 := Lib.hid (hbw.trans (hbw2.mono hbw.size))
            have hb2l : b2 < w1.heap.size := by
              rcases HS.out with h | ⟨b, o, h1, _, h3, _⟩
              · rw [h] at hmn; simp at hmn
              · cases h1; exact h3
            rw [hdr] at hok2
            clear hdr hy hys hS2
            cases pb with
            | true =>
              have hM : M.length ≤ m + 1 := hM.out
              rw [if_pos rfl] at hok2
              have HOk : Hid (Pz.ins e.name T = (M ++ [y]) ++ (if true = true then T.drop (m + 1) else Pz.ins e.name (T.drop (m + 1)))) := Lib.hid (by rw [hok2.out, if_pos rfl]; simp)
              clear hok2
              go_wp2
              go_quiet (fail)
              have hbq := below_drewN hbw2 nq
              have hoq : (w2.drewN nq).ownsRow w1.heap.size 9 1 (.slice A2 M.length c2) M.length (cellsL M) := hown2
              clear hown2 g1 gc hcy
              generalize w2.drewN nq = wq at hbq hoq ⊢
              obtain ⟨h0, h1, hc1⟩ := HC.out
              have hbq0 := hbw.trans (hbq.mono hbw.size)
              have g1 := (hbq0.cell (p := ⟨b, k * 3 + 1, none⟩) hb).trans h1
              have gc := (hbq0.cell (p := ⟨r, 1, none⟩) hlt).trans hc1
              have hcy := (hbq.cell (p := ⟨b2, o2 + m, none⟩) hb2l).trans ((hbw2.cell (p := ⟨b2, o2 + m, none⟩) hb2l).symm.trans HCy.out)
              clear h0 h1 hc1
              go_wp2_with (at_builtin; refine wpList_append_own _ rfl _ _ 32 rfl w1.heap.size 9 i0 (.string ByteArray.empty) 1 16 Tryz.underlying32 hi hz0 hz1 hz2 rfl (by decide) (.slice A2 M.length c2) M.length (cellsL M) rfl (hoq.alloc _) ⟨wq.heap.size, 0, none⟩ 1 1 [.string ys] rfl rfl (cell_one_new _ _ _) (by intro u hu; simp only [List.mem_singleton] at hu; subst hu; rfl) (by unfold maxLen; omega) (by omega) (by have := hbq.size; simp; omega) ?_; intro v' w3 hown' hgrow _)
              rw [cellsL_snoc _ ys y Hys.out, show M.length + 1 = (M ++ [y]).length by simp] at hown'
              have hB1 : Below w1.heap.size w1 w3 := (hbq.alloc hbq.size _).grown hgrow (by have := hbq.size; simp; omega) (fun q hq => (hoq.lt q hq).1)
              obtain ⟨A3, c3, hv', _, _, _⟩ := owns_strs hown'
              rw [hv'] at hown'
              rw [hv']
              have HO := Lib.hid hown'
              clear hown' hoq hv'
              go_wp2
              go_roundw
              case rel => exact ⟨m + 1, true, M ++ [y], by omega, by show (M ++ [y]).length ≤ m + 1 + 1; simp; omega, by go_num, rfl, HO.out, HOk.out, hB1⟩
              case measure => simp [intOf]; omega
            | false =>
              have hM : M.length ≤ m := hM.out
              rw [if_neg (by decide), Pz.ins] at hok2
              by_cases hxy : e.name < y
              · rw [if_pos hxy] at hok2
                have hl : Op.bytesLess x.toList ys.toList = true := by rw [less_eq, Lib.toList_data, Lib.toList_data, Hxl.out, Hys.out]; exact decide_eq_true hxy
                have HOk : Hid (Pz.ins e.name T = ((M ++ [e.name]) ++ [y]) ++ (if true = true then T.drop (m + 1) else Pz.ins e.name (T.drop (m + 1)))) := Lib.hid (by rw [hok2.out, if_pos rfl]; simp)
                clear hok2 hxy
                go_wp2
                go_quiet (fail)
                have hbq := below_drewN hbw2 nq
                have hoq : (w2.drewN nq).ownsRow w1.heap.size 9 1 (.slice A2 M.length c2) M.length (cellsL M) := hown2
                clear hown2 g1 gc hcy
                generalize w2.drewN nq = wq at hbq hoq ⊢
                obtain ⟨h0, h1, hc1⟩ := HC.out
                have hbq0 := hbw.trans (hbq.mono hbw.size)
                have g1 := (hbq0.cell (p := ⟨b, k * 3 + 1, none⟩) hb).trans h1
                have gc := (hbq0.cell (p := ⟨r, 1, none⟩) hlt).trans hc1
                have hcy := (hbq.cell (p := ⟨b2, o2 + m, none⟩) hb2l).trans ((hbw2.cell (p := ⟨b2, o2 + m, none⟩) hb2l).symm.trans HCy.out)
                clear h0 h1 hc1
                clear hl
                go_wp2_with (first | (at_builtin; refine wpList_append_own _ rfl _ _ 32 rfl w1.heap.size 9 i0 (.string ByteArray.empty) 1 16 Tryz.underlying32 hi hz0 hz1 hz2 rfl (by decide) (.slice A2 M.length c2) M.length (cellsL M) rfl (hoq.alloc _) ⟨wq.heap.size, 0, none⟩ 1 1 [.string x] rfl rfl (cell_one_new _ _ _) (by intro u hu; simp only [List.mem_singleton] at hu; subst hu; rfl) (by unfold maxLen; omega) (by omega) (by have := hbq.size; simp; omega) ?_; intro v' w4 hown4 hgrow4 _; obtain ⟨A4, c4, ho4, rfl⟩ := own_snoc (Hxl.out) hown4; have hB4 : Below w1.heap.size w1 w4 := (hbq.alloc hbq.size _).grown hgrow4 (by have := hbq.size; simp; omega) (fun q hq => (hoq.lt q hq).1); have hcy4 := (hB4.cell (p := ⟨b2, o2 + m, none⟩) hb2l).trans ((hbw2.cell (p := ⟨b2, o2 + m, none⟩) hb2l).symm.trans HCy.out)) | (at_builtin; refine wpList_append_own _ rfl _ _ 32 rfl w1.heap.size 9 i0 (.string ByteArray.empty) 1 16 Tryz.underlying32 hi hz0 hz1 hz2 rfl (by decide) (.slice A4 (M.length + 1) c4) (M.length + 1) (cellsL (M ++ [e.name])) rfl (ho4.alloc _) ⟨w4.heap.size, 0, none⟩ 1 1 [.string ys] rfl rfl (cell_one_new _ _ _) (by intro u hu; simp only [List.mem_singleton] at hu; subst hu; rfl) (by unfold maxLen; omega) (by omega) (by have := hB4.size; simp; omega) ?_; intro v' w3 hown' hgrow _))
                rw [cellsL_snoc _ ys y Hys.out, show M.length + 1 + 1 = ((M ++ [e.name]) ++ [y]).length by simp] at hown'
                have hB1 : Below w1.heap.size w1 w3 := (hB4.alloc hB4.size _).grown hgrow (by have := hB4.size; simp; omega) (fun q hq => (ho4.lt q hq).1)
                obtain ⟨A3, c3, hv', _, _, _⟩ := owns_strs hown'
                rw [hv'] at hown'
                rw [hv']
                have HO := Lib.hid hown'
                clear hown' hv' ho4
                go_wp2
                go_roundw
                case rel => exact ⟨m + 1, true, (M ++ [e.name]) ++ [y], by omega, by show ((M ++ [e.name]) ++ [y]).length ≤ m + 1 + 1; simp; omega, by go_num, rfl, HO.out, HOk.out, hB1⟩
                case measure => simp [intOf]; omega
              · rw [if_neg hxy] at hok2
                have hl : Op.bytesLess x.toList ys.toList = false := by rw [less_eq, Lib.toList_data, Lib.toList_data, Hxl.out, Hys.out]; exact decide_eq_false hxy
                have HOk : Hid (Pz.ins e.name T = (M ++ [y]) ++ (if false = true then T.drop (m + 1) else Pz.ins e.name (T.drop (m + 1)))) := Lib.hid (by rw [hok2.out, if_neg (by decide)]; simp)
                clear hok2 hxy
                go_wp2
                go_quiet (fail)
                have hbq := below_drewN hbw2 nq
                have hoq : (w2.drewN nq).ownsRow w1.heap.size 9 1 (.slice A2 M.length c2) M.length (cellsL M) := hown2
                clear hown2 g1 gc hcy
                generalize w2.drewN nq = wq at hbq hoq ⊢
                obtain ⟨h0, h1, hc1⟩ := HC.out
                have hbq0 := hbw.trans (hbq.mono hbw.size)
                have g1 := (hbq0.cell (p := ⟨b, k * 3 + 1, none⟩) hb).trans h1
                have gc := (hbq0.cell (p := ⟨r, 1, none⟩) hlt).trans hc1
                have hcy := (hbq.cell (p := ⟨b2, o2 + m, none⟩) hb2l).trans ((hbw2.cell (p := ⟨b2, o2 + m, none⟩) hb2l).symm.trans HCy.out)
                clear h0 h1 hc1
                clear hl
                go_wp2_with (at_builtin; refine wpList_append_own _ rfl _ _ 32 rfl w1.heap.size 9 i0 (.string ByteArray.empty) 1 16 Tryz.underlying32 hi hz0 hz1 hz2 rfl (by decide) (.slice A2 M.length c2) M.length (cellsL M) rfl (hoq.alloc _) ⟨wq.heap.size, 0, none⟩ 1 1 [.string ys] rfl rfl (cell_one_new _ _ _) (by intro u hu; simp only [List.mem_singleton] at hu; subst hu; rfl) (by unfold maxLen; omega) (by omega) (by have := hbq.size; simp; omega) ?_; intro v' w3 hown' hgrow _)
                rw [cellsL_snoc _ ys y Hys.out, show M.length + 1 = (M ++ [y]).length by simp] at hown'
                have hB1 : Below w1.heap.size w1 w3 := (hbq.alloc hbq.size _).grown hgrow (by have := hbq.size; simp; omega) (fun q hq => (hoq.lt q hq).1)
                obtain ⟨A3, c3, hv', _, _, _⟩ := owns_strs hown'
                rw [hv'] at hown'
                rw [hv']
                have HO := Lib.hid hown'
                clear hown' hoq hv'
                go_wp2
                go_roundw
                case rel => exact ⟨m + 1, false, M ++ [y], by omega, by show (M ++ [y]).length ≤ m + 1; simp; omega, by go_num, rfl, HO.out, HOk.out, hB1⟩
                case measure => simp [intOf]; omega
          · have hm2 : (T.length : Int) ≤ m := by omega
            rw [List.drop_of_length_le (by omega)] at hok2
            have HS2 := Lib.hid hS2
            clear hS2
            cases pb with
            | true =>
              have hM : M.length ≤ m + 1 := hM.out
              have HM : Hid (M = Pz.ins e.name T) := Lib.hid (by rw [hok2.out, if_pos rfl, List.append_nil])
              have hlen : M.length ≤ k + 1 := by rw [HM.out, Pz.ins_len]; omega
              have hB := hbw.trans (hbw2.mono hbw.size)
              have ho2 := row_low hown2 hbw.size
              clear hok2 hown2
              go_wp2
              go_roundw
              case rel => exact ⟨k + 1, M, by omega, hlen, by go_num, ho2, HM.out.trans Hst.out.symm, hB⟩
              case measure => simp [intOf]; omega
            | false =>
              have hM : M.length ≤ m := hM.out
              have HM : Hid (M ++ [e.name] = Pz.ins e.name T) := Lib.hid (by rw [hok2.out, if_neg (by decide), Pz.ins])
              have hlen : (M ++ [e.name]).length ≤ k + 1 := by rw [HM.out, Pz.ins_len]; omega
              have Hxl : Hid (x.data.toList = e.name) := Lib.hid (by rw [Hx.out])
              obtain ⟨h0, h1, hc1⟩ := HC.out
              have g1 := ((hbw.trans (hbw2.mono hbw.size)).cell (p := ⟨b, k * 3 + 1, none⟩) hb).trans h1
              have gc := ((hbw.trans (hbw2.mono hbw.size)).cell (p := ⟨r, 1, none⟩) hlt).trans hc1
              have hb2' := hbw2
              clear h0 h1 hc1 hc1' hok2
              go_wp2_with (at_builtin; refine wpList_append_own _ rfl _ _ 32 rfl w1.heap.size 9 i0 (.string ByteArray.empty) 1 16 Tryz.underlying32 hi hz0 hz1 hz2 rfl (by decide) (.slice A2 M.length c2) M.length (cellsL M) rfl (hown2.alloc _) ⟨w2.heap.size, 0, none⟩ 1 1 [.string x] rfl rfl (cell_one_new _ _ _) (by intro u hu; simp only [List.mem_singleton] at hu; subst hu; rfl) (by unfold maxLen; omega) (by omega) (by have := hbw2.size; simp; omega) ?_; intro v' w3 hown' hgrow _)
              rw [cellsL_snoc _ x e.name Hxl.out, show M.length + 1 = (M ++ [e.name]).length by simp] at hown'
              have hB1 : Below w1.heap.size w1 w3 := (hbw2.alloc hbw2.size _).grown hgrow (by have := hbw2.size; simp; omega) (fun q hq => (hown2.lt q hq).1)
              obtain ⟨A3, c3, hv', _, _, _⟩ := owns_strs hown'
              rw [hv'] at hown'
              rw [hv']
              have HO := Lib.hid hown'
              clear hown' hown2 hv'
              have hB := hbw.trans (hB1.mono hbw.size)
              have ho2 := row_low HO.out hbw.size
              have HO2 := Lib.hid ho2
              clear ho2 HO
              go_wp2
              go_roundw
              case rel => exact ⟨k + 1, M ++ [e.name], by omega, hlen, by go_num, HO2.out, HM.out.trans Hst.out.symm, hB⟩
              case measure => simp [intOf]; omega
      · have hd1 : ((e.dir : Int) != i) = true := by rw [bne_iff_ne]; omega
        rw [if_neg hd] at Hst
        go_wp2
        go_roundw
        case rel => exact ⟨k + 1, T, by omega, by omega, by go_num, hown, Hst.out.symm, hbw⟩
        case measure => simp [intOf]; omega
    · have hk2 : (n : Int) ≤ k := by omega
      have hTE : Hid (T = RR) := Lib.hid (by rw [hok.out, List.take_of_length_le (by have := Hn.out; omega), HRR.out])
      have HS := Lib.hid hS
      clear hS
      go_wp2
      go_ret
      rw [← hTE.out]
      exact ⟨A', c', rfl, HS.out, hbw⟩

end Go.Proofs.YtbpejjmfdhkfhaaGreatDoor
