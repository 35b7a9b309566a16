/- Walks: a table's names, rising. -/
import Derived.Test.YthbonbcbbngciaaGreatDoorV14
import Derived.Test.YthbonbcbbngciaaGreatDoorV18
import Derived.Test.YthbonbcbbngciaaGreatDoorShelf
import Derived.Shelf.Slices.In.SortNone
import Derived.Sort.KeysCollected
import Derived.Sort.OwnSorted
import Derived.Test.YthbonbcbbngciaaGreatDoorV17
import Derived.Test.YthbonbcbbngciaaGreatDoorV20
import Derived.SliceStrings
import Derived.Test.YthbonbcbbngciaaGreatDoorV21
set_option linter.unusedVariables false
set_option linter.unusedSimpArgs false
set_option linter.unusedSectionVars false
namespace Go.Proofs.YthbonbcbbngciaaGreatDoor
open Go.RowKit Go.Shelf
open Go.Sort

attribute [local go_sem] Oper.semAt_some

namespace Gd
/-- the names of a table's first entries -/
def rawN (T : Tab) (k : Nat) : List (List UInt8) := ((T.take k).map (·.s)).filter fun s => decide (s ≠ [])
/-- a table's names, rising -/
def namesT (T : Tab) : List (List UInt8) := (rawN T 16).mergeSort leB
theorem rawN_step {T : Tab} (hT : T.length = 16) {k : Nat} (hk : k < 16) : rawN T (k + 1) = rawN T k ++ if (entAt T k).s = [] then [] else [(entAt T k).s] := by
  unfold rawN
  rw [List.take_add_one, entAt_get hT hk, List.map_append, List.filter_append]
  congr 1
  by_cases h : (entAt T k).s = []
  · rw [if_pos h]
    simp [h]
  · rw [if_neg h]
    simp [h]
theorem rawN_le (T : Tab) (k : Nat) : (rawN T k).length ≤ k := by
  unfold rawN
  have h1 := List.length_filter_le (fun s : List UInt8 => decide (s ≠ [])) ((T.take k).map (·.s))
  have h2 := List.length_take_le k T
  rw [List.length_map] at h1
  omega
theorem namesT_len (T : Tab) : (namesT T).length = (rawN T 16).length := List.length_mergeSort _
end Gd

theorem tabC_part {T : Gd.Tab} {k : Nat} {e : Gd.Ent} (he : T[k]? = some e) : (tabC T).extract (k * 2) (k * 2 + 2) = #[.string ⟨e.s.toArray⟩, .int .i64 e.i] := by
  have h0 := ents_get (T := T) 0 he (by omega)
  have h1 := ents_get (T := T) 1 he (by omega)
  have hl : k < T.length := (List.getElem?_eq_some_iff.1 he).1
  have hs : (tabC T).size = T.length * 2 := by
    unfold tabC
    rw [List.size_toArray, ents_len]
  apply Array.ext
  · simp [hs]
    omega
  · intro i i1 i2
    have i3 : i < 2 := by simpa using i2
    rw [Array.getElem_extract]
    have hg : ∀ j (hj : k * 2 + j < (tabC T).size) (v : Value), (T.flatMap entC)[k * 2 + j]? = some v → (tabC T)[k * 2 + j] = v := fun j hj v hv => by
      have : (tabC T)[k * 2 + j]? = some v := by
        unfold tabC
        rw [List.getElem?_toArray]
        exact hv
      exact (Array.getElem?_eq_some_iff.1 this).2
    match i, i3 with
    | 0, _ => exact hg 0 _ _ h0
    | 1, _ => exact hg 1 _ _ h1
theorem run_index_ent {T : Gd.Tab} {k : Nat} {e : Gd.Ent} (hT : T.length = 16) (he : T[k]? = some e) (W : World) : (Instr.index 83 (.agg (tabC T)) (.int .i64 (k : Int))).run Tryz.prog W = .ok (.agg #[.string ⟨e.s.toArray⟩, .int .i64 e.i]) W := by
  have hl : k < T.length := (List.getElem?_eq_some_iff.1 he).1
  have hn : (0 : Int) ≤ k ∧ (k : Int) < ((16 : Nat) : Int) := by omega
  have hp := tabC_part he
  obtain ⟨j, hj, hs⟩ : ∃ j, Tryz.prog.info? 81 = some j ∧ j.size = 2 := by
    have := Tryz.sizeEnt
    cases hq : Tryz.prog.info? 81 with
    | none => rw [hq] at this; cases this
    | some j => exact ⟨j, rfl, by rw [hq] at this; simpa using this⟩
  simp [Instr.index, run_underlying Tryz.underlying83, asIntOf, hn, part, isAgg, run_underlying Tryz.underlying81, sizeOf, typeInfo, hj, hs, hp, go_sem]
  try omega

def NamesPost (T : Gd.Tab) (w : World) (e : Ending) (w' : World) : Prop := ∃ A c, e = .returned (.slice A (Gd.namesT T).length c) ∧ Strs w' w.heap.size A (Gd.namesT T) ∧ Below w.heap.size w w'
theorem dsort_none (W : World) : Calls Tryz.prog 95 #[.slice none 0 0] W fun e w' => e = .returned (.tuple #[]) ∧ Below W.heap.size W w' :=
  (Tryz.slices_Sort_string_none none 0 W).mono fun e w' h => ⟨h.1, h.2 ▸ Below.refl _ _⟩
theorem own_strsN {w : World} {B : Nat} {v : Value} {O : List (List UInt8)} (h : w.ownsRow B 9 1 v O.length (cellsL O)) : ∃ A c, v = .slice A O.length c ∧ Strs w B A O := by
  obtain ⟨A, c, hv, _, _, hS⟩ := owns_strs h
  exact ⟨A, c, hv, hS⟩

set_option maxHeartbeats 8000000 in
set_option maxRecDepth 100000 in
theorem names_any (T : Gd.Tab) (hT : Gd.TabOk T) (w : World) : Calls Tryz.prog 49 #[tabV T] w (NamesPost T w) := by
  obtain ⟨i0, hi, hz0, hz1, hz2⟩ := info_parts Tryz.infoS
  have hn := heap_alloc_new w (.cells (tabC T) 83)
  have hba := (Below.refl w.heap.size w).alloc (Nat.le_refl _) (.cells (tabC T) 83)
  obtain ⟨w2, hw2⟩ : ∃ u, u = w.alloc (.cells (tabC T) 83) := ⟨_, rfl⟩
  obtain ⟨tb, htb⟩ : ∃ tb, tb = w.heap.size := ⟨_, rfl⟩
  rw [← hw2] at hn hba
  rw [← htb] at hn
  have HN := Lib.hid hn
  have HB2 := Lib.hid hba
  have HT := Lib.hid hT
  have HS := Lib.hid (tabC_size hT.len)
  have Htb := Lib.hid htb.symm
  have Hw2 := Lib.hid hw2.symm
  have HIx := Lib.hid fun (k : Nat) (hk : k < 16) (W : World) => run_index_ent hT.len (Gd.entAt_get hT.len hk) W
  clear hn hba hw2 hT htb
  unfold tabV
  go_enter Tryz.func49, Tryz.ntmps49
  go_upto_region 2 with fail
  rw [Hw2.out, Htb.out]
  go_upto_region 3 with (refine wpList_load_row rfl 83 _ rfl tb rfl 83 (tabC T) (0, 0) _ HN.out Tryz.underlying83 rfl (by rw [HS.out]; exact Tryz.sizeTab) ?_)
  go_loopw [3, 7] (fun v z wr => ∃ i : Nat, z = .int .i64 i ∧ i ≤ 16 ∧ Hid (wr.ownsRow w.heap.size 9 1 v (Gd.rawN T i).length (cellsL (Gd.rawN T i))) ∧ Hid (Below w.heap.size w wr)) (fun _ z _ => 16 - (intOf z).toNat)
  case atStart => exact ⟨0, rfl, by omega, Lib.hid (World.ownsRow_nil _ _ _ _), HB2⟩
  case round =>
    obtain ⟨i, rfl, hi16, HO, HB⟩ := hrel
    by_cases hlt : i < 16
    · have hc := HIx.out i hlt wr
      have h1 : (i : Int) < 16 := by omega
      have hst := Gd.rawN_step HT.out.len hlt
      obtain ⟨en, hen⟩ : ∃ en, en = Gd.entAt T i := ⟨_, rfl⟩
      rw [← hen] at hc hst
      have hle := Gd.rawN_le T i
      obtain ⟨u, hu⟩ : ∃ u : ByteArray, u = ⟨en.s.toArray⟩ := ⟨_, rfl⟩
      have hul : u.data.toList = en.s := by rw [hu]
      rw [← hu] at hc
      by_cases hs : en.s = []
      · rw [if_pos hs, List.append_nil] at hst
        have hu0 : u = ⟨#[]⟩ := by rw [hu, hs]
        rw [hu0] at hc
        have HO2 : Hid (wr.ownsRow w.heap.size 9 1 u3 (Gd.rawN T (i + 1)).length (cellsL (Gd.rawN T (i + 1)))) := Lib.hid (by rw [hst]; exact HO.out)
        clear hen hu hul hu0 hst hs hlt hle
        go_wp2
        go_roundw
        case rel => exact ⟨i + 1, by go_num, by omega, Lib.hid (HO2.out.alloc _), Lib.hid (HB.out.alloc HB.out.size _)⟩
        case measure => simp [intOf]; omega
      · rw [if_neg hs] at hst
        have hue : u.toList.isEmpty = false := by rw [hu]; exact isEmpty_ne hs
        have HSt := Lib.hid hst
        have HUl := Lib.hid hul
        have HLe := Lib.hid hle
        clear hen hu hul hst hs hlt hle
        go_upto_region 6 with fail
        have HE : Hid (wr.alloc (.cells #[.string u, .int .i64 en.i] 81) = wr.alloc (.cells #[.string u, .int .i64 en.i] 81)) := Lib.hid rfl
        have hb1 : Below wr.heap.size wr (wr.alloc (.cells #[.string u, .int .i64 en.i] 81)) := (Below.refl _ _).alloc (Nat.le_refl _) _
        have hr1 := cell_of_row _ wr.heap.size 0 _ _ _ (heap_alloc_new wr (.cells #[.string u, .int .i64 en.i] 81))
        have ho1 := HO.out.alloc (.cells #[.string u, .int .i64 en.i] 81)
        obtain ⟨eb, heb⟩ : ∃ eb, eb = wr.heap.size := ⟨_, rfl⟩
        rw [← heb] at hr1 ⊢
        generalize (wr.alloc (.cells #[.string u, .int .i64 en.i] 81)) = w1 at hb1 hr1 ho1 ⊢
        have HB1 := Lib.hid (HB.out.trans (hb1.mono HB.out.size))
        have HO1 := Lib.hid ho1
        clear hb1 ho1 HE heb hc
        go_wp2_with (at_builtin; refine wpList_append_own _ rfl _ _ 40 rfl w.heap.size 9 i0 (.string ByteArray.empty) 1 16 Tryz.underlying40 hi hz0 hz1 hz2 rfl (by decide) _ _ _ rfl (HO1.out.alloc _) ⟨w1.heap.size, 0, none⟩ 1 1 [.string u] rfl rfl (cell_one_new _ _ _) (by intro u hu; simp only [List.mem_singleton] at hu; subst hu; rfl) (by have := HLe.out; unfold maxLen; omega) (by have := HLe.out; omega) (by have := HB1.out.size; simp; omega) ?_; intro v' w3 hown' hg3 hnil3)
        have HO3 : Hid (w3.ownsRow w.heap.size 9 1 v' (Gd.rawN T (i + 1)).length (cellsL (Gd.rawN T (i + 1)))) := Lib.hid (by
          have e1 : cellsL (Gd.rawN T i) ++ [.string u] = cellsL (Gd.rawN T (i + 1)) := by
            rw [HSt.out, cellsL_snoc _ u _ HUl.out]
          rw [e1] at hown'
          rw [show (Gd.rawN T (i + 1)).length = (Gd.rawN T i).length + 1 by rw [HSt.out, List.length_append]; rfl]
          exact hown')
        have HB3 : Hid (Below w.heap.size w w3) := Lib.hid ((HB1.out.alloc HB1.out.size _).grown hg3 (by have := HB1.out.size; simp; omega) (fun j hj => (HO1.out.lt j hj).1))
        clear hown' hg3 hnil3
        go_wp2
        go_roundw
        case rel => exact ⟨i + 1, by go_num, by omega, HO3, HB3⟩
        case measure => simp [intOf]; omega
    · obtain rfl : i = 16 := by omega
      obtain ⟨wy, rfl⟩ : ∃ v, v = wr := ⟨_, rfl⟩
      have hrow := HO.out
      have hrl := Gd.rawN_le T 16
      clear hlt hi16
      rcases hrow.2 with ⟨rfl, hn0⟩ | ⟨g, cap', cur, rfl, hbase, hb, h1, h2, h3, h4⟩
      · have HE : Hid (Gd.namesT T = []) := Lib.hid (by
          unfold Gd.namesT
          rw [List.eq_nil_of_length_eq_zero hn0, List.mergeSort_nil])
        clear hrow hn0 HO hrl
        go_wp2_with fail
        refine (dsort_none _).mono ?_
        rintro e w3 ⟨rfl, hb3⟩
        have HB3 := Lib.hid (HB.out.trans (hb3.mono HB.out.size))
        go_wp2
        go_ret
        refine ⟨none, 0, by rw [HE.out]; rfl, ?_, HB3.out⟩
        rw [HE.out]
        exact Or.inl rfl
      · obtain ⟨ss, hss⟩ : ∃ ss, ss = Gd.rawN T 16 := ⟨_, rfl⟩
        (try rw [← hss] at h1)
        (try rw [← hss] at h2)
        (try rw [← hss] at h3)
        (try rw [← hss] at h4)
        (try rw [← hss] at hrl)
        rw [← hss]
        clear hrow
        have h5 : cur.toList.take ss.length = cellsL ss := by simpa using h4
        have hH : Holds encStr wy g 0 ss.toArray := holds_of_block hb h5
        have hgl : g < wy.heap.size := (Array.getElem?_eq_some_iff.1 hb).1
        have hsort := Lib.hid (Tryz.slices_Sort_string g 0 cap' ss wy hH hgl (by omega))
        have hfin : ∀ w3, (∃ nn os, w3 = Sort.grow (Sort.putRow encStr (Sort.ahead wy nn) g 0 (ss.mergeSort fun x y => decide (x ≤ y)).toArray) os) → Strs w3 w.heap.size (some ⟨g, 0, none⟩) (Gd.namesT T) ∧ Below w.heap.size w w3 := by
          rintro w3 ⟨nn, os, rfl⟩
          refine ⟨?_, HB.out.grown (grownBy_sorted _) HB.out.size (fun j hj => by cases hj; exact hbase)⟩
          have ho := ownsRow_sorted (ts := ss.mergeSort fun x y => decide (x ≤ y)) (n := nn) (os := os) (by simp) hbase hb h1 h2 h3
          have hl : (ss.mergeSort leB).length = ss.length := List.length_mergeSort _
          obtain ⟨A, c, hv, hS⟩ := own_strsN (O := ss.mergeSort leB) (v := .slice (some ⟨g, 0, none⟩) ss.length cap') (by rw [hl]; exact ho)
          injection hv with hv1 _ _
          unfold Gd.namesT
          rw [← hss, hv1]
          exact hS
        have HFin := Lib.hid hfin
        have HLen : Hid ((Gd.namesT T).length = ss.length) := Lib.hid (by rw [Gd.namesT_len, hss])
        clear hfin hH hb h1 h2 h3 h4 h5 HO hss hgl hrl
        go_wp2_with fail
        refine hsort.out.mono ?_
        rintro e w3 ⟨rfl, hw3⟩
        have HF3 := Lib.hid (HFin.out w3 hw3)
        clear hw3
        go_wp2
        go_ret
        exact ⟨some ⟨g, 0, none⟩, cap', by rw [HLen.out]; rfl, HF3.out.1, HF3.out.2⟩

end Go.Proofs.YthbonbcbbngciaaGreatDoor

/- Walks: metadata: List; Stat where there is none. -/
namespace Go.Proofs.YthbonbcbbngciaaGreatDoor
open Go.RowKit Go.Shelf

attribute [local go_sem] Oper.semAt_some

def ListPost (T : Gd.Tab) (w : World) (e : Ending) (w' : World) : Prop := ∃ A c, e = .returned (.tuple #[.slice A (Gd.namesT T).length c, .int .i64 0]) ∧ Strs w' w.heap.size A (Gd.namesT T) ∧ Below w.heap.size w w'

set_option maxHeartbeats 8000000 in
set_option maxRecDepth 100000 in
theorem mlist_ok {x : Nat} (s : ByteArray) (i : Nat) (T : Gd.Tab) (hT : Gd.TabOk T) (w : World)
    (hW : ∀ W, Below w.heap.size w W → Calls Tryz.prog 32 #[.pointer (some ⟨x, 0, none⟩), .string s] W fun e w' => e = .returned (.tuple #[.int .i64 i, .int .i64 0]) ∧ Below W.heap.size W w')
    (hI : ∀ W, Below w.heap.size w W → Calls Tryz.prog 35 #[.pointer (some ⟨x, 0, none⟩), .int .i64 i] W fun e w' => e = .returned (.tuple #[tabV T, .int .i64 0]) ∧ Below W.heap.size W w') :
    Calls Tryz.prog 17 #[.pointer (some ⟨x, 0, none⟩), .string s] w (ListPost T w) := by
  have HW0 := Lib.hid (hW w (Below.refl _ _))
  have HI := Lib.hid hI
  have HS := Lib.hid (tabC_size hT.len)
  have HNm := Lib.hid (names_any T hT)
  unfold NamesPost at HNm
  unfold tabV at HI HNm
  clear hW hI hT
  go_enter Tryz.func17, Tryz.ntmps17
  go_upto_region 4 with (go_at_call 32; refine HW0.out.mono ?_; rintro e w2 ⟨rfl, hb2⟩; have HB2 := Lib.hid hb2; clear hb2)
  have HI2 := Lib.hid (HI.out w2 HB2.out)
  go_upto_region 5 with (first | (go_at_call 35; refine HI2.out.mono ?_; rintro e w3 ⟨rfl, hb3⟩; have HB3 := Lib.hid (HB2.out.trans (hb3.mono HB2.out.size)); clear hb3) | (rw [← zTab]; refine wpList_store_mid rfl 83 _ _ rfl w3.heap.size 0 (tabC T) rfl rfl (there_at (heap_alloc_new _ _) (by rw [noTab_size, HS.out])) (by rw [HS.out]; exact Tryz.sizeTab) (tabC_one _) ?_; obtain ⟨hbw, hbg⟩ := new_whole2 w3 (tabC Gd.noTab) 83 (tabC T).toList (by rw [noTab_size, Array.length_toList, HS.out]); generalize (World.setCells _ _ _ _) = w4 at hbw hbg ⊢; have HN4 : Hid (w4.heap[w3.heap.size]? = some (.cells (tabC T) 83 (0, 0))) := Lib.hid hbg; have HB4 := Lib.hid (HB3.out.trans (hbw.mono HB3.out.size)); clear hbw hbg))
  obtain ⟨tb, htb⟩ : ∃ tb, tb = w3.heap.size := ⟨_, rfl⟩
  rw [← htb] at HN4 ⊢
  clear htb
  go_wp2_with (first | (refine wpList_load_row rfl 83 _ rfl tb rfl 83 (tabC T) (0, 0) _ HN4.out Tryz.underlying83 rfl (by rw [HS.out]; exact Tryz.sizeTab) ?_) | (go_at_call 49; refine (HNm.out w4).mono ?_; rintro e w5 ⟨A, c, rfl, hS5, hb5⟩; have HS5 := Lib.hid hS5; have HB5 := Lib.hid (HB4.out.trans (hb5.mono HB4.out.size)); clear hS5 hb5))
  go_ret2
  exact ⟨A, c, rfl, HS5.out.low HB4.out.size, HB5.out⟩

set_option maxHeartbeats 8000000 in
set_option maxRecDepth 100000 in
theorem mlist_err {xv : Value} (s : ByteArray) (wi E : Int) (hE : E ≠ 0) (w : World)
    (hW : Calls Tryz.prog 32 #[xv, .string s] w fun e w' => e = .returned (.tuple #[.int .i64 wi, .int .i64 E]) ∧ Below w.heap.size w w') :
    Calls Tryz.prog 17 #[xv, .string s] w fun e w' => e = .returned (.tuple #[.slice none 0 0, .int .i64 E]) ∧ Below w.heap.size w w' := by
  have HW0 := Lib.hid hW
  have hEb : (E == 0) = false := by simp [hE]
  clear hW
  go_enter Tryz.func17, Tryz.ntmps17
  go_wp2_with (go_at_call 32; refine HW0.out.mono ?_; rintro e w2 ⟨rfl, hb2⟩; have HB2 := Lib.hid hb2; clear hb2)
  go_ret2
  exact ⟨rfl, HB2.out⟩

set_option maxHeartbeats 8000000 in
set_option maxRecDepth 100000 in
theorem mlist_not {x : Nat} (s : ByteArray) (i : Nat) (E : Int) (hE : E ≠ 0) (w : World)
    (hW : ∀ W, Below w.heap.size w W → Calls Tryz.prog 32 #[.pointer (some ⟨x, 0, none⟩), .string s] W fun e w' => e = .returned (.tuple #[.int .i64 i, .int .i64 0]) ∧ Below W.heap.size W w')
    (hI : ∀ W, Below w.heap.size w W → Calls Tryz.prog 35 #[.pointer (some ⟨x, 0, none⟩), .int .i64 i] W fun e w' => e = .returned (.tuple #[tabV Gd.noTab, .int .i64 E]) ∧ Below W.heap.size W w') :
    Calls Tryz.prog 17 #[.pointer (some ⟨x, 0, none⟩), .string s] w fun e w' => e = .returned (.tuple #[.slice none 0 0, .int .i64 E]) ∧ Below w.heap.size w w' := by
  have HW0 := Lib.hid (hW w (Below.refl _ _))
  have HI := Lib.hid hI
  have hEb : (E == 0) = false := by simp [hE]
  unfold tabV at HI
  clear hW hI
  go_enter Tryz.func17, Tryz.ntmps17
  go_upto_region 4 with (go_at_call 32; refine HW0.out.mono ?_; rintro e w2 ⟨rfl, hb2⟩; have HB2 := Lib.hid hb2; clear hb2)
  have HI2 := Lib.hid (HI.out w2 HB2.out)
  go_wp2_with (first | (go_at_call 35; refine HI2.out.mono ?_; rintro e w3 ⟨rfl, hb3⟩; have HB3 := Lib.hid (HB2.out.trans (hb3.mono HB2.out.size)); clear hb3) | (rw [← zTab]; refine wpList_store_mid rfl 83 _ _ rfl w3.heap.size 0 (tabC Gd.noTab) rfl rfl (there_at (heap_alloc_new _ _) noTab_size) (by rw [noTab_size]; exact Tryz.sizeTab) (tabC_one _) ?_; obtain ⟨hbw, hbg⟩ := new_whole2 w3 (tabC Gd.noTab) 83 (tabC Gd.noTab).toList (by rw [Array.length_toList]); generalize (World.setCells _ _ _ _) = w4 at hbw hbg ⊢; have HB4 := Lib.hid (HB3.out.trans (hbw.mono HB3.out.size)); clear hbw hbg))
  go_ret2
  exact ⟨rfl, HB4.out⟩

set_option maxHeartbeats 8000000 in
set_option maxRecDepth 100000 in
theorem stat_err {xv : Value} (s : ByteArray) (wi E : Int) (hE : E ≠ 0) (w : World)
    (hW : ∀ W, Below w.heap.size w W → Calls Tryz.prog 32 #[xv, .string s] W fun e w' => e = .returned (.tuple #[.int .i64 wi, .int .i64 E]) ∧ Below W.heap.size W w') :
    Calls Tryz.prog 33 #[xv, .string s] w fun e w' => e = .returned (.tuple #[.agg #[.int .i64 0, .int .i64 0, .int .i64 0], .int .i64 E]) ∧ Below w.heap.size w w' := by
  obtain ⟨w0, hw0⟩ : ∃ u, u = w.alloc (.cells #[.int .i64 0, .int .i64 0, .int .i64 0] 65) := ⟨_, rfl⟩
  have hb0 : Below w.heap.size w w0 := by rw [hw0]; exact (Below.refl _ _).alloc (Nat.le_refl _) _
  have hr0 : w0.heap[w.heap.size]? = some (.cells #[.int .i64 0, .int .i64 0, .int .i64 0] 65 (0, 0)) := by rw [hw0]; exact heap_alloc_new _ _
  obtain ⟨r, hr⟩ : ∃ r, r = w.heap.size := ⟨_, rfl⟩
  rw [← hr] at hr0
  have HW0 := Lib.hid (hW w0 hb0)
  have HR0 := Lib.hid hr0
  have HB0 := Lib.hid hb0
  have Hw0 := Lib.hid hw0.symm
  have Hr := Lib.hid hr.symm
  have hEb : (E == 0) = false := by simp [hE]
  clear hW hr0 hb0 hw0 hr
  go_enter Tryz.func33, Tryz.ntmps33
  go_upto_region 1 with fail
  rw [Hw0.out, Hr.out]
  go_upto_region 3 with (go_at_call 32; refine HW0.out.mono ?_; rintro e w2 ⟨rfl, hb2⟩; have HB2 := Lib.hid (HB0.out.trans (hb2.mono HB0.out.size)); have HR2 := Lib.hid ((hb2.block r (lt_get HR0.out)).trans HR0.out); clear hb2)
  have Hrb : Hid (w.heap.size ≤ r) := Lib.hid (by rw [Hr.out]; exact Nat.le_refl _)
  have r0 := cell_of_row w2 r 0 _ _ _ HR2.out
  have r1 := cell_of_row w2 r 1 _ _ _ HR2.out
  have r2 := cell_of_row w2 r 2 _ _ _ HR2.out
  have f0 := frozen_of_row w2 r 0 _ _ HR2.out
  have f1 := frozen_of_row w2 r 1 _ _ HR2.out
  have f2 := frozen_of_row w2 r 2 _ _ HR2.out
  go_wp2
  have g0 := Go.heap_setCell_same w2 r 0 _ _ (.int .i64 0) HR2.out
  have g1 := Go.heap_setCell_same _ r 1 _ _ (.int .i64 0) g0
  have g2 := Go.heap_setCell_same _ r 2 _ _ (.int .i64 0) g1
  refine bodyPost_ret (results_row_tmp rfl _ _ r 65 #[.int .i64 0, .int .i64 0, .int .i64 0] (0, 0) _ rfl g2 Tryz.underlying65 rfl Tryz.sizeInfo) rfl ?_
  exact ⟨rfl, ((HB2.out.setCell Hrb.out _).setCell Hrb.out _).setCell Hrb.out _⟩

end Go.Proofs.YthbonbcbbngciaaGreatDoor

/- Bytes that were handed in: opened; stored wherever they lie. -/
namespace Go.Proofs.YthbonbcbbngciaaGreatDoor
open Go.RowKit Go.Shelf

attribute [local go_sem] Oper.semAt_some

/-- bytes that lie in memory -/
def RawB (w : World) (A : Option Addr) (L : List UInt8) : Prop := L = [] ∨ ∃ b o, A = some ⟨b, o, none⟩ ∧ b < w.heap.size ∧ ∀ (j : Nat) (x : UInt8), L[j]? = some x → w.cell? ⟨b, o + j, none⟩ = some (.int .u8 x.toNat)
theorem RawB.keep {w w' : World} {A : Option Addr} {L : List UInt8} (h : RawB w A L) (hb : Below w.heap.size w w') : RawB w' A L := by
  rcases h with h | ⟨b, o, h1, h2, h3⟩
  · exact Or.inl h
  · exact Or.inr ⟨b, o, h1, Nat.lt_of_lt_of_le h2 hb.size, fun j x hx => (hb.cell (p := ⟨b, o + j, none⟩) h2).trans (h3 j x hx)⟩
theorem RawB.take {w : World} {A : Option Addr} {L : List UInt8} (h : RawB w A L) (n : Nat) : RawB w A (L.take n) := by
  rcases h with h | ⟨b, o, h1, h2, h3⟩
  · exact Or.inl (by rw [h]; exact List.take_nil)
  · refine Or.inr ⟨b, o, h1, h2, fun j x hx => h3 j x ?_⟩
    rw [List.getElem?_take] at hx
    split at hx
    · exact hx
    · cases hx
theorem Tryz.cellsOf8 : Tryz.prog.cellsOf 5 = 1 := by kernel_rfl

set_option maxRecDepth 100000 in
theorem open_bytesR {H : Type} {enc : TypeId × Value → H} {W : World} {base : Nat} {v : Value} {d : DataW H} {p : List MemPlace} (hv : Value.okWide Tryz.prog W .any base 22 v) (hd : DataW.Trod enc Tryz.prog W 0 (fun _ => true) true 22 v d p) (hlt : ∀ x ∈ p, x.block < W.heap.size) :
    ∃ A L c, v = .slice A L.length c ∧ L.length ≤ c ∧ c ≤ 9223372036854775807 ∧ RawB W A L := by
  obtain ⟨a0, len, cap, rfl⟩ := Go.WideShapes.okWide_slice Tryz.underlying22 hv
  obtain ⟨fuel, hf⟩ := hd
  rcases Go.ChangeShapes.open_ints Tryz.underlying22 Tryz.underlying5 Tryz.cellsOf8 hf with ⟨hcs, hx⟩ | ⟨a, len', cap', zs, hcs, _, hl, hm, hz, hx, hcell, hwz⟩
  · simp [Value.cells] at hcs
    obtain ⟨rfl, rfl, rfl⟩ := hcs
    exact ⟨none, [], 0, rfl, Nat.le_refl _, by omega, Or.inl rfl⟩
  · simp [Value.cells] at hcs
    obtain ⟨rfl, rfl, rfl⟩ := hcs
    simp only [if_true] at hz
    simp only [Prod.mk.injEq] at hx
    obtain ⟨_, rfl⟩ := hx
    unfold maxLen at hm
    have hll : ((zs.take len).map fun n => UInt8.ofNat n.toNat).length = len := by simp; omega
    refine ⟨some a, (zs.take len).map fun n => UInt8.ofNat n.toNat, cap, by rw [hll], by rw [hll]; exact hl, by omega, ?_⟩
    by_cases h0 : len = 0
    · left
      rw [h0]
      rfl
    · right
      obtain ⟨b, o, spot⟩ := a
      have hspot : spot = none := by simpa [Addr.add] using World.cell?_spot (hcell 0 (by omega))
      subst hspot
      refine ⟨b, o, rfl, hlt (.cell b o) (MemPlace.mem_row.2 ⟨0, by omega, by simp⟩), fun j x hj => ?_⟩
      rw [List.getElem?_map] at hj
      cases hs : (zs.take len)[j]? with
      | none => rw [hs] at hj; cases hj
      | some y =>
        rw [hs] at hj
        cases hj
        rw [List.getElem?_take] at hs
        split at hs
        · have h1 := (List.getElem?_eq_some_iff.1 hs).1
          have h2 := hcell j h1
          rw [Addr.add_lit, List.getD_eq_getElem?_getD, hs] at h2
          rw [h2]
          have hw := hwz y (List.mem_of_getElem? hs)
          have hy : 0 ≤ y ∧ y ≤ 255 := by
            simp [Lit.wf, show IntKind.u8.min = 0 from rfl, show IntKind.u8.max = 255 from rfl] at hw
            exact hw
          simp only [Option.getD_some, UInt8.toNat_ofNat']
          congr 2
          omega
        · cases hs

set_option maxHeartbeats 4000000 in
set_option maxRecDepth 100000 in
theorem mstore_none {m sb lb ab n K : Nat} {S : List UInt8} (a : Nat) (A : Option Addr) (c : Nat) (w : World) (h : MemAt w m sb lb ab n S K) (ha : a ≤ S.length) :
    Calls Tryz.prog 11 #[.pointer (some ⟨m, 0, none⟩), .int .i64 a, .slice A 0 c] w fun e w' => e = .returned (.int .i64 0) ∧ w' = w := by
  have hl := h.len
  have hs := h.small
  have HW := Lib.hid (within_any (a : Int) 0 (nat_I64 (by omega)) (nat_I64 (n := 0) (by omega)) w h)
  have hwb : (decide (0 ≤ (a : Int)) && (decide (0 ≤ (0 : Int)) && decide ((a : Int) + 0 ≤ S.length))) = true := by simp; omega
  rw [hwb] at HW
  clear h hwb hl hs
  go_enter Tryz.func11, Tryz.ntmps11
  go_upto_region 4 with (go_at_call 37; refine HW.out.mono ?_; rintro e w2 ⟨rfl, rfl⟩)
  go_loopw [18] (fun z wr => z = .int .i64 0 ∧ wr = w2) (fun _ _ => 0)
  case atStart => exact ⟨rfl, rfl⟩
  case round =>
    obtain ⟨rfl, rfl⟩ := hrel
    go_wp2
    go_ret
    exact ⟨rfl, rfl⟩

/-- bytes of one's own or of the caller's, stored at any place, if they are within -/
def Stored (m sb lb ab n : Nat) (w : World) (e : Ending) (w' : World) : Prop := ∃ (r : Int) (S' : List UInt8), e = .returned (.int .i64 r) ∧ S'.length = 23168 ∧ MemAt w' m sb lb ab n S' 0 ∧ Only (fun k => k = sb ∨ k = ab) w w'
theorem mstore_raw {m sb lb ab n : Nat} {S : List UInt8} (a : Nat) (A : Option Addr) (c : Nat) (b : List UInt8) (w : World) (h : MemAt w m sb lb ab n S 0) (hS : S.length = 23168) (hb : RawB w A b) (hap : b ≠ [] → ∀ g o, A = some ⟨g, o, none⟩ → g ≠ sb ∧ g ≠ ab) (ha : a < 23168) (hk : b.length ≤ 4000) :
    Calls Tryz.prog 11 #[.pointer (some ⟨m, 0, none⟩), .int .i64 a, .slice A b.length c] w (Stored m sb lb ab n w) := by
  rcases hb with rfl | ⟨g, o, rfl, h2, h3⟩
  · refine (mstore_none a A c w h (by omega)).mono ?_
    rintro e w' ⟨rfl, rfl⟩
    exact ⟨0, S, rfl, hS, h, Only.refl _ _⟩
  · by_cases h0 : b.length = 0
    · have hb0 : b = [] := List.eq_nil_of_length_eq_zero h0
      subst hb0
      refine (mstore_none a _ c w h (by omega)).mono ?_
      rintro e w' ⟨rfl, rfl⟩
      exact ⟨0, S, rfl, hS, h, Only.refl _ _⟩
    have hB : BytesAt w (.slice (some ⟨g, o, none⟩) b.length c) b := ⟨_, _, rfl, Or.inr ⟨g, o, rfl, h2, h3⟩⟩
    by_cases hin : a + b.length ≤ 23168
    · refine (mstore_at a _ b w h hB (fun q hq => ?_) (by omega) (by omega)).mono ?_
      · cases hq
        refine hap (fun e => ?_) g o rfl
        rw [e, List.length_nil] at h0
        omega
      · rintro e w' ⟨rfl, hM, hO⟩
        exact ⟨0, _, rfl, by rw [Gd.splice_length (by omega)]; exact hS, hM, hO⟩
    · refine (mstore_bad a _ b w h hB (by omega) (by omega) (by omega)).mono ?_
      rintro e w' ⟨rfl, rfl⟩
      exact ⟨1, S, rfl, hS, h, Only.refl _ _⟩

end Go.Proofs.YthbonbcbbngciaaGreatDoor

/- Walks: commonslaw14: MetaFormats. -/
namespace Go.Proofs.YthbonbcbbngciaaGreatDoor
open Go.RowKit Go.Shelf

attribute [local go_sem] Oper.semAt_some

theorem path_slash : Np.pathL [47] = some [] := by decide +kernel
theorem fresh_names : Gd.namesT Gd.noTab = [] := by
  unfold Gd.namesT
  rw [show Gd.rawN Gd.noTab 16 = [] from by decide +kernel, List.mergeSort_nil]
theorem fresh_count (S : List UInt8) : Gd.countB (Gd.freshV S).map = 0 := by
  show Gd.countB (List.replicate 16 0) = 0
  decide +kernel

set_option maxHeartbeats 8000000 in
set_option maxRecDepth 100000 in
theorem law_mformats (A : Option Addr) (L : List UInt8) (c : Nat) (k : Int) (w : World) (hc : L.length ≤ c ∧ c ≤ 9223372036854775807) (hL : RawB w A L) (hk : I64 k) (hM : Mx w) :
    Calls Tryz.prog 3 #[.slice A L.length c, .int .i64 k] w fun e w' => e = .returned (.bool true) ∧ Below w.heap.size w w' := by
  have HP : Hid (Calls Tryz.prog 10 #[.int .i64 23168] w (NewMem w 2896 23168)) := Lib.hid (pnew_any 2896 (by omega) (by omega) (by omega) w)
  have HMx := Lib.hid hM
  have HLi : Hid (∀ W, Below w.heap.size w W → Calls Tryz.prog 21 #[] W fun e w' => e = .returned (.bool true) ∧ Below W.heap.size W w') := Lib.hid fun W hW => by
    obtain ⟨mx, hmx⟩ := HMx.out
    exact lives14_any W ⟨mx, (hW.cell (p := ⟨0, 0, none⟩) (mx_lt hmx)).trans hmx⟩
  have HL := Lib.hid hL
  have hk2 := hk.lo
  obtain ⟨hk3, hk4⟩ := hk2
  obtain ⟨hc1, hc2⟩ := hc
  obtain ⟨N, hN⟩ : ∃ N, N = L.length := ⟨_, rfl⟩
  rw [← hN] at hc1 ⊢
  have HN := Lib.hid hN
  clear hL hM hN
  go_enter Tryz.func3, Tryz.ntmps3
  go_wp2_with fail
  refine HP.out.mono ?_
  rintro e w1 ⟨m, sb, lb, ab, rfl, hM1, hb1, hlow1, hge1⟩
  obtain ⟨mn, hmn⟩ : ∃ mn : MemNo, m = mn.no := ⟨⟨m⟩, rfl⟩
  have Hmn := Lib.hid hmn
  clear hmn
  obtain ⟨S, hS⟩ : ∃ S : List UInt8, S = List.replicate 23168 0 := ⟨_, rfl⟩
  have HSl : Hid (S.length = 23168) := Lib.hid (by rw [hS, List.length_replicate])
  rw [← hS] at hM1
  have HM1 := Lib.hid hM1
  have HB1 := Lib.hid hb1
  have HGe := Lib.hid hge1
  clear HP hM1 hb1 hlow1 hge1 hS
  go_upto_if 19 with fail
  go_cut [0] from 20 to 21 (fun z wx => (∃ X : List UInt8, z = .slice A X.length c ∧ Hid (RawB w A X) ∧ X.length ≤ 4000) ∧ wx = w1)
  case first =>
    by_cases h1 : 4000 < N
    · have h2 : (4000 : Int) < N := by omega
      have h3 : (4000 : Int) ≤ c := by omega
      go_wp2_with fail
      go_meet
      refine ⟨⟨L.take 4000, ?_, Lib.hid (HL.out.take 4000), by rw [List.length_take]; omega⟩, rfl⟩
      rw [List.length_take, ← HN.out, Nat.min_eq_left (by omega)]
    · have h2 : ¬ (4000 : Int) < N := by omega
      go_wp2_with fail
      go_meet
      exact ⟨⟨L, by rw [← HN.out], HL, by rw [← HN.out]; omega⟩, rfl⟩
  case rest =>
  obtain ⟨⟨X, rfl, HX, hX⟩, hwc⟩ := hcut
  subst wc
  go_upto_if 23 with fail
  go_cut [1] from 24 to 26 (fun z wx => (∃ q : Nat, z = .int .i64 q) ∧ wx = w1)
  case first =>
    by_cases h1 : k < 0
    · go_wp2_with fail
      go_meet
      exact ⟨⟨(-(k + 1)).toNat, by congr 1; omega⟩, rfl⟩
    · go_wp2_with fail
      go_meet
      exact ⟨⟨k.toNat, by congr 1; omega⟩, rfl⟩
  case rest =>
  obtain ⟨⟨q, rfl⟩, hwc⟩ := hcut
  subst wc
  have HS1 : Hid (Calls Tryz.prog 11 #[.pointer (some ⟨m, 0, none⟩), .int .i64 ((q : Int) % 23168), .slice A X.length c] w1 (Stored m sb lb ab 2896 w1)) := Lib.hid (by
    rw [show (q : Int) % 23168 = ((q % 23168 : Nat) : Int) by omega]
    refine mstore_raw (q % 23168) A c X w1 HM1.out HSl.out (HX.out.keep HB1.out) (fun hne g o hg => ?_) (Nat.mod_lt _ (by omega)) hX
    rcases HX.out with e | ⟨b, o', h1, h2, _⟩
    · exact absurd e hne
    · rw [h1] at hg
      cases hg
      have := HGe.out
      omega)
  clear hk3 hk4 hk
  go_upto_region 9 with (go_at_call 11; refine HS1.out.mono ?_; rintro e w2 ⟨r, S2, rfl, hS2, hM2, hO2⟩)
  have HM2 := Lib.hid hM2
  have HS2 := Lib.hid hS2
  have HB2 : Hid (Below w.heap.size w w2) := Lib.hid (HB1.out.trans (hO2.below HB1.out.size fun k hk e => by have := HGe.out; omega))
  clear hM2 hS2 hO2 HS1 HM1
  obtain ⟨w3, hw3⟩ : ∃ u, u = w2.alloc (.cells (cellsB (List.replicate 8 0)) 5) := ⟨_, rfl⟩
  have hb3 : Below w2.heap.size w2 w3 := by rw [hw3]; exact (Below.refl _ _).alloc (Nat.le_refl _) _
  have hB3 : BytesAt w3 (.slice (some ⟨w2.heap.size, 0, none⟩) 8 8) (List.replicate 8 0) := by rw [hw3]; exact made_at w2 (List.replicate 8 0) 8
  have HSt : Hid (Calls Tryz.prog 11 #[.pointer (some ⟨m, 0, none⟩), .int .i64 2688, .slice (some ⟨w2.heap.size, 0, none⟩) 8 8] w3 fun e w' => e = .returned (.int .i64 0) ∧ MemAt w' m sb lb ab 2896 (Gd.splice S2 2688 (List.replicate 8 0)) 0 ∧ Only (fun k => k = sb ∨ k = ab) w3 w') := Lib.hid (by
    refine mstore_at 2688 _ (List.replicate 8 0) w3 (HM2.out.keep fun k hk => hb3.block k (HM2.out.lts k hk)) hB3 (fun g hg => ?_) (by rw [HS2.out]; decide) (by decide)
    cases hg
    have h1 := HM2.out.lts sb (by simp)
    have h2 := HM2.out.lts ab (by simp)
    show w2.heap.size ≠ sb ∧ w2.heap.size ≠ ab
    omega)
  have HB3 := Lib.hid (HB2.out.trans (hb3.mono HB2.out.size))
  have hmk := made8 w2
  rw [← hw3] at hmk
  clear hw3 hb3 hB3
  go_upto_region 10 with (go_at_call 11; refine HSt.out.mono ?_; rintro e w4 ⟨rfl, hM4, hO4⟩)
  have HB4 : Hid (Below w.heap.size w w4) := Lib.hid (HB3.out.trans (hO4.below HB3.out.size fun k hk e => by have := HGe.out; omega))
  obtain ⟨S4, hS4⟩ : ∃ S4, S4 = Gd.splice S2 2688 (List.replicate 8 0) := ⟨_, rfl⟩
  rw [← hS4] at hM4
  have HM4 := Lib.hid hM4
  have HS4 : Hid (S4.length = 23168 ∧ Gd.part S4 2688 8 = Gd.le 0 8) := Lib.hid (by
    have hf : 2688 + (List.replicate 8 (0 : UInt8)).length ≤ S2.length := by rw [HS2.out]; decide
    rw [hS4]
    refine ⟨by rw [Gd.splice_length hf]; exact HS2.out, ?_⟩
    have := Gd.part_splice_same hf
    rw [List.length_replicate] at this
    rw [this]
    rfl)
  clear hM4 hO4 hS4 hmk HSt HM2 HS2 HB2 HB3
  go_wp2_with fail
  refine (lnew_any w4 HM4.out HS4.out.1).mono ?_
  rintro e w5 ⟨rfl, hw5⟩
  have hb5 : Below w4.heap.size w4 w5 := by rw [hw5]; exact (Below.refl _ _).alloc (Nat.le_refl _) _
  have HL5 : Hid (LogAt w5 w4.heap.size m 2688 4096) := Lib.hid (by rw [hw5]; exact heap_alloc_new _ _)
  have HM5 := Lib.hid (HM4.out.below hb5)
  have HB5 := Lib.hid (HB4.out.trans (hb5.mono HB4.out.size))
  obtain ⟨g, hg⟩ : ∃ g, g = w4.heap.size := ⟨_, rfl⟩
  have Hg : Hid (w.heap.size ≤ g) := Lib.hid (by rw [hg]; exact HB4.out.size)
  rw [← hg] at HL5 ⊢
  clear hw5 hb5 hg
  go_wp2_with fail
  refine (tnew_any m g w5).mono ?_
  rintro e w6 ⟨rfl, hw6⟩
  have hb6 : Below w5.heap.size w5 w6 := by rw [hw6]; exact (Below.refl _ _).alloc (Nat.le_refl _) _
  have hT6 : w6.heap[w5.heap.size]? = some (.cells #[.pointer (some ⟨m, 0, none⟩), .pointer (some ⟨g, 0, none⟩), .slice none 0 0] 98 (0, 0)) := by rw [hw6]; exact heap_alloc_new _ _
  obtain ⟨t, ht⟩ : ∃ t, t = w5.heap.size := ⟨_, rfl⟩
  have Ht : Hid (w.heap.size ≤ t) := Lib.hid (by rw [ht]; exact HB5.out.size)
  rw [← ht] at hT6 ⊢
  have HT6 := Lib.hid (txn_start (w := w) (HM5.out.below hb6) HGe.out Hg.out ((hb6.block g (lt_get HL5.out)).trans HL5.out) Ht.out hT6 Hmn.out)
  have HB6 := Lib.hid (HB5.out.trans (hb6.mono HB5.out.size))
  clear hw6 hb6 hT6 ht HM4 HM5 HL5
  go_wp2_with fail
  refine (xnew_any w6 HT6.out HS4.out.1).mono ?_
  rintro e w7 ⟨x, rfl, hx, hx7, hb7⟩
  have HT7 : Hid (TxnF t S4 [] 0 w7 fun k => w.heap.size ≤ k ∧ k < x) := Lib.hid ((TxnF.held t S4 [] 0).below ((TxnF.held t S4 [] 0).mono HT6.out fun k hk e => ⟨e, Nat.lt_of_lt_of_le hk hx⟩) hb7)
  have HM7 := Lib.hid (meta_start HT7.out (Nat.le_trans HB6.out.size hx) hx7 HS4.out.1 HS4.out.2)
  have HB7 := Lib.hid (HB6.out.trans (hb7.mono HB6.out.size))
  clear hx hx7 hb7 HT6 HT7
  have HFm : Hid (Calls Tryz.prog 15 #[.pointer (some ⟨x, 0, none⟩)] w7 fun e b => e = .returned (.int .i64 0) ∧ Tl x t S4 (Gd.freshV S4) 50 0 Nof w b []) := Lib.hid ((format_any w7 HM7.out (by omega)).mono (by
    rintro e b ⟨rfl, F6, hs⟩
    exact ⟨rfl, Tl.of_step0 HB7.out (fun k hk => hk.1) (hs.mono fun hi => ⟨_, hi, Gd.fresh_good HS4.out.1⟩)⟩))
  clear HM7
  go_wp2_with fail
  refine HFm.out.mono ?_
  rintro e w8 ⟨rfl, hT8⟩
  have HCm := Lib.hid (hT8.commit (by omega) (by omega))
  clear hT8 HFm
  go_wp2_with fail
  refine HCm.out.mono ?_
  rintro e w9 ⟨rfl, S9, hT9⟩
  have HT9 := Lib.hid hT9
  clear hT9 HCm
  go_upto_region 18 with fail
  have hp9 := heap_alloc_new w9 (.cells (((Tryz.zeroCells39.setIfInBounds 0 (.pointer (some ⟨m, 0, none⟩))).setIfInBounds 1 (.pointer (some ⟨t, 0, none⟩))).setIfInBounds 2 (.pointer (some ⟨x, 0, none⟩))) 39)
  have hT10 := HT9.out.below ((Below.refl _ _).alloc (Nat.le_refl _) (.cells (((Tryz.zeroCells39.setIfInBounds 0 (.pointer (some ⟨m, 0, none⟩))).setIfInBounds 1 (.pointer (some ⟨t, 0, none⟩))).setIfInBounds 2 (.pointer (some ⟨x, 0, none⟩))) 39))
  obtain ⟨p, hpe⟩ : ∃ p, p = w9.heap.size := ⟨_, rfl⟩
  rw [← hpe] at hp9 ⊢
  have hpx := (cell_of_row _ p 2 _ _ _ hp9).trans (show _ = some (Value.pointer (some ⟨x, 0, none⟩)) from by
    rw [Array.getElem?_setIfInBounds_self]
    rfl)
  have hpl := lt_get hp9
  generalize (w9.alloc (.cells (((Tryz.zeroCells39.setIfInBounds 0 (.pointer (some ⟨m, 0, none⟩))).setIfInBounds 1 (.pointer (some ⟨t, 0, none⟩))).setIfInBounds 2 (.pointer (some ⟨x, 0, none⟩))) 39)) = w10 at hT10 hpx hpl hp9 ⊢
  have HT10 := Lib.hid hT10
  have HPx := Lib.hid (And.intro hpx hpl)
  have HSn := Lib.hid (Gd.fresh_snd S4)
  obtain ⟨M, hMe⟩ : ∃ M, M = Gd.freshV S4 := ⟨_, rfl⟩
  rw [← hMe] at HT10 HSn
  have HMe := Lib.hid hMe
  have HWk : Hid (∀ W, Below w10.heap.size w10 W → Calls Tryz.prog 32 #[.pointer (some ⟨x, 0, none⟩), .string ⟨#[47]⟩] W fun e w' => e = .returned (.tuple #[.int .i64 (1 : Nat), .int .i64 0]) ∧ Below W.heap.size W w') := Lib.hid fun W hW => by
    obtain ⟨F1, h1, h2⟩ := HT10.out
    obtain ⟨mx, hmx⟩ := HMx.out
    have hm : W.cell? ⟨0, 0, none⟩ = some (.int .i64 mx) := ((HT10.out.belowW.trans (hW.mono HT10.out.belowW.size)).cell (p := ⟨0, 0, none⟩) (mx_lt hmx)).trans hmx
    exact mwalk_yes ⟨#[47]⟩ [] mx W (h1.inv.below hW) HSn.out.tree (by decide) hm path_slash
  have HTb : Hid (∀ W, Below w10.heap.size w10 W → Calls Tryz.prog 35 #[.pointer (some ⟨x, 0, none⟩), .int .i64 (1 : Nat)] W fun e w' => e = .returned (.tuple #[tabV Gd.noTab, .int .i64 0]) ∧ Below W.heap.size W w') := Lib.hid fun W hW => by
    obtain ⟨F1, h1, h2⟩ := HT10.out
    exact tableI_dir W (h1.inv.below hW) (HSn.out.tree.dir 1 (by omega) (by omega) HSn.out.tree.root)
  have HLs := Lib.hid (mlist_ok (x := x) ⟨#[47]⟩ 1 Gd.noTab Gd.noTab_ok w10 HWk.out HTb.out)
  unfold ListPost at HLs
  rw [fresh_names] at HLs
  have HSd : Hid (∀ W, Below w10.heap.size w10 W → Calls Tryz.prog 18 #[.pointer (some ⟨p, 0, none⟩)] W fun e w' => e = .returned (.bool true) ∧ Below W.heap.size W w') := Lib.hid fun W hW => by
    obtain ⟨F1, h1, h2⟩ := HT10.out
    exact sound_any W (h1.inv.below hW) ((hW.cell (p := ⟨p, 2, none⟩) HPx.out.2).trans HPx.out.1) (Nat.lt_of_lt_of_le HPx.out.2 hW.size) HSn.out
  clear hp9 hT10 hpx hpl hpe hMe HT9 HWk HTb
  go_upto_region 19 with (go_at_call 17; refine HLs.out.mono ?_; rintro e w11 ⟨A2, c2, rfl, -, hb11⟩; have HB11 := Lib.hid hb11; clear hb11)
  have HSd11 := Lib.hid (HSd.out w11 HB11.out)
  go_upto_region 20 with (go_at_call 18; refine HSd11.out.mono ?_; rintro e w12 ⟨rfl, hb12⟩; have HB12 := Lib.hid (HB11.out.trans (hb12.mono HB11.out.size)); clear hb12)
  have HN64 : Hid (∀ W, Calls Tryz.prog 10 #[.int .i64 64] W (NewMem W 8 64)) := Lib.hid fun W => pnew_any 8 (by omega) (by omega) (by omega) W
  have HN128 : Hid (∀ W, Calls Tryz.prog 10 #[.int .i64 128] W (NewMem W 16 128)) := Lib.hid fun W => pnew_any 16 (by omega) (by omega) (by omega) W
  clear HLs HSd HSd11
  go_wp2_with fail
  refine (HN64.out w12).mono ?_
  rintro e w13 ⟨m2, sb2, lb2, ab2, rfl, hM13, hb13, -, -⟩
  have HM13 := Lib.hid hM13
  have HB13 := Lib.hid (HB12.out.trans (hb13.mono HB12.out.size))
  clear hM13 hb13
  go_wp2_with fail
  refine (HN128.out w13).mono ?_
  rintro e w14 ⟨m3, sb3, lb3, ab3, rfl, hM14, hb14, -, -⟩
  have HM14 := Lib.hid hM14
  have HM13b := Lib.hid (HM13.out.below hb14)
  have HB14 := Lib.hid (HB13.out.trans (hb14.mono HB13.out.size))
  clear hM14 hb14
  go_wp2_with fail
  refine (lnew_small w14 HM14.out (by rw [List.length_replicate])).mono ?_
  rintro e w15 ⟨g2, rfl, hb15⟩
  have HM15 := Lib.hid (HM13b.out.below hb15)
  have HB15 := Lib.hid (HB14.out.trans (hb15.mono HB14.out.size))
  clear hb15
  go_wp2_with fail
  refine (tnew_any m2 g2 w15).mono ?_
  rintro e w16 ⟨rfl, hw16⟩
  have hb16 : Below w15.heap.size w15 w16 := by rw [hw16]; exact (Below.refl _ _).alloc (Nat.le_refl _) _
  have HT16 : Hid (w16.heap[w15.heap.size]? = some (.cells #[.pointer (some ⟨m2, 0, none⟩), .pointer (some ⟨g2, 0, none⟩), .slice none 0 0] 98 (0, 0))) := Lib.hid (by rw [hw16]; exact heap_alloc_new _ _)
  have HM16 := Lib.hid (HM15.out.below hb16)
  have HB16 := Lib.hid (HB15.out.trans (hb16.mono HB15.out.size))
  clear hb16 hw16
  go_wp2_with fail
  refine (xnew_small w16 HM16.out (by rw [List.length_replicate]) HT16.out).mono ?_
  rintro e w17 ⟨rfl, hb17⟩
  have HB17 := Lib.hid (HB16.out.trans (hb17.mono HB16.out.size))
  have HT17 := Lib.hid (HT10.out.below HB17.out)
  have HMp := Lib.hid HT17.out.fmap
  have HCo := Lib.hid fun W => count_any M.map HSn.out.sound.mapl W
  have HC0 : Hid (Gd.countB M.map = 0) := Lib.hid (by rw [HMe.out]; exact fresh_count S4)
  rw [HC0.out] at HCo
  clear hb17
  go_wp2_with fail
  refine HMp.out.mono ?_
  rintro e w18 ⟨rfl, hb18⟩
  have HT18 := Lib.hid (HT17.out.below hb18)
  clear hb18
  go_wp2_with fail
  refine (HCo.out w18).mono ?_
  rintro e w19 ⟨rfl, hb19⟩
  have HT19 := Lib.hid (HT18.out.below hb19)
  clear hb19
  go_wp2_with fail
  refine (xnew_nil w19).mono ?_
  rintro e w20 ⟨rfl, rfl⟩
  go_wp2_with fail
  refine (HLi.out w20 HT19.out.belowW).mono ?_
  rintro e w21 ⟨rfl, hb21⟩
  have HB21 := Lib.hid (HT19.out.below hb21).belowW
  go_wp2
  go_ret
  exact ⟨rfl, HB21.out⟩

end Go.Proofs.YthbonbcbbngciaaGreatDoor
