/- Walks: the program's sorted: a directory's names, rising. -/
import Derived.Test.YtbpejjmfdhkfhaaGreatDoorPosRealM
import Derived.Test.YtbpejjmfdhkfhaaGreatDoorPosRefS
import Derived.Test.YtbpejjmfdhkfhaaGreatDoorPosSort
import Derived.Shelf.Slices.In.SortNone
import Derived.Sort.KeysCollected
import Derived.Sort.OwnSorted
set_option linter.unusedVariables false
set_option linter.unusedSimpArgs false
namespace Go.Proofs.YtbpejjmfdhkfhaaGreatDoor
open Go.RowKit
open Go.Sort

namespace Pz
theorem ins_perm (x : List UInt8) : ∀ L : List (List UInt8), (ins x L).Perm (x :: L)
  | [] => List.Perm.refl _
  | y :: r => by
    rw [ins]
    split
    · exact List.Perm.refl _
    · exact ((ins_perm x r).cons y).trans (List.Perm.swap x y r)
theorem ins_sorted (x : List UInt8) : ∀ L : List (List UInt8), L.Pairwise (fun a b => leB a b = true) → (ins x L).Pairwise (fun a b => leB a b = true)
  | [], _ => by rw [ins]; exact List.pairwise_singleton _ _
  | y :: r, h => by
    obtain ⟨h1, h2⟩ := List.pairwise_cons.1 h
    rw [ins]
    split
    · rename_i hxy
      refine List.pairwise_cons.2 ⟨fun z hz => ?_, h⟩
      have hle : x ≤ y := List.le_of_lt hxy
      rcases List.mem_cons.1 hz with rfl | hz
      · exact decide_eq_true hle
      · exact decide_eq_true (List.le_trans hle (of_decide_eq_true (h1 z hz)))
    · rename_i hxy
      refine List.pairwise_cons.2 ⟨fun z hz => ?_, ins_sorted x r h2⟩
      rcases List.mem_cons.1 ((ins_perm x r).mem_iff.1 hz) with rfl | hz
      · exact decide_eq_true (List.not_lt.1 hxy)
      · exact h1 z hz
theorem fold_ins : ∀ (M L : List (List UInt8)), L.Pairwise (fun a b => leB a b = true) → (M.foldl (fun l x => ins x l) L).Pairwise (fun a b => leB a b = true) ∧ (M.foldl (fun l x => ins x l) L).Perm (M ++ L)
  | [], L, h => ⟨h, List.Perm.refl _⟩
  | x :: M, L, h => by
    obtain ⟨h1, h2⟩ := fold_ins M (ins x L) (ins_sorted x L h)
    refine ⟨h1, h2.trans ?_⟩
    exact (List.Perm.append_left M (ins_perm x L)).trans List.perm_middle
theorem namesOf_eq {E : List En} {i : Nat} {ss : List (List UInt8)} (h : ss.Perm ((E.filter fun e => e.dir == i).map (·.name))) : ss.mergeSort leB = namesOf E i := by
  obtain ⟨h1, h2⟩ := fold_ins ((E.filter fun e => e.dir == i).map (·.name)) [] List.Pairwise.nil
  rw [List.append_nil] at h2
  unfold namesOf
  rw [mergeSort_of_perm (h.trans h2.symm), List.mergeSort_of_pairwise h1]
theorem look_mem {E : List En} {i : Nat} {x : List UInt8} : 0 ≤ look E i x ↔ ∃ e ∈ E, e.dir = i ∧ e.name = x := by
  induction E with
  | nil => rw [look]; simp
  | cons e r ih =>
    rw [look]
    by_cases he : e.dir = i ∧ e.name = x
    · rw [if_pos he]
      exact ⟨fun _ => ⟨e, List.mem_cons_self .., he⟩, fun _ => by omega⟩
    · rw [if_neg he, ih]
      refine ⟨fun ⟨a, ha, h⟩ => ⟨a, List.mem_cons_of_mem _ ha, h⟩, fun ⟨a, ha, h⟩ => ?_⟩
      rcases List.mem_cons.1 ha with rfl | ha
      · exact absurd h he
      · exact ⟨a, ha, h⟩
theorem names_nodup {E : List En} {i : Nat} (h : E.Pairwise fun a b => ¬ (a.dir = b.dir ∧ a.name = b.name)) : ((E.filter fun e => e.dir == i).map (·.name)).Nodup := by
  refine List.Pairwise.map (R := fun a b : En => a.name ≠ b.name) _ (fun a b h => h) ?_
  refine List.Pairwise.imp_of_mem ?_ (h.filter _)
  intro a b ha hb hne e
  have h1 := (List.mem_filter.1 ha).2
  have h2 := (List.mem_filter.1 hb).2
  simp only [beq_iff_eq] at h1 h2
  exact hne ⟨h1.trans h2.symm, e⟩
theorem names_mem {E : List En} {i : Nat} {x : List UInt8} : x ∈ (E.filter fun e => e.dir == i).map (·.name) ↔ 0 ≤ look E i x := by
  rw [look_mem, List.mem_map]
  constructor
  · rintro ⟨e, he, rfl⟩
    obtain ⟨h1, h2⟩ := List.mem_filter.1 he
    exact ⟨e, h1, by simpa using h2, rfl⟩
  · rintro ⟨e, he, h1, h2⟩
    exact ⟨e, List.mem_filter.2 ⟨he, by simpa using h1⟩, h2⟩
end Pz

theorem MapE.has {D : DataW Unit} {β : Nat → Nat} {E : List Pz.En} {i : Nat} (h : MapE D β E i) (x : List UInt8) : Maps.has D (.string x) = true ↔ 0 ≤ Pz.look E i x := by
  by_cases hl : 0 ≤ Pz.look E i x
  · have hh : Maps.has D (.string x) = true := Maps.has_true_of_atKey (y := .lit (.int .i64 (β (Pz.look E i x).toNat))) fun z => by rw [h.1, if_neg (by omega)]
    exact ⟨fun _ => hl, fun _ => hh⟩
  · have hh : Maps.has D (.string x) = false := Maps.has_false_of_atKey fun z => by rw [h.1, if_pos (by omega)]
    rw [hh]
    exact ⟨fun e => (by cases e), fun e => absurd e hl⟩
theorem collected_names {D : DataW Unit} {β : Nat → Nat} {E : List Pz.En} {i : Nat} {left : Lit → Bool} {ss : List (List UInt8)} (hC : Collected D left ss) (h : MapE D β E i) (ho : E.Pairwise fun a b => ¬ (a.dir = b.dir ∧ a.name = b.name)) (hl : ∀ kl, left kl = false) :
    ss.mergeSort leB = Pz.namesOf E i := by
  refine Pz.namesOf_eq ((List.perm_ext_iff_of_nodup hC.1 (Pz.names_nodup ho)).2 fun x => ?_)
  rw [hC.2, Pz.names_mem, ← h.has]
  exact ⟨fun h => h.1, fun h => ⟨h, hl _⟩⟩

def ptrOf : Option Nat → Value
  | none => .pointer none
  | some b => .pointer (some ⟨b, 0, none⟩)
theorem ptrE_shape {v : Value} {y : DataW Unit × List MemPlace} (h : ptrE v = some y) : ∃ c, v = ptrOf c := by
  rcases ptrE_inv h with ⟨rfl, _⟩ | ⟨b, rfl, _⟩
  · exact ⟨none, rfl⟩
  · exact ⟨some b, rfl⟩
theorem sort_none (W : World) : Calls Tryz.prog 79 #[.slice none 0 0] W fun e w' => e = .returned (.tuple #[]) ∧ Below W.heap.size W w' :=
  (Any.slices_Sort_string_none Tryz.lays190 none 0 W).mono fun e w' h => ⟨h.1, h.2 ▸ Below.refl _ _⟩
theorem own_strs {w : World} {B : Nat} {v : Value} {O : List (List UInt8)} (h : w.ownsRow B 9 1 v O.length (cellsL O)) : ∃ A c, v = .slice A O.length c ∧ Strs w B A O := by
  obtain ⟨A, c, hv, _, _, hS⟩ := owns_strs h
  exact ⟨A, c, hv, hS⟩

set_option maxHeartbeats 4000000 in
set_option maxRecDepth 16384 in
theorem fsorted_any [Inhabited XBox] (F : Nat → Prop) (r bo m : Nat) (β μ : Nat → Nat) (S : Pz.Fil) (w : World) (hG : Pz.Good 1000 S) (hd : Pz.isDir S.N m = true) (hR : RealAt w F r bo β μ S) :
    Calls Tryz.prog 61 #[.pointer (some ⟨β m, 0, none⟩)] w (NamesYes (Pz.namesOf S.E m) w) := by
  obtain ⟨_, _, n2, _⟩ := hR.nc (isDir_lt hd)
  rw [hd, if_pos rfl] at n2
  obtain ⟨D, hown, hme⟩ := hR.dirs m hd
  have HMe := Lib.hid hme
  have HOnce := Lib.hid hG.once
  have hbl := hown.lt
  have hsz : Maps.size D ≤ 1000 := by
    rw [hme.2]
    have := List.length_filter_le (fun e : Pz.En => e.dir == m) S.E
    have := hG.e
    unfold Pz.count
    omega
  have HOwn := Lib.hid hown
  obtain ⟨cap, hcap⟩ : ∃ cap, cap = Pz.count S.E m := ⟨_, rfl⟩
  rw [← hcap] at HOwn
  obtain ⟨i0, hi, hz0, hz1, hz2⟩ := info_parts Tryz.infoS
  clear hme hown hcap hR hG hd
  go_enter Tryz.func61, Tryz.ntmps61
  go_wp2_with (at_range; refine wpList_range_own _ rfl _ 103 rfl 9 62 Tryz.strLaw Tryz.underlying103 _ _ _ D rfl HOwn.out ?_; intro w0 hrg0 hg0 hs0)
  go_frame
  go_loopw [3] (fun v wr => ∃ (left : Lit → Bool) (cnt : Nat) (ss : List (List UInt8)), wr.ranges Tryz.prog 9 ptrE (μ m) w.heap.size cap D left cnt ∧ ss.length + cnt ≤ Maps.size D ∧ wr.ownsRow w.heap.size 9 1 v ss.length (cellsL ss) ∧ Collected D left ss ∧ Below w.heap.size w wr)
    (fun _ wr => wr.rangeLeft (μ m) w.heap.size)
  case atStart =>
    exact ⟨_, _, [], hrg0, by simp, World.ownsRow_nil _ _ _ _, Collected.start D, (Below.refl _ _).grown hg0 (Nat.le_refl _) (fun j hj => by cases hj)⟩
  case round =>
    obtain ⟨left, cnt, ss, hrg, hcs, hrow, hC, hnx⟩ := hrel
    go_wp2_with (at_next; refine wpList_next_ranges _ rfl _ rfl 9 Tryz.strLaw ptrE encStr ptrOf (fun key kl hk => by obtain ⟨x, hx, _⟩ := Maps.keyOf_str Tryz.underlying9 hk; exact ⟨x, hx⟩) (fun v y hv => ptrE_shape hv) (μ m) w.heap.size cap _ _ _ rfl hrg ?_ ?_)
    · intro hc0 hl0
      have HN := Lib.hid (collected_names hC HMe.out HOnce.out hl0)
      rcases hrow.2 with ⟨rfl, hn0⟩ | ⟨g, cap', cur, rfl, hbase, hb, h1, h2, h3, h4⟩
      · have HE : Hid (Pz.namesOf S.E m = []) := Lib.hid (by rw [← HN.out, List.eq_nil_of_length_eq_zero hn0, List.mergeSort_nil])
        clear hrg hrow hcs hn0 hc0 hl0
        go_wp2_with fail
        refine (sort_none _).mono ?_
        rintro e w3 ⟨rfl, hb3⟩
        have HB3 := Lib.hid (hnx.trans (hb3.mono hnx.size))
        go_wp2
        go_ret
        rw [HE.out]
        exact ⟨none, 0, rfl, Or.inl rfl, HB3.out⟩
      · have h5 : cur.toList.take ss.length = cellsL ss := by simpa using h4
        have hH : Holds encStr wr g 0 ss.toArray := holds_of_block hb h5
        have hgl : g < wr.heap.size := (Array.getElem?_eq_some_iff.1 hb).1
        have hsort := Lib.hid (Tryz.slices_Sort_string g 0 cap' ss wr hH hgl (by omega))
        have hfin : ∀ w3, (∃ nn os, w3 = Sort.grow (Sort.putRow encStr (Sort.ahead wr nn) g 0 (ss.mergeSort fun x y => decide (x ≤ y)).toArray) os) → Strs w3 w.heap.size (some ⟨g, 0, none⟩) (Pz.namesOf S.E m) ∧ Below w.heap.size w w3 := by
          rintro w3 ⟨nn, os, rfl⟩
          refine ⟨?_, hnx.grown (grownBy_sorted _) hnx.size (fun j hj => by cases hj; exact hbase)⟩
          have ho := ownsRow_sorted (ts := ss.mergeSort fun x y => decide (x ≤ y)) (n := nn) (os := os) (by simp) hbase hb h1 h2 h3
          have hl : (ss.mergeSort leB).length = ss.length := List.length_mergeSort _
          obtain ⟨A, c, hv, hS⟩ := own_strs (O := ss.mergeSort leB) (v := .slice (some ⟨g, 0, none⟩) ss.length cap') (by rw [hl]; exact ho)
          injection hv with hv1 _ _
          rw [← HN.out, hv1]
          exact hS
        have HFin := Lib.hid hfin
        have HLen : Hid ((Pz.namesOf S.E m).length = ss.length) := Lib.hid (by rw [← HN.out, List.length_mergeSort])
        clear hrg hrow hcs hc0 hl0 hfin hH hb h1 h2 h3 h4 h5
        go_wp2_with fail
        refine hsort.out.mono ?_
        rintro e w3 ⟨rfl, hw3⟩
        have HF3 := Lib.hid (HFin.out w3 hw3)
        clear hw3
        go_wp2
        go_ret
        exact ⟨some ⟨g, 0, none⟩, cap', by rw [HLen.out]; rfl, HF3.out.1, HF3.out.2⟩
    · intro x c kl yd yp w2 cnt2 hkey hlk hv hat hrg2 hlt hg2 hs2 hen
      obtain ⟨x', ex, rfl, _⟩ := Maps.keyOf_str Tryz.underlying9 hkey
      obtain rfl : x = x' := encStr_inj ex
      have hrow2 := hrow.kept hg2 (Or.inr (row_ne_iter hrow hrg).symm)
      have HHlk := Lib.hid hlk
      have HHat := Lib.hid hat
      clear hs2 hlk hat hv hkey ex
      go_wp2_with (at_builtin; refine wpList_append_own _ rfl _ _ 32 rfl w.heap.size 9 i0 (.string ByteArray.empty) 1 16 Tryz.underlying32 hi hz0 hz1 hz2 rfl (by decide) _ _ _ rfl (hrow2.alloc _) ⟨w2.heap.size, 0, none⟩ 1 1 [encStr x] rfl rfl (cell_one_new _ _ _) (by intro u hu; simp only [List.mem_singleton] at hu; subst hu; rfl) (by unfold maxLen; omega) (by omega) (by have := hnx.size; have := hg2.size; simp; omega) ?_; intro v' w3 hown' hg3 hnil3; go_frame)
      have hrg3 := (hrg2.alloc _).kept hg3 (row_ne_low hrow2 hbl) (row_ne_iter hrow2 hrg2)
      go_roundw
      case rel =>
        refine ⟨_, cnt2, ss ++ [x], hrg3, by simp; omega, ?_, hC.step HHlk.out HHat.out, ?_⟩
        · have e1 : cellsL ss ++ [encStr x] = cellsL (ss ++ [x]) := by unfold cellsL; rw [List.map_append]; rfl
          rw [e1, show ss.length + 1 = (ss ++ [x]).length by simp] at hown'
          exact hown'
        · exact ((hnx.grown hg2 hnx.size (fun j hj => by cases hj; exact Nat.le_refl _)).alloc (by have := hnx.size; have := hg2.size; omega) _).grown hg3 (by have := hnx.size; have := hg2.size; simp; omega) (fun j hj => (hrow2.lt j hj).1)
      case measure => rw [hrg3.left_eq, hrg.left_eq]; exact hlt

end Go.Proofs.YtbpejjmfdhkfhaaGreatDoor
