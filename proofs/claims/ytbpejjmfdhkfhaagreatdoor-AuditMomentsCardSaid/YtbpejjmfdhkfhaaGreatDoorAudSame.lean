/- Walks: the document's SameReply and the audit's same, at any two answers. -/
import Derived.Test.YtbpejjmfdhkfhaaGreatDoorAudEv
import Derived.Test.YtbpejjmfdhkfhaaGreatDoorPosBoth
set_option linter.unusedVariables false
set_option linter.unusedSimpArgs false
namespace Go.Proofs.YtbpejjmfdhkfhaaGreatDoor
open Go.RowKit

/-- texts stand at a place, whoever owns them -/
def Nmz (w : World) (A : Option Addr) (L : List (List UInt8)) : Prop :=
  L = [] ∨ ∃ b o, A = some ⟨b, o, none⟩ ∧ b < w.heap.size ∧ ∀ j x, L[j]? = some x → w.cell? ⟨b, o + j, none⟩ = some (.string ⟨x.toArray⟩)
theorem Nmz.keep {w w' : World} {A : Option Addr} {L : List (List UInt8)} (h : Nmz w A L) (hb : Below w.heap.size w w') : Nmz w' A L := by
  rcases h with h | ⟨b, o, h1, h2, h3⟩
  · exact Or.inl h
  · exact Or.inr ⟨b, o, h1, Nat.lt_of_lt_of_le h2 hb.size, fun j x hx => (hb.cell (p := ⟨b, o + j, none⟩) h2).trans (h3 j x hx)⟩
theorem Strs.nmz {w : World} {B : Nat} {A : Option Addr} {L : List (List UInt8)} (h : Strs w B A L) : Nmz w A L := by
  rcases h with h | ⟨b, o, h1, _, h2, h3, _⟩
  · exact Or.inl h
  · exact Or.inr ⟨b, o, h1, h2, h3⟩
/-- an answer of one truth -/
def Told (w : World) (p : Prop) (e : Ending) (w' : World) : Prop := ∃ b : Bool, e = .returned (.bool b) ∧ (b = true ↔ p) ∧ Below w.heap.size w w'
theorem ret_boolN {b c : Bool} (h : b = c) : (Ending.returned (.bool b)) = .returned (.bool c) := by rw [h]

set_option maxHeartbeats 2000000 in
theorem sameN_any (A A' : Option Addr) (L M : List (List UInt8)) (c c' : Nat) (w : World) (hL : L.length ≤ 9223372036854775807) (hM : M.length ≤ 9223372036854775807) (hS : Nmz w A L) (hS' : Nmz w A' M) :
    Calls Tryz.prog 47 #[.slice A L.length c, .slice A' M.length c'] w fun e w' => e = .returned (.bool (decide (L = M))) ∧ Below w.heap.size w w' := by
  have HS := Lib.hid hS; clear hS
  have HS' := Lib.hid hS'; clear hS'
  by_cases hne : L.length = M.length
  · obtain ⟨n, hn⟩ : ∃ n, n = L.length := ⟨_, rfl⟩
    rw [← hne, ← hn]
    have Hn := Lib.hid hn
    have Hm := Lib.hid (hn.trans hne)
    have hn1 : n ≤ 9223372036854775807 := by omega
    clear hn hne hL hM
    obtain ⟨r, hr⟩ : ∃ r, r = decide (L = M) := ⟨_, rfl⟩
    rw [← hr]
    have Hr := Lib.hid hr; clear hr
    go_enter Tryz.func47, Tryz.ntmps47
    go_wp2
    go_loopw [5] (fun i wr => ∃ k : Nat, k ≤ n ∧ i = .int .i64 k ∧ Hid (L.take k = M.take k) ∧ Below w.heap.size w wr) (fun i _ => n - (intOf i).toNat)
    case atStart => exact ⟨0, by omega, rfl, by show L.take 0 = M.take 0; simp, Below.refl _ _⟩
    case round =>
      obtain ⟨k, hk, rfl, hok, hbw⟩ := hrel
      by_cases hlt : k < n
      · have hkL : k < L.length := by have := Hn.out; omega
        have hkM : k < M.length := by have := Hm.out; omega
        obtain ⟨x, hx⟩ : ∃ x, L[k]? = some x := ⟨_, List.getElem?_eq_getElem hkL⟩
        obtain ⟨y, hy⟩ : ∃ y, M[k]? = some y := ⟨_, List.getElem?_eq_getElem hkM⟩
        rcases HS.out with h | ⟨b, o, rfl, h3, h4⟩
        · subst h; simp at hkL
        rcases HS'.out with h | ⟨b', o', rfl, h3', h4'⟩
        · subst h; simp at hkM
        have hc : wr.cell? ⟨b, o + k, none⟩ = some (.string ⟨x.toArray⟩) := (hbw.cell (p := ⟨b, o + k, none⟩) h3).trans (h4 k x hx)
        have hc' : wr.cell? ⟨b', o' + k, none⟩ = some (.string ⟨y.toArray⟩) := (hbw.cell (p := ⟨b', o' + k, none⟩) h3').trans (h4' k y hy)
        have hiff := take_both hok.out hx hy
        have Hiff := Lib.hid hiff
        have Hx := Lib.hid hx
        have Hy := Lib.hid hy
        clear h4 h4' hx hy hiff hkL hkM
        have hk1 : (0 : Int) ≤ k := by omega
        have hk2 : (k : Int) < n := by omega
        go_wp2
        go_quiet (fail)
        go_wp2
        · have hne : (!x == y) = true := by assumption
          have hxy : ¬ x = y := by simpa using hne
          go_ret
          refine ⟨ret_bool ?_, below_drewN hbw _⟩
          rw [Hr.out]
          symm
          exact decide_eq_false fun h => hxy (Hiff.out.1 (by rw [h]))
        · have hne : (!x == y) = false := by assumption
          have hxy : x = y := by simpa using hne
          go_roundw
          case rel => exact ⟨k + 1, by omega, by go_num, Hiff.out.2 hxy, below_drewN hbw _⟩
          case measure => simp [intOf]; omega
      · go_wp2
        go_ret
        refine ⟨ret_bool ?_, hbw⟩
        have := hok.out
        rw [List.take_of_length_le (by have := Hn.out; omega), List.take_of_length_le (by have := Hm.out; omega)] at this
        rw [Hr.out, decide_eq_true this]
  · have hne' : ((L.length : Int) != M.length) = true := by rw [bne_iff_ne]; omega
    have hd : decide (L = M) = false := decide_eq_false fun h => hne (by rw [h])
    rw [hd]
    clear hd hne
    go_enter Tryz.func47, Tryz.ntmps47
    go_wp2
    go_ret
    exact ⟨rfl, Below.refl _ _⟩


/-- slices.Equal at two lists of texts -/
theorem equalN_any (A A' : Option Addr) (L M : List (List UInt8)) (c c' : Nat) (w : World) (hL : L.length ≤ 9223372036854775807) (hM : M.length ≤ 9223372036854775807) (hS : Nmz w A L) (hS' : Nmz w A' M) :
    Calls Tryz.prog 78 #[.slice A L.length c, .slice A' M.length c'] w fun e w' => e = .returned (.bool (decide (L = M))) ∧ Below w.heap.size w w' := by
  by_cases hne : L.length = M.length
  · rcases hS with h | ⟨b, o, rfl, h3, h4⟩
    · subst h
      obtain rfl : M = [] := List.length_eq_zero_iff.1 (by rw [← hne]; rfl)
      refine (Tryz.slices_Equal_string_empty A A' c 0 c' w (by omega)).mono fun e w' ⟨he, hw⟩ => ?_
      subst hw
      exact ⟨by rw [he]; rfl, Below.refl _ _⟩
    · rcases hS' with h | ⟨b', o', rfl, h3', h4'⟩
      · subst h
        obtain rfl : L = [] := List.length_eq_zero_iff.1 hne
        refine (Tryz.slices_Equal_string_empty (some ⟨b, o, none⟩) A' c 0 c' w (by omega)).mono fun e w' ⟨he, hw⟩ => ?_
        subst hw
        exact ⟨by rw [he]; rfl, Below.refl _ _⟩
      · have hg : ∀ (K : List (List UInt8)) (j : Nat), j < (K.map fun x => (⟨x.toArray⟩ : ByteArray)).length → ∃ x, K[j]? = some x ∧ (K.map fun x => (⟨x.toArray⟩ : ByteArray)).getD j ByteArray.empty = ⟨x.toArray⟩ := fun K j hj => by
          rw [List.length_map] at hj
          refine ⟨K[j], List.getElem?_eq_getElem hj, ?_⟩
          rw [List.getD_eq_getElem?_getD, List.getElem?_map, List.getElem?_eq_getElem hj]
          rfl
        have h := Tryz.slices_Equal_string b o L.length c b' o' M.length c' (L.map fun x => ⟨x.toArray⟩) (M.map fun x => ⟨x.toArray⟩) w (by simp) (by simp) (by omega) (by omega)
          (fun j hj => by obtain ⟨x, hx, hd⟩ := hg L j hj; rw [hd]; exact h4 j x hx) (fun j hj => by obtain ⟨x, hx, hd⟩ := hg M j hj; rw [hd]; exact h4' j x hx)
        refine h.mono fun e w' ⟨he, q, hw⟩ => ?_
        subst hw
        refine ⟨?_, below_drewN (Below.refl _ _) _⟩
        rw [he]
        apply ret_bool
        rw [List.take_of_length_le (by simp), List.take_of_length_le (by simp)]
        have hinj : ∀ K N : List (List UInt8), (K.map fun x => (⟨x.toArray⟩ : ByteArray)) = (N.map fun x => (⟨x.toArray⟩ : ByteArray)) ↔ K = N := fun K N => by
          constructor
          · intro h
            have := congrArg (List.map fun b : ByteArray => b.data.toList) h
            simpa [Function.comp_def] using this
          · intro h; rw [h]
        simp only [hinj]
  · refine (Tryz.slices_Equal_string_lens A A' L.length c M.length c' w hne).mono fun e w' ⟨he, hw⟩ => ?_
    subst hw
    exact ⟨by rw [he, decide_eq_false (fun h => hne (by rw [h]))], Below.refl _ _⟩


set_option maxHeartbeats 4000000 in
set_option maxRecDepth 8192 in
theorem samereplyN_any (q p : Pz.Rep) (A A' : Option Addr) (c c' : Nat) (w : World) (hl : q.names.length ≤ 9223372036854775807) (hl2 : p.names.length ≤ 9223372036854775807) (hS : Nmz w A q.names) (hS' : Nmz w A' p.names) :
    Calls Tryz.prog 13 #[repV q A c, repV p A' c'] w (Told w (q = p)) := by
  obtain ⟨e0, e1, e2, e3, e4, e5, e6⟩ := q
  obtain ⟨f0, f1, f2, f3, f4, f5, f6⟩ := p
  unfold repV
  obtain ⟨w2, hw2⟩ : ∃ w2, w2 = ((w.alloc (.cells #[.int .i64 e0, .int .i64 e1, .string ⟨e2.toArray⟩, .slice A e3.length c, .int .i64 e4, .int .i64 e5, .int .i64 e6] 36)).alloc (.cells #[.int .i64 f0, .int .i64 f1, .string ⟨f2.toArray⟩, .slice A' f3.length c', .int .i64 f4, .int .i64 f5, .int .i64 f6] 36)) := ⟨_, rfl⟩
  have hb2 : Below w.heap.size w w2 := by rw [hw2]; exact ((Below.refl _ _).alloc (Nat.le_refl _) _).alloc (by simp) _
  have h1 : w2.heap[w.heap.size]? = some (.cells #[.int .i64 e0, .int .i64 e1, .string ⟨e2.toArray⟩, .slice A e3.length c, .int .i64 e4, .int .i64 e5, .int .i64 e6] 36 (0, 0)) := by
    rw [hw2, Below.heap_alloc _ _ _ (by simp)]
    exact heap_alloc_new _ _
  have h2 : w2.heap[w.heap.size + 1]? = some (.cells #[.int .i64 f0, .int .i64 f1, .string ⟨f2.toArray⟩, .slice A' f3.length c', .int .i64 f4, .int .i64 f5, .int .i64 f6] 36 (0, 0)) := by
    rw [hw2]
    exact heap_alloc2_new _ _ _
  have hs2 : w2.heap.size = w.heap.size + 2 := by rw [hw2]; simp
  have hq := sameN_any A A' e3 f3 c c' w2 hl hl2 (hS.keep hb2) (hS'.keep hb2)
  have HQ := Lib.hid hq
  have HW2 := Lib.hid hw2
  have HB := Lib.hid (fun (W : World) (hb : Below w2.heap.size w2 W) => And.intro ((hb.block w.heap.size (by omega)).trans h1) (And.intro ((hb.block (w.heap.size + 1) (by omega)).trans h2) (hb2.trans (hb.mono (by omega)))))
  clear hl hl2 hS hS' hq hw2 h1 h2 hb2 hs2
  go_enter Tryz.func13, Tryz.ntmps13
  go_wp2_with fail
  rw [← HW2.out]
  refine HQ.out.mono ?_
  rintro e w3 ⟨rfl, hb3⟩
  obtain ⟨h1, h2, h3⟩ := HB.out _ hb3
  have HB3 := Lib.hid h3
  have a0 := cell_of_row w3 _ 0 _ _ _ h1
  have b0 := cell_of_row w3 _ 0 _ _ _ h2
  have a1 := cell_of_row w3 _ 1 _ _ _ h1
  have b1 := cell_of_row w3 _ 1 _ _ _ h2
  have a2 := cell_of_row w3 _ 2 _ _ _ h1
  have b2 := cell_of_row w3 _ 2 _ _ _ h2
  have a4 := cell_of_row w3 _ 4 _ _ _ h1
  have b4 := cell_of_row w3 _ 4 _ _ _ h2
  have a5 := cell_of_row w3 _ 5 _ _ _ h1
  have b5 := cell_of_row w3 _ 5 _ _ _ h2
  have a6 := cell_of_row w3 _ 6 _ _ _ h1
  have b6 := cell_of_row w3 _ 6 _ _ _ h2
  clear h1 h2 h3 hb3
  by_cases hn : e3 = f3
  · rw [decide_eq_true hn]
    subst hn
    by_cases h0 : e0 = f0
    · subst h0
      by_cases h1 : e1 = f1
      · subst h1
        by_cases h2 : e2 = f2
        · subst h2
          by_cases h4 : e4 = f4
          · subst h4
            by_cases h5 : e5 = f5
            · subst h5
              by_cases h6 : e6 = f6
              · subst h6
                go_wp2
                go_ret
                exact ⟨true, rfl, (by simp), HB3.out⟩
              · have hb : ((e6 : Int) == f6) = false := by rw [beq_eq_false_iff_ne]; exact h6
                have HNe := Lib.hid h6
                clear h6
                go_wp2
                go_ret
                exact ⟨false, rfl, ⟨fun h => (by cases h), fun h => absurd h (by simp only [Pz.Rep.mk.injEq]; intro h; exact HNe.out (by simp only [h]))⟩, HB3.out⟩
            · have hb : ((e5 : Int) == f5) = false := by rw [beq_eq_false_iff_ne]; exact h5
              have HNe := Lib.hid h5
              clear h5
              go_wp2
              go_ret
              exact ⟨false, rfl, ⟨fun h => (by cases h), fun h => absurd h (by simp only [Pz.Rep.mk.injEq]; intro h; exact HNe.out (by simp only [h]))⟩, HB3.out⟩
          · have hb : ((e4 : Int) == f4) = false := by rw [beq_eq_false_iff_ne]; exact h4
            have HNe := Lib.hid h4
            clear h4
            go_wp2
            go_ret
            exact ⟨false, rfl, ⟨fun h => (by cases h), fun h => absurd h (by simp only [Pz.Rep.mk.injEq]; intro h; exact HNe.out (by simp only [h]))⟩, HB3.out⟩
        · have hb : ((e2 : List UInt8) == f2) = false := by rw [beq_eq_false_iff_ne]; exact h2
          have HNe := Lib.hid h2
          clear h2
          go_wp2
          go_ret
          exact ⟨false, rfl, ⟨fun h => (by cases h), fun h => absurd h (by simp only [Pz.Rep.mk.injEq]; intro h; exact HNe.out (by simp only [h]))⟩, HB3.out⟩
      · have hb : ((e1 : Int) == f1) = false := by rw [beq_eq_false_iff_ne]; exact h1
        have HNe := Lib.hid h1
        clear h1
        go_wp2
        go_ret
        exact ⟨false, rfl, ⟨fun h => (by cases h), fun h => absurd h (by simp only [Pz.Rep.mk.injEq]; intro h; exact HNe.out (by simp only [h]))⟩, HB3.out⟩
    · have hb : ((e0 : Int) == f0) = false := by rw [beq_eq_false_iff_ne]; exact h0
      have HNe := Lib.hid h0
      clear h0
      go_wp2
      go_ret
      exact ⟨false, rfl, ⟨fun h => (by cases h), fun h => absurd h (by simp only [Pz.Rep.mk.injEq]; intro h; exact HNe.out (by simp only [h]))⟩, HB3.out⟩
  · rw [decide_eq_false hn]
    have HNe := Lib.hid hn
    clear hn
    go_wp2
    go_ret
    exact ⟨false, rfl, ⟨fun h => (by cases h), fun h => absurd h (by simp only [Pz.Rep.mk.injEq]; intro h; exact HNe.out (by simp only [h]))⟩, HB3.out⟩

set_option maxHeartbeats 4000000 in
set_option maxRecDepth 8192 in
theorem asame_any (q p : Pz.Rep) (A A' : Option Addr) (c c' : Nat) (w : World) (hl : q.names.length ≤ 9223372036854775807) (hl2 : p.names.length ≤ 9223372036854775807) (hS : Nmz w A q.names) (hS' : Nmz w A' p.names) :
    Calls Tryz.prog 73 #[repV q A c, repV p A' c'] w (Told w (q = p)) := by
  obtain ⟨e0, e1, e2, e3, e4, e5, e6⟩ := q
  obtain ⟨f0, f1, f2, f3, f4, f5, f6⟩ := p
  unfold repV
  obtain ⟨w2, hw2⟩ : ∃ w2, w2 = ((w.alloc (.cells #[.int .i64 e0, .int .i64 e1, .string ⟨e2.toArray⟩, .slice A e3.length c, .int .i64 e4, .int .i64 e5, .int .i64 e6] 36)).alloc (.cells #[.int .i64 f0, .int .i64 f1, .string ⟨f2.toArray⟩, .slice A' f3.length c', .int .i64 f4, .int .i64 f5, .int .i64 f6] 36)) := ⟨_, rfl⟩
  have hb2 : Below w.heap.size w w2 := by rw [hw2]; exact ((Below.refl _ _).alloc (Nat.le_refl _) _).alloc (by simp) _
  have h1 : w2.heap[w.heap.size]? = some (.cells #[.int .i64 e0, .int .i64 e1, .string ⟨e2.toArray⟩, .slice A e3.length c, .int .i64 e4, .int .i64 e5, .int .i64 e6] 36 (0, 0)) := by
    rw [hw2, Below.heap_alloc _ _ _ (by simp)]
    exact heap_alloc_new _ _
  have h2 : w2.heap[w.heap.size + 1]? = some (.cells #[.int .i64 f0, .int .i64 f1, .string ⟨f2.toArray⟩, .slice A' f3.length c', .int .i64 f4, .int .i64 f5, .int .i64 f6] 36 (0, 0)) := by
    rw [hw2]
    exact heap_alloc2_new _ _ _
  have hs2 : w2.heap.size = w.heap.size + 2 := by rw [hw2]; simp
  have HQ := Lib.hid fun W (hW : Below w2.heap.size w2 W) => equalN_any A A' e3 f3 c c' W hl hl2 ((hS.keep hb2).keep hW) ((hS'.keep hb2).keep hW)
  have HW2 := Lib.hid hw2
  have HB3 := Lib.hid hb2
  have a3 := cell_of_row w2 _ 3 _ _ _ h1
  have b3 := cell_of_row w2 _ 3 _ _ _ h2
  have a0 := cell_of_row w2 _ 0 _ _ _ h1
  have b0 := cell_of_row w2 _ 0 _ _ _ h2
  have a1 := cell_of_row w2 _ 1 _ _ _ h1
  have b1 := cell_of_row w2 _ 1 _ _ _ h2
  have a2 := cell_of_row w2 _ 2 _ _ _ h1
  have b2 := cell_of_row w2 _ 2 _ _ _ h2
  have a4 := cell_of_row w2 _ 4 _ _ _ h1
  have b4 := cell_of_row w2 _ 4 _ _ _ h2
  have a5 := cell_of_row w2 _ 5 _ _ _ h1
  have b5 := cell_of_row w2 _ 5 _ _ _ h2
  have a6 := cell_of_row w2 _ 6 _ _ _ h1
  have b6 := cell_of_row w2 _ 6 _ _ _ h2
  clear hl hl2 hS hS' hw2 h1 h2 hb2 hs2
  go_enter Tryz.func73, Tryz.ntmps73
  go_upto_region 1 with fail
  rw [← HW2.out]
  by_cases h0 : e0 = f0
  · subst h0
    by_cases h1 : e1 = f1
    · subst h1
      by_cases h2 : e2 = f2
      · subst h2
        by_cases h4 : e4 = f4
        · subst h4
          by_cases h5 : e5 = f5
          · subst h5
            by_cases h6 : e6 = f6
            · subst h6
              go_wp2_with fail
              refine (HQ.out _ (Below.refl _ _)).mono ?_
              rintro e w3 ⟨rfl, hb3⟩
              have HB4 := Lib.hid (HB3.out.trans (hb3.mono HB3.out.size))
              clear hb3 a0 a1 a2 a3 a4 a5 a6 b0 b1 b2 b3 b4 b5 b6
              go_wp2
              go_ret
              exact ⟨decide (e3 = f3), rfl, by simp, HB4.out⟩
            · have hb : ((e6 : Int) == f6) = false := by rw [beq_eq_false_iff_ne]; exact h6
              have HNe := Lib.hid h6
              clear h6
              go_wp2
              go_ret
              exact ⟨false, rfl, ⟨fun h => (by cases h), fun h => absurd h (by simp only [Pz.Rep.mk.injEq]; intro h; exact HNe.out (by simp only [h]))⟩, HB3.out⟩
          · have hb : ((e5 : Int) == f5) = false := by rw [beq_eq_false_iff_ne]; exact h5
            have HNe := Lib.hid h5
            clear h5
            go_wp2
            go_ret
            exact ⟨false, rfl, ⟨fun h => (by cases h), fun h => absurd h (by simp only [Pz.Rep.mk.injEq]; intro h; exact HNe.out (by simp only [h]))⟩, HB3.out⟩
        · have hb : ((e4 : Int) == f4) = false := by rw [beq_eq_false_iff_ne]; exact h4
          have HNe := Lib.hid h4
          clear h4
          go_wp2
          go_ret
          exact ⟨false, rfl, ⟨fun h => (by cases h), fun h => absurd h (by simp only [Pz.Rep.mk.injEq]; intro h; exact HNe.out (by simp only [h]))⟩, HB3.out⟩
      · have hb : ((e2 : List UInt8) == f2) = false := by rw [beq_eq_false_iff_ne]; exact h2
        have HNe := Lib.hid h2
        clear h2
        go_wp2
        go_ret
        exact ⟨false, rfl, ⟨fun h => (by cases h), fun h => absurd h (by simp only [Pz.Rep.mk.injEq]; intro h; exact HNe.out (by simp only [h]))⟩, HB3.out⟩
    · have hb : ((e1 : Int) == f1) = false := by rw [beq_eq_false_iff_ne]; exact h1
      have HNe := Lib.hid h1
      clear h1
      go_wp2
      go_ret
      exact ⟨false, rfl, ⟨fun h => (by cases h), fun h => absurd h (by simp only [Pz.Rep.mk.injEq]; intro h; exact HNe.out (by simp only [h]))⟩, HB3.out⟩
  · have hb : ((e0 : Int) == f0) = false := by rw [beq_eq_false_iff_ne]; exact h0
    have HNe := Lib.hid h0
    clear h0
    go_wp2
    go_ret
    exact ⟨false, rfl, ⟨fun h => (by cases h), fun h => absurd h (by simp only [Pz.Rep.mk.injEq]; intro h; exact HNe.out (by simp only [h]))⟩, HB3.out⟩

end Go.Proofs.YtbpejjmfdhkfhaaGreatDoor
