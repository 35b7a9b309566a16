/- Walks: the audit's order, of events that stand in their order already. -/
import Derived.Test.YtbpejjmfdhkfhaaGreatDoorBig
import Derived.Test.YtbpejjmfdhkfhaaGreatDoorAudStab
set_option linter.unusedVariables false
set_option linter.unusedSimpArgs false
namespace Go.Proofs.YtbpejjmfdhkfhaaGreatDoor
open Go.RowKit

theorem Tryz.infoIt : (Tryz.prog.info? 92).map (fun i => (i.zero, i.size, i.bytes)) = some (some (.agg #[.int .i64 0, .int .i64 0, .int .i64 0]), 3, 24) := by kernel_rfl
def cI (L : List It) : List Value := Pz.three (fun x => .int .i64 x.at_) (fun x => .int .i64 x.cl) (fun x => .int .i64 x.ev) L
theorem its_of_row {w : World} {B e : Nat} {v : Value} {L : List It} (h : w.ownsRow B e 3 v L.length (cI L)) : ∃ A c, v = .slice A L.length c ∧ Its w A L := by
  have h0 := h
  obtain ⟨A, c, hv, _, hrow⟩ := row3 h
  refine ⟨A, c, hv, ?_⟩
  cases L with
  | nil => exact Or.inl rfl
  | cons y r =>
    obtain ⟨b, hA, _, hb, _⟩ := hrow 0 y rfl
    refine Or.inr ⟨b, 0, hA, hb, fun j x hx => ?_⟩
    obtain ⟨b', hA', _, _, h1, h2, h3, _⟩ := hrow j x hx
    rw [hA] at hA'
    cases hA'
    rw [Nat.zero_add]
    exact ⟨h1, h2, h3⟩

set_option maxHeartbeats 4000000 in
set_option maxRecDepth 100000 in
theorem order_any (A : Option Addr) (L : List Ev) (c : Nat) (w : World) (hlen : L.length ≤ 30) (hE : Evs w A L) (hs : (L.filter fun x => decide (0 < x.done)).Pairwise fun a b => a.done < b.done) :
    Calls Tryz.prog 49 #[.slice A L.length c, .slice none 0 0] w fun e w' => ∃ A' c', e = .returned (.slice A' (itemsFrom 0 L).length c') ∧ Its w' A' (itemsFrom 0 L) ∧ (∀ ad, A' = some ad → w.heap.size ≤ ad.block) ∧ Below w.heap.size w w' := by
  obtain ⟨i0, hi, hz0, hz1, hz2⟩ := info_parts Tryz.infoIt
  have HE := Lib.hid hE
  have HS := Lib.hid (items_rise (k := 0) hs)
  obtain ⟨n, hn⟩ : ∃ n, n = L.length := ⟨_, rfl⟩
  rw [← hn]
  rw [← hn] at hlen
  have Hn := Lib.hid hn
  clear hE hs hn
  go_enter Tryz.func49, Tryz.ntmps49
  go_wp2
  refine wp_loop_rounds 1 ?_
  rw [rounds_succ]
  go_wp2
  go_loopw [5, 37] (fun u v wr => ∃ (k : Nat) (T : List It), k ≤ n ∧ T.length ≤ k ∧ v = .int .i64 k ∧ wr.ownsRow w.heap.size 92 3 u T.length (cI T) ∧ Hid (T = itemsFrom 0 (L.take k)) ∧ Below w.heap.size w wr) (fun _ v _ => n - (intOf v).toNat)
  case atStart => exact ⟨0, [], by omega, by simp, rfl, World.ownsRow_nil _ _ _ _, by show [] = itemsFrom 0 (L.take 0); rfl, Below.refl _ _⟩
  case round =>
    obtain ⟨k, T, hk, hT, rfl, hown, hok, hbw⟩ := hrel
    obtain ⟨A', c', hv, hc', _⟩ := row3 hown
    rw [hv] at hown
    rw [hv]
    by_cases hkn : k < n
    · obtain ⟨x, hx⟩ : ∃ x, L[k]? = some x := ⟨_, List.getElem?_eq_getElem (by have := Hn.out; omega)⟩
      rcases HE.out with h | ⟨b, o, rfl, hb, hcells⟩
      · rw [h] at hx; simp at hx
      have hrg := ((hcells k x hx).of fun i => hbw.cell (p := ⟨b, i, none⟩) hb).range
      have hsn := items_snoc (x := x) (L := L.take k) (k := 0)
      rw [← ev_take hx, ← hok.out, List.length_take, Nat.zero_add, Nat.min_eq_left (by have := Hn.out; omega)] at hsn
      have Hsn := Lib.hid hsn
      have HAft : Hid (∀ we, Below wr.heap.size wr we ∧ we.heap[wr.heap.size]? = some (.cells (evC x) 53 (0, 0)) → we.cell? ⟨wr.heap.size, 11, none⟩ = some (.int .i64 x.done) ∧ we.ownsRow w.heap.size 92 3 (.slice A' T.length c') T.length (cI T) ∧ Below w.heap.size w we) := Lib.hid fun we h => ⟨(evAt_row h.2).2.2.2.2.2.2.2.2.2.2.2.1, hown.kept (grown_of h.1) (by cases hv : (Value.slice A' T.length c').ownBlock <;> simp), hbw.trans (h.1.mono hbw.size)⟩
      have hkk : (k : Int) < n := by omega
      have hk0 : (0 : Int) ≤ k := by omega
      clear hcells hx hsn hown
      by_cases hd : 0 < x.done
      · have Hd := Lib.hid hd
        have hsn2 : Hid (cI T ++ [.int .i64 x.done, .int .i64 0, .int .i64 k] = cI (T ++ [⟨x.done, 0, k⟩])) := Lib.hid (by
          unfold cI
          rw [Pz.three_snoc])
        go_wp2_with (first | (refine wpList_load_mid rfl 53 _ rfl b (o + k * 20) rfl (evC x).toList _ hrg Tryz.underlying53 rfl Tryz.sizeEv ?_) | (refine wpList_store_mid rfl 53 _ _ rfl wr.heap.size 0 (evC x).toList.toArray rfl rfl (there_new _ _ _ _ rfl) Tryz.sizeEv (evC_one x) ?_; generalize hwe : (World.setCells _ _ _ _) = we; obtain ⟨hd11, howe, hbwe⟩ := HAft.out we (by rw [← hwe]; exact new_whole wr _ _ _ rfl); clear hwe) | (at_builtin; refine wpList_append_own _ rfl _ _ 89 rfl w.heap.size 92 i0 _ 3 24 Tryz.underlying89 hi hz0 hz1 hz2 rfl (by decide) (.slice A' T.length c') T.length (cI T) rfl (howe.alloc _) ⟨we.heap.size, 0, none⟩ 1 1 [.int .i64 x.done, .int .i64 0, .int .i64 k] rfl rfl (cells_new3 _ _ _ _ _) (by intro u hu; simp at hu; rcases hu with rfl | rfl | rfl <;> rfl) (by unfold maxLen; omega) (by omega) (by have := hbwe.size; simp; omega) ?_; intro v' w1 hown' hgrow _))
        rw [hsn2.out, show T.length + 1 = (T ++ [(⟨x.done, 0, k⟩ : It)]).length by simp] at hown'
        have hB1 : Below w.heap.size w w1 := (hbwe.alloc hbwe.size _).grown hgrow (by have := hbwe.size; simp; omega) (fun q hq => (howe.lt q hq).1)
        obtain ⟨A2, c2, hv', _, _⟩ := row3 hown'
        rw [hv'] at hown'
        rw [hv']
        have HO := Lib.hid hown'
        have HT2 : Hid (T ++ [(⟨x.done, 0, k⟩ : It)] = itemsFrom 0 (L.take (k + 1))) := Lib.hid (by rw [Hsn.out, if_pos Hd.out])
        clear hown' howe hv' hv
        go_wp2
        go_roundw
        case rel => exact ⟨k + 1, T ++ [⟨x.done, 0, k⟩], by omega, by simp; omega, by go_num, HO.out, HT2, hB1⟩
        case measure => simp [intOf]; omega
      · have hd' : x.done ≤ (0 : Int) := by omega
        have HT2 : Hid (T = itemsFrom 0 (L.take (k + 1))) := Lib.hid (by rw [Hsn.out, if_neg hd, List.append_nil])
        clear hd hv
        go_wp2_with (first | (refine wpList_load_mid rfl 53 _ rfl b (o + k * 20) rfl (evC x).toList _ hrg Tryz.underlying53 rfl Tryz.sizeEv ?_) | (refine wpList_store_mid rfl 53 _ _ rfl wr.heap.size 0 (evC x).toList.toArray rfl rfl (there_new _ _ _ _ rfl) Tryz.sizeEv (evC_one x) ?_; generalize hwe : (World.setCells _ _ _ _) = we; obtain ⟨hd11, howe, hbwe⟩ := HAft.out we (by rw [← hwe]; exact new_whole wr _ _ _ rfl); clear hwe))
        go_roundw
        case rel => exact ⟨k + 1, T, by omega, by omega, by go_num, howe, HT2, hbwe⟩
        case measure => simp [intOf]; omega
    · have hk2 : (n : Int) ≤ k := by omega
      have hTE : T = itemsFrom 0 L := by rw [hok.out, List.take_of_length_le (by have := Hn.out; omega)]
      obtain ⟨A2, c2, hv2, hit⟩ := its_of_row hown
      simp only [Value.slice.injEq] at hv2
      obtain ⟨rfl, -, rfl⟩ := hv2
      have HIt := Lib.hid hit
      have HLo : Hid (∀ ad, A' = some ad → w.heap.size ≤ ad.block) := Lib.hid fun ad h => (hown.lt ad.block (by rw [h]; rfl)).1
      have HSo := Lib.hid (sort_any A' T c' (by rw [hTE]; exact HS.out) (by omega) wr hit)
      have HTE := Lib.hid hTE
      clear hit hTE hown hv hkn
      go_wp2_with fail
      refine HSo.out.mono ?_
      rintro e w2 ⟨rfl, hb2⟩
      go_wp2
      go_ret
      rw [← HTE.out]
      exact ⟨A', c', rfl, HIt.out.keep hb2, HLo.out, hbw.trans (hb2.mono hbw.size)⟩

end Go.Proofs.YtbpejjmfdhkfhaaGreatDoor
