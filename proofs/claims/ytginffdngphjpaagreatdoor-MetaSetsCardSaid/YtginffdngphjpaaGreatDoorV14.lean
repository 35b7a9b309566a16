/- Walks: metadata: a block is taken. -/
import Derived.Test.YtginffdngphjpaaGreatDoorV13
import Derived.Test.YtginffdngphjpaaGreatDoorRows
import Derived.Test.YtginffdngphjpaaGreatDoorV00
import Derived.WalkSpells
import Derived.WalkLawsBesides
import Derived.Lib.OthersKept
import Derived.Lib.Hide
set_option linter.unusedVariables false
set_option linter.unusedSimpArgs false
namespace Go.Proofs.YtginffdngphjpaaGreatDoor
open Go.RowKit

attribute [local go_sem] Oper.semAt_some

namespace Gd
theorem byte_full : ∀ c : Fin 256, (∀ b : Fin 8, (c.val &&& 2 ^ b.val != 0) = true) → cnt c.val = 8 := by decide +kernel
theorem count_le {m : List UInt8} (hm : m.length = 16) : countB m ≤ 128 := by
  have h : ∀ L : List UInt8, (L.map fun c => cnt c.toNat).sum ≤ L.length * 8 := by
    intro L
    induction L with
    | nil => simp
    | cons a r ih =>
      have := cnt_le ⟨a.toNat, a.toNat_lt⟩
      simp only [List.map_cons, List.sum_cons, List.length_cons]
      dsimp only at this
      omega
  have := h m
  unfold countB
  omega
theorem count_full {m : List UInt8} (hm : m.length = 16) (h : ∀ k, 1 ≤ k → k ≤ 128 → usedB m k = true) : countB m = 128 := by
  have h8 : ∀ (i : Nat) (c : UInt8), m[i]? = some c → cnt c.toNat = 8 := by
    intro i c hc
    have hi := (List.getElem?_eq_some_iff.1 hc).1
    refine byte_full ⟨c.toNat, c.toNat_lt⟩ fun b => ?_
    have := h (i * 8 + b.val + 1) (by omega) (by omega)
    unfold usedB byteAt bitOf at this
    rw [show (i * 8 + b.val + 1 - 1) / 8 = i by omega, show (i * 8 + b.val + 1 - 1) % 8 = b.val by omega, List.getD_eq_getElem?_getD, hc] at this
    exact this
  have h2 : ∀ (L : List UInt8), (∀ c ∈ L, cnt c.toNat = 8) → (L.map fun c => cnt c.toNat).sum = L.length * 8 := by
    intro L
    induction L with
    | nil => simp
    | cons a r ih =>
      intro hL
      simp only [List.map_cons, List.sum_cons, List.length_cons]
      rw [ih fun c hc => hL c (List.mem_cons_of_mem _ hc), hL a (List.mem_cons_self ..)]
      omega
  have := h2 m fun c hc => by
    obtain ⟨i, hi, e⟩ := List.mem_iff_getElem.1 hc
    exact h8 i c (by rw [List.getElem?_eq_getElem hi, e])
  unfold countB
  omega
theorem first_some {m : List UInt8} (hm : m.length = 16) (h : countB m < 128) : 1 ≤ firstB m ∧ firstB m ≤ 128 ∧ usedB m (firstB m) = false := by
  rcases firstFrom_in (m := m) (f := 128) (n := 1) (by omega) (by omega) with ⟨e, ha⟩ | ⟨h1, h2, h3, _⟩
  · have := count_full hm ha
    omega
  · exact ⟨h1, h2, h3⟩
/-- a block taken: its bytes are noughts -/
def Vol.take (M : Vol) : Vol := (M.setMap (takeB M.map (firstB M.map))).setBlk (firstB M.map) (List.replicate 64 0)
end Gd
theorem run_loadAt_row {w : World} {b t : Nat} {C : Array Value} (h : w.heap[b]? = some (.cells C t (0, 0))) (hs : C.size = 16) : (Instr.loadAt 27 (.pointer (some ⟨b, 0, none⟩))).run Tryz.prog w = .ok (.agg C) w := by
  have hr : w.rangeAt b 0 C.toList := fun j v hj => by
    rw [Nat.zero_add, cell_of_row w b j _ _ _ h]
    simpa using hj
  have := run_loadAt_mid (P := Tryz.prog) w b 0 27 C.toList _ hr Tryz.underlying27 rfl (by rw [Array.length_toList, hs]; exact Tryz.sizeMap)
  rw [this]



set_option maxHeartbeats 8000000 in
set_option maxRecDepth 100000 in
theorem block_none {x t c K : Nat} {S : List UInt8} {M : Gd.Vol} {F : Nat → Prop} (spare : Int) (w : World) (h : MetaV x t S M c K w F) (hsp : 128 - (Gd.countB M.map : Int) ≤ max 0 spare) :
    Calls Tryz.prog 16 #[.pointer (some ⟨x, 0, none⟩), .int .i64 spare] w fun e w' => e = .returned (.tuple #[.int .i64 0, .int .i64 18]) ∧ Below w.heap.size w w' := by
  have hml : M.map.length = 16 := by
    obtain ⟨P, h, hG⟩ := h
    exact hG.mapl
  obtain ⟨m, hmm⟩ : ∃ m, m = M.map := ⟨_, rfl⟩
  have HMp := Lib.hid (map_any w h)
  rw [← hmm] at hml HMp hsp
  (try rw [← hmm])
  have HM := Lib.hid h
  have HS := Lib.hid (cellsB_len hml)
  have Hml := Lib.hid hml
  obtain ⟨Z, hZ⟩ : ∃ Z : Array Value, Z = #[.int .u8 0, .int .u8 0, .int .u8 0, .int .u8 0, .int .u8 0, .int .u8 0, .int .u8 0, .int .u8 0, .int .u8 0, .int .u8 0, .int .u8 0, .int .u8 0, .int .u8 0, .int .u8 0, .int .u8 0, .int .u8 0] := ⟨_, rfl⟩
  have HZs : Hid (Z.size = 16) := Lib.hid (by rw [hZ]; rfl)
  have HZ := Lib.hid hZ.symm
  have HFi := Lib.hid fun W => first_any m hml W
  have HCo := Lib.hid fun W => count_any m hml W
  obtain ⟨f, hf⟩ : ∃ f, f = Gd.firstB m := ⟨_, rfl⟩
  obtain ⟨cn, hcn⟩ : ∃ cn, cn = Gd.countB m := ⟨_, rfl⟩
  rw [← hf] at HFi
  rw [← hcn] at HCo hsp
  have hcl : cn ≤ 128 := by rw [hcn]; exact Gd.count_le hml
  have hcw : IntKind.i64.wrap (128 - (cn : Int)) = 128 - (cn : Int) := by rw [IntKind.wrap_i64]; omega
  have hcw2 : (cn : Int) ≤ 128 := by omega
  have Hf := Lib.hid hf
  have Hcn := Lib.hid hcn
  have Hmm := Lib.hid hmm
  unfold mapV at *
  clear h hmm hZ hf hcn hcl hml
  go_enter Tryz.func16, Tryz.ntmps16
  go_wp2_with fail
  refine HMp.out.mono ?_
  rintro e w1 ⟨rfl, hb1⟩
  obtain ⟨hb2, hn2⟩ := below_new w1 Z 27
  obtain ⟨w2, hw2⟩ : ∃ u, u = w1.alloc (.cells Z 27) := ⟨_, rfl⟩
  obtain ⟨b, hbe⟩ : ∃ b, b = w1.heap.size := ⟨_, rfl⟩
  rw [← hw2, ← hbe] at hn2
  rw [← hw2] at hb2
  obtain ⟨hb3, hn3⟩ := whole_at hn2 (vs := (cellsB m).toList) (B := b) (by rw [HZs.out, Array.length_toList, HS.out]) (Nat.le_refl b)
  obtain ⟨w3, hw3⟩ : ∃ u, u = w2.setCells b 0 (cellsB m).toList := ⟨_, rfl⟩
  rw [← hw3] at hb3 hn3
  have HN2 := Lib.hid hn2
  have HN3 : Hid (w3.heap[b]? = some (.cells (cellsB m) 27 (0, 0))) := Lib.hid hn3
  have HB3 : Hid (Below w.heap.size w w3 ∧ w.heap.size ≤ b) := Lib.hid (by
    have h1 := hb1.size
    have h2 := hb2.size
    have h3 : w1.heap.size ≤ b := by omega
    exact ⟨(hb1.trans (hb2.mono h1)).trans (hb3.mono (by omega)), by omega⟩)
  have Hbe := Lib.hid hbe.symm
  have HW2 := Lib.hid hw2.symm
  have HW3 := Lib.hid hw3.symm
  rw [← HZ.out] at HW2
  clear hb1 hb2 hn2 hw2 hbe hb3 hn3 hw3 HMp
  go_upto_region 2 with (refine wpList_store_mid rfl 27 _ _ rfl b 0 (cellsB m) (by rw [← Hbe.out]; rfl) rfl (by rw [HW2.out]; exact there_at HN2.out (by rw [HZs.out, HS.out])) (by rw [HS.out]; exact Tryz.sizeMap) (cellsB_one _) ?_; rw [HW2.out, HW3.out])
  rw [Hbe.out]
  go_wp2_with (refine wpList_load_row rfl 27 _ rfl b rfl 27 (cellsB m) (0, 0) _ HN3.out Tryz.underlying27 rfl (by rw [HS.out]; exact Tryz.sizeMap) ?_)
  refine (HFi.out w3).mono ?_
  rintro e w4 ⟨rfl, hb4⟩
  have HN4 := Lib.hid ((hb4.block b (lt_get HN3.out)).trans HN3.out)
  have HB4 := Lib.hid (HB3.out.1.trans (hb4.mono HB3.out.1.size))
  have HL4 := Lib.hid (run_loadAt_row HN4.out HS.out)
  clear hb4 HFi
  by_cases hf0 : f = 0
  · subst hf0
    clear hsp hcw
    go_wp2
    go_ret2
    exact ⟨rfl, HB4.out⟩
  · have hf1 : ¬ (f : Int) = 0 := by omega
    have hf2 : ((f : Int) == 0) = false := by simp [hf0]
    have hf3 : (f == 0) = false := by simp [hf0]
    by_cases hs0 : 0 < spare
    · have hs1 : (128 : Int) - cn ≤ spare := by omega
      clear hsp
      go_wp2_with (first | (refine wpList_load_guarded _ _ rfl (by rfl) 27 _ rfl (.pointer (some ⟨b, 0, none⟩)) (.agg (cellsB m)) rfl HL4.out ?_) | (go_at_call 17; refine (HCo.out w4).mono ?_; rintro e w5 ⟨rfl, hb5⟩))
      go_ret2
      exact ⟨rfl, HB4.out.trans (hb5.mono HB4.out.size)⟩
    · have hs1 : (128 : Int) - cn ≤ 0 := by omega
      have hs2 : ¬ 0 < spare := hs0
      have hc0 : (cn : Int) = 128 := by omega
      clear hsp
      go_wp2_with (first | (refine wpList_load_guarded _ _ rfl (by rfl) 27 _ rfl (.pointer (some ⟨b, 0, none⟩)) (.agg (cellsB m)) rfl HL4.out ?_) | (go_at_call 17; refine (HCo.out w4).mono ?_; rintro e w5 ⟨rfl, hb5⟩))
      go_ret2
      exact ⟨rfl, HB4.out.trans (hb5.mono HB4.out.size)⟩

set_option maxHeartbeats 8000000 in
set_option maxRecDepth 100000 in
theorem block_ok {x t c K : Nat} {S : List UInt8} {M : Gd.Vol} {F : Nat → Prop} (spare : Int) (w : World) (h : MetaV x t S M c K w F) (hsp : max 0 spare < 128 - (Gd.countB M.map : Int)) (hc : c + 2 < 64) :
    Calls Tryz.prog 16 #[.pointer (some ⟨x, 0, none⟩), .int .i64 spare] w fun e w' => e = .returned (.tuple #[.int .i64 (Gd.firstB M.map), .int .i64 0]) ∧ Turns x t S M.take (c + 2) K F w w' := by
  have hml : M.map.length = 16 := by
    obtain ⟨P, h, hG⟩ := h
    exact hG.mapl
  obtain ⟨m, hmm⟩ : ∃ m, m = M.map := ⟨_, rfl⟩
  have HMp := Lib.hid (map_any w h)
  rw [← hmm] at hml HMp hsp
  (try rw [← hmm])
  have HM := Lib.hid h
  have HS := Lib.hid (cellsB_len hml)
  have Hml := Lib.hid hml
  obtain ⟨Z, hZ⟩ : ∃ Z : Array Value, Z = #[.int .u8 0, .int .u8 0, .int .u8 0, .int .u8 0, .int .u8 0, .int .u8 0, .int .u8 0, .int .u8 0, .int .u8 0, .int .u8 0, .int .u8 0, .int .u8 0, .int .u8 0, .int .u8 0, .int .u8 0, .int .u8 0] := ⟨_, rfl⟩
  have HZs : Hid (Z.size = 16) := Lib.hid (by rw [hZ]; rfl)
  have HZ := Lib.hid hZ.symm
  have HFi := Lib.hid fun W => first_any m hml W
  have HCo := Lib.hid fun W => count_any m hml W
  obtain ⟨f, hf⟩ : ∃ f, f = Gd.firstB m := ⟨_, rfl⟩
  obtain ⟨cn, hcn⟩ : ∃ cn, cn = Gd.countB m := ⟨_, rfl⟩
  rw [← hf] at HFi
  rw [← hcn] at HCo hsp
  have hcl : cn ≤ 128 := by rw [hcn]; exact Gd.count_le hml
  have hcw : IntKind.i64.wrap (128 - (cn : Int)) = 128 - (cn : Int) := by rw [IntKind.wrap_i64]; omega
  have hcw2 : (cn : Int) ≤ 128 := by omega
  have Hf := Lib.hid hf
  have Hcn := Lib.hid hcn
  have Hmm := Lib.hid hmm
  unfold mapV at *
  have hfs : 1 ≤ f ∧ f ≤ 128 := by
    have h1 := Gd.first_some hml (by rw [← hcn]; omega)
    rw [← hf] at h1
    exact ⟨h1.1, h1.2.1⟩
  have Hfs := Lib.hid hfs
  have htk : Gd.takeI m (f : Int) = Gd.takeB m f := by
    unfold Gd.takeI Gd.isBlk
    rw [Int.toNat_natCast, decide_eq_true (by omega), decide_eq_true (by omega)]
    rfl
  have HTk := Lib.hid fun W => take_any m hml (f : Int) W
  rw [htk] at HTk
  unfold mapV at HTk
  obtain ⟨m2, hm2⟩ : ∃ m2, m2 = Gd.takeB m f := ⟨_, rfl⟩
  rw [← hm2] at HTk
  have hm2l : m2.length = 16 := by rw [hm2, Gd.take_length]; exact hml
  have Hm2l := Lib.hid hm2l
  have HTa : Hid (M.take = (M.setMap m2).setBlk f (List.replicate 64 0)) := Lib.hid (by unfold Gd.Vol.take; rw [← hmm, ← hf, ← hm2])
  have HC := Lib.hid hc
  have hf0 : ¬ (f : Int) = 0 := by omega
  have hf2 : ((f : Int) == 0) = false := by simp; omega
  have hf3 : (f == 0) = false := by simp; omega
  rw [← hf]
  clear h hmm hZ hf hcn hcl hml hfs htk hm2 hm2l hc
  go_enter Tryz.func16, Tryz.ntmps16
  go_wp2_with fail
  refine HMp.out.mono ?_
  rintro e w1 ⟨rfl, hb1⟩
  obtain ⟨hb2, hn2⟩ := below_new w1 Z 27
  obtain ⟨w2, hw2⟩ : ∃ u, u = w1.alloc (.cells Z 27) := ⟨_, rfl⟩
  obtain ⟨b, hbe⟩ : ∃ b, b = w1.heap.size := ⟨_, rfl⟩
  rw [← hw2, ← hbe] at hn2
  rw [← hw2] at hb2
  obtain ⟨hb3, hn3⟩ := whole_at hn2 (vs := (cellsB m).toList) (B := b) (by rw [HZs.out, Array.length_toList, HS.out]) (Nat.le_refl b)
  obtain ⟨w3, hw3⟩ : ∃ u, u = w2.setCells b 0 (cellsB m).toList := ⟨_, rfl⟩
  rw [← hw3] at hb3 hn3
  have HN2 := Lib.hid hn2
  have HN3 : Hid (w3.heap[b]? = some (.cells (cellsB m) 27 (0, 0))) := Lib.hid hn3
  have HB3 : Hid (Below w.heap.size w w3 ∧ w.heap.size ≤ b) := Lib.hid (by
    have h1 := hb1.size
    have h2 := hb2.size
    have h3 : w1.heap.size ≤ b := by omega
    exact ⟨(hb1.trans (hb2.mono h1)).trans (hb3.mono (by omega)), by omega⟩)
  have Hbe := Lib.hid hbe.symm
  have HW2 := Lib.hid hw2.symm
  have HW3 := Lib.hid hw3.symm
  rw [← HZ.out] at HW2
  clear hb1 hb2 hn2 hw2 hbe hb3 hn3 hw3 HMp
  go_upto_region 2 with (refine wpList_store_mid rfl 27 _ _ rfl b 0 (cellsB m) (by rw [← Hbe.out]; rfl) rfl (by rw [HW2.out]; exact there_at HN2.out (by rw [HZs.out, HS.out])) (by rw [HS.out]; exact Tryz.sizeMap) (cellsB_one _) ?_; rw [HW2.out, HW3.out])
  rw [Hbe.out]
  go_wp2_with (refine wpList_load_row rfl 27 _ rfl b rfl 27 (cellsB m) (0, 0) _ HN3.out Tryz.underlying27 rfl (by rw [HS.out]; exact Tryz.sizeMap) ?_)
  refine (HFi.out w3).mono ?_
  rintro e w4 ⟨rfl, hb4⟩
  have HN4 := Lib.hid ((hb4.block b (lt_get HN3.out)).trans HN3.out)
  have HB4 := Lib.hid (HB3.out.1.trans (hb4.mono HB3.out.1.size))
  have HL4 := Lib.hid (run_loadAt_row HN4.out HS.out)
  clear hb4 HFi
  have HN5 : Hid (∀ W, Below w4.heap.size w4 W → W.heap[b]? = some (.cells (cellsB m) 27 (0, 0))) := Lib.hid fun W hW => (hW.block b (lt_get HN4.out)).trans HN4.out
  have HTu : Hid (∀ (w5 w6 : World), Below w4.heap.size w4 w5 → Below w5.heap.size w5 w6 → Calls Tryz.prog 13 #[.pointer (some ⟨x, 0, none⟩), .agg (cellsB m2)] w6 fun e w' => e = .returned (.int .i64 0) ∧ Turns x t S (M.setMap m2) (c + 1) K F w w') := Lib.hid fun w5 w6 h5 h6 => by
    have hb6 : Below w.heap.size w w6 := (HB4.out.trans (h5.mono HB4.out.size)).trans (h6.mono (Nat.le_trans HB4.out.size h5.size))
    refine (setmap_any m2 Hm2l.out w6 (HM.out.below hb6) (by have := HC.out; omega)).mono ?_
    rintro e w7 ⟨he, ht⟩
    exact ⟨he, ht.behind hb6⟩
  have HFin : Hid (∀ w7, Turns x t S (M.setMap m2) (c + 1) K F w w7 → ∀ v, OwnB (w7.alloc (.cells (cellsB (List.replicate 64 0)) 5)) w7.heap.size v (List.replicate 64 0) → Calls Tryz.prog 40 #[.pointer (some ⟨x, 0, none⟩), .int .i64 7, .int .i64 f, v] (w7.alloc (.cells (cellsB (List.replicate 64 0)) 5)) fun e w' => e = .returned (.int .i64 0) ∧ Turns x t S M.take (c + 2) K F w w') := Lib.hid fun w7 ht7 v hv => by
    obtain ⟨F7, hs7⟩ := ht7
    have hba := (Below.refl w7.heap.size w7).alloc (Nat.le_refl _) (.cells (cellsB (List.replicate 64 0)) 5)
    refine (store_turns 7 f _ v (List.replicate 64 0) _ (hs7.inv.below hba) (Gd.ptAt_block Hfs.out.1 Hfs.out.2) hv.at_ (by rw [List.length_replicate]; exact Nat.le_refl _) (by rw [List.length_replicate]; exact Nat.le_refl _) (by have := HC.out; omega) (fun q hq e => by
      have h3 := (own_block hv q hq).1
      have h4 := hs7.inv.tight q e
      omega) (M' := M.take) (fun V hV => by rw [HTa.out]; exact hV.setBlk Hfs.out.1 Hfs.out.2 (by rw [List.length_replicate]))).mono ?_
    rintro e w8 ⟨he, F8, hs8⟩
    exact ⟨he, F8, hs7.trans (Step.behind hba hs8)⟩
  by_cases hs0 : 0 < spare
  · have hs1 : ¬ (128 : Int) - cn ≤ spare := by omega
    have hs3 : spare < (128 : Int) - cn := by omega
    clear hsp
    go_wp2_with (first | (refine wpList_load_guarded _ _ rfl (by rfl) 27 _ rfl (.pointer (some ⟨b, 0, none⟩)) (.agg (cellsB m)) rfl HL4.out ?_) | (refine wpList_load_row rfl 27 _ rfl b rfl 27 (cellsB m) (0, 0) _ (HN5.out w5 hb5) Tryz.underlying27 rfl (by rw [HS.out]; exact Tryz.sizeMap) ?_) | (go_at_call 17; refine (HCo.out w4).mono ?_; rintro e w5 ⟨rfl, hb5⟩))
    refine (HTk.out w5).mono ?_
    rintro e w6 ⟨rfl, hb6⟩
    have HSm := Lib.hid (HTu.out w5 w6 hb5 hb6)
    clear hb5 hb6 HTk HTu HN5
    go_wp2_with fail
    refine HSm.out.mono ?_
    rintro e w7 ⟨rfl, ht7⟩
    have hmk : (Instr.makeSlice 80 (.int .i64 64) (.int .i64 64)).run Tryz.prog w7 = .ok (.slice (some ⟨w7.heap.size, 0, none⟩) 64 64) (w7.alloc (.cells (cellsB (List.replicate 64 0)) 5)) := made_bytes 64 (by omega) w7
    have HSt := Lib.hid (HFin.out w7 ht7 _ (own_made w7 64 (by omega) w7.heap.size (Nat.le_refl _)))
    obtain ⟨w8, hw8⟩ : ∃ u, u = w7.alloc (.cells (cellsB (List.replicate 64 0)) 5) := ⟨_, rfl⟩
    rw [← hw8] at hmk HSt
    clear ht7 hw8 HSm HFin
    go_wp2_with fail
    refine HSt.out.mono ?_
    rintro e w9 ⟨rfl, ht9⟩
    have HT9 := Lib.hid ht9
    have HTo : Hid (Calls Tryz.prog 48 #[.int .i64 f, .int .i64 0] w9 fun e' w' => e' = .returned (.tuple #[.int .i64 f, .int .i64 0]) ∧ w' = w9) := Lib.hid (metold_any f 0 w9)
    clear ht9 HSt
    go_wp2_with fail
    refine HTo.out.mono ?_
    rintro e w10 ⟨rfl, rfl⟩
    go_wp2
    go_ret2
    exact ⟨rfl, HT9.out⟩
  · have hs1 : ¬ (128 : Int) - cn ≤ 0 := by omega
    have hs3 : (cn : Int) < 128 := by omega
    clear hsp
    go_wp2_with (first | (refine wpList_load_guarded _ _ rfl (by rfl) 27 _ rfl (.pointer (some ⟨b, 0, none⟩)) (.agg (cellsB m)) rfl HL4.out ?_) | (refine wpList_load_row rfl 27 _ rfl b rfl 27 (cellsB m) (0, 0) _ (HN5.out w5 hb5) Tryz.underlying27 rfl (by rw [HS.out]; exact Tryz.sizeMap) ?_) | (go_at_call 17; refine (HCo.out w4).mono ?_; rintro e w5 ⟨rfl, hb5⟩))
    refine (HTk.out w5).mono ?_
    rintro e w6 ⟨rfl, hb6⟩
    have HSm := Lib.hid (HTu.out w5 w6 hb5 hb6)
    clear hb5 hb6 HTk HTu HN5
    go_wp2_with fail
    refine HSm.out.mono ?_
    rintro e w7 ⟨rfl, ht7⟩
    have hmk : (Instr.makeSlice 80 (.int .i64 64) (.int .i64 64)).run Tryz.prog w7 = .ok (.slice (some ⟨w7.heap.size, 0, none⟩) 64 64) (w7.alloc (.cells (cellsB (List.replicate 64 0)) 5)) := made_bytes 64 (by omega) w7
    have HSt := Lib.hid (HFin.out w7 ht7 _ (own_made w7 64 (by omega) w7.heap.size (Nat.le_refl _)))
    obtain ⟨w8, hw8⟩ : ∃ u, u = w7.alloc (.cells (cellsB (List.replicate 64 0)) 5) := ⟨_, rfl⟩
    rw [← hw8] at hmk HSt
    clear ht7 hw8 HSm HFin
    go_wp2_with fail
    refine HSt.out.mono ?_
    rintro e w9 ⟨rfl, ht9⟩
    have HT9 := Lib.hid ht9
    have HTo : Hid (Calls Tryz.prog 48 #[.int .i64 f, .int .i64 0] w9 fun e' w' => e' = .returned (.tuple #[.int .i64 f, .int .i64 0]) ∧ w' = w9) := Lib.hid (metold_any f 0 w9)
    clear ht9 HSt
    go_wp2_with fail
    refine HTo.out.mono ?_
    rintro e w10 ⟨rfl, rfl⟩
    go_wp2
    go_ret2
    exact ⟨rfl, HT9.out⟩

end Go.Proofs.YtginffdngphjpaaGreatDoor

/- Walk: meta.Format. -/
namespace Go.Proofs.YtginffdngphjpaaGreatDoor
open Go.RowKit

attribute [local go_sem] Oper.semAt_some

namespace Gd
def slot0 : Slot := ⟨0, 0, 0, 0, 0, 0⟩
def rootI : Ino := ⟨2, 1, 0, [0, 0, 0, 0], [0, 0, 0, 0, 0, 0, 0, 0]⟩
def fmtS (k : Nat) : List Pa := (List.range k).flatMap fun c => [(64 + 64 * c, slotB slot0), (6784 + 1024 * c, List.replicate 8 0)]
def fmtN (k : Nat) : List Pa := (List.range k).map fun i => (inoAt (i + 2), List.replicate 64 0)
/-- what Format stores -/
def fmtP : List Pa := [(0, headB 0)] ++ fmtS 8 ++ [(576, List.replicate 16 0)] ++ [(inoAt 1, inoB rootI)] ++ fmtN 31
theorem fmtS_succ (k : Nat) : fmtS (k + 1) = fmtS k ++ [(64 + 64 * k, slotB slot0)] ++ [(6784 + 1024 * k, List.replicate 8 0)] := by
  unfold fmtS
  rw [List.range_succ, List.flatMap_append]
  simp
theorem fmtN_succ (k : Nat) : fmtN (k + 1) = fmtN k ++ [(inoAt (k + 2), List.replicate 64 0)] := by
  unfold fmtN
  rw [List.range_succ, List.map_append]
  simp
theorem ptAt_slot {k : Nat} (h : k < 8) : ptAt 2 ((k : Int) + 1) = some ⟨2, k + 1, 64 + 64 * k, 64⟩ := by
  unfold ptAt partAt
  rw [if_neg (by omega), if_pos rfl, if_pos ⟨by omega, by omega⟩]
  simp
theorem ptAt_clog {k : Nat} (h : k < 8) : ptAt 6 ((k : Int) + 1) = some ⟨6, k + 1, 6784 + 1024 * k, 1024⟩ := by
  unfold ptAt partAt
  rw [if_neg (by omega), if_neg (by omega), if_neg (by omega), if_neg (by omega), if_neg (by omega), if_pos rfl, if_pos ⟨by omega, by omega⟩]
  simp
theorem ptAt_head : ptAt 1 0 = some ⟨1, 0, 0, 64⟩ := rfl
theorem slot0_may : slot0.May := ⟨by decide, by decide, by decide, by decide, by decide, by decide⟩
theorem root_may : mayI rootI = true := by decide
theorem root_shape : rootI.Shape := ⟨rfl, rfl⟩
end Gd
theorem BytesAt.only {w w' : World} {v : Value} {L : List UInt8} {G : Nat → Prop} (h : BytesAt w v L) (hO : Only G w w') (hn : ∀ q, v.ownBlock = some q → ¬ G q) : BytesAt w' v L := by
  obtain ⟨A, c, rfl, hA⟩ := h
  refine ⟨A, c, rfl, hA.imp id ?_⟩
  rintro ⟨b, o, rfl, hb, hc⟩
  exact ⟨b, o, rfl, Nat.lt_of_lt_of_le hb hO.size, fun j x hx => (hO.cell (p := ⟨b, o + j, none⟩) hb (hn b rfl)).trans (hc j x hx)⟩

set_option maxHeartbeats 4000000 in
set_option maxRecDepth 100000 in
theorem fmtfirst_any (eb : Nat) (w : World) (h : CellsAt w eb 31 #[.int .i64 0]) : Calls Tryz.prog 67 #[.int .i64 0, .pointer (some ⟨eb, 0, none⟩)] w fun e w' => e = .returned (.tuple #[]) ∧ Only (fun k => k = eb) w w' ∧ CellsAt w' eb 31 #[.int .i64 0] := by
  have c0 := cell_of_row w eb 0 _ _ _ h
  have f0 := frozen_of_row w eb 0 _ _ h
  have H := Lib.hid h
  clear h
  go_enter Tryz.func67, Tryz.ntmps67
  go_wp2
  go_end0
  exact ⟨rfl, only_setCell w _ _ rfl, Go.heap_setCell_same _ _ 0 _ _ _ H.out⟩

/-- what Format holds: the transaction, its error, a slot's bytes -/
def FmtI (x t : Nat) (S : List UInt8) (P : List Gd.Pa) (c K : Nat) (F : Nat → Prop) (w0 : World) (eb : Nat) (v5 : Value) (wr : World) : Prop :=
  ∃ F', Step (MetaF x t S P c K) F w0 F' wr ∧ ¬ F' eb ∧ CellsAt wr eb 31 #[.int .i64 0] ∧ BytesAt wr v5 (Gd.slotB Gd.slot0) ∧ ∀ q, v5.ownBlock = some q → ¬ F' q ∧ q ≠ eb
theorem FmtI.below {x t c K eb : Nat} {S : List UInt8} {P : List Gd.Pa} {F : Nat → Prop} {w0 w w' : World} {v5 : Value} (h : FmtI x t S P c K F w0 eb v5 w) (hb : Below w.heap.size w w') : FmtI x t S P c K F w0 eb v5 w' := by
  obtain ⟨F', h1, h2, h3, h4, h5⟩ := h
  exact ⟨F', h1.ahead hb, h2, (hb.block eb h3.lt).trans h3, h4.keep hb, h5⟩
theorem FmtI.first {x t c K eb : Nat} {S : List UInt8} {P : List Gd.Pa} {F : Nat → Prop} {w0 w w' : World} {v5 : Value} (h : FmtI x t S P c K F w0 eb v5 w) (h0 : w0.heap.size ≤ eb) (hO : Only (fun k => k = eb) w w') (hC : CellsAt w' eb 31 #[.int .i64 0]) : FmtI x t S P c K F w0 eb v5 w' := by
  obtain ⟨F', h1, h2, h3, h4, h5⟩ := h
  refine ⟨F', ⟨h1.inv.keep hO.size fun k hk hF => hO.block k hk fun e => h2 (e ▸ hF), h1.old, h1.only.trans hO fun j hj e => ?_⟩, h2, hC, h4.only hO fun q hq e => (h5 q hq).2 e, h5⟩
  omega
theorem FmtI.step {x t c d K eb : Nat} {S : List UInt8} {P Q : List Gd.Pa} {F : Nat → Prop} {w0 w w' : World} {v5 : Value} (h : FmtI x t S P c K F w0 eb v5 w) (hs : ∀ F', MetaF x t S P c K w F' → (∀ k, F' k → k < w.heap.size) → ∃ F2, Step (MetaF x t S Q d K) F' w F2 w') : FmtI x t S Q d K F w0 eb v5 w' := by
  obtain ⟨F', h1, h2, h3, h4, h5⟩ := h
  obtain ⟨F2, hs⟩ := hs F' h1.inv h1.inv.tight
  have hb : ∀ q, v5.ownBlock = some q → q < w.heap.size := fun q hq => by
    obtain ⟨A, c, rfl, hA⟩ := h4
    rcases hA with ⟨rfl, _⟩ | ⟨b, o, rfl, hb, _⟩
    · cases hq
    · cases hq
      exact hb
  exact ⟨F2, h1.trans hs, (hs.own h3.lt h2).2, (hs.own h3.lt h2).1.trans h3, h4.only hs.only fun q hq => (h5 q hq).1, fun q hq => ⟨(hs.own (hb q hq) (h5 q hq).1).2, (h5 q hq).2⟩⟩

theorem fmt_store {x t c K eb : Nat} {S : List UInt8} {P : List Gd.Pa} {F : Nat → Prop} {w0 w1 : World} {v5 : Value} (k m : Int) (p : Gd.Pt) (v : Value) (L : List UInt8) (w : World) (h : FmtI x t S P c K F w0 eb v5 w1) (hb : Below w1.heap.size w1 w) (hp : Gd.ptAt k m = some p) (hv : BytesAt w v L) (hL : L.length ≤ 64) (hLp : L.length ≤ p.s) (hc : c < 64) (hap : ∀ q, v.ownBlock = some q → w1.heap.size ≤ q ∨ v5.ownBlock = some q) :
    Calls Tryz.prog 40 #[.pointer (some ⟨x, 0, none⟩), .int .i64 k, .int .i64 m, v] w fun e w' => e = .returned (.int .i64 0) ∧ FmtI x t S (P ++ [(p.a, L)]) (c + 1) K F w0 eb v5 w' := by
  obtain ⟨F', h1, h2, h3, h4, h5⟩ := h
  have hap2 : ∀ q, v.ownBlock = some q → ¬ F' q := fun q hq e => by
    rcases hap q hq with e2 | e2
    · have := h1.inv.tight q e
      omega
    · exact (h5 q e2).1 e
  refine (store_some k m p v L w (h1.inv.below hb) hp hv hL hLp hc hap2).mono ?_
  rintro e w' ⟨he, F2, hs⟩
  have hH : FmtI x t S P c K F w0 eb v5 w := (show FmtI x t S P c K F w0 eb v5 w1 from ⟨F', h1, h2, h3, h4, h5⟩).below hb
  have hs2 := Step.behind hb hs
  have hlt : ∀ q, v5.ownBlock = some q → q < w1.heap.size := fun q hq => by
    obtain ⟨A, c, rfl, hA⟩ := h4
    rcases hA with ⟨rfl, _⟩ | ⟨b, o, rfl, hb, _⟩
    · cases hq
    · cases hq
      exact hb
  exact ⟨he, F2, h1.trans hs2, (hs2.own h3.lt h2).2, (hs2.own h3.lt h2).1.trans h3, h4.only hs2.only fun q hq => (h5 q hq).1, fun q hq => ⟨(hs2.own (hlt q hq) (h5 q hq).1).2, (h5 q hq).2⟩⟩
theorem fmt_map {x t c K eb : Nat} {S : List UInt8} {P : List Gd.Pa} {F : Nat → Prop} {w0 : World} {v5 : Value} (m : List UInt8) (hm : m.length = 16) (w : World) (h : FmtI x t S P c K F w0 eb v5 w) (hc : c < 64) :
    Calls Tryz.prog 13 #[.pointer (some ⟨x, 0, none⟩), mapV m] w fun e w' => e = .returned (.int .i64 0) ∧ FmtI x t S (P ++ [(576, m)]) (c + 1) K F w0 eb v5 w' := by
  have h0 := h
  obtain ⟨F', h1, h2, h3, h4, h5⟩ := h
  refine (setmap_f m hm w h1.inv hc).mono ?_
  rintro e w' ⟨he, F2, hs⟩
  have hlt : ∀ q, v5.ownBlock = some q → q < w.heap.size := fun q hq => by
    obtain ⟨A, c, rfl, hA⟩ := h4
    rcases hA with ⟨rfl, _⟩ | ⟨b, o, rfl, hb, _⟩
    · cases hq
    · cases hq
      exact hb
  exact ⟨he, F2, h1.trans hs, (hs.own h3.lt h2).2, (hs.own h3.lt h2).1.trans h3, h4.only hs.only fun q hq => (h5 q hq).1, fun q hq => ⟨(hs.own (hlt q hq) (h5 q hq).1).2, (h5 q hq).2⟩⟩
theorem fmt_ino {x t c K eb : Nat} {S : List UInt8} {P : List Gd.Pa} {F : Nat → Prop} {w0 : World} {v5 : Value} (i : Int) (y : Gd.Ino) (hy : y.Shape) (hm : Gd.mayI y = true) (w : World) (h : FmtI x t S P c K F w0 eb v5 w) (i1 : 1 ≤ i) (i2 : i ≤ 32) (hc : c < 64) :
    Calls Tryz.prog 12 #[.pointer (some ⟨x, 0, none⟩), .int .i64 i, inoV y] w fun e w' => e = .returned (.int .i64 0) ∧ FmtI x t S (P ++ [(Gd.inoAt i.toNat, Gd.inoB y)]) (c + 1) K F w0 eb v5 w' := by
  obtain ⟨F', h1, h2, h3, h4, h5⟩ := h
  refine (setino_f i y hy hm w h1.inv i1 i2 hc).mono ?_
  rintro e w' ⟨he, F2, hs⟩
  have hlt : ∀ q, v5.ownBlock = some q → q < w.heap.size := fun q hq => by
    obtain ⟨A, c, rfl, hA⟩ := h4
    rcases hA with ⟨rfl, _⟩ | ⟨b, o, rfl, hb, _⟩
    · cases hq
    · cases hq
      exact hb
  exact ⟨he, F2, h1.trans hs, (hs.own h3.lt h2).2, (hs.own h3.lt h2).1.trans h3, h4.only hs.only fun q hq => (h5 q hq).1, fun q hq => ⟨(hs.own (hlt q hq) (h5 q hq).1).2, (h5 q hq).2⟩⟩

set_option maxHeartbeats 8000000 in
set_option maxRecDepth 100000 in
theorem format_any {x t c K : Nat} {S : List UInt8} {P : List Gd.Pa} {F : Nat → Prop} (w : World) (h : MetaF x t S P c K w F) (hc : c + 50 ≤ 64) :
    Calls Tryz.prog 35 #[.pointer (some ⟨x, 0, none⟩)] w fun e w' => e = .returned (.int .i64 0) ∧ ∃ F', Step (MetaF x t S (P ++ Gd.fmtP) (c + 50) K) F w F' w' := by
  have H := Lib.hid h
  have HC := Lib.hid hc
  have HHd : Hid (Calls Tryz.prog 65 #[.int .i64 0] w (Loads w (Gd.headB 0))) := Lib.hid (puthead_any 0 (by omega) w)
  have HSl : Hid (∀ W, Calls Tryz.prog 66 #[.agg #[.int .i64 0, .int .i64 0, .int .i64 0, .int .i64 0, .int .i64 0, .int .i64 0]] W (Loads W (Gd.slotB Gd.slot0))) := Lib.hid fun W => putslot_any Gd.slot0 Gd.slot0_may W
  clear h hc
  go_enter Tryz.func35, Tryz.ntmps35
  go_wp2_with fail
  refine HHd.out.mono ?_
  rintro e w1 ⟨v3, rfl, ho3, hb1⟩
  clear HHd
  have HO3 := Lib.hid ho3
  have HB1 := Lib.hid hb1
  clear ho3 hb1
  go_wp2_with fail
  refine (HSl.out w1).mono ?_
  rintro e w2 ⟨v5, rfl, ho5, hb2⟩
  have HB2 := Lib.hid (HB1.out.trans (hb2.mono HB1.out.size))
  have HSt := Lib.hid (store_some 1 0 _ v3 (Gd.headB 0) w2 (H.out.below HB2.out) Gd.ptAt_head (HO3.out.keep hb2).at_ (by rw [Gd.headB_length]; exact Nat.le_refl _) (by rw [Gd.headB_length]; exact Nat.le_refl _) (by have := HC.out; omega) (fun q hq e => by
    have h3 := (own_block HO3.out q hq).1
    have h4 := H.out.tight q e
    omega))
  have HO5 := Lib.hid ho5
  have HQ5 : Hid (∀ q, v5.ownBlock = some q → w.heap.size ≤ q ∧ q < w2.heap.size) := Lib.hid fun q hq => by
    have h3 := own_block ho5 q hq
    have h4 := HB1.out.size
    omega
  clear ho5 hb2 HSl HO3
  go_wp2_with fail
  refine HSt.out.mono ?_
  rintro e w3 ⟨rfl, F3, hs3⟩
  -- the error's variable
  obtain ⟨w4, hw4⟩ : ∃ u, u = w3.alloc (.cells #[.int .i64 0] 31) := ⟨_, rfl⟩
  obtain ⟨eb, heb⟩ : ∃ eb, eb = w3.heap.size := ⟨_, rfl⟩
  have hb4 : Below w3.heap.size w3 w4 := by rw [hw4]; exact (Below.refl _ _).alloc (Nat.le_refl _) _
  have hc4 : CellsAt w4 eb 31 #[.int .i64 0] := by rw [hw4, heb]; exact heap_alloc_new _ _
  have HI4 : Hid (FmtI x t S (P ++ [(0, Gd.headB 0)] ++ Gd.fmtS 0) (c + 1 + 2 * 0) K F w eb v5 w4) := Lib.hid (by
    have hs4 := (Step.behind HB2.out hs3).ahead hb4
    rw [show Gd.fmtS 0 = [] from rfl, List.append_nil]
    refine ⟨F3, hs4, fun e => ?_, hc4, ?_, fun q hq => ⟨fun e => ?_, ?_⟩⟩
    · have := hs3.inv.tight eb e
      omega
    · exact ((HO5.out.at_).only hs3.only fun q hq e => by have h1 := H.out.tight q e; have h2 := HQ5.out q hq; omega).keep hb4
    · have h1 := hs3.old q (HQ5.out q hq).2 e
      have h2 := H.out.tight q h1
      have h3 := HQ5.out q hq
      omega
    · have h3 := (HQ5.out q hq).2
      have h4 := hs3.only.size
      omega)
  have HEb : Hid (w.heap.size ≤ eb) := Lib.hid (by have h1 := HB2.out.size; have h2 := hs3.only.size; omega)
  have Hw4 := Lib.hid hw4.symm
  have Heb := Lib.hid heb.symm
  have HC4 := Lib.hid hc4
  clear hs3 hw4 heb hb4 hc4 HSt
  have HQ := Lib.hid (And.intro HO5.out HQ5.out)
  go_upto_region 6 with fail
  rw [Hw4.out, Heb.out]
  go_loopw [24] (fun z wr => ∃ k : Nat, z = .int .i64 k ∧ k ≤ 8 ∧ Hid (FmtI x t S (P ++ [(0, Gd.headB 0)] ++ Gd.fmtS k) (c + 1 + 2 * k) K F w eb v5 wr)) (fun z _ => 8 - (intOf z).toNat)
  case atStart => exact ⟨0, rfl, by omega, HI4⟩
  case round =>
    obtain ⟨k, rfl, hk, HI⟩ := hrel
    by_cases hlt : k < 8
    · have h1 : (k : Int) < 8 := by omega
      have hP5 : BytesAt wr v5 (Gd.slotB Gd.slot0) := by
        obtain ⟨_, _, _, _, h4, _⟩ := HI.out
        exact h4
      have HSt := Lib.hid (fmt_store 2 ((k : Int) + 1) _ v5 (Gd.slotB Gd.slot0) wr HI.out (Below.refl _ _) (Gd.ptAt_slot hlt) hP5 (by rw [Gd.slotB_length]; exact Nat.le_refl _) (by rw [Gd.slotB_length]; exact Nat.le_refl _) (by have := HC.out; omega) (fun q hq => Or.inr hq))
      dsimp only at HSt
      have Hlt := Lib.hid hlt
      clear hP5 hlt
      go_wp2_with fail
      refine HSt.out.mono ?_
      rintro e w5 ⟨rfl, hI5⟩
      have HI5 := Lib.hid hI5
      clear hI5 HSt
      go_wp2_with fail
      refine (fmtfirst_any eb w5 (by obtain ⟨_, _, _, h3, _⟩ := HI5.out; exact h3)).mono ?_
      rintro e w6 ⟨rfl, hO6, hC6⟩
      have HI6 := Lib.hid (HI5.out.first HEb.out hO6 hC6)
      clear hO6 hC6
      have hmk : (Instr.makeSlice 80 (.int .i64 8) (.int .i64 8)).run Tryz.prog w6 = .ok (.slice (some ⟨w6.heap.size, 0, none⟩) 8 8) (w6.alloc (.cells (cellsB (List.replicate 8 0)) 5)) := made_bytes 8 (by omega) w6
      have hom := own_made w6 8 (by omega) w6.heap.size (Nat.le_refl _)
      have hba := (Below.refl w6.heap.size w6).alloc (Nat.le_refl _) (.cells (cellsB (List.replicate 8 0)) 5)
      obtain ⟨w7, hw7⟩ : ∃ u, u = w6.alloc (.cells (cellsB (List.replicate 8 0)) 5) := ⟨_, rfl⟩
      rw [← hw7] at hmk hom hba
      have HSt := Lib.hid (fmt_store 6 ((k : Int) + 1) _ _ (List.replicate 8 0) w7 HI6.out hba (Gd.ptAt_clog Hlt.out) hom.at_ (by simp) (by rw [List.length_replicate]; show 8 ≤ 1024; omega) (by have := HC.out; have := Hlt.out; omega) (fun q hq => Or.inl (own_block hom q hq).1))
      dsimp only at HSt
      clear hom hba hw7
      go_wp2_with fail
      refine HSt.out.mono ?_
      rintro e w8 ⟨rfl, hI8⟩
      have HI8 := Lib.hid hI8
      clear hI8 HSt hmk
      go_wp2_with fail
      refine (fmtfirst_any eb w8 (by obtain ⟨_, _, _, h3, _⟩ := HI8.out; exact h3)).mono ?_
      rintro e w9 ⟨rfl, hO9, hC9⟩
      have HI9 := Lib.hid (HI8.out.first HEb.out hO9 hC9)
      clear hO9 hC9
      have HI10 : Hid (FmtI x t S (P ++ [(0, Gd.headB 0)] ++ Gd.fmtS (k + 1)) (c + 1 + 2 * (k + 1)) K F w eb v5 w9) := Lib.hid (by
        have := HI9.out
        rw [Gd.fmtS_succ, ← List.append_assoc, ← List.append_assoc, show c + 1 + 2 * (k + 1) = c + 1 + 2 * k + 1 + 1 by omega]
        exact this)
      go_wp2
      go_roundw
      case rel => exact ⟨k + 1, by go_num, by have := Hlt.out; omega, HI10⟩
      case measure => simp [intOf]; have := Hlt.out; omega
    · obtain rfl : k = 8 := by omega
      clear hlt
      have HSm : Hid (Calls Tryz.prog 13 #[.pointer (some ⟨x, 0, none⟩), .agg #[.int .u8 0, .int .u8 0, .int .u8 0, .int .u8 0, .int .u8 0, .int .u8 0, .int .u8 0, .int .u8 0, .int .u8 0, .int .u8 0, .int .u8 0, .int .u8 0, .int .u8 0, .int .u8 0, .int .u8 0, .int .u8 0]] wr fun e w' => e = .returned (.int .i64 0) ∧ FmtI x t S (P ++ [(0, Gd.headB 0)] ++ Gd.fmtS 8 ++ [(576, List.replicate 16 0)]) (c + 1 + 2 * 8 + 1) K F w eb v5 w') := Lib.hid (fmt_map (List.replicate 16 0) rfl wr HI.out (by have := HC.out; omega))
      go_wp2_with fail
      refine HSm.out.mono ?_
      rintro e w5 ⟨rfl, hI5⟩
      have HI5 := Lib.hid hI5
      clear hI5 HSm HI
      go_wp2_with fail
      refine (fmtfirst_any eb w5 (by obtain ⟨_, _, _, h3, _⟩ := HI5.out; exact h3)).mono ?_
      rintro e w6 ⟨rfl, hO6, hC6⟩
      have HI6 := Lib.hid (HI5.out.first HEb.out hO6 hC6)
      clear hO6 hC6
      have HSi : Hid (Calls Tryz.prog 12 #[.pointer (some ⟨x, 0, none⟩), .int .i64 1, .agg #[.int .i64 2, .int .i64 1, .int .i64 0, .int .i64 0, .int .i64 0, .int .i64 0, .int .i64 0, .int .i64 0, .int .i64 0, .int .i64 0, .int .i64 0, .int .i64 0, .int .i64 0, .int .i64 0, .int .i64 0]] w6 fun e w' => e = .returned (.int .i64 0) ∧ FmtI x t S (P ++ [(0, Gd.headB 0)] ++ Gd.fmtS 8 ++ [(576, List.replicate 16 0)] ++ [(Gd.inoAt 1, Gd.inoB Gd.rootI)]) (c + 1 + 2 * 8 + 1 + 1) K F w eb v5 w') := Lib.hid (fmt_ino 1 Gd.rootI Gd.root_shape Gd.root_may w6 HI6.out (by omega) (by omega) (by have := HC.out; omega))
      go_wp2_with fail
      refine HSi.out.mono ?_
      rintro e w7 ⟨rfl, hI7⟩
      have HI7 := Lib.hid hI7
      clear hI7 HSi HI5 HI6
      go_wp2_with fail
      refine (fmtfirst_any eb w7 (by obtain ⟨_, _, _, h3, _⟩ := HI7.out; exact h3)).mono ?_
      rintro e w8 ⟨rfl, hO8, hC8⟩
      have HI8 := Lib.hid (HI7.out.first HEb.out hO8 hC8)
      clear hO8 hC8
      have HI9 : Hid (FmtI x t S (P ++ [(0, Gd.headB 0)] ++ Gd.fmtS 8 ++ [(576, List.replicate 16 0)] ++ [(Gd.inoAt 1, Gd.inoB Gd.rootI)] ++ Gd.fmtN 0) (c + 19 + 0) K F w eb v5 w8) := Lib.hid (by
        have := HI8.out
        rw [show Gd.fmtN 0 = [] from rfl, List.append_nil]
        exact this)
      clear HI7 HI8
      go_upto_region 14 with fail
      go_loopw [10] (fun z wr => ∃ k : Nat, z = .int .i64 (k + 1 : Nat) ∧ k ≤ 31 ∧ Hid (FmtI x t S (P ++ [(0, Gd.headB 0)] ++ Gd.fmtS 8 ++ [(576, List.replicate 16 0)] ++ [(Gd.inoAt 1, Gd.inoB Gd.rootI)] ++ Gd.fmtN k) (c + 19 + k) K F w eb v5 wr)) (fun z _ => 32 - (intOf z).toNat)
      case atStart => exact ⟨0, rfl, by omega, HI9⟩
      case round =>
        obtain ⟨k, rfl, hk, HI⟩ := hrel
        by_cases hlt : k < 31
        · have h1 : ((k + 1 : Nat) : Int) < 32 := by omega
          have h2 : (k : Int) + 1 < 32 := by omega
          have HSi : Hid (Calls Tryz.prog 12 #[.pointer (some ⟨x, 0, none⟩), .int .i64 ((k : Int) + 1 + 1), .agg #[.int .i64 0, .int .i64 0, .int .i64 0, .int .i64 0, .int .i64 0, .int .i64 0, .int .i64 0, .int .i64 0, .int .i64 0, .int .i64 0, .int .i64 0, .int .i64 0, .int .i64 0, .int .i64 0, .int .i64 0]] wr fun e w' => e = .returned (.int .i64 0) ∧ FmtI x t S (P ++ [(0, Gd.headB 0)] ++ Gd.fmtS 8 ++ [(576, List.replicate 16 0)] ++ [(Gd.inoAt 1, Gd.inoB Gd.rootI)] ++ Gd.fmtN (k + 1)) (c + 19 + (k + 1)) K F w eb v5 w') := Lib.hid (by
            have := fmt_ino ((k : Int) + 1 + 1) Gd.noIno noIno_shape (by decide) wr HI.out (by omega) (by omega) (by have := HC.out; omega)
            rw [Gd.fmtN_succ, ← List.append_assoc]
            rw [show ((k : Int) + 1 + 1).toNat = k + 2 by omega] at this
            exact this)
          have Hlt := Lib.hid hlt
          clear hlt
          go_wp2_with fail
          refine HSi.out.mono ?_
          rintro e w5 ⟨rfl, hI5⟩
          have HI5 := Lib.hid hI5
          clear hI5 HSi
          go_wp2_with fail
          refine (fmtfirst_any eb w5 (by obtain ⟨_, _, _, h3, _⟩ := HI5.out; exact h3)).mono ?_
          rintro e w6 ⟨rfl, hO6, hC6⟩
          have HI6 := Lib.hid (HI5.out.first HEb.out hO6 hC6)
          clear hO6 hC6
          go_wp2
          go_roundw
          case rel => exact ⟨k + 1, by go_num, by have := Hlt.out; omega, HI6⟩
          case measure => simp [intOf]; have := Hlt.out; omega
        · obtain rfl : k = 31 := by omega
          have hce := (show CellsAt wr eb 31 #[.int .i64 0] by obtain ⟨_, _, _, h3, _⟩ := HI.out; exact h3)
          have c0 := cell_of_row wr eb 0 _ _ _ hce
          clear hlt hce
          go_wp2
          go_ret
          obtain ⟨F', h1, _⟩ := HI.out
          refine ⟨rfl, F', h1.mono fun h' => ?_⟩
          have e : P ++ Gd.fmtP = P ++ [(0, Gd.headB 0)] ++ Gd.fmtS 8 ++ [(576, List.replicate 16 0)] ++ [(Gd.inoAt 1, Gd.inoB Gd.rootI)] ++ Gd.fmtN 31 := by
            unfold Gd.fmtP
            simp only [List.append_assoc]
          rw [e]
          exact h'

end Go.Proofs.YtginffdngphjpaaGreatDoor

/- Plain functions for names, paths, joins and hashes, and their laws. No program in sight. -/
namespace Go.Proofs.YtginffdngphjpaaGreatDoor.Np

def okc (c : UInt8) : Bool := (decide (97 ≤ c.toNat) && decide (c.toNat ≤ 122)) || (decide (48 ≤ c.toNat) && decide (c.toNat ≤ 57)) || c == 46 || c == 95 || c == 45

/-- is it a name -/
def nameB (l : List UInt8) : Bool := l.all okc && !l.isEmpty && decide (l.length ≤ 12) && !(l == [46]) && !(l == [46, 46])

/-- cut at every slash -/
def splitS : List UInt8 → List (List UInt8)
  | [] => [[]]
  | c :: r => if c = 47 then [] :: splitS r else
    match splitS r with
    | p :: ps => (c :: p) :: ps
    | [] => [[c]]

/-- the first piece, and the rest -/
def headS : List UInt8 → List UInt8
  | [] => []
  | c :: r => if c = 47 then [] else c :: headS r
def tailS : List UInt8 → List (List UInt8)
  | [] => []
  | c :: r => if c = 47 then splitS r else tailS r

theorem splitS_eq : ∀ l, splitS l = headS l :: tailS l
  | [] => rfl
  | c :: r => by
    unfold splitS headS tailS
    by_cases h : c = 47
    · simp [h]
    · simp only [h, if_false]
      rw [splitS_eq r]

/-- a path's names -/
def pathL : List UInt8 → Option (List (List UInt8))
  | [] => none
  | c :: r => if c = 47 then (if r = [] then some [] else if decide ((splitS r).length ≤ 6) && (splitS r).all nameB then some (splitS r) else none) else none

/-- '/' and the names with '/' between -/
def joinS : List (List UInt8) → List UInt8
  | [] => []
  | [x] => x
  | x :: y :: r => x ++ 47 :: joinS (y :: r)

def joinP (L : List (List UInt8)) : List UInt8 := 47 :: joinS L

/-- the path of names -/
def joinL (L : List (List UInt8)) : Option (List UInt8) :=
  if decide (L.length ≤ 6) && L.all nameB then some (joinP L) else none

theorem okc_slash : okc 47 = false := by decide
theorem name_noslash {l : List UInt8} (h : nameB l = true) : ∀ c ∈ l, c ≠ 47 := by
  intro c hc e
  subst e
  simp only [nameB, Bool.and_eq_true, List.all_eq_true] at h
  have := h.1.1.1.1 _ hc
  rw [okc_slash] at this
  cases this
theorem name_ne {l : List UInt8} (h : nameB l = true) : l ≠ [] := by
  intro e; subst e; simp [nameB] at h

theorem splitS_plain : ∀ (x : List UInt8), (∀ c ∈ x, c ≠ 47) → splitS x = [x]
  | [], _ => rfl
  | c :: r, h => by
    unfold splitS
    rw [if_neg (h c (by simp)), splitS_plain r (fun d hd => h d (by simp [hd]))]

theorem splitS_app : ∀ (x r : List UInt8), (∀ c ∈ x, c ≠ 47) → splitS (x ++ 47 :: r) = x :: splitS r
  | [], r, _ => by simp [splitS]
  | c :: x, r, h => by
    have ih := splitS_app x r (fun d hd => h d (by simp [hd]))
    rw [List.cons_append, splitS, if_neg (h c (by simp)), ih]

theorem splitS_join : ∀ (L : List (List UInt8)), L ≠ [] → (∀ x ∈ L, ∀ c ∈ x, c ≠ 47) → splitS (joinS L) = L
  | [], h, _ => absurd rfl h
  | [x], _, h => splitS_plain x (h x (by simp))
  | x :: y :: r, _, h => by
    unfold joinS
    rw [splitS_app x _ (h x (by simp)), splitS_join (y :: r) (by simp) (fun z hz => h z (by simp [hz]))]

theorem joinS_splitS : ∀ (l : List UInt8), joinS (splitS l) = l
  | [] => rfl
  | c :: r => by
    have ih := joinS_splitS r
    unfold splitS
    by_cases h : c = 47
    · rw [if_pos h]
      rw [splitS_eq r] at ih ⊢
      unfold joinS
      rw [ih, h]; rfl
    · rw [if_neg h]
      rw [splitS_eq r] at ih ⊢
      simp only
      cases ht : tailS r with
      | nil => rw [ht] at ih; simp only [joinS] at ih ⊢; rw [ih]
      | cons y ys =>
        rw [ht] at ih
        have e : joinS ((c :: headS r) :: y :: ys) = c :: joinS (headS r :: y :: ys) := rfl
        rw [e, ih]

theorem joinS_ne : ∀ (L : List (List UInt8)), L ≠ [] → (∀ x ∈ L, x ≠ []) → joinS L ≠ []
  | [], h, _ => absurd rfl h
  | [x], _, h => h x (by simp)
  | x :: y :: r, _, h => by
    unfold joinS
    simp

/-- the path of joined names has just these names, where they may be -/
theorem pathL_join (L : List (List UInt8)) (h : (decide (L.length ≤ 6) && L.all nameB) = true) : pathL (joinP L) = some L := by
  simp only [Bool.and_eq_true, decide_eq_true_eq, List.all_eq_true] at h
  rw [joinP, pathL, if_pos rfl]
  by_cases hL : L = []
  · subst hL; rfl
  · rw [if_neg (joinS_ne L hL fun x hx => name_ne (h.2 x hx)), splitS_join L hL fun x hx => name_noslash (h.2 x hx)]
    rw [if_pos]
    simp only [Bool.and_eq_true, decide_eq_true_eq, List.all_eq_true]
    exact h

/-- .. and nowhere else -/
theorem pathL_some {l : List UInt8} {L : List (List UInt8)} (h : pathL l = some L) : (decide (L.length ≤ 6) && L.all nameB) = true ∧ joinP L = l := by
  unfold pathL at h
  split at h
  · cases h
  · rename_i c r
    by_cases hc : c = 47
    · rw [if_pos hc] at h
      by_cases hr : r = []
      · rw [if_pos hr] at h
        cases h
        exact ⟨rfl, by subst hc hr; rfl⟩
      · rw [if_neg hr] at h
        split at h
        · rename_i hcond
          cases h
          exact ⟨hcond, by rw [joinP, joinS_splitS, hc]⟩
        · cases h
    · rw [if_neg hc] at h; cases h

theorem joinL_iff (L : List (List UInt8)) : (pathL (joinP L) = some L) ↔ (decide (L.length ≤ 6) && L.all nameB) = true :=
  ⟨fun h => (pathL_some h).1, pathL_join L⟩

/-! the reference's loop over a path's bytes -/
def go : List (List UInt8) → List UInt8 → List UInt8 → Option (List (List UInt8))
  | out, cur, [] => if nameB cur && decide (out.length ≠ 6) then some (out ++ [cur]) else none
  | out, cur, c :: r => if c = 47 then (if nameB cur && decide (out.length ≠ 6) then go (out ++ [cur]) [] r else none) else go out (cur ++ [c]) r

theorem go_eq : ∀ (r : List UInt8) (out : List (List UInt8)) (cur : List UInt8), out.length ≤ 6 →
    go out cur r = if (decide (out.length + 1 + (tailS r).length ≤ 6) && ((cur ++ headS r) :: tailS r).all nameB) = true then some (out ++ (cur ++ headS r) :: tailS r) else none
  | [], out, cur, h6 => by
    simp only [go, headS, tailS, List.append_nil, List.length_nil, Nat.add_zero, List.all_cons, List.all_nil, Bool.and_true]
    by_cases h1 : nameB cur = true <;> by_cases h2 : out.length = 6
    · simp [h1, h2]
    · have : out.length + 1 ≤ 6 := by omega
      simp [h1, h2, this]
    · simp [h1]
    · simp [h1]
  | c :: r, out, cur, h6 => by
    unfold go headS tailS
    by_cases hc : c = 47
    · simp only [hc, if_true, List.append_nil]
      by_cases h1 : nameB cur = true
      · by_cases h2 : out.length = 6
        · have h3 : ¬ (out.length + 1 + (splitS r).length ≤ 6) := by omega
          simp [h1, h2]
          intro h; omega
        · rw [if_pos (by simp [h1, h2]), go_eq r (out ++ [cur]) [] (by simp; omega), splitS_eq r]
          simp only [List.length_append, List.length_cons, List.length_nil, List.nil_append, List.all_cons, h1, Bool.true_and, List.append_assoc, List.singleton_append]
          have e : (out.length + (0 + 1) + 1 + (tailS r).length ≤ 6) = (out.length + 1 + ((tailS r).length + 1) ≤ 6) := by
            apply propext; omega
          simp only [e]
      · simp [h1]
    · simp only [hc, if_false]
      rw [go_eq r out (cur ++ [c]) h6]
      simp only [List.append_assoc, List.singleton_append]

theorem pathL_go (r : List UInt8) (h : r ≠ []) : pathL (47 :: r) = go [] [] r := by
  rw [go_eq r [] [] (by simp)]
  rw [pathL, if_pos rfl, if_neg h, splitS_eq r]
  simp only [List.length_nil, List.nil_append, List.length_cons]
  have e : ((tailS r).length + 1 ≤ 6) = (0 + 1 + (tailS r).length ≤ 6) := by apply propext; omega
  simp only [e]

/-! parents -/
def parentL (l : List UInt8) : Option (List (List UInt8) × List UInt8) :=
  match pathL l with
  | some L => match L.getLast? with
    | some x => some (L.dropLast, x)
    | none => none
  | none => none

/-! hashes -/
def hashStep (h : Nat) (c : UInt8) : Nat := ((h ^^^ c.toNat) * 16777619) % 4294967296
def basis : Nat := 2166136261
theorem basis_lt : basis < 4294967296 := by unfold basis; omega
def hashN (l : List UInt8) : Nat := l.foldl hashStep basis
theorem hashStep_lt (h : Nat) (c : UInt8) : hashStep h c < 4294967296 := by
  unfold hashStep
  exact Nat.mod_lt _ (by decide)
theorem foldl_lt : ∀ (l : List UInt8) (h : Nat), h < 4294967296 → l.foldl hashStep h < 4294967296
  | [], _, hh => hh
  | c :: r, h, _ => foldl_lt r _ (hashStep_lt h c)
theorem hashN_lt (l : List UInt8) : hashN l < 4294967296 := by
  unfold hashN
  exact foldl_lt l _ basis_lt
theorem hashN_snoc (l : List UInt8) (c : UInt8) : hashN (l ++ [c]) = hashStep (hashN l) c := by
  unfold hashN
  rw [List.foldl_append, List.foldl_cons, List.foldl_nil]

/-- the sum of the bits that differ, of the first k -/
def bitx (a b : Nat) : Nat → Nat
  | 0 => 0
  | k + 1 => bitx a b k + (if a / 2 ^ k % 2 ≠ b / 2 ^ k % 2 then 2 ^ k else 0)

theorem xor_low : ∀ (a b k : Nat), bitx a b k = (a ^^^ b) % 2 ^ k
  | a, b, 0 => by simp [bitx, Nat.mod_one]
  | a, b, k + 1 => by
    have e : (a ^^^ b) % 2 ^ (k + 1) = (a ^^^ b) % 2 ^ k + 2 ^ k * ((a ^^^ b) / 2 ^ k % 2) := by
      rw [Nat.pow_succ, Nat.mod_mul]
    have e2 : (a ^^^ b) / 2 ^ k % 2 = if a / 2 ^ k % 2 ≠ b / 2 ^ k % 2 then 1 else 0 := by
      have ht := Nat.testBit_xor (x := a) (y := b) (i := k)
      rw [Nat.testBit_eq_decide_div_mod_eq, Nat.testBit_eq_decide_div_mod_eq, Nat.testBit_eq_decide_div_mod_eq] at ht
      have h0 : (a ^^^ b) / 2 ^ k % 2 < 2 := Nat.mod_lt _ (by omega)
      have h1 : a / 2 ^ k % 2 < 2 := Nat.mod_lt _ (by omega)
      have h2 : b / 2 ^ k % 2 < 2 := Nat.mod_lt _ (by omega)
      generalize (a ^^^ b) / 2 ^ k % 2 = z at *
      generalize a / 2 ^ k % 2 = x at *
      generalize b / 2 ^ k % 2 = y at *
      rcases (show x = 0 ∨ x = 1 by omega) with rfl | rfl <;> rcases (show y = 0 ∨ y = 1 by omega) with rfl | rfl <;> rcases (show z = 0 ∨ z = 1 by omega) with rfl | rfl <;> simp at ht ⊢
    rw [bitx, xor_low a b k, e, e2]
    split <;> simp

theorem xor_byte (h c : Nat) (hc : c < 256) : h ^^^ c = h - h % 256 + bitx h c 8 := by
  rw [xor_low]
  have e : (h ^^^ c) / 256 = h / 256 := by
    rw [show 256 = 2 ^ 8 from rfl, ← Nat.shiftRight_eq_div_pow, ← Nat.shiftRight_eq_div_pow, Nat.shiftRight_xor_distrib]
    rw [Nat.shiftRight_eq_div_pow c, Nat.div_eq_of_lt (by omega), Nat.xor_zero]
  have := Nat.div_add_mod (h ^^^ c) 256
  have h2 := Nat.div_add_mod h 256
  rw [show (2 : Nat) ^ 8 = 256 from rfl]
  omega

end Go.Proofs.YtginffdngphjpaaGreatDoor.Np

/- Walks: few, names.May, commonsref05.May. -/
namespace Go.Proofs.YtginffdngphjpaaGreatDoor
open Go.RowKit

/-- is it the number of a letter of a name -/
def okr (r : Nat) : Bool := (decide (97 ≤ r) && decide (r ≤ 122)) || (decide (48 ≤ r) && decide (r ≤ 57)) || r == 46 || r == 95 || r == 45
theorem okr_lt {r : Nat} (h : okr r = true) : r < 128 := by
  unfold okr at h
  simp only [Bool.or_eq_true, Bool.and_eq_true, decide_eq_true_eq, beq_iff_eq] at h
  omega
theorem okc_okr (c : UInt8) : Np.okc c = okr c.toNat := by
  have h46 : (c == 46) = (c.toNat == 46) := by rw [Bool.eq_iff_iff]; simp [← UInt8.toNat_inj]
  have h95 : (c == 95) = (c.toNat == 95) := by rw [Bool.eq_iff_iff]; simp [← UInt8.toNat_inj]
  have h45 : (c == 45) = (c.toNat == 45) := by rw [Bool.eq_iff_iff]; simp [← UInt8.toNat_inj]
  unfold Np.okc okr
  rw [h46, h95, h45]

theorem take_snoc (s : ByteArray) (k : Nat) (h : k < s.size) : s.data.toList.take (k + 1) = s.data.toList.take k ++ [s[k]] := by
  rw [List.take_succ_eq_append_getElem (by simpa using h)]; rfl
theorem all_next {s : ByteArray} {pos : Nat} (h : (s.data.toList.take pos).all Np.okc = true) (hp : pos < s.size) (hr : okr (Utf8.decode s pos).1 = true) :
    (Utf8.decode s pos).2 = 1 ∧ (s.data.toList.take (pos + 1)).all Np.okc = true := by
  have ha : (s[pos]'hp).toNat < 128 := by
    rcases Nat.lt_or_ge (s[pos]'hp).toNat 128 with h1 | h1
    · exact h1
    · have := (decode_high s pos hp h1).1
      have := okr_lt hr
      omega
  rw [decode_ascii s pos hp ha] at hr ⊢
  refine ⟨rfl, ?_⟩
  rw [take_snoc s pos hp, List.all_append, h, Bool.true_and, List.all_cons, List.all_nil, Bool.and_true, okc_okr]
  exact hr
theorem all_stop {s : ByteArray} {pos : Nat} (hp : pos < s.size) (hr : okr (Utf8.decode s pos).1 = false) : Np.nameB s.data.toList = false := by
  have hn : Np.okc (s[pos]'hp) = false := by
    rw [okc_okr]
    rcases Nat.lt_or_ge (s[pos]'hp).toNat 128 with h1 | h1
    · rw [decode_ascii s pos hp h1] at hr; exact hr
    · cases h : okr (s[pos]'hp).toNat with
      | false => rfl
      | true => have := okr_lt h; omega
  have hm : (s[pos]'hp) ∈ s.data.toList := by simp [ByteArray.getElem_eq_getElem_data]
  have : s.data.toList.all Np.okc = false := by
    rw [List.all_eq_false]
    exact ⟨_, hm, by rw [hn]; simp⟩
  unfold Np.nameB
  rw [this]; rfl
theorem all_end {s : ByteArray} {pos : Nat} (h : (s.data.toList.take pos).all Np.okc = true) (hp : ¬ pos < s.size) :
    Np.nameB s.data.toList = (!s.data.toList.isEmpty && decide (s.data.toList.length ≤ 12) && !(s.data.toList == [46]) && !(s.data.toList == [46, 46])) := by
  rw [List.take_of_length_le (by rw [← Lib.size_eq]; omega)] at h
  unfold Np.nameB
  rw [h, Bool.true_and]

set_option maxHeartbeats 1000000 in
theorem may_any (s : ByteArray) (w : World) (hs : s.size ≤ 9223372036854775807) :
    Calls Tryz.prog 140 #[.string s] w fun e w' => e = .returned (.bool (Np.nameB s.data.toList)) ∧ Below w.heap.size w w' := by
  go_enter Tryz.func140, Tryz.ntmps140
  go_wp2
  go_loopw [] (fun wr => ∃ pos : Nat, wr.heap[w.heap.size]? = some (.stringIter s pos) ∧ Below w.heap.size w wr ∧ Hid ((s.data.toList.take pos).all Np.okc = true)) (fun wr => s.size - wr.iterPos w.heap.size)
  case atStart =>
    refine ⟨0, ?_, (Below.refl _ w).alloc (Nat.le_refl _) _, by show (s.data.toList.take 0).all Np.okc = true; simp⟩
    have := World.iter_heap w s 0
    simpa using this
  case round =>
    obtain ⟨pos, hit, hbw, hok⟩ := hrel
    by_cases hp : pos < s.size
    · have hnx : ∀ ty, (Instr.next (.pointer (some ⟨w.heap.size, 0, none⟩)) true ty).run Tryz.prog wr = _ := fun ty => Lib.run_next_any_at wr w.heap.size s pos ty hit hp
      have hbw2 := Lib.below_iterAt hbw (k := w.heap.size) (by omega) s (pos + (Utf8.decode s pos).2)
      have hit2 := Lib.iterAt_heap wr w.heap.size s pos (pos + (Utf8.decode s pos).2) hit
      obtain ⟨r, hr⟩ : ∃ r, r = (Utf8.decode s pos).1 := ⟨_, rfl⟩
      have Hr := Lib.hid hr
      rw [← hr] at hnx
      clear hr
      go_wp2
      all_goals first
        | (have hk : okr r = true := by
             (simp only [okr, Bool.or_eq_true, Bool.and_eq_true, decide_eq_true_eq, beq_iff_eq]
              try simp only [Bool.not_eq_eq_eq_not, Bool.not_true, Bool.not_false, decide_eq_true_eq, decide_eq_false_iff_not, bne_iff_ne, bne_eq_false_iff_eq, ne_eq] at *
              omega)
           rw [Hr.out] at hk
           obtain ⟨h1, h2⟩ := all_next hok.out hp hk
           go_roundw
           case rel => exact ⟨_, hit2, hbw2, by rw [h1]; exact h2⟩
           case measure =>
             rw [World.iterPos, World.iterPos, hit2, hit]
             show s.size - (pos + (Utf8.decode s pos).2) < s.size - pos
             omega)
        | (have hk : okr r = false := by
             (rw [Bool.eq_false_iff]
              simp only [okr, ne_eq, Bool.or_eq_true, Bool.and_eq_true, decide_eq_true_eq, beq_iff_eq]
              try simp only [Bool.not_eq_eq_eq_not, Bool.not_true, Bool.not_false, decide_eq_true_eq, decide_eq_false_iff_not, bne_iff_ne, bne_eq_false_iff_eq, ne_eq] at *
              omega)
           rw [Hr.out] at hk
           go_ret
           exact ⟨ret_bool (all_stop hp hk).symm, hbw2⟩)
    · have hnx : ∀ ty, (Instr.next (.pointer (some ⟨w.heap.size, 0, none⟩)) true ty).run Tryz.prog wr = _ := fun ty => Lib.run_next_end_at wr w.heap.size s pos ty hit hp
      have hend := all_end hok.out hp
      rw [← Lib.toList_data, show s.toList.length = s.size by rw [Lib.toList_data, ← Lib.size_eq]] at hend
      have Hend := Lib.hid hend
      clear hend
      go_wp2
      all_goals
        go_ret
        refine ⟨ret_bool ?_, hbw⟩
        rw [← Lib.toList_data, Hend.out]
        generalize s.toList = l at *
        first
          | (have h : l = [] := by assumption
             rw [h]; rfl)
          | (have h : l = [46] := by assumption
             rw [h]; simp; done)
          | (have h : (s.size : Int) ≤ 12 := by assumption
             rw [decide_eq_true (by omega : s.size ≤ 12)]; simp; done)
          | (rw [decide_eq_false (by omega : ¬ s.size ≤ 12)]; simp; done)

theorem nameB_no (l : List UInt8) (h : l.isEmpty = true ∨ 12 < l.length ∨ l = [46] ∨ l = [46, 46]) : Np.nameB l = false := by
  unfold Np.nameB
  rcases h with h | h | h | h
  · rw [h]; simp
  · rw [decide_eq_false (by omega : ¬ l.length ≤ 12)]; simp
  · rw [h]; simp
  · rw [h]; simp
theorem nameB_yes (l : List UInt8) (h1 : l.isEmpty = false) (h2 : l.length ≤ 12) (h3 : l ≠ [46]) (h4 : l ≠ [46, 46]) : Np.nameB l = l.all Np.okc := by
  unfold Np.nameB
  rw [h1, decide_eq_true h2, beq_eq_false_iff_ne.2 h3, beq_eq_false_iff_ne.2 h4]; simp
theorem okc_num {s : ByteArray} {k : Nat} (hp : k < s.size) {b : Bool} (h : okr (s[k]'hp).toNat = b) : (s.data.toList.take (k + 1)).all Np.okc = ((s.data.toList.take k).all Np.okc && b) := by
  rw [take_snoc s k hp, List.all_append, List.all_cons, List.all_nil, Bool.and_true, okc_okr, h]
theorem all_take_false {l : List UInt8} {k : Nat} (h : (l.take k).all Np.okc = false) : l.all Np.okc = false := by
  rw [List.all_eq_false] at h ⊢
  obtain ⟨x, hx, h2⟩ := h
  exact ⟨x, List.mem_of_mem_take hx, h2⟩


end Go.Proofs.YtginffdngphjpaaGreatDoor
