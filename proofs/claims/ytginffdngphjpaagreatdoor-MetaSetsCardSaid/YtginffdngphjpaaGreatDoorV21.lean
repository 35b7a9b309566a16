/- Walks: files: Set. -/
import Derived.Test.YtginffdngphjpaaGreatDoorV20
import Derived.Scope
set_option linter.unusedVariables false
set_option linter.unusedSimpArgs false
namespace Go.Proofs.YtginffdngphjpaaGreatDoor
open Go.RowKit Go.Shelf

attribute [local go_sem] Oper.semAt_some

namespace Gd
def Ino.setBs (x : Ino) (B : List Int) : Ino := { x with B := B }
def part64 (all : List UInt8) (k : Nat) : List UInt8 := (all.drop (64 * k)).take 64
/-- a file's blocks, told anew one after the other; none: there is no room -/
def setK (all : List UInt8) (need : Nat) (spare : Int) : Nat → Nat → Vol → List Int → Option (Vol × List Int)
  | 0, _, M, B => some (M, B)
  | fu + 1, k, M, B =>
    if need ≤ k then
      if B.getD k 0 = 0 then some (M, B)
      else setK all need spare fu (k + 1) (M.setMap (giveI M.map (B.getD k 0))) (B.set k 0)
    else if B.getD k 0 = 0 then
      if 128 - (countB M.map : Int) ≤ max 0 spare then none
      else setK all need spare fu (k + 1) (M.take.setBlk (firstB M.map) (part64 all k)) (B.set k (firstB M.map))
    else setK all need spare fu (k + 1) (M.setBlk (B.getD k 0).toNat (part64 all k)) B
end Gd

/-- a part of a text -/
theorem sliceS0 {a : ByteArray} {l h : Nat} (h1 : l ≤ h) (h2 : h ≤ a.size) (w : World) : (Instr.slice 9 (.string a) (some (.int .i64 (l : Int))) (some (.int .i64 (h : Int))) none).run Tryz.prog w = .ok (.string (a.extract l h)) w := by
  have g1 : (l : Int) ≤ (h : Int) := by omega
  have g2 : (h : Int) ≤ (a.size : Int) := by omega
  have g3 : (0 : Int) ≤ (l : Int) := by omega
  have g4 : (0 : Int) ≤ (h : Int) := by omega
  simp [Instr.slice, run_underlying Tryz.underlying9, Instr.sliceBounds, run_sliceBound, g1, g2, g3, g4, h1, h2]
theorem sliceS {a : ByteArray} {k : Nat} {all : List UInt8} (h : 64 * (k + 1) ≤ a.size) (ha : a.data.toList = all) (w : World) : (Instr.slice 9 (.string a) (some (.int .i64 ((k : Int) * 64))) (some (.int .i64 (((k : Int) + 1) * 64))) none).run Tryz.prog w = .ok (.string ⟨(Gd.part64 all k).toArray⟩) w := by
  have := sliceS0 (a := a) (l := 64 * k) (h := 64 * (k + 1)) (by omega) h w
  rw [show ((64 * k : Nat) : Int) = (k : Int) * 64 by omega, show ((64 * (k + 1) : Nat) : Int) = ((k : Int) + 1) * 64 by omega] at this
  have he : a.extract (64 * k) (64 * (k + 1)) = ⟨(Gd.part64 all k).toArray⟩ := ba_ext (by
    rw [Lib.extract_data, ha, show 64 * (k + 1) - 64 * k = 64 by omega]
    rfl)
  rw [this, he]

/-- what Set comes to -/
def SetPost (x t : Nat) (S : List UInt8) (i : Nat) (y : Gd.Ino) (len : Nat) (R : Option (Gd.Vol × List Int)) (c K : Nat) (F : Nat → Prop) (w : World) (e : Ending) (w' : World) : Prop :=
  match R with
  | none => e = .returned (.int .i64 18) ∧ ∃ M', Turns x t S M' (c + 13) K F w w'
  | some p => e = .returned (.int .i64 0) ∧ Turns x t S (p.1.setIno i ((y.setBs p.2).setS len)) (c + 13) K F w w'

theorem inoL_setBs {y : Gd.Ino} {B : List Int} (hB : B.length = 4) {k : Nat} (hk : k < 4) (n : Int) : inoL (y.setBs (B.set k n)) = (inoL (y.setBs B)).set (3 + k) n := by
  show y.k :: y.l :: y.s :: (B.set k n ++ y.O) = _
  unfold inoL
  show _ = (y.k :: y.l :: y.s :: (B ++ y.O)).set (3 + k) n
  rw [show 3 + k = k + 3 by omega, List.set_cons_succ, List.set_cons_succ, List.set_cons_succ, List.set_append_left _ _ (by rw [hB]; exact hk)]

set_option maxHeartbeats 8000000 in
set_option maxRecDepth 100000 in
theorem set_ok {x t c K f : Nat} {S : List UInt8} {M : Gd.Vol} {F : Nat → Prop} (i : Nat) (s : List UInt8) (spare : Int) (w : World) (h : MetaV x t S M c K w F) (hf : FilAt w f t x) (hfF : ¬ F f) (h1 : 1 ≤ i) (h2 : i ≤ 32) (hE : Gd.fileE M i = 0) (hl : s.length ≤ 256) (hB : ∀ n ∈ (M.ino i).B, 0 ≤ n ∧ n ≤ 128)
    (hmay : ∀ p, Gd.setK (Fp.sizedL s ((s.length + 63) / 64 * 64)) ((s.length + 63) / 64) spare 4 0 M (M.ino i).B = some p → Gd.mayI (((M.ino i).setBs p.2).setS s.length) = true) (hc : c + 13 < 64) :
    Calls Tryz.prog 21 #[.pointer (some ⟨f, 0, none⟩), .int .i64 i, .string ⟨s.toArray⟩, .int .i64 spare] w (SetPost x t S i (M.ino i) s.length (Gd.setK (Fp.sizedL s ((s.length + 63) / 64 * 64)) ((s.length + 63) / 64) spare 4 0 M (M.ino i).B) c K F w) := by
  have HF := Lib.hid (file_any i w h hf h1 h2)
  rw [hE] at HF
  have hsh : (M.ino i).Shape := by
    obtain ⟨P, h3, h4⟩ := h
    exact h4.shape i h1 h2
  obtain ⟨l, hll⟩ : ∃ l, l = s.length := ⟨_, rfl⟩
  obtain ⟨need, hneed⟩ : ∃ need, need = (s.length + 63) / 64 := ⟨_, rfl⟩
  rw [← hneed] at hmay ⊢
  have hn4 : need ≤ 4 := by omega
  have HNe := Lib.hid fun W => needs_any s.length (by omega) W
  rw [← hneed] at HNe
  have HSd := Lib.hid fun W => Fl.sized_any ⟨s.toArray⟩ (need * 64) W (by rw [Lib.size_eq]; show s.length ≤ _; omega) (by omega)
  rw [show (⟨s.toArray⟩ : ByteArray).data.toList = s from rfl] at HSd
  obtain ⟨all, hall⟩ : ∃ all, all = Fp.sizedL s (need * 64) := ⟨_, rfl⟩
  rw [← hall] at hmay HSd ⊢
  have hallL : all.length = need * 64 := by rw [hall]; exact Fp.sizedL_length _ _
  rw [← hll] at HNe hmay hl ⊢
  obtain ⟨y, hy⟩ : ∃ y, y = M.ino i := ⟨_, rfl⟩
  rw [← hy] at HF hsh hB hmay ⊢
  obtain ⟨R, hR⟩ : ∃ R, R = Gd.setK all need spare 4 0 M y.B := ⟨_, rfl⟩
  rw [← hR] at hmay ⊢
  have H := Lib.hid h
  have HFi := Lib.hid (And.intro hf hfF)
  have HS := Lib.hid (inoC_size hsh)
  have HSh := Lib.hid hsh
  have HB := Lib.hid hB
  have HMy := Lib.hid hmay
  have HR := Lib.hid hR
  have HAl := Lib.hid hallL
  have HC := Lib.hid hc
  have HI12 := Lib.hid (And.intro h1 h2)
  obtain ⟨sb, hsb⟩ : ∃ sb : ByteArray, sb = ⟨s.toArray⟩ := ⟨_, rfl⟩
  rw [← hsb] at HSd ⊢
  have hsl : sb.size = l := by rw [hsb, hll]; rfl
  obtain ⟨ab, hab⟩ : ∃ ab : ByteArray, ab = ⟨all.toArray⟩ := ⟨_, rfl⟩
  rw [← hab] at HSd
  have HAb := Lib.hid hab
  have hasz : ab.size = need * 64 := by rw [hab, ← hallL]; rfl
  have hl256 : (l : Int) ≤ 256 := by omega
  have HLs := Lib.hid hll
  clear h hf hfF h1 h2 hE hl hB hmay hc hsh hneed hall hallL hy hR hsb hab hll
  unfold inoV at *
  go_enter Tryz.func21, Tryz.ntmps21
  go_upto_region 1 with fail
  refine wp_scope_straight ?_
  go_upto_region 2 with (first | (go_at_call 51; refine HF.out.mono ?_; rintro e w2 ⟨rfl, hb2⟩; have HL2 := Lib.hid ((Tl.start H.out).below hb2); clear hb2) | (rw [← zIno_lit]; refine wpList_store_mid rfl 25 _ _ rfl w2.heap.size 0 (inoC y) rfl rfl (there_at (heap_alloc_new _ _) (by rw [zIno_size, HS.out])) (by rw [HS.out]; exact Tryz.sizeIno) (inoC_one _) ?_; obtain ⟨hbw, hbg⟩ := new_whole2 w2 zIno 25 (inoC y).toList (by rw [zIno_size, Array.length_toList, HS.out]); generalize (World.setCells _ _ _ _) = w3 at hbw hbg ⊢; have HL3 := Lib.hid (HL2.out.new hbw (Nat.le_refl _) (o := .cells (inoC y) 25 (0, 0)) hbg); clear hbw hbg))
  obtain ⟨ib, hib⟩ : ∃ ib, ib = w2.heap.size := ⟨_, rfl⟩
  rw [← hib] at HL3 ⊢
  clear hib
  go_upto_region 9 with (first | (go_at_call 23; refine (HNe.out _).mono ?_; rintro e w4 ⟨rfl, rfl⟩) | (go_at_call 52; refine (HSd.out _).mono ?_; rintro e w5 ⟨rfl, hb5⟩; have HL5 := Lib.hid (HL3.out.below hb5); clear hb5))
  go_step3
  go_upto_region 9 with fail
  go_loopw [10, 36] (fun v z wr => ∃ (k : Nat) (M' : Gd.Vol) (B' : List Int), z = .int .i64 k ∧ v = .int .i64 0 ∧ k ≤ 4 ∧ Hid (R = Gd.setK all need spare (4 - k) k M' B') ∧ Hid (B'.length = 4 ∧ ∀ n ∈ B', 0 ≤ n ∧ n ≤ 128) ∧ Hid (Tl x t S M' (c + 3 * k) K F w wr [(ib, .cells (inoC (y.setBs B')) 25 (0, 0))])) (fun _ z _ => 4 - (intOf z).toNat)
  case atStart => exact ⟨0, M, y.B, rfl, rfl, by omega, HR, Lib.hid ⟨HSh.out.1, HB.out⟩, HL5⟩
  case round =>
    obtain ⟨k, M', B', rfl, rfl, hk, HRk, HB4, HT⟩ := hrel
    by_cases hlt : k < 4
    · obtain ⟨n, hn⟩ : ∃ n, B'[k]? = some n := ⟨_, List.getElem?_eq_getElem (by rw [HB4.out.1]; exact hlt)⟩
      have hnr := HB4.out.2 n (List.mem_of_getElem? hn)
      have hgd : B'.getD k 0 = n := by rw [List.getD_eq_getElem?_getD, hn]; rfl
      have hRk := HRk.out
      rw [show 4 - k = (4 - (k + 1)) + 1 by omega] at hRk
      unfold Gd.setK at hRk
      rw [hgd] at hRk
      have h4 : (k : Int) < 4 := by omega
      have h0 : (0 : Int) ≤ k := by omega
      have HIr : Hid (InoAt wr ib (y.setBs B')) := Lib.hid ⟨HT.out.get (k := ib) (by simp), ⟨HB4.out.1, HSh.out.2⟩⟩
      obtain ⟨b0, b1⟩ := HIr.out.cB (k := k) (n := n) hn
      by_cases hnk : need ≤ k
      · rw [if_pos hnk] at hRk
        have hnk' : (need : Int) ≤ k := by omega
        by_cases hn0 : n = 0
        · rw [if_pos hn0] at hRk
          have HRe := Lib.hid hRk
          subst hn0
          clear hn hnr hgd hRk hlt
          go_upto_region 24 with fail
          have HI6 : Hid (InoAt wr ib (y.setBs B')) := Lib.hid ⟨HT.out.get (k := ib) (by simp), ⟨HB4.out.1, HSh.out.2⟩⟩
          have b2 := HI6.out.c2
          have f2 := HI6.out.f 2
          have HSz : Hid (((y.setBs B').setS l).Shape) := Lib.hid ⟨HB4.out.1, HSh.out.2⟩
          have HSs := Lib.hid (inoC_size HSz.out)
          have hl7 : Tl x t S M' (c + 3 * k) K F w (wr.setCell ⟨ib, 2, none⟩ (.int .i64 l)) [(ib, .cells (inoC ((y.setBs B').setS l)) 25 (0, 0))] := by
            refine HT.out.set (k := ib) (C := inoC (y.setBs B')) (ty := 25) (by simp) _ fun p hp => ?_
            rw [inoC_set (inoL_setS (y.setBs B') l)]
            exact Or.inl (by simpa using hp)
          obtain ⟨w7, hw7⟩ : ∃ u, u = wr.setCell ⟨ib, 2, none⟩ (.int .i64 l) := ⟨_, rfl⟩
          rw [← hw7] at hl7
          have HW7 := Lib.hid hw7.symm
          have HL7 : Hid (Tl x t S M' (c + 3 * k) K F w w7.drew [(ib, .cells (inoC ((y.setBs B').setS l)) 25 (0, 0))]) := Lib.hid (hl7.below ((Below.refl _ _).drew))
          obtain ⟨F7, h7s, h7l⟩ := HL7.out
          have hf7 : FilAt w7.drew f t x := (HL7.out.old (lt_get HFi.out.1) HFi.out.2).trans HFi.out.1
          have HSi := Lib.hid (setino_ok (i : Int) ((y.setBs B').setS l) HSz.out (HMy.out (M', B') HRe.out) w7.drew h7s.inv (by have := HI12.out; omega) (by have := HI12.out; omega) (by have := HC.out; omega))
          rw [Int.toNat_natCast] at HSi
          have HNx := Lib.hid fun b N d (h : Turns x t S N d K F7 w7.drew b) => Tl.next h7s h7l h
          have HRow := Lib.hid (HL7.out.get (k := ib) (o := .cells (inoC ((y.setBs B').setS l)) 25 (0, 0)) (by simp))
          have hs0 := hf7.cells.2
          have hs1 : ∀ W F8 N d, Tl x t S N d K F w W F8 → W.cell? ⟨f, 1, none⟩ = some (.pointer (some ⟨x, 0, none⟩)) := fun W F8 N d h => FilAt.cells (t := t) ((h.old (lt_get HFi.out.1) HFi.out.2).trans HFi.out.1) |>.2
          have HS1 := Lib.hid hs1
          clear hl7 hw7 h7s h7l hf7 hs1
          go_upto_region 25 with fail
          rw [HW7.out]
          unfold inoV at HSi
          refine wp_region_held_drew (S := (fun W => W.cell? ⟨f, 1, none⟩ = some (.pointer (some ⟨x, 0, none⟩)))) (by kernel_rfl) ?_ (fun hHeld => ?_)
          · exact hs0
          refine wpAnyH_take (i := 0) (oi := _) (v := ?_) rfl (by kernel_rfl) (by kernel_rfl) (by kernel_rfl) (fun _ _ _ h => h) (Or.inl ⟨by rfl, ?_⟩) (by assumption) ?_
          rotate_left
          · intro w hSw
            (try dsimp only at hSw)
            first | (go_simp; done) | (go_simp; with_reducible rfl)
          try simp only [List.getElem_toArray, List.getElem_cons_succ, List.getElem_cons_zero, Act.put, List.setIfInBounds_toArray, List.set_cons_zero, List.set_cons_succ]
          refine wpAnyH_take (i := 1) (oi := _) (v := ?_) rfl (by kernel_rfl) (by kernel_rfl) (by kernel_rfl) (fun _ _ _ h => h) (Or.inl ⟨by rfl, ?_⟩) (by assumption) ?_
          rotate_left
          · intro w hSw
            (try dsimp only at hSw)
            first | (go_simp; done) | (go_simp; with_reducible rfl)
          try simp only [List.getElem_toArray, List.getElem_cons_succ, List.getElem_cons_zero, Act.put, List.setIfInBounds_toArray, List.set_cons_zero, List.set_cons_succ]
          refine wpAnyH_take (i := 2) (oi := _) (v := ?_) rfl (by kernel_rfl) (by kernel_rfl) (by kernel_rfl) (fun _ _ _ h => h) (Or.inl ⟨by rfl, ?_⟩) (by assumption) ?_
          rotate_left
          · intro w hSw
            (try dsimp only at hSw)
            first | (go_simp; done) | (go_simp; with_reducible rfl)
          try simp only [List.getElem_toArray, List.getElem_cons_succ, List.getElem_cons_zero, Act.put, List.setIfInBounds_toArray, List.set_cons_zero, List.set_cons_succ]
          refine wpAnyH_take (i := 3) (oi := _) (v := ?_) rfl (by kernel_rfl) (by kernel_rfl) (by kernel_rfl) (fun _ _ _ h => h) (Or.inl ⟨by rfl, ?_⟩) (by assumption) ?_
          rotate_left
          · intro w hSw
            (try dsimp only at hSw)
            first | (go_simp; done) | (go_simp; with_reducible rfl)
          try simp only [List.getElem_toArray, List.getElem_cons_succ, List.getElem_cons_zero, Act.put, List.setIfInBounds_toArray, List.set_cons_zero, List.set_cons_succ]
          refine wpAnyH_take (i := 4) (oi := _) (v := ?_) rfl (by kernel_rfl) (by kernel_rfl) (by kernel_rfl) (fun _ _ _ h => h) (Or.inl ⟨by rfl, ?_⟩) (by assumption) ?_
          rotate_left
          · intro w hSw
            (try dsimp only at hSw)
            first | (go_simp; done) | (go_simp; with_reducible rfl)
          try simp only [List.getElem_toArray, List.getElem_cons_succ, List.getElem_cons_zero, Act.put, List.setIfInBounds_toArray, List.set_cons_zero, List.set_cons_succ]
          refine wpAnyH_ready (rs := [5]) (by kernel_rfl) (by simp) ?_
          refine AllReadyH.cons (o := _) rfl (fun K hK => ?_) AllReadyH.nil
          refine wp_load_row 25 _ rfl ib rfl 25 (inoC ((y.setBs B').setS l)) (0, 0) _ HRow.out Tryz.underlying25 rfl (by rw [HSs.out]; exact Tryz.sizeIno) ?_
          try dsimp only
          refine hK.out _ _ hs0 (fun hHeld => ?_)
          clear hK K
          try simp only [List.getElem_toArray, List.getElem_cons_succ, List.getElem_cons_zero, Act.put, List.setIfInBounds_toArray, List.set_cons_zero, List.set_cons_succ]
          refine wpAnyH_ready (rs := [6]) (by kernel_rfl) (by simp) ?_
          refine AllReadyH.cons (o := _) rfl (fun K hK => ?_) AllReadyH.nil
          go_simp
          refine HSi.out.mono ?_
          rintro e w8 ⟨rfl, ht8⟩
          have HL8 := Lib.hid (HNx.out _ _ _ ht8)
          have hs8 := HS1.out _ _ _ _ HL8.out
          clear ht8
          dsimp only
          refine hK.out _ _ hs8 (fun hHeld => ?_)
          clear hK K
          try simp only [List.getElem_toArray, List.getElem_cons_succ, List.getElem_cons_zero, Act.put, List.setIfInBounds_toArray, List.set_cons_zero, List.set_cons_succ]
          refine wpAnyH_take (i := 7) (oi := _) (v := ?_) rfl (by kernel_rfl) (by kernel_rfl) (by kernel_rfl) (fun _ _ _ h => h) (Or.inl ⟨by rfl, ?_⟩) (by assumption) ?_
          rotate_left
          · intro w hSw
            (try dsimp only at hSw)
            first | (go_simp; done) | (go_simp; with_reducible rfl)
          try simp only [List.getElem_toArray, List.getElem_cons_succ, List.getElem_cons_zero, Act.put, List.setIfInBounds_toArray, List.set_cons_zero, List.set_cons_succ]
          refine wpAnyH_done (by kernel_rfl) ?_ _
          (try simp only [Exit.then])
          clear hs0 hs8
          go_wp2
          go_ret
          rw [HRe.out]
          exact ⟨rfl, by
            obtain ⟨F9, h9⟩ := HL8.out.turns
            exact ⟨F9, h9.mono fun h => h.more (by omega) (Nat.le_refl K)⟩⟩
        · rw [if_neg hn0] at hRk
          have HRe := Lib.hid hRk
          have HT2 : Hid (Tl x t S M' (c + 3 * k) K F w wr.drew [(ib, .cells (inoC (y.setBs B')) 25 (0, 0))]) := Lib.hid (HT.out.below ((Below.refl _ _).drew))
          have hml : M'.map.length = 16 := by
            obtain ⟨Fr, hrs, hrl⟩ := HT.out
            obtain ⟨P, h3, h4⟩ := hrs.inv
            exact h4.mapl
          have HMp : Hid (Calls Tryz.prog 14 #[.pointer (some ⟨x, 0, none⟩)] wr.drew fun e w' => e = .returned (mapV M'.map) ∧ Below wr.drew.heap.size wr.drew w') := Lib.hid (by
            obtain ⟨Fr, hrs, hrl⟩ := HT2.out
            exact map_any wr.drew hrs.inv)
          have HGv := Lib.hid fun W => give_any M'.map hml n W
          obtain ⟨m2, hm2⟩ : ∃ m2, m2 = Gd.giveI M'.map n := ⟨_, rfl⟩
          rw [← hm2] at HGv HRe
          have hm2l : m2.length = 16 := by
            rw [hm2]
            unfold Gd.giveI
            split
            · rw [Gd.give_length]; exact hml
            · exact hml
          have HSm : Hid (∀ W, Tl x t S M' (c + 3 * k) K F w W [(ib, .cells (inoC (y.setBs B')) 25 (0, 0))] → Calls Tryz.prog 13 #[.pointer (some ⟨x, 0, none⟩), mapV m2] W fun e w' => e = .returned (.int .i64 0) ∧ Tl x t S (M'.setMap m2) (c + 3 * k + 1) K F w w' [(ib, .cells (inoC (y.setBs B')) 25 (0, 0))]) := Lib.hid fun W hT => by
            obtain ⟨F2, h2s, h2l⟩ := hT
            refine (setmap_any m2 hm2l W h2s.inv (by have := HC.out; omega)).mono ?_
            rintro e w' ⟨he, ht⟩
            exact ⟨he, Tl.next h2s h2l ht⟩
          have HB5 : Hid ((B'.set k (0 : Int)).length = 4 ∧ ∀ n ∈ B'.set k (0 : Int), 0 ≤ n ∧ n ≤ 128) := Lib.hid ⟨by rw [List.length_set]; exact HB4.out.1, fun n hn => by
            rcases List.mem_or_eq_of_mem_set hn with h | rfl
            · exact HB4.out.2 n h
            · omega⟩
          have HKk := Lib.hid hlt
          have HIb : Hid (∀ W N d, Tl x t S N d K F w W [(ib, .cells (inoC (y.setBs B')) 25 (0, 0))] → W.cell? ⟨f, 1, none⟩ = some (.pointer (some ⟨x, 0, none⟩)) ∧ W.cell? ⟨ib, 3 + k, none⟩ = some (.int .i64 n)) := Lib.hid fun W N d h => ⟨(FilAt.cells (t := t) ((h.old (lt_get HFi.out.1) HFi.out.2).trans HFi.out.1)).2, (InoAt.cB (b := ib) (x := y.setBs B') ⟨h.get (k := ib) (by simp), ⟨HB4.out.1, HSh.out.2⟩⟩ hn).1⟩
          have hs0 := HIb.out _ _ _ HT2.out
          obtain ⟨mc, hmc⟩ : ∃ mc, mc = mapV M'.map := ⟨_, rfl⟩
          obtain ⟨mc2, hmc2⟩ : ∃ mc2, mc2 = mapV m2 := ⟨_, rfl⟩
          rw [← hmc] at HMp HGv
          rw [← hmc2] at HGv HSm
          clear hn hnr hgd hRk hlt hml hm2 hm2l hmc hmc2 b1
          go_upto_region 13 with fail
          clear b0
          refine wp_region_held_drew (S := (fun W => W.cell? ⟨f, 1, none⟩ = some (.pointer (some ⟨x, 0, none⟩)) ∧ W.cell? ⟨ib, 3 + k, none⟩ = some (.int .i64 n))) (by kernel_rfl) ?_ (fun hHeld => ?_)
          · exact hs0
          refine wpAnyH_take (i := 0) (oi := _) (v := ?_) rfl (by kernel_rfl) (by kernel_rfl) (by kernel_rfl) (fun _ _ _ h => h) (Or.inl ⟨by rfl, ?_⟩) (by assumption) ?_
          rotate_left
          · intro w hSw
            (try dsimp only at hSw)
            first | (go_simp; done) | (go_simp; with_reducible rfl)
          try simp only [List.getElem_toArray, List.getElem_cons_succ, List.getElem_cons_zero, Act.put, List.setIfInBounds_toArray, List.set_cons_zero, List.set_cons_succ]
          refine wpAnyH_take (i := 1) (oi := _) (v := ?_) rfl (by kernel_rfl) (by kernel_rfl) (by kernel_rfl) (fun _ _ _ h => h) (Or.inl ⟨by rfl, ?_⟩) (by assumption) ?_
          rotate_left
          · intro w hSw
            (try dsimp only at hSw)
            first | (go_simp; done) | (go_simp; with_reducible rfl)
          try simp only [List.getElem_toArray, List.getElem_cons_succ, List.getElem_cons_zero, Act.put, List.setIfInBounds_toArray, List.set_cons_zero, List.set_cons_succ]
          refine wpAnyH_take (i := 2) (oi := _) (v := ?_) rfl (by kernel_rfl) (by kernel_rfl) (by kernel_rfl) (fun _ _ _ h => h) (Or.inl ⟨by rfl, ?_⟩) (by assumption) ?_
          rotate_left
          · intro w hSw
            (try dsimp only at hSw)
            first | (go_simp; done) | (go_simp; with_reducible rfl)
          try simp only [List.getElem_toArray, List.getElem_cons_succ, List.getElem_cons_zero, Act.put, List.setIfInBounds_toArray, List.set_cons_zero, List.set_cons_succ]
          refine wpAnyH_take (i := 3) (oi := _) (v := ?_) rfl (by kernel_rfl) (by kernel_rfl) (by kernel_rfl) (fun _ _ _ h => h) (Or.inl ⟨by rfl, ?_⟩) (by assumption) ?_
          rotate_left
          · intro w hSw
            (try dsimp only at hSw)
            first | (go_simp; done) | (go_simp; with_reducible rfl)
          try simp only [List.getElem_toArray, List.getElem_cons_succ, List.getElem_cons_zero, Act.put, List.setIfInBounds_toArray, List.set_cons_zero, List.set_cons_succ]
          refine wpAnyH_take (i := 4) (oi := _) (v := ?_) rfl (by kernel_rfl) (by kernel_rfl) (by kernel_rfl) (fun _ _ _ h => h) (Or.inl ⟨by rfl, ?_⟩) (by assumption) ?_
          rotate_left
          · intro w hSw
            (try dsimp only at hSw)
            first | (go_simp; done) | (go_simp; with_reducible rfl)
          try simp only [List.getElem_toArray, List.getElem_cons_succ, List.getElem_cons_zero, Act.put, List.setIfInBounds_toArray, List.set_cons_zero, List.set_cons_succ]
          refine wpAnyH_take (i := 5) (oi := _) (v := ?_) rfl (by kernel_rfl) (by kernel_rfl) (by kernel_rfl) (fun _ _ _ h => h) (Or.inl ⟨by rfl, ?_⟩) (by assumption) ?_
          rotate_left
          · intro w hSw
            (try dsimp only at hSw)
            first | (go_simp; done) | (go_simp; with_reducible rfl)
          try simp only [List.getElem_toArray, List.getElem_cons_succ, List.getElem_cons_zero, Act.put, List.setIfInBounds_toArray, List.set_cons_zero, List.set_cons_succ]
          refine wpAnyH_take (i := 6) (oi := _) (v := ?_) rfl (by kernel_rfl) (by kernel_rfl) (by kernel_rfl) (fun _ _ _ h => h) (Or.inl ⟨by rfl, ?_⟩) (by assumption) ?_
          rotate_left
          · intro w hSw
            (try dsimp only at hSw)
            first | (go_simp; done) | (go_simp; with_reducible rfl)
          try simp only [List.getElem_toArray, List.getElem_cons_succ, List.getElem_cons_zero, Act.put, List.setIfInBounds_toArray, List.set_cons_zero, List.set_cons_succ]
          refine wpAnyH_take (i := 7) (oi := _) (v := ?_) rfl (by kernel_rfl) (by kernel_rfl) (by kernel_rfl) (fun _ _ _ h => h) (Or.inl ⟨by rfl, ?_⟩) (by assumption) ?_
          rotate_left
          · intro w hSw
            (try dsimp only at hSw)
            first | (go_simp; done) | (go_simp; with_reducible rfl)
          try simp only [List.getElem_toArray, List.getElem_cons_succ, List.getElem_cons_zero, Act.put, List.setIfInBounds_toArray, List.set_cons_zero, List.set_cons_succ]
          refine wpAnyH_take (i := 9) (oi := _) (v := ?_) rfl (by kernel_rfl) (by kernel_rfl) (by kernel_rfl) (fun _ _ _ h => h) (Or.inl ⟨by rfl, ?_⟩) (by assumption) ?_
          rotate_left
          · intro w hSw
            (try dsimp only at hSw)
            first | (go_simp; done) | (go_simp; with_reducible rfl)
          try simp only [List.getElem_toArray, List.getElem_cons_succ, List.getElem_cons_zero, Act.put, List.setIfInBounds_toArray, List.set_cons_zero, List.set_cons_succ]
          refine wpAnyH_take (i := 10) (oi := _) (v := ?_) rfl (by kernel_rfl) (by kernel_rfl) (by kernel_rfl) (fun _ _ _ h => h) (Or.inl ⟨by rfl, ?_⟩) (by assumption) ?_
          rotate_left
          · intro w hSw
            (try dsimp only at hSw)
            first | (go_simp; done) | (go_simp; with_reducible rfl)
          try simp only [List.getElem_toArray, List.getElem_cons_succ, List.getElem_cons_zero, Act.put, List.setIfInBounds_toArray, List.set_cons_zero, List.set_cons_succ]
          refine wpAnyH_take (i := 11) (oi := _) (v := ?_) rfl (by kernel_rfl) (by kernel_rfl) (by kernel_rfl) (fun _ _ _ h => h) (Or.inl ⟨by rfl, ?_⟩) (by assumption) ?_
          rotate_left
          · intro w hSw
            (try dsimp only at hSw)
            first | (go_simp; done) | (go_simp; with_reducible rfl)
          try simp only [List.getElem_toArray, List.getElem_cons_succ, List.getElem_cons_zero, Act.put, List.setIfInBounds_toArray, List.set_cons_zero, List.set_cons_succ]
          refine wpAnyH_take (i := 12) (oi := _) (v := ?_) rfl (by kernel_rfl) (by kernel_rfl) (by kernel_rfl) (fun _ _ _ h => h) (Or.inl ⟨by rfl, ?_⟩) (by assumption) ?_
          rotate_left
          · intro w hSw
            (try dsimp only at hSw)
            first | (go_simp; done) | (go_simp; with_reducible rfl)
          try simp only [List.getElem_toArray, List.getElem_cons_succ, List.getElem_cons_zero, Act.put, List.setIfInBounds_toArray, List.set_cons_zero, List.set_cons_succ]
          refine wpAnyH_ready (rs := [8]) (by kernel_rfl) (by simp) ?_
          refine AllReadyH.cons (o := _) rfl (fun K hK => ?_) AllReadyH.nil
          go_simp
          refine HMp.out.mono ?_
          rintro e w1 ⟨rfl, hb1⟩
          have HL1 := Lib.hid (HT2.out.below hb1)
          have hs1 := HIb.out _ _ _ HL1.out
          clear hb1
          dsimp only
          refine hK.out _ _ hs1 (fun hHeld => ?_)
          clear hK K
          try simp only [List.getElem_toArray, List.getElem_cons_succ, List.getElem_cons_zero, Act.put, List.setIfInBounds_toArray, List.set_cons_zero, List.set_cons_succ]
          refine wpAnyH_ready (rs := [13]) (by kernel_rfl) (by simp) ?_
          refine AllReadyH.cons (o := _) rfl (fun K hK => ?_) AllReadyH.nil
          go_simp
          refine (HGv.out w1).mono ?_
          rintro e w2 ⟨rfl, hb2⟩
          have HL2 := Lib.hid (HL1.out.below hb2)
          have hs2 := HIb.out _ _ _ HL2.out
          clear hb2
          dsimp only
          refine hK.out _ _ hs2 (fun hHeld => ?_)
          clear hK K
          try simp only [List.getElem_toArray, List.getElem_cons_succ, List.getElem_cons_zero, Act.put, List.setIfInBounds_toArray, List.set_cons_zero, List.set_cons_succ]
          refine wpAnyH_ready (rs := [14]) (by kernel_rfl) (by simp) ?_
          refine AllReadyH.cons (o := _) rfl (fun K hK => ?_) AllReadyH.nil
          go_simp
          refine (HSm.out w2 HL2.out).mono ?_
          rintro e w3 ⟨rfl, hl3⟩
          have HL3 := Lib.hid hl3
          have hs3 := HIb.out _ _ _ hl3
          clear hl3
          dsimp only
          refine hK.out _ _ hs3 (fun hHeld => ?_)
          clear hK K
          try simp only [List.getElem_toArray, List.getElem_cons_succ, List.getElem_cons_zero, Act.put, List.setIfInBounds_toArray, List.set_cons_zero, List.set_cons_succ]
          refine wpAnyH_take (i := 15) (oi := _) (v := ?_) rfl (by kernel_rfl) (by kernel_rfl) (by kernel_rfl) (fun _ _ _ h => h) (Or.inl ⟨by rfl, ?_⟩) (by assumption) ?_
          rotate_left
          · intro w hSw
            (try dsimp only at hSw)
            first | (go_simp; done) | (go_simp; with_reducible rfl)
          try simp only [List.getElem_toArray, List.getElem_cons_succ, List.getElem_cons_zero, Act.put, List.setIfInBounds_toArray, List.set_cons_zero, List.set_cons_succ]
          refine wpAnyH_done (by kernel_rfl) ?_ _
          (try simp only [Exit.then])
          clear hs0 hs1 hs2
          have b4 := hs3.2
          have f4 : w3.frozen? ⟨ib, 3 + k, none⟩ = false := frozen_of_row w3 ib (3 + k) _ _ (HL3.out.get (k := ib) (o := .cells (inoC (y.setBs B')) 25 (0, 0)) (by simp))
          have hl5 : Tl x t S (M'.setMap m2) (c + 3 * k + 1) K F w (w3.setCell ⟨ib, 3 + k, none⟩ (.int .i64 0)) [(ib, .cells (inoC (y.setBs (B'.set k (0 : Int)))) 25 (0, 0))] := by
            refine HL3.out.set (k := ib) (C := inoC (y.setBs B')) (ty := 25) (by simp) _ fun p hp => ?_
            rw [inoC_set (inoL_setBs HB4.out.1 HKk.out 0)]
            exact Or.inl (by simpa using hp)
          have HL5 := Lib.hid hl5
          clear hl5 hs3
          go_wp2_with fail
          go_roundw
          case rel => exact ⟨k + 1, _, B'.set k (0 : Int), by go_num, rfl, by omega, HRe, HB5, Lib.hid (by
            obtain ⟨F9, g9, g9l⟩ := HL5.out
            exact ⟨F9, g9.mono fun h => h.more (by omega) (Nat.le_refl K), g9l⟩)⟩
          case measure => simp [intOf]; omega
      · rw [if_neg hnk] at hRk
        have hkn : (k : Int) < need := by omega
        have hpl : (Gd.part64 all k).length = 64 := by unfold Gd.part64; rw [List.length_take, List.length_drop, HAl.out]; omega
        have hSl : ∀ W, (Instr.slice 9 (.string ab) (some (.int .i64 ((k : Int) * 64))) (some (.int .i64 (((k : Int) + 1) * 64))) none).run Tryz.prog W = .ok (.string ⟨(Gd.part64 all k).toArray⟩) W := fun W => sliceS (by rw [hasz]; omega) (by rw [HAb.out]) W
        have g1 : IntKind.i64.wrap ((k : Int) * 64) = (k : Int) * 64 := by rw [IntKind.wrap_i64]; omega
        have g2 : IntKind.i64.wrap ((k : Int) + 1) = (k : Int) + 1 := by rw [IntKind.wrap_i64]; omega
        have g3 : IntKind.i64.wrap (((k : Int) + 1) * 64) = ((k : Int) + 1) * 64 := by rw [IntKind.wrap_i64]; omega
        obtain ⟨pk, hpk⟩ : ∃ pk, pk = Gd.part64 all k := ⟨_, rfl⟩
        rw [← hpk] at hRk hpl hSl
        by_cases hn0 : n = 0
        · rw [if_pos hn0] at hRk
          have hfr := (HT.out.old (lt_get HFi.out.1) HFi.out.2).trans HFi.out.1
          have f1 := (FilAt.cells (t := t) hfr).2
          obtain ⟨Fr, hrs, hrl⟩ := HT.out
          subst hn0
          by_cases hsp : 128 - (Gd.countB M'.map : Int) ≤ max 0 spare
          · rw [if_pos hsp] at hRk
            have HRe := Lib.hid hRk
            have HBn := Lib.hid (block_none spare wr hrs.inv hsp)
            have HT4 : Hid (∀ w4, Below wr.heap.size wr w4 → Tl x t S M' (c + 3 * k) K F w w4 [(ib, .cells (inoC (y.setBs B')) 25 (0, 0))]) := Lib.hid fun w4 h => HT.out.below h
            clear hrs hrl hsp hRk hn hnr hgd hlt hnk hfr hpk b1
            go_upto_region 16 with fail
            clear b0
            go_wp2_with fail
            refine HBn.out.mono ?_
            rintro e w4 ⟨rfl, hb4⟩
            have HL4 := Lib.hid (HT4.out w4 hb4)
            clear hb4
            have hI4 : InoAt w4 ib (y.setBs B') := ⟨HL4.out.get (k := ib) (by simp), ⟨HB4.out.1, HSh.out.2⟩⟩
            have f4 := hI4.f (3 + k)
            have b4 : ∃ v, w4.cell? ⟨ib, 3 + k, none⟩ = some v := by
              obtain ⟨n, hn⟩ : ∃ n, B'[k]? = some n := ⟨_, List.getElem?_eq_getElem (by rw [HB4.out.1]; omega)⟩
              exact ⟨_, (hI4.cB (k := k) (n := n) hn).1⟩
            obtain ⟨v4, b4⟩ := b4
            have hl5 : Tl x t S M' (c + 3 * k) K F w (w4.setCell ⟨ib, 3 + k, none⟩ (.int .i64 0)) [] := HL4.out.set (k := ib) (C := inoC (y.setBs B')) (ty := 25) (by simp) _ (fun p hp => by simp at hp)
            have HL5 := Lib.hid hl5
            clear hI4 hl5
            go_wp2
            go_ret
            rw [HRe.out]
            refine ⟨rfl, M', ?_⟩
            obtain ⟨F9, h9⟩ := HL5.out.turns
            exact ⟨F9, h9.mono fun h => h.more (by omega) (Nat.le_refl K)⟩
          · rw [if_neg hsp] at hRk
            have HRe := Lib.hid hRk
            have hml : M'.map.length = 16 := by
              obtain ⟨P, h3, h4⟩ := hrs.inv
              exact h4.mapl
            have hfs := Gd.first_some hml (by omega)
            have HBn := Lib.hid (block_ok spare wr hrs.inv (by omega) (by have := HC.out; omega))
            obtain ⟨q, hq⟩ : ∃ q, q = Gd.firstB M'.map := ⟨_, rfl⟩
            rw [← hq] at HBn HRe hfs
            obtain ⟨M2, hM2⟩ : ∃ M2, M2 = M'.take := ⟨_, rfl⟩
            rw [← hM2] at HBn HRe
            have HNx := Lib.hid fun b N d (h : Turns x t S N d K Fr wr b) => Tl.next hrs hrl h
            have HB5 : Hid ((B'.set k (q : Int)).length = 4 ∧ ∀ n ∈ B'.set k (q : Int), 0 ≤ n ∧ n ≤ 128) := Lib.hid ⟨by rw [List.length_set]; exact HB4.out.1, fun n hn => by
              rcases List.mem_or_eq_of_mem_set hn with h | rfl
              · exact HB4.out.2 n h
              · omega⟩
            have HKk := Lib.hid (And.intro hlt (And.intro hfs.1 hfs.2.1))
            have hBq : (B'.set k (q : Int))[k]? = some (q : Int) := by rw [List.getElem?_set_self (by rw [HB4.out.1]; exact hlt)]
            have hq0 : ¬ (q : Int) = 0 := by omega
            have HPc : Hid (∀ W d, Tl x t S M2 d K F w W [(ib, .cells (inoC (y.setBs (B'.set k (q : Int)))) 25 (0, 0))] → d < 64 → Calls Tryz.prog 54 #[.pointer (some ⟨f, 0, none⟩), .int .i64 q, .string ⟨pk.toArray⟩] W fun e w' => e = .returned (.int .i64 0) ∧ Tl x t S (M2.setBlk q pk) (d + 1) K F w w' [(ib, .cells (inoC (y.setBs (B'.set k (q : Int)))) 25 (0, 0))]) := Lib.hid fun W d hT hd => by
              have hf2 : FilAt W f t x := (hT.old (lt_get HFi.out.1) HFi.out.2).trans HFi.out.1
              obtain ⟨F2, h2s, h2l⟩ := hT
              have hfn : ¬ F2 f := fun e => HFi.out.2 (h2s.old f (lt_get HFi.out.1) e)
              refine (fput_any q pk W h2s.inv hf2 hfn HKk.out.2.1 HKk.out.2.2 hpl hd).mono ?_
              rintro e w' ⟨he, ht⟩
              exact ⟨he, Tl.next h2s h2l ht⟩
            have HIb : Hid (∀ W N d, Tl x t S N d K F w W [(ib, .cells (inoC (y.setBs (B'.set k (q : Int)))) 25 (0, 0))] → W.cell? ⟨ib, 3 + k, none⟩ = some (.int .i64 q)) := Lib.hid fun W N d h => (InoAt.cB (b := ib) (x := y.setBs (B'.set k (q : Int))) ⟨h.get (k := ib) (by simp), ⟨HB5.out.1, HSh.out.2⟩⟩ hBq).1
            clear hrs hrl hsp hRk hn hnr hgd hlt hnk hfr hpk b1 hml hfs hq hM2 hBq
            go_upto_region 16 with fail
            clear b0
            go_wp2_with fail
            refine HBn.out.mono ?_
            rintro e w4 ⟨rfl, ht4⟩
            have HL4 := Lib.hid (HNx.out _ _ _ ht4)
            clear ht4 HNx HBn
            have hI4 : InoAt w4 ib (y.setBs B') := ⟨HL4.out.get (k := ib) (by simp), ⟨HB4.out.1, HSh.out.2⟩⟩
            have f4 := hI4.f (3 + k)
            have b4 : ∃ v, w4.cell? ⟨ib, 3 + k, none⟩ = some v := by
              obtain ⟨n, hn⟩ : ∃ n, B'[k]? = some n := ⟨_, List.getElem?_eq_getElem (by rw [HB4.out.1]; exact HKk.out.1)⟩
              exact ⟨_, (hI4.cB (k := k) (n := n) hn).1⟩
            obtain ⟨v4, b4⟩ := b4
            have hl5 : Tl x t S M2 (c + 3 * k + 2) K F w (w4.setCell ⟨ib, 3 + k, none⟩ (.int .i64 q)) [(ib, .cells (inoC (y.setBs (B'.set k (q : Int)))) 25 (0, 0))] := by
              refine HL4.out.set (k := ib) (C := inoC (y.setBs B')) (ty := 25) (by simp) _ fun p hp => ?_
              rw [inoC_set (inoL_setBs HB4.out.1 HKk.out.1 q)]
              exact Or.inl (by simpa using hp)
            obtain ⟨w5, hw5⟩ : ∃ u, u = w4.setCell ⟨ib, 3 + k, none⟩ (.int .i64 q) := ⟨_, rfl⟩
            rw [← hw5] at hl5
            have HW5 := Lib.hid hw5.symm
            have hl6 := hl5.below ((Below.refl _ _).drew)
            have HPk := Lib.hid (HPc.out w5.drew _ hl6 (by have := HC.out; omega))
            have hs0 := HIb.out _ _ _ hl6
            have c5 := HIb.out _ _ _ hl5
            have f5 : w5.frozen? ⟨ib, 3 + k, none⟩ = false := frozen_of_row w5 ib (3 + k) _ _ (hl5.get (k := ib) (o := .cells (inoC (y.setBs (B'.set k (q : Int)))) 25 (0, 0)) (by simp))
            clear hI4 hl5 hl6 hw5
            go_upto_region 17 with fail
            rw [HW5.out]
            clear b4 f4
            go_upto_region 20 with fail
            refine wp_region_held_drew (S := (fun W => W.cell? ⟨ib, 3 + k, none⟩ = some (.int .i64 q))) (by kernel_rfl) ?_ (fun hHeld => ?_)
            · exact hs0
            refine wpAnyH_take (i := 0) (oi := _) (v := ?_) rfl (by kernel_rfl) (by kernel_rfl) (by kernel_rfl) (fun _ _ _ h => h) (Or.inl ⟨by rfl, ?_⟩) (by assumption) ?_
            rotate_left
            · intro w hSw
              (try dsimp only at hSw)
              first | (go_simp; done) | (go_simp; with_reducible rfl)
            try simp only [List.getElem_toArray, List.getElem_cons_succ, List.getElem_cons_zero, Act.put, List.setIfInBounds_toArray, List.set_cons_zero, List.set_cons_succ]
            refine wpAnyH_take (i := 1) (oi := _) (v := ?_) rfl (by kernel_rfl) (by kernel_rfl) (by kernel_rfl) (fun _ _ _ h => h) (Or.inl ⟨by rfl, ?_⟩) (by assumption) ?_
            rotate_left
            · intro w hSw
              (try dsimp only at hSw)
              first | (go_simp; done) | (go_simp; with_reducible rfl)
            try simp only [List.getElem_toArray, List.getElem_cons_succ, List.getElem_cons_zero, Act.put, List.setIfInBounds_toArray, List.set_cons_zero, List.set_cons_succ]
            refine wpAnyH_take (i := 2) (oi := _) (v := ?_) rfl (by kernel_rfl) (by kernel_rfl) (by kernel_rfl) (fun _ _ _ h => h) (Or.inl ⟨by rfl, ?_⟩) (by assumption) ?_
            rotate_left
            · intro w hSw
              (try dsimp only at hSw)
              first | (go_simp; done) | (go_simp; with_reducible rfl)
            try simp only [List.getElem_toArray, List.getElem_cons_succ, List.getElem_cons_zero, Act.put, List.setIfInBounds_toArray, List.set_cons_zero, List.set_cons_succ]
            refine wpAnyH_take (i := 3) (oi := _) (v := ?_) rfl (by kernel_rfl) (by kernel_rfl) (by kernel_rfl) (fun _ _ _ h => h) (Or.inl ⟨by rfl, ?_⟩) (by assumption) ?_
            rotate_left
            · intro w hSw
              (try dsimp only at hSw)
              first | (go_simp; done) | (go_simp; with_reducible rfl)
            try simp only [List.getElem_toArray, List.getElem_cons_succ, List.getElem_cons_zero, Act.put, List.setIfInBounds_toArray, List.set_cons_zero, List.set_cons_succ]
            refine wpAnyH_take (i := 4) (oi := _) (v := ?_) rfl (by kernel_rfl) (by kernel_rfl) (by kernel_rfl) (fun _ _ _ h => h) (Or.inl ⟨by rfl, ?_⟩) (by assumption) ?_
            rotate_left
            · intro w hSw
              (try dsimp only at hSw)
              first | (go_simp; done) | (go_simp; with_reducible rfl)
            try simp only [List.getElem_toArray, List.getElem_cons_succ, List.getElem_cons_zero, Act.put, List.setIfInBounds_toArray, List.set_cons_zero, List.set_cons_succ]
            refine wpAnyH_take (i := 5) (oi := _) (v := ?_) rfl (by kernel_rfl) (by kernel_rfl) (by kernel_rfl) (fun _ _ _ h => h) (Or.inl ⟨by rfl, ?_⟩) (by assumption) ?_
            rotate_left
            · intro w hSw
              (try dsimp only at hSw)
              first | (go_simp; done) | (go_simp; with_reducible rfl)
            try simp only [List.getElem_toArray, List.getElem_cons_succ, List.getElem_cons_zero, Act.put, List.setIfInBounds_toArray, List.set_cons_zero, List.set_cons_succ]
            refine wpAnyH_take (i := 6) (oi := _) (v := ?_) rfl (by kernel_rfl) (by kernel_rfl) (by kernel_rfl) (fun _ _ _ h => h) (Or.inl ⟨by rfl, ?_⟩) (by assumption) ?_
            rotate_left
            · intro w hSw
              (try dsimp only at hSw)
              first | (go_simp; done) | (go_simp; with_reducible rfl)
            try simp only [List.getElem_toArray, List.getElem_cons_succ, List.getElem_cons_zero, Act.put, List.setIfInBounds_toArray, List.set_cons_zero, List.set_cons_succ]
            refine wpAnyH_take (i := 7) (oi := _) (v := ?_) rfl (by kernel_rfl) (by kernel_rfl) (by kernel_rfl) (fun _ _ _ h => h) (Or.inl ⟨by rfl, ?_⟩) (by assumption) ?_
            rotate_left
            · intro w hSw
              (try dsimp only at hSw)
              first | (go_simp; done) | (go_simp; with_reducible rfl)
            try simp only [List.getElem_toArray, List.getElem_cons_succ, List.getElem_cons_zero, Act.put, List.setIfInBounds_toArray, List.set_cons_zero, List.set_cons_succ]
            refine wpAnyH_take (i := 8) (oi := _) (v := ?_) rfl (by kernel_rfl) (by kernel_rfl) (by kernel_rfl) (fun _ _ _ h => h) (Or.inl ⟨by rfl, ?_⟩) (by assumption) ?_
            rotate_left
            · intro w hSw
              (try dsimp only at hSw)
              first | (go_simp; done) | (go_simp; with_reducible rfl)
            try simp only [List.getElem_toArray, List.getElem_cons_succ, List.getElem_cons_zero, Act.put, List.setIfInBounds_toArray, List.set_cons_zero, List.set_cons_succ]
            refine wpAnyH_take (i := 9) (oi := _) (v := ?_) rfl (by kernel_rfl) (by kernel_rfl) (by kernel_rfl) (fun _ _ _ h => h) (Or.inl ⟨by rfl, ?_⟩) (by assumption) ?_
            rotate_left
            · intro w hSw
              (try dsimp only at hSw)
              first | (go_simp; done) | (go_simp; with_reducible rfl)
            try simp only [List.getElem_toArray, List.getElem_cons_succ, List.getElem_cons_zero, Act.put, List.setIfInBounds_toArray, List.set_cons_zero, List.set_cons_succ]
            refine wpAnyH_take (i := 10) (oi := _) (v := ?_) rfl (by kernel_rfl) (by kernel_rfl) (by kernel_rfl) (fun _ _ _ h => h) (Or.inl ⟨by rfl, ?_⟩) (by assumption) ?_
            rotate_left
            · intro w hSw
              (try dsimp only at hSw)
              first | (go_simp; done) | (go_simp; with_reducible rfl)
            try simp only [List.getElem_toArray, List.getElem_cons_succ, List.getElem_cons_zero, Act.put, List.setIfInBounds_toArray, List.set_cons_zero, List.set_cons_succ]
            refine wpAnyH_take (i := 11) (oi := _) (v := ?_) rfl (by kernel_rfl) (by kernel_rfl) (by kernel_rfl) (fun _ _ _ h => h) (Or.inl ⟨by rfl, ?_⟩) (by assumption) ?_
            rotate_left
            · intro w hSw
              (try dsimp only at hSw)
              first | (go_simp; done) | (go_simp; with_reducible rfl)
            try simp only [List.getElem_toArray, List.getElem_cons_succ, List.getElem_cons_zero, Act.put, List.setIfInBounds_toArray, List.set_cons_zero, List.set_cons_succ]
            refine wpAnyH_ready (rs := [12]) (by kernel_rfl) (by simp) ?_
            refine AllReadyH.cons (o := _) rfl (fun K hK => ?_) AllReadyH.nil
            go_simp
            refine HPk.out.mono ?_
            rintro e w6 ⟨rfl, hl6⟩
            have HL6 := Lib.hid hl6
            have hs6 := HIb.out _ _ _ hl6
            clear hl6
            dsimp only
            refine hK.out _ _ hs6 (fun hHeld => ?_)
            clear hK K
            try simp only [List.getElem_toArray, List.getElem_cons_succ, List.getElem_cons_zero, Act.put, List.setIfInBounds_toArray, List.set_cons_zero, List.set_cons_succ]
            refine wpAnyH_take (i := 13) (oi := _) (v := ?_) rfl (by kernel_rfl) (by kernel_rfl) (by kernel_rfl) (fun _ _ _ h => h) (Or.inl ⟨by rfl, ?_⟩) (by assumption) ?_
            rotate_left
            · intro w hSw
              (try dsimp only at hSw)
              first | (go_simp; done) | (go_simp; with_reducible rfl)
            try simp only [List.getElem_toArray, List.getElem_cons_succ, List.getElem_cons_zero, Act.put, List.setIfInBounds_toArray, List.set_cons_zero, List.set_cons_succ]
            refine wpAnyH_done (by kernel_rfl) ?_ _
            (try simp only [Exit.then])
            clear hs0 hs6 c5 f5
            go_wp2
            go_roundw
            case rel => exact ⟨k + 1, _, B'.set k (q : Int), by go_num, rfl, by omega, HRe, HB5, Lib.hid (by
              obtain ⟨F9, g9, g9l⟩ := HL6.out
              exact ⟨F9, g9.mono fun h => h.more (by omega) (Nat.le_refl K), g9l⟩)⟩
            case measure => simp [intOf]; omega
        · rw [if_neg hn0] at hRk
          obtain ⟨q, rfl⟩ : ∃ q : Nat, n = q := ⟨n.toNat, by omega⟩
          rw [Int.toNat_natCast] at hRk
          have HRe := Lib.hid hRk
          have hq0 : ¬ (q : Int) = 0 := hn0
          have HT2 : Hid (Tl x t S M' (c + 3 * k) K F w wr.drew [(ib, .cells (inoC (y.setBs B')) 25 (0, 0))]) := Lib.hid (HT.out.below ((Below.refl _ _).drew))
          obtain ⟨F2, h2s, h2l⟩ := HT2.out
          have hf2 : FilAt wr.drew f t x := (HT2.out.old (lt_get HFi.out.1) HFi.out.2).trans HFi.out.1
          have hfn : ¬ F2 f := fun e => HFi.out.2 (h2s.old f (lt_get HFi.out.1) e)
          have HPc := Lib.hid (fput_any q pk wr.drew h2s.inv hf2 hfn (by omega) (by omega) hpl (by have := HC.out; omega))
          have HNx := Lib.hid fun b N d (h : Turns x t S N d K F2 wr.drew b) => Tl.next h2s h2l h
          have HIb : Hid (∀ W N d, Tl x t S N d K F w W [(ib, .cells (inoC (y.setBs B')) 25 (0, 0))] → W.cell? ⟨ib, 3 + k, none⟩ = some (.int .i64 q)) := Lib.hid fun W N d h => (InoAt.cB (b := ib) (x := y.setBs B') ⟨h.get (k := ib) (by simp), ⟨HB4.out.1, HSh.out.2⟩⟩ hn).1
          have hs0 := HIb.out _ _ _ HT2.out
          clear h2s h2l hf2 hfn hn hnr hgd hRk hlt hnk hn0 hpk b1
          go_upto_region 20 with fail
          refine wp_region_held_drew (S := (fun W => W.cell? ⟨ib, 3 + k, none⟩ = some (.int .i64 q))) (by kernel_rfl) ?_ (fun hHeld => ?_)
          · exact hs0
          refine wpAnyH_take (i := 0) (oi := _) (v := ?_) rfl (by kernel_rfl) (by kernel_rfl) (by kernel_rfl) (fun _ _ _ h => h) (Or.inl ⟨by rfl, ?_⟩) (by assumption) ?_
          rotate_left
          · intro w hSw
            (try dsimp only at hSw)
            first | (go_simp; done) | (go_simp; with_reducible rfl)
          try simp only [List.getElem_toArray, List.getElem_cons_succ, List.getElem_cons_zero, Act.put, List.setIfInBounds_toArray, List.set_cons_zero, List.set_cons_succ]
          refine wpAnyH_take (i := 1) (oi := _) (v := ?_) rfl (by kernel_rfl) (by kernel_rfl) (by kernel_rfl) (fun _ _ _ h => h) (Or.inl ⟨by rfl, ?_⟩) (by assumption) ?_
          rotate_left
          · intro w hSw
            (try dsimp only at hSw)
            first | (go_simp; done) | (go_simp; with_reducible rfl)
          try simp only [List.getElem_toArray, List.getElem_cons_succ, List.getElem_cons_zero, Act.put, List.setIfInBounds_toArray, List.set_cons_zero, List.set_cons_succ]
          refine wpAnyH_take (i := 2) (oi := _) (v := ?_) rfl (by kernel_rfl) (by kernel_rfl) (by kernel_rfl) (fun _ _ _ h => h) (Or.inl ⟨by rfl, ?_⟩) (by assumption) ?_
          rotate_left
          · intro w hSw
            (try dsimp only at hSw)
            first | (go_simp; done) | (go_simp; with_reducible rfl)
          try simp only [List.getElem_toArray, List.getElem_cons_succ, List.getElem_cons_zero, Act.put, List.setIfInBounds_toArray, List.set_cons_zero, List.set_cons_succ]
          refine wpAnyH_take (i := 3) (oi := _) (v := ?_) rfl (by kernel_rfl) (by kernel_rfl) (by kernel_rfl) (fun _ _ _ h => h) (Or.inl ⟨by rfl, ?_⟩) (by assumption) ?_
          rotate_left
          · intro w hSw
            (try dsimp only at hSw)
            first | (go_simp; done) | (go_simp; with_reducible rfl)
          try simp only [List.getElem_toArray, List.getElem_cons_succ, List.getElem_cons_zero, Act.put, List.setIfInBounds_toArray, List.set_cons_zero, List.set_cons_succ]
          refine wpAnyH_take (i := 4) (oi := _) (v := ?_) rfl (by kernel_rfl) (by kernel_rfl) (by kernel_rfl) (fun _ _ _ h => h) (Or.inl ⟨by rfl, ?_⟩) (by assumption) ?_
          rotate_left
          · intro w hSw
            (try dsimp only at hSw)
            first | (go_simp; done) | (go_simp; with_reducible rfl)
          try simp only [List.getElem_toArray, List.getElem_cons_succ, List.getElem_cons_zero, Act.put, List.setIfInBounds_toArray, List.set_cons_zero, List.set_cons_succ]
          refine wpAnyH_take (i := 5) (oi := _) (v := ?_) rfl (by kernel_rfl) (by kernel_rfl) (by kernel_rfl) (fun _ _ _ h => h) (Or.inl ⟨by rfl, ?_⟩) (by assumption) ?_
          rotate_left
          · intro w hSw
            (try dsimp only at hSw)
            first | (go_simp; done) | (go_simp; with_reducible rfl)
          try simp only [List.getElem_toArray, List.getElem_cons_succ, List.getElem_cons_zero, Act.put, List.setIfInBounds_toArray, List.set_cons_zero, List.set_cons_succ]
          refine wpAnyH_take (i := 6) (oi := _) (v := ?_) rfl (by kernel_rfl) (by kernel_rfl) (by kernel_rfl) (fun _ _ _ h => h) (Or.inl ⟨by rfl, ?_⟩) (by assumption) ?_
          rotate_left
          · intro w hSw
            (try dsimp only at hSw)
            first | (go_simp; done) | (go_simp; with_reducible rfl)
          try simp only [List.getElem_toArray, List.getElem_cons_succ, List.getElem_cons_zero, Act.put, List.setIfInBounds_toArray, List.set_cons_zero, List.set_cons_succ]
          refine wpAnyH_take (i := 7) (oi := _) (v := ?_) rfl (by kernel_rfl) (by kernel_rfl) (by kernel_rfl) (fun _ _ _ h => h) (Or.inl ⟨by rfl, ?_⟩) (by assumption) ?_
          rotate_left
          · intro w hSw
            (try dsimp only at hSw)
            first | (go_simp; done) | (go_simp; with_reducible rfl)
          try simp only [List.getElem_toArray, List.getElem_cons_succ, List.getElem_cons_zero, Act.put, List.setIfInBounds_toArray, List.set_cons_zero, List.set_cons_succ]
          refine wpAnyH_take (i := 8) (oi := _) (v := ?_) rfl (by kernel_rfl) (by kernel_rfl) (by kernel_rfl) (fun _ _ _ h => h) (Or.inl ⟨by rfl, ?_⟩) (by assumption) ?_
          rotate_left
          · intro w hSw
            (try dsimp only at hSw)
            first | (go_simp; done) | (go_simp; with_reducible rfl)
          try simp only [List.getElem_toArray, List.getElem_cons_succ, List.getElem_cons_zero, Act.put, List.setIfInBounds_toArray, List.set_cons_zero, List.set_cons_succ]
          refine wpAnyH_take (i := 9) (oi := _) (v := ?_) rfl (by kernel_rfl) (by kernel_rfl) (by kernel_rfl) (fun _ _ _ h => h) (Or.inl ⟨by rfl, ?_⟩) (by assumption) ?_
          rotate_left
          · intro w hSw
            (try dsimp only at hSw)
            first | (go_simp; done) | (go_simp; with_reducible rfl)
          try simp only [List.getElem_toArray, List.getElem_cons_succ, List.getElem_cons_zero, Act.put, List.setIfInBounds_toArray, List.set_cons_zero, List.set_cons_succ]
          refine wpAnyH_take (i := 10) (oi := _) (v := ?_) rfl (by kernel_rfl) (by kernel_rfl) (by kernel_rfl) (fun _ _ _ h => h) (Or.inl ⟨by rfl, ?_⟩) (by assumption) ?_
          rotate_left
          · intro w hSw
            (try dsimp only at hSw)
            first | (go_simp; done) | (go_simp; with_reducible rfl)
          try simp only [List.getElem_toArray, List.getElem_cons_succ, List.getElem_cons_zero, Act.put, List.setIfInBounds_toArray, List.set_cons_zero, List.set_cons_succ]
          refine wpAnyH_take (i := 11) (oi := _) (v := ?_) rfl (by kernel_rfl) (by kernel_rfl) (by kernel_rfl) (fun _ _ _ h => h) (Or.inl ⟨by rfl, ?_⟩) (by assumption) ?_
          rotate_left
          · intro w hSw
            (try dsimp only at hSw)
            first | (go_simp; done) | (go_simp; with_reducible rfl)
          try simp only [List.getElem_toArray, List.getElem_cons_succ, List.getElem_cons_zero, Act.put, List.setIfInBounds_toArray, List.set_cons_zero, List.set_cons_succ]
          refine wpAnyH_ready (rs := [12]) (by kernel_rfl) (by simp) ?_
          refine AllReadyH.cons (o := _) rfl (fun K hK => ?_) AllReadyH.nil
          go_simp
          refine HPc.out.mono ?_
          rintro e w3 ⟨rfl, ht3⟩
          have HL4 := Lib.hid (HNx.out _ _ _ ht3)
          have hs3 := HIb.out _ _ _ HL4.out
          clear ht3
          dsimp only
          refine hK.out _ _ hs3 (fun hHeld => ?_)
          clear hK K
          try simp only [List.getElem_toArray, List.getElem_cons_succ, List.getElem_cons_zero, Act.put, List.setIfInBounds_toArray, List.set_cons_zero, List.set_cons_succ]
          refine wpAnyH_take (i := 13) (oi := _) (v := ?_) rfl (by kernel_rfl) (by kernel_rfl) (by kernel_rfl) (fun _ _ _ h => h) (Or.inl ⟨by rfl, ?_⟩) (by assumption) ?_
          rotate_left
          · intro w hSw
            (try dsimp only at hSw)
            first | (go_simp; done) | (go_simp; with_reducible rfl)
          try simp only [List.getElem_toArray, List.getElem_cons_succ, List.getElem_cons_zero, Act.put, List.setIfInBounds_toArray, List.set_cons_zero, List.set_cons_succ]
          refine wpAnyH_done (by kernel_rfl) ?_ _
          (try simp only [Exit.then])
          clear hs0 hs3
          go_wp2
          go_roundw
          case rel => exact ⟨k + 1, _, B', by go_num, rfl, by omega, HRe, HB4, Lib.hid (by
            obtain ⟨F9, g9, g9l⟩ := HL4.out
            exact ⟨F9, g9.mono fun h => h.more (by omega) (Nat.le_refl K), g9l⟩)⟩
          case measure => simp [intOf]; omega
    · obtain rfl : k = 4 := by omega
      have HRe : Hid (R = some (M', B')) := HRk
      have hk4 : (4 : Nat) = 4 := rfl
      obtain ⟨k, hkk⟩ : ∃ k : Nat, k = 4 := ⟨_, rfl⟩
      rw [← hkk] at HT
      clear hlt hk4
      go_upto_region 24 with fail
      have HI6 : Hid (InoAt wr ib (y.setBs B')) := Lib.hid ⟨HT.out.get (k := ib) (by simp), ⟨HB4.out.1, HSh.out.2⟩⟩
      have b2 := HI6.out.c2
      have f2 := HI6.out.f 2
      have HSz : Hid (((y.setBs B').setS l).Shape) := Lib.hid ⟨HB4.out.1, HSh.out.2⟩
      have HSs := Lib.hid (inoC_size HSz.out)
      have hl7 : Tl x t S M' (c + 3 * k) K F w (wr.setCell ⟨ib, 2, none⟩ (.int .i64 l)) [(ib, .cells (inoC ((y.setBs B').setS l)) 25 (0, 0))] := by
        refine HT.out.set (k := ib) (C := inoC (y.setBs B')) (ty := 25) (by simp) _ fun p hp => ?_
        rw [inoC_set (inoL_setS (y.setBs B') l)]
        exact Or.inl (by simpa using hp)
      obtain ⟨w7, hw7⟩ : ∃ u, u = wr.setCell ⟨ib, 2, none⟩ (.int .i64 l) := ⟨_, rfl⟩
      rw [← hw7] at hl7
      have HW7 := Lib.hid hw7.symm
      have HL7 : Hid (Tl x t S M' (c + 3 * k) K F w w7.drew [(ib, .cells (inoC ((y.setBs B').setS l)) 25 (0, 0))]) := Lib.hid (hl7.below ((Below.refl _ _).drew))
      obtain ⟨F7, h7s, h7l⟩ := HL7.out
      have hf7 : FilAt w7.drew f t x := (HL7.out.old (lt_get HFi.out.1) HFi.out.2).trans HFi.out.1
      have HSi := Lib.hid (setino_ok (i : Int) ((y.setBs B').setS l) HSz.out (HMy.out (M', B') HRe.out) w7.drew h7s.inv (by have := HI12.out; omega) (by have := HI12.out; omega) (by have := HC.out; omega))
      rw [Int.toNat_natCast] at HSi
      have HNx := Lib.hid fun b N d (h : Turns x t S N d K F7 w7.drew b) => Tl.next h7s h7l h
      have HRow := Lib.hid (HL7.out.get (k := ib) (o := .cells (inoC ((y.setBs B').setS l)) 25 (0, 0)) (by simp))
      have hs0 := hf7.cells.2
      have hs1 : ∀ W F8 N d, Tl x t S N d K F w W F8 → W.cell? ⟨f, 1, none⟩ = some (.pointer (some ⟨x, 0, none⟩)) := fun W F8 N d h => FilAt.cells (t := t) ((h.old (lt_get HFi.out.1) HFi.out.2).trans HFi.out.1) |>.2
      have HS1 := Lib.hid hs1
      clear hl7 hw7 h7s h7l hf7 hs1
      go_upto_region 25 with fail
      rw [HW7.out]
      unfold inoV at HSi
      refine wp_region_held_drew (S := (fun W => W.cell? ⟨f, 1, none⟩ = some (.pointer (some ⟨x, 0, none⟩)))) (by kernel_rfl) ?_ (fun hHeld => ?_)
      · exact hs0
      refine wpAnyH_take (i := 0) (oi := _) (v := ?_) rfl (by kernel_rfl) (by kernel_rfl) (by kernel_rfl) (fun _ _ _ h => h) (Or.inl ⟨by rfl, ?_⟩) (by assumption) ?_
      rotate_left
      · intro w hSw
        (try dsimp only at hSw)
        first | (go_simp; done) | (go_simp; with_reducible rfl)
      try simp only [List.getElem_toArray, List.getElem_cons_succ, List.getElem_cons_zero, Act.put, List.setIfInBounds_toArray, List.set_cons_zero, List.set_cons_succ]
      refine wpAnyH_take (i := 1) (oi := _) (v := ?_) rfl (by kernel_rfl) (by kernel_rfl) (by kernel_rfl) (fun _ _ _ h => h) (Or.inl ⟨by rfl, ?_⟩) (by assumption) ?_
      rotate_left
      · intro w hSw
        (try dsimp only at hSw)
        first | (go_simp; done) | (go_simp; with_reducible rfl)
      try simp only [List.getElem_toArray, List.getElem_cons_succ, List.getElem_cons_zero, Act.put, List.setIfInBounds_toArray, List.set_cons_zero, List.set_cons_succ]
      refine wpAnyH_take (i := 2) (oi := _) (v := ?_) rfl (by kernel_rfl) (by kernel_rfl) (by kernel_rfl) (fun _ _ _ h => h) (Or.inl ⟨by rfl, ?_⟩) (by assumption) ?_
      rotate_left
      · intro w hSw
        (try dsimp only at hSw)
        first | (go_simp; done) | (go_simp; with_reducible rfl)
      try simp only [List.getElem_toArray, List.getElem_cons_succ, List.getElem_cons_zero, Act.put, List.setIfInBounds_toArray, List.set_cons_zero, List.set_cons_succ]
      refine wpAnyH_take (i := 3) (oi := _) (v := ?_) rfl (by kernel_rfl) (by kernel_rfl) (by kernel_rfl) (fun _ _ _ h => h) (Or.inl ⟨by rfl, ?_⟩) (by assumption) ?_
      rotate_left
      · intro w hSw
        (try dsimp only at hSw)
        first | (go_simp; done) | (go_simp; with_reducible rfl)
      try simp only [List.getElem_toArray, List.getElem_cons_succ, List.getElem_cons_zero, Act.put, List.setIfInBounds_toArray, List.set_cons_zero, List.set_cons_succ]
      refine wpAnyH_take (i := 4) (oi := _) (v := ?_) rfl (by kernel_rfl) (by kernel_rfl) (by kernel_rfl) (fun _ _ _ h => h) (Or.inl ⟨by rfl, ?_⟩) (by assumption) ?_
      rotate_left
      · intro w hSw
        (try dsimp only at hSw)
        first | (go_simp; done) | (go_simp; with_reducible rfl)
      try simp only [List.getElem_toArray, List.getElem_cons_succ, List.getElem_cons_zero, Act.put, List.setIfInBounds_toArray, List.set_cons_zero, List.set_cons_succ]
      refine wpAnyH_ready (rs := [5]) (by kernel_rfl) (by simp) ?_
      refine AllReadyH.cons (o := _) rfl (fun K hK => ?_) AllReadyH.nil
      refine wp_load_row 25 _ rfl ib rfl 25 (inoC ((y.setBs B').setS l)) (0, 0) _ HRow.out Tryz.underlying25 rfl (by rw [HSs.out]; exact Tryz.sizeIno) ?_
      try dsimp only
      refine hK.out _ _ hs0 (fun hHeld => ?_)
      clear hK K
      try simp only [List.getElem_toArray, List.getElem_cons_succ, List.getElem_cons_zero, Act.put, List.setIfInBounds_toArray, List.set_cons_zero, List.set_cons_succ]
      refine wpAnyH_ready (rs := [6]) (by kernel_rfl) (by simp) ?_
      refine AllReadyH.cons (o := _) rfl (fun K hK => ?_) AllReadyH.nil
      go_simp
      refine HSi.out.mono ?_
      rintro e w8 ⟨rfl, ht8⟩
      have HL8 := Lib.hid (HNx.out _ _ _ ht8)
      have hs8 := HS1.out _ _ _ _ HL8.out
      clear ht8
      dsimp only
      refine hK.out _ _ hs8 (fun hHeld => ?_)
      clear hK K
      try simp only [List.getElem_toArray, List.getElem_cons_succ, List.getElem_cons_zero, Act.put, List.setIfInBounds_toArray, List.set_cons_zero, List.set_cons_succ]
      refine wpAnyH_take (i := 7) (oi := _) (v := ?_) rfl (by kernel_rfl) (by kernel_rfl) (by kernel_rfl) (fun _ _ _ h => h) (Or.inl ⟨by rfl, ?_⟩) (by assumption) ?_
      rotate_left
      · intro w hSw
        (try dsimp only at hSw)
        first | (go_simp; done) | (go_simp; with_reducible rfl)
      try simp only [List.getElem_toArray, List.getElem_cons_succ, List.getElem_cons_zero, Act.put, List.setIfInBounds_toArray, List.set_cons_zero, List.set_cons_succ]
      refine wpAnyH_done (by kernel_rfl) ?_ _
      (try simp only [Exit.then])
      clear hs0 hs8
      go_wp2
      go_ret
      rw [HRe.out]
      exact ⟨rfl, by
        obtain ⟨F9, h9⟩ := HL8.out.turns
        exact ⟨F9, h9.mono fun h => h.more (by omega) (Nat.le_refl K)⟩⟩

end Go.Proofs.YtginffdngphjpaaGreatDoor
