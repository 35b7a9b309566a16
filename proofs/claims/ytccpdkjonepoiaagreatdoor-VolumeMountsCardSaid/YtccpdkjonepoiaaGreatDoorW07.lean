/- Walk: plog.Append, behind no record. -/
import Derived.Test.YtccpdkjonepoiaaGreatDoorW06
import Derived.Test.YtccpdkjonepoiaaGreatDoorW00
import Derived.Test.YtccpdkjonepoiaaGreatDoorW01
import Derived.Test.YtccpdkjonepoiaaGreatDoorW05
import Derived.Lib.ConvBytes
set_option linter.unusedVariables false
set_option linter.unusedSimpArgs false
set_option linter.unusedSectionVars false
namespace Go.Proofs.YtccpdkjonepoiaaGreatDoor
open Go.RowKit Go.Shelf

attribute [local go_sem] Oper.semAt_some

theorem MemAt.toF {w : World} {m sb lb ab n K : Nat} {S : List UInt8} (h : MemAt w m sb lb ab n S K) : MemF m S K w (fun _ => True) := ⟨sb, lb, ab, n, h, trivial, trivial, trivial, trivial⟩
theorem MemAt.below {w w' : World} {m sb lb ab n K : Nat} {S : List UInt8} (h : MemAt w m sb lb ab n S K) (hb : Below w.heap.size w w') : MemAt w' m sb lb ab n S K := h.keep fun k hk => hb.block k (h.lts k hk)

set_option maxHeartbeats 8000000 in
set_option maxRecDepth 100000 in
theorem append_at {g m sb lb ab n K : Nat} {S : List UInt8} (v : Value) (P : List Gd.Pa) (w : World) (h : MemAt w m sb lb ab n S K) (hL : LogAt w g m 2688 4096) (hv : PasAt w v P) (hP : ∀ p ∈ P, Gd.PaMay p) (hn : P.length ≤ 64) (hS : S.length = 23168) (he : Gd.part S 2688 8 = Gd.le 0 8) (hfit : (Gd.recB P).length ≤ 4088) (hK : K < 800000000000) :
    Calls Tryz.prog 95 #[.pointer (some ⟨g, 0, none⟩), v] w fun e w' => e = .returned (.int .i64 0) ∧ MemAt w' m sb lb ab n (Gd.splice (Gd.splice S 2696 (Gd.recB P)) 2688 (Gd.le (Gd.recB P).length 8)) (K + 20000 + 20000) ∧ Only (Mem3 sb lb ab) w w' := by
  have HEn := Lib.hid (encode_any v P w hv hP hn)
  obtain ⟨R, hR⟩ : ∃ R, R = Gd.recB P := ⟨_, rfl⟩
  rw [← hR] at HEn hfit ⊢
  have HM := Lib.hid h
  have HL := Lib.hid hL
  have HNo := Lib.hid (hL.apart h)
  have HS := Lib.hid (And.intro hS he)
  have HK := Lib.hid hK
  have hr2 : R.length ≤ 4088 := hfit
  clear h hL hv hP hn hS he hfit hR hK
  go_enter Tryz.func95, Tryz.ntmps95
  go_wp2_with fail
  refine HEn.out.mono ?_
  rintro e w1 ⟨v1, rfl, ho1, hb1⟩
  have HO1 := Lib.hid ho1
  have HB1 := Lib.hid hb1
  have HM1 := Lib.hid (HM.out.below hb1)
  have HL1 : Hid (LogAt w1 g m 2688 4096) := Lib.hid ((hb1.block g (lt_get HL.out)).trans HL.out)
  clear ho1 hb1 HEn
  go_wp2_with fail
  refine (each_zero _ w1 HM1.out.toF HL1.out HS.out.1 HS.out.2).mono ?_
  rintro e w2 ⟨rfl, hb2⟩
  have HO2 := Lib.hid (HO1.out.keep hb2)
  have HB2 := Lib.hid (HB1.out.trans (hb2.mono HB1.out.size))
  have HM2 := Lib.hid (HM1.out.below hb2)
  have HL2 : Hid (LogAt w2 g m 2688 4096) := Lib.hid ((hb2.block g (lt_get HL1.out)).trans HL1.out)
  clear hb2 HM1 HL1
  have HKp := Lib.hid (lkeep_at 2696 v1 R w2 HM2.out HL2.out HO2.out.at_ (fun q hq => by
    have h1 := (own_block HO2.out q hq).1
    have h2 := HM.out.lts sb (by simp)
    have h3 := HM.out.lts ab (by simp)
    omega) (by have := HS.out.1; omega) (by omega) (by have := HK.out; omega))
  obtain ⟨A1, cap1, rfl, -⟩ := HO2.out.at_
  obtain ⟨r, hr⟩ : ∃ r, r = R.length := ⟨_, rfl⟩
  rw [← hr] at HKp hr2 HO2 HO1 ⊢
  have Hr := Lib.hid hr
  obtain ⟨c0, c1, c2⟩ := cell2 HL2.out
  clear hr
  go_wp2_with fail
  refine HKp.out.mono ?_
  rintro e w3 ⟨rfl, hM3, hO3⟩
  have hbd := (Below.refl w3.heap.size w3).drew
  have hL3 := HL2.out.keep hO3 (HL2.out.apart HM2.out)
  have hLd : LogAt w3.drew g m 2688 4096 := (hbd.block g (lt_get hL3)).trans hL3
  have hMd := hM3.below hbd
  have HO3 : Hid (Only (Mem3 sb lb ab) w w3.drew) := Lib.hid (((below_only HB2.out _).trans hO3 fun _ _ e => e).trans (below_only hbd _) fun _ _ e => e)
  have hS1 : (Gd.splice S 2696 R).length = 23168 := by rw [Gd.splice_length (by have := HS.out.1; have := Hr.out; omega)]; exact HS.out.1
  have HPt := Lib.hid (putn_any (.slice none 0 0) [] r 8 (Or.inr (Or.inr (Or.inr rfl))) (by omega) (by omega) w3.drew (OwnB.at_ (B := 0) (World.ownsRow_nil _ _ _ _)) (by simp))
  have HKq : Hid (∀ W u, OwnB W w3.drew.heap.size u ([] ++ Gd.le r 8) → Below w3.drew.heap.size w3.drew W → Calls Tryz.prog 90 #[.pointer (some ⟨g, 0, none⟩), .int .i64 2688, u] W fun e w' => e = .returned (.tuple #[]) ∧ MemAt w' m sb lb ab n (Gd.splice (Gd.splice S 2696 R) 2688 (Gd.le r 8)) (K + 20000 + 20000) ∧ Only (Mem3 sb lb ab) w w') := Lib.hid fun W u hu hb => by
    rw [List.nil_append] at hu
    refine (lkeep_at 2688 u (Gd.le r 8) W (hMd.below hb) ((hb.block g (lt_get hLd)).trans hLd) hu.at_ (fun q hq => ?_) (by rw [Gd.le_length, hS1]; omega) (by rw [Gd.le_length]; omega) (by have := HK.out; omega)).mono ?_
    · have h1 := (own_block hu q hq).1
      have h2 := hMd.lts sb (by simp)
      have h3 := hMd.lts ab (by simp)
      omega
    · rintro e w' ⟨e1, e2, e3⟩
      exact ⟨e1, e2, (HO3.out.trans (below_only hb _) fun _ _ e => e).trans e3 fun _ _ e => e⟩
  have HLd := Lib.hid hLd
  obtain ⟨d0, d1, d2⟩ := cell2 hLd
  clear hM3 hO3 hbd hL3 hLd hMd hS1 c0 c1 c2 HKp HM HL HO1 HB1 HM2 HL2 HO2 HB2
  have hw1 : IntKind.i64.wrap (r : Int) = r := by rw [IntKind.wrap_i64]; omega
  have hw2 : wrap64 (r : Int) = r := by unfold wrap64; omega
  have hr3 : (r : Int) ≤ 4088 := by omega
  go_wp2_with fail
  go_region_with (first | (go_at_call 90; refine (HKq.out w5 v5 HO5.out HB5.out).mono ?_; rintro e w6 ⟨rfl, hM6, hO6⟩; have H6 := Lib.hid (And.intro hM6 hO6); clear hM6 hO6) | (go_at_call 130; refine HPt.out.mono ?_; rintro e w5 ⟨v5, rfl, ho5, hb5⟩; have HO5 := Lib.hid ho5; have HB5 := Lib.hid hb5; obtain ⟨x0, x1, x2⟩ := cell2 ((hb5.block g (lt_get HLd.out)).trans HLd.out); clear ho5 hb5))
  all_goals
    try simp only [Exit.then]
    (first | (refine (by assumption : ∀ (a : Act) (w : World), _) _ _ ?_) | skip)
    go_wp2
    go_ret
    exact ⟨rfl, by rw [← Hr.out]; exact H6.out.1, H6.out.2⟩

end Go.Proofs.YtccpdkjonepoiaaGreatDoor

/- Walks: a new transaction, a new log. -/
namespace Go.Proofs.YtccpdkjonepoiaaGreatDoor
open Go.RowKit Go.Shelf

attribute [local go_sem] Oper.semAt_some

set_option maxHeartbeats 4000000 in
set_option maxRecDepth 100000 in
theorem tnew_any (m g : Nat) (w : World) : Calls Tryz.prog 87 #[.pointer (some ⟨m, 0, none⟩), .pointer (some ⟨g, 0, none⟩)] w fun e w' => e = .returned (.pointer (some ⟨w.heap.size, 0, none⟩)) ∧ w' = w.alloc (.cells #[.pointer (some ⟨m, 0, none⟩), .pointer (some ⟨g, 0, none⟩), .slice none 0 0] 133) := by
  go_enter Tryz.func87, Tryz.ntmps87
  go_wp2
  go_ret
  exact ⟨rfl, rfl⟩

set_option maxHeartbeats 4000000 in
set_option maxRecDepth 100000 in
theorem lnew_any {m sb lb ab n K : Nat} {S : List UInt8} (w : World) (h : MemAt w m sb lb ab n S K) (hS : S.length = 23168) : Calls Tryz.prog 84 #[.pointer (some ⟨m, 0, none⟩), .int .i64 2688, .int .i64 4096] w fun e w' => e = .returned (.pointer (some ⟨w.heap.size, 0, none⟩)) ∧ w' = w.alloc (.cells #[.pointer (some ⟨m, 0, none⟩), .int .i64 2688, .int .i64 4096] 145) := by
  have HSz := size_any w h
  rw [hS] at HSz
  have HSz := Lib.hid HSz
  clear h
  go_enter Tryz.func84, Tryz.ntmps84
  go_wp2_with fail
  refine HSz.out.mono ?_
  rintro e w1 ⟨rfl, rfl⟩
  go_wp2
  go_ret
  exact ⟨rfl, rfl⟩

theorem size_any5 (w : World) : Calls Tryz.prog 82 #[] w fun e W' => e = .returned (.int .i64 23168) ∧ Below w.heap.size w W' :=
  callsIn_wide.1 (size_in Fence.wide 6 trivial trivial trivial rfl (by omega) w)
theorem find_any5 (k m : Int) (w : World) : Calls Tryz.prog 83 #[.int .i64 k, .int .i64 m] w fun e W' => e = .returned (.tuple #[ptO (Gd.ptAt k m), .bool (Gd.ptAt k m).isSome]) ∧ Below w.heap.size w W' := by
  rw [← Gd.findP_at]
  exact callsIn_wide.1 (find_in Fence.wide 6 trivial trivial trivial rfl (by omega) k m w)

set_option maxHeartbeats 4000000 in
set_option maxRecDepth 100000 in
theorem xnew_any [MemNo] {t K : Nat} {S : List UInt8} {P : List Gd.Pa} {F : Nat → Prop} (w : World) (h : TxnF t S P K w F) (hS : S.length = 23168) : Calls Tryz.prog 88 #[.pointer (some ⟨t, 0, none⟩)] w fun e w' => ∃ x, e = .returned (.pointer (some ⟨x, 0, none⟩)) ∧ w.heap.size ≤ x ∧ w'.heap[x]? = some (.cells #[.pointer (some ⟨t, 0, none⟩)] 163 (0, 0)) ∧ Below w.heap.size w w' := by
  have H := Lib.hid h
  have HS := Lib.hid hS
  clear h hS
  go_enter Tryz.func88, Tryz.ntmps88
  go_wp2_with fail
  refine (size_any5 _).mono ?_
  rintro e w1 ⟨rfl, hb1⟩
  have HB1 := Lib.hid hb1
  have H1 := Lib.hid ((TxnF.held t S P K).below H.out hb1)
  clear hb1
  go_wp2_with fail
  refine (tload_any 0 23168 w1 H1.out (by have := HS.out; omega) (by have := HS.out; omega) (by omega)).mono ?_
  rintro e w2 ⟨v2, rfl, -, hb2⟩
  have HB2 := Lib.hid (HB1.out.trans (hb2.mono HB1.out.size))
  have H2 := Lib.hid ((TxnF.held t S P K).below H1.out hb2)
  clear hb2
  go_wp2_with fail
  refine (size_any5 _).mono ?_
  rintro e w3 ⟨rfl, hb3⟩
  have HB3 := Lib.hid (HB2.out.trans (hb3.mono HB2.out.size))
  have H3 := Lib.hid ((TxnF.held t S P K).below H2.out hb3)
  clear hb3
  go_wp2_with fail
  refine (tload_bad 23168 1 (nat_I64 (n := 23168) (by omega)) (nat_I64 (n := 1) (by omega)) w3 H3.out (by have := HS.out; omega)).mono ?_
  rintro e w4 ⟨rfl, rfl⟩
  go_wp2
  go_ret
  exact ⟨_, rfl, HB3.out.size, heap_alloc_new _ _, HB3.out.alloc HB3.out.size _⟩

set_option maxHeartbeats 4000000 in
set_option maxRecDepth 100000 in
theorem commit_none [MemNo] {t K : Nat} {S : List UInt8} {F : Nat → Prop} (w : World) (h : TxnF t S [] K w F) : Calls Tryz.prog 49 #[.pointer (some ⟨t, 0, none⟩)] w fun e w' => e = .returned (.int .i64 0) ∧ w' = w := by
  obtain ⟨m, g, pv, hM, hT, hL, ft, fg, fq, hP, -⟩ := h
  obtain ⟨A, c, rfl, -⟩ := row_pa hT.row
  obtain ⟨c0, c1, c2⟩ := cell2 hT.obj
  clear hM hT hL ft fg fq hP
  go_enter Tryz.func49, Tryz.ntmps49
  go_wp2
  go_ret
  exact ⟨rfl, rfl⟩

end Go.Proofs.YtccpdkjonepoiaaGreatDoor

/- Walks: inode's small functions. -/
namespace Go.Proofs.YtccpdkjonepoiaaGreatDoor
open Go.RowKit

attribute [local go_sem] Oper.semAt_some

set_option maxHeartbeats 4000000 in
set_option maxRecDepth 100000 in
theorem inoin_any (n : Int) (m : Nat) (w : World) : Calls Tryz.prog 175 #[.int .i64 n, .int .i64 m] w fun e w' => e = .returned (.bool (decide (0 ≤ n) && decide (n ≤ m))) ∧ w' = w := by
  by_cases h0 : 0 ≤ n
  · go_enter Tryz.func175, Tryz.ntmps175
    go_wp2
    go_ret
    exact ⟨by simp [h0], rfl⟩
  · have h0' : n < 0 := by omega
    go_enter Tryz.func175, Tryz.ntmps175
    go_wp2
    go_ret
    exact ⟨by simp [h0]; intro h; omega, rfl⟩

end Go.Proofs.YtccpdkjonepoiaaGreatDoor

/- Walks: bits. -/
namespace Go.Proofs.YtccpdkjonepoiaaGreatDoor
open Go.RowKit

attribute [local go_sem] Oper.semAt_some

set_option maxHeartbeats 4000000 in
set_option maxRecDepth 100000 in
theorem place_no (n : Int) (h : Gd.isBlk n = false) (w : World) : Calls Tryz.prog 183 #[.int .i64 n] w fun e w' => e = .returned (.tuple #[.int .i64 0, .int .u8 0, .bool false]) ∧ w' = w := by
  unfold Gd.isBlk at h
  by_cases h0 : n < 1
  · go_enter Tryz.func183, Tryz.ntmps183
    go_wp2
    go_ret3
    exact ⟨rfl, rfl⟩
  · have h1 : 128 < n := by simp at h; omega
    have h2 : 1 ≤ n := by omega
    clear h
    go_enter Tryz.func183, Tryz.ntmps183
    go_wp2
    go_ret3
    exact ⟨rfl, rfl⟩

end Go.Proofs.YtccpdkjonepoiaaGreatDoor

/- What a commit comes to, in plain words: outside the log the bytes are those with the changes laid over. -/
namespace Go.Proofs.YtccpdkjonepoiaaGreatDoor
namespace Gd
theorem fit_len {n m : Nat} {P : List Pa} (h : Fit n P) (e : m = n) : Fit m P := by rw [e]; exact h
theorem view_agree : ∀ {P : List Pa} {S T : List UInt8}, T.length = S.length → Fit S.length P → ∀ i : Nat, S[i]? = T[i]? → (view S P)[i]? = (view T P)[i]?
  | [], S, T, _, _, i, h => h
  | p :: r, S, T, hl, hf, i, h => by
    have hp := hf p (List.mem_cons_self ..)
    have hp2 : p.1 + p.2.length ≤ T.length := by rw [hl]; exact hp
    have h1 := splice_length hp
    have h2 := splice_length hp2
    show (view (splice S p.1 p.2) r)[i]? = (view (splice T p.1 p.2) r)[i]?
    refine view_agree (by rw [h1, h2]; exact hl) (fun q hq => by rw [h1]; exact hf q (List.mem_cons_of_mem _ hq)) i ?_
    rw [splice_get hp, splice_get hp2, h]
theorem fit_take {n : Nat} {P : List Pa} (h : Fit n P) (k : Nat) : Fit n (P.take k) := fun p hp => h p (List.mem_of_mem_take hp)
/-- what a commit leaves -/
def done (S : List UInt8) (P : List Pa) (R : List UInt8) : List UInt8 := splice (view (splice (splice S 2696 R) 2688 (le R.length 8)) P) 2688 (List.replicate 8 0)
theorem logged_length {S R : List UInt8} (hS : S.length = 23168) (hR : R.length ≤ 4088) : (splice (splice S 2696 R) 2688 (le R.length 8)).length = 23168 := by
  rw [splice_length (by rw [splice_length (by omega), le_length]; omega), splice_length (by omega)]
  exact hS
theorem done_length {S R : List UInt8} {P : List Pa} (hS : S.length = 23168) (hR : R.length ≤ 4088) (hP : Fit 23168 P) : (done S P R).length = 23168 := by
  have h1 := logged_length hS hR
  have h2 := view_length (P := P) (S := splice (splice S 2696 R) 2688 (le R.length 8)) (by rw [h1]; exact hP)
  unfold done
  rw [splice_length (by rw [h2, h1, List.length_replicate]; omega), h2, h1]
theorem done_get {S R : List UInt8} {P : List Pa} (hS : S.length = 23168) (hR : R.length ≤ 4088) (hP : Fit 23168 P) (i : Nat) (hi : i < 2688 ∨ 6784 ≤ i) : (done S P R)[i]? = (view S P)[i]? := by
  have h1 := logged_length hS hR
  have h2 := view_length (P := P) (S := splice (splice S 2696 R) 2688 (le R.length 8)) (by rw [h1]; exact hP)
  unfold done
  rw [splice_get (by rw [h2, h1, List.length_replicate]; omega), if_neg (by rw [List.length_replicate]; omega)]
  refine view_agree (by rw [h1]; exact hS) (by rw [h1]; exact hP) i ?_
  rw [splice_get (by rw [splice_length (by omega), le_length]; omega), if_neg (by rw [le_length]; omega), splice_get (by omega), if_neg (by omega)]
theorem done_end {S R : List UInt8} {P : List Pa} (hS : S.length = 23168) (hR : R.length ≤ 4088) (hP : Fit 23168 P) : part (done S P R) 2688 8 = le 0 8 := by
  have h1 := logged_length hS hR
  have h2 := view_length (P := P) (S := splice (splice S 2696 R) 2688 (le R.length 8)) (by rw [h1]; exact hP)
  unfold done
  have := part_splice_same (S := view (splice (splice S 2696 R) 2688 (le R.length 8)) P) (k := 2688) (b := List.replicate 8 0) (by rw [h2, h1, List.length_replicate]; omega)
  rw [List.length_replicate] at this
  rw [this]
  rfl
/-- the log's bytes behind Append -/
theorem logged_end {S R : List UInt8} (hS : S.length = 23168) (hR : R.length ≤ 4088) : part (splice (splice S 2696 R) 2688 (le R.length 8)) 2688 8 = le R.length 8 := by
  have := part_splice_same (S := splice S 2696 R) (k := 2688) (b := le R.length 8) (by rw [splice_length (by omega), le_length]; omega)
  rw [le_length] at this
  exact this
theorem logged_rec {S R : List UInt8} (hS : S.length = 23168) (hR : R.length ≤ 4088) : part (splice (splice S 2696 R) 2688 (le R.length 8)) 2696 R.length = R := by
  rw [part_splice_apart (by rw [splice_length (by omega)]; omega) (by rw [splice_length (by omega), le_length]; omega) (by rw [le_length]; omega)]
  exact part_splice_same (by omega)
end Gd
end Go.Proofs.YtccpdkjonepoiaaGreatDoor

/- Walk: a record's changes, redone. -/
namespace Go.Proofs.YtccpdkjonepoiaaGreatDoor
open Go.RowKit Go.Shelf

attribute [local go_sem] Oper.semAt_some

/-- a string's bytes, in a row of their own -/
theorem str_bytes (w : World) (L : List UInt8) : ∃ v w', (convert 9 22 (.string ⟨L.toArray⟩)).run Tryz.prog w = .ok v w' ∧ BytesAt w' v L ∧ Below w.heap.size w w' ∧ v.ownBlock = some w.heap.size ∧ ∃ c, v = .slice (some ⟨w.heap.size, 0, none⟩) L.length c := by
  have hs : (⟨L.toArray⟩ : ByteArray).size = L.length := by simp [ByteArray.size]
  refine ⟨_, _, Lib.run_convert_string_bytes w 9 22 5 ⟨L.toArray⟩ Tryz.underlying9 Tryz.underlying22 Tryz.underlying5, ⟨_, _, by rw [hs], Or.inr ⟨_, 0, rfl, by rw [Lib.bytesWorld_size]; omega, fun j x hx => ?_⟩⟩, ⟨rfl, rfl, rfl, by rw [Lib.bytesWorld_size]; omega, fun k hk => Lib.bytesWorld_at_old w _ _ k hk⟩, rfl, _, by rw [hs]⟩
  have hj := (List.getElem?_eq_some_iff.1 hx).1
  rw [Nat.zero_add, Lib.bytesWorld_cell w _ _ j (by rw [hs]; exact hj)]
  simp only [List.getD, hx, Option.getD_some]

/-- blocks that lie apart: below B -/
structure LowAt (m sb lb ab g B : Nat) : Prop where
  m : m < B
  sb : sb < B
  lb : lb < B
  ab : ab < B
  g : g < B
theorem LowAt.mem3 {m sb lb ab g B : Nat} (h : LowAt m sb lb ab g B) {k : Nat} (hk : B ≤ k) : ¬ Mem3 sb lb ab k := by
  rintro (e | e | e)
  · have := h.sb; omega
  · have := h.lb; omega
  · have := h.ab; omega

set_option maxHeartbeats 4000000 in
set_option maxRecDepth 100000 in
theorem redo1_at {g m sb lb ab n K B bm bl c : Nat} {S : List UInt8} (v : Value) (P : List Gd.Pa) (w : World) (h : MemAt w m sb lb ab n S K) (hL : LogAt w g m 2688 4096) (hB : LowAt m sb lb ab g B) (hv : PasAt w v P) (hvb : ∀ q, v.ownBlock = some q → B ≤ q ∧ q ≠ bm) (hf : Gd.Fit S.length P) (hp2 : ∀ p ∈ P, p.2.length ≤ 256) (hn : P.length ≤ 64)
    (hbm : CellsAt w bm 3 #[.int .i64 c]) (hbl : CellsAt w bl 102 #[.pointer (some ⟨g, 0, none⟩)]) (hm : B ≤ bm ∧ B ≤ bl ∧ bl ≠ bm) (hc : c ≤ 1000) (hK : K < 800000000000) :
    Calls Tryz.prog 86 #[v, .pointer (some ⟨bm, 0, none⟩), .pointer (some ⟨bl, 0, none⟩)] w fun e w' => e = .returned (.tuple #[]) ∧ MemAt w' m sb lb ab n (Gd.view S P) (K + 20000 * P.length) ∧ Only (fun k => Mem3 sb lb ab k ∨ k = bm) w w' ∧ CellsAt w' bm 3 #[.int .i64 (c + 1 : Nat)] := by
  obtain ⟨A, cap, rfl, hrow⟩ := hv
  have x0 := cell_of_row w bm 0 _ _ _ hbm
  have x1 := frozen_of_row w bm 0 _ _ hbm
  obtain ⟨w1, hw1⟩ : ∃ w1, w1 = w.setCell ⟨bm, 0, none⟩ (.int .i64 ((c : Int) + 1)) := ⟨_, rfl⟩
  have hO1 : Only (fun k => k = bm) w w1 := by rw [hw1]; exact only_setCell w _ _ rfl
  have hM1 : MemAt w1 m sb lb ab n S K := h.keep fun k hk => hO1.block k (h.lts k hk) fun e => by
    subst e
    rcases hk with e | e | e | e
    · have := hB.m; omega
    · have := hB.sb; omega
    · have := hB.lb; omega
    · have := hB.ab; omega
  have hL1 : LogAt w1 g m 2688 4096 := hL.keep hO1 fun e => by have := hB.g; omega
  have hbl1 : CellsAt w1 bl 102 #[.pointer (some ⟨g, 0, none⟩)] := (hO1.block bl hbl.lt hm.2.2).trans hbl
  have hbm1 : CellsAt w1 bm 3 #[.int .i64 (c + 1 : Nat)] := by
    rw [hw1]
    exact Go.heap_setCell_same _ _ 0 _ _ _ hbm
  have hrow1 : (A = none ∧ P = []) ∨ ∃ b, A = some ⟨b, 0, none⟩ ∧ b < w1.heap.size ∧ B ≤ b ∧ ∀ (k : Nat) (p : Gd.Pa), P[k]? = some p → w1.cell? ⟨b, k * 2, none⟩ = some (.int .i64 p.1) ∧ w1.cell? ⟨b, k * 2 + 1, none⟩ = some (.string ⟨p.2.toArray⟩) := by
    rcases hrow with h0 | ⟨b, rfl, hb, hcl⟩
    · exact Or.inl h0
    · obtain ⟨h1, h2⟩ := hvb b rfl
      exact Or.inr ⟨b, rfl, Nat.lt_of_lt_of_le hb hO1.size, h1, fun k p hp => ⟨(hO1.cell (p := ⟨b, k * 2, none⟩) hb h2).trans (hcl k p hp).1, (hO1.cell (p := ⟨b, k * 2 + 1, none⟩) hb h2).trans (hcl k p hp).2⟩⟩
  have HM1 := Lib.hid hM1
  have HL1 := Lib.hid hL1
  have Hbl := Lib.hid hbl1
  have Hbm := Lib.hid hbm1
  have HR := Lib.hid hrow1
  have HB := Lib.hid hB
  have Hm := Lib.hid hm
  have HP := Lib.hid (And.intro hf hp2)
  have HO1 := Lib.hid hO1
  have HW1 := Lib.hid hw1
  obtain ⟨r, hr⟩ : ∃ r, r = P.length := ⟨_, rfl⟩
  rw [← hr] at hn ⊢
  have Hr := Lib.hid hr
  have hS1 := h.len
  have hS2 := h.small
  have HS : Hid (S.length ≤ 1048576) := Lib.hid (by omega)
  have hc1 : (c : Int) ≤ 1000 := by omega
  clear h hL hB hvb hf hp2 hbm hbl hm hw1 hO1 hM1 hL1 hbl1 hbm1 hrow hrow1 hr hS1 hS2
  go_enter Tryz.func86, Tryz.ntmps86
  go_upto_region 2 with fail
  rw [← HW1.out]
  clear x0 x1
  go_loopw [10] (fun z wr => ∃ i : Nat, z = .int .i64 i ∧ i ≤ r ∧ Hid (MemAt wr m sb lb ab n (Gd.view S (P.take i)) (K + 20000 * i)) ∧ Hid (Only (Mem3 sb lb ab) w1 wr)) (fun z _ => r - (intOf z).toNat)
  case atStart => exact ⟨0, rfl, by omega, HM1, Lib.hid (Only.refl _ _)⟩
  case round =>
    obtain ⟨i, rfl, hi, HM, HO⟩ := hrel
    by_cases hlt : i < r
    · obtain ⟨p, hp⟩ : ∃ p, P[i]? = some p := ⟨_, List.getElem?_eq_getElem (by have := Hr.out; omega)⟩
      rcases HR.out with ⟨_, h0⟩ | ⟨b, rfl, hbl, hbB, hcell⟩
      · rw [h0] at hp; simp at hp
      obtain ⟨q0, q1⟩ := hcell i p hp
      have r0 := (HO.out.cell (p := ⟨b, i * 2, none⟩) hbl (HB.out.mem3 hbB)).trans q0
      have r1 := (HO.out.cell (p := ⟨b, i * 2 + 1, none⟩) hbl (HB.out.mem3 hbB)).trans q1
      have h1 : (i : Int) < r := by omega
      have h0 : (0 : Int) ≤ i := by omega
      have HX := Lib.hid hp
      have Hpm := Lib.hid (List.mem_of_getElem? hp)
      clear hp hcell q0 q1 hlt
      go_upto_region 4 with fail
      obtain ⟨s, hs⟩ : ∃ s : ByteArray, s = ⟨p.2.toArray⟩ := ⟨_, rfl⟩
      obtain ⟨q, hq⟩ : ∃ q, q = p.1 := ⟨_, rfl⟩
      rw [← hs, ← hq]
      obtain ⟨wz, hwz⟩ : ∃ u, u = wr.alloc (.cells #[.int .i64 q, .string s] 122) := ⟨_, rfl⟩
      rw [← hwz]
      have hbz : Below wr.heap.size wr wz := by rw [hwz]; exact (Below.refl _ _).alloc (Nat.le_refl _) _
      have hz : CellsAt wz wr.heap.size 122 #[.int .i64 q, .string s] := by rw [hwz]; exact heap_alloc_new _ _
      obtain ⟨px, hpx⟩ : ∃ px, px = wr.heap.size := ⟨_, rfl⟩
      rw [← hpx] at hz ⊢
      have hbd : Below wr.heap.size wr wz.drew := hbz.trans (((Below.refl wz.heap.size wz).drew).mono hbz.size)
      have hMd := HM.out.below hbd
      have hOd : Only (Mem3 sb lb ab) w1 wz.drew := HO.out.trans (below_only hbd _) fun _ _ e => e
      have hbld : CellsAt wz.drew bl 102 #[.pointer (some ⟨g, 0, none⟩)] := (hOd.block bl Hbl.out.lt (HB.out.mem3 Hm.out.2.1)).trans Hbl.out
      have hgd : LogAt wz.drew g m 2688 4096 := HL1.out.keep hOd (HL1.out.apart HM1.out)
      have hzd : CellsAt wz.drew px 122 #[.int .i64 q, .string s] := ((Below.refl wz.heap.size wz).drew.block px hz.lt).trans hz
      obtain ⟨v2, wm, hcv, hb2, hbel, hob, -⟩ := str_bytes wz.drew p.2
      rw [← hs] at hcv
      have hMm := hMd.below hbel
      have hblm : CellsAt wm bl 102 #[.pointer (some ⟨g, 0, none⟩)] := (hbel.block bl hbld.lt).trans hbld
      have hgm : LogAt wm g m 2688 4096 := (hbel.block g (lt_get hgd)).trans hgd
      have hzm : CellsAt wm px 122 #[.int .i64 q, .string s] := (hbel.block px hzd.lt).trans hzd
      have hlen : (Gd.view S (P.take i)).length = S.length := Gd.view_length (Gd.fit_take HP.out.1 i)
      have HSt := Lib.hid (mstore_at q v2 p.2 wm hMm hb2 (fun j hj => by
        rw [hob] at hj
        cases hj
        have h1 := hMd.lts sb (by simp)
        have h2 := hMd.lts ab (by simp)
        omega) (by rw [hlen, hq]; exact HP.out.1 p Hpm.out) (by have := HP.out.2 p Hpm.out; omega))
      have HOm : Hid (Only (Mem3 sb lb ab) w1 wm) := Lib.hid (hOd.trans (below_only hbel _) fun _ _ e => e)
      have Hzm := Lib.hid hzm
      have d0 := cell_of_row wz.drew _ 0 _ _ _ hbld
      obtain ⟨d1, -, -⟩ := cell2 hgd
      have d2 := cell_of_row wz.drew _ 0 _ _ _ hzd
      have d3 := cell_of_row wz.drew _ 1 _ _ _ hzd
      have e0 := cell_of_row wm _ 0 _ _ _ hblm
      obtain ⟨e1, -, -⟩ := cell2 hgm
      have e2 := cell_of_row wm _ 0 _ _ _ hzm
      have e3 := cell_of_row wm _ 1 _ _ _ hzm
      have HQ := Lib.hid (And.intro hq hs)
      have HPx := Lib.hid hpx
      have hs1 := And.intro d0 (And.intro d1 (And.intro d2 d3))
      have hs2 := And.intro e0 (And.intro e1 (And.intro e2 e3))
      have HT5 : Hid (∀ w5, Only (fun k => k = sb ∨ k = ab) wm w5 → w5.cell? ⟨bl, 0, none⟩ = some (.pointer (some ⟨g, 0, none⟩)) ∧ w5.cell? ⟨g, 0, none⟩ = some (.pointer (some ⟨m, 0, none⟩)) ∧ w5.cell? ⟨px, 0, none⟩ = some (.int .i64 q) ∧ w5.cell? ⟨px, 1, none⟩ = some (.string s)) := Lib.hid fun w5 hO5 => by
        have hsb := hMm.lts sb (by simp)
        have hab := hMm.lts ab (by simp)
        have h3 : ∀ k, k = sb ∨ k = ab → Mem3 sb lb ab k := fun k e => e.elim (fun e => Or.inl e) fun e => Or.inr (Or.inr e)
        have hpn : ¬ Mem3 sb lb ab px := HB.out.mem3 (by have := HO.out.size; have := HR.out; rw [hpx]; omega)
        have y1 := cell_of_row w5 _ 0 _ _ _ ((hO5.block bl hblm.lt fun e => HB.out.mem3 Hm.out.2.1 (h3 _ e)).trans hblm)
        obtain ⟨y2, -, -⟩ := cell2 ((hO5.block g (lt_get hgm) fun e => HL1.out.apart HM1.out (h3 _ e)).trans hgm)
        have hz5 := (hO5.block px hzm.lt fun e => hpn (h3 _ e)).trans hzm
        exact ⟨y1, y2, cell_of_row w5 _ 0 _ _ _ hz5, cell_of_row w5 _ 1 _ _ _ hz5⟩
      clear hbz hz hbd hMd hOd hbld hgd hzd hb2 hbel hob hMm hblm hgm hzm hlen hq hs hpx hwz r0 r1
      go_cut [10, 24] from 10 to 35 (fun s10 s24 wx => s10 = .int .i64 i ∧ s24 = .bool true ∧ Hid (MemAt wx m sb lb ab n (Gd.splice (Gd.view S (P.take i)) q p.2) (K + 20000 * i)) ∧ Hid (Only (fun k => k = sb ∨ k = ab) wm wx))
      case first =>
        refine wp_region_held_drew (S := (fun W => W.cell? ⟨bl, 0, none⟩ = some (.pointer (some ⟨g, 0, none⟩)) ∧ W.cell? ⟨g, 0, none⟩ = some (.pointer (some ⟨m, 0, none⟩)) ∧ W.cell? ⟨px, 0, none⟩ = some (.int .i64 q) ∧ W.cell? ⟨px, 1, none⟩ = some (.string s))) (by kernel_rfl) ?_ (fun hHeld => ?_)
        · exact hs1
        refine wpAnyH_take (i := 0) (oi := _) (v := ?_) rfl (by kernel_rfl) (by kernel_rfl) (by kernel_rfl) (fun _ _ _ h => h) (Or.inl ⟨by rfl, ?_⟩) (by assumption) ?_
        rotate_left
        · intro w hSw
          (try dsimp only at hSw)
          first | (go_simp; done) | (go_simp; with_reducible rfl)
        try simp only [List.getElem_toArray, List.getElem_cons_succ, List.getElem_cons_zero, Act.put, List.setIfInBounds_toArray, List.set_cons_zero, List.set_cons_succ]
        refine wpAnyH_take (i := 1) (oi := _) (v := ?_) rfl (by kernel_rfl) (by kernel_rfl) (by kernel_rfl) (fun _ _ _ h => h) (Or.inl ⟨by rfl, ?_⟩) (by assumption) ?_
        rotate_left
        · intro w hSw
          (try dsimp only at hSw)
          first | (go_simp; done) | (go_simp; with_reducible rfl)
        try simp only [List.getElem_toArray, List.getElem_cons_succ, List.getElem_cons_zero, Act.put, List.setIfInBounds_toArray, List.set_cons_zero, List.set_cons_succ]
        refine wpAnyH_take (i := 2) (oi := _) (v := ?_) rfl (by kernel_rfl) (by kernel_rfl) (by kernel_rfl) (fun _ _ _ h => h) (Or.inl ⟨by rfl, ?_⟩) (by assumption) ?_
        rotate_left
        · intro w hSw
          (try dsimp only at hSw)
          first | (go_simp; done) | (go_simp; with_reducible rfl)
        try simp only [List.getElem_toArray, List.getElem_cons_succ, List.getElem_cons_zero, Act.put, List.setIfInBounds_toArray, List.set_cons_zero, List.set_cons_succ]
        refine wpAnyH_take (i := 3) (oi := _) (v := ?_) rfl (by kernel_rfl) (by kernel_rfl) (by kernel_rfl) (fun _ _ _ h => h) (Or.inl ⟨by rfl, ?_⟩) (by assumption) ?_
        rotate_left
        · intro w hSw
          (try dsimp only at hSw)
          first | (go_simp; done) | (go_simp; with_reducible rfl)
        try simp only [List.getElem_toArray, List.getElem_cons_succ, List.getElem_cons_zero, Act.put, List.setIfInBounds_toArray, List.set_cons_zero, List.set_cons_succ]
        refine wpAnyH_take (i := 4) (oi := _) (v := ?_) rfl (by kernel_rfl) (by kernel_rfl) (by kernel_rfl) (fun _ _ _ h => h) (Or.inl ⟨by rfl, ?_⟩) (by assumption) ?_
        rotate_left
        · intro w hSw
          (try dsimp only at hSw)
          first | (go_simp; done) | (go_simp; with_reducible rfl)
        try simp only [List.getElem_toArray, List.getElem_cons_succ, List.getElem_cons_zero, Act.put, List.setIfInBounds_toArray, List.set_cons_zero, List.set_cons_succ]
        refine wpAnyH_take (i := 5) (oi := _) (v := ?_) rfl (by kernel_rfl) (by kernel_rfl) (by kernel_rfl) (fun _ _ _ h => h) (Or.inl ⟨by rfl, ?_⟩) (by assumption) ?_
        rotate_left
        · intro w hSw
          (try dsimp only at hSw)
          first | (go_simp; done) | (go_simp; with_reducible rfl)
        try simp only [List.getElem_toArray, List.getElem_cons_succ, List.getElem_cons_zero, Act.put, List.setIfInBounds_toArray, List.set_cons_zero, List.set_cons_succ]
        refine wpAnyH_take (i := 6) (oi := _) (v := ?_) rfl (by kernel_rfl) (by kernel_rfl) (by kernel_rfl) (fun _ _ _ h => h) (Or.inl ⟨by rfl, ?_⟩) (by assumption) ?_
        rotate_left
        · intro w hSw
          (try dsimp only at hSw)
          first | (go_simp; done) | (go_simp; with_reducible rfl)
        try simp only [List.getElem_toArray, List.getElem_cons_succ, List.getElem_cons_zero, Act.put, List.setIfInBounds_toArray, List.set_cons_zero, List.set_cons_succ]
        refine wpAnyH_take (i := 7) (oi := _) (v := ?_) rfl (by kernel_rfl) (by kernel_rfl) (by kernel_rfl) (fun _ _ _ h => h) (Or.inl ⟨by rfl, ?_⟩) (by assumption) ?_
        rotate_left
        · intro w hSw
          (try dsimp only at hSw)
          first | (go_simp; done) | (go_simp; with_reducible rfl)
        try simp only [List.getElem_toArray, List.getElem_cons_succ, List.getElem_cons_zero, Act.put, List.setIfInBounds_toArray, List.set_cons_zero, List.set_cons_succ]
        refine wpAnyH_ready (rs := [8]) (by kernel_rfl) (by simp) ?_
        refine AllReadyH.cons (o := _) rfl (fun K hK => ?_) AllReadyH.nil
        go_simp
        try dsimp only
        refine hK.out _ _ hs2 (fun hHeld => ?_)
        clear hK K
        try simp only [List.getElem_toArray, List.getElem_cons_succ, List.getElem_cons_zero, Act.put, List.setIfInBounds_toArray, List.set_cons_zero, List.set_cons_succ]
        refine wpAnyH_ready (rs := [9]) (by kernel_rfl) (by simp) ?_
        refine AllReadyH.cons (o := _) rfl (fun K hK => ?_) AllReadyH.nil
        go_simp
        refine HSt.out.mono ?_
        rintro e w5 ⟨rfl, hM5, hO5⟩
        have HM5 := Lib.hid hM5
        have HO5 := Lib.hid hO5
        have hs5 := HT5.out w5 hO5
        clear hM5 hO5
        dsimp only
        refine hK.out _ _ hs5 (fun hHeld => ?_)
        clear hK K
        try simp only [List.getElem_toArray, List.getElem_cons_succ, List.getElem_cons_zero, Act.put, List.setIfInBounds_toArray, List.set_cons_zero, List.set_cons_succ]
        refine wpAnyH_take (i := 10) (oi := _) (v := ?_) rfl (by kernel_rfl) (by kernel_rfl) (by kernel_rfl) (fun _ _ _ h => h) (Or.inl ⟨by rfl, ?_⟩) (by assumption) ?_
        rotate_left
        · intro w hSw
          (try dsimp only at hSw)
          first | (go_simp; done) | (go_simp; with_reducible rfl)
        try simp only [List.getElem_toArray, List.getElem_cons_succ, List.getElem_cons_zero, Act.put, List.setIfInBounds_toArray, List.set_cons_zero, List.set_cons_succ]
        refine wpAnyH_done (by kernel_rfl) ?_ _
        (try simp only [Exit.then])
        clear hs5 hs1 hs2
        go_wp2
        go_meet
        exact ⟨rfl, rfl, HM5, HO5⟩
      case rest =>
        obtain ⟨rfl, rfl, HM6, HO6⟩ := hcut
        obtain ⟨w6, rfl⟩ : ∃ v, v = wc := ⟨_, rfl⟩
        have hb6 := (Below.refl w6.heap.size w6).drew
        have hs6 := HT5.out w6 HO6.out
        have hl6 : bl < w6.heap.size ∧ g < w6.heap.size ∧ px < w6.heap.size := by
          have h1 := HO6.out.size
          have h2 := HOm.out.size
          have h3 := Hbl.out.lt
          have h4 := lt_get HL1.out
          have h5 := Hzm.out.lt
          omega
        have hs7 : w6.drew.cell? ⟨bl, 0, none⟩ = some (.pointer (some ⟨g, 0, none⟩)) ∧ w6.drew.cell? ⟨g, 0, none⟩ = some (.pointer (some ⟨m, 0, none⟩)) ∧ w6.drew.cell? ⟨px, 0, none⟩ = some (.int .i64 q) ∧ w6.drew.cell? ⟨px, 1, none⟩ = some (.string s) :=
          ⟨(hb6.cell (p := ⟨bl, 0, none⟩) hl6.1).trans hs6.1, (hb6.cell (p := ⟨g, 0, none⟩) hl6.2.1).trans hs6.2.1, (hb6.cell (p := ⟨px, 0, none⟩) hl6.2.2).trans hs6.2.2.1, (hb6.cell (p := ⟨px, 1, none⟩) hl6.2.2).trans hs6.2.2.2⟩
        have hle : Gd.splice (Gd.view S (P.take i)) q p.2 = Gd.view S (P.take (i + 1)) := by
          rw [Gd.take_next HX.out, Gd.view_snoc, HQ.out.1]
        have hM7 := HM6.out.below hb6
        rw [hle] at hM7
        have hlen : (Gd.view S (P.take (i + 1))).length = S.length := Gd.view_length (Gd.fit_take HP.out.1 (i + 1))
        have hsz : s.size = p.2.length := by rw [HQ.out.2]; simp [ByteArray.size]
        have HFl := Lib.hid (flush_at q s.size w6.drew hM7 (by rw [hlen, hsz, HQ.out.1]; exact HP.out.1 p Hpm.out) (by have := HP.out.2 p Hpm.out; omega) (by omega))
        have HO7 : Hid (Only (Mem3 sb lb ab) w1 w6.drew) := Lib.hid ((HOm.out.trans (HO6.out.mono (G := Mem3 sb lb ab) fun _ _ e => e.elim (fun e => Or.inl e) fun e => Or.inr (Or.inr e)) fun _ _ e => e).trans (below_only hb6 _) fun _ _ e => e)
        have HT8 : Hid (∀ w8, Only (fun k => k = ab) w6.drew w8 → w8.cell? ⟨bl, 0, none⟩ = some (.pointer (some ⟨g, 0, none⟩)) ∧ w8.cell? ⟨g, 0, none⟩ = some (.pointer (some ⟨m, 0, none⟩)) ∧ w8.cell? ⟨px, 0, none⟩ = some (.int .i64 q) ∧ w8.cell? ⟨px, 1, none⟩ = some (.string s)) := Lib.hid fun w8 hO8 => by
          have h3 : ∀ k, k = ab → Mem3 sb lb ab k := fun k e => Or.inr (Or.inr e)
          have hpn : ¬ Mem3 sb lb ab px := HB.out.mem3 (by have := HO.out.size; have := HR.out; rw [HPx.out]; omega)
          exact ⟨(hO8.cell (p := ⟨bl, 0, none⟩) (Nat.lt_of_lt_of_le hl6.1 hb6.size) fun e => HB.out.mem3 Hm.out.2.1 (h3 _ e)).trans hs7.1, (hO8.cell (p := ⟨g, 0, none⟩) (Nat.lt_of_lt_of_le hl6.2.1 hb6.size) fun e => HL1.out.apart HM1.out (h3 _ e)).trans hs7.2.1, (hO8.cell (p := ⟨px, 0, none⟩) (Nat.lt_of_lt_of_le hl6.2.2 hb6.size) fun e => hpn (h3 _ e)).trans hs7.2.2.1, (hO8.cell (p := ⟨px, 1, none⟩) (Nat.lt_of_lt_of_le hl6.2.2 hb6.size) fun e => hpn (h3 _ e)).trans hs7.2.2.2⟩
        clear hb6 hs6 hl6 hle hM7 hlen hsz HT5 HSt hcv hs1 hs2 d0 d1 d2 d3 e0 e1 e2 e3
        go_upto_region 5 with fail
        refine wp_region_held_drew (S := (fun W => W.cell? ⟨bl, 0, none⟩ = some (.pointer (some ⟨g, 0, none⟩)) ∧ W.cell? ⟨g, 0, none⟩ = some (.pointer (some ⟨m, 0, none⟩)) ∧ W.cell? ⟨px, 0, none⟩ = some (.int .i64 q) ∧ W.cell? ⟨px, 1, none⟩ = some (.string s))) (by kernel_rfl) ?_ (fun hHeld => ?_)
        · exact hs7
        refine wpAnyH_take (i := 0) (oi := _) (v := ?_) rfl (by kernel_rfl) (by kernel_rfl) (by kernel_rfl) (fun _ _ _ h => h) (Or.inl ⟨by rfl, ?_⟩) (by assumption) ?_
        rotate_left
        · intro w hSw
          (try dsimp only at hSw)
          first | (go_simp; done) | (go_simp; with_reducible rfl)
        try simp only [List.getElem_toArray, List.getElem_cons_succ, List.getElem_cons_zero, Act.put, List.setIfInBounds_toArray, List.set_cons_zero, List.set_cons_succ]
        refine wpAnyH_take (i := 1) (oi := _) (v := ?_) rfl (by kernel_rfl) (by kernel_rfl) (by kernel_rfl) (fun _ _ _ h => h) (Or.inl ⟨by rfl, ?_⟩) (by assumption) ?_
        rotate_left
        · intro w hSw
          (try dsimp only at hSw)
          first | (go_simp; done) | (go_simp; with_reducible rfl)
        try simp only [List.getElem_toArray, List.getElem_cons_succ, List.getElem_cons_zero, Act.put, List.setIfInBounds_toArray, List.set_cons_zero, List.set_cons_succ]
        refine wpAnyH_take (i := 2) (oi := _) (v := ?_) rfl (by kernel_rfl) (by kernel_rfl) (by kernel_rfl) (fun _ _ _ h => h) (Or.inl ⟨by rfl, ?_⟩) (by assumption) ?_
        rotate_left
        · intro w hSw
          (try dsimp only at hSw)
          first | (go_simp; done) | (go_simp; with_reducible rfl)
        try simp only [List.getElem_toArray, List.getElem_cons_succ, List.getElem_cons_zero, Act.put, List.setIfInBounds_toArray, List.set_cons_zero, List.set_cons_succ]
        refine wpAnyH_take (i := 3) (oi := _) (v := ?_) rfl (by kernel_rfl) (by kernel_rfl) (by kernel_rfl) (fun _ _ _ h => h) (Or.inl ⟨by rfl, ?_⟩) (by assumption) ?_
        rotate_left
        · intro w hSw
          (try dsimp only at hSw)
          first | (go_simp; done) | (go_simp; with_reducible rfl)
        try simp only [List.getElem_toArray, List.getElem_cons_succ, List.getElem_cons_zero, Act.put, List.setIfInBounds_toArray, List.set_cons_zero, List.set_cons_succ]
        refine wpAnyH_take (i := 4) (oi := _) (v := ?_) rfl (by kernel_rfl) (by kernel_rfl) (by kernel_rfl) (fun _ _ _ h => h) (Or.inl ⟨by rfl, ?_⟩) (by assumption) ?_
        rotate_left
        · intro w hSw
          (try dsimp only at hSw)
          first | (go_simp; done) | (go_simp; with_reducible rfl)
        try simp only [List.getElem_toArray, List.getElem_cons_succ, List.getElem_cons_zero, Act.put, List.setIfInBounds_toArray, List.set_cons_zero, List.set_cons_succ]
        refine wpAnyH_take (i := 5) (oi := _) (v := ?_) rfl (by kernel_rfl) (by kernel_rfl) (by kernel_rfl) (fun _ _ _ h => h) (Or.inl ⟨by rfl, ?_⟩) (by assumption) ?_
        rotate_left
        · intro w hSw
          (try dsimp only at hSw)
          first | (go_simp; done) | (go_simp; with_reducible rfl)
        try simp only [List.getElem_toArray, List.getElem_cons_succ, List.getElem_cons_zero, Act.put, List.setIfInBounds_toArray, List.set_cons_zero, List.set_cons_succ]
        refine wpAnyH_take (i := 6) (oi := _) (v := ?_) rfl (by kernel_rfl) (by kernel_rfl) (by kernel_rfl) (fun _ _ _ h => h) (Or.inl ⟨by rfl, ?_⟩) (by assumption) ?_
        rotate_left
        · intro w hSw
          (try dsimp only at hSw)
          first | (go_simp; done) | (go_simp; with_reducible rfl)
        try simp only [List.getElem_toArray, List.getElem_cons_succ, List.getElem_cons_zero, Act.put, List.setIfInBounds_toArray, List.set_cons_zero, List.set_cons_succ]
        refine wpAnyH_take (i := 7) (oi := _) (v := ?_) rfl (by kernel_rfl) (by kernel_rfl) (by kernel_rfl) (fun _ _ _ h => h) (Or.inl ⟨by rfl, ?_⟩) (by assumption) ?_
        rotate_left
        · intro w hSw
          (try dsimp only at hSw)
          first | (go_simp; done) | (go_simp; with_reducible rfl)
        try simp only [List.getElem_toArray, List.getElem_cons_succ, List.getElem_cons_zero, Act.put, List.setIfInBounds_toArray, List.set_cons_zero, List.set_cons_succ]
        refine wpAnyH_take (i := 8) (oi := _) (v := ?_) rfl (by kernel_rfl) (by kernel_rfl) (by kernel_rfl) (fun _ _ _ h => h) (Or.inl ⟨by rfl, ?_⟩) (by assumption) ?_
        rotate_left
        · intro w hSw
          (try dsimp only at hSw)
          first | (go_simp; done) | (go_simp; with_reducible rfl)
        try simp only [List.getElem_toArray, List.getElem_cons_succ, List.getElem_cons_zero, Act.put, List.setIfInBounds_toArray, List.set_cons_zero, List.set_cons_succ]
        refine wpAnyH_ready (rs := [9]) (by kernel_rfl) (by simp) ?_
        refine AllReadyH.cons (o := _) rfl (fun K hK => ?_) AllReadyH.nil
        go_simp
        refine HFl.out.mono ?_
        rintro e w8 ⟨rfl, hM8, hO8⟩
        have HM8 := Lib.hid hM8
        have HO8 := Lib.hid hO8
        have hs8 := HT8.out w8 hO8
        clear hM8 hO8
        dsimp only
        refine hK.out _ _ hs8 (fun hHeld => ?_)
        clear hK K
        try simp only [List.getElem_toArray, List.getElem_cons_succ, List.getElem_cons_zero, Act.put, List.setIfInBounds_toArray, List.set_cons_zero, List.set_cons_succ]
        refine wpAnyH_done (by kernel_rfl) ?_ _
        (try simp only [Exit.then])
        have HM9 : Hid (MemAt w8 m sb lb ab n (Gd.view S (P.take (i + 1))) (K + 20000 * (i + 1))) := Lib.hid (by
          have := HM8.out
          rw [show K + 20000 * (i + 1) = K + 20000 * i + 20000 by omega]
          exact this)
        have HO9 := Lib.hid (HO7.out.trans (HO8.out.mono (G := Mem3 sb lb ab) fun _ _ e => Or.inr (Or.inr e)) fun _ _ e => e)
        clear hs8 hs7
        go_wp2
        go_roundw
        case rel => exact ⟨i + 1, by go_num, by omega, HM9, HO9⟩
        case measure => simp [intOf]; omega
    · obtain rfl : i = r := by omega
      clear hlt
      go_wp2
      go_end0
      refine ⟨rfl, ?_, ?_, ?_⟩
      · have := HM.out
        rw [List.take_of_length_le (by have := Hr.out; omega)] at this
        exact this
      · exact (HO1.out.mono fun _ _ e => Or.inr e).trans (HO.out.mono fun _ _ e => Or.inl e) fun _ _ e => e
      · exact (HO.out.block bm Hbm.out.lt (HB.out.mem3 Hm.out.1)).trans Hbm.out

end Go.Proofs.YtccpdkjonepoiaaGreatDoor
