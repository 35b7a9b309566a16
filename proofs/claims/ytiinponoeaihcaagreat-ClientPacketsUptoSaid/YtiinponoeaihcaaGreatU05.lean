/- Walk: clog.Encode. -/
import Derived.Test.YtiinponoeaihcaaGreatU04
import Derived.Test.YtiinponoeaihcaaGreatU03
import Derived.Test.YtiinponoeaihcaaGreatU02
import Derived.Test.YtiinponoeaihcaaGreatU01
set_option linter.unusedVariables false
set_option linter.unusedSimpArgs false
set_option linter.unusedSectionVars false
namespace Go.Proofs.YtiinponoeaihcaaGreat
open Go.RowKit Go.Shelf

attribute [local go_sem] Oper.semAt_some

def recR (r : Gd.Rec) : Value := Fl.recV r.call r.inode r.tr r.off ⟨r.d.toArray⟩
/-- the call's own record, at its place -/
def RecSt (w : World) (r : Gd.Rec) (wk : World) : Prop := Below w.heap.size w wk ∧ wk.heap[w.heap.size]? = some (.cells #[.int .i64 r.call, .int .i64 r.inode, .bool r.tr, .int .i64 r.off, .string ⟨r.d.toArray⟩] 112 (0, 0))
theorem RecSt.next {w wk wk' : World} {r : Gd.Rec} (h : RecSt w r wk) (hb : Below wk.heap.size wk wk') : RecSt w r wk' :=
  ⟨h.1.trans (hb.mono h.1.size), (hb.block _ (lt_get h.2)).trans h.2⟩
theorem RecSt.cells {w wk : World} {r : Gd.Rec} (h : RecSt w r wk) : wk.cell? ⟨w.heap.size, 0, none⟩ = some (.int .i64 r.call) ∧ wk.cell? ⟨w.heap.size, 1, none⟩ = some (.int .i64 r.inode) ∧ wk.cell? ⟨w.heap.size, 2, none⟩ = some (.bool r.tr) ∧ wk.cell? ⟨w.heap.size, 3, none⟩ = some (.int .i64 r.off) ∧ wk.cell? ⟨w.heap.size, 4, none⟩ = some (.string ⟨r.d.toArray⟩) :=
  ⟨cell_of_row wk _ 0 _ _ _ h.2, cell_of_row wk _ 1 _ _ _ h.2, cell_of_row wk _ 2 _ _ _ h.2, cell_of_row wk _ 3 _ _ _ h.2, cell_of_row wk _ 4 _ _ _ h.2⟩
theorem ints_one (w : World) (n : Nat) : IntsAt (w.alloc (.cells #[.int .i64 n] 3)) (.slice (some ⟨w.heap.size, 0, none⟩) 1 1) [n] := by
  refine ⟨w.heap.size, rfl, by simp, fun j x hx => ?_⟩
  match j, hx with
  | 0, hx =>
    cases hx
    exact cell_of_row _ _ 0 _ _ _ (heap_alloc_new w _)
theorem ints_two (w : World) (n m : Nat) : IntsAt (w.alloc (.cells #[.int .i64 n, .int .i64 m] 3)) (.slice (some ⟨w.heap.size, 0, none⟩) 2 2) [n, m] := by
  refine ⟨w.heap.size, rfl, by simp, fun j x hx => ?_⟩
  match j, hx with
  | 0, hx =>
    cases hx
    exact cell_of_row _ _ 0 _ _ _ (heap_alloc_new w _)
  | 1, hx =>
    cases hx
    exact cell_of_row _ _ 1 _ _ _ (heap_alloc_new w _)
theorem below_drew {B : Nat} {w w' : World} (h : Below B w w') : Below B w w'.drew := ⟨h.os, h.tape, h.output, h.size, h.block⟩
theorem ints_drew {w : World} {s : Value} {N : List Nat} (h : IntsAt w s N) : IntsAt w.drew s N := h
theorem may_parts {r : Gd.Rec} (h : r.may = true) : 0 ≤ r.call ∧ r.call ≤ 1099511627776 ∧ 1 ≤ r.inode ∧ r.inode ≤ 32 ∧ 0 ≤ r.off ∧ r.off ≤ 256 ∧ r.d.length ≤ 64 := by
  apply Classical.byContradiction
  intro hn
  have := Fp.mayB_no (call := r.call) (inode := r.inode) (tr := r.tr) (off := r.off) (d := r.d) (by omega)
  unfold Gd.Rec.may at h
  rw [this] at h
  cases h
theorem clnums_at (wk : World) (v s : Value) (B : Nat) (L : List UInt8) (k : Nat) (hk : Gd.wid k) (N : List Nat) (hN : ∀ n ∈ N, n < 256 ^ k ∧ n ≤ 9223372036854775807) (hNl : N.length ≤ 100) (hB : B ≤ wk.heap.size) (h : OwnB wk B v L) (hl : L.length ≤ 100000) (wz : World) (hz : Below wk.heap.size wk wz) (hs : IntsAt wz s N) :
    Calls Tryz.prog 78 #[v, .int .i64 k, s] wz fun e w' => ∃ u, e = .returned u ∧ OwnB w' B u (putsL k L N) ∧ Below wk.heap.size wk w' :=
  (clnums_any v s L k hk N hN hNl wz B (Nat.le_trans hB hz.size) (h.keep hz) hl hs).mono fun e w' ⟨u, he, ho, hb⟩ => ⟨u, he, ho, hz.trans (hb.mono hz.size)⟩

set_option maxHeartbeats 8000000 in
set_option maxRecDepth 100000 in
theorem cenc_no (r : Gd.Rec) (hd : r.d.length ≤ 1000) (hm : ¬ r.may = true) (w : World) : Calls Tryz.prog 60 #[recR r] w fun e w' => e = .returned (.tuple #[.slice none 0 0, .int .i64 1]) ∧ Below w.heap.size w w' := by
  have HM := Lib.hid fun wk => Fl.may_any r.call r.inode r.tr r.off ⟨r.d.toArray⟩ wk (by show r.d.length ≤ _; omega)
  have hf : Fp.mayB r.call r.inode r.tr r.off r.d = false := by simpa [Gd.Rec.may] using hm
  have hf2 : Fp.mayB r.call r.inode r.tr r.off (⟨r.d.toArray⟩ : ByteArray).data.toList = false := hf
  rw [hf2] at HM
  unfold recR
  obtain ⟨rc, ri, rt, ro, rd⟩ := r
  dsimp only at *
  obtain ⟨s, hs⟩ : ∃ s : ByteArray, s = ⟨rd.toArray⟩ := ⟨_, rfl⟩
  rw [← hs] at HM ⊢
  unfold Fl.recV at HM ⊢
  clear hs hm hf hf2 hd
  go_enter Tryz.func60, Tryz.ntmps60
  go_wp2_with (go_at_call 77; refine (HM.out _).mono ?_; rintro e w2 ⟨rfl, hb2⟩; have HB2 := Lib.hid hb2; clear hb2)
  go_ret2
  exact ⟨rfl, ((Below.refl _ w).alloc (Nat.le_refl _) _).trans (HB2.out.mono (by simp))⟩

set_option maxHeartbeats 8000000 in
set_option maxRecDepth 100000 in
theorem cenc_yes (r : Gd.Rec) (hm : r.may = true) (w : World) : Calls Tryz.prog 60 #[recR r] w fun e w' => ∃ u, e = .returned (.tuple #[u, .int .i64 0]) ∧ OwnB w' w.heap.size u (Gd.encL r) ∧ Below w.heap.size w w' := by
  obtain ⟨b0, b1, b2, b3, b4, b5, b6⟩ := may_parts hm
  obtain ⟨ca, hca⟩ : ∃ n : Nat, r.call = n := ⟨r.call.toNat, by omega⟩
  obtain ⟨ki, hki⟩ : ∃ n : Nat, r.inode = n := ⟨r.inode.toNat, by omega⟩
  obtain ⟨of, hof⟩ : ∃ n : Nat, r.off = n := ⟨r.off.toNat, by omega⟩
  have HM := Lib.hid fun wk => Fl.may_any r.call r.inode r.tr r.off ⟨r.d.toArray⟩ wk (by show r.d.length ≤ _; omega)
  have hf2 : Fp.mayB r.call r.inode r.tr r.off (⟨r.d.toArray⟩ : ByteArray).data.toList = true := hm
  rw [hf2] at HM
  obtain ⟨dn, hdn⟩ : ∃ n, n = r.d.length := ⟨_, rfl⟩
  obtain ⟨s, hs⟩ : ∃ s : ByteArray, s = ⟨r.d.toArray⟩ := ⟨_, rfl⟩
  have hsz : s.size = dn := by rw [hs, hdn]; rfl
  have HSt0 : Hid (RecSt w r (w.alloc (.cells #[.int .i64 r.call, .int .i64 r.inode, .bool r.tr, .int .i64 r.off, .string ⟨r.d.toArray⟩] 112))) := Lib.hid ⟨(Below.refl _ w).alloc (Nat.le_refl _) _, heap_alloc_new w _⟩
  have HBody : Hid (Gd.bodyL r = (putsL 2 (putsL 1 (putsL 8 [] [ca]) [ki, (Gd.trB r.tr).toNat]) [of]) ++ [UInt8.ofNat dn] ++ r.d) := Lib.hid (by
    unfold Gd.bodyL
    rw [hca, hki, hof, hdn]
    simp only [putsL, Gd.le, List.nil_append, Int.toNat_natCast, List.append_assoc, List.cons_append]
    simp)
  have HD : Hid (s = ⟨r.d.toArray⟩ ∧ r.d.length ≤ 64 ∧ dn = r.d.length) := Lib.hid ⟨hs, b6, hdn⟩
  have hdn64 : dn ≤ 64 := by omega
  have hki2 : ki ≤ 32 := by omega
  have hca2 : ca ≤ 1099511627776 := by omega
  have hof2 : of ≤ 256 := by omega
  have htr := (Gd.trB r.tr).toNat_lt
  obtain ⟨tb, htb⟩ : ∃ n, n = (Gd.trB r.tr).toNat := ⟨_, rfl⟩
  rw [← htb] at HBody htr
  have HTr := Lib.hid fun wk => trbit_any r.tr wk
  rw [← htb] at HTr
  have HSx : Hid (∀ wk, RecSt w r wk → wk.cell? ⟨w.heap.size, 0, none⟩ = some (.int .i64 ca) ∧ wk.cell? ⟨w.heap.size, 1, none⟩ = some (.int .i64 ki) ∧ wk.cell? ⟨w.heap.size, 2, none⟩ = some (.bool r.tr) ∧ wk.cell? ⟨w.heap.size, 3, none⟩ = some (.int .i64 of) ∧ wk.cell? ⟨w.heap.size, 4, none⟩ = some (.string s)) := Lib.hid fun wk h => by
    have := h.cells
    rw [hca, hki, hof, ← hs] at this
    exact this
  have hrv : recR r = .agg #[.int .i64 ca, .int .i64 ki, .bool r.tr, .int .i64 of, .string s] := by unfold recR Fl.recV; rw [hca, hki, hof, hs]
  rw [hrv]
  rw [hca, hki, hof, ← hs] at HSt0
  have HMr : Hid (∀ wk, Calls Tryz.prog 77 #[.agg #[.int .i64 ca, .int .i64 ki, .bool r.tr, .int .i64 of, .string s]] wk fun e w' => e = .returned (.bool true) ∧ Below wk.heap.size wk w') := Lib.hid fun wk => by
    have := HM.out wk
    unfold Fl.recV at this
    rw [hca, hki, hof, ← hs] at this
    exact this
  obtain ⟨rt, hrt⟩ : ∃ t, t = r.tr := ⟨_, rfl⟩
  rw [← hrt] at HTr HSt0 HMr HSx ⊢
  obtain ⟨W0, hW0⟩ : ∃ W, W = w.alloc (.cells #[.int .i64 ca, .int .i64 ki, .bool rt, .int .i64 of, .string s] 112) := ⟨_, rfl⟩
  rw [← hW0] at HSt0
  have hc0 := HSx.out _ HSt0.out
  clear HM hf2 hs hrv b0 b1 b2 b3 b4 b5 b6 htb hm hca hki hof hdn hrt
  go_enter Tryz.func60, Tryz.ntmps60
  go_upto_region 1 with fail
  rw [← hW0]
  clear hW0
  obtain ⟨x0, x1, x2, x3, x4⟩ := hc0
  go_upto_region 3 with (go_at_call 77; refine (HMr.out _).mono ?_; rintro e w2 ⟨rfl, hb2⟩)
  have HSt2 := Lib.hid (HSt0.out.next hb2)
  clear hb2 x0 x1 x2 x3 x4 HMr
  obtain ⟨x0, x1, x2, x3, x4⟩ := HSx.out _ HSt2.out
  have HB2 := Lib.hid HSt2.out.1.size
  have HN1 := Lib.hid (clnums_at w2 (.slice none 0 0) _ w.heap.size [] 8 (Or.inr (Or.inr (Or.inr rfl))) [ca] (fun n hn => by simp only [List.mem_singleton] at hn; subst hn; omega) (by simp) HB2.out (ownB_nil _ _) (by simp) _ ((Below.refl _ w2).alloc (Nat.le_refl _) _) (ints_one w2 ca))
  go_upto_region 4 with (go_at_call 78; refine HN1.out.mono ?_; rintro e w3 ⟨v3, rfl, ho3, hb3⟩)
  have HSt3 := Lib.hid (HSt2.out.next hb3)
  have HO3 := Lib.hid ho3
  clear ho3 hb3 x0 x1 x2 x3 x4 HN1
  obtain ⟨x0, x1, x2, x3, x4⟩ := HSx.out _ HSt3.out
  have HB3 := Lib.hid HSt3.out.1.size
  have HN2 := Lib.hid (clnums_at w3 v3 _ w.heap.size _ 1 (Or.inl rfl) [ki, tb] (fun n hn => by simp only [List.mem_cons, List.not_mem_nil, or_false] at hn; rcases hn with rfl | rfl <;> omega) (by simp) HB3.out HO3.out (by rw [putsL_length]; simp) _ (below_drew ((Below.refl _ w3).alloc (Nat.le_refl _) _)) (ints_drew (ints_two w3 ki tb)))
  go_cut [4] from 12 to 19 (fun z wx => Hid (RecSt w r wx) ∧ Hid (OwnB wx w.heap.size z (putsL 1 (putsL 8 [] [ca]) [ki, tb])))
  case first =>
    go_region_with (first | (go_at_call 78; refine HN2.out.mono ?_; rintro e w4 ⟨v4, rfl, ho4, hb4⟩) | (go_at_call 79; refine (HTr.out _).mono ?_; rintro e w4 ⟨rfl, rfl⟩))
    all_goals
      go_wp2_with fail
      go_meet
      exact ⟨Lib.hid (HSt3.out.next hb4), Lib.hid ho4⟩
  case rest =>
  obtain ⟨w4, rfl⟩ : ∃ v, v = wc := ⟨_, rfl⟩
  obtain ⟨HSt4, HO4⟩ := hcut
  clear x0 x1 x2 x3 x4 HN2 HTr
  obtain ⟨x0, x1, x2, x3, x4⟩ := HSx.out _ HSt4.out
  have HB4 := Lib.hid HSt4.out.1.size
  have HN3 := Lib.hid (clnums_at w4 u4 _ w.heap.size _ 2 (Or.inr (Or.inl rfl)) [of] (fun n hn => by simp only [List.mem_singleton] at hn; subst hn; omega) (by simp) HB4.out HO4.out (by rw [putsL_length, putsL_length]; simp) _ ((Below.refl _ w4).alloc (Nat.le_refl _) _) (ints_one w4 of))
  go_upto_region 6 with (go_at_call 78; refine HN3.out.mono ?_; rintro e w5 ⟨v5, rfl, ho5, hb5⟩)
  have HSt5 := Lib.hid (HSt4.out.next hb5)
  have HO5 := Lib.hid ho5
  clear ho5 hb5 x0 x1 x2 x3 x4 HN3
  obtain ⟨x0, x1, x2, x3, x4⟩ := HSx.out _ HSt5.out
  have HB5 := Lib.hid HSt5.out.1.size
  have HN4 := Lib.hid (clnums_at w5 v5 _ w.heap.size _ 1 (Or.inl rfl) [dn] (fun n hn => by simp only [List.mem_singleton] at hn; subst hn; omega) (by simp) HB5.out HO5.out (by rw [putsL_length, putsL_length, putsL_length]; simp) _ ((Below.refl _ w5).alloc (Nat.le_refl _) _) (ints_one w5 dn))
  go_upto_region 7 with (go_at_call 78; refine HN4.out.mono ?_; rintro e w6 ⟨v6, rfl, ho6, hb6⟩)
  have HSt6 := Lib.hid (HSt5.out.next hb6)
  have HO6 := Lib.hid ho6
  clear ho6 hb6 x0 x1 x2 x3 x4 HN4
  obtain ⟨x0, x1, x2, x3, x4⟩ := HSx.out _ HSt6.out
  have HB6 := Lib.hid HSt6.out.1.size
  have HE6 : Hid (putsL 1 (putsL 2 (putsL 1 (putsL 8 [] [ca]) [ki, tb]) [of]) [dn] ++ r.d = Gd.bodyL r) := Lib.hid (by rw [HBody.out]; simp only [putsL, Gd.le])
  have HL6 : Hid ((putsL 1 (putsL 2 (putsL 1 (putsL 8 [] [ca]) [ki, tb]) [of]) [dn]).length + r.d.length ≤ 1000) := Lib.hid (by rw [putsL_length, putsL_length, putsL_length, putsL_length]; have := HD.out.2.1; simp; omega)
  go_upto_region 8 with (at_builtin; refine app_str rfl _ _ rfl w.heap.size v6 _ w6 rfl HO6.out r.d s HD.out.1 rfl (by have := HL6.out; omega) HB6.out ?_; intro v7 w7 ho7 hb7)
  rw [HE6.out] at ho7
  obtain ⟨R, hR⟩ : ∃ R, R = Gd.bodyL r := ⟨_, rfl⟩
  have HEnc : Hid (Gd.encL r = R ++ Gd.le (Gd.crc R) 4 ++ List.replicate (Gd.up8 (R.length + 4) - (R.length + 4)) 0) := Lib.hid (by
    unfold Gd.encL Gd.padL
    rw [Gd.sumL_length]
    unfold Gd.sumL
    rw [← hR, show 17 + r.d.length = R.length + 4 by rw [hR, Gd.bodyL_length]; omega])
  have HRl : Hid (R.length ≤ 1000) := Lib.hid (by rw [hR, Gd.bodyL_length]; have := HD.out.2.1; omega)
  rw [← hR] at ho7
  have HB7 : Hid (Below w.heap.size w w7) := Lib.hid (HSt6.out.1.trans hb7)
  have HO7 := Lib.hid ho7
  clear ho7 hb7 hR x0 x1 x2 x3 x4 HE6 HL6 HO6 HSx
  have hcl := Gd.crc_lt R
  have HCr := Lib.hid (crc_any v7 R w7 HO7.out.at_ (by have := HRl.out; omega))
  obtain ⟨cc, hcc⟩ : ∃ cc, cc = Gd.crc R := ⟨_, rfl⟩
  rw [← hcc] at HCr HEnc hcl
  have hc2 : (cc : Int) < 4294967296 := by omega
  clear hcc
  go_upto_region 9 with (first | (go_at_call 34; refine HCr.out.mono ?_; rintro e w8 ⟨rfl, hb8⟩; have HB8 := Lib.hid (HB7.out.trans (hb8.mono HB7.out.size)); have HO8 := Lib.hid (HO7.out.keep hb8); have HP8 := Lib.hid (putn_any v7 R cc 4 (Or.inr (Or.inr (Or.inl rfl))) (by omega) (by omega) w8 HO8.out.at_ (by have := HRl.out; omega)); clear hb8) | (go_at_call 63; refine HP8.out.mono ?_; rintro e w9 ⟨v9, rfl, ho9, hb9⟩))
  have HO9 := Lib.hid (ho9.mono HB8.out.size)
  have HB9 := Lib.hid (HB8.out.trans (hb9.mono HB8.out.size))
  clear ho9 hb9 HCr HP8
  obtain ⟨A4, c4, rfl, ht4⟩ := HO9.out.at_
  have hl4 : (R ++ Gd.le cc 4).length = R.length + 4 := by rw [List.length_append, Gd.le_length]
  obtain ⟨n, hn⟩ : ∃ n, n = (R ++ Gd.le cc 4).length := ⟨_, rfl⟩
  rw [← hn] at hl4 HO9 ⊢
  have hn2 : n ≤ 1004 := by have := HRl.out; omega
  obtain ⟨u, hu8⟩ : ∃ u, u = Gd.up8 n := ⟨_, rfl⟩
  have hu := Gd.up8_ge n
  have HUp := Lib.hid (up_any n (by omega) w9)
  rw [← hu8] at hu HUp
  obtain ⟨hu1, hu2, -⟩ := hu
  have HRr := Lib.hid hn
  have HE2 : Hid (Gd.encL r = R ++ Gd.le cc 4 ++ List.replicate (u - n) 0) := Lib.hid (by rw [HEnc.out, ← hl4, ← hu8])
  clear ht4 hl4 hu8 hn HEnc
  go_wp2_with fail
  refine HUp.out.mono ?_
  rintro e w10 ⟨rfl, rfl⟩
  clear HUp
  have f1 : (n : Int) ≤ u := by omega
  have f2 : (u : Int) < n + 8 := by omega
  go_wp2_with (at_builtin; refine app_zeros rfl _ _ rfl w.heap.size (.slice A4 n c4) _ w10 rfl HO9.out (u - n) _ rfl (by omega) (by have := HRr.out; omega) HB9.out.size ?_; intro v6 w6 ho6 hb6)
  have HO10 := Lib.hid ho6
  have HB10 := Lib.hid (HB9.out.trans hb6)
  clear ho6 hb6
  go_wp2
  go_ret2
  refine ⟨_, rfl, ?_, HB10.out⟩
  rw [HE2.out]
  exact HO10.out

end Go.Proofs.YtiinponoeaihcaaGreat

/- Walk: bytes.HasPrefix; bytes in a row with room. -/
namespace Go.Proofs.YtiinponoeaihcaaGreat
open Go.RowKit Go.Shelf

attribute [local go_sem] Oper.semAt_some

/-- bytes at a place, with room -/
def BytesC (w : World) (v : Value) (L : List UInt8) : Prop := ∃ b o c, v = .slice (some ⟨b, o, none⟩) L.length c ∧ L.length ≤ c ∧ c ≤ 9223372036854775807 ∧ b < w.heap.size ∧ ∀ (j : Nat) (x : UInt8), L[j]? = some x → w.cell? ⟨b, o + j, none⟩ = some (.int .u8 x.toNat)
theorem BytesC.at_ {w : World} {v : Value} {L : List UInt8} (h : BytesC w v L) : BytesAt w v L := by
  obtain ⟨b, o, c, rfl, _, _, hb, hc⟩ := h
  exact ⟨_, _, rfl, Or.inr ⟨b, o, rfl, hb, hc⟩⟩
theorem BytesC.keep {w w' : World} {v : Value} {L : List UInt8} (h : BytesC w v L) (hb : Below w.heap.size w w') : BytesC w' v L := by
  obtain ⟨b, o, c, rfl, h1, h1b, h2, h3⟩ := h
  exact ⟨b, o, c, rfl, h1, h1b, Nat.lt_of_lt_of_le h2 hb.size, fun j x hx => (hb.cell (p := ⟨b, o + j, none⟩) h2).trans (h3 j x hx)⟩
theorem part_at {w : World} {b o : Nat} {L : List UInt8} (hb : b < w.heap.size) (hc : ∀ (j : Nat) (x : UInt8), L[j]? = some x → w.cell? ⟨b, o + j, none⟩ = some (.int .u8 x.toNat)) (lo m k : Nat) (hk : lo + k ≤ L.length) : BytesAt w (.slice (some ⟨b, o + lo, none⟩) k m) ((L.drop lo).take k) := by
  have hl : ((L.drop lo).take k).length = k := by rw [List.length_take, List.length_drop]; omega
  refine ⟨some ⟨b, o + lo, none⟩, m, by rw [hl], Or.inr ⟨b, o + lo, rfl, hb, fun j x hx => ?_⟩⟩
  have hj : j < k := by rw [← hl]; exact (List.getElem?_eq_some_iff.mp hx).1
  rw [List.getElem?_take, if_pos hj, List.getElem?_drop] at hx
  rw [Nat.add_assoc]
  exact hc (lo + j) x hx
end Go.Proofs.YtiinponoeaihcaaGreat

/- Rows of records. -/
namespace Go.Proofs.YtiinponoeaihcaaGreat
open Go.RowKit Go.Shelf

def recC (r : Gd.Rec) : Array Value := #[.int .i64 r.call, .int .i64 r.inode, .bool r.tr, .int .i64 r.off, .string ⟨r.d.toArray⟩]
theorem Tryz.infoRec : (Tryz.prog.info? 112).map (fun i => (i.zero, i.size, i.bytes)) = some (some (.agg #[.int .i64 0, .int .i64 0, .bool false, .int .i64 0, .string ByteArray.empty]), 5, 48) := by kernel_rfl
theorem Tryz.infoInt8 : (Tryz.prog.info? 3).map (fun i => (i.zero, i.size, i.bytes)) = some (some (.int .i64 0), 1, 8) := by kernel_rfl
def recsC (l : List Gd.Rec) : List Value := l.flatMap fun r => (recC r).toList
def endsC (l : List Nat) : List Value := l.map fun (n : Nat) => .int .i64 n
theorem recsC_snoc (l : List Gd.Rec) (r : Gd.Rec) : recsC (l ++ [r]) = recsC l ++ (recC r).toList := by
  unfold recsC
  rw [List.flatMap_append]
  simp
theorem endsC_snoc (l : List Nat) (n : Nat) : endsC (l ++ [n]) = endsC l ++ [.int .i64 n] := by
  unfold endsC
  rw [List.map_append]
  rfl
theorem row_other {w w' : World} {B B' e e' s s' n m : Nat} {u v : Value} {xs ys : List Value} (hu : w.ownsRow B e s u n xs) (hv : w.ownsRow B' e' s' v m ys) (hne : e ≠ e') (hg : w.grownBy w' u.ownBlock) : w'.ownsRow B' e' s' v m ys :=
  ⟨hv.1, hv.2.imp id fun ⟨q, cap, cur, hvq, hB, hgq, hr⟩ => ⟨q, cap, cur, hvq, hB, (hg.block q (lt_get hgq) (fun e1 => by
    rcases hu.2 with ⟨hu1, _⟩ | ⟨q2, cap2, cur2, hu1, _, hgq2, _⟩
    · rw [hu1] at e1; cases e1
    · rw [hu1] at e1
      have : q = q2 := by simpa [Value.ownBlock] using e1
      subst this
      rw [hgq] at hgq2
      cases hgq2
      exact hne rfl)).trans hgq, hr⟩⟩
theorem cells_new5 (w : World) (a b c d e : Value) (t : TypeId) : ∀ j u, [a, b, c, d, e][j]? = some u → (w.alloc (.cells #[a, b, c, d, e] t)).cell? ((⟨w.heap.size, 0, none⟩ : Addr).add j) = some u := by
  intro j u hj
  have h := cell_of_row (w.alloc (.cells #[a, b, c, d, e] t)) w.heap.size j #[a, b, c, d, e] t _ (heap_alloc_new w _)
  rw [Addr.add_lit, Nat.zero_add, h]
  simpa using hj
end Go.Proofs.YtiinponoeaihcaaGreat

/- A packet's cells; the reader of packets: number, text. -/
namespace Go.Proofs.YtiinponoeaihcaaGreat
open Go.RowKit Go.Shelf

attribute [local go_sem] Oper.semAt_some

/-- a packet -/
structure Pk where
  kd : Int := 0
  cl : Int := 0
  ep : Int := 0
  sq : Int := 0
  op : Int := 0
  at_ : Int := 0
  n : Int := 0
  d : ByteArray := ⟨#[]⟩
  old : Int := 0
  new : Int := 0
  ck : Int := 0
  p1 : ByteArray := ⟨#[]⟩
  p2 : ByteArray := ⟨#[]⟩
  fl : Int := 0
  fd : Int := 0
  off : Int := 0
  cn : Int := 0
  cd : ByteArray := ⟨#[]⟩
  ino : Int := 0
  er : Int := 0
  re : Int := 0
  rfd : Int := 0
  rd : ByteArray := ⟨#[]⟩
  nv : Value := .slice none 0 0
  ik : Int := 0
  il : Int := 0
  isz : Int := 0
  wr : Int := 0
  nk : Int := 0
  nl : Int := 0
  ns : Int := 0
  b0 : Int := 0
  b1 : Int := 0
  b2 : Int := 0
  b3 : Int := 0
  o0 : Int := 0
  o1 : Int := 0
  o2 : Int := 0
  o3 : Int := 0
  o4 : Int := 0
  o5 : Int := 0
  o6 : Int := 0
  o7 : Int := 0
def pkC (p : Pk) : Array Value := #[.int .i64 p.kd, .int .i64 p.cl, .int .i64 p.ep, .int .i64 p.sq, .int .i64 p.op, .int .i64 p.at_, .int .i64 p.n, .string p.d, .int .i64 p.old, .int .i64 p.new, .int .i64 p.ck, .string p.p1, .string p.p2, .int .i64 p.fl, .int .i64 p.fd, .int .i64 p.off, .int .i64 p.cn, .string p.cd, .int .i64 p.ino, .int .i64 p.er, .int .i64 p.re, .int .i64 p.rfd, .string p.rd, p.nv, .int .i64 p.ik, .int .i64 p.il, .int .i64 p.isz, .int .i64 p.wr, .int .i64 p.nk, .int .i64 p.nl, .int .i64 p.ns, .int .i64 p.b0, .int .i64 p.b1, .int .i64 p.b2, .int .i64 p.b3, .int .i64 p.o0, .int .i64 p.o1, .int .i64 p.o2, .int .i64 p.o3, .int .i64 p.o4, .int .i64 p.o5, .int .i64 p.o6, .int .i64 p.o7]
theorem Tryz.sizePk : (Tryz.prog.info? 41).map (fun i => i.size) = some 43 := by kernel_rfl

/-- what a reader has left, and whether it is odd -/
abbrev Rs := List UInt8 × Bool
def rok (s : Rs) (k : Nat) : Bool := Gd.getB s.1 0 k && !s.2
def rn (s : Rs) (k : Nat) : Int := if rok s k = true then Gd.get s.1 0 k else 0
def rs (s : Rs) (k : Nat) : Rs := if rok s k = true then (s.1.drop k, false) else (s.1, true)
/-- a reader at r over the bytes from o on in block b -/
structure RdrAt (w : World) (r b o c : Nat) (s : Rs) : Prop where
  obj : w.heap[r]? = some (.cells #[.slice (some ⟨b, o, none⟩) s.1.length c, .bool s.2] 86 (0, 0))
  ne : b ≠ r
  lt : b < w.heap.size
  le : s.1.length + 4 ≤ c
  cap : c ≤ 9223372036854775807
  small : s.1.length ≤ 900000
  cell : ∀ (j : Nat) (x : UInt8), s.1[j]? = some x → w.cell? ⟨b, o + j, none⟩ = some (.int .u8 x.toNat)
theorem RdrAt.bytes {w : World} {r b o c : Nat} {s : Rs} (h : RdrAt w r b o c s) : BytesAt w (.slice (some ⟨b, o, none⟩) s.1.length c) s.1 := ⟨_, c, rfl, Or.inr ⟨b, o, rfl, h.lt, h.cell⟩⟩
theorem RdrAt.below {w w' : World} {r b o c : Nat} {s : Rs} (h : RdrAt w r b o c s) (hb : Below w.heap.size w w') : RdrAt w' r b o c s :=
  ⟨(hb.block r (lt_get h.obj)).trans h.obj, h.ne, Nat.lt_of_lt_of_le h.lt hb.size, h.le, h.cap, h.small, fun j x hx => (hb.cell (p := ⟨b, o + j, none⟩) h.lt).trans (h.cell j x hx)⟩
/-- another object is written -/
theorem RdrAt.other {w : World} {r b o c g i : Nat} {s : Rs} {v : Value} (h : RdrAt w r b o c s) (h1 : g ≠ r) (h2 : g ≠ b) : RdrAt (w.setCell ⟨g, i, none⟩ v) r b o c s :=
  ⟨(Go.heap_setCell_other w ⟨g, i, none⟩ r v fun e => h1 e.symm).trans h.obj, h.ne, by simpa using h.lt, h.le, h.cap, h.small, fun j x hx => (World.cell?_of_block (Go.heap_setCell_other w ⟨g, i, none⟩ b v fun e => h2 e.symm)).trans (h.cell j x hx)⟩
theorem rs_length {s : Rs} {k : Nat} : (rs s k).1.length ≤ s.1.length := by
  unfold rs
  split
  · show (s.1.drop k).length ≤ _
    rw [List.length_drop]
    omega
  · exact Nat.le_refl _
set_option maxHeartbeats 4000000 in
set_option maxRecDepth 100000 in
theorem rnum_any (k : Nat) (hk : Gd.wid k) {r b o c : Nat} {s : Rs} (w : World) (h : RdrAt w r b o c s) :
    Calls Tryz.prog 35 #[.pointer (some ⟨r, 0, none⟩), .int .i64 k] w fun e w' => e = .returned (.int .i64 (rn s k)) ∧ (∃ o' c', RdrAt w' r b o' c' (rs s k)) ∧ Only (fun q => q = r) w w' := by
  obtain ⟨L, od⟩ := s
  have hk8 : k ≤ 8 := by rcases hk with rfl | rfl | rfl | rfl <;> omega
  have hll := h.small
  dsimp only at hll
  have HG := get_any (.slice (some ⟨b, o, none⟩) L.length c) L ((0 : Nat) : Int) k hk (nat_I64 (by omega)) w h.bytes (by omega)
  obtain ⟨gb, hgb⟩ : ∃ gb, gb = Gd.getB L ((0 : Nat) : Int) k := ⟨_, rfl⟩
  obtain ⟨x, hx⟩ : ∃ x, x = Gd.get L ((0 : Nat) : Int) k := ⟨_, rfl⟩
  have hlen : gb = true → k ≤ L.length := fun h => by
    rw [hgb] at h
    unfold Gd.getB at h
    simp only [Bool.and_eq_true, decide_eq_true_eq] at h
    omega
  rw [← hgb, ← hx] at HG
  have HG := Lib.hid HG
  have H := Lib.hid h
  have HX := Lib.hid (And.intro hgb hx)
  have HLn := Lib.hid hlen
  have hcp := h.le
  dsimp only at hcp
  obtain ⟨n, hn⟩ : ∃ n, n = L.length := ⟨_, rfl⟩
  have hobj : w.heap[r]? = some (.cells #[.slice (some ⟨b, o, none⟩) n c, .bool od] 86 (0, 0)) := by rw [hn]; exact h.obj
  rw [← hn] at HG hcp hlen
  have c0 := cell_of_row w r 0 _ _ _ hobj
  have c1 := cell_of_row w r 1 _ _ _ hobj
  have f0 := frozen_of_row w r 0 _ _ hobj
  have f1 := frozen_of_row w r 1 _ _ hobj
  have HO := Lib.hid hobj
  have Hn := Lib.hid hn
  have hc64 := h.cap
  clear h hll hgb hx hn hobj
  by_cases hg : gb = true ∧ od = false
  · obtain ⟨rfl, rfl⟩ := hg
    have hok : rok (L, false) k = true := by
      have h1 := HX.out.1
      unfold rok
      show (Gd.getB L 0 k && !false) = true
      rw [show (0 : Int) = ((0 : Nat) : Int) from rfl, ← h1]
      rfl
    have hkn := hlen rfl
    have hkn2 : (k : Int) ≤ n := by omega
    have hck : ¬ c = k := by omega
    have hck2 : (k : Int) ≤ c := by omega
    have HOk := Lib.hid hok
    have HKn := Lib.hid hkn
    clear hok hlen hkn
    go_enter Tryz.func35, Tryz.ntmps35
    go_upto_region 2 with (go_at_call 33; refine HG.out.mono ?_; rintro e w1 ⟨rfl, rfl⟩)
    go_wp2_with fail
    go_ret
    refine ⟨by rw [rn, if_pos HOk.out]; exact congrArg (fun z => Ending.returned (.int .i64 z)) HX.out.2, ⟨o + k, c - k, ?_⟩, only_setCell _ _ _ rfl⟩
    have hn := Hn.out
    have hkn := HKn.out
    rw [rs, if_pos HOk.out]
    refine ⟨?_, H.out.ne, by simpa using H.out.lt, by show (L.drop k).length + 4 ≤ c - k; rw [List.length_drop]; omega, by omega, by show (L.drop k).length ≤ _; rw [List.length_drop]; have := H.out.small; dsimp only at this; omega, fun j y hy => ?_⟩
    · refine (Go.heap_setCell_same w1 r 0 _ _ _ HO.out).trans ?_
      show _ = some (Obj.cells #[.slice (some ⟨b, o + k, none⟩) (L.drop k).length (c - k), .bool false] _ _)
      rw [List.length_drop, ← hn]
      rfl
    · have hy' : L[k + j]? = some y := by rw [← List.getElem?_drop]; exact hy
      have h2 := H.out.cell (k + j) y hy'
      rw [show o + (k + j) = o + k + j by omega] at h2
      exact (World.cell?_of_block (Go.heap_setCell_other w1 ⟨r, 0, none⟩ b _ fun e => H.out.ne e)).trans h2
  · have hok : rok (L, od) k = false := by
      unfold rok
      show (Gd.getB L 0 k && !od) = false
      rw [show (0 : Int) = ((0 : Nat) : Int) from rfl, ← HX.out.1]
      cases gb <;> cases od <;> first | rfl | exact absurd ⟨rfl, rfl⟩ hg
    have HOk := Lib.hid hok
    have HFin : Hid (RdrAt (w.setCell ⟨r, 1, none⟩ (.bool true)) r b o c (rs (L, od) k)) := Lib.hid (by
      rw [rs, if_neg (by rw [hok]; exact Bool.false_ne_true)]
      refine ⟨?_, H.out.ne, by simpa using H.out.lt, H.out.le, H.out.cap, H.out.small, fun j y hy => (World.cell?_of_block (Go.heap_setCell_other w ⟨r, 1, none⟩ b _ fun e => H.out.ne e)).trans (H.out.cell j y hy)⟩
      exact (Go.heap_setCell_same w r 1 _ _ _ H.out.obj).trans rfl)
    clear hok hlen hcp
    cases gb with
    | false =>
      clear hg
      go_enter Tryz.func35, Tryz.ntmps35
      go_upto_region 2 with (go_at_call 33; refine HG.out.mono ?_; rintro e w1 ⟨rfl, rfl⟩)
      go_wp2_with fail
      go_ret
      exact ⟨by rw [rn, if_neg (by rw [HOk.out]; exact Bool.false_ne_true)]; rfl, ⟨o, c, HFin.out⟩, only_setCell _ _ _ rfl⟩
    | true =>
      cases od with
      | false => exact absurd ⟨rfl, rfl⟩ hg
      | true =>
        clear hg
        go_enter Tryz.func35, Tryz.ntmps35
        go_upto_region 2 with (go_at_call 33; refine HG.out.mono ?_; rintro e w1 ⟨rfl, rfl⟩)
        go_wp2_with fail
        go_ret
        exact ⟨by rw [rn, if_neg (by rw [HOk.out]; exact Bool.false_ne_true)]; rfl, ⟨o, c, HFin.out⟩, only_setCell _ _ _ rfl⟩
end Go.Proofs.YtiinponoeaihcaaGreat

/- The reader of packets: text. -/
namespace Go.Proofs.YtiinponoeaihcaaGreat
open Go.RowKit Go.Shelf

attribute [local go_sem] Oper.semAt_some

theorem rn_ge (s : Rs) (k : Nat) : ∃ N : Nat, rn s k = N := by
  unfold rn
  split
  · unfold Gd.get
    split
    · exact ⟨_, rfl⟩
    · exact ⟨0, rfl⟩
  · exact ⟨0, rfl⟩
theorem rn_lt {s : Rs} {k : Nat} : rn s k < ((256 ^ k : Nat) : Int) := by
  have h0 : (0 : Int) < ((256 ^ k : Nat) : Int) := Int.ofNat_lt.2 (Nat.pow_pos (by decide))
  unfold rn
  split
  · unfold Gd.get
    split
    · exact Int.ofNat_lt.2 (getN_lt s.1 (0 : Int).toNat k)
    · exact h0
  · exact h0
def tok (s : Rs) (k most : Nat) : Bool := decide (rn s k ≤ most) && (decide (rn s k ≤ ((rs s k).1.length : Int)) && !(rs s k).2)
def tn (s : Rs) (k most : Nat) : ByteArray := if tok s k most = true then ⟨((rs s k).1.take (rn s k).toNat).toArray⟩ else ⟨#[]⟩
def ts (s : Rs) (k most : Nat) : Rs := if tok s k most = true then ((rs s k).1.drop (rn s k).toNat, false) else ((rs s k).1, true)
theorem tn_size (s : Rs) (k most : Nat) : (tn s k most).size ≤ most := by
  unfold tn
  split
  · rename_i h
    unfold tok at h
    simp only [Bool.and_eq_true, decide_eq_true_eq] at h
    show ((rs s k).1.take (rn s k).toNat).toArray.size ≤ most
    rw [List.size_toArray, List.length_take]
    omega
  · exact Nat.zero_le _
set_option maxHeartbeats 8000000 in
set_option maxRecDepth 100000 in
theorem rtext_any (k most : Nat) (hk : Gd.wid k) (hm : most ≤ 1000) {r b o c : Nat} {s : Rs} (w : World) (h : RdrAt w r b o c s) :
    Calls Tryz.prog 71 #[.pointer (some ⟨r, 0, none⟩), .int .i64 k, .int .i64 most] w fun e w' => e = .returned (.string (tn s k most)) ∧ (∃ o' c', RdrAt w' r b o' c' (ts s k most)) ∧ Only (fun q => q = r) w w' := by
  obtain ⟨N, hN⟩ := rn_ge s k
  obtain ⟨s1, hs1⟩ : ∃ s1, s1 = rs s k := ⟨_, rfl⟩
  have HNm := Lib.hid (rnum_any k hk w h)
  rw [hN, ← hs1] at HNm
  obtain ⟨S, hS⟩ : ∃ S, S = tn s k most := ⟨_, rfl⟩
  obtain ⟨s2, hs2⟩ : ∃ s2, s2 = ts s k most := ⟨_, rfl⟩
  have htk : tok s k most = (decide ((N : Int) ≤ most) && (decide ((N : Int) ≤ (s1.1.length : Int)) && !s1.2)) := by
    unfold tok
    rw [hN, ← hs1]
  unfold tn at hS
  unfold ts at hs2
  rw [← hs1, hN, htk, Int.toNat_natCast] at hS hs2
  have HS := Lib.hid (And.intro hS hs2)
  rw [show tn s k most = S by rw [hS, tn, ← hs1, hN, htk, Int.toNat_natCast], show ts s k most = s2 by rw [hs2, ts, ← hs1, hN, htk, Int.toNat_natCast]]
  clear h hN hs1 hS hs2 htk
  go_enter Tryz.func71, Tryz.ntmps71
  go_wp2_with fail
  refine HNm.out.mono ?_
  rintro e w1 ⟨rfl, ⟨o1, c1, h1⟩, hO1⟩
  obtain ⟨L, od⟩ := s1
  have H1 := Lib.hid h1
  have HO1 := Lib.hid hO1
  have hll := h1.small
  have hlc := h1.le
  dsimp only at hll hlc
  obtain ⟨n, hn⟩ : ∃ n, n = L.length := ⟨_, rfl⟩
  have hobj : w1.heap[r]? = some (.cells #[.slice (some ⟨b, o1, none⟩) n c1, .bool od] 86 (0, 0)) := by rw [hn]; exact h1.obj
  rw [← hn] at hll hlc
  have c0 : w1.cell? ⟨r, 0, none⟩ = some (.slice (some ⟨b, o1, none⟩) n c1) := cell_of_row w1 r 0 _ _ _ hobj
  have c1' : w1.cell? ⟨r, 1, none⟩ = some (.bool od) := cell_of_row w1 r 1 _ _ _ hobj
  have f0 := frozen_of_row w1 r 0 _ _ hobj
  have f1 := frozen_of_row w1 r 1 _ _ hobj
  have Hn := Lib.hid hn
  have HObj := Lib.hid hobj
  have hcap := h1.cap
  dsimp only at HS
  have HBad : Hid ((decide ((N : Int) ≤ most) && (decide ((N : Int) ≤ (L.length : Int)) && !od)) = false → S = ⟨#[]⟩ ∧ (∃ o' c', RdrAt (w1.setCell ⟨r, 1, none⟩ (.bool true)) r b o' c' s2) ∧ Only (fun q => q = r) w (w1.setCell ⟨r, 1, none⟩ (.bool true))) := Lib.hid fun hb => by
    rw [hb] at HS
    refine ⟨HS.out.1, ⟨o1, c1, ?_⟩, HO1.out.trans (only_setCell (F := fun q => q = r) _ _ _ rfl) fun _ _ e => e⟩
    rw [HS.out.2]
    refine ⟨?_, H1.out.ne, by simpa using H1.out.lt, H1.out.le, H1.out.cap, H1.out.small, fun j y hy => (World.cell?_of_block (Go.heap_setCell_other w1 ⟨r, 1, none⟩ b _ fun e => H1.out.ne e)).trans (H1.out.cell j y hy)⟩
    exact (Go.heap_setCell_same w1 r 1 _ _ _ H1.out.obj).trans rfl
  clear h1 hO1 HNm hn hobj
  by_cases g1 : N ≤ most
  rotate_left
  · have g1' : ¬ (N : Int) ≤ most := by omega
    have g1'' : (most : Int) < N := by omega
    have hb := HBad.out (by rw [decide_eq_false g1']; rfl)
    have HB := Lib.hid hb
    clear hb g1
    go_wp2_with fail
    go_ret
    exact ⟨by rw [HB.out.1]; rfl, HB.out.2⟩
  by_cases g2 : N ≤ n
  rotate_left
  · have g1' : ¬ (most : Int) < N := by omega
    have g2' : (n : Int) < N := by omega
    have hb := HBad.out (by rw [decide_eq_false (show ¬ (N : Int) ≤ (L.length : Int) by have := Hn.out; omega)]; simp)
    have HB := Lib.hid hb
    clear hb g1 g2
    go_wp2_with fail
    go_ret
    exact ⟨by rw [HB.out.1]; rfl, HB.out.2⟩
  have g1' : ¬ (most : Int) < N := by omega
  have g2' : ¬ (n : Int) < N := by omega
  cases od with
  | true =>
    have hb := HBad.out (by simp)
    have HB := Lib.hid hb
    clear hb g1 g2
    go_wp2_with fail
    go_ret
    exact ⟨by rw [HB.out.1]; rfl, HB.out.2⟩
  | false =>
    have HG := Lib.hid (And.intro g1 g2)
    have hgood : (decide ((N : Int) ≤ most) && (decide ((N : Int) ≤ (L.length : Int)) && !false)) = true := by
      rw [decide_eq_true (show (N : Int) ≤ most by omega), decide_eq_true (show (N : Int) ≤ (L.length : Int) by have := Hn.out; omega)]
      rfl
    rw [hgood] at HS
    have hN1 : (N : Int) ≤ c1 := by omega
    have hN2 : ¬ c1 = N := by omega
    have hN3 : (N : Int) ≤ n := by omega
    have hcv := conv_any (.slice (some ⟨b, o1, none⟩) N c1) (L.take N) w1 (by
      have := part_at H1.out.lt H1.out.cell 0 c1 N (by have := Hn.out; show 0 + N ≤ L.length; omega)
      rw [Nat.add_zero, List.drop_zero] at this
      exact this)
    have hSe : S = ⟨(L.take N).toArray⟩ := HS.out.1
    rw [← hSe] at hcv
    have HSe := Lib.hid HS.out.2
    clear HBad hgood g1 g2 hSe HS
    go_wp2_with fail
    go_ret
    refine ⟨rfl, ⟨o1 + N, c1 - N, ?_⟩, HO1.out.trans (only_setCell (F := fun q => q = r) _ _ _ rfl) fun _ _ e => e⟩
    have hn := Hn.out
    have hkn := HG.out.2
    rw [HSe.out]
    refine ⟨?_, H1.out.ne, by simpa using H1.out.lt, by show (L.drop N).length + 4 ≤ c1 - N; rw [List.length_drop]; omega, by omega, by show (L.drop N).length ≤ _; rw [List.length_drop]; have := H1.out.small; dsimp only at this; omega, fun j y hy => ?_⟩
    · refine (Go.heap_setCell_same w1 r 0 _ _ _ HObj.out).trans ?_
      show _ = some (Obj.cells #[.slice (some ⟨b, o1 + N, none⟩) (L.drop N).length (c1 - N), .bool false] _ _)
      rw [List.length_drop, ← hn]
      rfl
    · have hy' : L[N + j]? = some y := by rw [← List.getElem?_drop]; exact hy
      have h2 := H1.out.cell (N + j) y hy'
      rw [show o1 + (N + j) = o1 + N + j by omega] at h2
      exact (World.cell?_of_block (Go.heap_setCell_other w1 ⟨r, 0, none⟩ b _ fun e => H1.out.ne e)).trans h2
end Go.Proofs.YtiinponoeaihcaaGreat

/- The reader of packets: what follows the head of an answer. -/
namespace Go.Proofs.YtiinponoeaihcaaGreat
open Go.RowKit Go.Shelf

attribute [local go_sem] Oper.semAt_some

def PkAt (w : World) (pb : Nat) (p : Pk) : Prop := w.heap[pb]? = some (.cells (pkC p) 41 (0, 0))
/-- a reader, and the packet that it reads -/
structure RP (w0 : World) (r pb b : Nat) (s : Rs) (p : Pk) (w : World) : Prop where
  rd : ∃ o c, RdrAt w r b o c s
  pk : PkAt w pb p
  ne : pb ≠ r ∧ pb ≠ b
  only : Only (fun q => q = r ∨ q = pb) w0 w
section
variable {w0 w : World} {r pb b : Nat} {s : Rs} {p p' : Pk}
theorem RP.num (h : RP w0 r pb b s p w) (k : Nat) (hk : Gd.wid k) :
    Calls Tryz.prog 35 #[.pointer (some ⟨r, 0, none⟩), .int .i64 k] w fun e w' => e = .returned (.int .i64 (rn s k)) ∧ RP w0 r pb b (rs s k) p w' := by
  obtain ⟨⟨o, c, h1⟩, h2, h3, h4⟩ := h
  refine (rnum_any k hk w h1).mono ?_
  rintro e w' ⟨he, hr, hO⟩
  exact ⟨he, hr, (hO.block pb (lt_get h2) h3.1).trans h2, h3, h4.trans hO fun _ _ e => Or.inl e⟩
theorem RP.text (h : RP w0 r pb b s p w) (k most : Nat) (hk : Gd.wid k) (hm : most ≤ 1000) :
    Calls Tryz.prog 71 #[.pointer (some ⟨r, 0, none⟩), .int .i64 k, .int .i64 most] w fun e w' => e = .returned (.string (tn s k most)) ∧ RP w0 r pb b (ts s k most) p w' := by
  obtain ⟨⟨o, c, h1⟩, h2, h3, h4⟩ := h
  refine (rtext_any k most hk hm w h1).mono ?_
  rintro e w' ⟨he, hr, hO⟩
  exact ⟨he, hr, (hO.block pb (lt_get h2) h3.1).trans h2, h3, h4.trans hO fun _ _ e => Or.inl e⟩
theorem RP.set (h : RP w0 r pb b s p w) {i : Nat} {v : Value} (hC : pkC p' = (pkC p).setIfInBounds i v) : RP w0 r pb b s p' (w.setCell ⟨pb, i, none⟩ v) := by
  obtain ⟨⟨o, c, h1⟩, h2, h3, h4⟩ := h
  refine ⟨⟨o, c, h1.other h3.1 h3.2⟩, ?_, h3, h4.trans (only_setCell (F := fun q => q = r ∨ q = pb) _ _ _ (Or.inr rfl)) fun _ _ e => e⟩
  unfold PkAt
  rw [hC]
  exact Go.heap_setCell_same w pb i _ _ _ h2
theorem RP.at_ (h : RP w0 r pb b s p w) (i : Nat) : w.cell? ⟨pb, i, none⟩ = (pkC p)[i]? ∧ w.frozen? ⟨pb, i, none⟩ = false := ⟨cell_of_row w pb i _ _ _ h.pk, frozen_of_row w pb i _ _ h.pk⟩
/-- the reader is told to be odd, or not -/
theorem RP.odd (h : RP w0 r pb b s p w) (q : Bool) : RP w0 r pb b (s.1, q) p (w.setCell ⟨r, 1, none⟩ (.bool q)) := by
  obtain ⟨⟨o, c, h1⟩, h2, h3, h4⟩ := h
  refine ⟨⟨o, c, ⟨(Go.heap_setCell_same w r 1 _ _ _ h1.obj).trans rfl, h1.ne, by simpa using h1.lt, h1.le, h1.cap, h1.small, fun j y hy => (World.cell?_of_block (Go.heap_setCell_other w ⟨r, 1, none⟩ b _ fun e => h1.ne e)).trans (h1.cell j y hy)⟩⟩, (Go.heap_setCell_other w ⟨r, 1, none⟩ pb _ h3.1).trans h2, h3, h4.trans (only_setCell (F := fun q => q = r ∨ q = pb) _ _ _ (Or.inl rfl)) fun _ _ e => e⟩
theorem RP.odd_at (h : RP w0 r pb b s p w) : w.cell? ⟨r, 1, none⟩ = some (.bool s.2) ∧ w.frozen? ⟨r, 1, none⟩ = false := by
  obtain ⟨⟨o, c, h1⟩, -⟩ := h
  exact ⟨cell_of_row w r 1 _ _ _ h1.obj, frozen_of_row w r 1 _ _ h1.obj⟩
end
set_option maxHeartbeats 1000000 in
theorem wverb_any (x : Int) (w : World) : Calls Tryz.prog 72 #[.int .i64 x] w fun e w' => e = .returned (.bool (decide (1 ≤ x ∧ x ≤ 4))) ∧ w' = w := by
  by_cases h1 : 1 ≤ x
  · by_cases h2 : x ≤ 4
    · rw [decide_eq_true ⟨h1, h2⟩]
      go_enter Tryz.func72, Tryz.ntmps72
      go_wp2_with fail
      go_ret
      exact ⟨rfl, rfl⟩
    · rw [decide_eq_false fun h => h2 h.2]
      go_enter Tryz.func72, Tryz.ntmps72
      go_wp2_with fail
      go_ret
      exact ⟨rfl, rfl⟩
  · rw [decide_eq_false fun h => h1 h.1]
    go_enter Tryz.func72, Tryz.ntmps72
    go_wp2_with fail
    go_ret
    exact ⟨rfl, rfl⟩
/-- what is read of a verb's answer -/
def vtS (s : Rs) : Rs := rs (ts (rs (rs s 1) 1) 2 128) 8
def vtP (s : Rs) (p : Pk) : Pk := { p with op := rn s 1, er := rn (rs s 1) 1, d := tn (rs (rs s 1) 1) 2 128, old := rn (ts (rs (rs s 1) 1) 2 128) 8 }
def vtE (s : Rs) : Rs := ((vtS s).1, (vtS s).2 || !decide (1 ≤ rn s 1 ∧ rn s 1 ≤ 4))
set_option maxHeartbeats 8000000 in
set_option maxRecDepth 100000 in
theorem rvt_any {r pb b : Nat} {s0 : Rs} {p0 : Pk} (w : World) (h : RP w r pb b s0 p0 w) :
    Calls Tryz.prog 38 #[.pointer (some ⟨r, 0, none⟩), .pointer (some ⟨pb, 0, none⟩)] w fun e w' => e = .returned (.tuple #[]) ∧ RP w r pb b (vtE s0) (vtP s0 p0) w' := by
  have H0 := Lib.hid h
  clear h
  go_enter Tryz.func38, Tryz.ntmps38
  have hN := H0.out.num 1 (Or.inl rfl)
  obtain ⟨x0, hx0⟩ : ∃ x, x = rn s0 1 := ⟨_, rfl⟩
  obtain ⟨s1, hs1⟩ : ∃ s, s = rs s0 1 := ⟨_, rfl⟩
  rw [← hx0, ← hs1] at hN
  have HX0 := Lib.hid hx0
  have HS1 := Lib.hid hs1
  have HN := Lib.hid hN
  clear hN hx0 hs1
  go_wp2_with fail
  refine HN.out.mono ?_
  rintro e wm ⟨rfl, hm⟩
  have Hm := Lib.hid hm
  have cf := hm.at_ 4
  obtain ⟨cf1, cf2⟩ := cf
  have cf1' : wm.cell? ⟨pb, 4, none⟩ = some (.int .i64 p0.op) := cf1
  clear hm HN cf1
  go_upto_region 1 with fail
  obtain ⟨w1, hw⟩ : ∃ u, u = wm.setCell ⟨pb, 4, none⟩ (.int .i64 x0) := ⟨_, rfl⟩
  rw [← hw]
  obtain ⟨p1, hp1⟩ : ∃ q, q = { p0 with op := x0 } := ⟨_, rfl⟩
  have H1 : Hid (RP w r pb b s1 p1 w1) := Lib.hid (by rw [hw, hp1]; exact Hm.out.set rfl)
  have HP1 := Lib.hid hp1
  clear hw cf1' cf2 hp1 Hm
  have hN := H1.out.num 1 (Or.inl rfl)
  obtain ⟨x1, hx1⟩ : ∃ x, x = rn s1 1 := ⟨_, rfl⟩
  obtain ⟨s2, hs2⟩ : ∃ s, s = rs s1 1 := ⟨_, rfl⟩
  rw [← hx1, ← hs2] at hN
  have HX1 := Lib.hid hx1
  have HS2 := Lib.hid hs2
  have HN := Lib.hid hN
  clear hN hx1 hs2
  go_wp2_with fail
  refine HN.out.mono ?_
  rintro e wm ⟨rfl, hm⟩
  have Hm := Lib.hid hm
  have cf := hm.at_ 19
  obtain ⟨cf1, cf2⟩ := cf
  have cf1' : wm.cell? ⟨pb, 19, none⟩ = some (.int .i64 p1.er) := cf1
  clear hm HN cf1
  go_upto_region 2 with fail
  obtain ⟨w2, hw⟩ : ∃ u, u = wm.setCell ⟨pb, 19, none⟩ (.int .i64 x1) := ⟨_, rfl⟩
  rw [← hw]
  obtain ⟨p2, hp2⟩ : ∃ q, q = { p1 with er := x1 } := ⟨_, rfl⟩
  have H2 : Hid (RP w r pb b s2 p2 w2) := Lib.hid (by rw [hw, hp2]; exact Hm.out.set rfl)
  have HP2 := Lib.hid hp2
  clear hw cf1' cf2 hp2 Hm
  have hN := H2.out.text 2 128 (Or.inr (Or.inl rfl)) (by omega)
  obtain ⟨x2, hx2⟩ : ∃ x, x = tn s2 2 128 := ⟨_, rfl⟩
  obtain ⟨s3, hs3⟩ : ∃ s, s = ts s2 2 128 := ⟨_, rfl⟩
  rw [← hx2, ← hs3] at hN
  have HX2 := Lib.hid hx2
  have HS3 := Lib.hid hs3
  have HN := Lib.hid hN
  clear hN hx2 hs3
  go_wp2_with fail
  refine HN.out.mono ?_
  rintro e wm ⟨rfl, hm⟩
  have Hm := Lib.hid hm
  have cf := hm.at_ 7
  obtain ⟨cf1, cf2⟩ := cf
  have cf1' : wm.cell? ⟨pb, 7, none⟩ = some (.string p2.d) := cf1
  clear hm HN cf1
  go_upto_region 3 with fail
  obtain ⟨w3, hw⟩ : ∃ u, u = wm.setCell ⟨pb, 7, none⟩ (.string x2) := ⟨_, rfl⟩
  rw [← hw]
  obtain ⟨p3, hp3⟩ : ∃ q, q = { p2 with d := x2 } := ⟨_, rfl⟩
  have H3 : Hid (RP w r pb b s3 p3 w3) := Lib.hid (by rw [hw, hp3]; exact Hm.out.set rfl)
  have HP3 := Lib.hid hp3
  clear hw cf1' cf2 hp3 Hm
  have hN := H3.out.num 8 (Or.inr (Or.inr (Or.inr rfl)))
  obtain ⟨x3, hx3⟩ : ∃ x, x = rn s3 8 := ⟨_, rfl⟩
  obtain ⟨s4, hs4⟩ : ∃ s, s = rs s3 8 := ⟨_, rfl⟩
  rw [← hx3, ← hs4] at hN
  have HX3 := Lib.hid hx3
  have HS4 := Lib.hid hs4
  have HN := Lib.hid hN
  clear hN hx3 hs4
  go_wp2_with fail
  refine HN.out.mono ?_
  rintro e wm ⟨rfl, hm⟩
  have Hm := Lib.hid hm
  have cf := hm.at_ 8
  obtain ⟨cf1, cf2⟩ := cf
  have cf1' : wm.cell? ⟨pb, 8, none⟩ = some (.int .i64 p3.old) := cf1
  clear hm HN cf1
  go_upto_region 4 with fail
  obtain ⟨w4, hw⟩ : ∃ u, u = wm.setCell ⟨pb, 8, none⟩ (.int .i64 x3) := ⟨_, rfl⟩
  rw [← hw]
  obtain ⟨p4, hp4⟩ : ∃ q, q = { p3 with old := x3 } := ⟨_, rfl⟩
  have H4 : Hid (RP w r pb b s4 p4 w4) := Lib.hid (by rw [hw, hp4]; exact Hm.out.set rfl)
  have HP4 := Lib.hid hp4
  clear hw cf1' cf2 hp4 Hm
  have HFin : Hid (vtE s0 = (s4.1, s4.2 || !decide (1 ≤ x0 ∧ x0 ≤ 4)) ∧ vtP s0 p0 = p4) := Lib.hid (by
    unfold vtE vtS vtP
    have e := HX0.out
    subst e
    have e := HS1.out
    subst e
    have e := HP1.out
    subst e
    have e := HX1.out
    subst e
    have e := HS2.out
    subst e
    have e := HP2.out
    subst e
    have e := HX2.out
    subst e
    have e := HS3.out
    subst e
    have e := HP3.out
    subst e
    have e := HX3.out
    subst e
    have e := HS4.out
    subst e
    have e := HP4.out
    subst e
    exact ⟨rfl, rfl⟩)
  obtain ⟨L4, od4⟩ := s4
  obtain ⟨k1, k2⟩ := H4.out.odd_at
  have hp4 : w4.cell? ⟨pb, 4, none⟩ = some (.int .i64 x0) := (H4.out.at_ 4).1.trans (by rw [HP4.out, HP3.out, HP2.out, HP1.out]; rfl)
  have HV := Lib.hid (wverb_any x0 w4)
  obtain ⟨vb, hvb⟩ : ∃ vb, vb = decide (1 ≤ x0 ∧ x0 ≤ 4) := ⟨_, rfl⟩
  rw [← hvb] at HV HFin
  dsimp only at k1
  clear hvb
  cases od4 with
  | true =>
    go_wp2_with fail
    go_end0
    refine ⟨rfl, ?_⟩
    rw [HFin.out.1, HFin.out.2]
    exact H4.out.odd _
  | false =>
    go_wp2_with fail
    refine HV.out.mono ?_
    rintro e w5 ⟨rfl, rfl⟩
    cases vb with
    | true =>
      go_wp2_with fail
      go_end0
      refine ⟨rfl, ?_⟩
      rw [HFin.out.1, HFin.out.2]
      exact H4.out.odd _
    | false =>
      go_wp2_with fail
      go_end0
      refine ⟨rfl, ?_⟩
      rw [HFin.out.1, HFin.out.2]
      exact H4.out.odd _
end Go.Proofs.YtiinponoeaihcaaGreat
